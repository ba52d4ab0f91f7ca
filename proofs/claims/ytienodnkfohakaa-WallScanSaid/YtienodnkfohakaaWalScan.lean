import Derived.Test.YtienodnkfohakaaWalJ
namespace Go.Proofs.Ytienodnkfohakaa
set_option linter.unusedVariables false
set_option linter.unusedSimpArgs false
attribute [local go_sem] rho_const rho_func rho_hit rho_miss
open Go.RowKit
attribute [local go_sem] min2_mn min_two' max2_mx max_two' u16_and31
set_option maxRecDepth 100000 in
set_option maxHeartbeats 8000000 in
theorem wallScan_any (c : Int) {w : World} {A0 : Option Addr} {n0 cq0 : Nat} {l0 : List St} (h1 : SeesR w (fun k => k < w.heap.size) 6 (fun (y : St) cs => cs = y.cs ∧ y.ok w) (.slice A0 n0 cq0) l0) (it0 : Int) :
    Calls Try.prog 6 #[.int .i64 c, .slice A0 n0 cq0, .int .u16 it0] w fun e w' => e = .returned (.bool true) ∧ Keep none_ w w' := by
  obtain ⟨rfl, b1, b1'⟩ := h1.form
  obtain ⟨n, hn, hn1, hn16⟩ := newC c
  have HX := Lib.hid (Has.nil (Keep.refl none_ w))
  have H1 := Lib.hid h1
  clear h1
  obtain ⟨it, hit⟩ : ∃ it, it0 % 32 = it := ⟨_, rfl⟩
  refine d_calls (n := 170) Try.func6 rfl rfl (by simp) [(0, .int .i64 c), (1, .slice A0 l0.length cq0), (2, .int .u16 it0)] (by simp) ?_
  repeat first
    | apply d_seq
    | with_reducible apply kt_normal
    | apply l_nil
    | apply d_region
    | (apply l_off; (focus rfl); (focus rfl))
    | (apply l_val; (focus rfl); (focus rfl); (focus rfl); (focus (go_simp; (try simp (disch := omega) only [wrap_in, wrap_in', wrap_u16, wrap_u8, wrap_u32, wrap_u64, rem_in, quo_in]); first | done | with_reducible rfl | (constructor <;> with_reducible rfl))))
    | (apply l_store; (focus rfl); (focus rfl); (focus rfl); (focus (go_simp; (try simp (disch := omega) only [wrap_in, wrap_in', wrap_u16, wrap_u8, wrap_u32, wrap_u64, rem_in, quo_in]); first | done | with_reducible rfl | (constructor <;> with_reducible rfl))))
    | apply d_block
    | (apply d_true; (focus rfl); (focus rfl))
    | (apply d_false; (focus rfl); (focus rfl))
    | apply d_skip
    | apply d_exit
    | apply d_ret
    | with_reducible apply kt_ret
    | with_reducible apply kt_exit
    | with_reducible apply kb_normal
    | with_reducible apply kb_ret
    | with_reducible apply kb_here
    | with_reducible apply kl_ret
    | with_reducible apply kl_exit
    | with_reducible apply kc_ret
    | with_reducible apply kc_exit
    | (with_reducible apply kb_there; (focus rfl))
  refine l_call rfl rfl rfl (by first | (go_simp; done) | (go_simp; rfl)) (shown_has HX.out) ?_
  rintro e w' ⟨rfl, hx⟩
  clear HX
  try simp only [List.nil_append, List.cons_append, List.set_cons_zero, List.set_cons_succ] at hx
  have HX := Lib.hid hx
  clear hx
  refine ⟨_, rfl, ?_⟩
  repeat first
    | apply d_seq
    | with_reducible apply kt_normal
    | apply l_nil
    | apply d_region
    | (apply l_off; (focus rfl); (focus rfl))
    | (apply l_val; (focus rfl); (focus rfl); (focus rfl); (focus (go_simp; (try simp (disch := omega) only [wrap_in, wrap_in', wrap_u16, wrap_u8, wrap_u32, wrap_u64, rem_in, quo_in]); first | done | with_reducible rfl | (constructor <;> with_reducible rfl))))
    | (apply l_store; (focus rfl); (focus rfl); (focus rfl); (focus (go_simp; (try simp (disch := omega) only [wrap_in, wrap_in', wrap_u16, wrap_u8, wrap_u32, wrap_u64, rem_in, quo_in]); first | done | with_reducible rfl | (constructor <;> with_reducible rfl))))
    | apply d_block
    | (apply d_true; (focus rfl); (focus rfl))
    | (apply d_false; (focus rfl); (focus rfl))
    | apply d_skip
    | apply d_exit
    | apply d_ret
    | with_reducible apply kt_ret
    | with_reducible apply kt_exit
    | with_reducible apply kb_normal
    | with_reducible apply kb_ret
    | with_reducible apply kb_here
    | with_reducible apply kl_ret
    | with_reducible apply kl_exit
    | with_reducible apply kc_ret
    | with_reducible apply kc_exit
    | (with_reducible apply kb_there; (focus rfl))
  refine l_call rfl rfl rfl (by first | (go_simp; done) | (go_simp; rfl)) (new_has HX.out c n hn hn1 hn16) ?_
  rintro e w1 ⟨p, g, rfl, hx⟩
  clear HX
  try simp only [List.nil_append, List.cons_append, List.set_cons_zero, List.set_cons_succ] at hx
  have HX := Lib.hid hx
  clear hx
  refine ⟨_, rfl, ?_⟩
  repeat first
    | apply d_seq
    | with_reducible apply kt_normal
    | apply l_nil
    | apply d_region
    | (apply l_off; (focus rfl); (focus rfl))
    | (apply l_val; (focus rfl); (focus rfl); (focus rfl); (focus (go_simp; (try simp (disch := omega) only [wrap_in, wrap_in', wrap_u16, wrap_u8, wrap_u32, wrap_u64, rem_in, quo_in]); first | done | with_reducible rfl | (constructor <;> with_reducible rfl))))
    | (apply l_store; (focus rfl); (focus rfl); (focus rfl); (focus (go_simp; (try simp (disch := omega) only [wrap_in, wrap_in', wrap_u16, wrap_u8, wrap_u32, wrap_u64, rem_in, quo_in]); first | done | with_reducible rfl | (constructor <;> with_reducible rfl))))
    | ((fail_if_success (with_reducible apply d_block (id := 0))); apply d_block)
    | (apply d_true; (focus rfl); (focus rfl))
    | (apply d_false; (focus rfl); (focus rfl))
    | apply d_skip
    | apply d_exit
    | apply d_ret
    | with_reducible apply kt_ret
    | with_reducible apply kt_exit
    | with_reducible apply kb_normal
    | with_reducible apply kb_ret
    | with_reducible apply kb_here
    | with_reducible apply kl_ret
    | with_reducible apply kl_exit
    | with_reducible apply kc_ret
    | with_reducible apply kc_exit
    | (with_reducible apply kb_there; (focus rfl))
  clear hit
  refine d_join (fun D wr => ∃ (s : WS), D = [(2, .int .u16 it), (7, .bool true), (8, .pointer (some ⟨p, 0, none⟩))] ∧ Hid (Has w wr [WA w.heap.size p g s])) ?_ (fun D wr hcut => ?_)
  · repeat first
      | apply d_seq
      | with_reducible apply kt_normal
      | apply l_nil
      | apply d_region
      | (apply l_off; (focus rfl); (focus rfl))
      | (apply l_val; (focus rfl); (focus rfl); (focus rfl); (focus (go_simp; (try simp (disch := omega) only [wrap_in, wrap_in', wrap_u16, wrap_u8, wrap_u32, wrap_u64, rem_in, quo_in]); first | done | with_reducible rfl | (constructor <;> with_reducible rfl))))
      | (apply l_store; (focus rfl); (focus rfl); (focus rfl); (focus (go_simp; (try simp (disch := omega) only [wrap_in, wrap_in', wrap_u16, wrap_u8, wrap_u32, wrap_u64, rem_in, quo_in]); first | done | with_reducible rfl | (constructor <;> with_reducible rfl))))
      | apply d_block
      | (apply d_true; (focus rfl); (focus rfl))
      | (apply d_false; (focus rfl); (focus rfl))
      | apply d_skip
      | apply d_exit
      | apply d_ret
      | with_reducible apply kt_ret
      | with_reducible apply kt_exit
      | with_reducible apply kb_normal
      | with_reducible apply kb_ret
      | with_reducible apply kb_here
      | with_reducible apply kl_ret
      | with_reducible apply kl_exit
      | with_reducible apply kc_ret
      | with_reducible apply kc_exit
      | (with_reducible apply kb_there; (focus rfl))
    refine d_loop (fun m D wr => ∃ (k : Nat) (s : WS), m = l0.length - k ∧ k ≤ l0.length ∧ D = [(1, .slice A0 l0.length cq0), (2, .int .u16 it), (7, .bool true), (8, .pointer (some ⟨p, 0, none⟩)), (9, .int .i64 k)] ∧ Hid (Has w wr [WA w.heap.size p g s])) (l0.length) _ (Subl.cons (t := 1) (by decide) rfl (Subl.cons (t := 2) (by decide) rfl (Subl.cons (t := 7) (by decide) rfl (Subl.cons (t := 8) (by decide) rfl (Subl.cons (t := 9) (by decide) rfl (Subl.nil _ _)))))) ?_ (fun m D wr hrel => ?_)
    · exact ⟨0, _, rfl, Nat.zero_le _, rfl, HX⟩
    · clear HX hn
      obtain ⟨k, s, rfl, hk, rfl, HX⟩ := hrel
      by_cases hlt : k < l0.length
      · by_cases h100 : (k : Int) < 100
        · obtain ⟨y, hy⟩ : ∃ y, l0[k]? = some y := ⟨_, List.getElem?_eq_getElem hlt⟩
          obtain ⟨g1, o1, cp1, e1, -, -, hq1, hq2, hyk, c0, c1, c2, c3, c4, c5⟩ := sees_Steps H1.out hy
          simp only [Value.slice.injEq, true_and] at e1
          obtain ⟨rfl, rfl⟩ := e1
          obtain ⟨A5, d5, hyv, hb51, hb52, -⟩ := hyk.l.form
          have hos := hyk.l
          rw [hyv] at c5 hos
          have hsq := smL_qty hyk.l_ok
          have hyid := hyk.id
          have C0 := Lib.hid c0
          have C1 := Lib.hid c1
          have C2 := Lib.hid c2
          have C3 := Lib.hid c3
          have C4 := Lib.hid c4
          have C5 := Lib.hid c5
          have HOS := Lib.hid hos
          have HSQ := Lib.hid hsq
          clear c0 c1 c2 c3 c4 c5 hos hsq
          clear hy hyv hyk
          try clear c0
          have c0 := HX.out.cell0 C0.out
          try clear c1
          have c1 := HX.out.cell0 C1.out
          try clear c2
          have c2 := HX.out.cell0 C2.out
          try clear c3
          have c3 := HX.out.cell0 C3.out
          try clear c4
          have c4 := HX.out.cell0 C4.out
          try clear c5
          have c5 := HX.out.cell0 C5.out
          have hx := HX.out.box #[.int .i64 y.kind, .int .i64 y.cubby, .int .i64 y.qty, .int .u32 y.id, .int .u16 y.item, .slice A5 y.l.length d5] 37
          simp only [List.nil_append, List.cons_append] at hx
          obtain ⟨x0, x1, x2, x3, x4, x5, -⟩ := blk6 (hx.blk (i := 1) rfl)
          clear HX
          have HX := Lib.hid hx
          clear hx
          repeat first
            | apply d_seq
            | with_reducible apply kt_normal
            | apply l_nil
            | apply d_region
            | (apply l_off; (focus rfl); (focus rfl))
            | (apply l_val; (focus rfl); (focus rfl); (focus rfl); (focus (go_simp; (try simp (disch := omega) only [wrap_in, wrap_in', wrap_u16, wrap_u8, wrap_u32, wrap_u64, rem_in, quo_in]); first | done | with_reducible rfl | (constructor <;> with_reducible rfl))))
            | (apply l_store; (focus rfl); (focus rfl); (focus rfl); (focus (go_simp; (try simp (disch := omega) only [wrap_in, wrap_in', wrap_u16, wrap_u8, wrap_u32, wrap_u64, rem_in, quo_in]); first | done | with_reducible rfl | (constructor <;> with_reducible rfl))))
            | ((fail_if_success (with_reducible apply d_block (id := 2))); apply d_block)
            | (apply d_true; (focus rfl); (focus rfl))
            | (apply d_false; (focus rfl); (focus rfl))
            | apply d_skip
            | apply d_exit
            | apply d_ret
            | with_reducible apply kt_ret
            | with_reducible apply kt_exit
            | with_reducible apply kb_normal
            | with_reducible apply kb_ret
            | with_reducible apply kb_here
            | with_reducible apply kl_ret
            | with_reducible apply kl_exit
            | with_reducible apply kc_ret
            | with_reducible apply kc_exit
            | (with_reducible apply kb_there; (focus rfl))
          clear c0 c1 c2 c3 c4 c5 C0 C1 C2 C3 C4 C5
          generalize wr.alloc (.cells #[.int .i64 y.kind, .int .i64 y.cubby, .int .i64 y.qty, .int .u32 y.id, .int .u16 y.item, .slice A5 y.l.length d5] 37) = wy at *
          generalize wr.heap.size = xb at *
          rcases (by omega : y.kind = 0 ∨ y.kind = 1 ∨ y.kind = 2 ∨ y.kind = 3 ∨ y.kind = 4 ∨ y.kind = 5 ∨ y.kind = 6 ∨ (y.kind ≠ 0 ∧ y.kind ≠ 1 ∧ y.kind ≠ 2 ∧ y.kind ≠ 3 ∧ y.kind ≠ 4 ∧ y.kind ≠ 5 ∧ y.kind ≠ 6)) with e1 | e1 | e1 | e1 | e1 | e1 | e1 | e1
          · rw [e1] at x0
            obtain ⟨s2, m2, e2, hA⟩ : ∃ s2 m2 e2, s.assign y.id (smL y.l) = (s2, m2, e2) := ⟨_, _, _, rfl⟩
            have HA := Lib.hid hA
            clear hA
            have hx := HX.out.drew
            clear HX
            have HX := Lib.hid hx
            clear hx
            repeat first
              | apply d_seq
              | with_reducible apply kt_normal
              | apply l_nil
              | apply d_region
              | (apply l_off; (focus rfl); (focus rfl))
              | (apply l_val; (focus rfl); (focus rfl); (focus rfl); (focus (go_simp; (try simp (disch := omega) only [wrap_in, wrap_in', wrap_u16, wrap_u8, wrap_u32, wrap_u64, rem_in, quo_in]); first | done | with_reducible rfl | (constructor <;> with_reducible rfl))))
              | (apply l_store; (focus rfl); (focus rfl); (focus rfl); (focus (go_simp; (try simp (disch := omega) only [wrap_in, wrap_in', wrap_u16, wrap_u8, wrap_u32, wrap_u64, rem_in, quo_in]); first | done | with_reducible rfl | (constructor <;> with_reducible rfl))))
              | apply d_block
              | (apply d_true; (focus rfl); (focus rfl))
              | (apply d_false; (focus rfl); (focus rfl))
              | apply d_skip
              | apply d_exit
              | apply d_ret
              | with_reducible apply kt_ret
              | with_reducible apply kt_exit
              | with_reducible apply kb_normal
              | with_reducible apply kb_ret
              | with_reducible apply kb_here
              | with_reducible apply kl_ret
              | with_reducible apply kl_exit
              | with_reducible apply kc_ret
              | with_reducible apply kc_exit
              | (with_reducible apply kb_there; (focus rfl))
            refine d_draw (true, [([], []), ([], []), ([1], [1]), ([], []), ([3], [3]), ([4], [4]), ([0, 2, 5, 5], [0, 2, 5])]) [(0, 0), (0, 1), (0, 2), (0, 3), (0, 4), (1, 5), (1, 6)] [999999] (fun W => W.cell? ⟨xb, 3, none⟩ = some (.int .u32 y.id) ∧ W.cell? ⟨xb, 5, none⟩ = some (.slice A5 y.l.length d5)) (by kernel_rfl) (by kernel_rfl) (by kernel_rfl) (by kernel_rfl) ⟨x3, x5⟩ ?_
            iterate 5
              first | (apply s_off; (focus rfl); (focus rfl); (focus rfl)) | (apply s_yield; (focus rfl); (focus rfl); (focus rfl); (focus rfl); (focus (intro W hS; obtain ⟨hS1, hS2⟩ := hS; go_simp; (try simp (disch := omega) only [wrap_in, wrap_in', wrap_u16, wrap_u8, wrap_u32, wrap_u64, rem_in, quo_in]); first | done | with_reducible rfl | (constructor <;> with_reducible rfl))))
            refine s_call rfl rfl rfl rfl (by first | (go_simp; done) | (go_simp; rfl)) (small_has HX.out y.l A5 _ d5 rfl HOS.out) ?_
            rintro e w7 ⟨B7, d7, rfl, hb71, hb72, hx⟩
            simp only [List.nil_append, List.cons_append] at hx
            obtain ⟨z0, z1, z2, z3, z4, z5, -⟩ := blk6 (hx.blk (i := 1) rfl)
            clear HX x0 x1 x2 x3 x4 x5
            have HX := Lib.hid hx
            clear hx z0 z1 z2 z4
            refine ⟨_, rfl, ⟨z3, z5⟩, ?_⟩
            have hc := assign_own HX.out 0 2 p g s rfl y.id (smL y.l) B7 _ d7 rfl rfl (Nat.le_trans (smL_len y.l) (by omega)) HSQ.out
            rw [HA.out] at hc
            dsimp only at hc
            have HC := Lib.hid hc
            clear hc
            refine s_call rfl rfl rfl rfl (by first | (go_simp; done) | (go_simp; rfl)) (HC.out) ?_
            rintro e w8 ⟨rfl, hx⟩
            simp only [List.set_cons_zero, List.set_cons_succ] at hx
            obtain ⟨z0, z1, z2, z3, z4, z5, -⟩ := blk6 (hx.blk (i := 1) rfl)
            clear HX HC
            have HX := Lib.hid hx
            clear hx z0 z1 z2 z4
            refine ⟨_, rfl, ⟨z3, z5⟩, ?_⟩
            refine s_done ?_
            clear z3 z5
            have hx := HX.out.take 1
            simp only [List.take_succ_cons, List.take_zero] at hx
            clear HX
            have HX := Lib.hid hx
            clear hx
            repeat first
              | apply d_seq
              | with_reducible apply kt_normal
              | apply l_nil
              | apply d_region
              | (apply l_off; (focus rfl); (focus rfl))
              | (apply l_val; (focus rfl); (focus rfl); (focus rfl); (focus (go_simp; (try simp (disch := omega) only [wrap_in, wrap_in', wrap_u16, wrap_u8, wrap_u32, wrap_u64, rem_in, quo_in]); first | done | with_reducible rfl | (constructor <;> with_reducible rfl))))
              | (apply l_store; (focus rfl); (focus rfl); (focus rfl); (focus (go_simp; (try simp (disch := omega) only [wrap_in, wrap_in', wrap_u16, wrap_u8, wrap_u32, wrap_u64, rem_in, quo_in]); first | done | with_reducible rfl | (constructor <;> with_reducible rfl))))
              | apply d_block
              | (apply d_true; (focus rfl); (focus rfl))
              | (apply d_false; (focus rfl); (focus rfl))
              | apply d_skip
              | apply d_exit
              | apply d_ret
              | with_reducible apply kt_ret
              | with_reducible apply kt_exit
              | with_reducible apply kb_normal
              | with_reducible apply kb_ret
              | with_reducible apply kb_here
              | with_reducible apply kl_ret
              | with_reducible apply kl_exit
              | with_reducible apply kc_ret
              | with_reducible apply kc_exit
              | (with_reducible apply kb_there; (focus rfl))
            refine kl_normal (l0.length - (k + 1)) _ (by omega) (Subl.cons (t := 1) (by decide) rfl (Subl.cons (t := 2) (by decide) rfl (Subl.cons (t := 7) (by decide) rfl (Subl.cons (t := 8) (by decide) rfl (Subl.cons (t := 9) (by decide) rfl (Subl.nil _ _)))))) ?_
            exact ⟨k + 1, _, rfl, by omega, rfl, Lib.hid (HX.out.take 1)⟩
          · rw [e1] at x0
            obtain ⟨s2, m2, e2, hA⟩ : ∃ s2 m2 e2, s.assign y.id (smL y.l) = (s2, m2, e2) := ⟨_, _, _, rfl⟩
            have HA := Lib.hid hA
            clear hA
            have hx := HX.out.drew
            clear HX
            have HX := Lib.hid hx
            clear hx
            repeat first
              | apply d_seq
              | with_reducible apply kt_normal
              | apply l_nil
              | apply d_region
              | (apply l_off; (focus rfl); (focus rfl))
              | (apply l_val; (focus rfl); (focus rfl); (focus rfl); (focus (go_simp; (try simp (disch := omega) only [wrap_in, wrap_in', wrap_u16, wrap_u8, wrap_u32, wrap_u64, rem_in, quo_in]); first | done | with_reducible rfl | (constructor <;> with_reducible rfl))))
              | (apply l_store; (focus rfl); (focus rfl); (focus rfl); (focus (go_simp; (try simp (disch := omega) only [wrap_in, wrap_in', wrap_u16, wrap_u8, wrap_u32, wrap_u64, rem_in, quo_in]); first | done | with_reducible rfl | (constructor <;> with_reducible rfl))))
              | apply d_block
              | (apply d_true; (focus rfl); (focus rfl))
              | (apply d_false; (focus rfl); (focus rfl))
              | apply d_skip
              | apply d_exit
              | apply d_ret
              | with_reducible apply kt_ret
              | with_reducible apply kt_exit
              | with_reducible apply kb_normal
              | with_reducible apply kb_ret
              | with_reducible apply kb_here
              | with_reducible apply kl_ret
              | with_reducible apply kl_exit
              | with_reducible apply kc_ret
              | with_reducible apply kc_exit
              | (with_reducible apply kb_there; (focus rfl))
            refine d_draw (true, [([], []), ([], []), ([1], [1]), ([], []), ([3], [3]), ([4], [4]), ([0, 2, 5, 5], [0, 2, 5])]) [(0, 0), (0, 1), (0, 2), (0, 3), (0, 4), (1, 5), (1, 6)] [999999] (fun W => W.cell? ⟨xb, 3, none⟩ = some (.int .u32 y.id) ∧ W.cell? ⟨xb, 5, none⟩ = some (.slice A5 y.l.length d5)) (by kernel_rfl) (by kernel_rfl) (by kernel_rfl) (by kernel_rfl) ⟨x3, x5⟩ ?_
            iterate 5
              first | (apply s_off; (focus rfl); (focus rfl); (focus rfl)) | (apply s_yield; (focus rfl); (focus rfl); (focus rfl); (focus rfl); (focus (intro W hS; obtain ⟨hS1, hS2⟩ := hS; go_simp; (try simp (disch := omega) only [wrap_in, wrap_in', wrap_u16, wrap_u8, wrap_u32, wrap_u64, rem_in, quo_in]); first | done | with_reducible rfl | (constructor <;> with_reducible rfl))))
            refine s_call rfl rfl rfl rfl (by first | (go_simp; done) | (go_simp; rfl)) (small_has HX.out y.l A5 _ d5 rfl HOS.out) ?_
            rintro e w7 ⟨B7, d7, rfl, hb71, hb72, hx⟩
            simp only [List.nil_append, List.cons_append] at hx
            obtain ⟨z0, z1, z2, z3, z4, z5, -⟩ := blk6 (hx.blk (i := 1) rfl)
            clear HX x0 x1 x2 x3 x4 x5
            have HX := Lib.hid hx
            clear hx z0 z1 z2 z4
            refine ⟨_, rfl, ⟨z3, z5⟩, ?_⟩
            have hc := assign_own HX.out 0 2 p g s rfl y.id (smL y.l) B7 _ d7 rfl rfl (Nat.le_trans (smL_len y.l) (by omega)) HSQ.out
            rw [HA.out] at hc
            dsimp only at hc
            have HC := Lib.hid hc
            clear hc
            refine s_call rfl rfl rfl rfl (by first | (go_simp; done) | (go_simp; rfl)) (HC.out) ?_
            rintro e w8 ⟨rfl, hx⟩
            simp only [List.set_cons_zero, List.set_cons_succ] at hx
            obtain ⟨z0, z1, z2, z3, z4, z5, -⟩ := blk6 (hx.blk (i := 1) rfl)
            clear HX HC
            have HX := Lib.hid hx
            clear hx z0 z1 z2 z4
            refine ⟨_, rfl, ⟨z3, z5⟩, ?_⟩
            refine s_done ?_
            clear z3 z5
            have hx := HX.out.take 1
            simp only [List.take_succ_cons, List.take_zero] at hx
            clear HX
            have HX := Lib.hid hx
            clear hx
            repeat first
              | apply d_seq
              | with_reducible apply kt_normal
              | apply l_nil
              | apply d_region
              | (apply l_off; (focus rfl); (focus rfl))
              | (apply l_val; (focus rfl); (focus rfl); (focus rfl); (focus (go_simp; (try simp (disch := omega) only [wrap_in, wrap_in', wrap_u16, wrap_u8, wrap_u32, wrap_u64, rem_in, quo_in]); first | done | with_reducible rfl | (constructor <;> with_reducible rfl))))
              | (apply l_store; (focus rfl); (focus rfl); (focus rfl); (focus (go_simp; (try simp (disch := omega) only [wrap_in, wrap_in', wrap_u16, wrap_u8, wrap_u32, wrap_u64, rem_in, quo_in]); first | done | with_reducible rfl | (constructor <;> with_reducible rfl))))
              | apply d_block
              | (apply d_true; (focus rfl); (focus rfl))
              | (apply d_false; (focus rfl); (focus rfl))
              | apply d_skip
              | apply d_exit
              | apply d_ret
              | with_reducible apply kt_ret
              | with_reducible apply kt_exit
              | with_reducible apply kb_normal
              | with_reducible apply kb_ret
              | with_reducible apply kb_here
              | with_reducible apply kl_ret
              | with_reducible apply kl_exit
              | with_reducible apply kc_ret
              | with_reducible apply kc_exit
              | (with_reducible apply kb_there; (focus rfl))
            refine kl_normal (l0.length - (k + 1)) _ (by omega) (Subl.cons (t := 1) (by decide) rfl (Subl.cons (t := 2) (by decide) rfl (Subl.cons (t := 7) (by decide) rfl (Subl.cons (t := 8) (by decide) rfl (Subl.cons (t := 9) (by decide) rfl (Subl.nil _ _)))))) ?_
            exact ⟨k + 1, _, rfl, by omega, rfl, Lib.hid (HX.out.take 1)⟩
          · rw [e1] at x0
            repeat first
              | apply d_seq
              | with_reducible apply kt_normal
              | apply l_nil
              | apply d_region
              | (apply l_off; (focus rfl); (focus rfl))
              | (apply l_val; (focus rfl); (focus rfl); (focus rfl); (focus (go_simp; (try simp (disch := omega) only [wrap_in, wrap_in', wrap_u16, wrap_u8, wrap_u32, wrap_u64, rem_in, quo_in]); first | done | with_reducible rfl | (constructor <;> with_reducible rfl))))
              | (apply l_store; (focus rfl); (focus rfl); (focus rfl); (focus (go_simp; (try simp (disch := omega) only [wrap_in, wrap_in', wrap_u16, wrap_u8, wrap_u32, wrap_u64, rem_in, quo_in]); first | done | with_reducible rfl | (constructor <;> with_reducible rfl))))
              | apply d_block
              | (apply d_true; (focus rfl); (focus rfl))
              | (apply d_false; (focus rfl); (focus rfl))
              | apply d_skip
              | apply d_exit
              | apply d_ret
              | with_reducible apply kt_ret
              | with_reducible apply kt_exit
              | with_reducible apply kb_normal
              | with_reducible apply kb_ret
              | with_reducible apply kb_here
              | with_reducible apply kl_ret
              | with_reducible apply kl_exit
              | with_reducible apply kc_ret
              | with_reducible apply kc_exit
              | (with_reducible apply kb_there; (focus rfl))
            refine l_call rfl rfl rfl (by first | (go_simp; done) | (go_simp; rfl)) (put_has HX.out 0 p g s rfl y.cubby (y.item % 32) y.qty) ?_
            rintro e w' ⟨rfl, hx⟩
            clear HX
            try simp only [List.nil_append, List.cons_append, List.set_cons_zero, List.set_cons_succ] at hx
            have HX := Lib.hid hx
            clear hx
            refine ⟨_, rfl, ?_⟩
            repeat first
              | apply d_seq
              | with_reducible apply kt_normal
              | apply l_nil
              | apply d_region
              | (apply l_off; (focus rfl); (focus rfl))
              | (apply l_val; (focus rfl); (focus rfl); (focus rfl); (focus (go_simp; (try simp (disch := omega) only [wrap_in, wrap_in', wrap_u16, wrap_u8, wrap_u32, wrap_u64, rem_in, quo_in]); first | done | with_reducible rfl | (constructor <;> with_reducible rfl))))
              | (apply l_store; (focus rfl); (focus rfl); (focus rfl); (focus (go_simp; (try simp (disch := omega) only [wrap_in, wrap_in', wrap_u16, wrap_u8, wrap_u32, wrap_u64, rem_in, quo_in]); first | done | with_reducible rfl | (constructor <;> with_reducible rfl))))
              | apply d_block
              | (apply d_true; (focus rfl); (focus rfl))
              | (apply d_false; (focus rfl); (focus rfl))
              | apply d_skip
              | apply d_exit
              | apply d_ret
              | with_reducible apply kt_ret
              | with_reducible apply kt_exit
              | with_reducible apply kb_normal
              | with_reducible apply kb_ret
              | with_reducible apply kb_here
              | with_reducible apply kl_ret
              | with_reducible apply kl_exit
              | with_reducible apply kc_ret
              | with_reducible apply kc_exit
              | (with_reducible apply kb_there; (focus rfl))
            refine kl_normal (l0.length - (k + 1)) _ (by omega) (Subl.cons (t := 1) (by decide) rfl (Subl.cons (t := 2) (by decide) rfl (Subl.cons (t := 7) (by decide) rfl (Subl.cons (t := 8) (by decide) rfl (Subl.cons (t := 9) (by decide) rfl (Subl.nil _ _)))))) ?_
            exact ⟨k + 1, _, rfl, by omega, rfl, Lib.hid (HX.out.take 1)⟩
          · rw [e1] at x0
            repeat first
              | apply d_seq
              | with_reducible apply kt_normal
              | apply l_nil
              | apply d_region
              | (apply l_off; (focus rfl); (focus rfl))
              | (apply l_val; (focus rfl); (focus rfl); (focus rfl); (focus (go_simp; (try simp (disch := omega) only [wrap_in, wrap_in', wrap_u16, wrap_u8, wrap_u32, wrap_u64, rem_in, quo_in]); first | done | with_reducible rfl | (constructor <;> with_reducible rfl))))
              | (apply l_store; (focus rfl); (focus rfl); (focus rfl); (focus (go_simp; (try simp (disch := omega) only [wrap_in, wrap_in', wrap_u16, wrap_u8, wrap_u32, wrap_u64, rem_in, quo_in]); first | done | with_reducible rfl | (constructor <;> with_reducible rfl))))
              | apply d_block
              | (apply d_true; (focus rfl); (focus rfl))
              | (apply d_false; (focus rfl); (focus rfl))
              | apply d_skip
              | apply d_exit
              | apply d_ret
              | with_reducible apply kt_ret
              | with_reducible apply kt_exit
              | with_reducible apply kb_normal
              | with_reducible apply kb_ret
              | with_reducible apply kb_here
              | with_reducible apply kl_ret
              | with_reducible apply kl_exit
              | with_reducible apply kc_ret
              | with_reducible apply kc_exit
              | (with_reducible apply kb_there; (focus rfl))
            refine l_call rfl rfl rfl (by first | (go_simp; done) | (go_simp; rfl)) (put_has HX.out 0 p g s rfl y.cubby (y.item % 32) y.qty) ?_
            rintro e w' ⟨rfl, hx⟩
            clear HX
            try simp only [List.nil_append, List.cons_append, List.set_cons_zero, List.set_cons_succ] at hx
            have HX := Lib.hid hx
            clear hx
            refine ⟨_, rfl, ?_⟩
            repeat first
              | apply d_seq
              | with_reducible apply kt_normal
              | apply l_nil
              | apply d_region
              | (apply l_off; (focus rfl); (focus rfl))
              | (apply l_val; (focus rfl); (focus rfl); (focus rfl); (focus (go_simp; (try simp (disch := omega) only [wrap_in, wrap_in', wrap_u16, wrap_u8, wrap_u32, wrap_u64, rem_in, quo_in]); first | done | with_reducible rfl | (constructor <;> with_reducible rfl))))
              | (apply l_store; (focus rfl); (focus rfl); (focus rfl); (focus (go_simp; (try simp (disch := omega) only [wrap_in, wrap_in', wrap_u16, wrap_u8, wrap_u32, wrap_u64, rem_in, quo_in]); first | done | with_reducible rfl | (constructor <;> with_reducible rfl))))
              | apply d_block
              | (apply d_true; (focus rfl); (focus rfl))
              | (apply d_false; (focus rfl); (focus rfl))
              | apply d_skip
              | apply d_exit
              | apply d_ret
              | with_reducible apply kt_ret
              | with_reducible apply kt_exit
              | with_reducible apply kb_normal
              | with_reducible apply kb_ret
              | with_reducible apply kb_here
              | with_reducible apply kl_ret
              | with_reducible apply kl_exit
              | with_reducible apply kc_ret
              | with_reducible apply kc_exit
              | (with_reducible apply kb_there; (focus rfl))
            refine kl_normal (l0.length - (k + 1)) _ (by omega) (Subl.cons (t := 1) (by decide) rfl (Subl.cons (t := 2) (by decide) rfl (Subl.cons (t := 7) (by decide) rfl (Subl.cons (t := 8) (by decide) rfl (Subl.cons (t := 9) (by decide) rfl (Subl.nil _ _)))))) ?_
            exact ⟨k + 1, _, rfl, by omega, rfl, Lib.hid (HX.out.take 1)⟩
          · rw [e1] at x0
            repeat first
              | apply d_seq
              | with_reducible apply kt_normal
              | apply l_nil
              | apply d_region
              | (apply l_off; (focus rfl); (focus rfl))
              | (apply l_val; (focus rfl); (focus rfl); (focus rfl); (focus (go_simp; (try simp (disch := omega) only [wrap_in, wrap_in', wrap_u16, wrap_u8, wrap_u32, wrap_u64, rem_in, quo_in]); first | done | with_reducible rfl | (constructor <;> with_reducible rfl))))
              | (apply l_store; (focus rfl); (focus rfl); (focus rfl); (focus (go_simp; (try simp (disch := omega) only [wrap_in, wrap_in', wrap_u16, wrap_u8, wrap_u32, wrap_u64, rem_in, quo_in]); first | done | with_reducible rfl | (constructor <;> with_reducible rfl))))
              | apply d_block
              | (apply d_true; (focus rfl); (focus rfl))
              | (apply d_false; (focus rfl); (focus rfl))
              | apply d_skip
              | apply d_exit
              | apply d_ret
              | with_reducible apply kt_ret
              | with_reducible apply kt_exit
              | with_reducible apply kb_normal
              | with_reducible apply kb_ret
              | with_reducible apply kb_here
              | with_reducible apply kl_ret
              | with_reducible apply kl_exit
              | with_reducible apply kc_ret
              | with_reducible apply kc_exit
              | (with_reducible apply kb_there; (focus rfl))
            refine l_call rfl rfl rfl (by first | (go_simp; done) | (go_simp; rfl)) (put_has HX.out 0 p g s rfl y.cubby (y.item % 32) y.qty) ?_
            rintro e w' ⟨rfl, hx⟩
            clear HX
            try simp only [List.nil_append, List.cons_append, List.set_cons_zero, List.set_cons_succ] at hx
            have HX := Lib.hid hx
            clear hx
            refine ⟨_, rfl, ?_⟩
            repeat first
              | apply d_seq
              | with_reducible apply kt_normal
              | apply l_nil
              | apply d_region
              | (apply l_off; (focus rfl); (focus rfl))
              | (apply l_val; (focus rfl); (focus rfl); (focus rfl); (focus (go_simp; (try simp (disch := omega) only [wrap_in, wrap_in', wrap_u16, wrap_u8, wrap_u32, wrap_u64, rem_in, quo_in]); first | done | with_reducible rfl | (constructor <;> with_reducible rfl))))
              | (apply l_store; (focus rfl); (focus rfl); (focus rfl); (focus (go_simp; (try simp (disch := omega) only [wrap_in, wrap_in', wrap_u16, wrap_u8, wrap_u32, wrap_u64, rem_in, quo_in]); first | done | with_reducible rfl | (constructor <;> with_reducible rfl))))
              | apply d_block
              | (apply d_true; (focus rfl); (focus rfl))
              | (apply d_false; (focus rfl); (focus rfl))
              | apply d_skip
              | apply d_exit
              | apply d_ret
              | with_reducible apply kt_ret
              | with_reducible apply kt_exit
              | with_reducible apply kb_normal
              | with_reducible apply kb_ret
              | with_reducible apply kb_here
              | with_reducible apply kl_ret
              | with_reducible apply kl_exit
              | with_reducible apply kc_ret
              | with_reducible apply kc_exit
              | (with_reducible apply kb_there; (focus rfl))
            refine kl_normal (l0.length - (k + 1)) _ (by omega) (Subl.cons (t := 1) (by decide) rfl (Subl.cons (t := 2) (by decide) rfl (Subl.cons (t := 7) (by decide) rfl (Subl.cons (t := 8) (by decide) rfl (Subl.cons (t := 9) (by decide) rfl (Subl.nil _ _)))))) ?_
            exact ⟨k + 1, _, rfl, by omega, rfl, Lib.hid (HX.out.take 1)⟩
          · rw [e1] at x0
            repeat first
              | apply d_seq
              | with_reducible apply kt_normal
              | apply l_nil
              | apply d_region
              | (apply l_off; (focus rfl); (focus rfl))
              | (apply l_val; (focus rfl); (focus rfl); (focus rfl); (focus (go_simp; (try simp (disch := omega) only [wrap_in, wrap_in', wrap_u16, wrap_u8, wrap_u32, wrap_u64, rem_in, quo_in]); first | done | with_reducible rfl | (constructor <;> with_reducible rfl))))
              | (apply l_store; (focus rfl); (focus rfl); (focus rfl); (focus (go_simp; (try simp (disch := omega) only [wrap_in, wrap_in', wrap_u16, wrap_u8, wrap_u32, wrap_u64, rem_in, quo_in]); first | done | with_reducible rfl | (constructor <;> with_reducible rfl))))
              | apply d_block
              | (apply d_true; (focus rfl); (focus rfl))
              | (apply d_false; (focus rfl); (focus rfl))
              | apply d_skip
              | apply d_exit
              | apply d_ret
              | with_reducible apply kt_ret
              | with_reducible apply kt_exit
              | with_reducible apply kb_normal
              | with_reducible apply kb_ret
              | with_reducible apply kb_here
              | with_reducible apply kl_ret
              | with_reducible apply kl_exit
              | with_reducible apply kc_ret
              | with_reducible apply kc_exit
              | (with_reducible apply kb_there; (focus rfl))
            refine l_call rfl rfl rfl (by first | (go_simp; done) | (go_simp; rfl)) (less_has HX.out 0 p g s rfl y.id (y.item % 32) y.qty) ?_
            rintro e w' ⟨rfl, hx⟩
            clear HX
            try simp only [List.nil_append, List.cons_append, List.set_cons_zero, List.set_cons_succ] at hx
            have HX := Lib.hid hx
            clear hx
            refine ⟨_, rfl, ?_⟩
            repeat first
              | apply d_seq
              | with_reducible apply kt_normal
              | apply l_nil
              | apply d_region
              | (apply l_off; (focus rfl); (focus rfl))
              | (apply l_val; (focus rfl); (focus rfl); (focus rfl); (focus (go_simp; (try simp (disch := omega) only [wrap_in, wrap_in', wrap_u16, wrap_u8, wrap_u32, wrap_u64, rem_in, quo_in]); first | done | with_reducible rfl | (constructor <;> with_reducible rfl))))
              | (apply l_store; (focus rfl); (focus rfl); (focus rfl); (focus (go_simp; (try simp (disch := omega) only [wrap_in, wrap_in', wrap_u16, wrap_u8, wrap_u32, wrap_u64, rem_in, quo_in]); first | done | with_reducible rfl | (constructor <;> with_reducible rfl))))
              | apply d_block
              | (apply d_true; (focus rfl); (focus rfl))
              | (apply d_false; (focus rfl); (focus rfl))
              | apply d_skip
              | apply d_exit
              | apply d_ret
              | with_reducible apply kt_ret
              | with_reducible apply kt_exit
              | with_reducible apply kb_normal
              | with_reducible apply kb_ret
              | with_reducible apply kb_here
              | with_reducible apply kl_ret
              | with_reducible apply kl_exit
              | with_reducible apply kc_ret
              | with_reducible apply kc_exit
              | (with_reducible apply kb_there; (focus rfl))
            refine kl_normal (l0.length - (k + 1)) _ (by omega) (Subl.cons (t := 1) (by decide) rfl (Subl.cons (t := 2) (by decide) rfl (Subl.cons (t := 7) (by decide) rfl (Subl.cons (t := 8) (by decide) rfl (Subl.cons (t := 9) (by decide) rfl (Subl.nil _ _)))))) ?_
            exact ⟨k + 1, _, rfl, by omega, rfl, Lib.hid (HX.out.take 1)⟩
          · rw [e1] at x0
            repeat first
              | apply d_seq
              | with_reducible apply kt_normal
              | apply l_nil
              | apply d_region
              | (apply l_off; (focus rfl); (focus rfl))
              | (apply l_val; (focus rfl); (focus rfl); (focus rfl); (focus (go_simp; (try simp (disch := omega) only [wrap_in, wrap_in', wrap_u16, wrap_u8, wrap_u32, wrap_u64, rem_in, quo_in]); first | done | with_reducible rfl | (constructor <;> with_reducible rfl))))
              | (apply l_store; (focus rfl); (focus rfl); (focus rfl); (focus (go_simp; (try simp (disch := omega) only [wrap_in, wrap_in', wrap_u16, wrap_u8, wrap_u32, wrap_u64, rem_in, quo_in]); first | done | with_reducible rfl | (constructor <;> with_reducible rfl))))
              | apply d_block
              | (apply d_true; (focus rfl); (focus rfl))
              | (apply d_false; (focus rfl); (focus rfl))
              | apply d_skip
              | apply d_exit
              | apply d_ret
              | with_reducible apply kt_ret
              | with_reducible apply kt_exit
              | with_reducible apply kb_normal
              | with_reducible apply kb_ret
              | with_reducible apply kb_here
              | with_reducible apply kl_ret
              | with_reducible apply kl_exit
              | with_reducible apply kc_ret
              | with_reducible apply kc_exit
              | (with_reducible apply kb_there; (focus rfl))
            refine l_call rfl rfl rfl (by first | (go_simp; done) | (go_simp; rfl)) (release_has HX.out 0 p g s rfl y.cubby) ?_
            rintro e w' ⟨rfl, hx⟩
            clear HX
            try simp only [List.nil_append, List.cons_append, List.set_cons_zero, List.set_cons_succ] at hx
            have HX := Lib.hid hx
            clear hx
            refine ⟨_, rfl, ?_⟩
            repeat first
              | apply d_seq
              | with_reducible apply kt_normal
              | apply l_nil
              | apply d_region
              | (apply l_off; (focus rfl); (focus rfl))
              | (apply l_val; (focus rfl); (focus rfl); (focus rfl); (focus (go_simp; (try simp (disch := omega) only [wrap_in, wrap_in', wrap_u16, wrap_u8, wrap_u32, wrap_u64, rem_in, quo_in]); first | done | with_reducible rfl | (constructor <;> with_reducible rfl))))
              | (apply l_store; (focus rfl); (focus rfl); (focus rfl); (focus (go_simp; (try simp (disch := omega) only [wrap_in, wrap_in', wrap_u16, wrap_u8, wrap_u32, wrap_u64, rem_in, quo_in]); first | done | with_reducible rfl | (constructor <;> with_reducible rfl))))
              | apply d_block
              | (apply d_true; (focus rfl); (focus rfl))
              | (apply d_false; (focus rfl); (focus rfl))
              | apply d_skip
              | apply d_exit
              | apply d_ret
              | with_reducible apply kt_ret
              | with_reducible apply kt_exit
              | with_reducible apply kb_normal
              | with_reducible apply kb_ret
              | with_reducible apply kb_here
              | with_reducible apply kl_ret
              | with_reducible apply kl_exit
              | with_reducible apply kc_ret
              | with_reducible apply kc_exit
              | (with_reducible apply kb_there; (focus rfl))
            refine kl_normal (l0.length - (k + 1)) _ (by omega) (Subl.cons (t := 1) (by decide) rfl (Subl.cons (t := 2) (by decide) rfl (Subl.cons (t := 7) (by decide) rfl (Subl.cons (t := 8) (by decide) rfl (Subl.cons (t := 9) (by decide) rfl (Subl.nil _ _)))))) ?_
            exact ⟨k + 1, _, rfl, by omega, rfl, Lib.hid (HX.out.take 1)⟩
          · obtain ⟨d0, d1, d2, d3, d4, d5, d6⟩ := e1
            have q0 : (y.kind == 0) = false := by simpa using d0
            have q1 : (y.kind == 1) = false := by simpa using d1
            have q2 : (y.kind == 2) = false := by simpa using d2
            have q3 : (y.kind == 3) = false := by simpa using d3
            have q4 : (y.kind == 4) = false := by simpa using d4
            have q5 : (y.kind == 5) = false := by simpa using d5
            have q6 : (y.kind == 6) = false := by simpa using d6
            repeat first
              | apply d_seq
              | with_reducible apply kt_normal
              | apply l_nil
              | apply d_region
              | (apply l_off; (focus rfl); (focus rfl))
              | (apply l_val; (focus rfl); (focus rfl); (focus rfl); (focus (go_simp; (try simp (disch := omega) only [wrap_in, wrap_in', wrap_u16, wrap_u8, wrap_u32, wrap_u64, rem_in, quo_in]); first | done | with_reducible rfl | (constructor <;> with_reducible rfl))))
              | (apply l_store; (focus rfl); (focus rfl); (focus rfl); (focus (go_simp; (try simp (disch := omega) only [wrap_in, wrap_in', wrap_u16, wrap_u8, wrap_u32, wrap_u64, rem_in, quo_in]); first | done | with_reducible rfl | (constructor <;> with_reducible rfl))))
              | apply d_block
              | (apply d_true; (focus rfl); (focus rfl))
              | (apply d_false; (focus rfl); (focus rfl))
              | apply d_skip
              | apply d_exit
              | apply d_ret
              | with_reducible apply kt_ret
              | with_reducible apply kt_exit
              | with_reducible apply kb_normal
              | with_reducible apply kb_ret
              | with_reducible apply kb_here
              | with_reducible apply kl_ret
              | with_reducible apply kl_exit
              | with_reducible apply kc_ret
              | with_reducible apply kc_exit
              | (with_reducible apply kb_there; (focus rfl))
            refine kl_normal (l0.length - (k + 1)) _ (by omega) (Subl.cons (t := 1) (by decide) rfl (Subl.cons (t := 2) (by decide) rfl (Subl.cons (t := 7) (by decide) rfl (Subl.cons (t := 8) (by decide) rfl (Subl.cons (t := 9) (by decide) rfl (Subl.nil _ _)))))) ?_
            exact ⟨k + 1, _, rfl, by omega, rfl, Lib.hid (HX.out.take 1)⟩
        · repeat first
            | apply d_seq
            | with_reducible apply kt_normal
            | apply l_nil
            | apply d_region
            | (apply l_off; (focus rfl); (focus rfl))
            | (apply l_val; (focus rfl); (focus rfl); (focus rfl); (focus (go_simp; (try simp (disch := omega) only [wrap_in, wrap_in', wrap_u16, wrap_u8, wrap_u32, wrap_u64, rem_in, quo_in]); first | done | with_reducible rfl | (constructor <;> with_reducible rfl))))
            | (apply l_store; (focus rfl); (focus rfl); (focus rfl); (focus (go_simp; (try simp (disch := omega) only [wrap_in, wrap_in', wrap_u16, wrap_u8, wrap_u32, wrap_u64, rem_in, quo_in]); first | done | with_reducible rfl | (constructor <;> with_reducible rfl))))
            | apply d_block
            | (apply d_true; (focus rfl); (focus rfl))
            | (apply d_false; (focus rfl); (focus rfl))
            | apply d_skip
            | apply d_exit
            | apply d_ret
            | with_reducible apply kt_ret
            | with_reducible apply kt_exit
            | with_reducible apply kb_normal
            | with_reducible apply kb_ret
            | with_reducible apply kb_here
            | with_reducible apply kl_ret
            | with_reducible apply kl_exit
            | with_reducible apply kc_ret
            | with_reducible apply kc_exit
            | (with_reducible apply kb_there; (focus rfl))
          refine kc_normal _ (Subl.cons (t := 2) (by decide) rfl (Subl.cons (t := 7) (by decide) rfl (Subl.cons (t := 8) (by decide) rfl (Subl.nil _ _)))) ?_
          exact ⟨s, rfl, HX⟩
      · repeat first
          | apply d_seq
          | with_reducible apply kt_normal
          | apply l_nil
          | apply d_region
          | (apply l_off; (focus rfl); (focus rfl))
          | (apply l_val; (focus rfl); (focus rfl); (focus rfl); (focus (go_simp; (try simp (disch := omega) only [wrap_in, wrap_in', wrap_u16, wrap_u8, wrap_u32, wrap_u64, rem_in, quo_in]); first | done | with_reducible rfl | (constructor <;> with_reducible rfl))))
          | (apply l_store; (focus rfl); (focus rfl); (focus rfl); (focus (go_simp; (try simp (disch := omega) only [wrap_in, wrap_in', wrap_u16, wrap_u8, wrap_u32, wrap_u64, rem_in, quo_in]); first | done | with_reducible rfl | (constructor <;> with_reducible rfl))))
          | apply d_block
          | (apply d_true; (focus rfl); (focus rfl))
          | (apply d_false; (focus rfl); (focus rfl))
          | apply d_skip
          | apply d_exit
          | apply d_ret
          | with_reducible apply kt_ret
          | with_reducible apply kt_exit
          | with_reducible apply kb_normal
          | with_reducible apply kb_ret
          | with_reducible apply kb_here
          | with_reducible apply kl_ret
          | with_reducible apply kl_exit
          | with_reducible apply kc_ret
          | with_reducible apply kc_exit
          | (with_reducible apply kb_there; (focus rfl))
        refine kc_normal _ (Subl.cons (t := 2) (by decide) rfl (Subl.cons (t := 7) (by decide) rfl (Subl.cons (t := 8) (by decide) rfl (Subl.nil _ _)))) ?_
        exact ⟨s, rfl, HX⟩
  · clear HX hn H1
    obtain ⟨s, rfl, HX⟩ := hcut
    have hg := HX.out.goodW (i := 0) rfl
    have HG := Lib.hid hg
    have hs16 := hg.n16
    clear hg
    repeat first
      | apply d_seq
      | with_reducible apply kt_normal
      | apply l_nil
      | apply d_region
      | (apply l_off; (focus rfl); (focus rfl))
      | (apply l_val; (focus rfl); (focus rfl); (focus rfl); (focus (go_simp; (try simp (disch := omega) only [wrap_in, wrap_in', wrap_u16, wrap_u8, wrap_u32, wrap_u64, rem_in, quo_in]); first | done | with_reducible rfl | (constructor <;> with_reducible rfl))))
      | (apply l_store; (focus rfl); (focus rfl); (focus rfl); (focus (go_simp; (try simp (disch := omega) only [wrap_in, wrap_in', wrap_u16, wrap_u8, wrap_u32, wrap_u64, rem_in, quo_in]); first | done | with_reducible rfl | (constructor <;> with_reducible rfl))))
      | ((fail_if_success (with_reducible apply d_block (id := 3))); apply d_block)
      | (apply d_true; (focus rfl); (focus rfl))
      | (apply d_false; (focus rfl); (focus rfl))
      | apply d_skip
      | apply d_exit
      | apply d_ret
      | with_reducible apply kt_ret
      | with_reducible apply kt_exit
      | with_reducible apply kb_normal
      | with_reducible apply kb_ret
      | with_reducible apply kb_here
      | with_reducible apply kl_ret
      | with_reducible apply kl_exit
      | with_reducible apply kc_ret
      | with_reducible apply kc_exit
      | (with_reducible apply kb_there; (focus rfl))
    refine d_join (fun D wr => ∃ (fi nd : Int), D = [(2, .int .u16 it), (7, .bool true), (8, .pointer (some ⟨p, 0, none⟩)), (11, .int .i64 fi), (12, .int .i64 nd)] ∧ Hid (Has w wr [WA w.heap.size p g s]) ∧ Hid ((fi = -1 ∧ s.scan it = (0, 0, 11)) ∨ (∃ (k0 : Nat) (cb : Cb) (x : Ln), fi = (k0 : Int) ∧ nd = x.qty ∧ s.scan it = ((k0 : Int), x.qty, 0) ∧ s.at (k0 : Int) = some cb ∧ lk cb.needs it = some x))) ?_ (fun D wr hcut => ?_)
    · repeat first
        | apply d_seq
        | with_reducible apply kt_normal
        | apply l_nil
        | apply d_region
        | (apply l_off; (focus rfl); (focus rfl))
        | (apply l_val; (focus rfl); (focus rfl); (focus rfl); (focus (go_simp; (try simp (disch := omega) only [wrap_in, wrap_in', wrap_u16, wrap_u8, wrap_u32, wrap_u64, rem_in, quo_in]); first | done | with_reducible rfl | (constructor <;> with_reducible rfl))))
        | (apply l_store; (focus rfl); (focus rfl); (focus rfl); (focus (go_simp; (try simp (disch := omega) only [wrap_in, wrap_in', wrap_u16, wrap_u8, wrap_u32, wrap_u64, rem_in, quo_in]); first | done | with_reducible rfl | (constructor <;> with_reducible rfl))))
        | apply d_block
        | (apply d_true; (focus rfl); (focus rfl))
        | (apply d_false; (focus rfl); (focus rfl))
        | apply d_skip
        | apply d_exit
        | apply d_ret
        | with_reducible apply kt_ret
        | with_reducible apply kt_exit
        | with_reducible apply kb_normal
        | with_reducible apply kb_ret
        | with_reducible apply kb_here
        | with_reducible apply kl_ret
        | with_reducible apply kl_exit
        | with_reducible apply kc_ret
        | with_reducible apply kc_exit
        | (with_reducible apply kb_there; (focus rfl))
      refine d_loop (fun m D wr => ∃ (q : Nat) (fi nd : Int), m = 16 - q ∧ q ≤ 16 ∧ D = [(2, .int .u16 it), (7, .bool true), (8, .pointer (some ⟨p, 0, none⟩)), (11, .int .i64 fi), (12, .int .i64 nd), (13, .int .i64 q)] ∧ Hid (Has w wr [WA w.heap.size p g s]) ∧ Hid ((fi = -1 ∧ nd = 0 ∧ ∀ (j : Nat) (c' : Cb), j < q → s.cubs[j]? = some c' → lk c'.needs it = none) ∨ (∃ (k0 : Nat) (cb : Cb) (x : Ln), fi = (k0 : Int) ∧ nd = x.qty ∧ s.scan it = ((k0 : Int), x.qty, 0) ∧ s.at (k0 : Int) = some cb ∧ lk cb.needs it = some x))) (16) _ (Subl.cons (t := 2) (by decide) rfl (Subl.cons (t := 7) (by decide) rfl (Subl.cons (t := 8) (by decide) rfl (Subl.cons (t := 11) (by decide) rfl (Subl.cons (t := 12) (by decide) rfl (Subl.cons (t := 13) (by decide) rfl (Subl.nil _ _))))))) ?_ (fun m D wr hrel => ?_)
      · exact ⟨0, -1, 0, rfl, Nat.zero_le _, rfl, HX, Lib.hid (.inl ⟨rfl, rfl, fun j c' hj => by omega⟩)⟩
      · clear HX
        obtain ⟨q, fi, nd, rfl, hq, rfl, HX, HR⟩ := hrel
        rcases HR.out with ⟨rfl, rfl, hr⟩ | ⟨k0, cb, x, rfl, rfl, h1, h2, h3⟩
        · have HRR := Lib.hid hr
          clear hr HR
          by_cases hq16 : (q : Int) < 16
          · obtain ⟨held, od, hord, hfull, hfree, hneed⟩ := look HG.out (q : Int)
            obtain ⟨ls, hls⟩ : ∃ ls, s.needs (q : Int) = ls := ⟨_, rfl⟩
            obtain ⟨N, hN⟩ : ∃ N : Nat, ls.length = N := ⟨_, rfl⟩
            have hc := needs_has HX.out 0 p g s rfl q
            rw [hls] at hc hneed
            rw [hN] at hc
            have hN1 : N ≤ ls.length := by omega
            have hN2 : ls.length ≤ N := by omega
            have h12 := hneed.len
            have HLS := Lib.hid hls
            have HC := Lib.hid hc
            have HNEED := Lib.hid hneed
            clear hc hneed
            clear hls hN hfree hord hfull
            repeat first
              | apply d_seq
              | with_reducible apply kt_normal
              | apply l_nil
              | apply d_region
              | (apply l_off; (focus rfl); (focus rfl))
              | (apply l_val; (focus rfl); (focus rfl); (focus rfl); (focus (go_simp; (try simp (disch := omega) only [wrap_in, wrap_in', wrap_u16, wrap_u8, wrap_u32, wrap_u64, rem_in, quo_in]); first | done | with_reducible rfl | (constructor <;> with_reducible rfl))))
              | (apply l_store; (focus rfl); (focus rfl); (focus rfl); (focus (go_simp; (try simp (disch := omega) only [wrap_in, wrap_in', wrap_u16, wrap_u8, wrap_u32, wrap_u64, rem_in, quo_in]); first | done | with_reducible rfl | (constructor <;> with_reducible rfl))))
              | apply d_block
              | (apply d_true; (focus rfl); (focus rfl))
              | (apply d_false; (focus rfl); (focus rfl))
              | apply d_skip
              | apply d_exit
              | apply d_ret
              | with_reducible apply kt_ret
              | with_reducible apply kt_exit
              | with_reducible apply kb_normal
              | with_reducible apply kb_ret
              | with_reducible apply kb_here
              | with_reducible apply kl_ret
              | with_reducible apply kl_exit
              | with_reducible apply kc_ret
              | with_reducible apply kc_exit
              | (with_reducible apply kb_there; (focus rfl))
            refine l_call rfl rfl rfl (by first | (go_simp; done) | (go_simp; rfl)) (HC.out) ?_
            rintro e w' ⟨B7, d7, rfl, hb71, hb72, hx⟩
            clear HX
            try simp only [List.nil_append, List.cons_append, List.set_cons_zero, List.set_cons_succ] at hx
            have HX := Lib.hid hx
            clear hx
            refine ⟨_, rfl, ?_⟩
            repeat first
              | apply d_seq
              | with_reducible apply kt_normal
              | apply l_nil
              | apply d_region
              | (apply l_off; (focus rfl); (focus rfl))
              | (apply l_val; (focus rfl); (focus rfl); (focus rfl); (focus (go_simp; (try simp (disch := omega) only [wrap_in, wrap_in', wrap_u16, wrap_u8, wrap_u32, wrap_u64, rem_in, quo_in]); first | done | with_reducible rfl | (constructor <;> with_reducible rfl))))
              | (apply l_store; (focus rfl); (focus rfl); (focus rfl); (focus (go_simp; (try simp (disch := omega) only [wrap_in, wrap_in', wrap_u16, wrap_u8, wrap_u32, wrap_u64, rem_in, quo_in]); first | done | with_reducible rfl | (constructor <;> with_reducible rfl))))
              | apply d_block
              | (apply d_true; (focus rfl); (focus rfl))
              | (apply d_false; (focus rfl); (focus rfl))
              | apply d_skip
              | apply d_exit
              | apply d_ret
              | with_reducible apply kt_ret
              | with_reducible apply kt_exit
              | with_reducible apply kb_normal
              | with_reducible apply kb_ret
              | with_reducible apply kb_here
              | with_reducible apply kl_ret
              | with_reducible apply kl_exit
              | with_reducible apply kc_ret
              | with_reducible apply kc_exit
              | (with_reducible apply kb_there; (focus rfl))
            clear HC
            refine d_loop (fun m D wr => ∃ (j : Nat) (fi nd : Int), m = N - j ∧ j ≤ N ∧ D = [(2, .int .u16 it), (7, .bool true), (8, .pointer (some ⟨p, 0, none⟩)), (11, .int .i64 fi), (12, .int .i64 nd), (13, .int .i64 q), (14, .slice B7 N d7), (15, .int .i64 j)] ∧ Hid (Has w wr [WA w.heap.size p g s, OwnA w.heap.size 35 3 (.slice B7 N d7) N (lns ls)]) ∧ Hid ((fi = -1 ∧ nd = 0 ∧ ∀ (i : Nat) (x : Ln), i < j → ls[i]? = some x → x.item ≠ it) ∨ (∃ x : Ln, fi = (q : Int) ∧ nd = x.qty ∧ lk ls it = some x))) (N) _ (Subl.cons (t := 2) (by decide) rfl (Subl.cons (t := 7) (by decide) rfl (Subl.cons (t := 8) (by decide) rfl (Subl.cons (t := 11) (by decide) rfl (Subl.cons (t := 12) (by decide) rfl (Subl.cons (t := 13) (by decide) rfl (Subl.cons (t := 14) (by decide) rfl (Subl.cons (t := 15) (by decide) rfl (Subl.nil _ _))))))))) ?_ (fun m D wr hrel => ?_)
            · exact ⟨0, -1, 0, rfl, Nat.zero_le _, rfl, HX, Lib.hid (.inl ⟨rfl, rfl, fun i x hi => by omega⟩)⟩
            · clear HX
              obtain ⟨j, fi, nd, rfl, hj, rfl, HX, HIN⟩ := hrel
              by_cases hjN : j < N
              · obtain ⟨y2, hy2⟩ : ∃ y2, ls[j]? = some y2 := ⟨_, List.getElem?_eq_getElem (by omega)⟩
                obtain ⟨g2, rfl, -, -, ⟨u0, u1, u2⟩, -⟩ := HX.out.rowLn (i := 1) rfl hy2 hjN
                have HLK := Lib.hid (lk_some_of HNEED.out.asc hy2)
                have HY2 := Lib.hid hy2
                clear hy2
                by_cases hit : y2.item = it
                · have r1 : (y2.item == it) = true := by simpa using hit
                  have HIT := Lib.hid hit
                  clear hit
                  repeat first
                    | apply d_seq
                    | with_reducible apply kt_normal
                    | apply l_nil
                    | apply d_region
                    | (apply l_off; (focus rfl); (focus rfl))
                    | (apply l_val; (focus rfl); (focus rfl); (focus rfl); (focus (go_simp; (try simp (disch := omega) only [wrap_in, wrap_in', wrap_u16, wrap_u8, wrap_u32, wrap_u64, rem_in, quo_in]); first | done | with_reducible rfl | (constructor <;> with_reducible rfl))))
                    | (apply l_store; (focus rfl); (focus rfl); (focus rfl); (focus (go_simp; (try simp (disch := omega) only [wrap_in, wrap_in', wrap_u16, wrap_u8, wrap_u32, wrap_u64, rem_in, quo_in]); first | done | with_reducible rfl | (constructor <;> with_reducible rfl))))
                    | apply d_block
                    | (apply d_true; (focus rfl); (focus rfl))
                    | (apply d_false; (focus rfl); (focus rfl))
                    | apply d_skip
                    | apply d_exit
                    | apply d_ret
                    | with_reducible apply kt_ret
                    | with_reducible apply kt_exit
                    | with_reducible apply kb_normal
                    | with_reducible apply kb_ret
                    | with_reducible apply kb_here
                    | with_reducible apply kl_ret
                    | with_reducible apply kl_exit
                    | with_reducible apply kc_ret
                    | with_reducible apply kc_exit
                    | (with_reducible apply kb_there; (focus rfl))
                  refine kl_normal (N - (j + 1)) _ (by omega) (Subl.cons (t := 2) (by decide) rfl (Subl.cons (t := 7) (by decide) rfl (Subl.cons (t := 8) (by decide) rfl (Subl.cons (t := 11) (by decide) rfl (Subl.cons (t := 12) (by decide) rfl (Subl.cons (t := 13) (by decide) rfl (Subl.cons (t := 14) (by decide) rfl (Subl.cons (t := 15) (by decide) rfl (Subl.nil _ _))))))))) ?_
                  exact ⟨j + 1, _, _, rfl, by omega, rfl, HX, Lib.hid (.inr ⟨y2, rfl, rfl, by rw [← HIT.out]; exact HLK.out⟩)⟩
                · have r1 : (y2.item == it) = false := by simpa using hit
                  have HIT := Lib.hid hit
                  clear hit
                  repeat first
                    | apply d_seq
                    | with_reducible apply kt_normal
                    | apply l_nil
                    | apply d_region
                    | (apply l_off; (focus rfl); (focus rfl))
                    | (apply l_val; (focus rfl); (focus rfl); (focus rfl); (focus (go_simp; (try simp (disch := omega) only [wrap_in, wrap_in', wrap_u16, wrap_u8, wrap_u32, wrap_u64, rem_in, quo_in]); first | done | with_reducible rfl | (constructor <;> with_reducible rfl))))
                    | (apply l_store; (focus rfl); (focus rfl); (focus rfl); (focus (go_simp; (try simp (disch := omega) only [wrap_in, wrap_in', wrap_u16, wrap_u8, wrap_u32, wrap_u64, rem_in, quo_in]); first | done | with_reducible rfl | (constructor <;> with_reducible rfl))))
                    | apply d_block
                    | (apply d_true; (focus rfl); (focus rfl))
                    | (apply d_false; (focus rfl); (focus rfl))
                    | apply d_skip
                    | apply d_exit
                    | apply d_ret
                    | with_reducible apply kt_ret
                    | with_reducible apply kt_exit
                    | with_reducible apply kb_normal
                    | with_reducible apply kb_ret
                    | with_reducible apply kb_here
                    | with_reducible apply kl_ret
                    | with_reducible apply kl_exit
                    | with_reducible apply kc_ret
                    | with_reducible apply kc_exit
                    | (with_reducible apply kb_there; (focus rfl))
                  refine kl_normal (N - (j + 1)) _ (by omega) (Subl.cons (t := 2) (by decide) rfl (Subl.cons (t := 7) (by decide) rfl (Subl.cons (t := 8) (by decide) rfl (Subl.cons (t := 11) (by decide) rfl (Subl.cons (t := 12) (by decide) rfl (Subl.cons (t := 13) (by decide) rfl (Subl.cons (t := 14) (by decide) rfl (Subl.cons (t := 15) (by decide) rfl (Subl.nil _ _))))))))) ?_
                  refine ⟨j + 1, fi, nd, rfl, by omega, rfl, HX, Lib.hid ?_⟩
                  rcases HIN.out with ⟨e1, e2, e3⟩ | e
                  · refine .inl ⟨e1, e2, fun i x hi hx => ?_⟩
                    by_cases hij : i = j
                    · subst hij
                      rw [HY2.out] at hx
                      obtain rfl := Option.some.inj hx
                      exact HIT.out
                    · exact e3 i x (by omega) hx
                  · exact .inr e
              · have hje : j = N := by omega
                rcases HIN.out with ⟨rfl, rfl, e3⟩ | ⟨x, rfl, rfl, e3⟩
                · have hn0 : lk ls it = none := lk_none_take (fun i x hi hx => e3 i x (by omega) hx)
                  have HN0 := Lib.hid hn0
                  clear hn0 e3 HIN hje
                  repeat first
                    | apply d_seq
                    | with_reducible apply kt_normal
                    | apply l_nil
                    | apply d_region
                    | (apply l_off; (focus rfl); (focus rfl))
                    | (apply l_val; (focus rfl); (focus rfl); (focus rfl); (focus (go_simp; (try simp (disch := omega) only [wrap_in, wrap_in', wrap_u16, wrap_u8, wrap_u32, wrap_u64, rem_in, quo_in]); first | done | with_reducible rfl | (constructor <;> with_reducible rfl))))
                    | (apply l_store; (focus rfl); (focus rfl); (focus rfl); (focus (go_simp; (try simp (disch := omega) only [wrap_in, wrap_in', wrap_u16, wrap_u8, wrap_u32, wrap_u64, rem_in, quo_in]); first | done | with_reducible rfl | (constructor <;> with_reducible rfl))))
                    | apply d_block
                    | (apply d_true; (focus rfl); (focus rfl))
                    | (apply d_false; (focus rfl); (focus rfl))
                    | apply d_skip
                    | apply d_exit
                    | apply d_ret
                    | with_reducible apply kt_ret
                    | with_reducible apply kt_exit
                    | with_reducible apply kb_normal
                    | with_reducible apply kb_ret
                    | with_reducible apply kb_here
                    | with_reducible apply kl_ret
                    | with_reducible apply kl_exit
                    | with_reducible apply kc_ret
                    | with_reducible apply kc_exit
                    | (with_reducible apply kb_there; (focus rfl))
                  refine kl_normal (16 - (q + 1)) _ (by omega) (Subl.cons (t := 2) (by decide) rfl (Subl.cons (t := 7) (by decide) rfl (Subl.cons (t := 8) (by decide) rfl (Subl.cons (t := 11) (by decide) rfl (Subl.cons (t := 12) (by decide) rfl (Subl.cons (t := 13) (by decide) rfl (Subl.nil _ _))))))) ?_
                  refine ⟨q + 1, -1, 0, rfl, by omega, rfl, Lib.hid (HX.out.take 1), Lib.hid (.inl ⟨rfl, rfl, fun j c' hj hc' => ?_⟩)⟩
                  by_cases hjq : j = q
                  · subst hjq
                    rw [← needs_at HG.out hc', HLS.out]
                    exact HN0.out
                  · exact HRR.out j c' (by omega) hc'
                · rw [← HLS.out] at e3
                  obtain ⟨cb, h1, h2, h3⟩ := needs_some e3
                  rw [← h3] at e3
                  have HF := Lib.hid (And.intro (scan_hit HRR.out h2 e3) (And.intro h1 e3))
                  clear e3 HIN hje h1 h2 h3
                  repeat first
                    | apply d_seq
                    | with_reducible apply kt_normal
                    | apply l_nil
                    | apply d_region
                    | (apply l_off; (focus rfl); (focus rfl))
                    | (apply l_val; (focus rfl); (focus rfl); (focus rfl); (focus (go_simp; (try simp (disch := omega) only [wrap_in, wrap_in', wrap_u16, wrap_u8, wrap_u32, wrap_u64, rem_in, quo_in]); first | done | with_reducible rfl | (constructor <;> with_reducible rfl))))
                    | (apply l_store; (focus rfl); (focus rfl); (focus rfl); (focus (go_simp; (try simp (disch := omega) only [wrap_in, wrap_in', wrap_u16, wrap_u8, wrap_u32, wrap_u64, rem_in, quo_in]); first | done | with_reducible rfl | (constructor <;> with_reducible rfl))))
                    | apply d_block
                    | (apply d_true; (focus rfl); (focus rfl))
                    | (apply d_false; (focus rfl); (focus rfl))
                    | apply d_skip
                    | apply d_exit
                    | apply d_ret
                    | with_reducible apply kt_ret
                    | with_reducible apply kt_exit
                    | with_reducible apply kb_normal
                    | with_reducible apply kb_ret
                    | with_reducible apply kb_here
                    | with_reducible apply kl_ret
                    | with_reducible apply kl_exit
                    | with_reducible apply kc_ret
                    | with_reducible apply kc_exit
                    | (with_reducible apply kb_there; (focus rfl))
                  refine kl_normal (16 - (q + 1)) _ (by omega) (Subl.cons (t := 2) (by decide) rfl (Subl.cons (t := 7) (by decide) rfl (Subl.cons (t := 8) (by decide) rfl (Subl.cons (t := 11) (by decide) rfl (Subl.cons (t := 12) (by decide) rfl (Subl.cons (t := 13) (by decide) rfl (Subl.nil _ _))))))) ?_
                  exact ⟨q + 1, _, _, rfl, by omega, rfl, Lib.hid (HX.out.take 1), Lib.hid (.inr ⟨q, cb, x, rfl, rfl, HF.out.1, HF.out.2.1, HF.out.2.2⟩)⟩
          · have hsm : s.scan it = (0, 0, 11) := scan_miss (fun c hc => by
              obtain ⟨j, hj⟩ := List.mem_iff_getElem?.1 hc
              exact HRR.out j c (by have := (List.getElem?_eq_some_iff.1 hj).1; omega) hj)
            have HSM := Lib.hid hsm
            clear hsm
            repeat first
              | apply d_seq
              | with_reducible apply kt_normal
              | apply l_nil
              | apply d_region
              | (apply l_off; (focus rfl); (focus rfl))
              | (apply l_val; (focus rfl); (focus rfl); (focus rfl); (focus (go_simp; (try simp (disch := omega) only [wrap_in, wrap_in', wrap_u16, wrap_u8, wrap_u32, wrap_u64, rem_in, quo_in]); first | done | with_reducible rfl | (constructor <;> with_reducible rfl))))
              | (apply l_store; (focus rfl); (focus rfl); (focus rfl); (focus (go_simp; (try simp (disch := omega) only [wrap_in, wrap_in', wrap_u16, wrap_u8, wrap_u32, wrap_u64, rem_in, quo_in]); first | done | with_reducible rfl | (constructor <;> with_reducible rfl))))
              | apply d_block
              | (apply d_true; (focus rfl); (focus rfl))
              | (apply d_false; (focus rfl); (focus rfl))
              | apply d_skip
              | apply d_exit
              | apply d_ret
              | with_reducible apply kt_ret
              | with_reducible apply kt_exit
              | with_reducible apply kb_normal
              | with_reducible apply kb_ret
              | with_reducible apply kb_here
              | with_reducible apply kl_ret
              | with_reducible apply kl_exit
              | with_reducible apply kc_ret
              | with_reducible apply kc_exit
              | (with_reducible apply kb_there; (focus rfl))
            refine kc_normal _ (Subl.cons (t := 2) (by decide) rfl (Subl.cons (t := 7) (by decide) rfl (Subl.cons (t := 8) (by decide) rfl (Subl.cons (t := 11) (by decide) rfl (Subl.cons (t := 12) (by decide) rfl (Subl.nil _ _)))))) ?_
            exact ⟨-1, 0, rfl, HX, Lib.hid (.inl ⟨rfl, HSM.out⟩)⟩
        · have HF := Lib.hid (And.intro h1 (And.intro h2 h3))
          clear h1 h2 h3 HR
          have r1 : decide ((k0 : Int) < 0) = false := by simp
          by_cases hq16 : (q : Int) < 16
          · have r2 : decide ((q : Int) < 16) = true := decide_eq_true hq16
            repeat first
              | apply d_seq
              | with_reducible apply kt_normal
              | apply l_nil
              | apply d_region
              | (apply l_off; (focus rfl); (focus rfl))
              | (apply l_val; (focus rfl); (focus rfl); (focus rfl); (focus (go_simp; (try simp (disch := omega) only [wrap_in, wrap_in', wrap_u16, wrap_u8, wrap_u32, wrap_u64, rem_in, quo_in]); first | done | with_reducible rfl | (constructor <;> with_reducible rfl))))
              | (apply l_store; (focus rfl); (focus rfl); (focus rfl); (focus (go_simp; (try simp (disch := omega) only [wrap_in, wrap_in', wrap_u16, wrap_u8, wrap_u32, wrap_u64, rem_in, quo_in]); first | done | with_reducible rfl | (constructor <;> with_reducible rfl))))
              | apply d_block
              | (apply d_true; (focus rfl); (focus rfl))
              | (apply d_false; (focus rfl); (focus rfl))
              | apply d_skip
              | apply d_exit
              | apply d_ret
              | with_reducible apply kt_ret
              | with_reducible apply kt_exit
              | with_reducible apply kb_normal
              | with_reducible apply kb_ret
              | with_reducible apply kb_here
              | with_reducible apply kl_ret
              | with_reducible apply kl_exit
              | with_reducible apply kc_ret
              | with_reducible apply kc_exit
              | (with_reducible apply kb_there; (focus rfl))
            refine kc_normal _ (Subl.cons (t := 2) (by decide) rfl (Subl.cons (t := 7) (by decide) rfl (Subl.cons (t := 8) (by decide) rfl (Subl.cons (t := 11) (by decide) rfl (Subl.cons (t := 12) (by decide) rfl (Subl.nil _ _)))))) ?_
            exact ⟨_, _, rfl, HX, Lib.hid (.inr ⟨k0, cb, x, rfl, rfl, HF.out.1, HF.out.2.1, HF.out.2.2⟩)⟩
          · have r2 : decide ((q : Int) < 16) = false := decide_eq_false hq16
            repeat first
              | apply d_seq
              | with_reducible apply kt_normal
              | apply l_nil
              | apply d_region
              | (apply l_off; (focus rfl); (focus rfl))
              | (apply l_val; (focus rfl); (focus rfl); (focus rfl); (focus (go_simp; (try simp (disch := omega) only [wrap_in, wrap_in', wrap_u16, wrap_u8, wrap_u32, wrap_u64, rem_in, quo_in]); first | done | with_reducible rfl | (constructor <;> with_reducible rfl))))
              | (apply l_store; (focus rfl); (focus rfl); (focus rfl); (focus (go_simp; (try simp (disch := omega) only [wrap_in, wrap_in', wrap_u16, wrap_u8, wrap_u32, wrap_u64, rem_in, quo_in]); first | done | with_reducible rfl | (constructor <;> with_reducible rfl))))
              | apply d_block
              | (apply d_true; (focus rfl); (focus rfl))
              | (apply d_false; (focus rfl); (focus rfl))
              | apply d_skip
              | apply d_exit
              | apply d_ret
              | with_reducible apply kt_ret
              | with_reducible apply kt_exit
              | with_reducible apply kb_normal
              | with_reducible apply kb_ret
              | with_reducible apply kb_here
              | with_reducible apply kl_ret
              | with_reducible apply kl_exit
              | with_reducible apply kc_ret
              | with_reducible apply kc_exit
              | (with_reducible apply kb_there; (focus rfl))
            refine kc_normal _ (Subl.cons (t := 2) (by decide) rfl (Subl.cons (t := 7) (by decide) rfl (Subl.cons (t := 8) (by decide) rfl (Subl.cons (t := 11) (by decide) rfl (Subl.cons (t := 12) (by decide) rfl (Subl.nil _ _)))))) ?_
            exact ⟨_, _, rfl, HX, Lib.hid (.inr ⟨k0, cb, x, rfl, rfl, HF.out.1, HF.out.2.1, HF.out.2.2⟩)⟩
    · clear HX
      obtain ⟨fi, nd, rfl, HX, HR⟩ := hcut
      rcases HR.out with ⟨rfl, hs⟩ | ⟨k0, cb, x, rfl, rfl, h1, h2, h3⟩
      · have hc := scan_has HX.out 0 p g s rfl it
        rw [hs] at hc
        have HC := Lib.hid hc
        clear hc
        clear HR hs
        repeat first
          | apply d_seq
          | with_reducible apply kt_normal
          | apply l_nil
          | apply d_region
          | (apply l_off; (focus rfl); (focus rfl))
          | (apply l_val; (focus rfl); (focus rfl); (focus rfl); (focus (go_simp; (try simp (disch := omega) only [wrap_in, wrap_in', wrap_u16, wrap_u8, wrap_u32, wrap_u64, rem_in, quo_in]); first | done | with_reducible rfl | (constructor <;> with_reducible rfl))))
          | (apply l_store; (focus rfl); (focus rfl); (focus rfl); (focus (go_simp; (try simp (disch := omega) only [wrap_in, wrap_in', wrap_u16, wrap_u8, wrap_u32, wrap_u64, rem_in, quo_in]); first | done | with_reducible rfl | (constructor <;> with_reducible rfl))))
          | apply d_block
          | (apply d_true; (focus rfl); (focus rfl))
          | (apply d_false; (focus rfl); (focus rfl))
          | apply d_skip
          | apply d_exit
          | apply d_ret
          | with_reducible apply kt_ret
          | with_reducible apply kt_exit
          | with_reducible apply kb_normal
          | with_reducible apply kb_ret
          | with_reducible apply kb_here
          | with_reducible apply kl_ret
          | with_reducible apply kl_exit
          | with_reducible apply kc_ret
          | with_reducible apply kc_exit
          | (with_reducible apply kb_there; (focus rfl))
        refine l_call rfl rfl rfl (by first | (go_simp; done) | (go_simp; rfl)) (HC.out) ?_
        rintro e w' ⟨rfl, hx⟩
        clear HX
        try simp only [List.nil_append, List.cons_append, List.set_cons_zero, List.set_cons_succ] at hx
        have HX := Lib.hid hx
        clear hx
        refine ⟨_, rfl, ?_⟩
        repeat first
          | apply d_seq
          | with_reducible apply kt_normal
          | apply l_nil
          | apply d_region
          | (apply l_off; (focus rfl); (focus rfl))
          | (apply l_val; (focus rfl); (focus rfl); (focus rfl); (focus (go_simp; (try simp (disch := omega) only [wrap_in, wrap_in', wrap_u16, wrap_u8, wrap_u32, wrap_u64, rem_in, quo_in]); first | done | with_reducible rfl | (constructor <;> with_reducible rfl))))
          | (apply l_store; (focus rfl); (focus rfl); (focus rfl); (focus (go_simp; (try simp (disch := omega) only [wrap_in, wrap_in', wrap_u16, wrap_u8, wrap_u32, wrap_u64, rem_in, quo_in]); first | done | with_reducible rfl | (constructor <;> with_reducible rfl))))
          | apply d_block
          | (apply d_true; (focus rfl); (focus rfl))
          | (apply d_false; (focus rfl); (focus rfl))
          | apply d_skip
          | apply d_exit
          | apply d_ret
          | with_reducible apply kt_ret
          | with_reducible apply kt_exit
          | with_reducible apply kb_normal
          | with_reducible apply kb_ret
          | with_reducible apply kb_here
          | with_reducible apply kl_ret
          | with_reducible apply kl_exit
          | with_reducible apply kc_ret
          | with_reducible apply kc_exit
          | (with_reducible apply kb_there; (focus rfl))
        refine ⟨rfl, _, (by first | (simp [resultsG, resOne, Try.results6, rho, List.lookup]; done) | (simp [resultsG, resOne, Try.results6, rho, List.lookup]; rfl)), ?_⟩
        exact ⟨rfl, HX.out.old⟩
      · have hc := scan_has HX.out 0 p g s rfl it
        rw [h1] at hc
        obtain ⟨a0, a1, a2⟩ := at_in h2
        have hpos := (HG.out.each cb (List.mem_of_getElem? a1)).need.pos x (lk_mem h3).1
        have hov := over_one x.qty hpos.1 hpos.2
        obtain ⟨qq, hqq⟩ : ∃ qq, IntKind.wrap .i64 (x.qty + 1) = qq := ⟨_, rfl⟩
        rw [hqq] at hov
        have hb := put_bad h2 h3 hov
        have hf := put_fine h2 h3 hpos.1 (Int.le_refl _)
        have r1 : decide ((k0 : Int) < 0) = false := by simp
        have HC := Lib.hid hc
        have HB := Lib.hid hb
        have HF := Lib.hid hf
        clear hc hb hf
        clear HR h1 h2 h3 a0 a1 a2 hpos hov
        repeat first
          | apply d_seq
          | with_reducible apply kt_normal
          | apply l_nil
          | apply d_region
          | (apply l_off; (focus rfl); (focus rfl))
          | (apply l_val; (focus rfl); (focus rfl); (focus rfl); (focus (go_simp; (try simp (disch := omega) only [wrap_in, wrap_in', wrap_u16, wrap_u8, wrap_u32, wrap_u64, rem_in, quo_in]); first | done | with_reducible rfl | (constructor <;> with_reducible rfl))))
          | (apply l_store; (focus rfl); (focus rfl); (focus rfl); (focus (go_simp; (try simp (disch := omega) only [wrap_in, wrap_in', wrap_u16, wrap_u8, wrap_u32, wrap_u64, rem_in, quo_in]); first | done | with_reducible rfl | (constructor <;> with_reducible rfl))))
          | apply d_block
          | (apply d_true; (focus rfl); (focus rfl))
          | (apply d_false; (focus rfl); (focus rfl))
          | apply d_skip
          | apply d_exit
          | apply d_ret
          | with_reducible apply kt_ret
          | with_reducible apply kt_exit
          | with_reducible apply kb_normal
          | with_reducible apply kb_ret
          | with_reducible apply kb_here
          | with_reducible apply kl_ret
          | with_reducible apply kl_exit
          | with_reducible apply kc_ret
          | with_reducible apply kc_exit
          | (with_reducible apply kb_there; (focus rfl))
        refine l_call rfl rfl rfl (by first | (go_simp; done) | (go_simp; rfl)) (HC.out) ?_
        rintro e w' ⟨rfl, hx⟩
        clear HX
        try simp only [List.nil_append, List.cons_append, List.set_cons_zero, List.set_cons_succ] at hx
        have HX := Lib.hid hx
        clear hx
        refine ⟨_, rfl, ?_⟩
        repeat first
          | apply d_seq
          | with_reducible apply kt_normal
          | apply l_nil
          | apply d_region
          | (apply l_off; (focus rfl); (focus rfl))
          | (apply l_val; (focus rfl); (focus rfl); (focus rfl); (focus (go_simp; (try simp (disch := omega) only [wrap_in, wrap_in', wrap_u16, wrap_u8, wrap_u32, wrap_u64, rem_in, quo_in]); first | done | with_reducible rfl | (constructor <;> with_reducible rfl))))
          | (apply l_store; (focus rfl); (focus rfl); (focus rfl); (focus (go_simp; (try simp (disch := omega) only [wrap_in, wrap_in', wrap_u16, wrap_u8, wrap_u32, wrap_u64, rem_in, quo_in]); first | done | with_reducible rfl | (constructor <;> with_reducible rfl))))
          | apply d_block
          | (apply d_true; (focus rfl); (focus rfl))
          | (apply d_false; (focus rfl); (focus rfl))
          | apply d_skip
          | apply d_exit
          | apply d_ret
          | with_reducible apply kt_ret
          | with_reducible apply kt_exit
          | with_reducible apply kb_normal
          | with_reducible apply kb_ret
          | with_reducible apply kb_here
          | with_reducible apply kl_ret
          | with_reducible apply kl_exit
          | with_reducible apply kc_ret
          | with_reducible apply kc_exit
          | (with_reducible apply kb_there; (focus rfl))
        have hc := put_has HX.out 0 p g s rfl k0 it qq
        rw [HB.out] at hc
        clear HC
        have HC := Lib.hid hc
        clear hc
        refine l_call rfl rfl rfl (by first | (go_simp; done) | (go_simp; rfl)) (HC.out) ?_
        rintro e w' ⟨rfl, hx⟩
        clear HX
        try simp only [List.nil_append, List.cons_append, List.set_cons_zero, List.set_cons_succ] at hx
        have HX := Lib.hid hx
        clear hx
        refine ⟨_, rfl, ?_⟩
        repeat first
          | apply d_seq
          | with_reducible apply kt_normal
          | apply l_nil
          | apply d_region
          | (apply l_off; (focus rfl); (focus rfl))
          | (apply l_val; (focus rfl); (focus rfl); (focus rfl); (focus (go_simp; (try simp (disch := omega) only [wrap_in, wrap_in', wrap_u16, wrap_u8, wrap_u32, wrap_u64, rem_in, quo_in]); first | done | with_reducible rfl | (constructor <;> with_reducible rfl))))
          | (apply l_store; (focus rfl); (focus rfl); (focus rfl); (focus (go_simp; (try simp (disch := omega) only [wrap_in, wrap_in', wrap_u16, wrap_u8, wrap_u32, wrap_u64, rem_in, quo_in]); first | done | with_reducible rfl | (constructor <;> with_reducible rfl))))
          | apply d_block
          | (apply d_true; (focus rfl); (focus rfl))
          | (apply d_false; (focus rfl); (focus rfl))
          | apply d_skip
          | apply d_exit
          | apply d_ret
          | with_reducible apply kt_ret
          | with_reducible apply kt_exit
          | with_reducible apply kb_normal
          | with_reducible apply kb_ret
          | with_reducible apply kb_here
          | with_reducible apply kl_ret
          | with_reducible apply kl_exit
          | with_reducible apply kc_ret
          | with_reducible apply kc_exit
          | (with_reducible apply kb_there; (focus rfl))
        have hc := put_has HX.out 0 p g s rfl k0 it x.qty
        rw [HF.out] at hc
        clear HC
        have HC := Lib.hid hc
        clear hc
        refine l_call rfl rfl rfl (by first | (go_simp; done) | (go_simp; rfl)) (HC.out) ?_
        rintro e w' ⟨rfl, hx⟩
        clear HX
        try simp only [List.nil_append, List.cons_append, List.set_cons_zero, List.set_cons_succ] at hx
        have HX := Lib.hid hx
        clear hx
        refine ⟨_, rfl, ?_⟩
        repeat first
          | apply d_seq
          | with_reducible apply kt_normal
          | apply l_nil
          | apply d_region
          | (apply l_off; (focus rfl); (focus rfl))
          | (apply l_val; (focus rfl); (focus rfl); (focus rfl); (focus (go_simp; (try simp (disch := omega) only [wrap_in, wrap_in', wrap_u16, wrap_u8, wrap_u32, wrap_u64, rem_in, quo_in]); first | done | with_reducible rfl | (constructor <;> with_reducible rfl))))
          | (apply l_store; (focus rfl); (focus rfl); (focus rfl); (focus (go_simp; (try simp (disch := omega) only [wrap_in, wrap_in', wrap_u16, wrap_u8, wrap_u32, wrap_u64, rem_in, quo_in]); first | done | with_reducible rfl | (constructor <;> with_reducible rfl))))
          | apply d_block
          | (apply d_true; (focus rfl); (focus rfl))
          | (apply d_false; (focus rfl); (focus rfl))
          | apply d_skip
          | apply d_exit
          | apply d_ret
          | with_reducible apply kt_ret
          | with_reducible apply kt_exit
          | with_reducible apply kb_normal
          | with_reducible apply kb_ret
          | with_reducible apply kb_here
          | with_reducible apply kl_ret
          | with_reducible apply kl_exit
          | with_reducible apply kc_ret
          | with_reducible apply kc_exit
          | (with_reducible apply kb_there; (focus rfl))
        refine ⟨rfl, _, (by first | (simp [resultsG, resOne, Try.results6, rho, List.lookup]; done) | (simp [resultsG, resOne, Try.results6, rho, List.lookup]; rfl)), ?_⟩
        exact ⟨rfl, HX.out.old⟩
end Go.Proofs.Ytienodnkfohakaa
