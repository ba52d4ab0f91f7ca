import Derived.Test.YtienodnkfohakaaWalH
namespace Go.Proofs.Ytienodnkfohakaa
set_option linter.unusedVariables false
set_option linter.unusedSimpArgs false
attribute [local go_sem] rho_const rho_func rho_hit rho_miss
open Go.RowKit
attribute [local go_sem] min2_mn min_two' max2_mx max_two' u16_and31
set_option maxRecDepth 100000 in
set_option maxHeartbeats 8000000 in
theorem wallNeeds_any (c : Int) {w : World} {A0 : Option Addr} {n0 cq0 : Nat} {l0 : List St} (h1 : SeesR w (fun k => k < w.heap.size) 6 (fun (y : St) cs => cs = y.cs ∧ y.ok w) (.slice A0 n0 cq0) l0) :
    Calls Try.prog 9 #[.int .i64 c, .slice A0 n0 cq0] w fun e w' => e = .returned (.bool true) ∧ Keep none_ w w' := by
  obtain ⟨rfl, b1, b1'⟩ := h1.form
  obtain ⟨n, hn, hn1, hn16⟩ := newC c
  have HX := Lib.hid (Has.nil (Keep.refl none_ w))
  have H1 := Lib.hid h1
  clear h1
  refine d_calls (n := 144) Try.func9 rfl rfl (by simp) [(0, .int .i64 c), (1, .slice A0 l0.length cq0)] (by simp) ?_
  repeat first
    | apply d_seq
    | with_reducible apply kt_normal
    | apply l_nil
    | apply d_region
    | (apply l_off; (focus rfl); (focus rfl))
    | (apply l_val; (focus rfl); (focus rfl); (focus rfl); (focus (go_simp; (try simp (disch := omega) only [wrap_in, wrap_in', wrap_u16, wrap_u8, wrap_u32, wrap_u64, rem_in, quo_in]); first | done | with_reducible rfl | (constructor <;> with_reducible rfl))))
    | (apply l_store; (focus rfl); (focus rfl); (focus rfl); (focus (go_simp; (try simp (disch := omega) only [wrap_in, wrap_in', wrap_u16, wrap_u8, wrap_u32, wrap_u64, rem_in, quo_in]); first | done | with_reducible rfl | (constructor <;> with_reducible rfl))))
    | apply d_block
    | (apply d_true; (focus rfl); (focus rfl))
    | (apply d_false; (focus rfl); (focus rfl))
    | apply d_skip
    | apply d_exit
    | apply d_ret
    | with_reducible apply kt_ret
    | with_reducible apply kt_exit
    | with_reducible apply kb_normal
    | with_reducible apply kb_ret
    | with_reducible apply kb_here
    | with_reducible apply kl_ret
    | with_reducible apply kl_exit
    | with_reducible apply kc_ret
    | with_reducible apply kc_exit
    | (with_reducible apply kb_there; (focus rfl))
  refine l_call rfl rfl rfl (by first | (go_simp; done) | (go_simp; rfl)) (shown_has HX.out) ?_
  rintro e w' ⟨rfl, hx⟩
  clear HX
  try simp only [List.nil_append, List.cons_append, List.set_cons_zero, List.set_cons_succ] at hx
  have HX := Lib.hid hx
  clear hx
  refine ⟨_, rfl, ?_⟩
  repeat first
    | apply d_seq
    | with_reducible apply kt_normal
    | apply l_nil
    | apply d_region
    | (apply l_off; (focus rfl); (focus rfl))
    | (apply l_val; (focus rfl); (focus rfl); (focus rfl); (focus (go_simp; (try simp (disch := omega) only [wrap_in, wrap_in', wrap_u16, wrap_u8, wrap_u32, wrap_u64, rem_in, quo_in]); first | done | with_reducible rfl | (constructor <;> with_reducible rfl))))
    | (apply l_store; (focus rfl); (focus rfl); (focus rfl); (focus (go_simp; (try simp (disch := omega) only [wrap_in, wrap_in', wrap_u16, wrap_u8, wrap_u32, wrap_u64, rem_in, quo_in]); first | done | with_reducible rfl | (constructor <;> with_reducible rfl))))
    | apply d_block
    | (apply d_true; (focus rfl); (focus rfl))
    | (apply d_false; (focus rfl); (focus rfl))
    | apply d_skip
    | apply d_exit
    | apply d_ret
    | with_reducible apply kt_ret
    | with_reducible apply kt_exit
    | with_reducible apply kb_normal
    | with_reducible apply kb_ret
    | with_reducible apply kb_here
    | with_reducible apply kl_ret
    | with_reducible apply kl_exit
    | with_reducible apply kc_ret
    | with_reducible apply kc_exit
    | (with_reducible apply kb_there; (focus rfl))
  refine l_call rfl rfl rfl (by first | (go_simp; done) | (go_simp; rfl)) (new_has HX.out c n hn hn1 hn16) ?_
  rintro e w' ⟨p, g, rfl, hx⟩
  clear HX
  try simp only [List.nil_append, List.cons_append, List.set_cons_zero, List.set_cons_succ] at hx
  have HX := Lib.hid hx
  clear hx
  refine ⟨_, rfl, ?_⟩
  repeat first
    | apply d_seq
    | with_reducible apply kt_normal
    | apply l_nil
    | apply d_region
    | (apply l_off; (focus rfl); (focus rfl))
    | (apply l_val; (focus rfl); (focus rfl); (focus rfl); (focus (go_simp; (try simp (disch := omega) only [wrap_in, wrap_in', wrap_u16, wrap_u8, wrap_u32, wrap_u64, rem_in, quo_in]); first | done | with_reducible rfl | (constructor <;> with_reducible rfl))))
    | (apply l_store; (focus rfl); (focus rfl); (focus rfl); (focus (go_simp; (try simp (disch := omega) only [wrap_in, wrap_in', wrap_u16, wrap_u8, wrap_u32, wrap_u64, rem_in, quo_in]); first | done | with_reducible rfl | (constructor <;> with_reducible rfl))))
    | apply d_block
    | (apply d_true; (focus rfl); (focus rfl))
    | (apply d_false; (focus rfl); (focus rfl))
    | apply d_skip
    | apply d_exit
    | apply d_ret
    | with_reducible apply kt_ret
    | with_reducible apply kt_exit
    | with_reducible apply kb_normal
    | with_reducible apply kb_ret
    | with_reducible apply kb_here
    | with_reducible apply kl_ret
    | with_reducible apply kl_exit
    | with_reducible apply kc_ret
    | with_reducible apply kc_exit
    | (with_reducible apply kb_there; (focus rfl))
  refine d_loop (fun m D wr => ∃ (k : Nat) (s : WS), m = l0.length - k ∧ k ≤ l0.length ∧ D = [(1, .slice A0 l0.length cq0), (5, .bool true), (6, .pointer (some ⟨p, 0, none⟩)), (7, .int .i64 k)] ∧ Hid (Has w wr [WA w.heap.size p g s])) (l0.length) _ (Subl.cons (t := 1) (by decide) rfl (Subl.cons (t := 5) (by decide) rfl (Subl.cons (t := 6) (by decide) rfl (Subl.cons (t := 7) (by decide) rfl (Subl.nil _ _))))) ?_ (fun m D wr hrel => ?_)
  · exact ⟨0, _, rfl, Nat.zero_le _, rfl, HX⟩
  · clear HX
    obtain ⟨k, s, rfl, hk, rfl, HX⟩ := hrel
    by_cases hlt : k < l0.length
    · by_cases h100 : (k : Int) < 100
      · obtain ⟨y, hy⟩ : ∃ y, l0[k]? = some y := ⟨_, List.getElem?_eq_getElem hlt⟩
        obtain ⟨g1, o1, cp1, e1, -, -, hq1, hq2, hyk, c0, c1, c2, c3, c4, c5⟩ := sees_Steps H1.out hy
        simp only [Value.slice.injEq, true_and] at e1
        obtain ⟨rfl, rfl⟩ := e1
        obtain ⟨A5, d5, hyv, hb51, hb52, -⟩ := hyk.l.form
        have hos := hyk.l
        rw [hyv] at c5 hos
        have hsq := smL_qty hyk.l_ok
        have hyid := hyk.id
        have C0 := Lib.hid c0
        have C1 := Lib.hid c1
        have C2 := Lib.hid c2
        have C3 := Lib.hid c3
        have C4 := Lib.hid c4
        have C5 := Lib.hid c5
        have HOS := Lib.hid hos
        have HSQ := Lib.hid hsq
        clear c0 c1 c2 c3 c4 c5 hos hsq
        clear hy hyv hyk
        try clear c0
        have c0 := HX.out.cell0 C0.out
        try clear c1
        have c1 := HX.out.cell0 C1.out
        try clear c2
        have c2 := HX.out.cell0 C2.out
        try clear c3
        have c3 := HX.out.cell0 C3.out
        try clear c4
        have c4 := HX.out.cell0 C4.out
        try clear c5
        have c5 := HX.out.cell0 C5.out
        have hx := HX.out.box #[.int .i64 y.kind, .int .i64 y.cubby, .int .i64 y.qty, .int .u32 y.id, .int .u16 y.item, .slice A5 y.l.length d5] 37
        simp only [List.nil_append, List.cons_append] at hx
        obtain ⟨x0, x1, x2, x3, x4, x5, -⟩ := blk6 (hx.blk (i := 1) rfl)
        clear HX
        have HX := Lib.hid hx
        clear hx
        repeat first
          | apply d_seq
          | with_reducible apply kt_normal
          | apply l_nil
          | apply d_region
          | (apply l_off; (focus rfl); (focus rfl))
          | (apply l_val; (focus rfl); (focus rfl); (focus rfl); (focus (go_simp; (try simp (disch := omega) only [wrap_in, wrap_in', wrap_u16, wrap_u8, wrap_u32, wrap_u64, rem_in, quo_in]); first | done | with_reducible rfl | (constructor <;> with_reducible rfl))))
          | (apply l_store; (focus rfl); (focus rfl); (focus rfl); (focus (go_simp; (try simp (disch := omega) only [wrap_in, wrap_in', wrap_u16, wrap_u8, wrap_u32, wrap_u64, rem_in, quo_in]); first | done | with_reducible rfl | (constructor <;> with_reducible rfl))))
          | ((fail_if_success (with_reducible apply d_block (id := 2))); apply d_block)
          | (apply d_true; (focus rfl); (focus rfl))
          | (apply d_false; (focus rfl); (focus rfl))
          | apply d_skip
          | apply d_exit
          | apply d_ret
          | with_reducible apply kt_ret
          | with_reducible apply kt_exit
          | with_reducible apply kb_normal
          | with_reducible apply kb_ret
          | with_reducible apply kb_here
          | with_reducible apply kl_ret
          | with_reducible apply kl_exit
          | with_reducible apply kc_ret
          | with_reducible apply kc_exit
          | (with_reducible apply kb_there; (focus rfl))
        clear c0 c1 c2 c3 c4 c5 C0 C1 C2 C3 C4 C5
        generalize wr.alloc (.cells #[.int .i64 y.kind, .int .i64 y.cubby, .int .i64 y.qty, .int .u32 y.id, .int .u16 y.item, .slice A5 y.l.length d5] 37) = wy at *
        generalize wr.heap.size = xb at *
        refine d_join (fun D wr => ∃ (s2 : WS), D = [(1, .slice (some ⟨g1, o1, none⟩) l0.length cq0), (5, .bool true), (6, .pointer (some ⟨p, 0, none⟩)), (7, .int .i64 k)] ∧ Hid (Has w wr [WA w.heap.size p g s2])) ?_ (fun D wr hcut => ?_)
        · rcases (by omega : y.kind = 0 ∨ y.kind = 1 ∨ y.kind = 2 ∨ y.kind = 3 ∨ y.kind = 4 ∨ y.kind = 5 ∨ y.kind = 6 ∨ (y.kind ≠ 0 ∧ y.kind ≠ 1 ∧ y.kind ≠ 2 ∧ y.kind ≠ 3 ∧ y.kind ≠ 4 ∧ y.kind ≠ 5 ∧ y.kind ≠ 6)) with e1 | e1 | e1 | e1 | e1 | e1 | e1 | e1
          · rw [e1] at x0
            have hx := HX.out.drew
            clear HX
            have HX := Lib.hid hx
            clear hx
            repeat first
              | apply d_seq
              | with_reducible apply kt_normal
              | apply l_nil
              | apply d_region
              | (apply l_off; (focus rfl); (focus rfl))
              | (apply l_val; (focus rfl); (focus rfl); (focus rfl); (focus (go_simp; (try simp (disch := omega) only [wrap_in, wrap_in', wrap_u16, wrap_u8, wrap_u32, wrap_u64, rem_in, quo_in]); first | done | with_reducible rfl | (constructor <;> with_reducible rfl))))
              | (apply l_store; (focus rfl); (focus rfl); (focus rfl); (focus (go_simp; (try simp (disch := omega) only [wrap_in, wrap_in', wrap_u16, wrap_u8, wrap_u32, wrap_u64, rem_in, quo_in]); first | done | with_reducible rfl | (constructor <;> with_reducible rfl))))
              | apply d_block
              | (apply d_true; (focus rfl); (focus rfl))
              | (apply d_false; (focus rfl); (focus rfl))
              | apply d_skip
              | apply d_exit
              | apply d_ret
              | with_reducible apply kt_ret
              | with_reducible apply kt_exit
              | with_reducible apply kb_normal
              | with_reducible apply kb_ret
              | with_reducible apply kb_here
              | with_reducible apply kl_ret
              | with_reducible apply kl_exit
              | with_reducible apply kc_ret
              | with_reducible apply kc_exit
              | (with_reducible apply kb_there; (focus rfl))
            refine d_draw (true, [([], []), ([], []), ([1], [1]), ([], []), ([3], [3]), ([4], [4]), ([0, 2, 5, 5], [0, 2, 5])]) [(0, 0), (0, 1), (0, 2), (0, 3), (0, 4), (1, 5), (1, 6)] [999999] (fun W => W.cell? ⟨xb, 3, none⟩ = some (.int .u32 y.id) ∧ W.cell? ⟨xb, 5, none⟩ = some (.slice A5 y.l.length d5)) (by kernel_rfl) (by kernel_rfl) (by kernel_rfl) (by kernel_rfl) ⟨x3, x5⟩ ?_
            iterate 5
              first | (apply s_off; (focus rfl); (focus rfl); (focus rfl)) | (apply s_yield; (focus rfl); (focus rfl); (focus rfl); (focus rfl); (focus (intro W hS; obtain ⟨hS1, hS2⟩ := hS; go_simp; (try simp (disch := omega) only [wrap_in, wrap_in', wrap_u16, wrap_u8, wrap_u32, wrap_u64, rem_in, quo_in]); first | done | with_reducible rfl | (constructor <;> with_reducible rfl))))
            refine s_call rfl rfl rfl rfl (by first | (go_simp; done) | (go_simp; rfl)) (small_has HX.out y.l A5 _ d5 rfl HOS.out) ?_
            rintro e w7 ⟨B7, d7, rfl, hb71, hb72, hx⟩
            simp only [List.nil_append, List.cons_append] at hx
            obtain ⟨z0, z1, z2, z3, z4, z5, -⟩ := blk6 (hx.blk (i := 1) rfl)
            clear HX x0 x1 x2 x3 x4 x5
            have HX := Lib.hid hx
            clear hx z0 z1 z2 z4
            refine ⟨_, rfl, ⟨z3, z5⟩, ?_⟩
            refine s_call rfl rfl rfl rfl (by first | (go_simp; done) | (go_simp; rfl)) (assign_own HX.out 0 2 p g s rfl y.id (smL y.l) B7 _ d7 rfl rfl (Nat.le_trans (smL_len y.l) (by omega)) HSQ.out) ?_
            rintro e w8 ⟨rfl, hx⟩
            simp only [List.set_cons_zero, List.set_cons_succ] at hx
            obtain ⟨z0, z1, z2, z3, z4, z5, -⟩ := blk6 (hx.blk (i := 1) rfl)
            clear HX
            have HX := Lib.hid hx
            clear hx z0 z1 z2 z4
            refine ⟨_, rfl, ⟨z3, z5⟩, ?_⟩
            refine s_done ?_
            repeat first
              | apply d_seq
              | with_reducible apply kt_normal
              | apply l_nil
              | apply d_region
              | (apply l_off; (focus rfl); (focus rfl))
              | (apply l_val; (focus rfl); (focus rfl); (focus rfl); (focus (go_simp; (try simp (disch := omega) only [wrap_in, wrap_in', wrap_u16, wrap_u8, wrap_u32, wrap_u64, rem_in, quo_in]); first | done | with_reducible rfl | (constructor <;> with_reducible rfl))))
              | (apply l_store; (focus rfl); (focus rfl); (focus rfl); (focus (go_simp; (try simp (disch := omega) only [wrap_in, wrap_in', wrap_u16, wrap_u8, wrap_u32, wrap_u64, rem_in, quo_in]); first | done | with_reducible rfl | (constructor <;> with_reducible rfl))))
              | apply d_block
              | (apply d_true; (focus rfl); (focus rfl))
              | (apply d_false; (focus rfl); (focus rfl))
              | apply d_skip
              | apply d_exit
              | apply d_ret
              | with_reducible apply kt_ret
              | with_reducible apply kt_exit
              | with_reducible apply kb_normal
              | with_reducible apply kb_ret
              | with_reducible apply kb_here
              | with_reducible apply kl_ret
              | with_reducible apply kl_exit
              | with_reducible apply kc_ret
              | with_reducible apply kc_exit
              | (with_reducible apply kb_there; (focus rfl))
            refine kc_normal _ (Subl.cons (t := 1) (by decide) rfl (Subl.cons (t := 5) (by decide) rfl (Subl.cons (t := 6) (by decide) rfl (Subl.cons (t := 7) (by decide) rfl (Subl.nil _ _))))) ?_
            exact ⟨_, rfl, Lib.hid (HX.out.take 1)⟩
          · rw [e1] at x0
            have hx := HX.out.drew
            clear HX
            have HX := Lib.hid hx
            clear hx
            repeat first
              | apply d_seq
              | with_reducible apply kt_normal
              | apply l_nil
              | apply d_region
              | (apply l_off; (focus rfl); (focus rfl))
              | (apply l_val; (focus rfl); (focus rfl); (focus rfl); (focus (go_simp; (try simp (disch := omega) only [wrap_in, wrap_in', wrap_u16, wrap_u8, wrap_u32, wrap_u64, rem_in, quo_in]); first | done | with_reducible rfl | (constructor <;> with_reducible rfl))))
              | (apply l_store; (focus rfl); (focus rfl); (focus rfl); (focus (go_simp; (try simp (disch := omega) only [wrap_in, wrap_in', wrap_u16, wrap_u8, wrap_u32, wrap_u64, rem_in, quo_in]); first | done | with_reducible rfl | (constructor <;> with_reducible rfl))))
              | apply d_block
              | (apply d_true; (focus rfl); (focus rfl))
              | (apply d_false; (focus rfl); (focus rfl))
              | apply d_skip
              | apply d_exit
              | apply d_ret
              | with_reducible apply kt_ret
              | with_reducible apply kt_exit
              | with_reducible apply kb_normal
              | with_reducible apply kb_ret
              | with_reducible apply kb_here
              | with_reducible apply kl_ret
              | with_reducible apply kl_exit
              | with_reducible apply kc_ret
              | with_reducible apply kc_exit
              | (with_reducible apply kb_there; (focus rfl))
            refine d_draw (true, [([], []), ([], []), ([1], [1]), ([], []), ([3], [3]), ([4], [4]), ([0, 2, 5, 5], [0, 2, 5])]) [(0, 0), (0, 1), (0, 2), (0, 3), (0, 4), (1, 5), (1, 6)] [999999] (fun W => W.cell? ⟨xb, 3, none⟩ = some (.int .u32 y.id) ∧ W.cell? ⟨xb, 5, none⟩ = some (.slice A5 y.l.length d5)) (by kernel_rfl) (by kernel_rfl) (by kernel_rfl) (by kernel_rfl) ⟨x3, x5⟩ ?_
            iterate 5
              first | (apply s_off; (focus rfl); (focus rfl); (focus rfl)) | (apply s_yield; (focus rfl); (focus rfl); (focus rfl); (focus rfl); (focus (intro W hS; obtain ⟨hS1, hS2⟩ := hS; go_simp; (try simp (disch := omega) only [wrap_in, wrap_in', wrap_u16, wrap_u8, wrap_u32, wrap_u64, rem_in, quo_in]); first | done | with_reducible rfl | (constructor <;> with_reducible rfl))))
            refine s_call rfl rfl rfl rfl (by first | (go_simp; done) | (go_simp; rfl)) (small_has HX.out y.l A5 _ d5 rfl HOS.out) ?_
            rintro e w7 ⟨B7, d7, rfl, hb71, hb72, hx⟩
            simp only [List.nil_append, List.cons_append] at hx
            obtain ⟨z0, z1, z2, z3, z4, z5, -⟩ := blk6 (hx.blk (i := 1) rfl)
            clear HX x0 x1 x2 x3 x4 x5
            have HX := Lib.hid hx
            clear hx z0 z1 z2 z4
            refine ⟨_, rfl, ⟨z3, z5⟩, ?_⟩
            refine s_call rfl rfl rfl rfl (by first | (go_simp; done) | (go_simp; rfl)) (assign_own HX.out 0 2 p g s rfl y.id (smL y.l) B7 _ d7 rfl rfl (Nat.le_trans (smL_len y.l) (by omega)) HSQ.out) ?_
            rintro e w8 ⟨rfl, hx⟩
            simp only [List.set_cons_zero, List.set_cons_succ] at hx
            obtain ⟨z0, z1, z2, z3, z4, z5, -⟩ := blk6 (hx.blk (i := 1) rfl)
            clear HX
            have HX := Lib.hid hx
            clear hx z0 z1 z2 z4
            refine ⟨_, rfl, ⟨z3, z5⟩, ?_⟩
            refine s_done ?_
            repeat first
              | apply d_seq
              | with_reducible apply kt_normal
              | apply l_nil
              | apply d_region
              | (apply l_off; (focus rfl); (focus rfl))
              | (apply l_val; (focus rfl); (focus rfl); (focus rfl); (focus (go_simp; (try simp (disch := omega) only [wrap_in, wrap_in', wrap_u16, wrap_u8, wrap_u32, wrap_u64, rem_in, quo_in]); first | done | with_reducible rfl | (constructor <;> with_reducible rfl))))
              | (apply l_store; (focus rfl); (focus rfl); (focus rfl); (focus (go_simp; (try simp (disch := omega) only [wrap_in, wrap_in', wrap_u16, wrap_u8, wrap_u32, wrap_u64, rem_in, quo_in]); first | done | with_reducible rfl | (constructor <;> with_reducible rfl))))
              | apply d_block
              | (apply d_true; (focus rfl); (focus rfl))
              | (apply d_false; (focus rfl); (focus rfl))
              | apply d_skip
              | apply d_exit
              | apply d_ret
              | with_reducible apply kt_ret
              | with_reducible apply kt_exit
              | with_reducible apply kb_normal
              | with_reducible apply kb_ret
              | with_reducible apply kb_here
              | with_reducible apply kl_ret
              | with_reducible apply kl_exit
              | with_reducible apply kc_ret
              | with_reducible apply kc_exit
              | (with_reducible apply kb_there; (focus rfl))
            refine kc_normal _ (Subl.cons (t := 1) (by decide) rfl (Subl.cons (t := 5) (by decide) rfl (Subl.cons (t := 6) (by decide) rfl (Subl.cons (t := 7) (by decide) rfl (Subl.nil _ _))))) ?_
            exact ⟨_, rfl, Lib.hid (HX.out.take 1)⟩
          · rw [e1] at x0
            repeat first
              | apply d_seq
              | with_reducible apply kt_normal
              | apply l_nil
              | apply d_region
              | (apply l_off; (focus rfl); (focus rfl))
              | (apply l_val; (focus rfl); (focus rfl); (focus rfl); (focus (go_simp; (try simp (disch := omega) only [wrap_in, wrap_in', wrap_u16, wrap_u8, wrap_u32, wrap_u64, rem_in, quo_in]); first | done | with_reducible rfl | (constructor <;> with_reducible rfl))))
              | (apply l_store; (focus rfl); (focus rfl); (focus rfl); (focus (go_simp; (try simp (disch := omega) only [wrap_in, wrap_in', wrap_u16, wrap_u8, wrap_u32, wrap_u64, rem_in, quo_in]); first | done | with_reducible rfl | (constructor <;> with_reducible rfl))))
              | apply d_block
              | (apply d_true; (focus rfl); (focus rfl))
              | (apply d_false; (focus rfl); (focus rfl))
              | apply d_skip
              | apply d_exit
              | apply d_ret
              | with_reducible apply kt_ret
              | with_reducible apply kt_exit
              | with_reducible apply kb_normal
              | with_reducible apply kb_ret
              | with_reducible apply kb_here
              | with_reducible apply kl_ret
              | with_reducible apply kl_exit
              | with_reducible apply kc_ret
              | with_reducible apply kc_exit
              | (with_reducible apply kb_there; (focus rfl))
            refine l_call rfl rfl rfl (by first | (go_simp; done) | (go_simp; rfl)) (put_has HX.out 0 p g s rfl y.cubby (y.item % 32) y.qty) ?_
            rintro e w' ⟨rfl, hx⟩
            clear HX
            try simp only [List.nil_append, List.cons_append, List.set_cons_zero, List.set_cons_succ] at hx
            have HX := Lib.hid hx
            clear hx
            refine ⟨_, rfl, ?_⟩
            repeat first
              | apply d_seq
              | with_reducible apply kt_normal
              | apply l_nil
              | apply d_region
              | (apply l_off; (focus rfl); (focus rfl))
              | (apply l_val; (focus rfl); (focus rfl); (focus rfl); (focus (go_simp; (try simp (disch := omega) only [wrap_in, wrap_in', wrap_u16, wrap_u8, wrap_u32, wrap_u64, rem_in, quo_in]); first | done | with_reducible rfl | (constructor <;> with_reducible rfl))))
              | (apply l_store; (focus rfl); (focus rfl); (focus rfl); (focus (go_simp; (try simp (disch := omega) only [wrap_in, wrap_in', wrap_u16, wrap_u8, wrap_u32, wrap_u64, rem_in, quo_in]); first | done | with_reducible rfl | (constructor <;> with_reducible rfl))))
              | apply d_block
              | (apply d_true; (focus rfl); (focus rfl))
              | (apply d_false; (focus rfl); (focus rfl))
              | apply d_skip
              | apply d_exit
              | apply d_ret
              | with_reducible apply kt_ret
              | with_reducible apply kt_exit
              | with_reducible apply kb_normal
              | with_reducible apply kb_ret
              | with_reducible apply kb_here
              | with_reducible apply kl_ret
              | with_reducible apply kl_exit
              | with_reducible apply kc_ret
              | with_reducible apply kc_exit
              | (with_reducible apply kb_there; (focus rfl))
            refine kc_normal _ (Subl.cons (t := 1) (by decide) rfl (Subl.cons (t := 5) (by decide) rfl (Subl.cons (t := 6) (by decide) rfl (Subl.cons (t := 7) (by decide) rfl (Subl.nil _ _))))) ?_
            exact ⟨_, rfl, Lib.hid (HX.out.take 1)⟩
          · rw [e1] at x0
            repeat first
              | apply d_seq
              | with_reducible apply kt_normal
              | apply l_nil
              | apply d_region
              | (apply l_off; (focus rfl); (focus rfl))
              | (apply l_val; (focus rfl); (focus rfl); (focus rfl); (focus (go_simp; (try simp (disch := omega) only [wrap_in, wrap_in', wrap_u16, wrap_u8, wrap_u32, wrap_u64, rem_in, quo_in]); first | done | with_reducible rfl | (constructor <;> with_reducible rfl))))
              | (apply l_store; (focus rfl); (focus rfl); (focus rfl); (focus (go_simp; (try simp (disch := omega) only [wrap_in, wrap_in', wrap_u16, wrap_u8, wrap_u32, wrap_u64, rem_in, quo_in]); first | done | with_reducible rfl | (constructor <;> with_reducible rfl))))
              | apply d_block
              | (apply d_true; (focus rfl); (focus rfl))
              | (apply d_false; (focus rfl); (focus rfl))
              | apply d_skip
              | apply d_exit
              | apply d_ret
              | with_reducible apply kt_ret
              | with_reducible apply kt_exit
              | with_reducible apply kb_normal
              | with_reducible apply kb_ret
              | with_reducible apply kb_here
              | with_reducible apply kl_ret
              | with_reducible apply kl_exit
              | with_reducible apply kc_ret
              | with_reducible apply kc_exit
              | (with_reducible apply kb_there; (focus rfl))
            refine l_call rfl rfl rfl (by first | (go_simp; done) | (go_simp; rfl)) (put_has HX.out 0 p g s rfl y.cubby (y.item % 32) y.qty) ?_
            rintro e w' ⟨rfl, hx⟩
            clear HX
            try simp only [List.nil_append, List.cons_append, List.set_cons_zero, List.set_cons_succ] at hx
            have HX := Lib.hid hx
            clear hx
            refine ⟨_, rfl, ?_⟩
            repeat first
              | apply d_seq
              | with_reducible apply kt_normal
              | apply l_nil
              | apply d_region
              | (apply l_off; (focus rfl); (focus rfl))
              | (apply l_val; (focus rfl); (focus rfl); (focus rfl); (focus (go_simp; (try simp (disch := omega) only [wrap_in, wrap_in', wrap_u16, wrap_u8, wrap_u32, wrap_u64, rem_in, quo_in]); first | done | with_reducible rfl | (constructor <;> with_reducible rfl))))
              | (apply l_store; (focus rfl); (focus rfl); (focus rfl); (focus (go_simp; (try simp (disch := omega) only [wrap_in, wrap_in', wrap_u16, wrap_u8, wrap_u32, wrap_u64, rem_in, quo_in]); first | done | with_reducible rfl | (constructor <;> with_reducible rfl))))
              | apply d_block
              | (apply d_true; (focus rfl); (focus rfl))
              | (apply d_false; (focus rfl); (focus rfl))
              | apply d_skip
              | apply d_exit
              | apply d_ret
              | with_reducible apply kt_ret
              | with_reducible apply kt_exit
              | with_reducible apply kb_normal
              | with_reducible apply kb_ret
              | with_reducible apply kb_here
              | with_reducible apply kl_ret
              | with_reducible apply kl_exit
              | with_reducible apply kc_ret
              | with_reducible apply kc_exit
              | (with_reducible apply kb_there; (focus rfl))
            refine kc_normal _ (Subl.cons (t := 1) (by decide) rfl (Subl.cons (t := 5) (by decide) rfl (Subl.cons (t := 6) (by decide) rfl (Subl.cons (t := 7) (by decide) rfl (Subl.nil _ _))))) ?_
            exact ⟨_, rfl, Lib.hid (HX.out.take 1)⟩
          · rw [e1] at x0
            repeat first
              | apply d_seq
              | with_reducible apply kt_normal
              | apply l_nil
              | apply d_region
              | (apply l_off; (focus rfl); (focus rfl))
              | (apply l_val; (focus rfl); (focus rfl); (focus rfl); (focus (go_simp; (try simp (disch := omega) only [wrap_in, wrap_in', wrap_u16, wrap_u8, wrap_u32, wrap_u64, rem_in, quo_in]); first | done | with_reducible rfl | (constructor <;> with_reducible rfl))))
              | (apply l_store; (focus rfl); (focus rfl); (focus rfl); (focus (go_simp; (try simp (disch := omega) only [wrap_in, wrap_in', wrap_u16, wrap_u8, wrap_u32, wrap_u64, rem_in, quo_in]); first | done | with_reducible rfl | (constructor <;> with_reducible rfl))))
              | apply d_block
              | (apply d_true; (focus rfl); (focus rfl))
              | (apply d_false; (focus rfl); (focus rfl))
              | apply d_skip
              | apply d_exit
              | apply d_ret
              | with_reducible apply kt_ret
              | with_reducible apply kt_exit
              | with_reducible apply kb_normal
              | with_reducible apply kb_ret
              | with_reducible apply kb_here
              | with_reducible apply kl_ret
              | with_reducible apply kl_exit
              | with_reducible apply kc_ret
              | with_reducible apply kc_exit
              | (with_reducible apply kb_there; (focus rfl))
            refine l_call rfl rfl rfl (by first | (go_simp; done) | (go_simp; rfl)) (put_has HX.out 0 p g s rfl y.cubby (y.item % 32) y.qty) ?_
            rintro e w' ⟨rfl, hx⟩
            clear HX
            try simp only [List.nil_append, List.cons_append, List.set_cons_zero, List.set_cons_succ] at hx
            have HX := Lib.hid hx
            clear hx
            refine ⟨_, rfl, ?_⟩
            repeat first
              | apply d_seq
              | with_reducible apply kt_normal
              | apply l_nil
              | apply d_region
              | (apply l_off; (focus rfl); (focus rfl))
              | (apply l_val; (focus rfl); (focus rfl); (focus rfl); (focus (go_simp; (try simp (disch := omega) only [wrap_in, wrap_in', wrap_u16, wrap_u8, wrap_u32, wrap_u64, rem_in, quo_in]); first | done | with_reducible rfl | (constructor <;> with_reducible rfl))))
              | (apply l_store; (focus rfl); (focus rfl); (focus rfl); (focus (go_simp; (try simp (disch := omega) only [wrap_in, wrap_in', wrap_u16, wrap_u8, wrap_u32, wrap_u64, rem_in, quo_in]); first | done | with_reducible rfl | (constructor <;> with_reducible rfl))))
              | apply d_block
              | (apply d_true; (focus rfl); (focus rfl))
              | (apply d_false; (focus rfl); (focus rfl))
              | apply d_skip
              | apply d_exit
              | apply d_ret
              | with_reducible apply kt_ret
              | with_reducible apply kt_exit
              | with_reducible apply kb_normal
              | with_reducible apply kb_ret
              | with_reducible apply kb_here
              | with_reducible apply kl_ret
              | with_reducible apply kl_exit
              | with_reducible apply kc_ret
              | with_reducible apply kc_exit
              | (with_reducible apply kb_there; (focus rfl))
            refine kc_normal _ (Subl.cons (t := 1) (by decide) rfl (Subl.cons (t := 5) (by decide) rfl (Subl.cons (t := 6) (by decide) rfl (Subl.cons (t := 7) (by decide) rfl (Subl.nil _ _))))) ?_
            exact ⟨_, rfl, Lib.hid (HX.out.take 1)⟩
          · rw [e1] at x0
            repeat first
              | apply d_seq
              | with_reducible apply kt_normal
              | apply l_nil
              | apply d_region
              | (apply l_off; (focus rfl); (focus rfl))
              | (apply l_val; (focus rfl); (focus rfl); (focus rfl); (focus (go_simp; (try simp (disch := omega) only [wrap_in, wrap_in', wrap_u16, wrap_u8, wrap_u32, wrap_u64, rem_in, quo_in]); first | done | with_reducible rfl | (constructor <;> with_reducible rfl))))
              | (apply l_store; (focus rfl); (focus rfl); (focus rfl); (focus (go_simp; (try simp (disch := omega) only [wrap_in, wrap_in', wrap_u16, wrap_u8, wrap_u32, wrap_u64, rem_in, quo_in]); first | done | with_reducible rfl | (constructor <;> with_reducible rfl))))
              | apply d_block
              | (apply d_true; (focus rfl); (focus rfl))
              | (apply d_false; (focus rfl); (focus rfl))
              | apply d_skip
              | apply d_exit
              | apply d_ret
              | with_reducible apply kt_ret
              | with_reducible apply kt_exit
              | with_reducible apply kb_normal
              | with_reducible apply kb_ret
              | with_reducible apply kb_here
              | with_reducible apply kl_ret
              | with_reducible apply kl_exit
              | with_reducible apply kc_ret
              | with_reducible apply kc_exit
              | (with_reducible apply kb_there; (focus rfl))
            refine l_call rfl rfl rfl (by first | (go_simp; done) | (go_simp; rfl)) (less_has HX.out 0 p g s rfl y.id (y.item % 32) y.qty) ?_
            rintro e w' ⟨rfl, hx⟩
            clear HX
            try simp only [List.nil_append, List.cons_append, List.set_cons_zero, List.set_cons_succ] at hx
            have HX := Lib.hid hx
            clear hx
            refine ⟨_, rfl, ?_⟩
            repeat first
              | apply d_seq
              | with_reducible apply kt_normal
              | apply l_nil
              | apply d_region
              | (apply l_off; (focus rfl); (focus rfl))
              | (apply l_val; (focus rfl); (focus rfl); (focus rfl); (focus (go_simp; (try simp (disch := omega) only [wrap_in, wrap_in', wrap_u16, wrap_u8, wrap_u32, wrap_u64, rem_in, quo_in]); first | done | with_reducible rfl | (constructor <;> with_reducible rfl))))
              | (apply l_store; (focus rfl); (focus rfl); (focus rfl); (focus (go_simp; (try simp (disch := omega) only [wrap_in, wrap_in', wrap_u16, wrap_u8, wrap_u32, wrap_u64, rem_in, quo_in]); first | done | with_reducible rfl | (constructor <;> with_reducible rfl))))
              | apply d_block
              | (apply d_true; (focus rfl); (focus rfl))
              | (apply d_false; (focus rfl); (focus rfl))
              | apply d_skip
              | apply d_exit
              | apply d_ret
              | with_reducible apply kt_ret
              | with_reducible apply kt_exit
              | with_reducible apply kb_normal
              | with_reducible apply kb_ret
              | with_reducible apply kb_here
              | with_reducible apply kl_ret
              | with_reducible apply kl_exit
              | with_reducible apply kc_ret
              | with_reducible apply kc_exit
              | (with_reducible apply kb_there; (focus rfl))
            refine kc_normal _ (Subl.cons (t := 1) (by decide) rfl (Subl.cons (t := 5) (by decide) rfl (Subl.cons (t := 6) (by decide) rfl (Subl.cons (t := 7) (by decide) rfl (Subl.nil _ _))))) ?_
            exact ⟨_, rfl, Lib.hid (HX.out.take 1)⟩
          · rw [e1] at x0
            repeat first
              | apply d_seq
              | with_reducible apply kt_normal
              | apply l_nil
              | apply d_region
              | (apply l_off; (focus rfl); (focus rfl))
              | (apply l_val; (focus rfl); (focus rfl); (focus rfl); (focus (go_simp; (try simp (disch := omega) only [wrap_in, wrap_in', wrap_u16, wrap_u8, wrap_u32, wrap_u64, rem_in, quo_in]); first | done | with_reducible rfl | (constructor <;> with_reducible rfl))))
              | (apply l_store; (focus rfl); (focus rfl); (focus rfl); (focus (go_simp; (try simp (disch := omega) only [wrap_in, wrap_in', wrap_u16, wrap_u8, wrap_u32, wrap_u64, rem_in, quo_in]); first | done | with_reducible rfl | (constructor <;> with_reducible rfl))))
              | apply d_block
              | (apply d_true; (focus rfl); (focus rfl))
              | (apply d_false; (focus rfl); (focus rfl))
              | apply d_skip
              | apply d_exit
              | apply d_ret
              | with_reducible apply kt_ret
              | with_reducible apply kt_exit
              | with_reducible apply kb_normal
              | with_reducible apply kb_ret
              | with_reducible apply kb_here
              | with_reducible apply kl_ret
              | with_reducible apply kl_exit
              | with_reducible apply kc_ret
              | with_reducible apply kc_exit
              | (with_reducible apply kb_there; (focus rfl))
            refine l_call rfl rfl rfl (by first | (go_simp; done) | (go_simp; rfl)) (release_has HX.out 0 p g s rfl y.cubby) ?_
            rintro e w' ⟨rfl, hx⟩
            clear HX
            try simp only [List.nil_append, List.cons_append, List.set_cons_zero, List.set_cons_succ] at hx
            have HX := Lib.hid hx
            clear hx
            refine ⟨_, rfl, ?_⟩
            repeat first
              | apply d_seq
              | with_reducible apply kt_normal
              | apply l_nil
              | apply d_region
              | (apply l_off; (focus rfl); (focus rfl))
              | (apply l_val; (focus rfl); (focus rfl); (focus rfl); (focus (go_simp; (try simp (disch := omega) only [wrap_in, wrap_in', wrap_u16, wrap_u8, wrap_u32, wrap_u64, rem_in, quo_in]); first | done | with_reducible rfl | (constructor <;> with_reducible rfl))))
              | (apply l_store; (focus rfl); (focus rfl); (focus rfl); (focus (go_simp; (try simp (disch := omega) only [wrap_in, wrap_in', wrap_u16, wrap_u8, wrap_u32, wrap_u64, rem_in, quo_in]); first | done | with_reducible rfl | (constructor <;> with_reducible rfl))))
              | apply d_block
              | (apply d_true; (focus rfl); (focus rfl))
              | (apply d_false; (focus rfl); (focus rfl))
              | apply d_skip
              | apply d_exit
              | apply d_ret
              | with_reducible apply kt_ret
              | with_reducible apply kt_exit
              | with_reducible apply kb_normal
              | with_reducible apply kb_ret
              | with_reducible apply kb_here
              | with_reducible apply kl_ret
              | with_reducible apply kl_exit
              | with_reducible apply kc_ret
              | with_reducible apply kc_exit
              | (with_reducible apply kb_there; (focus rfl))
            refine kc_normal _ (Subl.cons (t := 1) (by decide) rfl (Subl.cons (t := 5) (by decide) rfl (Subl.cons (t := 6) (by decide) rfl (Subl.cons (t := 7) (by decide) rfl (Subl.nil _ _))))) ?_
            exact ⟨_, rfl, Lib.hid (HX.out.take 1)⟩
          · obtain ⟨d0, d1, d2, d3, d4, d5, d6⟩ := e1
            have q0 : (y.kind == 0) = false := by simpa using d0
            have q1 : (y.kind == 1) = false := by simpa using d1
            have q2 : (y.kind == 2) = false := by simpa using d2
            have q3 : (y.kind == 3) = false := by simpa using d3
            have q4 : (y.kind == 4) = false := by simpa using d4
            have q5 : (y.kind == 5) = false := by simpa using d5
            have q6 : (y.kind == 6) = false := by simpa using d6
            repeat first
              | apply d_seq
              | with_reducible apply kt_normal
              | apply l_nil
              | apply d_region
              | (apply l_off; (focus rfl); (focus rfl))
              | (apply l_val; (focus rfl); (focus rfl); (focus rfl); (focus (go_simp; (try simp (disch := omega) only [wrap_in, wrap_in', wrap_u16, wrap_u8, wrap_u32, wrap_u64, rem_in, quo_in]); first | done | with_reducible rfl | (constructor <;> with_reducible rfl))))
              | (apply l_store; (focus rfl); (focus rfl); (focus rfl); (focus (go_simp; (try simp (disch := omega) only [wrap_in, wrap_in', wrap_u16, wrap_u8, wrap_u32, wrap_u64, rem_in, quo_in]); first | done | with_reducible rfl | (constructor <;> with_reducible rfl))))
              | apply d_block
              | (apply d_true; (focus rfl); (focus rfl))
              | (apply d_false; (focus rfl); (focus rfl))
              | apply d_skip
              | apply d_exit
              | apply d_ret
              | with_reducible apply kt_ret
              | with_reducible apply kt_exit
              | with_reducible apply kb_normal
              | with_reducible apply kb_ret
              | with_reducible apply kb_here
              | with_reducible apply kl_ret
              | with_reducible apply kl_exit
              | with_reducible apply kc_ret
              | with_reducible apply kc_exit
              | (with_reducible apply kb_there; (focus rfl))
            refine kc_normal _ (Subl.cons (t := 1) (by decide) rfl (Subl.cons (t := 5) (by decide) rfl (Subl.cons (t := 6) (by decide) rfl (Subl.cons (t := 7) (by decide) rfl (Subl.nil _ _))))) ?_
            exact ⟨_, rfl, Lib.hid (HX.out.take 1)⟩
        · clear HX x0 x1 x2 x3 x4 x5
          obtain ⟨s2, rfl, HX⟩ := hcut
          repeat first
            | apply d_seq
            | with_reducible apply kt_normal
            | apply l_nil
            | apply d_region
            | (apply l_off; (focus rfl); (focus rfl))
            | (apply l_val; (focus rfl); (focus rfl); (focus rfl); (focus (go_simp; (try simp (disch := omega) only [wrap_in, wrap_in', wrap_u16, wrap_u8, wrap_u32, wrap_u64, rem_in, quo_in]); first | done | with_reducible rfl | (constructor <;> with_reducible rfl))))
            | (apply l_store; (focus rfl); (focus rfl); (focus rfl); (focus (go_simp; (try simp (disch := omega) only [wrap_in, wrap_in', wrap_u16, wrap_u8, wrap_u32, wrap_u64, rem_in, quo_in]); first | done | with_reducible rfl | (constructor <;> with_reducible rfl))))
            | apply d_block
            | (apply d_true; (focus rfl); (focus rfl))
            | (apply d_false; (focus rfl); (focus rfl))
            | apply d_skip
            | apply d_exit
            | apply d_ret
            | with_reducible apply kt_ret
            | with_reducible apply kt_exit
            | with_reducible apply kb_normal
            | with_reducible apply kb_ret
            | with_reducible apply kb_here
            | with_reducible apply kl_ret
            | with_reducible apply kl_exit
            | with_reducible apply kc_ret
            | with_reducible apply kc_exit
            | (with_reducible apply kb_there; (focus rfl))
          refine d_loop (fun m D wr => ∃ (q : Nat), m = 16 - q ∧ q ≤ 16 ∧ D = [(1, .slice (some ⟨g1, o1, none⟩) l0.length cq0), (5, .bool true), (6, .pointer (some ⟨p, 0, none⟩)), (7, .int .i64 k), (9, .int .i64 q)] ∧ Hid (Has w wr [WA w.heap.size p g s2])) (16) _ (Subl.cons (t := 1) (by decide) rfl (Subl.cons (t := 5) (by decide) rfl (Subl.cons (t := 6) (by decide) rfl (Subl.cons (t := 7) (by decide) rfl (Subl.cons (t := 9) (by decide) rfl (Subl.nil _ _)))))) ?_ (fun m D wr hrel => ?_)
          · exact ⟨0, rfl, Nat.zero_le _, rfl, HX⟩
          · clear HX
            obtain ⟨q, rfl, hq, rfl, HX⟩ := hrel
            by_cases hq16 : (q : Int) < 16
            · obtain ⟨held, od, hord, hfull, hfree, hneed⟩ := look (HX.out.goodW (i := 0) rfl) (q : Int)
              obtain ⟨ls, hls⟩ : ∃ ls, s2.needs (q : Int) = ls := ⟨_, rfl⟩
              obtain ⟨N, hN⟩ : ∃ N : Nat, ls.length = N := ⟨_, rfl⟩
              have hc := needs_has HX.out 0 p g s2 rfl q
              rw [hls] at hc hfull hfree hneed
              rw [hN] at hc hfull
              have hN1 : N ≤ ls.length := by omega
              have hN2 : ls.length ≤ N := by omega
              have h12 := hneed.len
              have HNN : Hid (held = false → N = 0) := Lib.hid (fun hh => by rw [← hN, hfree hh]; rfl)
              have HLS := Lib.hid (And.intro hls hN)
              have HC := Lib.hid hc
              have HORD := Lib.hid hord
              have HFULL := Lib.hid hfull
              have HNEED := Lib.hid hneed
              clear hc hord hfull hneed
              clear hls hN hfree
              repeat first
                | apply d_seq
                | with_reducible apply kt_normal
                | apply l_nil
                | apply d_region
                | (apply l_off; (focus rfl); (focus rfl))
                | (apply l_val; (focus rfl); (focus rfl); (focus rfl); (focus (go_simp; (try simp (disch := omega) only [wrap_in, wrap_in', wrap_u16, wrap_u8, wrap_u32, wrap_u64, rem_in, quo_in]); first | done | with_reducible rfl | (constructor <;> with_reducible rfl))))
                | (apply l_store; (focus rfl); (focus rfl); (focus rfl); (focus (go_simp; (try simp (disch := omega) only [wrap_in, wrap_in', wrap_u16, wrap_u8, wrap_u32, wrap_u64, rem_in, quo_in]); first | done | with_reducible rfl | (constructor <;> with_reducible rfl))))
                | apply d_block
                | (apply d_true; (focus rfl); (focus rfl))
                | (apply d_false; (focus rfl); (focus rfl))
                | apply d_skip
                | apply d_exit
                | apply d_ret
                | with_reducible apply kt_ret
                | with_reducible apply kt_exit
                | with_reducible apply kb_normal
                | with_reducible apply kb_ret
                | with_reducible apply kb_here
                | with_reducible apply kl_ret
                | with_reducible apply kl_exit
                | with_reducible apply kc_ret
                | with_reducible apply kc_exit
                | (with_reducible apply kb_there; (focus rfl))
              refine l_call rfl rfl rfl (by first | (go_simp; done) | (go_simp; rfl)) (HC.out) ?_
              rintro e w' ⟨B7, d7, rfl, hb71, hb72, hx⟩
              clear HX
              try simp only [List.nil_append, List.cons_append, List.set_cons_zero, List.set_cons_succ] at hx
              have HX := Lib.hid hx
              clear hx
              refine ⟨_, rfl, ?_⟩
              repeat first
                | apply d_seq
                | with_reducible apply kt_normal
                | apply l_nil
                | apply d_region
                | (apply l_off; (focus rfl); (focus rfl))
                | (apply l_val; (focus rfl); (focus rfl); (focus rfl); (focus (go_simp; (try simp (disch := omega) only [wrap_in, wrap_in', wrap_u16, wrap_u8, wrap_u32, wrap_u64, rem_in, quo_in]); first | done | with_reducible rfl | (constructor <;> with_reducible rfl))))
                | (apply l_store; (focus rfl); (focus rfl); (focus rfl); (focus (go_simp; (try simp (disch := omega) only [wrap_in, wrap_in', wrap_u16, wrap_u8, wrap_u32, wrap_u64, rem_in, quo_in]); first | done | with_reducible rfl | (constructor <;> with_reducible rfl))))
                | apply d_block
                | (apply d_true; (focus rfl); (focus rfl))
                | (apply d_false; (focus rfl); (focus rfl))
                | apply d_skip
                | apply d_exit
                | apply d_ret
                | with_reducible apply kt_ret
                | with_reducible apply kt_exit
                | with_reducible apply kb_normal
                | with_reducible apply kb_ret
                | with_reducible apply kb_here
                | with_reducible apply kl_ret
                | with_reducible apply kl_exit
                | with_reducible apply kc_ret
                | with_reducible apply kc_exit
                | (with_reducible apply kb_there; (focus rfl))
              have hc := order_has HX.out 0 p g s2 rfl q
              rw [HORD.out] at hc
              clear HC
              have HC := Lib.hid hc
              clear hc
              refine l_call rfl rfl rfl (by first | (go_simp; done) | (go_simp; rfl)) (HC.out) ?_
              rintro e w' ⟨rfl, hx⟩
              clear HX
              try simp only [List.nil_append, List.cons_append, List.set_cons_zero, List.set_cons_succ] at hx
              have HX := Lib.hid hx
              clear hx
              refine ⟨_, rfl, ?_⟩
              repeat first
                | apply d_seq
                | with_reducible apply kt_normal
                | apply l_nil
                | apply d_region
                | (apply l_off; (focus rfl); (focus rfl))
                | (apply l_val; (focus rfl); (focus rfl); (focus rfl); (focus (go_simp; (try simp (disch := omega) only [wrap_in, wrap_in', wrap_u16, wrap_u8, wrap_u32, wrap_u64, rem_in, quo_in]); first | done | with_reducible rfl | (constructor <;> with_reducible rfl))))
                | (apply l_store; (focus rfl); (focus rfl); (focus rfl); (focus (go_simp; (try simp (disch := omega) only [wrap_in, wrap_in', wrap_u16, wrap_u8, wrap_u32, wrap_u64, rem_in, quo_in]); first | done | with_reducible rfl | (constructor <;> with_reducible rfl))))
                | apply d_block
                | (apply d_true; (focus rfl); (focus rfl))
                | (apply d_false; (focus rfl); (focus rfl))
                | apply d_skip
                | apply d_exit
                | apply d_ret
                | with_reducible apply kt_ret
                | with_reducible apply kt_exit
                | with_reducible apply kb_normal
                | with_reducible apply kb_ret
                | with_reducible apply kb_here
                | with_reducible apply kl_ret
                | with_reducible apply kl_exit
                | with_reducible apply kc_ret
                | with_reducible apply kc_exit
                | (with_reducible apply kb_there; (focus rfl))
              clear HC
              refine d_loop (fun m D wr => ∃ (j : Nat) (ls' : List Ln), m = N - j ∧ j ≤ N ∧ D = [(1, .slice (some ⟨g1, o1, none⟩) l0.length cq0), (5, .bool true), (6, .pointer (some ⟨p, 0, none⟩)), (7, .int .i64 k), (9, .int .i64 q), (10, .slice B7 N d7), (12, .bool held), (13, .int .i64 j)] ∧ Hid (Has w wr [WA w.heap.size p g s2, OwnA w.heap.size 35 3 (.slice B7 N d7) N (lns ls')]) ∧ Hid (ls'.map Ln.item = ls.map Ln.item ∧ ∀ i : Nat, j ≤ i → ls'[i]? = ls[i]?)) (N) _ (Subl.cons (t := 1) (by decide) rfl (Subl.cons (t := 5) (by decide) rfl (Subl.cons (t := 6) (by decide) rfl (Subl.cons (t := 7) (by decide) rfl (Subl.cons (t := 9) (by decide) rfl (Subl.cons (t := 10) (by decide) rfl (Subl.cons (t := 12) (by decide) rfl (Subl.cons (t := 13) (by decide) rfl (Subl.nil _ _))))))))) ?_ (fun m D wr hrel => ?_)
              · exact ⟨0, ls, rfl, Nat.zero_le _, rfl, HX, Lib.hid ⟨rfl, fun _ _ => rfl⟩⟩
              · clear HX
                obtain ⟨j, ls', rfl, hj, rfl, HX, HR⟩ := hrel
                by_cases hjN : j < N
                · obtain ⟨y2, hy2⟩ : ∃ y2, ls[j]? = some y2 := ⟨_, List.getElem?_eq_getElem (by omega)⟩
                  have hpos := (HNEED.out.pos y2 (List.mem_of_getElem? hy2)).1
                  have hy3 : ls'[j]? = some y2 := (HR.out.2 j (Nat.le_refl _)).trans hy2
                  obtain ⟨g2, rfl, -, -, ⟨u0, u1, u2⟩, uf, hst⟩ := HX.out.rowLn (i := 1) rfl hy3 hjN
                  have p1 : decide (y2.qty < 1) = false := decide_eq_false (by omega)
                  have hst := hst 0
                  simp only [List.set_cons_zero, List.set_cons_succ] at hst
                  have HR2 : Hid ((ls'.set j { y2 with qty := 0 }).map Ln.item = ls.map Ln.item ∧ ∀ i : Nat, j + 1 ≤ i → (ls'.set j { y2 with qty := 0 })[i]? = ls[i]?) := Lib.hid ⟨by
                    rw [← HR.out.1, List.map_set, set_same' (by rw [List.getElem?_map, hy3]; rfl)], fun i hi => by rw [List.getElem?_set_ne (by omega)]; exact HR.out.2 i (by omega)⟩
                  have HST := Lib.hid hst
                  clear hst
                  cases j with
                  | zero =>
                    clear hy2 hy3
                    rw [Nat.zero_mul] at u0 u1 u2 uf HST
                    repeat first
                      | apply d_seq
                      | with_reducible apply kt_normal
                      | apply l_nil
                      | apply d_region
                      | (apply l_off; (focus rfl); (focus rfl))
                      | (apply l_val; (focus rfl); (focus rfl); (focus rfl); (focus (go_simp; (try simp (disch := omega) only [wrap_in, wrap_in', wrap_u16, wrap_u8, wrap_u32, wrap_u64, rem_in, quo_in]); first | done | with_reducible rfl | (constructor <;> with_reducible rfl))))
                      | (apply l_store; (focus rfl); (focus rfl); (focus rfl); (focus (go_simp; (try simp (disch := omega) only [wrap_in, wrap_in', wrap_u16, wrap_u8, wrap_u32, wrap_u64, rem_in, quo_in]); first | done | with_reducible rfl | (constructor <;> with_reducible rfl))))
                      | apply d_block
                      | (apply d_true; (focus rfl); (focus rfl))
                      | (apply d_false; (focus rfl); (focus rfl))
                      | apply d_skip
                      | apply d_exit
                      | apply d_ret
                      | with_reducible apply kt_ret
                      | with_reducible apply kt_exit
                      | with_reducible apply kb_normal
                      | with_reducible apply kb_ret
                      | with_reducible apply kb_here
                      | with_reducible apply kl_ret
                      | with_reducible apply kl_exit
                      | with_reducible apply kc_ret
                      | with_reducible apply kc_exit
                      | (with_reducible apply kb_there; (focus rfl))
                    refine d_draw (true, [([], []), ([], []), ([0, 1], [0, 1]), ([2], [2]), ([3], [3]), ([4], [4]), ([5], [5]), ([6], [6]), ([7, 6], [6, 7]), ([8, 6, 6], [6, 8]), ([9], [9]), ([9], [9]), ([11, 9], [9, 11]), ([10, 12, 9], [9, 10, 12]), ([13, 9], [9, 13]), ([14, 9], [9, 14]), ([9], [9]), ([9], [9]), ([16, 17, 9], [9, 16, 17]), ([18, 9], [9, 18]), ([19, 9], [9, 19]), ([15, 20, 9], [9, 15, 20]), ([9, 21, 6], [6, 9, 21]), ([6, 22], [6, 22])]) [(0, 0), (0, 1), (0, 2), (0, 3), (0, 4), (0, 5), (0, 6), (0, 7), (0, 8), (0, 9), (0, 10), (0, 11), (0, 12), (0, 13), (0, 14), (0, 15), (0, 16), (0, 17), (0, 18), (0, 19), (0, 20), (0, 21), (0, 22), (0, 23)] [999999] (fun W => W.cell? ⟨g2, 2, none⟩ = some (.int .i64 y2.qty)) (by kernel_rfl) (by kernel_rfl) (by kernel_rfl) (by kernel_rfl) u2 ?_
                    iterate 24
                      first | (apply s_off; (focus rfl); (focus rfl); (focus rfl)) | (apply s_yield; (focus rfl); (focus rfl); (focus rfl); (focus rfl); (focus (intro W hS; go_simp; (try simp (disch := omega) only [wrap_in, wrap_in', wrap_u16, wrap_u8, wrap_u32, wrap_u64, rem_in, quo_in]); first | done | with_reducible rfl | (constructor <;> with_reducible rfl))))
                    refine s_done ?_
                    repeat first
                      | apply d_seq
                      | with_reducible apply kt_normal
                      | apply l_nil
                      | apply d_region
                      | (apply l_off; (focus rfl); (focus rfl))
                      | (apply l_val; (focus rfl); (focus rfl); (focus rfl); (focus (go_simp; (try simp (disch := omega) only [wrap_in, wrap_in', wrap_u16, wrap_u8, wrap_u32, wrap_u64, rem_in, quo_in]); first | done | with_reducible rfl | (constructor <;> with_reducible rfl))))
                      | (apply l_store; (focus rfl); (focus rfl); (focus rfl); (focus (go_simp; (try simp (disch := omega) only [wrap_in, wrap_in', wrap_u16, wrap_u8, wrap_u32, wrap_u64, rem_in, quo_in]); first | done | with_reducible rfl | (constructor <;> with_reducible rfl))))
                      | apply d_block
                      | (apply d_true; (focus rfl); (focus rfl))
                      | (apply d_false; (focus rfl); (focus rfl))
                      | apply d_skip
                      | apply d_exit
                      | apply d_ret
                      | with_reducible apply kt_ret
                      | with_reducible apply kt_exit
                      | with_reducible apply kb_normal
                      | with_reducible apply kb_ret
                      | with_reducible apply kb_here
                      | with_reducible apply kl_ret
                      | with_reducible apply kl_exit
                      | with_reducible apply kc_ret
                      | with_reducible apply kc_exit
                      | (with_reducible apply kb_there; (focus rfl))
                    refine kl_normal (N - 1) _ (by omega) (Subl.cons (t := 1) (by decide) rfl (Subl.cons (t := 5) (by decide) rfl (Subl.cons (t := 6) (by decide) rfl (Subl.cons (t := 7) (by decide) rfl (Subl.cons (t := 9) (by decide) rfl (Subl.cons (t := 10) (by decide) rfl (Subl.cons (t := 12) (by decide) rfl (Subl.cons (t := 13) (by decide) rfl (Subl.nil _ _))))))))) ?_
                    exact ⟨1, _, rfl, by omega, rfl, Lib.hid HST.out.drew, HR2⟩
                  | succ v =>
                    obtain ⟨z, hz⟩ : ∃ z, ls[v]? = some z := ⟨_, List.getElem?_eq_getElem (by omega)⟩
                    obtain ⟨z', hz'⟩ : ∃ z', ls'[v]? = some z' := ⟨_, List.getElem?_eq_getElem (by have := congrArg List.length HR.out.1; simp only [List.length_map] at this; omega)⟩
                    have hzi : z'.item = z.item := by
                      have := congrArg (fun l => l[v]?) HR.out.1
                      simp only [List.getElem?_map, hz, hz', Option.map_some, Option.some.injEq] at this
                      exact this
                    obtain ⟨t0, -, -⟩ := HX.out.rowAt (i := 1) rfl hz' (by omega)
                    rw [hzi] at t0
                    have hlt2 : z.item < y2.item := by
                      have := List.pairwise_iff_getElem.1 HNEED.out.asc v (v + 1) (by omega) (by omega) (by omega)
                      rw [(List.getElem?_eq_some_iff.1 hz).2, (List.getElem?_eq_some_iff.1 hy2).2] at this
                      exact this
                    have p2 : decide ((v : Int) + 1 > 0) = true := decide_eq_true (by omega)
                    have p2' : decide (0 < (v : Int) + 1) = true := decide_eq_true (by omega)
                    have p3 : ((v : Int) + 1 - 1) = v := by omega
                    have p4 : decide (z.item ≥ y2.item) = false := decide_eq_false (by omega)
                    have p4' : decide (y2.item ≤ z.item) = false := decide_eq_false (by omega)
                    have p5 : ((v : Nat) : Int) < ((N : Nat) : Int) := by omega
                    have p6 : (0 : Int) ≤ ((v : Nat) : Int) := by omega
                    have p7 : decide ((v : Int) + 1 < (N : Int)) = true := decide_eq_true (by omega)
                    have p8 : (v : Int) + 1 < (N : Int) := by omega
                    have p9 : (0 : Int) ≤ (v : Int) + 1 := by omega
                    clear hy2 hy3 hz hz' hzi
                    repeat first
                      | apply d_seq
                      | with_reducible apply kt_normal
                      | apply l_nil
                      | apply d_region
                      | (apply l_off; (focus rfl); (focus rfl))
                      | (apply l_val; (focus rfl); (focus rfl); (focus rfl); (focus (go_simp; (try simp (disch := omega) only [wrap_in, wrap_in', wrap_u16, wrap_u8, wrap_u32, wrap_u64, rem_in, quo_in]); first | done | with_reducible rfl | (constructor <;> with_reducible rfl))))
                      | (apply l_store; (focus rfl); (focus rfl); (focus rfl); (focus (go_simp; (try simp (disch := omega) only [wrap_in, wrap_in', wrap_u16, wrap_u8, wrap_u32, wrap_u64, rem_in, quo_in]); first | done | with_reducible rfl | (constructor <;> with_reducible rfl))))
                      | apply d_block
                      | (apply d_true; (focus rfl); (focus rfl))
                      | (apply d_false; (focus rfl); (focus rfl))
                      | apply d_skip
                      | apply d_exit
                      | apply d_ret
                      | with_reducible apply kt_ret
                      | with_reducible apply kt_exit
                      | with_reducible apply kb_normal
                      | with_reducible apply kb_ret
                      | with_reducible apply kb_here
                      | with_reducible apply kl_ret
                      | with_reducible apply kl_exit
                      | with_reducible apply kc_ret
                      | with_reducible apply kc_exit
                      | (with_reducible apply kb_there; (focus rfl))
                    refine d_draw (true, [([], []), ([], []), ([0, 1], [0, 1]), ([2], [2]), ([3], [3]), ([4], [4]), ([5], [5]), ([6], [6]), ([7, 6], [6, 7]), ([8, 6, 6], [6, 8]), ([9], [9]), ([9], [9]), ([11, 9], [9, 11]), ([10, 12, 9], [9, 10, 12]), ([13, 9], [9, 13]), ([14, 9], [9, 14]), ([9], [9]), ([9], [9]), ([16, 17, 9], [9, 16, 17]), ([18, 9], [9, 18]), ([19, 9], [9, 19]), ([15, 20, 9], [9, 15, 20]), ([9, 21, 6], [6, 9, 21]), ([6, 22], [6, 22])]) [(0, 0), (0, 1), (0, 2), (0, 3), (0, 4), (0, 5), (0, 6), (0, 7), (0, 8), (0, 9), (0, 10), (0, 11), (0, 12), (0, 13), (0, 14), (0, 15), (0, 16), (0, 17), (0, 18), (0, 19), (0, 20), (0, 21), (0, 22), (0, 23)] [999999] (fun W => W.cell? ⟨g2, (v + 1) * 3 + 2, none⟩ = some (.int .i64 y2.qty) ∧ W.cell? ⟨g2, (v + 1) * 3, none⟩ = some (.int .u16 y2.item) ∧ W.cell? ⟨g2, v * 3, none⟩ = some (.int .u16 z.item)) (by kernel_rfl) (by kernel_rfl) (by kernel_rfl) (by kernel_rfl) ⟨u2, u0, t0⟩ ?_
                    iterate 24
                      first | (apply s_off; (focus rfl); (focus rfl); (focus rfl)) | (apply s_yield; (focus rfl); (focus rfl); (focus rfl); (focus rfl); (focus (intro W hS; obtain ⟨hS1, hS2, hS3⟩ := hS; go_simp; (try simp (disch := omega) only [wrap_in, wrap_in', wrap_u16, wrap_u8, wrap_u32, wrap_u64, rem_in, quo_in]); first | done | with_reducible rfl | (constructor <;> with_reducible rfl))))
                    refine s_done ?_
                    repeat first
                      | apply d_seq
                      | with_reducible apply kt_normal
                      | apply l_nil
                      | apply d_region
                      | (apply l_off; (focus rfl); (focus rfl))
                      | (apply l_val; (focus rfl); (focus rfl); (focus rfl); (focus (go_simp; (try simp (disch := omega) only [wrap_in, wrap_in', wrap_u16, wrap_u8, wrap_u32, wrap_u64, rem_in, quo_in]); first | done | with_reducible rfl | (constructor <;> with_reducible rfl))))
                      | (apply l_store; (focus rfl); (focus rfl); (focus rfl); (focus (go_simp; (try simp (disch := omega) only [wrap_in, wrap_in', wrap_u16, wrap_u8, wrap_u32, wrap_u64, rem_in, quo_in]); first | done | with_reducible rfl | (constructor <;> with_reducible rfl))))
                      | apply d_block
                      | (apply d_true; (focus rfl); (focus rfl))
                      | (apply d_false; (focus rfl); (focus rfl))
                      | apply d_skip
                      | apply d_exit
                      | apply d_ret
                      | with_reducible apply kt_ret
                      | with_reducible apply kt_exit
                      | with_reducible apply kb_normal
                      | with_reducible apply kb_ret
                      | with_reducible apply kb_here
                      | with_reducible apply kl_ret
                      | with_reducible apply kl_exit
                      | with_reducible apply kc_ret
                      | with_reducible apply kc_exit
                      | (with_reducible apply kb_there; (focus rfl))
                    refine kl_normal (N - (v + 1 + 1)) _ (by omega) (Subl.cons (t := 1) (by decide) rfl (Subl.cons (t := 5) (by decide) rfl (Subl.cons (t := 6) (by decide) rfl (Subl.cons (t := 7) (by decide) rfl (Subl.cons (t := 9) (by decide) rfl (Subl.cons (t := 10) (by decide) rfl (Subl.cons (t := 12) (by decide) rfl (Subl.cons (t := 13) (by decide) rfl (Subl.nil _ _))))))))) ?_
                    exact ⟨v + 1 + 1, _, rfl, by omega, rfl, Lib.hid HST.out.drew, HR2⟩
                · have hc2 := needs_has HX.out 0 p g s2 rfl q
                  rw [HLS.out.1, HLS.out.2] at hc2
                  have hc := full_has HX.out 0 p g s2 rfl q
                  rw [HFULL.out] at hc
                  have HC := Lib.hid hc
                  clear hc
                  have HNQ := HNN
                  cases held with
                  | false =>
                    obtain rfl : N = 0 := HNN.out rfl
                    repeat first
                      | apply d_seq
                      | with_reducible apply kt_normal
                      | apply l_nil
                      | apply d_region
                      | (apply l_off; (focus rfl); (focus rfl))
                      | (apply l_val; (focus rfl); (focus rfl); (focus rfl); (focus (go_simp; (try simp (disch := omega) only [wrap_in, wrap_in', wrap_u16, wrap_u8, wrap_u32, wrap_u64, rem_in, quo_in]); first | done | with_reducible rfl | (constructor <;> with_reducible rfl))))
                      | (apply l_store; (focus rfl); (focus rfl); (focus rfl); (focus (go_simp; (try simp (disch := omega) only [wrap_in, wrap_in', wrap_u16, wrap_u8, wrap_u32, wrap_u64, rem_in, quo_in]); first | done | with_reducible rfl | (constructor <;> with_reducible rfl))))
                      | apply d_block
                      | (apply d_true; (focus rfl); (focus rfl))
                      | (apply d_false; (focus rfl); (focus rfl))
                      | apply d_skip
                      | apply d_exit
                      | apply d_ret
                      | with_reducible apply kt_ret
                      | with_reducible apply kt_exit
                      | with_reducible apply kb_normal
                      | with_reducible apply kb_ret
                      | with_reducible apply kb_here
                      | with_reducible apply kl_ret
                      | with_reducible apply kl_exit
                      | with_reducible apply kc_ret
                      | with_reducible apply kc_exit
                      | (with_reducible apply kb_there; (focus rfl))
                    refine l_call rfl rfl rfl (by first | (go_simp; done) | (go_simp; rfl)) (HC.out) ?_
                    rintro e w' ⟨rfl, hx⟩
                    clear HX
                    try simp only [List.nil_append, List.cons_append, List.set_cons_zero, List.set_cons_succ] at hx
                    have HX := Lib.hid hx
                    clear hx
                    refine ⟨_, rfl, ?_⟩
                    repeat first
                      | apply d_seq
                      | with_reducible apply kt_normal
                      | apply l_nil
                      | apply d_region
                      | (apply l_off; (focus rfl); (focus rfl))
                      | (apply l_val; (focus rfl); (focus rfl); (focus rfl); (focus (go_simp; (try simp (disch := omega) only [wrap_in, wrap_in', wrap_u16, wrap_u8, wrap_u32, wrap_u64, rem_in, quo_in]); first | done | with_reducible rfl | (constructor <;> with_reducible rfl))))
                      | (apply l_store; (focus rfl); (focus rfl); (focus rfl); (focus (go_simp; (try simp (disch := omega) only [wrap_in, wrap_in', wrap_u16, wrap_u8, wrap_u32, wrap_u64, rem_in, quo_in]); first | done | with_reducible rfl | (constructor <;> with_reducible rfl))))
                      | apply d_block
                      | (apply d_true; (focus rfl); (focus rfl))
                      | (apply d_false; (focus rfl); (focus rfl))
                      | apply d_skip
                      | apply d_exit
                      | apply d_ret
                      | with_reducible apply kt_ret
                      | with_reducible apply kt_exit
                      | with_reducible apply kb_normal
                      | with_reducible apply kb_ret
                      | with_reducible apply kb_here
                      | with_reducible apply kl_ret
                      | with_reducible apply kl_exit
                      | with_reducible apply kc_ret
                      | with_reducible apply kc_exit
                      | (with_reducible apply kb_there; (focus rfl))
                    refine kl_normal (16 - (q + 1)) _ (by omega) (Subl.cons (t := 1) (by decide) rfl (Subl.cons (t := 5) (by decide) rfl (Subl.cons (t := 6) (by decide) rfl (Subl.cons (t := 7) (by decide) rfl (Subl.cons (t := 9) (by decide) rfl (Subl.nil _ _)))))) ?_
                    exact ⟨q + 1, rfl, by omega, rfl, Lib.hid (HX.out.take 1)⟩
                  | true =>
                    by_cases hN0 : N = 0
                    · subst hN0
                      repeat first
                        | apply d_seq
                        | with_reducible apply kt_normal
                        | apply l_nil
                        | apply d_region
                        | (apply l_off; (focus rfl); (focus rfl))
                        | (apply l_val; (focus rfl); (focus rfl); (focus rfl); (focus (go_simp; (try simp (disch := omega) only [wrap_in, wrap_in', wrap_u16, wrap_u8, wrap_u32, wrap_u64, rem_in, quo_in]); first | done | with_reducible rfl | (constructor <;> with_reducible rfl))))
                        | (apply l_store; (focus rfl); (focus rfl); (focus rfl); (focus (go_simp; (try simp (disch := omega) only [wrap_in, wrap_in', wrap_u16, wrap_u8, wrap_u32, wrap_u64, rem_in, quo_in]); first | done | with_reducible rfl | (constructor <;> with_reducible rfl))))
                        | apply d_block
                        | (apply d_true; (focus rfl); (focus rfl))
                        | (apply d_false; (focus rfl); (focus rfl))
                        | apply d_skip
                        | apply d_exit
                        | apply d_ret
                        | with_reducible apply kt_ret
                        | with_reducible apply kt_exit
                        | with_reducible apply kb_normal
                        | with_reducible apply kb_ret
                        | with_reducible apply kb_here
                        | with_reducible apply kl_ret
                        | with_reducible apply kl_exit
                        | with_reducible apply kc_ret
                        | with_reducible apply kc_exit
                        | (with_reducible apply kb_there; (focus rfl))
                      refine l_call rfl rfl rfl (by first | (go_simp; done) | (go_simp; rfl)) (HC.out) ?_
                      rintro e w' ⟨rfl, hx⟩
                      clear HX
                      try simp only [List.nil_append, List.cons_append, List.set_cons_zero, List.set_cons_succ] at hx
                      have HX := Lib.hid hx
                      clear hx
                      refine ⟨_, rfl, ?_⟩
                      repeat first
                        | apply d_seq
                        | with_reducible apply kt_normal
                        | apply l_nil
                        | apply d_region
                        | (apply l_off; (focus rfl); (focus rfl))
                        | (apply l_val; (focus rfl); (focus rfl); (focus rfl); (focus (go_simp; (try simp (disch := omega) only [wrap_in, wrap_in', wrap_u16, wrap_u8, wrap_u32, wrap_u64, rem_in, quo_in]); first | done | with_reducible rfl | (constructor <;> with_reducible rfl))))
                        | (apply l_store; (focus rfl); (focus rfl); (focus rfl); (focus (go_simp; (try simp (disch := omega) only [wrap_in, wrap_in', wrap_u16, wrap_u8, wrap_u32, wrap_u64, rem_in, quo_in]); first | done | with_reducible rfl | (constructor <;> with_reducible rfl))))
                        | apply d_block
                        | (apply d_true; (focus rfl); (focus rfl))
                        | (apply d_false; (focus rfl); (focus rfl))
                        | apply d_skip
                        | apply d_exit
                        | apply d_ret
                        | with_reducible apply kt_ret
                        | with_reducible apply kt_exit
                        | with_reducible apply kb_normal
                        | with_reducible apply kb_ret
                        | with_reducible apply kb_here
                        | with_reducible apply kl_ret
                        | with_reducible apply kl_exit
                        | with_reducible apply kc_ret
                        | with_reducible apply kc_exit
                        | (with_reducible apply kb_there; (focus rfl))
                      have hc := needs_has HX.out 0 p g s2 rfl q
                      rw [HLS.out.1, HLS.out.2] at hc
                      have HC := Lib.hid hc
                      clear hc
                      refine l_call rfl rfl rfl (by first | (go_simp; done) | (go_simp; rfl)) (HC.out) ?_
                      rintro e w' ⟨B8, d8, rfl, hb81, hb82, hx⟩
                      clear HX
                      try simp only [List.nil_append, List.cons_append, List.set_cons_zero, List.set_cons_succ] at hx
                      have HX := Lib.hid hx
                      clear hx
                      refine ⟨_, rfl, ?_⟩
                      repeat first
                        | apply d_seq
                        | with_reducible apply kt_normal
                        | apply l_nil
                        | apply d_region
                        | (apply l_off; (focus rfl); (focus rfl))
                        | (apply l_val; (focus rfl); (focus rfl); (focus rfl); (focus (go_simp; (try simp (disch := omega) only [wrap_in, wrap_in', wrap_u16, wrap_u8, wrap_u32, wrap_u64, rem_in, quo_in]); first | done | with_reducible rfl | (constructor <;> with_reducible rfl))))
                        | (apply l_store; (focus rfl); (focus rfl); (focus rfl); (focus (go_simp; (try simp (disch := omega) only [wrap_in, wrap_in', wrap_u16, wrap_u8, wrap_u32, wrap_u64, rem_in, quo_in]); first | done | with_reducible rfl | (constructor <;> with_reducible rfl))))
                        | apply d_block
                        | (apply d_true; (focus rfl); (focus rfl))
                        | (apply d_false; (focus rfl); (focus rfl))
                        | apply d_skip
                        | apply d_exit
                        | apply d_ret
                        | with_reducible apply kt_ret
                        | with_reducible apply kt_exit
                        | with_reducible apply kb_normal
                        | with_reducible apply kb_ret
                        | with_reducible apply kb_here
                        | with_reducible apply kl_ret
                        | with_reducible apply kl_exit
                        | with_reducible apply kc_ret
                        | with_reducible apply kc_exit
                        | (with_reducible apply kb_there; (focus rfl))
                      refine kl_normal (16 - (q + 1)) _ (by omega) (Subl.cons (t := 1) (by decide) rfl (Subl.cons (t := 5) (by decide) rfl (Subl.cons (t := 6) (by decide) rfl (Subl.cons (t := 7) (by decide) rfl (Subl.cons (t := 9) (by decide) rfl (Subl.nil _ _)))))) ?_
                      exact ⟨q + 1, rfl, by omega, rfl, Lib.hid (HX.out.take 1)⟩
                    · have r1 : ((N : Int) == 0) = false := by simp; omega
                      have r2 : decide ((N : Int) = 0) = false := decide_eq_false (by omega)
                      rw [r2] at HC
                      repeat first
                        | apply d_seq
                        | with_reducible apply kt_normal
                        | apply l_nil
                        | apply d_region
                        | (apply l_off; (focus rfl); (focus rfl))
                        | (apply l_val; (focus rfl); (focus rfl); (focus rfl); (focus (go_simp; (try simp (disch := omega) only [wrap_in, wrap_in', wrap_u16, wrap_u8, wrap_u32, wrap_u64, rem_in, quo_in]); first | done | with_reducible rfl | (constructor <;> with_reducible rfl))))
                        | (apply l_store; (focus rfl); (focus rfl); (focus rfl); (focus (go_simp; (try simp (disch := omega) only [wrap_in, wrap_in', wrap_u16, wrap_u8, wrap_u32, wrap_u64, rem_in, quo_in]); first | done | with_reducible rfl | (constructor <;> with_reducible rfl))))
                        | apply d_block
                        | (apply d_true; (focus rfl); (focus rfl))
                        | (apply d_false; (focus rfl); (focus rfl))
                        | apply d_skip
                        | apply d_exit
                        | apply d_ret
                        | with_reducible apply kt_ret
                        | with_reducible apply kt_exit
                        | with_reducible apply kb_normal
                        | with_reducible apply kb_ret
                        | with_reducible apply kb_here
                        | with_reducible apply kl_ret
                        | with_reducible apply kl_exit
                        | with_reducible apply kc_ret
                        | with_reducible apply kc_exit
                        | (with_reducible apply kb_there; (focus rfl))
                      refine l_call rfl rfl rfl (by first | (go_simp; done) | (go_simp; rfl)) (HC.out) ?_
                      rintro e w' ⟨rfl, hx⟩
                      clear HX
                      try simp only [List.nil_append, List.cons_append, List.set_cons_zero, List.set_cons_succ] at hx
                      have HX := Lib.hid hx
                      clear hx
                      refine ⟨_, rfl, ?_⟩
                      repeat first
                        | apply d_seq
                        | with_reducible apply kt_normal
                        | apply l_nil
                        | apply d_region
                        | (apply l_off; (focus rfl); (focus rfl))
                        | (apply l_val; (focus rfl); (focus rfl); (focus rfl); (focus (go_simp; (try simp (disch := omega) only [wrap_in, wrap_in', wrap_u16, wrap_u8, wrap_u32, wrap_u64, rem_in, quo_in]); first | done | with_reducible rfl | (constructor <;> with_reducible rfl))))
                        | (apply l_store; (focus rfl); (focus rfl); (focus rfl); (focus (go_simp; (try simp (disch := omega) only [wrap_in, wrap_in', wrap_u16, wrap_u8, wrap_u32, wrap_u64, rem_in, quo_in]); first | done | with_reducible rfl | (constructor <;> with_reducible rfl))))
                        | apply d_block
                        | (apply d_true; (focus rfl); (focus rfl))
                        | (apply d_false; (focus rfl); (focus rfl))
                        | apply d_skip
                        | apply d_exit
                        | apply d_ret
                        | with_reducible apply kt_ret
                        | with_reducible apply kt_exit
                        | with_reducible apply kb_normal
                        | with_reducible apply kb_ret
                        | with_reducible apply kb_here
                        | with_reducible apply kl_ret
                        | with_reducible apply kl_exit
                        | with_reducible apply kc_ret
                        | with_reducible apply kc_exit
                        | (with_reducible apply kb_there; (focus rfl))
                      have hc := needs_has HX.out 0 p g s2 rfl q
                      rw [HLS.out.1, HLS.out.2] at hc
                      have HC := Lib.hid hc
                      clear hc
                      refine l_call rfl rfl rfl (by first | (go_simp; done) | (go_simp; rfl)) (HC.out) ?_
                      rintro e w' ⟨B8, d8, rfl, hb81, hb82, hx⟩
                      clear HX
                      try simp only [List.nil_append, List.cons_append, List.set_cons_zero, List.set_cons_succ] at hx
                      have HX := Lib.hid hx
                      clear hx
                      refine ⟨_, rfl, ?_⟩
                      repeat first
                        | apply d_seq
                        | with_reducible apply kt_normal
                        | apply l_nil
                        | apply d_region
                        | (apply l_off; (focus rfl); (focus rfl))
                        | (apply l_val; (focus rfl); (focus rfl); (focus rfl); (focus (go_simp; (try simp (disch := omega) only [wrap_in, wrap_in', wrap_u16, wrap_u8, wrap_u32, wrap_u64, rem_in, quo_in]); first | done | with_reducible rfl | (constructor <;> with_reducible rfl))))
                        | (apply l_store; (focus rfl); (focus rfl); (focus rfl); (focus (go_simp; (try simp (disch := omega) only [wrap_in, wrap_in', wrap_u16, wrap_u8, wrap_u32, wrap_u64, rem_in, quo_in]); first | done | with_reducible rfl | (constructor <;> with_reducible rfl))))
                        | apply d_block
                        | (apply d_true; (focus rfl); (focus rfl))
                        | (apply d_false; (focus rfl); (focus rfl))
                        | apply d_skip
                        | apply d_exit
                        | apply d_ret
                        | with_reducible apply kt_ret
                        | with_reducible apply kt_exit
                        | with_reducible apply kb_normal
                        | with_reducible apply kb_ret
                        | with_reducible apply kb_here
                        | with_reducible apply kl_ret
                        | with_reducible apply kl_exit
                        | with_reducible apply kc_ret
                        | with_reducible apply kc_exit
                        | (with_reducible apply kb_there; (focus rfl))
                      refine kl_normal (16 - (q + 1)) _ (by omega) (Subl.cons (t := 1) (by decide) rfl (Subl.cons (t := 5) (by decide) rfl (Subl.cons (t := 6) (by decide) rfl (Subl.cons (t := 7) (by decide) rfl (Subl.cons (t := 9) (by decide) rfl (Subl.nil _ _)))))) ?_
                      exact ⟨q + 1, rfl, by omega, rfl, Lib.hid (HX.out.take 1)⟩
            · repeat first
                | apply d_seq
                | with_reducible apply kt_normal
                | apply l_nil
                | apply d_region
                | (apply l_off; (focus rfl); (focus rfl))
                | (apply l_val; (focus rfl); (focus rfl); (focus rfl); (focus (go_simp; (try simp (disch := omega) only [wrap_in, wrap_in', wrap_u16, wrap_u8, wrap_u32, wrap_u64, rem_in, quo_in]); first | done | with_reducible rfl | (constructor <;> with_reducible rfl))))
                | (apply l_store; (focus rfl); (focus rfl); (focus rfl); (focus (go_simp; (try simp (disch := omega) only [wrap_in, wrap_in', wrap_u16, wrap_u8, wrap_u32, wrap_u64, rem_in, quo_in]); first | done | with_reducible rfl | (constructor <;> with_reducible rfl))))
                | apply d_block
                | (apply d_true; (focus rfl); (focus rfl))
                | (apply d_false; (focus rfl); (focus rfl))
                | apply d_skip
                | apply d_exit
                | apply d_ret
                | with_reducible apply kt_ret
                | with_reducible apply kt_exit
                | with_reducible apply kb_normal
                | with_reducible apply kb_ret
                | with_reducible apply kb_here
                | with_reducible apply kl_ret
                | with_reducible apply kl_exit
                | with_reducible apply kc_ret
                | with_reducible apply kc_exit
                | (with_reducible apply kb_there; (focus rfl))
              refine kl_normal (l0.length - (k + 1)) _ (by omega) (Subl.cons (t := 1) (by decide) rfl (Subl.cons (t := 5) (by decide) rfl (Subl.cons (t := 6) (by decide) rfl (Subl.cons (t := 7) (by decide) rfl (Subl.nil _ _))))) ?_
              exact ⟨k + 1, s2, rfl, by omega, rfl, HX⟩
      · repeat first
          | apply d_seq
          | with_reducible apply kt_normal
          | apply l_nil
          | apply d_region
          | (apply l_off; (focus rfl); (focus rfl))
          | (apply l_val; (focus rfl); (focus rfl); (focus rfl); (focus (go_simp; (try simp (disch := omega) only [wrap_in, wrap_in', wrap_u16, wrap_u8, wrap_u32, wrap_u64, rem_in, quo_in]); first | done | with_reducible rfl | (constructor <;> with_reducible rfl))))
          | (apply l_store; (focus rfl); (focus rfl); (focus rfl); (focus (go_simp; (try simp (disch := omega) only [wrap_in, wrap_in', wrap_u16, wrap_u8, wrap_u32, wrap_u64, rem_in, quo_in]); first | done | with_reducible rfl | (constructor <;> with_reducible rfl))))
          | apply d_block
          | (apply d_true; (focus rfl); (focus rfl))
          | (apply d_false; (focus rfl); (focus rfl))
          | apply d_skip
          | apply d_exit
          | apply d_ret
          | with_reducible apply kt_ret
          | with_reducible apply kt_exit
          | with_reducible apply kb_normal
          | with_reducible apply kb_ret
          | with_reducible apply kb_here
          | with_reducible apply kl_ret
          | with_reducible apply kl_exit
          | with_reducible apply kc_ret
          | with_reducible apply kc_exit
          | (with_reducible apply kb_there; (focus rfl))
        refine ⟨rfl, _, (by first | (simp [resultsG, resOne, Try.results9, rho, List.lookup]; done) | (simp [resultsG, resOne, Try.results9, rho, List.lookup]; rfl)), ?_⟩
        exact ⟨rfl, HX.out.old⟩
    · repeat first
        | apply d_seq
        | with_reducible apply kt_normal
        | apply l_nil
        | apply d_region
        | (apply l_off; (focus rfl); (focus rfl))
        | (apply l_val; (focus rfl); (focus rfl); (focus rfl); (focus (go_simp; (try simp (disch := omega) only [wrap_in, wrap_in', wrap_u16, wrap_u8, wrap_u32, wrap_u64, rem_in, quo_in]); first | done | with_reducible rfl | (constructor <;> with_reducible rfl))))
        | (apply l_store; (focus rfl); (focus rfl); (focus rfl); (focus (go_simp; (try simp (disch := omega) only [wrap_in, wrap_in', wrap_u16, wrap_u8, wrap_u32, wrap_u64, rem_in, quo_in]); first | done | with_reducible rfl | (constructor <;> with_reducible rfl))))
        | apply d_block
        | (apply d_true; (focus rfl); (focus rfl))
        | (apply d_false; (focus rfl); (focus rfl))
        | apply d_skip
        | apply d_exit
        | apply d_ret
        | with_reducible apply kt_ret
        | with_reducible apply kt_exit
        | with_reducible apply kb_normal
        | with_reducible apply kb_ret
        | with_reducible apply kb_here
        | with_reducible apply kl_ret
        | with_reducible apply kl_exit
        | with_reducible apply kc_ret
        | with_reducible apply kc_exit
        | (with_reducible apply kb_there; (focus rfl))
      refine ⟨rfl, _, (by first | (simp [resultsG, resOne, Try.results9, rho, List.lookup]; done) | (simp [resultsG, resOne, Try.results9, rho, List.lookup]; rfl)), ?_⟩
      exact ⟨rfl, HX.out.old⟩
end Go.Proofs.Ytienodnkfohakaa
