import Derived.Test.YtkjcmnhhgnlaeaaLedI
namespace Go.Proofs.Ytkjcmnhhgnlaeaa
set_option linter.unusedVariables false
set_option linter.unusedSimpArgs false
attribute [local go_sem] rho_const rho_func rho_hit rho_miss
open Go.RowKit
attribute [local go_sem] min2_mn min_two'
set_option maxRecDepth 100000 in
set_option maxHeartbeats 4000000 in
theorem ledgerAgain_any {w : World} {A1 : Option Addr} {n1 cq1 : Nat} {l1 : List St} (od : Od) (h0 : od.ok w)
    (h1 : SeesR w (fun k => k < w.heap.size) 6 (fun (y : St) cs => cs = y.cs ∧ y.ok w) (.slice A1 n1 cq1) l1) :
    Calls Try.prog 9 #[.agg od.cs.toArray, .slice A1 n1 cq1] w fun e w' => e = .returned (.bool true) ∧ Keep none_ w w' := by
  obtain ⟨id, ls, v⟩ := od
  obtain ⟨A0, c0, hv, b0, b0', -⟩ := h0.lines.form
  simp only at hv
  subst hv
  have hid := h0.id
  have hls := h0.lines
  simp only at hid hls b0
  obtain ⟨rfl, b1, b1'⟩ := h1.form
  have HX := Lib.hid ((Has.nil (Keep.refl none_ w)).box #[.int .u32 id, .slice A0 ls.length c0] 34)
  simp only [List.nil_append] at HX
  have H1 := Lib.hid h1
  have HLS := Lib.hid hls
  clear h1 hls
  clear h0
  show Calls Try.prog 9 #[.agg #[.int .u32 id, .slice A0 ls.length c0], .slice A1 l1.length cq1] w _
  refine d_calls (n := 124) Try.func9 rfl rfl (by simp) [(0, .agg #[.int .u32 id, .slice A0 ls.length c0]), (1, .slice A1 l1.length cq1)] (by simp) ?_
  repeat first
    | apply d_seq
    | with_reducible apply kt_normal
    | apply l_nil
    | apply d_region
    | (apply l_off; (focus rfl); (focus rfl))
    | (apply l_val; (focus rfl); (focus rfl); (focus rfl); (focus (go_simp; (try simp (disch := omega) only [wrap_in, wrap_in', wrap_u16, wrap_u8, wrap_u32, rem_in, quo_in]); first | done | with_reducible rfl | (constructor <;> with_reducible rfl))))
    | (apply l_store; (focus rfl); (focus rfl); (focus rfl); (focus (go_simp; (try simp (disch := omega) only [wrap_in, wrap_in', wrap_u16, wrap_u8, wrap_u32, rem_in, quo_in]); first | done | with_reducible rfl | (constructor <;> with_reducible rfl))))
    | apply d_block
    | (apply d_true; (focus rfl); (focus rfl))
    | (apply d_false; (focus rfl); (focus rfl))
    | apply d_skip
    | apply d_exit
    | apply d_ret
    | with_reducible apply kt_ret
    | with_reducible apply kt_exit
    | with_reducible apply kb_normal
    | with_reducible apply kb_ret
    | with_reducible apply kb_here
    | with_reducible apply kl_ret
    | with_reducible apply kl_exit
    | with_reducible apply kc_ret
    | with_reducible apply kc_exit
    | (with_reducible apply kb_there; (focus rfl))
  refine l_call rfl rfl rfl (by first | (go_simp; done) | (go_simp; rfl)) (shown_has HX.out) ?_
  rintro e w' ⟨rfl, hx⟩
  clear HX
  try simp only [List.nil_append, List.cons_append, List.set_cons_zero, List.set_cons_succ] at hx
  try clear o0 o1
  try clear fo0 fo1
  obtain ⟨o0, o1, -⟩ := blk2 (hx.blk (i := 0) rfl)
  have HX := Lib.hid hx
  clear hx
  refine ⟨_, rfl, ?_⟩
  repeat first
    | apply d_seq
    | with_reducible apply kt_normal
    | apply l_nil
    | apply d_region
    | (apply l_off; (focus rfl); (focus rfl))
    | (apply l_val; (focus rfl); (focus rfl); (focus rfl); (focus (go_simp; (try simp (disch := omega) only [wrap_in, wrap_in', wrap_u16, wrap_u8, wrap_u32, rem_in, quo_in]); first | done | with_reducible rfl | (constructor <;> with_reducible rfl))))
    | (apply l_store; (focus rfl); (focus rfl); (focus rfl); (focus (go_simp; (try simp (disch := omega) only [wrap_in, wrap_in', wrap_u16, wrap_u8, wrap_u32, rem_in, quo_in]); first | done | with_reducible rfl | (constructor <;> with_reducible rfl))))
    | apply d_block
    | (apply d_true; (focus rfl); (focus rfl))
    | (apply d_false; (focus rfl); (focus rfl))
    | apply d_skip
    | apply d_exit
    | apply d_ret
    | with_reducible apply kt_ret
    | with_reducible apply kt_exit
    | with_reducible apply kb_normal
    | with_reducible apply kb_ret
    | with_reducible apply kb_here
    | with_reducible apply kl_ret
    | with_reducible apply kl_exit
    | with_reducible apply kc_ret
    | with_reducible apply kc_exit
    | (with_reducible apply kb_there; (focus rfl))
  obtain ⟨ms, hm⟩ : ∃ ms, ls.take 12 = ms := ⟨_, rfl⟩
  have hc := few_has HX.out id _ ls HLS.out
  rw [hm] at hc
  have HC := Lib.hid hc
  clear hc
  clear hm
  refine l_call rfl rfl rfl (by first | (go_simp; done) | (go_simp; rfl)) (HC.out) ?_
  rintro e w' ⟨A2, c2, rfl, hx⟩
  clear HX
  try simp only [List.nil_append, List.cons_append, List.set_cons_zero, List.set_cons_succ] at hx
  try clear o0 o1
  try clear fo0 fo1
  obtain ⟨o0, o1, fo0, fo1⟩ := blk2 (hx.blk (i := 0) rfl)
  have HX := Lib.hid hx
  clear hx
  refine ⟨_, rfl, ?_⟩
  repeat first
    | apply d_seq
    | with_reducible apply kt_normal
    | apply l_nil
    | apply d_region
    | (apply l_off; (focus rfl); (focus rfl))
    | (apply l_val; (focus rfl); (focus rfl); (focus rfl); (focus (go_simp; (try simp (disch := omega) only [wrap_in, wrap_in', wrap_u16, wrap_u8, wrap_u32, rem_in, quo_in]); first | done | with_reducible rfl | (constructor <;> with_reducible rfl))))
    | (apply l_store; (focus rfl); (focus rfl); (focus rfl); (focus (go_simp; (try simp (disch := omega) only [wrap_in, wrap_in', wrap_u16, wrap_u8, wrap_u32, rem_in, quo_in]); first | done | with_reducible rfl | (constructor <;> with_reducible rfl))))
    | apply d_block
    | (apply d_true; (focus rfl); (focus rfl))
    | (apply d_false; (focus rfl); (focus rfl))
    | apply d_skip
    | apply d_exit
    | apply d_ret
    | with_reducible apply kt_ret
    | with_reducible apply kt_exit
    | with_reducible apply kb_normal
    | with_reducible apply kb_ret
    | with_reducible apply kb_here
    | with_reducible apply kl_ret
    | with_reducible apply kl_exit
    | with_reducible apply kc_ret
    | with_reducible apply kc_exit
    | (with_reducible apply kb_there; (focus rfl))
  clear HC
  have hx := (HX.out.poke (i := 0) rfl 0 (.int .u32 id)).poke (i := 0) rfl 1 (.slice A2 ms.length c2)
  simp only [List.set_cons_zero, List.set_cons_succ, List.setIfInBounds_toArray] at hx
  clear HX o0 o1 fo0 fo1
  have HX := Lib.hid hx
  clear hx
  refine l_call rfl rfl rfl (by first | (go_simp; done) | (go_simp; rfl)) (new_has HX.out) ?_
  rintro e w' ⟨x, rfl, hx⟩
  clear HX
  try simp only [List.nil_append, List.cons_append, List.set_cons_zero, List.set_cons_succ] at hx
  try clear o0 o1
  try clear fo0 fo1
  obtain ⟨o0, o1, -⟩ := blk2 (hx.blk (i := 0) rfl)
  have HX := Lib.hid hx
  clear hx
  refine ⟨_, rfl, ?_⟩
  repeat first
    | apply d_seq
    | with_reducible apply kt_normal
    | apply l_nil
    | apply d_region
    | (apply l_off; (focus rfl); (focus rfl))
    | (apply l_val; (focus rfl); (focus rfl); (focus rfl); (focus (go_simp; (try simp (disch := omega) only [wrap_in, wrap_in', wrap_u16, wrap_u8, wrap_u32, rem_in, quo_in]); first | done | with_reducible rfl | (constructor <;> with_reducible rfl))))
    | (apply l_store; (focus rfl); (focus rfl); (focus rfl); (focus (go_simp; (try simp (disch := omega) only [wrap_in, wrap_in', wrap_u16, wrap_u8, wrap_u32, rem_in, quo_in]); first | done | with_reducible rfl | (constructor <;> with_reducible rfl))))
    | apply d_block
    | (apply d_true; (focus rfl); (focus rfl))
    | (apply d_false; (focus rfl); (focus rfl))
    | apply d_skip
    | apply d_exit
    | apply d_ret
    | with_reducible apply kt_ret
    | with_reducible apply kt_exit
    | with_reducible apply kb_normal
    | with_reducible apply kb_ret
    | with_reducible apply kb_here
    | with_reducible apply kl_ret
    | with_reducible apply kl_exit
    | with_reducible apply kc_ret
    | with_reducible apply kc_exit
    | (with_reducible apply kb_there; (focus rfl))
  by_cases hr : rightE ms = 0
  · have hc := open_own HX.out 2 1 x [] rfl id _ _ ms rfl (by decide)
    rw [open_nil id ms hr] at hc
    have HR := Lib.hid hr
    have HC := Lib.hid hc
    clear hr hc
    refine l_call rfl rfl rfl (by first | (go_simp; done) | (go_simp; rfl)) (HC.out) ?_
    rintro e w' ⟨rfl, hx⟩
    clear HX
    try simp only [List.nil_append, List.cons_append, List.set_cons_zero, List.set_cons_succ] at hx
    try clear o0 o1
    try clear fo0 fo1
    obtain ⟨o0, o1, -⟩ := blk2 (hx.blk (i := 0) rfl)
    have HX := Lib.hid hx
    clear hx
    refine ⟨_, rfl, ?_⟩
    repeat first
      | apply d_seq
      | with_reducible apply kt_normal
      | apply l_nil
      | apply d_region
      | (apply l_off; (focus rfl); (focus rfl))
      | (apply l_val; (focus rfl); (focus rfl); (focus rfl); (focus (go_simp; (try simp (disch := omega) only [wrap_in, wrap_in', wrap_u16, wrap_u8, wrap_u32, rem_in, quo_in]); first | done | with_reducible rfl | (constructor <;> with_reducible rfl))))
      | (apply l_store; (focus rfl); (focus rfl); (focus rfl); (focus (go_simp; (try simp (disch := omega) only [wrap_in, wrap_in', wrap_u16, wrap_u8, wrap_u32, rem_in, quo_in]); first | done | with_reducible rfl | (constructor <;> with_reducible rfl))))
      | ((fail_if_success (with_reducible apply d_block (id := 0))); apply d_block)
      | (apply d_true; (focus rfl); (focus rfl))
      | (apply d_false; (focus rfl); (focus rfl))
      | apply d_skip
      | apply d_exit
      | apply d_ret
      | with_reducible apply kt_ret
      | with_reducible apply kt_exit
      | with_reducible apply kb_normal
      | with_reducible apply kb_ret
      | with_reducible apply kb_here
      | with_reducible apply kl_ret
      | with_reducible apply kl_exit
      | with_reducible apply kc_ret
      | with_reducible apply kc_exit
      | (with_reducible apply kb_there; (focus rfl))
    clear HC
    refine d_join (fun D wr => ∃ rs, D = [(2, .pointer (some ⟨w.heap.size, 0, none⟩)), (5, .bool true), (6, .pointer (some ⟨x, 0, none⟩))] ∧ Hid (Has w wr [BlkA w.heap.size w.heap.size #[.int .u32 id, .slice A2 ms.length c2] 34, OwnA w.heap.size 59 3 (.slice A2 ms.length c2) ms.length (lns ms), LedA w.heap.size x [(id, rs)]])) ?_ (fun D wr hcut => ?_)
    · clear o0 o1
      repeat first
        | apply d_seq
        | with_reducible apply kt_normal
        | apply l_nil
        | apply d_region
        | (apply l_off; (focus rfl); (focus rfl))
        | (apply l_val; (focus rfl); (focus rfl); (focus rfl); (focus (go_simp; (try simp (disch := omega) only [wrap_in, wrap_in', wrap_u16, wrap_u8, wrap_u32, rem_in, quo_in]); first | done | with_reducible rfl | (constructor <;> with_reducible rfl))))
        | (apply l_store; (focus rfl); (focus rfl); (focus rfl); (focus (go_simp; (try simp (disch := omega) only [wrap_in, wrap_in', wrap_u16, wrap_u8, wrap_u32, rem_in, quo_in]); first | done | with_reducible rfl | (constructor <;> with_reducible rfl))))
        | apply d_block
        | (apply d_true; (focus rfl); (focus rfl))
        | (apply d_false; (focus rfl); (focus rfl))
        | apply d_skip
        | apply d_exit
        | apply d_ret
        | with_reducible apply kt_ret
        | with_reducible apply kt_exit
        | with_reducible apply kb_normal
        | with_reducible apply kb_ret
        | with_reducible apply kb_here
        | with_reducible apply kl_ret
        | with_reducible apply kl_exit
        | with_reducible apply kc_ret
        | with_reducible apply kc_exit
        | (with_reducible apply kb_there; (focus rfl))
      refine d_loop (fun m D wr => ∃ (k : Nat) (rs : List Rw), m = l1.length - k ∧ k ≤ l1.length ∧ D = [(1, .slice A1 l1.length cq1), (2, .pointer (some ⟨w.heap.size, 0, none⟩)), (5, .bool true), (6, .pointer (some ⟨x, 0, none⟩)), (7, .int .i64 k)] ∧ Hid (Has w wr [BlkA w.heap.size w.heap.size #[.int .u32 id, .slice A2 ms.length c2] 34, OwnA w.heap.size 59 3 (.slice A2 ms.length c2) ms.length (lns ms), LedA w.heap.size x [(id, rs)]])) (l1.length) _ (Subl.cons (t := 1) (by decide) rfl (Subl.cons (t := 2) (by decide) rfl (Subl.cons (t := 5) (by decide) rfl (Subl.cons (t := 6) (by decide) rfl (Subl.cons (t := 7) (by decide) rfl (Subl.nil _ _)))))) ?_ (fun m D wr hrel => ?_)
      · exact ⟨0, _, rfl, Nat.zero_le _, rfl, HX⟩
      · clear HX
        obtain ⟨k, rs, rfl, hk, rfl, HX⟩ := hrel
        by_cases hlt : k < l1.length
        · by_cases h50 : (k : Int) < 50
          · obtain ⟨y, hy⟩ : ∃ y, l1[k]? = some y := ⟨_, List.getElem?_eq_getElem hlt⟩
            obtain ⟨g, o, cp, e1, -, -, hq1, hq2, hyk, c0, c1, c2, c3, c4, c5⟩ := sees_Steps H1.out hy
            simp only [Value.slice.injEq, true_and] at e1
            obtain ⟨rfl, rfl⟩ := e1
            obtain ⟨sA, sc, hyv, -⟩ := hyk.o_lines.form
            have hy' : St.ok w { y with id := id } := ⟨hyk.kind, hyk.o_id, hyk.o_lines, hyk.o_lines_ok, hid, hyk.item, hyk.qty⟩
            have dh := fun (W : World) (L : List (Asrt w.heap.size)) (H : Has w W L) (i x : Nat) (s : LS) (hi : L[i]? = some (LedA w.heap.size x s)) => does_has H i x s hi { y with id := id } hy'
            simp only [hyv] at c2 dh
            have hs1 := step_one id rs { y with id := id }
            simp only [hyv] at hs1
            have HYK := Lib.hid hyk
            have C0 := Lib.hid c0
            have C1 := Lib.hid c1
            have C2 := Lib.hid c2
            have C3 := Lib.hid c3
            have C4 := Lib.hid c4
            have C5 := Lib.hid c5
            have DH := Lib.hid dh
            have HS1 := Lib.hid hs1
            clear hyk c0 c1 c2 c3 c4 c5 dh hs1
            clear hy hyv hy'
            try clear c0
            have c0 := HX.out.cell0 C0.out
            try clear c1
            have c1 := HX.out.cell0 C1.out
            try clear c2
            have c2 := HX.out.cell0 C2.out
            try clear c3
            have c3 := HX.out.cell0 C3.out
            try clear c4
            have c4 := HX.out.cell0 C4.out
            try clear c5
            have c5 := HX.out.cell0 C5.out
            have hx := HX.out.box #[.int .i64 y.kind, .int .u32 y.o_id, .slice sA y.o_lines.length sc, .int .u32 id, .int .u16 y.item, .int .i64 y.qty] 37
            simp only [List.nil_append, List.cons_append] at hx
            have hxb := HX.out.box #[.int .i64 y.kind, .int .u32 y.o_id, .slice sA y.o_lines.length sc, .int .u32 y.id, .int .u16 y.item, .int .i64 y.qty] 37
            obtain ⟨p0, p1, -⟩ := blk2 (hxb.blk (i := 0) rfl)
            clear hxb
            obtain ⟨x0, x1, x2, x3, x4, x5, -⟩ := blk6 (hx.blk (i := 3) rfl)
            obtain ⟨o0, o1, -⟩ := blk2 (hx.blk (i := 0) rfl)
            clear HX
            have HX := Lib.hid hx
            clear hx
            have h3 : y.kind ≤ 1 ∨ (1 < y.kind ∧ y.kind < 7) ∨ (1 < y.kind ∧ 7 ≤ y.kind) := by omega
            rcases h3 with g1 | ⟨g1, g2⟩ | ⟨g1, g2⟩
            · have q1 : decide (y.kind > 1) = false := by simp; omega
              have q2 : decide (1 < y.kind) = false := by simp; omega
              repeat first
                | apply d_seq
                | with_reducible apply kt_normal
                | apply l_nil
                | apply d_region
                | (apply l_off; (focus rfl); (focus rfl))
                | (apply l_val; (focus rfl); (focus rfl); (focus rfl); (focus (go_simp; (try simp (disch := omega) only [wrap_in, wrap_in', wrap_u16, wrap_u8, wrap_u32, rem_in, quo_in]); first | done | with_reducible rfl | (constructor <;> with_reducible rfl))))
                | (apply l_store; (focus rfl); (focus rfl); (focus rfl); (focus (go_simp; (try simp (disch := omega) only [wrap_in, wrap_in', wrap_u16, wrap_u8, wrap_u32, rem_in, quo_in]); first | done | with_reducible rfl | (constructor <;> with_reducible rfl))))
                | apply d_block
                | (apply d_true; (focus rfl); (focus rfl))
                | (apply d_false; (focus rfl); (focus rfl))
                | apply d_skip
                | apply d_exit
                | apply d_ret
                | with_reducible apply kt_ret
                | with_reducible apply kt_exit
                | with_reducible apply kb_normal
                | with_reducible apply kb_ret
                | with_reducible apply kb_here
                | with_reducible apply kl_ret
                | with_reducible apply kl_exit
                | with_reducible apply kc_ret
                | with_reducible apply kc_exit
                | (with_reducible apply kb_there; (focus rfl))
              refine kl_normal (l1.length - (k + 1)) _ (by omega) (Subl.cons (t := 1) (by decide) rfl (Subl.cons (t := 2) (by decide) rfl (Subl.cons (t := 5) (by decide) rfl (Subl.cons (t := 6) (by decide) rfl (Subl.cons (t := 7) (by decide) rfl (Subl.nil _ _)))))) ?_
              exact ⟨k + 1, rs, rfl, by omega, rfl, Lib.hid (HX.out.take 3)⟩
            · obtain ⟨rs', hrs'⟩ := HS1.out g1 g2
              have hc := DH.out _ _ HX.out 2 x _ rfl
              rw [hrs'] at hc
              have HC := Lib.hid hc
              have HRS' := Lib.hid hrs'
              clear hc hrs'
              repeat first
                | apply d_seq
                | with_reducible apply kt_normal
                | apply l_nil
                | apply d_region
                | (apply l_off; (focus rfl); (focus rfl))
                | (apply l_val; (focus rfl); (focus rfl); (focus rfl); (focus (go_simp; (try simp (disch := omega) only [wrap_in, wrap_in', wrap_u16, wrap_u8, wrap_u32, rem_in, quo_in]); first | done | with_reducible rfl | (constructor <;> with_reducible rfl))))
                | (apply l_store; (focus rfl); (focus rfl); (focus rfl); (focus (go_simp; (try simp (disch := omega) only [wrap_in, wrap_in', wrap_u16, wrap_u8, wrap_u32, rem_in, quo_in]); first | done | with_reducible rfl | (constructor <;> with_reducible rfl))))
                | apply d_block
                | (apply d_true; (focus rfl); (focus rfl))
                | (apply d_false; (focus rfl); (focus rfl))
                | apply d_skip
                | apply d_exit
                | apply d_ret
                | with_reducible apply kt_ret
                | with_reducible apply kt_exit
                | with_reducible apply kb_normal
                | with_reducible apply kb_ret
                | with_reducible apply kb_here
                | with_reducible apply kl_ret
                | with_reducible apply kl_exit
                | with_reducible apply kc_ret
                | with_reducible apply kc_exit
                | (with_reducible apply kb_there; (focus rfl))
              refine l_call rfl rfl rfl (by first | (go_simp; done) | (go_simp; rfl)) (HC.out) ?_
              rintro e w' ⟨rfl, hx⟩
              clear HX
              try simp only [List.nil_append, List.cons_append, List.set_cons_zero, List.set_cons_succ] at hx
              have HX := Lib.hid hx
              clear hx
              refine ⟨_, rfl, ?_⟩
              repeat first
                | apply d_seq
                | with_reducible apply kt_normal
                | apply l_nil
                | apply d_region
                | (apply l_off; (focus rfl); (focus rfl))
                | (apply l_val; (focus rfl); (focus rfl); (focus rfl); (focus (go_simp; (try simp (disch := omega) only [wrap_in, wrap_in', wrap_u16, wrap_u8, wrap_u32, rem_in, quo_in]); first | done | with_reducible rfl | (constructor <;> with_reducible rfl))))
                | (apply l_store; (focus rfl); (focus rfl); (focus rfl); (focus (go_simp; (try simp (disch := omega) only [wrap_in, wrap_in', wrap_u16, wrap_u8, wrap_u32, rem_in, quo_in]); first | done | with_reducible rfl | (constructor <;> with_reducible rfl))))
                | apply d_block
                | (apply d_true; (focus rfl); (focus rfl))
                | (apply d_false; (focus rfl); (focus rfl))
                | apply d_skip
                | apply d_exit
                | apply d_ret
                | with_reducible apply kt_ret
                | with_reducible apply kt_exit
                | with_reducible apply kb_normal
                | with_reducible apply kb_ret
                | with_reducible apply kb_here
                | with_reducible apply kl_ret
                | with_reducible apply kl_exit
                | with_reducible apply kc_ret
                | with_reducible apply kc_exit
                | (with_reducible apply kb_there; (focus rfl))
              refine kl_normal (l1.length - (k + 1)) _ (by omega) (Subl.cons (t := 1) (by decide) rfl (Subl.cons (t := 2) (by decide) rfl (Subl.cons (t := 5) (by decide) rfl (Subl.cons (t := 6) (by decide) rfl (Subl.cons (t := 7) (by decide) rfl (Subl.nil _ _)))))) ?_
              exact ⟨k + 1, rs', rfl, by omega, rfl, Lib.hid (HX.out.take 3)⟩
            · have q1 : decide (y.kind < 7) = false := by simp; omega
              have q2 : decide (7 > y.kind) = false := by simp; omega
              repeat first
                | apply d_seq
                | with_reducible apply kt_normal
                | apply l_nil
                | apply d_region
                | (apply l_off; (focus rfl); (focus rfl))
                | (apply l_val; (focus rfl); (focus rfl); (focus rfl); (focus (go_simp; (try simp (disch := omega) only [wrap_in, wrap_in', wrap_u16, wrap_u8, wrap_u32, rem_in, quo_in]); first | done | with_reducible rfl | (constructor <;> with_reducible rfl))))
                | (apply l_store; (focus rfl); (focus rfl); (focus rfl); (focus (go_simp; (try simp (disch := omega) only [wrap_in, wrap_in', wrap_u16, wrap_u8, wrap_u32, rem_in, quo_in]); first | done | with_reducible rfl | (constructor <;> with_reducible rfl))))
                | apply d_block
                | (apply d_true; (focus rfl); (focus rfl))
                | (apply d_false; (focus rfl); (focus rfl))
                | apply d_skip
                | apply d_exit
                | apply d_ret
                | with_reducible apply kt_ret
                | with_reducible apply kt_exit
                | with_reducible apply kb_normal
                | with_reducible apply kb_ret
                | with_reducible apply kb_here
                | with_reducible apply kl_ret
                | with_reducible apply kl_exit
                | with_reducible apply kc_ret
                | with_reducible apply kc_exit
                | (with_reducible apply kb_there; (focus rfl))
              refine kl_normal (l1.length - (k + 1)) _ (by omega) (Subl.cons (t := 1) (by decide) rfl (Subl.cons (t := 2) (by decide) rfl (Subl.cons (t := 5) (by decide) rfl (Subl.cons (t := 6) (by decide) rfl (Subl.cons (t := 7) (by decide) rfl (Subl.nil _ _)))))) ?_
              exact ⟨k + 1, rs, rfl, by omega, rfl, Lib.hid (HX.out.take 3)⟩
          · repeat first
              | apply d_seq
              | with_reducible apply kt_normal
              | apply l_nil
              | apply d_region
              | (apply l_off; (focus rfl); (focus rfl))
              | (apply l_val; (focus rfl); (focus rfl); (focus rfl); (focus (go_simp; (try simp (disch := omega) only [wrap_in, wrap_in', wrap_u16, wrap_u8, wrap_u32, rem_in, quo_in]); first | done | with_reducible rfl | (constructor <;> with_reducible rfl))))
              | (apply l_store; (focus rfl); (focus rfl); (focus rfl); (focus (go_simp; (try simp (disch := omega) only [wrap_in, wrap_in', wrap_u16, wrap_u8, wrap_u32, rem_in, quo_in]); first | done | with_reducible rfl | (constructor <;> with_reducible rfl))))
              | apply d_block
              | (apply d_true; (focus rfl); (focus rfl))
              | (apply d_false; (focus rfl); (focus rfl))
              | apply d_skip
              | apply d_exit
              | apply d_ret
              | with_reducible apply kt_ret
              | with_reducible apply kt_exit
              | with_reducible apply kb_normal
              | with_reducible apply kb_ret
              | with_reducible apply kb_here
              | with_reducible apply kl_ret
              | with_reducible apply kl_exit
              | with_reducible apply kc_ret
              | with_reducible apply kc_exit
              | (with_reducible apply kb_there; (focus rfl))
            refine kc_normal _ (Subl.cons (t := 2) (by decide) rfl (Subl.cons (t := 5) (by decide) rfl (Subl.cons (t := 6) (by decide) rfl (Subl.nil _ _)))) ?_
            exact ⟨rs, rfl, HX⟩
        · repeat first
            | apply d_seq
            | with_reducible apply kt_normal
            | apply l_nil
            | apply d_region
            | (apply l_off; (focus rfl); (focus rfl))
            | (apply l_val; (focus rfl); (focus rfl); (focus rfl); (focus (go_simp; (try simp (disch := omega) only [wrap_in, wrap_in', wrap_u16, wrap_u8, wrap_u32, rem_in, quo_in]); first | done | with_reducible rfl | (constructor <;> with_reducible rfl))))
            | (apply l_store; (focus rfl); (focus rfl); (focus rfl); (focus (go_simp; (try simp (disch := omega) only [wrap_in, wrap_in', wrap_u16, wrap_u8, wrap_u32, rem_in, quo_in]); first | done | with_reducible rfl | (constructor <;> with_reducible rfl))))
            | apply d_block
            | (apply d_true; (focus rfl); (focus rfl))
            | (apply d_false; (focus rfl); (focus rfl))
            | apply d_skip
            | apply d_exit
            | apply d_ret
            | with_reducible apply kt_ret
            | with_reducible apply kt_exit
            | with_reducible apply kb_normal
            | with_reducible apply kb_ret
            | with_reducible apply kb_here
            | with_reducible apply kl_ret
            | with_reducible apply kl_exit
            | with_reducible apply kc_ret
            | with_reducible apply kc_exit
            | (with_reducible apply kb_there; (focus rfl))
          refine kc_normal _ (Subl.cons (t := 2) (by decide) rfl (Subl.cons (t := 5) (by decide) rfl (Subl.cons (t := 6) (by decide) rfl (Subl.nil _ _)))) ?_
          exact ⟨rs, rfl, HX⟩
    · clear HX o0 o1
      obtain ⟨rs, rfl, HX⟩ := hcut
      have hx := HX.out
      try clear o0 o1
      try clear fo0 fo1
      obtain ⟨o0, o1, -⟩ := blk2 (hx.blk (i := 0) rfl)
      clear hx
      have hc := drop_has HX.out 2 x _ rfl id
      rw [drop_one] at hc
      have HC := Lib.hid hc
      clear hc
      repeat first
        | apply d_seq
        | with_reducible apply kt_normal
        | apply l_nil
        | apply d_region
        | (apply l_off; (focus rfl); (focus rfl))
        | (apply l_val; (focus rfl); (focus rfl); (focus rfl); (focus (go_simp; (try simp (disch := omega) only [wrap_in, wrap_in', wrap_u16, wrap_u8, wrap_u32, rem_in, quo_in]); first | done | with_reducible rfl | (constructor <;> with_reducible rfl))))
        | (apply l_store; (focus rfl); (focus rfl); (focus rfl); (focus (go_simp; (try simp (disch := omega) only [wrap_in, wrap_in', wrap_u16, wrap_u8, wrap_u32, rem_in, quo_in]); first | done | with_reducible rfl | (constructor <;> with_reducible rfl))))
        | apply d_block
        | (apply d_true; (focus rfl); (focus rfl))
        | (apply d_false; (focus rfl); (focus rfl))
        | apply d_skip
        | apply d_exit
        | apply d_ret
        | with_reducible apply kt_ret
        | with_reducible apply kt_exit
        | with_reducible apply kb_normal
        | with_reducible apply kb_ret
        | with_reducible apply kb_here
        | with_reducible apply kl_ret
        | with_reducible apply kl_exit
        | with_reducible apply kc_ret
        | with_reducible apply kc_exit
        | (with_reducible apply kb_there; (focus rfl))
      refine l_call rfl rfl rfl (by first | (go_simp; done) | (go_simp; rfl)) (HC.out) ?_
      rintro e w' ⟨rfl, hx⟩
      clear HX
      try simp only [List.nil_append, List.cons_append, List.set_cons_zero, List.set_cons_succ] at hx
      try clear o0 o1
      try clear fo0 fo1
      obtain ⟨o0, o1, -⟩ := blk2 (hx.blk (i := 0) rfl)
      have HX := Lib.hid hx
      clear hx
      refine ⟨_, rfl, ?_⟩
      repeat first
        | apply d_seq
        | with_reducible apply kt_normal
        | apply l_nil
        | apply d_region
        | (apply l_off; (focus rfl); (focus rfl))
        | (apply l_val; (focus rfl); (focus rfl); (focus rfl); (focus (go_simp; (try simp (disch := omega) only [wrap_in, wrap_in', wrap_u16, wrap_u8, wrap_u32, rem_in, quo_in]); first | done | with_reducible rfl | (constructor <;> with_reducible rfl))))
        | (apply l_store; (focus rfl); (focus rfl); (focus rfl); (focus (go_simp; (try simp (disch := omega) only [wrap_in, wrap_in', wrap_u16, wrap_u8, wrap_u32, rem_in, quo_in]); first | done | with_reducible rfl | (constructor <;> with_reducible rfl))))
        | apply d_block
        | (apply d_true; (focus rfl); (focus rfl))
        | (apply d_false; (focus rfl); (focus rfl))
        | apply d_skip
        | apply d_exit
        | apply d_ret
        | with_reducible apply kt_ret
        | with_reducible apply kt_exit
        | with_reducible apply kb_normal
        | with_reducible apply kb_ret
        | with_reducible apply kb_here
        | with_reducible apply kl_ret
        | with_reducible apply kl_exit
        | with_reducible apply kc_ret
        | with_reducible apply kc_exit
        | (with_reducible apply kb_there; (focus rfl))
      have hc1 := drop_has HX.out 2 x _ rfl id
      rw [drop_nil] at hc1
      have HC1 := Lib.hid hc1
      clear hc1
      clear HC
      refine l_call rfl rfl rfl (by first | (go_simp; done) | (go_simp; rfl)) (HC1.out) ?_
      rintro e w' ⟨rfl, hx⟩
      clear HX
      try simp only [List.nil_append, List.cons_append, List.set_cons_zero, List.set_cons_succ] at hx
      try clear o0 o1
      try clear fo0 fo1
      obtain ⟨o0, o1, -⟩ := blk2 (hx.blk (i := 0) rfl)
      have HX := Lib.hid hx
      clear hx
      refine ⟨_, rfl, ?_⟩
      repeat first
        | apply d_seq
        | with_reducible apply kt_normal
        | apply l_nil
        | apply d_region
        | (apply l_off; (focus rfl); (focus rfl))
        | (apply l_val; (focus rfl); (focus rfl); (focus rfl); (focus (go_simp; (try simp (disch := omega) only [wrap_in, wrap_in', wrap_u16, wrap_u8, wrap_u32, rem_in, quo_in]); first | done | with_reducible rfl | (constructor <;> with_reducible rfl))))
        | (apply l_store; (focus rfl); (focus rfl); (focus rfl); (focus (go_simp; (try simp (disch := omega) only [wrap_in, wrap_in', wrap_u16, wrap_u8, wrap_u32, rem_in, quo_in]); first | done | with_reducible rfl | (constructor <;> with_reducible rfl))))
        | apply d_block
        | (apply d_true; (focus rfl); (focus rfl))
        | (apply d_false; (focus rfl); (focus rfl))
        | apply d_skip
        | apply d_exit
        | apply d_ret
        | with_reducible apply kt_ret
        | with_reducible apply kt_exit
        | with_reducible apply kb_normal
        | with_reducible apply kb_ret
        | with_reducible apply kb_here
        | with_reducible apply kl_ret
        | with_reducible apply kl_exit
        | with_reducible apply kc_ret
        | with_reducible apply kc_exit
        | (with_reducible apply kb_there; (focus rfl))
      have hc := open_own HX.out 2 1 x [] rfl id _ _ ms rfl (by decide)
      rw [open_nil id ms HR.out] at hc
      have HC := Lib.hid hc
      clear hc
      clear HC1
      refine l_call rfl rfl rfl (by first | (go_simp; done) | (go_simp; rfl)) (HC.out) ?_
      rintro e w' ⟨rfl, hx⟩
      clear HX
      try simp only [List.nil_append, List.cons_append, List.set_cons_zero, List.set_cons_succ] at hx
      try clear o0 o1
      try clear fo0 fo1
      obtain ⟨o0, o1, -⟩ := blk2 (hx.blk (i := 0) rfl)
      have HX := Lib.hid hx
      clear hx
      refine ⟨_, rfl, ?_⟩
      repeat first
        | apply d_seq
        | with_reducible apply kt_normal
        | apply l_nil
        | apply d_region
        | (apply l_off; (focus rfl); (focus rfl))
        | (apply l_val; (focus rfl); (focus rfl); (focus rfl); (focus (go_simp; (try simp (disch := omega) only [wrap_in, wrap_in', wrap_u16, wrap_u8, wrap_u32, rem_in, quo_in]); first | done | with_reducible rfl | (constructor <;> with_reducible rfl))))
        | (apply l_store; (focus rfl); (focus rfl); (focus rfl); (focus (go_simp; (try simp (disch := omega) only [wrap_in, wrap_in', wrap_u16, wrap_u8, wrap_u32, rem_in, quo_in]); first | done | with_reducible rfl | (constructor <;> with_reducible rfl))))
        | apply d_block
        | (apply d_true; (focus rfl); (focus rfl))
        | (apply d_false; (focus rfl); (focus rfl))
        | apply d_skip
        | apply d_exit
        | apply d_ret
        | with_reducible apply kt_ret
        | with_reducible apply kt_exit
        | with_reducible apply kb_normal
        | with_reducible apply kb_ret
        | with_reducible apply kb_here
        | with_reducible apply kl_ret
        | with_reducible apply kl_exit
        | with_reducible apply kc_ret
        | with_reducible apply kc_exit
        | (with_reducible apply kb_there; (focus rfl))
      have hc1 := closed_has HX.out 2 x _ rfl id
      rw [closed_new id ms HR.out] at hc1
      have HC1 := Lib.hid hc1
      clear hc1
      clear HC
      refine l_call rfl rfl rfl (by first | (go_simp; done) | (go_simp; rfl)) (HC1.out) ?_
      rintro e w' ⟨rfl, hx⟩
      clear HX
      try simp only [List.nil_append, List.cons_append, List.set_cons_zero, List.set_cons_succ] at hx
      try clear o0 o1
      try clear fo0 fo1
      obtain ⟨o0, o1, -⟩ := blk2 (hx.blk (i := 0) rfl)
      have HX := Lib.hid hx
      clear hx
      refine ⟨_, rfl, ?_⟩
      repeat first
        | apply d_seq
        | with_reducible apply kt_normal
        | apply l_nil
        | apply d_region
        | (apply l_off; (focus rfl); (focus rfl))
        | (apply l_val; (focus rfl); (focus rfl); (focus rfl); (focus (go_simp; (try simp (disch := omega) only [wrap_in, wrap_in', wrap_u16, wrap_u8, wrap_u32, rem_in, quo_in]); first | done | with_reducible rfl | (constructor <;> with_reducible rfl))))
        | (apply l_store; (focus rfl); (focus rfl); (focus rfl); (focus (go_simp; (try simp (disch := omega) only [wrap_in, wrap_in', wrap_u16, wrap_u8, wrap_u32, rem_in, quo_in]); first | done | with_reducible rfl | (constructor <;> with_reducible rfl))))
        | apply d_block
        | (apply d_true; (focus rfl); (focus rfl))
        | (apply d_false; (focus rfl); (focus rfl))
        | apply d_skip
        | apply d_exit
        | apply d_ret
        | with_reducible apply kt_ret
        | with_reducible apply kt_exit
        | with_reducible apply kb_normal
        | with_reducible apply kb_ret
        | with_reducible apply kb_here
        | with_reducible apply kl_ret
        | with_reducible apply kl_exit
        | with_reducible apply kc_ret
        | with_reducible apply kc_exit
        | (with_reducible apply kb_there; (focus rfl))
      have hc := rows_has HX.out 2 x _ rfl id
      rw [(rows_one id (ms.map row0)).1, (rows_one id (ms.map row0)).2, List.length_map] at hc
      have HC := Lib.hid hc
      clear hc
      clear HC1
      refine l_call rfl rfl rfl (by first | (go_simp; done) | (go_simp; rfl)) (HC.out) ?_
      rintro e w' ⟨A3, c3, rfl, hr1, hr2, hx⟩
      clear HX
      try simp only [List.nil_append, List.cons_append, List.set_cons_zero, List.set_cons_succ] at hx
      try clear o0 o1
      try clear fo0 fo1
      obtain ⟨o0, o1, -⟩ := blk2 (hx.blk (i := 0) rfl)
      have HX := Lib.hid hx
      clear hx
      refine ⟨_, rfl, ?_⟩
      repeat first
        | apply d_seq
        | with_reducible apply kt_normal
        | apply l_nil
        | apply d_region
        | (apply l_off; (focus rfl); (focus rfl))
        | (apply l_val; (focus rfl); (focus rfl); (focus rfl); (focus (go_simp; (try simp (disch := omega) only [wrap_in, wrap_in', wrap_u16, wrap_u8, wrap_u32, rem_in, quo_in]); first | done | with_reducible rfl | (constructor <;> with_reducible rfl))))
        | (apply l_store; (focus rfl); (focus rfl); (focus rfl); (focus (go_simp; (try simp (disch := omega) only [wrap_in, wrap_in', wrap_u16, wrap_u8, wrap_u32, rem_in, quo_in]); first | done | with_reducible rfl | (constructor <;> with_reducible rfl))))
        | apply d_block
        | (apply d_true; (focus rfl); (focus rfl))
        | (apply d_false; (focus rfl); (focus rfl))
        | apply d_skip
        | apply d_exit
        | apply d_ret
        | with_reducible apply kt_ret
        | with_reducible apply kt_exit
        | with_reducible apply kb_normal
        | with_reducible apply kb_ret
        | with_reducible apply kb_here
        | with_reducible apply kl_ret
        | with_reducible apply kl_exit
        | with_reducible apply kc_ret
        | with_reducible apply kc_exit
        | (with_reducible apply kb_there; (focus rfl))
      unfold maxLen at hr2
      clear HC
      refine d_loop (fun m D wr => ∃ (k : Nat), m = ms.length - k ∧ k ≤ ms.length ∧ D = [(2, .pointer (some ⟨w.heap.size, 0, none⟩)), (5, .bool true), (9, .slice A3 ms.length c3), (11, .int .i64 k)] ∧ Hid (Has w wr [BlkA w.heap.size w.heap.size #[.int .u32 id, .slice A2 ms.length c2] 34, OwnA w.heap.size 59 3 (.slice A2 ms.length c2) ms.length (lns ms), LedA w.heap.size x [(id, ms.map row0)], OwnA w.heap.size 52 5 (.slice A3 ms.length c3) ms.length (rws (ms.map row0))])) (ms.length) _ (Subl.cons (t := 2) (by decide) rfl (Subl.cons (t := 5) (by decide) rfl (Subl.cons (t := 9) (by decide) rfl (Subl.cons (t := 11) (by decide) rfl (Subl.nil _ _))))) ?_ (fun m D wr hrel => ?_)
      · exact ⟨0, rfl, Nat.zero_le _, rfl, HX⟩
      · clear HX o0 o1
        obtain ⟨k, rfl, hk, rfl, HX⟩ := hrel
        by_cases hlt : k < ms.length
        · obtain ⟨l, hl⟩ : ∃ y, ms[k]? = some y := ⟨_, List.getElem?_eq_getElem hlt⟩
          have hrl : (ms.map row0)[k]? = some (row0 l) := by rw [List.getElem?_map, hl]; rfl
          obtain ⟨g2, p2, cp2, e1, hq5, hq6, -, a0, a1, a2, a3, a4⟩ := HX.out.row (i := 3) rfl (by simp) hrl
          simp only [Value.slice.injEq, true_and] at e1
          obtain ⟨rfl, rfl⟩ := e1
          obtain ⟨g3, p3, cp3, e1, hq7, hq8, -, t0, t1, t2⟩ := HX.out.line (i := 1) rfl rfl hl
          simp only [Value.slice.injEq, true_and] at e1
          obtain ⟨rfl, rfl⟩ := e1
          have hx := HX.out
          try clear o0 o1
          try clear fo0 fo1
          obtain ⟨o0, o1, -⟩ := blk2 (hx.blk (i := 0) rfl)
          clear hx
          simp only [row0] at a0 a1 a2 a3 a4
          have HL := Lib.hid hl
          have HRL := Lib.hid hrl
          clear hl hrl
          repeat first
            | apply d_seq
            | with_reducible apply kt_normal
            | apply l_nil
            | apply d_region
            | (apply l_off; (focus rfl); (focus rfl))
            | (apply l_val; (focus rfl); (focus rfl); (focus rfl); (focus (go_simp; (try simp (disch := omega) only [wrap_in, wrap_in', wrap_u16, wrap_u8, wrap_u32, rem_in, quo_in]); first | done | with_reducible rfl | (constructor <;> with_reducible rfl))))
            | (apply l_store; (focus rfl); (focus rfl); (focus rfl); (focus (go_simp; (try simp (disch := omega) only [wrap_in, wrap_in', wrap_u16, wrap_u8, wrap_u32, rem_in, quo_in]); first | done | with_reducible rfl | (constructor <;> with_reducible rfl))))
            | apply d_block
            | (apply d_true; (focus rfl); (focus rfl))
            | (apply d_false; (focus rfl); (focus rfl))
            | apply d_skip
            | apply d_exit
            | apply d_ret
            | with_reducible apply kt_ret
            | with_reducible apply kt_exit
            | with_reducible apply kb_normal
            | with_reducible apply kb_ret
            | with_reducible apply kb_here
            | with_reducible apply kl_ret
            | with_reducible apply kl_exit
            | with_reducible apply kc_ret
            | with_reducible apply kc_exit
            | (with_reducible apply kb_there; (focus rfl))
          refine d_draw (true, [([], []), ([], []), ([0, 1], [0, 1]), ([2], [2]), ([], []), ([4], [4]), ([], []), ([5, 6], [5, 6]), ([7], [7]), ([8], [8]), ([], []), ([10], [10]), ([], []), ([11, 12], [11, 12]), ([13], [13]), ([14], [14]), ([9, 15], [9, 15]), ([3, 16], [3, 16])]) [(0, 0), (0, 1), (0, 2), (0, 3), (0, 4), (0, 5), (0, 6), (0, 7), (0, 8), (0, 9), (0, 10), (0, 11), (0, 12), (0, 13), (0, 14), (0, 15), (0, 16), (0, 17)] [999999] (fun W => W.cell? ⟨w.heap.size, 1, none⟩ = some (.slice (some ⟨g3, p3, none⟩) ms.length c2) ∧ W.cell? ⟨g2, p2 + k * 5, none⟩ = some (.int .u16 l.item) ∧ W.cell? ⟨g2, p2 + k * 5 + 1, none⟩ = some (.int .i64 l.qty) ∧ W.cell? ⟨g2, p2 + k * 5 + 2, none⟩ = some (.int .i64 0) ∧ W.cell? ⟨g2, p2 + k * 5 + 3, none⟩ = some (.int .i64 0) ∧ W.cell? ⟨g2, p2 + k * 5 + 4, none⟩ = some (.int .i64 0) ∧ W.cell? ⟨g3, p3 + k * 3, none⟩ = some (.int .u16 l.item) ∧ W.cell? ⟨g3, p3 + k * 3 + 2, none⟩ = some (.int .i64 l.qty)) (by kernel_rfl) (by kernel_rfl) (by kernel_rfl) (by kernel_rfl) ⟨o1, a0, a1, a2, a3, a4, t0, t2⟩ ?_
          iterate 18
            first | (apply s_off; (focus rfl); (focus rfl); (focus rfl)) | (apply s_yield; (focus rfl); (focus rfl); (focus rfl); (focus rfl); (focus (intro W hS; obtain ⟨hS1, hS2, hS3, hS4, hS5, hS6, hS7, hS8⟩ := hS; go_simp; (try simp (disch := omega) only [wrap_in, wrap_in', wrap_u16, wrap_u8, wrap_u32, rem_in, quo_in]); first | done | with_reducible rfl | (constructor <;> with_reducible rfl))))
          refine s_done ?_
          repeat first
            | apply d_seq
            | with_reducible apply kt_normal
            | apply l_nil
            | apply d_region
            | (apply l_off; (focus rfl); (focus rfl))
            | (apply l_val; (focus rfl); (focus rfl); (focus rfl); (focus (go_simp; (try simp (disch := omega) only [wrap_in, wrap_in', wrap_u16, wrap_u8, wrap_u32, rem_in, quo_in]); first | done | with_reducible rfl | (constructor <;> with_reducible rfl))))
            | (apply l_store; (focus rfl); (focus rfl); (focus rfl); (focus (go_simp; (try simp (disch := omega) only [wrap_in, wrap_in', wrap_u16, wrap_u8, wrap_u32, rem_in, quo_in]); first | done | with_reducible rfl | (constructor <;> with_reducible rfl))))
            | apply d_block
            | (apply d_true; (focus rfl); (focus rfl))
            | (apply d_false; (focus rfl); (focus rfl))
            | apply d_skip
            | apply d_exit
            | apply d_ret
            | with_reducible apply kt_ret
            | with_reducible apply kt_exit
            | with_reducible apply kb_normal
            | with_reducible apply kb_ret
            | with_reducible apply kb_here
            | with_reducible apply kl_ret
            | with_reducible apply kl_exit
            | with_reducible apply kc_ret
            | with_reducible apply kc_exit
            | (with_reducible apply kb_there; (focus rfl))
          refine kl_normal (ms.length - (k + 1)) _ (by omega) (Subl.cons (t := 2) (by decide) rfl (Subl.cons (t := 5) (by decide) rfl (Subl.cons (t := 9) (by decide) rfl (Subl.cons (t := 11) (by decide) rfl (Subl.nil _ _))))) ?_
          exact ⟨k + 1, rfl, by omega, rfl, Lib.hid HX.out.drew⟩
        · repeat first
            | apply d_seq
            | with_reducible apply kt_normal
            | apply l_nil
            | apply d_region
            | (apply l_off; (focus rfl); (focus rfl))
            | (apply l_val; (focus rfl); (focus rfl); (focus rfl); (focus (go_simp; (try simp (disch := omega) only [wrap_in, wrap_in', wrap_u16, wrap_u8, wrap_u32, rem_in, quo_in]); first | done | with_reducible rfl | (constructor <;> with_reducible rfl))))
            | (apply l_store; (focus rfl); (focus rfl); (focus rfl); (focus (go_simp; (try simp (disch := omega) only [wrap_in, wrap_in', wrap_u16, wrap_u8, wrap_u32, rem_in, quo_in]); first | done | with_reducible rfl | (constructor <;> with_reducible rfl))))
            | apply d_block
            | (apply d_true; (focus rfl); (focus rfl))
            | (apply d_false; (focus rfl); (focus rfl))
            | apply d_skip
            | apply d_exit
            | apply d_ret
            | with_reducible apply kt_ret
            | with_reducible apply kt_exit
            | with_reducible apply kb_normal
            | with_reducible apply kb_ret
            | with_reducible apply kb_here
            | with_reducible apply kl_ret
            | with_reducible apply kl_exit
            | with_reducible apply kc_ret
            | with_reducible apply kc_exit
            | (with_reducible apply kb_there; (focus rfl))
          refine ⟨rfl, _, (by first | (simp [resultsG, resOne, Try.results9, rho, List.lookup]; done) | (simp [resultsG, resOne, Try.results9, rho, List.lookup]; rfl)), ?_⟩
          exact ⟨rfl, HX.out.old⟩
  · have hc := open_own HX.out 2 1 x [] rfl id _ _ ms rfl (by decide)
    rw [open_nil' id ms hr] at hc
    have q1 : (rightE ms == 0) = false := by simpa using hr
    have q2 : (rightE ms != 0) = true := by simpa using hr
    have HC := Lib.hid hc
    clear hc
    refine l_call rfl rfl rfl (by first | (go_simp; done) | (go_simp; rfl)) (HC.out) ?_
    rintro e w' ⟨rfl, hx⟩
    clear HX
    try simp only [List.nil_append, List.cons_append, List.set_cons_zero, List.set_cons_succ] at hx
    try clear o0 o1
    try clear fo0 fo1
    obtain ⟨o0, o1, -⟩ := blk2 (hx.blk (i := 0) rfl)
    have HX := Lib.hid hx
    clear hx
    refine ⟨_, rfl, ?_⟩
    repeat first
      | apply d_seq
      | with_reducible apply kt_normal
      | apply l_nil
      | apply d_region
      | (apply l_off; (focus rfl); (focus rfl))
      | (apply l_val; (focus rfl); (focus rfl); (focus rfl); (focus (go_simp; (try simp (disch := omega) only [wrap_in, wrap_in', wrap_u16, wrap_u8, wrap_u32, rem_in, quo_in]); first | done | with_reducible rfl | (constructor <;> with_reducible rfl))))
      | (apply l_store; (focus rfl); (focus rfl); (focus rfl); (focus (go_simp; (try simp (disch := omega) only [wrap_in, wrap_in', wrap_u16, wrap_u8, wrap_u32, rem_in, quo_in]); first | done | with_reducible rfl | (constructor <;> with_reducible rfl))))
      | apply d_block
      | (apply d_true; (focus rfl); (focus rfl))
      | (apply d_false; (focus rfl); (focus rfl))
      | apply d_skip
      | apply d_exit
      | apply d_ret
      | with_reducible apply kt_ret
      | with_reducible apply kt_exit
      | with_reducible apply kb_normal
      | with_reducible apply kb_ret
      | with_reducible apply kb_here
      | with_reducible apply kl_ret
      | with_reducible apply kl_exit
      | with_reducible apply kc_ret
      | with_reducible apply kc_exit
      | (with_reducible apply kb_there; (focus rfl))
    have hc1 := drop_has HX.out 2 x _ rfl id
    rw [drop_nil] at hc1
    have HC1 := Lib.hid hc1
    clear hc1
    clear HC
    refine l_call rfl rfl rfl (by first | (go_simp; done) | (go_simp; rfl)) (HC1.out) ?_
    rintro e w' ⟨rfl, hx⟩
    clear HX
    try simp only [List.nil_append, List.cons_append, List.set_cons_zero, List.set_cons_succ] at hx
    have HX := Lib.hid hx
    clear hx
    refine ⟨_, rfl, ?_⟩
    repeat first
      | apply d_seq
      | with_reducible apply kt_normal
      | apply l_nil
      | apply d_region
      | (apply l_off; (focus rfl); (focus rfl))
      | (apply l_val; (focus rfl); (focus rfl); (focus rfl); (focus (go_simp; (try simp (disch := omega) only [wrap_in, wrap_in', wrap_u16, wrap_u8, wrap_u32, rem_in, quo_in]); first | done | with_reducible rfl | (constructor <;> with_reducible rfl))))
      | (apply l_store; (focus rfl); (focus rfl); (focus rfl); (focus (go_simp; (try simp (disch := omega) only [wrap_in, wrap_in', wrap_u16, wrap_u8, wrap_u32, rem_in, quo_in]); first | done | with_reducible rfl | (constructor <;> with_reducible rfl))))
      | apply d_block
      | (apply d_true; (focus rfl); (focus rfl))
      | (apply d_false; (focus rfl); (focus rfl))
      | apply d_skip
      | apply d_exit
      | apply d_ret
      | with_reducible apply kt_ret
      | with_reducible apply kt_exit
      | with_reducible apply kb_normal
      | with_reducible apply kb_ret
      | with_reducible apply kb_here
      | with_reducible apply kl_ret
      | with_reducible apply kl_exit
      | with_reducible apply kc_ret
      | with_reducible apply kc_exit
      | (with_reducible apply kb_there; (focus rfl))
    refine ⟨rfl, _, (by first | (simp [resultsG, resOne, Try.results9, rho, List.lookup]; done) | (simp [resultsG, resOne, Try.results9, rho, List.lookup]; rfl)), ?_⟩
    exact ⟨rfl, HX.out.old⟩
end Go.Proofs.Ytkjcmnhhgnlaeaa
