import Derived.Test.YtkjcmnhhgnlaeaaLedL
namespace Go.Proofs.Ytkjcmnhhgnlaeaa
set_option linter.unusedVariables false
set_option linter.unusedSimpArgs false
attribute [local go_sem] rho_const rho_func rho_hit rho_miss
open Go.RowKit
attribute [local go_sem] min2_mn min_five
theorem fif_inj : ∀ i j : Nat, i < 8 → j < 8 → (fun k : Nat => (50 - (k : Int))) i = (fun k : Nat => (50 - (k : Int))) j → i = j := fun i j _ _ h => by have h' : (50 : Int) - i = 50 - j := h; omega
set_option maxRecDepth 100000 in
set_option maxHeartbeats 16000000 in
theorem ledgerFull_any {w : World} {A0 A1 A2 A3 : Option Addr} {n0 n1 n2 n3 cq0 cq1 cq2 cq3 : Nat} {l0 l1 l3 : List Int} {l2 : List Bool}
    (h0 : SeesIn w (fun k => k < w.heap.size) 1 (.slice A0 n0 cq0) l0.length (l0.flatMap (fun y => [Value.int .u16 y])) ∧ ∀ x ∈ l0, 0 ≤ x ∧ x ≤ 65535)
    (h1 : SeesIn w (fun k => k < w.heap.size) 1 (.slice A1 n1 cq1) l1.length (l1.flatMap (fun y => [Value.int .u16 y])) ∧ ∀ x ∈ l1, 0 ≤ x ∧ x ≤ 65535)
    (h2 : SeesIn w (fun k => k < w.heap.size) 1 (.slice A2 n2 cq2) l2.length (l2.flatMap (fun y => [Value.bool y])) ∧ ∀ x ∈ l2, True)
    (h3 : SeesIn w (fun k => k < w.heap.size) 1 (.slice A3 n3 cq3) l3.length (l3.flatMap (fun y => [Value.int .u16 y])) ∧ ∀ x ∈ l3, 0 ≤ x ∧ x ≤ 65535) :
    Calls Try.prog 10 #[.slice A0 n0 cq0, .slice A1 n1 cq1, .slice A2 n2 cq2, .slice A3 n3 cq3] w fun e w' => e = .returned (.bool true) ∧ Keep none_ w w' := by
  obtain ⟨hs0, hb0⟩ := h0
  obtain ⟨hs1, hb1⟩ := h1
  obtain ⟨hs2, -⟩ := h2
  obtain ⟨hs3, hb3⟩ := h3
  obtain ⟨rfl, b0, b0'⟩ := hs0.form'
  obtain ⟨rfl, b1, b1'⟩ := hs1.form'
  obtain ⟨rfl, b2, b2'⟩ := hs2.form'
  obtain ⟨rfl, b3, b3'⟩ := hs3.form'
  obtain ⟨n, hn, hn0, hn1, hn2, hn3, hn8⟩ : ∃ n : Nat, mn (mn (mn (mn l0.length l1.length) l2.length) l3.length) 8 = n ∧ n ≤ l0.length ∧ n ≤ l1.length ∧ n ≤ l2.length ∧ n ≤ l3.length ∧ n ≤ 8 := by
    obtain ⟨m1, e1, p1, p2, -⟩ := mn_nat l0.length l1.length
    obtain ⟨m2, e2, p3, p4, -⟩ := mn_nat m1 l2.length
    obtain ⟨m3, e3, p5, p6, -⟩ := mn_nat m2 l3.length
    obtain ⟨m4, e4, p7, p8, -⟩ := mn_nat m3 8
    simp only [Int.cast_ofNat_Int] at e4
    exact ⟨m4, by rw [e1, e2, e3, e4], by omega, by omega, by omega, by omega, by omega⟩
  have HX := Lib.hid (Has.nil (Keep.refl none_ w))
  have HS0 := Lib.hid hs0
  have HB0 := Lib.hid hb0
  have HS1 := Lib.hid hs1
  have HB1 := Lib.hid hb1
  have HS2 := Lib.hid hs2
  have HS3 := Lib.hid hs3
  have HB3 := Lib.hid hb3
  clear hs0 hb0 hs1 hb1 hs2 hs3 hb3
  refine d_calls (n := 185) Try.func10 rfl rfl (by simp) [(0, .slice A0 l0.length cq0), (1, .slice A1 l1.length cq1), (2, .slice A2 l2.length cq2), (3, .slice A3 l3.length cq3)] (by simp) ?_
  repeat first
    | apply d_seq
    | with_reducible apply kt_normal
    | apply l_nil
    | apply d_region
    | (apply l_off; (focus rfl); (focus rfl))
    | (apply l_val; (focus rfl); (focus rfl); (focus rfl); (focus (go_simp; (try simp (disch := omega) only [wrap_in, wrap_in', wrap_u16, wrap_u8, wrap_u32, rem_in, quo_in]); first | done | with_reducible rfl | (constructor <;> with_reducible rfl))))
    | (apply l_store; (focus rfl); (focus rfl); (focus rfl); (focus (go_simp; (try simp (disch := omega) only [wrap_in, wrap_in', wrap_u16, wrap_u8, wrap_u32, rem_in, quo_in]); first | done | with_reducible rfl | (constructor <;> with_reducible rfl))))
    | apply d_block
    | (apply d_true; (focus rfl); (focus rfl))
    | (apply d_false; (focus rfl); (focus rfl))
    | apply d_skip
    | apply d_exit
    | apply d_ret
    | with_reducible apply kt_ret
    | with_reducible apply kt_exit
    | with_reducible apply kb_normal
    | with_reducible apply kb_ret
    | with_reducible apply kb_here
    | with_reducible apply kl_ret
    | with_reducible apply kl_exit
    | with_reducible apply kc_ret
    | with_reducible apply kc_exit
    | (with_reducible apply kb_there; (focus rfl))
  refine l_call rfl rfl rfl (by first | (go_simp; done) | (go_simp; rfl)) (shown_has HX.out) ?_
  rintro e w' ⟨rfl, hx⟩
  clear HX
  try simp only [List.nil_append, List.cons_append, List.set_cons_zero, List.set_cons_succ] at hx
  have HX := Lib.hid hx
  clear hx
  refine ⟨_, rfl, ?_⟩
  repeat first
    | apply d_seq
    | with_reducible apply kt_normal
    | apply l_nil
    | apply d_region
    | (apply l_off; (focus rfl); (focus rfl))
    | (apply l_val; (focus rfl); (focus rfl); (focus rfl); (focus (go_simp; (try simp (disch := omega) only [wrap_in, wrap_in', wrap_u16, wrap_u8, wrap_u32, rem_in, quo_in]); first | done | with_reducible rfl | (constructor <;> with_reducible rfl))))
    | (apply l_store; (focus rfl); (focus rfl); (focus rfl); (focus (go_simp; (try simp (disch := omega) only [wrap_in, wrap_in', wrap_u16, wrap_u8, wrap_u32, rem_in, quo_in]); first | done | with_reducible rfl | (constructor <;> with_reducible rfl))))
    | apply d_block
    | (apply d_true; (focus rfl); (focus rfl))
    | (apply d_false; (focus rfl); (focus rfl))
    | apply d_skip
    | apply d_exit
    | apply d_ret
    | with_reducible apply kt_ret
    | with_reducible apply kt_exit
    | with_reducible apply kb_normal
    | with_reducible apply kb_ret
    | with_reducible apply kb_here
    | with_reducible apply kl_ret
    | with_reducible apply kl_exit
    | with_reducible apply kc_ret
    | with_reducible apply kc_exit
    | (with_reducible apply kb_there; (focus rfl))
  by_cases hz : n = 0
  · have q0 : ((n : Int) == 0) = true := by simp [hz]
    refine l_call rfl rfl rfl (by first | (go_simp; done) | (go_simp; rfl)) (new_has HX.out) ?_
    rintro e w' ⟨x, rfl, hx⟩
    clear HX
    try simp only [List.nil_append, List.cons_append, List.set_cons_zero, List.set_cons_succ] at hx
    have HX := Lib.hid hx
    clear hx
    refine ⟨_, rfl, ?_⟩
    repeat first
      | apply d_seq
      | with_reducible apply kt_normal
      | apply l_nil
      | apply d_region
      | (apply l_off; (focus rfl); (focus rfl))
      | (apply l_val; (focus rfl); (focus rfl); (focus rfl); (focus (go_simp; (try simp (disch := omega) only [wrap_in, wrap_in', wrap_u16, wrap_u8, wrap_u32, rem_in, quo_in]); first | done | with_reducible rfl | (constructor <;> with_reducible rfl))))
      | (apply l_store; (focus rfl); (focus rfl); (focus rfl); (focus (go_simp; (try simp (disch := omega) only [wrap_in, wrap_in', wrap_u16, wrap_u8, wrap_u32, rem_in, quo_in]); first | done | with_reducible rfl | (constructor <;> with_reducible rfl))))
      | apply d_block
      | (apply d_true; (focus rfl); (focus rfl))
      | (apply d_false; (focus rfl); (focus rfl))
      | apply d_skip
      | apply d_exit
      | apply d_ret
      | with_reducible apply kt_ret
      | with_reducible apply kt_exit
      | with_reducible apply kb_normal
      | with_reducible apply kb_ret
      | with_reducible apply kb_here
      | with_reducible apply kl_ret
      | with_reducible apply kl_exit
      | with_reducible apply kc_ret
      | with_reducible apply kc_exit
      | (with_reducible apply kb_there; (focus rfl))
    refine ⟨rfl, _, (by first | (simp [resultsG, resOne, Try.results10, rho, List.lookup]; done) | (simp [resultsG, resOne, Try.results10, rho, List.lookup]; rfl)), ?_⟩
    exact ⟨rfl, HX.out.old⟩
  · have q0 : ((n : Int) == 0) = false := by simp [hz]
    refine l_call rfl rfl rfl (by first | (go_simp; done) | (go_simp; rfl)) (new_has HX.out) ?_
    rintro e w' ⟨x, rfl, hx⟩
    clear HX
    try simp only [List.nil_append, List.cons_append, List.set_cons_zero, List.set_cons_succ] at hx
    have HX := Lib.hid hx
    clear hx
    refine ⟨_, rfl, ?_⟩
    repeat first
      | apply d_seq
      | with_reducible apply kt_normal
      | apply l_nil
      | apply d_region
      | (apply l_off; (focus rfl); (focus rfl))
      | (apply l_val; (focus rfl); (focus rfl); (focus rfl); (focus (go_simp; (try simp (disch := omega) only [wrap_in, wrap_in', wrap_u16, wrap_u8, wrap_u32, rem_in, quo_in]); first | done | with_reducible rfl | (constructor <;> with_reducible rfl))))
      | (apply l_store; (focus rfl); (focus rfl); (focus rfl); (focus (go_simp; (try simp (disch := omega) only [wrap_in, wrap_in', wrap_u16, wrap_u8, wrap_u32, rem_in, quo_in]); first | done | with_reducible rfl | (constructor <;> with_reducible rfl))))
      | ((fail_if_success (with_reducible apply d_block (id := 0))); apply d_block)
      | (apply d_true; (focus rfl); (focus rfl))
      | (apply d_false; (focus rfl); (focus rfl))
      | apply d_skip
      | apply d_exit
      | apply d_ret
      | with_reducible apply kt_ret
      | with_reducible apply kt_exit
      | with_reducible apply kb_normal
      | with_reducible apply kb_ret
      | with_reducible apply kb_here
      | with_reducible apply kl_ret
      | with_reducible apply kl_exit
      | with_reducible apply kc_ret
      | with_reducible apply kc_exit
      | (with_reducible apply kb_there; (focus rfl))
    have hx := HX.out.new (Keep.refl none_ _) (P := OwnA w.heap.size 59 3 (.slice none 0 0) 0 (lns (mkL (fun k => 50 - k) (l0.take 0)))) (Own.nil _ _ _ _)
    simp only [List.nil_append, List.cons_append] at hx
    clear HX
    have HX := Lib.hid hx
    clear hx hn
    refine d_join (fun D wr => ∃ (A : Option Addr) (c : Nat), D = [(1, .slice A1 l1.length cq1), (2, .slice A2 l2.length cq2), (3, .slice A3 l3.length cq3), (9, .bool true), (10, .int .i64 n), (11, .pointer (some ⟨x, 0, none⟩)), (12, .slice A n c)] ∧ Hid (Has w wr [LedA w.heap.size x [], OwnA w.heap.size 59 3 (.slice A n c) n (lns (mkL (fun k => 50 - k) (l0.take n)))])) ?_ (fun D wr hcut => ?_)
    · repeat first
        | apply d_seq
        | with_reducible apply kt_normal
        | apply l_nil
        | apply d_region
        | (apply l_off; (focus rfl); (focus rfl))
        | (apply l_val; (focus rfl); (focus rfl); (focus rfl); (focus (go_simp; (try simp (disch := omega) only [wrap_in, wrap_in', wrap_u16, wrap_u8, wrap_u32, rem_in, quo_in]); first | done | with_reducible rfl | (constructor <;> with_reducible rfl))))
        | (apply l_store; (focus rfl); (focus rfl); (focus rfl); (focus (go_simp; (try simp (disch := omega) only [wrap_in, wrap_in', wrap_u16, wrap_u8, wrap_u32, rem_in, quo_in]); first | done | with_reducible rfl | (constructor <;> with_reducible rfl))))
        | apply d_block
        | (apply d_true; (focus rfl); (focus rfl))
        | (apply d_false; (focus rfl); (focus rfl))
        | apply d_skip
        | apply d_exit
        | apply d_ret
        | with_reducible apply kt_ret
        | with_reducible apply kt_exit
        | with_reducible apply kb_normal
        | with_reducible apply kb_ret
        | with_reducible apply kb_here
        | with_reducible apply kl_ret
        | with_reducible apply kl_exit
        | with_reducible apply kc_ret
        | with_reducible apply kc_exit
        | (with_reducible apply kb_there; (focus rfl))
      refine d_loop (fun m D wr => ∃ (k : Nat) (A : Option Addr) (c : Nat), m = n - k ∧ k ≤ n ∧ D = [(0, .slice A0 l0.length cq0), (1, .slice A1 l1.length cq1), (2, .slice A2 l2.length cq2), (3, .slice A3 l3.length cq3), (9, .bool true), (10, .int .i64 n), (11, .pointer (some ⟨x, 0, none⟩)), (12, .slice A k c), (13, .int .i64 k)] ∧ Hid (Has w wr [LedA w.heap.size x [], OwnA w.heap.size 59 3 (.slice A k c) k (lns (mkL (fun k => 50 - k) (l0.take k)))])) (n) _ (Subl.cons (t := 0) (by decide) rfl (Subl.cons (t := 1) (by decide) rfl (Subl.cons (t := 2) (by decide) rfl (Subl.cons (t := 3) (by decide) rfl (Subl.cons (t := 9) (by decide) rfl (Subl.cons (t := 10) (by decide) rfl (Subl.cons (t := 11) (by decide) rfl (Subl.cons (t := 12) (by decide) rfl (Subl.cons (t := 13) (by decide) rfl (Subl.nil _ _)))))))))) ?_ (fun m D wr hrel => ?_)
      · exact ⟨0, none, 0, rfl, Nat.zero_le _, rfl, HX⟩
      · clear HX
        obtain ⟨k, A, c, rfl, hk, rfl, HX⟩ := hrel
        by_cases hlt : k < n
        · obtain ⟨y, hy⟩ : ∃ y, l0[k]? = some y := ⟨_, List.getElem?_eq_getElem (by omega)⟩
          obtain ⟨hy0, hy1⟩ := HB0.out y (List.mem_of_getElem? hy)
          obtain ⟨g1, o1, cp1, e1, -, -, hq3, hq4, d0⟩ := sees_one (.int .u16) (fun _ => rfl) HS0.out hy
          simp only [Value.slice.injEq, true_and] at e1
          obtain ⟨rfl, rfl⟩ := e1
          have hkl : k < l0.length := by omega
          have hms := mkL_snoc (fun k => (50 - (k : Int))) l0 k y hy
          obtain ⟨g2, cap, w2, hr, hc1, hc2, hx⟩ := push_line HX.out (k := 1) rfl (by omega) ⟨50 - k, k, 1 + y % 9999⟩
          simp only [List.set_cons_zero, List.set_cons_succ] at hx
          rw [← hms] at hx
          have hy2 : 0 ≤ y % 9999 ∧ y % 9999 < 9999 := by omega
          have D0 := Lib.hid d0
          have HY := Lib.hid hy
          have HMS := Lib.hid hms
          have HR := Lib.hid hr
          clear d0 hy hms hr
          try clear d0
          have d0 := HX.out.cell0 D0.out
          repeat first
            | apply d_seq
            | with_reducible apply kt_normal
            | apply l_nil
            | apply d_region
            | (apply l_off; (focus rfl); (focus rfl))
            | (apply l_val; (focus rfl); (focus rfl); (focus rfl); (focus (go_simp; (try simp (disch := omega) only [wrap_in, wrap_in', wrap_u16, wrap_u8, wrap_u32, rem_in, quo_in]); first | done | with_reducible rfl | (constructor <;> with_reducible rfl))))
            | (apply l_store; (focus rfl); (focus rfl); (focus rfl); (focus (go_simp; (try simp (disch := omega) only [wrap_in, wrap_in', wrap_u16, wrap_u8, wrap_u32, rem_in, quo_in]); first | done | with_reducible rfl | (constructor <;> with_reducible rfl))))
            | apply d_block
            | (apply d_true; (focus rfl); (focus rfl))
            | (apply d_false; (focus rfl); (focus rfl))
            | apply d_skip
            | apply d_exit
            | apply d_ret
            | with_reducible apply kt_ret
            | with_reducible apply kt_exit
            | with_reducible apply kb_normal
            | with_reducible apply kb_ret
            | with_reducible apply kb_here
            | with_reducible apply kl_ret
            | with_reducible apply kl_exit
            | with_reducible apply kc_ret
            | with_reducible apply kc_exit
            | (with_reducible apply kb_there; (focus rfl))
          refine l_val rfl rfl rfl (exec_append (.tmp 48) (.tmp 62) 32 rfl _ _ rfl rfl HR.out) ?_
          clear HX d0
          have HX := Lib.hid hx
          clear hx
          repeat first
            | apply d_seq
            | with_reducible apply kt_normal
            | apply l_nil
            | apply d_region
            | (apply l_off; (focus rfl); (focus rfl))
            | (apply l_val; (focus rfl); (focus rfl); (focus rfl); (focus (go_simp; (try simp (disch := omega) only [wrap_in, wrap_in', wrap_u16, wrap_u8, wrap_u32, rem_in, quo_in]); first | done | with_reducible rfl | (constructor <;> with_reducible rfl))))
            | (apply l_store; (focus rfl); (focus rfl); (focus rfl); (focus (go_simp; (try simp (disch := omega) only [wrap_in, wrap_in', wrap_u16, wrap_u8, wrap_u32, rem_in, quo_in]); first | done | with_reducible rfl | (constructor <;> with_reducible rfl))))
            | apply d_block
            | (apply d_true; (focus rfl); (focus rfl))
            | (apply d_false; (focus rfl); (focus rfl))
            | apply d_skip
            | apply d_exit
            | apply d_ret
            | with_reducible apply kt_ret
            | with_reducible apply kt_exit
            | with_reducible apply kb_normal
            | with_reducible apply kb_ret
            | with_reducible apply kb_here
            | with_reducible apply kl_ret
            | with_reducible apply kl_exit
            | with_reducible apply kc_ret
            | with_reducible apply kc_exit
            | (with_reducible apply kb_there; (focus rfl))
          refine kl_normal (n - (k + 1)) _ (by omega) (Subl.cons (t := 0) (by decide) rfl (Subl.cons (t := 1) (by decide) rfl (Subl.cons (t := 2) (by decide) rfl (Subl.cons (t := 3) (by decide) rfl (Subl.cons (t := 9) (by decide) rfl (Subl.cons (t := 10) (by decide) rfl (Subl.cons (t := 11) (by decide) rfl (Subl.cons (t := 12) (by decide) rfl (Subl.cons (t := 13) (by decide) rfl (Subl.nil _ _)))))))))) ?_
          exact ⟨k + 1, _, _, rfl, by omega, rfl, HX⟩
        · obtain rfl : k = n := by omega
          repeat first
            | apply d_seq
            | with_reducible apply kt_normal
            | apply l_nil
            | apply d_region
            | (apply l_off; (focus rfl); (focus rfl))
            | (apply l_val; (focus rfl); (focus rfl); (focus rfl); (focus (go_simp; (try simp (disch := omega) only [wrap_in, wrap_in', wrap_u16, wrap_u8, wrap_u32, rem_in, quo_in]); first | done | with_reducible rfl | (constructor <;> with_reducible rfl))))
            | (apply l_store; (focus rfl); (focus rfl); (focus rfl); (focus (go_simp; (try simp (disch := omega) only [wrap_in, wrap_in', wrap_u16, wrap_u8, wrap_u32, rem_in, quo_in]); first | done | with_reducible rfl | (constructor <;> with_reducible rfl))))
            | apply d_block
            | (apply d_true; (focus rfl); (focus rfl))
            | (apply d_false; (focus rfl); (focus rfl))
            | apply d_skip
            | apply d_exit
            | apply d_ret
            | with_reducible apply kt_ret
            | with_reducible apply kt_exit
            | with_reducible apply kb_normal
            | with_reducible apply kb_ret
            | with_reducible apply kb_here
            | with_reducible apply kl_ret
            | with_reducible apply kl_exit
            | with_reducible apply kc_ret
            | with_reducible apply kc_exit
            | (with_reducible apply kb_there; (focus rfl))
          refine kc_normal _ (Subl.cons (t := 1) (by decide) rfl (Subl.cons (t := 2) (by decide) rfl (Subl.cons (t := 3) (by decide) rfl (Subl.cons (t := 9) (by decide) rfl (Subl.cons (t := 10) (by decide) rfl (Subl.cons (t := 11) (by decide) rfl (Subl.cons (t := 12) (by decide) rfl (Subl.nil _ _)))))))) ?_
          exact ⟨A, c, rfl, HX⟩
    clear HX
    obtain ⟨A, c, rfl, HX⟩ := hcut
    have hlm : (mkL (fun k => (50 - (k : Int))) (l0.take n)).length = n := by rw [mkL_len, List.length_take]; omega
    have hri := mkL_right (fun k => (50 - (k : Int))) fif_inj (l0.take n) (by rw [List.length_take]; omega) (by rw [List.length_take]; omega)
    have hit : ∀ (j : Nat) l, (mkL (fun k => (50 - (k : Int))) (l0.take n))[j]? = some l → l.item = 50 - j ∧ 1 ≤ l.qty ∧ l.qty ≤ 9999 := by
      intro j l hl
      rw [mkL_get] at hl
      cases hj : (l0.take n)[j]? with
      | none => rw [hj] at hl; simp at hl
      | some q => rw [hj] at hl; simp only [Option.map_some, Option.some.injEq] at hl; subst hl; exact ⟨rfl, by simp only; omega, by simp only; omega⟩
    generalize mkL (fun k => (50 - (k : Int))) (l0.take n) = ms at *
    have hc := open_own HX.out 0 1 x [] rfl 4 _ _ ms (by simp only [hlm]; rfl) (by decide)
    rw [open_nil 4 ms hri, rsM_new] at hc
    have hcl := closed_new 4 ms hri
    rw [rsM_new] at hcl
    have hfu : LS.all [(4, rsM ms ⟨fun _ => 0, fun _ => 0, fun _ => 0⟩)] 4 Rw.full = false := by
      rw [LS.all_rows, (rows_one 4 _).1] at hcl ⊢
      rw [(rows_one 4 _).2, Bool.true_and] at hcl ⊢
      rw [List.all_eq_false] at hcl ⊢
      obtain ⟨r, h1, h2⟩ := hcl
      exact ⟨r, h1, fun c => h2 (by simp only [Rw.full, Bool.and_eq_true] at c; exact c.1)⟩
    have HC := Lib.hid hc
    have HIT := Lib.hid hit
    have HRI := Lib.hid hri
    clear hc hit hri
    repeat first
      | apply d_seq
      | with_reducible apply kt_normal
      | apply l_nil
      | apply d_region
      | (apply l_off; (focus rfl); (focus rfl))
      | (apply l_val; (focus rfl); (focus rfl); (focus rfl); (focus (go_simp; (try simp (disch := omega) only [wrap_in, wrap_in', wrap_u16, wrap_u8, wrap_u32, rem_in, quo_in]); first | done | with_reducible rfl | (constructor <;> with_reducible rfl))))
      | (apply l_store; (focus rfl); (focus rfl); (focus rfl); (focus (go_simp; (try simp (disch := omega) only [wrap_in, wrap_in', wrap_u16, wrap_u8, wrap_u32, rem_in, quo_in]); first | done | with_reducible rfl | (constructor <;> with_reducible rfl))))
      | apply d_block
      | (apply d_true; (focus rfl); (focus rfl))
      | (apply d_false; (focus rfl); (focus rfl))
      | apply d_skip
      | apply d_exit
      | apply d_ret
      | with_reducible apply kt_ret
      | with_reducible apply kt_exit
      | with_reducible apply kb_normal
      | with_reducible apply kb_ret
      | with_reducible apply kb_here
      | with_reducible apply kl_ret
      | with_reducible apply kl_exit
      | with_reducible apply kc_ret
      | with_reducible apply kc_exit
      | (with_reducible apply kb_there; (focus rfl))
    refine l_call rfl rfl rfl (by first | (go_simp; done) | (go_simp; rfl)) (HC.out) ?_
    rintro e w' ⟨rfl, hx⟩
    clear HX
    try simp only [List.nil_append, List.cons_append, List.set_cons_zero, List.set_cons_succ] at hx
    have HX := Lib.hid hx
    clear hx
    refine ⟨_, rfl, ?_⟩
    repeat first
      | apply d_seq
      | with_reducible apply kt_normal
      | apply l_nil
      | apply d_region
      | (apply l_off; (focus rfl); (focus rfl))
      | (apply l_val; (focus rfl); (focus rfl); (focus rfl); (focus (go_simp; (try simp (disch := omega) only [wrap_in, wrap_in', wrap_u16, wrap_u8, wrap_u32, rem_in, quo_in]); first | done | with_reducible rfl | (constructor <;> with_reducible rfl))))
      | (apply l_store; (focus rfl); (focus rfl); (focus rfl); (focus (go_simp; (try simp (disch := omega) only [wrap_in, wrap_in', wrap_u16, wrap_u8, wrap_u32, rem_in, quo_in]); first | done | with_reducible rfl | (constructor <;> with_reducible rfl))))
      | apply d_block
      | (apply d_true; (focus rfl); (focus rfl))
      | (apply d_false; (focus rfl); (focus rfl))
      | apply d_skip
      | apply d_exit
      | apply d_ret
      | with_reducible apply kt_ret
      | with_reducible apply kt_exit
      | with_reducible apply kb_normal
      | with_reducible apply kb_ret
      | with_reducible apply kb_here
      | with_reducible apply kl_ret
      | with_reducible apply kl_exit
      | with_reducible apply kc_ret
      | with_reducible apply kc_exit
      | (with_reducible apply kb_there; (focus rfl))
    have hc := closed_has HX.out 0 x _ rfl 4
    rw [hcl] at hc
    have HC := Lib.hid hc
    clear hc
    refine l_call rfl rfl rfl (by first | (go_simp; done) | (go_simp; rfl)) (HC.out) ?_
    rintro e w' ⟨rfl, hx⟩
    clear HX
    try simp only [List.nil_append, List.cons_append, List.set_cons_zero, List.set_cons_succ] at hx
    have HX := Lib.hid hx
    clear hx
    refine ⟨_, rfl, ?_⟩
    repeat first
      | apply d_seq
      | with_reducible apply kt_normal
      | apply l_nil
      | apply d_region
      | (apply l_off; (focus rfl); (focus rfl))
      | (apply l_val; (focus rfl); (focus rfl); (focus rfl); (focus (go_simp; (try simp (disch := omega) only [wrap_in, wrap_in', wrap_u16, wrap_u8, wrap_u32, rem_in, quo_in]); first | done | with_reducible rfl | (constructor <;> with_reducible rfl))))
      | (apply l_store; (focus rfl); (focus rfl); (focus rfl); (focus (go_simp; (try simp (disch := omega) only [wrap_in, wrap_in', wrap_u16, wrap_u8, wrap_u32, rem_in, quo_in]); first | done | with_reducible rfl | (constructor <;> with_reducible rfl))))
      | apply d_block
      | (apply d_true; (focus rfl); (focus rfl))
      | (apply d_false; (focus rfl); (focus rfl))
      | apply d_skip
      | apply d_exit
      | apply d_ret
      | with_reducible apply kt_ret
      | with_reducible apply kt_exit
      | with_reducible apply kb_normal
      | with_reducible apply kb_ret
      | with_reducible apply kb_here
      | with_reducible apply kl_ret
      | with_reducible apply kl_exit
      | with_reducible apply kc_ret
      | with_reducible apply kc_exit
      | (with_reducible apply kb_there; (focus rfl))
    have hc := full_has HX.out 0 x _ rfl 4
    rw [hfu] at hc
    have HC := Lib.hid hc
    clear hc
    clear hcl hfu
    refine l_call rfl rfl rfl (by first | (go_simp; done) | (go_simp; rfl)) (HC.out) ?_
    rintro e w' ⟨rfl, hx⟩
    clear HX
    try simp only [List.nil_append, List.cons_append, List.set_cons_zero, List.set_cons_succ] at hx
    have HX := Lib.hid hx
    clear hx
    refine ⟨_, rfl, ?_⟩
    repeat first
      | apply d_seq
      | with_reducible apply kt_normal
      | apply l_nil
      | apply d_region
      | (apply l_off; (focus rfl); (focus rfl))
      | (apply l_val; (focus rfl); (focus rfl); (focus rfl); (focus (go_simp; (try simp (disch := omega) only [wrap_in, wrap_in', wrap_u16, wrap_u8, wrap_u32, rem_in, quo_in]); first | done | with_reducible rfl | (constructor <;> with_reducible rfl))))
      | (apply l_store; (focus rfl); (focus rfl); (focus rfl); (focus (go_simp; (try simp (disch := omega) only [wrap_in, wrap_in', wrap_u16, wrap_u8, wrap_u32, rem_in, quo_in]); first | done | with_reducible rfl | (constructor <;> with_reducible rfl))))
      | apply d_block
      | (apply d_true; (focus rfl); (focus rfl))
      | (apply d_false; (focus rfl); (focus rfl))
      | apply d_skip
      | apply d_exit
      | apply d_ret
      | with_reducible apply kt_ret
      | with_reducible apply kt_exit
      | with_reducible apply kb_normal
      | with_reducible apply kb_ret
      | with_reducible apply kb_here
      | with_reducible apply kl_ret
      | with_reducible apply kl_exit
      | with_reducible apply kc_ret
      | with_reducible apply kc_exit
      | (with_reducible apply kb_there; (focus rfl))
    clear HC
    refine d_loop (fun m D wr => ∃ (k : Nat) (a : Acc) (cl fu : Bool), m = n - k ∧ k ≤ n ∧ D = [(1, .slice A1 l1.length cq1), (2, .slice A2 l2.length cq2), (3, .slice A3 l3.length cq3), (9, .bool true), (10, .int .i64 n), (11, .pointer (some ⟨x, 0, none⟩)), (12, .slice A n c), (14, .bool cl), (15, .bool fu), (16, .int .i64 k)] ∧ Hid (Has w wr [LedA w.heap.size x [(4, rsM ms a)], OwnA w.heap.size 59 3 (.slice A n c) n (lns ms)]) ∧ Hid ((∀ j, k ≤ j → a.P j = 0 ∧ a.S j = 0 ∧ a.T j = 0) ∧ cl = ((rsM ms a).take k).all Rw.closed ∧ fu = ((rsM ms a).take k).all Rw.full)) (n) _ (Subl.cons (t := 1) (by decide) rfl (Subl.cons (t := 2) (by decide) rfl (Subl.cons (t := 3) (by decide) rfl (Subl.cons (t := 9) (by decide) rfl (Subl.cons (t := 10) (by decide) rfl (Subl.cons (t := 11) (by decide) rfl (Subl.cons (t := 12) (by decide) rfl (Subl.cons (t := 14) (by decide) rfl (Subl.cons (t := 15) (by decide) rfl (Subl.cons (t := 16) (by decide) rfl (Subl.nil _ _))))))))))) ?_ (fun m D wr hrel => ?_)
    · exact ⟨0, ⟨fun _ => 0, fun _ => 0, fun _ => 0⟩, true, true, rfl, Nat.zero_le _, rfl, HX, Lib.hid ⟨fun _ _ => ⟨rfl, rfl, rfl⟩, by simp, by simp⟩⟩
    · clear HX
      obtain ⟨k, a, cl, fu, rfl, hk, rfl, HX, HREL⟩ := hrel
      by_cases hlt : k < n
      · obtain ⟨l, hl⟩ : ∃ y, ms[k]? = some y := ⟨_, List.getElem?_eq_getElem (by omega)⟩
        obtain ⟨hli, hlq1, hlq2⟩ := HIT.out k l hl
        have hd : ∀ (j : Nat) l', j < k → ms[j]? = some l' → l'.item ≠ l.item := fun j l' hj hl' => by rw [(HIT.out j l' hl').1, hli]; omega
        obtain ⟨y1, hy1⟩ : ∃ y, l1[k]? = some y := ⟨_, List.getElem?_eq_getElem (by omega)⟩
        obtain ⟨y2, hy2⟩ : ∃ y, l2[k]? = some y := ⟨_, List.getElem?_eq_getElem (by omega)⟩
        obtain ⟨y3, hy3⟩ : ∃ y, l3[k]? = some y := ⟨_, List.getElem?_eq_getElem (by omega)⟩
        obtain ⟨v1, v1'⟩ := HB1.out y1 (List.mem_of_getElem? hy1)
        obtain ⟨v3, v3'⟩ := HB3.out y3 (List.mem_of_getElem? hy3)
        obtain ⟨g1, o1, cp1, e1, -, -, hq1, hq1', d1⟩ := sees_one (.int .u16) (fun _ => rfl) HS1.out hy1
        simp only [Value.slice.injEq, true_and] at e1
        obtain ⟨rfl, rfl⟩ := e1
        obtain ⟨g2, o2, cp2, e1, -, -, hq2, hq2', d2⟩ := sees_one (.bool) (fun _ => rfl) HS2.out hy2
        simp only [Value.slice.injEq, true_and] at e1
        obtain ⟨rfl, rfl⟩ := e1
        obtain ⟨g3, o3, cp3, e1, -, -, hq3, hq3', d3⟩ := sees_one (.int .u16) (fun _ => rfl) HS3.out hy3
        simp only [Value.slice.injEq, true_and] at e1
        obtain ⟨rfl, rfl⟩ := e1
        obtain ⟨g4, o4, cp4, e1, hq4, hq4', -, t0, t1, t2⟩ := HX.out.line (i := 1) rfl hlm.symm hl
        simp only [Value.slice.injEq, true_and] at e1
        obtain ⟨rfl, rfl⟩ := e1
        have k1 : k < l1.length := by omega
        have k2 : k < l2.length := by omega
        have k3 : k < l3.length := by omega
        have z1 : ((l.qty + 1 : Int) == 0) = false := by simp; omega
        have z1' : ¬ (l.qty + 1 = 0) := by omega
        obtain ⟨p, hp⟩ : ∃ p, y1 % (l.qty + 1) = p := ⟨_, rfl⟩
        have hp0 : 0 ≤ p ∧ p ≤ l.qty := by have := Int.emod_nonneg y1 (show l.qty + 1 ≠ 0 by omega); have := Int.emod_lt_of_pos y1 (show 0 < l.qty + 1 by omega); omega
        have z2 : ((p + 1 : Int) == 0) = false := by simp; omega
        have z2' : ¬ (p + 1 = 0) := by omega
        obtain ⟨q, hq⟩ : ∃ q, y3 % (p + 1) = q := ⟨_, rfl⟩
        have hq0 : 0 ≤ q ∧ q ≤ p := by have := Int.emod_nonneg y3 (show p + 1 ≠ 0 by omega); have := Int.emod_lt_of_pos y3 (show 0 < p + 1 by omega); omega
        obtain ⟨ha0, ha1, ha2⟩ := HREL.out
        have ha := ha0 k (Nat.le_refl _)
        have hl' := Lib.hid hl
        have HL := Lib.hid hl
        have HY1 := Lib.hid hy1
        have HY2 := Lib.hid hy2
        have HY3 := Lib.hid hy3
        have D1 := Lib.hid d1
        have D2 := Lib.hid d2
        have D3 := Lib.hid d3
        have HD := Lib.hid hd
        have HA0 := Lib.hid ha0
        have HA1 := Lib.hid ha1
        have HA2 := Lib.hid ha2
        have HA := Lib.hid ha
        clear hl hy1 hy2 hy3 d1 d2 d3 hd ha0 ha1 ha2 ha
        clear HREL
        try clear d1
        have d1 := HX.out.cell0 D1.out
        try clear d2
        have d2 := HX.out.cell0 D2.out
        try clear d3
        have d3 := HX.out.cell0 D3.out
        repeat first
          | apply d_seq
          | with_reducible apply kt_normal
          | apply l_nil
          | apply d_region
          | (apply l_off; (focus rfl); (focus rfl))
          | (apply l_val; (focus rfl); (focus rfl); (focus rfl); (focus (go_simp; (try simp (disch := omega) only [wrap_in, wrap_in', wrap_u16, wrap_u8, wrap_u32, rem_in, quo_in]); first | done | with_reducible rfl | (constructor <;> with_reducible rfl))))
          | (apply l_store; (focus rfl); (focus rfl); (focus rfl); (focus (go_simp; (try simp (disch := omega) only [wrap_in, wrap_in', wrap_u16, wrap_u8, wrap_u32, rem_in, quo_in]); first | done | with_reducible rfl | (constructor <;> with_reducible rfl))))
          | apply d_block
          | (apply d_true; (focus rfl); (focus rfl))
          | (apply d_false; (focus rfl); (focus rfl))
          | apply d_skip
          | apply d_exit
          | apply d_ret
          | with_reducible apply kt_ret
          | with_reducible apply kt_exit
          | with_reducible apply kb_normal
          | with_reducible apply kb_ret
          | with_reducible apply kb_here
          | with_reducible apply kl_ret
          | with_reducible apply kl_exit
          | with_reducible apply kc_ret
          | with_reducible apply kc_exit
          | (with_reducible apply kb_there; (focus rfl))
        refine d_draw (true, [([], []), ([], []), ([0, 1], [0, 1]), ([2], [2]), ([3], [3]), ([], []), ([], []), ([5, 6], [5, 6]), ([7], [7]), ([8], [8]), ([9], [9]), ([4, 10], [4, 10]), ([11, 0, 1, 2, 3, 4, 5, 6, 7, 8, 9, 10, 11], [11])]) [(0, 0), (0, 1), (0, 2), (0, 3), (0, 5), (0, 6), (0, 7), (0, 8), (0, 9), (0, 10), (1, 4), (0, 11), (0, 12)] [999999] (fun W => W.cell? ⟨g1, o1 + k, none⟩ = some (.int .u16 y1) ∧ W.cell? ⟨g4, o4 + k * 3 + 2, none⟩ = some (.int .i64 l.qty)) (by kernel_rfl) (by kernel_rfl) (by kernel_rfl) (by kernel_rfl) ⟨d1, t2⟩ ?_
        iterate 10
          first | (apply s_off; (focus rfl); (focus rfl); (focus rfl)) | (apply s_yield; (focus rfl); (focus rfl); (focus rfl); (focus rfl); (focus (intro W hS; obtain ⟨hS1, hS2⟩ := hS; go_simp; (try simp (disch := omega) only [wrap_in, wrap_in', wrap_u16, wrap_u8, wrap_u32, rem_in, quo_in]); first | done | with_reducible rfl | (constructor <;> with_reducible rfl))))
        refine s_op (v := ?_) (w' := ?_) rfl rfl rfl rfl ?_ ?_ ?_
        rotate_left 2
        focus (go_simp; (try simp (disch := omega) only [wrap_in, wrap_in', wrap_u16, wrap_u8, wrap_u32, rem_in, quo_in]); first | done | with_reducible rfl | (constructor <;> with_reducible rfl))
        · exact ⟨d1, t2⟩
        iterate 2
          first | (apply s_off; (focus rfl); (focus rfl); (focus rfl)) | (apply s_yield; (focus rfl); (focus rfl); (focus rfl); (focus rfl); (focus (intro W hS; obtain ⟨hS1, hS2⟩ := hS; go_simp; (try simp (disch := omega) only [wrap_in, wrap_in', wrap_u16, wrap_u8, wrap_u32, rem_in, quo_in]); first | done | with_reducible rfl | (constructor <;> with_reducible rfl))))
        refine s_done ?_
        have HX' := Lib.hid HX.out.drew
        clear HX
        have HX := HX'
        clear HX'
        rcases (by omega : 0 < q ∨ (q = 0 ∧ 0 < p) ∨ (q = 0 ∧ p = 0)) with f1 | ⟨f1, f2⟩ | ⟨f1, f2⟩
        focus
          have f2 : 0 < p := by omega
          have hc := pPick_has HX.out 0 x _ rfl 4 l.item p
          rw [turnP HL.out HD.out rfl (by omega) (by rw [HA.out.1, HA.out.2.1]; omega) (by rw [HA.out.1, HA.out.2.2]; omega) hlq2 (by rw [HA.out.1, HA.out.2.1]; omega)] at hc
          have HC := Lib.hid hc
          clear hc
          repeat first
            | apply d_seq
            | with_reducible apply kt_normal
            | apply l_nil
            | apply d_region
            | (apply l_off; (focus rfl); (focus rfl))
            | (apply l_val; (focus rfl); (focus rfl); (focus rfl); (focus (go_simp; (try simp (disch := omega) only [wrap_in, wrap_in', wrap_u16, wrap_u8, wrap_u32, rem_in, quo_in]); first | done | with_reducible rfl | (constructor <;> with_reducible rfl))))
            | (apply l_store; (focus rfl); (focus rfl); (focus rfl); (focus (go_simp; (try simp (disch := omega) only [wrap_in, wrap_in', wrap_u16, wrap_u8, wrap_u32, rem_in, quo_in]); first | done | with_reducible rfl | (constructor <;> with_reducible rfl))))
            | apply d_block
            | (apply d_true; (focus rfl); (focus rfl))
            | (apply d_false; (focus rfl); (focus rfl))
            | apply d_skip
            | apply d_exit
            | apply d_ret
            | with_reducible apply kt_ret
            | with_reducible apply kt_exit
            | with_reducible apply kb_normal
            | with_reducible apply kb_ret
            | with_reducible apply kb_here
            | with_reducible apply kl_ret
            | with_reducible apply kl_exit
            | with_reducible apply kc_ret
            | with_reducible apply kc_exit
            | (with_reducible apply kb_there; (focus rfl))
          refine l_call rfl rfl rfl (by first | (go_simp; done) | (go_simp; rfl)) (HC.out) ?_
          rintro e w' ⟨rfl, hx⟩
          clear HX
          try simp only [List.nil_append, List.cons_append, List.set_cons_zero, List.set_cons_succ] at hx
          have HX := Lib.hid hx
          clear hx
          refine ⟨_, rfl, ?_⟩
          repeat first
            | apply d_seq
            | with_reducible apply kt_normal
            | apply l_nil
            | apply d_region
            | (apply l_off; (focus rfl); (focus rfl))
            | (apply l_val; (focus rfl); (focus rfl); (focus rfl); (focus (go_simp; (try simp (disch := omega) only [wrap_in, wrap_in', wrap_u16, wrap_u8, wrap_u32, rem_in, quo_in]); first | done | with_reducible rfl | (constructor <;> with_reducible rfl))))
            | (apply l_store; (focus rfl); (focus rfl); (focus rfl); (focus (go_simp; (try simp (disch := omega) only [wrap_in, wrap_in', wrap_u16, wrap_u8, wrap_u32, rem_in, quo_in]); first | done | with_reducible rfl | (constructor <;> with_reducible rfl))))
            | apply d_block
            | (apply d_true; (focus rfl); (focus rfl))
            | (apply d_false; (focus rfl); (focus rfl))
            | apply d_skip
            | apply d_exit
            | apply d_ret
            | with_reducible apply kt_ret
            | with_reducible apply kt_exit
            | with_reducible apply kb_normal
            | with_reducible apply kb_ret
            | with_reducible apply kb_here
            | with_reducible apply kl_ret
            | with_reducible apply kl_exit
            | with_reducible apply kc_ret
            | with_reducible apply kc_exit
            | (with_reducible apply kb_there; (focus rfl))
          have hc := pPut_has HX.out 0 x _ rfl 4 l.item q
          have b1 : (a.add 1 k p).P k = p := by simp [Acc.add, upd, HA.out.1]
          have b2 : (a.add 1 k p).S k = 0 := by simp [Acc.add, HA.out.2.1]
          have b3 : (a.add 1 k p).T k = 0 := by simp [Acc.add, HA.out.2.2]
          rw [turnT HL.out HD.out rfl (by omega) (by rw [b1, b2]; omega) (by rw [b1, b3]; omega) hlq2 (by rw [b1, b2, b3]; omega)] at hc
          clear HC
          have HC := Lib.hid hc
          clear hc
          refine l_call rfl rfl rfl (by first | (go_simp; done) | (go_simp; rfl)) (HC.out) ?_
          rintro e w' ⟨rfl, hx⟩
          clear HX
          try simp only [List.nil_append, List.cons_append, List.set_cons_zero, List.set_cons_succ] at hx
          have HX := Lib.hid hx
          clear hx
          refine ⟨_, rfl, ?_⟩
          repeat first
            | apply d_seq
            | with_reducible apply kt_normal
            | apply l_nil
            | apply d_region
            | (apply l_off; (focus rfl); (focus rfl))
            | (apply l_val; (focus rfl); (focus rfl); (focus rfl); (focus (go_simp; (try simp (disch := omega) only [wrap_in, wrap_in', wrap_u16, wrap_u8, wrap_u32, rem_in, quo_in]); first | done | with_reducible rfl | (constructor <;> with_reducible rfl))))
            | (apply l_store; (focus rfl); (focus rfl); (focus rfl); (focus (go_simp; (try simp (disch := omega) only [wrap_in, wrap_in', wrap_u16, wrap_u8, wrap_u32, rem_in, quo_in]); first | done | with_reducible rfl | (constructor <;> with_reducible rfl))))
            | apply d_block
            | (apply d_true; (focus rfl); (focus rfl))
            | (apply d_false; (focus rfl); (focus rfl))
            | apply d_skip
            | apply d_exit
            | apply d_ret
            | with_reducible apply kt_ret
            | with_reducible apply kt_exit
            | with_reducible apply kb_normal
            | with_reducible apply kb_ret
            | with_reducible apply kb_here
            | with_reducible apply kl_ret
            | with_reducible apply kl_exit
            | with_reducible apply kc_ret
            | with_reducible apply kc_exit
            | (with_reducible apply kb_there; (focus rfl))
          have A2 : Acc.at a ((a.add 1 k p).add 3 k q) k p 0 q := ⟨b1, b2, by simp [Acc.add, upd, HA.out.2.2], fun j hj => by simp [Acc.add, upd, hj]⟩
          generalize (a.add 1 k p).add 3 k q = a2 at *
          have hc := pPut_has HX.out 0 x _ rfl 4 l.item (p - q + 1)
          rw [turnT' HL.out HD.out rfl (by rw [A2.P, A2.T]; omega)] at hc
          clear HC b1 b2 b3
          have HC := Lib.hid hc
          clear hc
          refine l_call rfl rfl rfl (by first | (go_simp; done) | (go_simp; rfl)) (HC.out) ?_
          rintro e w' ⟨rfl, hx⟩
          clear HX
          try simp only [List.nil_append, List.cons_append, List.set_cons_zero, List.set_cons_succ] at hx
          try clear d2
          have d2 := hx.cell0 D2.out
          have HX := Lib.hid hx
          clear hx
          refine ⟨_, rfl, ?_⟩
          repeat first
            | apply d_seq
            | with_reducible apply kt_normal
            | apply l_nil
            | apply d_region
            | (apply l_off; (focus rfl); (focus rfl))
            | (apply l_val; (focus rfl); (focus rfl); (focus rfl); (focus (go_simp; (try simp (disch := omega) only [wrap_in, wrap_in', wrap_u16, wrap_u8, wrap_u32, rem_in, quo_in]); first | done | with_reducible rfl | (constructor <;> with_reducible rfl))))
            | (apply l_store; (focus rfl); (focus rfl); (focus rfl); (focus (go_simp; (try simp (disch := omega) only [wrap_in, wrap_in', wrap_u16, wrap_u8, wrap_u32, rem_in, quo_in]); first | done | with_reducible rfl | (constructor <;> with_reducible rfl))))
            | apply d_block
            | (apply d_true; (focus rfl); (focus rfl))
            | (apply d_false; (focus rfl); (focus rfl))
            | apply d_skip
            | apply d_exit
            | apply d_ret
            | with_reducible apply kt_ret
            | with_reducible apply kt_exit
            | with_reducible apply kb_normal
            | with_reducible apply kb_ret
            | with_reducible apply kb_here
            | with_reducible apply kl_ret
            | with_reducible apply kl_exit
            | with_reducible apply kc_ret
            | with_reducible apply kc_exit
            | (with_reducible apply kb_there; (focus rfl))
        rotate_left
        focus
          have f3 : decide (q > 0) = false := by simp; omega
          have f4 : decide (0 < q) = false := by simp; omega
          have hc := pPick_has HX.out 0 x _ rfl 4 l.item p
          rw [turnP HL.out HD.out rfl (by omega) (by rw [HA.out.1, HA.out.2.1]; omega) (by rw [HA.out.1, HA.out.2.2]; omega) hlq2 (by rw [HA.out.1, HA.out.2.1]; omega)] at hc
          have HC := Lib.hid hc
          have F1 := Lib.hid f1
          clear hc f1
          repeat first
            | apply d_seq
            | with_reducible apply kt_normal
            | apply l_nil
            | apply d_region
            | (apply l_off; (focus rfl); (focus rfl))
            | (apply l_val; (focus rfl); (focus rfl); (focus rfl); (focus (go_simp; (try simp (disch := omega) only [wrap_in, wrap_in', wrap_u16, wrap_u8, wrap_u32, rem_in, quo_in]); first | done | with_reducible rfl | (constructor <;> with_reducible rfl))))
            | (apply l_store; (focus rfl); (focus rfl); (focus rfl); (focus (go_simp; (try simp (disch := omega) only [wrap_in, wrap_in', wrap_u16, wrap_u8, wrap_u32, rem_in, quo_in]); first | done | with_reducible rfl | (constructor <;> with_reducible rfl))))
            | apply d_block
            | (apply d_true; (focus rfl); (focus rfl))
            | (apply d_false; (focus rfl); (focus rfl))
            | apply d_skip
            | apply d_exit
            | apply d_ret
            | with_reducible apply kt_ret
            | with_reducible apply kt_exit
            | with_reducible apply kb_normal
            | with_reducible apply kb_ret
            | with_reducible apply kb_here
            | with_reducible apply kl_ret
            | with_reducible apply kl_exit
            | with_reducible apply kc_ret
            | with_reducible apply kc_exit
            | (with_reducible apply kb_there; (focus rfl))
          refine l_call rfl rfl rfl (by first | (go_simp; done) | (go_simp; rfl)) (HC.out) ?_
          rintro e w' ⟨rfl, hx⟩
          clear HX
          try simp only [List.nil_append, List.cons_append, List.set_cons_zero, List.set_cons_succ] at hx
          have HX := Lib.hid hx
          clear hx
          refine ⟨_, rfl, ?_⟩
          repeat first
            | apply d_seq
            | with_reducible apply kt_normal
            | apply l_nil
            | apply d_region
            | (apply l_off; (focus rfl); (focus rfl))
            | (apply l_val; (focus rfl); (focus rfl); (focus rfl); (focus (go_simp; (try simp (disch := omega) only [wrap_in, wrap_in', wrap_u16, wrap_u8, wrap_u32, rem_in, quo_in]); first | done | with_reducible rfl | (constructor <;> with_reducible rfl))))
            | (apply l_store; (focus rfl); (focus rfl); (focus rfl); (focus (go_simp; (try simp (disch := omega) only [wrap_in, wrap_in', wrap_u16, wrap_u8, wrap_u32, rem_in, quo_in]); first | done | with_reducible rfl | (constructor <;> with_reducible rfl))))
            | apply d_block
            | (apply d_true; (focus rfl); (focus rfl))
            | (apply d_false; (focus rfl); (focus rfl))
            | apply d_skip
            | apply d_exit
            | apply d_ret
            | with_reducible apply kt_ret
            | with_reducible apply kt_exit
            | with_reducible apply kb_normal
            | with_reducible apply kb_ret
            | with_reducible apply kb_here
            | with_reducible apply kl_ret
            | with_reducible apply kl_exit
            | with_reducible apply kc_ret
            | with_reducible apply kc_exit
            | (with_reducible apply kb_there; (focus rfl))
          have b1 : (a.add 1 k p).P k = p := by simp [Acc.add, upd, HA.out.1]
          have b2 : (a.add 1 k p).S k = 0 := by simp [Acc.add, HA.out.2.1]
          have b3 : (a.add 1 k p).T k = q := by rw [F1.out]; simp [Acc.add, HA.out.2.2]
          have A2 : Acc.at a (a.add 1 k p) k p 0 q := ⟨b1, b2, b3, fun j hj => by simp [Acc.add, upd, hj]⟩
          generalize a.add 1 k p = a2 at *
          have hc := pPut_has HX.out 0 x _ rfl 4 l.item (p - q + 1)
          rw [turnT' HL.out HD.out rfl (by rw [A2.P, A2.T]; omega)] at hc
          clear HC b1 b2 b3
          have HC := Lib.hid hc
          clear hc f3 f4
          have f1 := F1.out
          refine l_call rfl rfl rfl (by first | (go_simp; done) | (go_simp; rfl)) (HC.out) ?_
          rintro e w' ⟨rfl, hx⟩
          clear HX
          try simp only [List.nil_append, List.cons_append, List.set_cons_zero, List.set_cons_succ] at hx
          try clear d2
          have d2 := hx.cell0 D2.out
          have HX := Lib.hid hx
          clear hx
          refine ⟨_, rfl, ?_⟩
          repeat first
            | apply d_seq
            | with_reducible apply kt_normal
            | apply l_nil
            | apply d_region
            | (apply l_off; (focus rfl); (focus rfl))
            | (apply l_val; (focus rfl); (focus rfl); (focus rfl); (focus (go_simp; (try simp (disch := omega) only [wrap_in, wrap_in', wrap_u16, wrap_u8, wrap_u32, rem_in, quo_in]); first | done | with_reducible rfl | (constructor <;> with_reducible rfl))))
            | (apply l_store; (focus rfl); (focus rfl); (focus rfl); (focus (go_simp; (try simp (disch := omega) only [wrap_in, wrap_in', wrap_u16, wrap_u8, wrap_u32, rem_in, quo_in]); first | done | with_reducible rfl | (constructor <;> with_reducible rfl))))
            | apply d_block
            | (apply d_true; (focus rfl); (focus rfl))
            | (apply d_false; (focus rfl); (focus rfl))
            | apply d_skip
            | apply d_exit
            | apply d_ret
            | with_reducible apply kt_ret
            | with_reducible apply kt_exit
            | with_reducible apply kb_normal
            | with_reducible apply kb_ret
            | with_reducible apply kb_here
            | with_reducible apply kl_ret
            | with_reducible apply kl_exit
            | with_reducible apply kc_ret
            | with_reducible apply kc_exit
            | (with_reducible apply kb_there; (focus rfl))
        rotate_left
        focus
          have f3 : decide (q > 0) = false := by simp; omega
          have f4 : decide (0 < q) = false := by simp; omega
          have f5 : decide (p > 0) = false := by simp; omega
          have f6 : decide (0 < p) = false := by simp; omega
          have A2 : Acc.at a a k p 0 q := ⟨by rw [HA.out.1, f2], HA.out.2.1, by rw [HA.out.2.2, f1], fun j hj => ⟨rfl, rfl, rfl⟩⟩
          have hc := pPut_has HX.out 0 x _ rfl 4 l.item (p - q + 1)
          rw [turnT' HL.out HD.out rfl (by rw [A2.P, A2.T]; omega)] at hc
          have HC := Lib.hid hc
          have F1 := Lib.hid f1
          have F2 := Lib.hid f2
          clear hc f1 f2
          repeat first
            | apply d_seq
            | with_reducible apply kt_normal
            | apply l_nil
            | apply d_region
            | (apply l_off; (focus rfl); (focus rfl))
            | (apply l_val; (focus rfl); (focus rfl); (focus rfl); (focus (go_simp; (try simp (disch := omega) only [wrap_in, wrap_in', wrap_u16, wrap_u8, wrap_u32, rem_in, quo_in]); first | done | with_reducible rfl | (constructor <;> with_reducible rfl))))
            | (apply l_store; (focus rfl); (focus rfl); (focus rfl); (focus (go_simp; (try simp (disch := omega) only [wrap_in, wrap_in', wrap_u16, wrap_u8, wrap_u32, rem_in, quo_in]); first | done | with_reducible rfl | (constructor <;> with_reducible rfl))))
            | apply d_block
            | (apply d_true; (focus rfl); (focus rfl))
            | (apply d_false; (focus rfl); (focus rfl))
            | apply d_skip
            | apply d_exit
            | apply d_ret
            | with_reducible apply kt_ret
            | with_reducible apply kt_exit
            | with_reducible apply kb_normal
            | with_reducible apply kb_ret
            | with_reducible apply kb_here
            | with_reducible apply kl_ret
            | with_reducible apply kl_exit
            | with_reducible apply kc_ret
            | with_reducible apply kc_exit
            | (with_reducible apply kb_there; (focus rfl))
          clear f3 f4 f5 f6
          refine l_call rfl rfl rfl (by first | (go_simp; done) | (go_simp; rfl)) (HC.out) ?_
          rintro e w' ⟨rfl, hx⟩
          clear HX
          try simp only [List.nil_append, List.cons_append, List.set_cons_zero, List.set_cons_succ] at hx
          try clear d2
          have d2 := hx.cell0 D2.out
          have HX := Lib.hid hx
          clear hx
          refine ⟨_, rfl, ?_⟩
          repeat first
            | apply d_seq
            | with_reducible apply kt_normal
            | apply l_nil
            | apply d_region
            | (apply l_off; (focus rfl); (focus rfl))
            | (apply l_val; (focus rfl); (focus rfl); (focus rfl); (focus (go_simp; (try simp (disch := omega) only [wrap_in, wrap_in', wrap_u16, wrap_u8, wrap_u32, rem_in, quo_in]); first | done | with_reducible rfl | (constructor <;> with_reducible rfl))))
            | (apply l_store; (focus rfl); (focus rfl); (focus rfl); (focus (go_simp; (try simp (disch := omega) only [wrap_in, wrap_in', wrap_u16, wrap_u8, wrap_u32, rem_in, quo_in]); first | done | with_reducible rfl | (constructor <;> with_reducible rfl))))
            | apply d_block
            | (apply d_true; (focus rfl); (focus rfl))
            | (apply d_false; (focus rfl); (focus rfl))
            | apply d_skip
            | apply d_exit
            | apply d_ret
            | with_reducible apply kt_ret
            | with_reducible apply kt_exit
            | with_reducible apply kb_normal
            | with_reducible apply kb_ret
            | with_reducible apply kb_here
            | with_reducible apply kl_ret
            | with_reducible apply kl_exit
            | with_reducible apply kc_ret
            | with_reducible apply kc_exit
            | (with_reducible apply kb_there; (focus rfl))
          obtain ⟨a2, A2', hra⟩ : ∃ a2, Acc.at a a2 k p 0 q ∧ rsM ms a = rsM ms a2 := ⟨a, A2, rfl⟩
          clear A2
          have A2 := A2'
          clear A2'
          rw [hra] at HX
          have f1 := F1.out
          have f2 := F2.out
          clear hra F1 F2
        all_goals
          clear HC f1 f2 t0 t1 t2 d1 d3 z1 z1' z2 z2'
          have A2' := Lib.hid A2
          clear A2
          rcases (by omega : 0 < l.qty - p ∨ l.qty - p = 0) with hL | hL
          · have u1 : ((l.qty - p : Int) == 0) = false := by simp; omega
            have u2 : decide (l.qty - p > 0) = true := by simp; omega
            have u3 : decide (0 < l.qty - p) = true := by simp; omega
            have u4 : decide (p < l.qty) = true := by simp; omega
            cases y2
            · repeat first
                | apply d_seq
                | with_reducible apply kt_normal
                | apply l_nil
                | apply d_region
                | (apply l_off; (focus rfl); (focus rfl))
                | (apply l_val; (focus rfl); (focus rfl); (focus rfl); (focus (go_simp; (try simp (disch := omega) only [wrap_in, wrap_in', wrap_u16, wrap_u8, wrap_u32, rem_in, quo_in]); first | done | with_reducible rfl | (constructor <;> with_reducible rfl))))
                | (apply l_store; (focus rfl); (focus rfl); (focus rfl); (focus (go_simp; (try simp (disch := omega) only [wrap_in, wrap_in', wrap_u16, wrap_u8, wrap_u32, rem_in, quo_in]); first | done | with_reducible rfl | (constructor <;> with_reducible rfl))))
                | apply d_block
                | (apply d_true; (focus rfl); (focus rfl))
                | (apply d_false; (focus rfl); (focus rfl))
                | apply d_skip
                | apply d_exit
                | apply d_ret
                | with_reducible apply kt_ret
                | with_reducible apply kt_exit
                | with_reducible apply kb_normal
                | with_reducible apply kb_ret
                | with_reducible apply kb_here
                | with_reducible apply kl_ret
                | with_reducible apply kl_exit
                | with_reducible apply kc_ret
                | with_reducible apply kc_exit
                | (with_reducible apply kb_there; (focus rfl))
              cases cl
              all_goals
                repeat first
                  | apply d_seq
                  | with_reducible apply kt_normal
                  | apply l_nil
                  | apply d_region
                  | (apply l_off; (focus rfl); (focus rfl))
                  | (apply l_val; (focus rfl); (focus rfl); (focus rfl); (focus (go_simp; (try simp (disch := omega) only [wrap_in, wrap_in', wrap_u16, wrap_u8, wrap_u32, rem_in, quo_in]); first | done | with_reducible rfl | (constructor <;> with_reducible rfl))))
                  | (apply l_store; (focus rfl); (focus rfl); (focus rfl); (focus (go_simp; (try simp (disch := omega) only [wrap_in, wrap_in', wrap_u16, wrap_u8, wrap_u32, rem_in, quo_in]); first | done | with_reducible rfl | (constructor <;> with_reducible rfl))))
                  | apply d_block
                  | (apply d_true; (focus rfl); (focus rfl))
                  | (apply d_false; (focus rfl); (focus rfl))
                  | apply d_skip
                  | apply d_exit
                  | apply d_ret
                  | with_reducible apply kt_ret
                  | with_reducible apply kt_exit
                  | with_reducible apply kb_normal
                  | with_reducible apply kb_ret
                  | with_reducible apply kb_here
                  | with_reducible apply kl_ret
                  | with_reducible apply kl_exit
                  | with_reducible apply kc_ret
                  | with_reducible apply kc_exit
                  | (with_reducible apply kb_there; (focus rfl))
                cases fu
                all_goals
                  repeat first
                    | apply d_seq
                    | with_reducible apply kt_normal
                    | apply l_nil
                    | apply d_region
                    | (apply l_off; (focus rfl); (focus rfl))
                    | (apply l_val; (focus rfl); (focus rfl); (focus rfl); (focus (go_simp; (try simp (disch := omega) only [wrap_in, wrap_in', wrap_u16, wrap_u8, wrap_u32, rem_in, quo_in]); first | done | with_reducible rfl | (constructor <;> with_reducible rfl))))
                    | (apply l_store; (focus rfl); (focus rfl); (focus rfl); (focus (go_simp; (try simp (disch := omega) only [wrap_in, wrap_in', wrap_u16, wrap_u8, wrap_u32, rem_in, quo_in]); first | done | with_reducible rfl | (constructor <;> with_reducible rfl))))
                    | apply d_block
                    | (apply d_true; (focus rfl); (focus rfl))
                    | (apply d_false; (focus rfl); (focus rfl))
                    | apply d_skip
                    | apply d_exit
                    | apply d_ret
                    | with_reducible apply kt_ret
                    | with_reducible apply kt_exit
                    | with_reducible apply kb_normal
                    | with_reducible apply kb_ret
                    | with_reducible apply kb_here
                    | with_reducible apply kl_ret
                    | with_reducible apply kl_exit
                    | with_reducible apply kc_ret
                    | with_reducible apply kc_exit
                    | (with_reducible apply kb_there; (focus rfl))
                  refine kl_normal (n - (k + 1)) _ (by omega) (Subl.cons (t := 1) (by decide) rfl (Subl.cons (t := 2) (by decide) rfl (Subl.cons (t := 3) (by decide) rfl (Subl.cons (t := 9) (by decide) rfl (Subl.cons (t := 10) (by decide) rfl (Subl.cons (t := 11) (by decide) rfl (Subl.cons (t := 12) (by decide) rfl (Subl.cons (t := 14) (by decide) rfl (Subl.cons (t := 15) (by decide) rfl (Subl.cons (t := 16) (by decide) rfl (Subl.nil _ _))))))))))) ?_
                  have hf := full_next HL.out HA0.out HA1.out HA2.out A2'.out
                  refine ⟨k + 1, a2, _, _, rfl, by omega, rfl, HX, Lib.hid ?_⟩
                  simpa only [Int.sub_zero, u1, Bool.false_and, Bool.true_and, Bool.and_false, Bool.and_true] using hf
            · have hc := pShort_has HX.out 0 x _ rfl 4 l.item (l.qty - p)
              rw [turnS HL.out HD.out rfl (by omega) (by rw [A2'.out.P, A2'.out.S]; omega) (by rw [A2'.out.P, A2'.out.T]; omega) hlq2 (by rw [A2'.out.P, A2'.out.S]; omega)] at hc
              have A3 : Acc.at a (a2.add 2 k (l.qty - p)) k p (l.qty - p) q := ⟨A2'.out.P, by simp [Acc.add, upd, A2'.out.S], A2'.out.T, fun j hj => by have := A2'.out.other j hj; simp [Acc.add, upd, hj, this]⟩
              generalize a2.add 2 k (l.qty - p) = a3 at *
              have A3' := Lib.hid A3
              have HC := Lib.hid hc
              clear hc
              clear A3
              repeat first
                | apply d_seq
                | with_reducible apply kt_normal
                | apply l_nil
                | apply d_region
                | (apply l_off; (focus rfl); (focus rfl))
                | (apply l_val; (focus rfl); (focus rfl); (focus rfl); (focus (go_simp; (try simp (disch := omega) only [wrap_in, wrap_in', wrap_u16, wrap_u8, wrap_u32, rem_in, quo_in]); first | done | with_reducible rfl | (constructor <;> with_reducible rfl))))
                | (apply l_store; (focus rfl); (focus rfl); (focus rfl); (focus (go_simp; (try simp (disch := omega) only [wrap_in, wrap_in', wrap_u16, wrap_u8, wrap_u32, rem_in, quo_in]); first | done | with_reducible rfl | (constructor <;> with_reducible rfl))))
                | apply d_block
                | (apply d_true; (focus rfl); (focus rfl))
                | (apply d_false; (focus rfl); (focus rfl))
                | apply d_skip
                | apply d_exit
                | apply d_ret
                | with_reducible apply kt_ret
                | with_reducible apply kt_exit
                | with_reducible apply kb_normal
                | with_reducible apply kb_ret
                | with_reducible apply kb_here
                | with_reducible apply kl_ret
                | with_reducible apply kl_exit
                | with_reducible apply kc_ret
                | with_reducible apply kc_exit
                | (with_reducible apply kb_there; (focus rfl))
              refine l_call rfl rfl rfl (by first | (go_simp; done) | (go_simp; rfl)) (HC.out) ?_
              rintro e w' ⟨rfl, hx⟩
              clear HX
              try simp only [List.nil_append, List.cons_append, List.set_cons_zero, List.set_cons_succ] at hx
              have HX := Lib.hid hx
              clear hx
              refine ⟨_, rfl, ?_⟩
              repeat first
                | apply d_seq
                | with_reducible apply kt_normal
                | apply l_nil
                | apply d_region
                | (apply l_off; (focus rfl); (focus rfl))
                | (apply l_val; (focus rfl); (focus rfl); (focus rfl); (focus (go_simp; (try simp (disch := omega) only [wrap_in, wrap_in', wrap_u16, wrap_u8, wrap_u32, rem_in, quo_in]); first | done | with_reducible rfl | (constructor <;> with_reducible rfl))))
                | (apply l_store; (focus rfl); (focus rfl); (focus rfl); (focus (go_simp; (try simp (disch := omega) only [wrap_in, wrap_in', wrap_u16, wrap_u8, wrap_u32, rem_in, quo_in]); first | done | with_reducible rfl | (constructor <;> with_reducible rfl))))
                | apply d_block
                | (apply d_true; (focus rfl); (focus rfl))
                | (apply d_false; (focus rfl); (focus rfl))
                | apply d_skip
                | apply d_exit
                | apply d_ret
                | with_reducible apply kt_ret
                | with_reducible apply kt_exit
                | with_reducible apply kb_normal
                | with_reducible apply kb_ret
                | with_reducible apply kb_here
                | with_reducible apply kl_ret
                | with_reducible apply kl_exit
                | with_reducible apply kc_ret
                | with_reducible apply kc_exit
                | (with_reducible apply kb_there; (focus rfl))
              cases cl
              all_goals
                repeat first
                  | apply d_seq
                  | with_reducible apply kt_normal
                  | apply l_nil
                  | apply d_region
                  | (apply l_off; (focus rfl); (focus rfl))
                  | (apply l_val; (focus rfl); (focus rfl); (focus rfl); (focus (go_simp; (try simp (disch := omega) only [wrap_in, wrap_in', wrap_u16, wrap_u8, wrap_u32, rem_in, quo_in]); first | done | with_reducible rfl | (constructor <;> with_reducible rfl))))
                  | (apply l_store; (focus rfl); (focus rfl); (focus rfl); (focus (go_simp; (try simp (disch := omega) only [wrap_in, wrap_in', wrap_u16, wrap_u8, wrap_u32, rem_in, quo_in]); first | done | with_reducible rfl | (constructor <;> with_reducible rfl))))
                  | apply d_block
                  | (apply d_true; (focus rfl); (focus rfl))
                  | (apply d_false; (focus rfl); (focus rfl))
                  | apply d_skip
                  | apply d_exit
                  | apply d_ret
                  | with_reducible apply kt_ret
                  | with_reducible apply kt_exit
                  | with_reducible apply kb_normal
                  | with_reducible apply kb_ret
                  | with_reducible apply kb_here
                  | with_reducible apply kl_ret
                  | with_reducible apply kl_exit
                  | with_reducible apply kc_ret
                  | with_reducible apply kc_exit
                  | (with_reducible apply kb_there; (focus rfl))
                cases fu
                all_goals
                  repeat first
                    | apply d_seq
                    | with_reducible apply kt_normal
                    | apply l_nil
                    | apply d_region
                    | (apply l_off; (focus rfl); (focus rfl))
                    | (apply l_val; (focus rfl); (focus rfl); (focus rfl); (focus (go_simp; (try simp (disch := omega) only [wrap_in, wrap_in', wrap_u16, wrap_u8, wrap_u32, rem_in, quo_in]); first | done | with_reducible rfl | (constructor <;> with_reducible rfl))))
                    | (apply l_store; (focus rfl); (focus rfl); (focus rfl); (focus (go_simp; (try simp (disch := omega) only [wrap_in, wrap_in', wrap_u16, wrap_u8, wrap_u32, rem_in, quo_in]); first | done | with_reducible rfl | (constructor <;> with_reducible rfl))))
                    | apply d_block
                    | (apply d_true; (focus rfl); (focus rfl))
                    | (apply d_false; (focus rfl); (focus rfl))
                    | apply d_skip
                    | apply d_exit
                    | apply d_ret
                    | with_reducible apply kt_ret
                    | with_reducible apply kt_exit
                    | with_reducible apply kb_normal
                    | with_reducible apply kb_ret
                    | with_reducible apply kb_here
                    | with_reducible apply kl_ret
                    | with_reducible apply kl_exit
                    | with_reducible apply kc_ret
                    | with_reducible apply kc_exit
                    | (with_reducible apply kb_there; (focus rfl))
                  refine kl_normal (n - (k + 1)) _ (by omega) (Subl.cons (t := 1) (by decide) rfl (Subl.cons (t := 2) (by decide) rfl (Subl.cons (t := 3) (by decide) rfl (Subl.cons (t := 9) (by decide) rfl (Subl.cons (t := 10) (by decide) rfl (Subl.cons (t := 11) (by decide) rfl (Subl.cons (t := 12) (by decide) rfl (Subl.cons (t := 14) (by decide) rfl (Subl.cons (t := 15) (by decide) rfl (Subl.cons (t := 16) (by decide) rfl (Subl.nil _ _))))))))))) ?_
                  have hf := full_next HL.out HA0.out HA1.out HA2.out A3'.out
                  refine ⟨k + 1, a3, _, _, rfl, by omega, rfl, HX, Lib.hid ?_⟩
                  simpa only [Int.sub_self, beq_self_eq_true, Bool.false_and, Bool.true_and, Bool.and_false, Bool.and_true] using hf
          · have u1 : ((l.qty - p : Int) == 0) = true := by simp; omega
            have u2 : decide (l.qty - p > 0) = false := by simp; omega
            have u3 : decide (0 < l.qty - p) = false := by simp; omega
            have u4 : decide (p < l.qty) = false := by simp; omega
            have hL'' := Lib.hid hL
            clear hL
            cases y2
            all_goals
              repeat first
                | apply d_seq
                | with_reducible apply kt_normal
                | apply l_nil
                | apply d_region
                | (apply l_off; (focus rfl); (focus rfl))
                | (apply l_val; (focus rfl); (focus rfl); (focus rfl); (focus (go_simp; (try simp (disch := omega) only [wrap_in, wrap_in', wrap_u16, wrap_u8, wrap_u32, rem_in, quo_in]); first | done | with_reducible rfl | (constructor <;> with_reducible rfl))))
                | (apply l_store; (focus rfl); (focus rfl); (focus rfl); (focus (go_simp; (try simp (disch := omega) only [wrap_in, wrap_in', wrap_u16, wrap_u8, wrap_u32, rem_in, quo_in]); first | done | with_reducible rfl | (constructor <;> with_reducible rfl))))
                | apply d_block
                | (apply d_true; (focus rfl); (focus rfl))
                | (apply d_false; (focus rfl); (focus rfl))
                | apply d_skip
                | apply d_exit
                | apply d_ret
                | with_reducible apply kt_ret
                | with_reducible apply kt_exit
                | with_reducible apply kb_normal
                | with_reducible apply kb_ret
                | with_reducible apply kb_here
                | with_reducible apply kl_ret
                | with_reducible apply kl_exit
                | with_reducible apply kc_ret
                | with_reducible apply kc_exit
                | (with_reducible apply kb_there; (focus rfl))
              cases cl
              all_goals
                repeat first
                  | apply d_seq
                  | with_reducible apply kt_normal
                  | apply l_nil
                  | apply d_region
                  | (apply l_off; (focus rfl); (focus rfl))
                  | (apply l_val; (focus rfl); (focus rfl); (focus rfl); (focus (go_simp; (try simp (disch := omega) only [wrap_in, wrap_in', wrap_u16, wrap_u8, wrap_u32, rem_in, quo_in]); first | done | with_reducible rfl | (constructor <;> with_reducible rfl))))
                  | (apply l_store; (focus rfl); (focus rfl); (focus rfl); (focus (go_simp; (try simp (disch := omega) only [wrap_in, wrap_in', wrap_u16, wrap_u8, wrap_u32, rem_in, quo_in]); first | done | with_reducible rfl | (constructor <;> with_reducible rfl))))
                  | apply d_block
                  | (apply d_true; (focus rfl); (focus rfl))
                  | (apply d_false; (focus rfl); (focus rfl))
                  | apply d_skip
                  | apply d_exit
                  | apply d_ret
                  | with_reducible apply kt_ret
                  | with_reducible apply kt_exit
                  | with_reducible apply kb_normal
                  | with_reducible apply kb_ret
                  | with_reducible apply kb_here
                  | with_reducible apply kl_ret
                  | with_reducible apply kl_exit
                  | with_reducible apply kc_ret
                  | with_reducible apply kc_exit
                  | (with_reducible apply kb_there; (focus rfl))
                cases fu
                all_goals
                  repeat first
                    | apply d_seq
                    | with_reducible apply kt_normal
                    | apply l_nil
                    | apply d_region
                    | (apply l_off; (focus rfl); (focus rfl))
                    | (apply l_val; (focus rfl); (focus rfl); (focus rfl); (focus (go_simp; (try simp (disch := omega) only [wrap_in, wrap_in', wrap_u16, wrap_u8, wrap_u32, rem_in, quo_in]); first | done | with_reducible rfl | (constructor <;> with_reducible rfl))))
                    | (apply l_store; (focus rfl); (focus rfl); (focus rfl); (focus (go_simp; (try simp (disch := omega) only [wrap_in, wrap_in', wrap_u16, wrap_u8, wrap_u32, rem_in, quo_in]); first | done | with_reducible rfl | (constructor <;> with_reducible rfl))))
                    | apply d_block
                    | (apply d_true; (focus rfl); (focus rfl))
                    | (apply d_false; (focus rfl); (focus rfl))
                    | apply d_skip
                    | apply d_exit
                    | apply d_ret
                    | with_reducible apply kt_ret
                    | with_reducible apply kt_exit
                    | with_reducible apply kb_normal
                    | with_reducible apply kb_ret
                    | with_reducible apply kb_here
                    | with_reducible apply kl_ret
                    | with_reducible apply kl_exit
                    | with_reducible apply kc_ret
                    | with_reducible apply kc_exit
                    | (with_reducible apply kb_there; (focus rfl))
                  refine kl_normal (n - (k + 1)) _ (by omega) (Subl.cons (t := 1) (by decide) rfl (Subl.cons (t := 2) (by decide) rfl (Subl.cons (t := 3) (by decide) rfl (Subl.cons (t := 9) (by decide) rfl (Subl.cons (t := 10) (by decide) rfl (Subl.cons (t := 11) (by decide) rfl (Subl.cons (t := 12) (by decide) rfl (Subl.cons (t := 14) (by decide) rfl (Subl.cons (t := 15) (by decide) rfl (Subl.cons (t := 16) (by decide) rfl (Subl.nil _ _))))))))))) ?_
                  have hf := full_next hl'.out HA0.out HA1.out HA2.out A2'.out
                  refine ⟨k + 1, a2, _, _, rfl, by omega, rfl, HX, Lib.hid ?_⟩
                  simpa only [Int.sub_zero, u1, Bool.false_and, Bool.true_and, Bool.and_false, Bool.and_true] using hf
      · obtain rfl : k = n := by omega
        obtain ⟨-, ha1, ha2⟩ := HREL.out
        rw [List.take_of_length_le (by rw [rsM_len, hlm]; exact Nat.le_refl _)] at ha1 ha2
        have hc := closed_has HX.out 0 x _ rfl 4
        rw [LS.all_rows, (rows_one 4 _).1, (rows_one 4 _).2, Bool.true_and, ← ha1] at hc
        have HC := Lib.hid hc
        have HA1 := Lib.hid ha1
        have HA2 := Lib.hid ha2
        clear hc ha1 ha2
        clear HREL
        repeat first
          | apply d_seq
          | with_reducible apply kt_normal
          | apply l_nil
          | apply d_region
          | (apply l_off; (focus rfl); (focus rfl))
          | (apply l_val; (focus rfl); (focus rfl); (focus rfl); (focus (go_simp; (try simp (disch := omega) only [wrap_in, wrap_in', wrap_u16, wrap_u8, wrap_u32, rem_in, quo_in]); first | done | with_reducible rfl | (constructor <;> with_reducible rfl))))
          | (apply l_store; (focus rfl); (focus rfl); (focus rfl); (focus (go_simp; (try simp (disch := omega) only [wrap_in, wrap_in', wrap_u16, wrap_u8, wrap_u32, rem_in, quo_in]); first | done | with_reducible rfl | (constructor <;> with_reducible rfl))))
          | apply d_block
          | (apply d_true; (focus rfl); (focus rfl))
          | (apply d_false; (focus rfl); (focus rfl))
          | apply d_skip
          | apply d_exit
          | apply d_ret
          | with_reducible apply kt_ret
          | with_reducible apply kt_exit
          | with_reducible apply kb_normal
          | with_reducible apply kb_ret
          | with_reducible apply kb_here
          | with_reducible apply kl_ret
          | with_reducible apply kl_exit
          | with_reducible apply kc_ret
          | with_reducible apply kc_exit
          | (with_reducible apply kb_there; (focus rfl))
        refine l_call rfl rfl rfl (by first | (go_simp; done) | (go_simp; rfl)) (HC.out) ?_
        rintro e w' ⟨rfl, hx⟩
        clear HX
        try simp only [List.nil_append, List.cons_append, List.set_cons_zero, List.set_cons_succ] at hx
        have HX := Lib.hid hx
        clear hx
        refine ⟨_, rfl, ?_⟩
        repeat first
          | apply d_seq
          | with_reducible apply kt_normal
          | apply l_nil
          | apply d_region
          | (apply l_off; (focus rfl); (focus rfl))
          | (apply l_val; (focus rfl); (focus rfl); (focus rfl); (focus (go_simp; (try simp (disch := omega) only [wrap_in, wrap_in', wrap_u16, wrap_u8, wrap_u32, rem_in, quo_in]); first | done | with_reducible rfl | (constructor <;> with_reducible rfl))))
          | (apply l_store; (focus rfl); (focus rfl); (focus rfl); (focus (go_simp; (try simp (disch := omega) only [wrap_in, wrap_in', wrap_u16, wrap_u8, wrap_u32, rem_in, quo_in]); first | done | with_reducible rfl | (constructor <;> with_reducible rfl))))
          | apply d_block
          | (apply d_true; (focus rfl); (focus rfl))
          | (apply d_false; (focus rfl); (focus rfl))
          | apply d_skip
          | apply d_exit
          | apply d_ret
          | with_reducible apply kt_ret
          | with_reducible apply kt_exit
          | with_reducible apply kb_normal
          | with_reducible apply kb_ret
          | with_reducible apply kb_here
          | with_reducible apply kl_ret
          | with_reducible apply kl_exit
          | with_reducible apply kc_ret
          | with_reducible apply kc_exit
          | (with_reducible apply kb_there; (focus rfl))
        have hc := full_has HX.out 0 x _ rfl 4
        rw [LS.all_rows, (rows_one 4 _).1, (rows_one 4 _).2, Bool.true_and, ← HA2.out] at hc
        clear HC
        have HC := Lib.hid hc
        clear hc
        cases cl
        all_goals
          repeat first
            | apply d_seq
            | with_reducible apply kt_normal
            | apply l_nil
            | apply d_region
            | (apply l_off; (focus rfl); (focus rfl))
            | (apply l_val; (focus rfl); (focus rfl); (focus rfl); (focus (go_simp; (try simp (disch := omega) only [wrap_in, wrap_in', wrap_u16, wrap_u8, wrap_u32, rem_in, quo_in]); first | done | with_reducible rfl | (constructor <;> with_reducible rfl))))
            | (apply l_store; (focus rfl); (focus rfl); (focus rfl); (focus (go_simp; (try simp (disch := omega) only [wrap_in, wrap_in', wrap_u16, wrap_u8, wrap_u32, rem_in, quo_in]); first | done | with_reducible rfl | (constructor <;> with_reducible rfl))))
            | apply d_block
            | (apply d_true; (focus rfl); (focus rfl))
            | (apply d_false; (focus rfl); (focus rfl))
            | apply d_skip
            | apply d_exit
            | apply d_ret
            | with_reducible apply kt_ret
            | with_reducible apply kt_exit
            | with_reducible apply kb_normal
            | with_reducible apply kb_ret
            | with_reducible apply kb_here
            | with_reducible apply kl_ret
            | with_reducible apply kl_exit
            | with_reducible apply kc_ret
            | with_reducible apply kc_exit
            | (with_reducible apply kb_there; (focus rfl))
          refine l_call rfl rfl rfl (by first | (go_simp; done) | (go_simp; rfl)) (HC.out) ?_
          rintro e w' ⟨rfl, hx⟩
          clear HX
          try simp only [List.nil_append, List.cons_append, List.set_cons_zero, List.set_cons_succ] at hx
          have HX := Lib.hid hx
          clear hx
          refine ⟨_, rfl, ?_⟩
          repeat first
            | apply d_seq
            | with_reducible apply kt_normal
            | apply l_nil
            | apply d_region
            | (apply l_off; (focus rfl); (focus rfl))
            | (apply l_val; (focus rfl); (focus rfl); (focus rfl); (focus (go_simp; (try simp (disch := omega) only [wrap_in, wrap_in', wrap_u16, wrap_u8, wrap_u32, rem_in, quo_in]); first | done | with_reducible rfl | (constructor <;> with_reducible rfl))))
            | (apply l_store; (focus rfl); (focus rfl); (focus rfl); (focus (go_simp; (try simp (disch := omega) only [wrap_in, wrap_in', wrap_u16, wrap_u8, wrap_u32, rem_in, quo_in]); first | done | with_reducible rfl | (constructor <;> with_reducible rfl))))
            | apply d_block
            | (apply d_true; (focus rfl); (focus rfl))
            | (apply d_false; (focus rfl); (focus rfl))
            | apply d_skip
            | apply d_exit
            | apply d_ret
            | with_reducible apply kt_ret
            | with_reducible apply kt_exit
            | with_reducible apply kb_normal
            | with_reducible apply kb_ret
            | with_reducible apply kb_here
            | with_reducible apply kl_ret
            | with_reducible apply kl_exit
            | with_reducible apply kc_ret
            | with_reducible apply kc_exit
            | (with_reducible apply kb_there; (focus rfl))
          cases fu
          all_goals
            repeat first
              | apply d_seq
              | with_reducible apply kt_normal
              | apply l_nil
              | apply d_region
              | (apply l_off; (focus rfl); (focus rfl))
              | (apply l_val; (focus rfl); (focus rfl); (focus rfl); (focus (go_simp; (try simp (disch := omega) only [wrap_in, wrap_in', wrap_u16, wrap_u8, wrap_u32, rem_in, quo_in]); first | done | with_reducible rfl | (constructor <;> with_reducible rfl))))
              | (apply l_store; (focus rfl); (focus rfl); (focus rfl); (focus (go_simp; (try simp (disch := omega) only [wrap_in, wrap_in', wrap_u16, wrap_u8, wrap_u32, rem_in, quo_in]); first | done | with_reducible rfl | (constructor <;> with_reducible rfl))))
              | apply d_block
              | (apply d_true; (focus rfl); (focus rfl))
              | (apply d_false; (focus rfl); (focus rfl))
              | apply d_skip
              | apply d_exit
              | apply d_ret
              | with_reducible apply kt_ret
              | with_reducible apply kt_exit
              | with_reducible apply kb_normal
              | with_reducible apply kb_ret
              | with_reducible apply kb_here
              | with_reducible apply kl_ret
              | with_reducible apply kl_exit
              | with_reducible apply kc_ret
              | with_reducible apply kc_exit
              | (with_reducible apply kb_there; (focus rfl))
            refine ⟨rfl, _, (by first | (simp [resultsG, resOne, Try.results10, rho, List.lookup]; done) | (simp [resultsG, resOne, Try.results10, rho, List.lookup]; rfl)), ?_⟩
            exact ⟨rfl, HX.out.old⟩
end Go.Proofs.Ytkjcmnhhgnlaeaa
