import Derived.Test.YtkjcmnhhgnlaeaaLedH
namespace Go.Proofs.Ytkjcmnhhgnlaeaa
set_option linter.unusedVariables false
set_option linter.unusedSimpArgs false
attribute [local go_sem] rho_const rho_func rho_hit rho_miss
open Go.RowKit
def ordS (W p sh q t : Int) : LS := [(1, [⟨2, W, p, sh, q⟩, ⟨4, 1, 0, t, 0⟩])]
theorem ord_open (W : Int) (h1 : 1 ≤ W) (h2 : W ≤ 9999) : LS.openUp [] 1 [⟨2, 3, W⟩, ⟨4, 5, 1⟩] = (ordS W 0 0 0 0, 0) := by
  have e : rightE [⟨2, 3, W⟩, ⟨4, 5, 1⟩] = 0 := by
    simp [rightE, errFrom, lineE]
    omega
  simp [LS.openUp, e, LS.get, sidx, ordS, row0]
theorem ord_turn (W p sh q t n : Int) (k : Nat) : (ordS W p sh q t).turn 1 2 n k = if n < 1 ∨ 9999 < n then (ordS W p sh q t, 10) else if ((⟨2, W, p, sh, q⟩ : Rw).add k n).right = true then ([(1, [(⟨2, W, p, sh, q⟩ : Rw).add k n, ⟨4, 1, 0, t, 0⟩])], 0) else (ordS W p sh q t, 10) := by
  simp [LS.turn, ordS, sidx, List.findIdx?_cons]
theorem ord_pick (W p n : Int) (h2 : W ≤ 9999) (hp : 0 ≤ p) : (ordS W p 0 0 0).turn 1 2 n 1 = if n ≥ 1 ∧ p + n ≤ W then (ordS W (p + n) 0 0 0, 0) else (ordS W p 0 0 0, 10) := by
  rw [ord_turn]
  by_cases c : n ≥ 1 ∧ p + n ≤ W
  · rw [if_neg (by omega), if_pos c, if_pos (by simp [Rw.add, Rw.right, Rw.left]; omega)]; rfl
  · rw [if_neg c]
    split
    · rfl
    · rw [if_neg (by simp [Rw.add, Rw.right, Rw.left]; omega)]
theorem ord_put (W p q n : Int) (h2 : W ≤ 9999) (hp : p ≤ W) (hq : 0 ≤ q) : (ordS W p 0 q 0).turn 1 2 n 3 = if n ≥ 1 ∧ q + n ≤ p then (ordS W p 0 (q + n) 0, 0) else (ordS W p 0 q 0, 10) := by
  rw [ord_turn]
  by_cases c : n ≥ 1 ∧ q + n ≤ p
  · rw [if_neg (by omega), if_pos c, if_pos (by simp [Rw.add, Rw.right, Rw.left]; omega)]; rfl
  · rw [if_neg c]
    split
    · rfl
    · rw [if_neg (by simp [Rw.add, Rw.right, Rw.left]; omega)]
theorem ord_short (W p q n : Int) (h2 : W ≤ 9999) (hp : q ≤ p) (h0 : 0 ≤ p) : (ordS W p 0 q 0).turn 1 2 n 2 = if n ≥ 1 ∧ p + n ≤ W then (ordS W p n q 0, 0) else (ordS W p 0 q 0, 10) := by
  rw [ord_turn]
  by_cases c : n ≥ 1 ∧ p + n ≤ W
  · rw [if_neg (by omega), if_pos c, if_pos (by simp [Rw.add, Rw.right, Rw.left]; omega)]
    simp [ordS, Rw.add]
  · rw [if_neg c]
    split
    · rfl
    · rw [if_neg (by simp [Rw.add, Rw.right, Rw.left]; omega)]
theorem ord_last (W p sh q : Int) : (ordS W p sh q 0).turn 1 4 1 2 = (ordS W p sh q 1, 0) := by
  simp [LS.turn, ordS, sidx, List.findIdx?_cons, Rw.add, Rw.right, Rw.left]
theorem ord_closed (W p sh q t : Int) : (ordS W p sh q t).all 1 Rw.closed = (p + sh == W && t == 1) := by
  simp [LS.all, LS.get, sidx, ordS, Rw.closed, Rw.left]
  rw [Bool.eq_iff_iff]
  simp
  omega
theorem ord_full (W p sh q t : Int) : (ordS W p sh q t).all 1 Rw.full = ((p + sh == W && t == 1) && q == p) := by
  simp [LS.all, LS.get, sidx, ordS, Rw.full, Rw.left]
  rw [Bool.eq_iff_iff]
  simp
  omega
theorem ord_rows (W p sh q t : Int) : (ordS W p sh q t).rows 1 = [⟨2, W, p, sh, q⟩, ⟨4, 1, 0, t, 0⟩] ∧ ((ordS W p sh q t).get 1).isSome = true := by
  simp [LS.rows, LS.get, sidx, ordS]
theorem ord_closed0 (W p q : Int) : (ordS W p (W - p) q 0).all 1 Rw.closed = false := by rw [ord_closed]; simp
theorem ord_closed1 (W p q : Int) : (ordS W p (W - p) q 1).all 1 Rw.closed = true := by rw [ord_closed]; simp; omega
theorem ord_full1 (W p q : Int) : (ordS W p (W - p) q 1).all 1 Rw.full = (q == p) := by
  have h : (p + (W - p) == W) = true := by simp; omega
  rw [ord_full, h]; simp
attribute [local go_sem] min2_mn min_two'
set_option maxRecDepth 100000 in
set_option maxHeartbeats 4000000 in
theorem ledgerOrder_any {w : World} (wn : Int) {A1 : Option Addr} {n1 cq1 : Nat} {l1 : List Int} {A2 : Option Addr} {n2 cq2 : Nat} {l2 : List Int}
    (h1 : SeesIn w (fun k => k < w.heap.size) 1 (.slice A1 n1 cq1) l1.length (l1.flatMap (fun y => [Value.int .u16 y])) ∧ ∀ x ∈ l1, 0 ≤ x ∧ x ≤ 65535)
    (h2 : SeesIn w (fun k => k < w.heap.size) 1 (.slice A2 n2 cq2) l2.length (l2.flatMap (fun y => [Value.int .u16 y])) ∧ ∀ x ∈ l2, 0 ≤ x ∧ x ≤ 65535) :
    Calls Try.prog 5 #[.int .i64 wn, .slice A1 n1 cq1, .slice A2 n2 cq2] w fun e w' => e = .returned (.bool true) ∧ Keep none_ w w' := by
  obtain ⟨hs1, hb1⟩ := h1
  obtain ⟨hs2, hb2⟩ := h2
  obtain ⟨rfl, b1, b1'⟩ := hs1.form'
  obtain ⟨rfl, b2, b2'⟩ := hs2.form'
  have HX := Lib.hid (Has.nil (Keep.refl none_ w))
  have hm := i64_and16 wn
  have HS1 := Lib.hid hs1
  have HS2 := Lib.hid hs2
  have HB1 := Lib.hid hb1
  have HB2 := Lib.hid hb2
  clear hs1 hs2 hb1 hb2
  refine d_calls (n := 199) Try.func5 rfl rfl (by simp) [(0, .int .i64 wn), (1, .slice A1 l1.length cq1), (2, .slice A2 l2.length cq2)] (by simp) ?_
  repeat first
    | apply d_seq
    | with_reducible apply kt_normal
    | apply l_nil
    | apply d_region
    | (apply l_off; (focus rfl); (focus rfl))
    | (apply l_val; (focus rfl); (focus rfl); (focus rfl); (focus (go_simp; (try simp (disch := omega) only [wrap_in, wrap_in', wrap_u16, wrap_u8, wrap_u32, rem_in, quo_in]); first | done | with_reducible rfl | (constructor <;> with_reducible rfl))))
    | (apply l_store; (focus rfl); (focus rfl); (focus rfl); (focus (go_simp; (try simp (disch := omega) only [wrap_in, wrap_in', wrap_u16, wrap_u8, wrap_u32, rem_in, quo_in]); first | done | with_reducible rfl | (constructor <;> with_reducible rfl))))
    | apply d_block
    | (apply d_true; (focus rfl); (focus rfl))
    | (apply d_false; (focus rfl); (focus rfl))
    | apply d_skip
    | apply d_exit
    | apply d_ret
    | with_reducible apply kt_ret
    | with_reducible apply kt_exit
    | with_reducible apply kb_normal
    | with_reducible apply kb_ret
    | with_reducible apply kb_here
    | with_reducible apply kl_ret
    | with_reducible apply kl_exit
    | with_reducible apply kc_ret
    | with_reducible apply kc_exit
    | (with_reducible apply kb_there; (focus rfl))
  refine l_call rfl rfl rfl (by first | (go_simp; done) | (go_simp; rfl)) (shown_has HX.out) ?_
  rintro e w' ⟨rfl, hx⟩
  clear HX
  try simp only [List.nil_append, List.cons_append, List.set_cons_zero, List.set_cons_succ] at hx
  have HX := Lib.hid hx
  clear hx
  refine ⟨_, rfl, ?_⟩
  repeat first
    | apply d_seq
    | with_reducible apply kt_normal
    | apply l_nil
    | apply d_region
    | (apply l_off; (focus rfl); (focus rfl))
    | (apply l_val; (focus rfl); (focus rfl); (focus rfl); (focus (go_simp; (try simp (disch := omega) only [wrap_in, wrap_in', wrap_u16, wrap_u8, wrap_u32, rem_in, quo_in]); first | done | with_reducible rfl | (constructor <;> with_reducible rfl))))
    | (apply l_store; (focus rfl); (focus rfl); (focus rfl); (focus (go_simp; (try simp (disch := omega) only [wrap_in, wrap_in', wrap_u16, wrap_u8, wrap_u32, rem_in, quo_in]); first | done | with_reducible rfl | (constructor <;> with_reducible rfl))))
    | apply d_block
    | (apply d_true; (focus rfl); (focus rfl))
    | (apply d_false; (focus rfl); (focus rfl))
    | apply d_skip
    | apply d_exit
    | apply d_ret
    | with_reducible apply kt_ret
    | with_reducible apply kt_exit
    | with_reducible apply kb_normal
    | with_reducible apply kb_ret
    | with_reducible apply kb_here
    | with_reducible apply kl_ret
    | with_reducible apply kl_exit
    | with_reducible apply kc_ret
    | with_reducible apply kc_exit
    | (with_reducible apply kb_there; (focus rfl))
  clear hm
  have hW1 : 1 ≤ 1 + wn % 65536 % 9999 := by omega
  have hW2 : 1 + wn % 65536 % 9999 ≤ 9999 := by omega
  generalize 1 + wn % 65536 % 9999 = W at *
  refine l_call rfl rfl rfl (by first | (go_simp; done) | (go_simp; rfl)) (new_has HX.out) ?_
  rintro e w' ⟨x, rfl, hx⟩
  clear HX
  try simp only [List.nil_append, List.cons_append, List.set_cons_zero, List.set_cons_succ] at hx
  have HX := Lib.hid hx
  clear hx
  refine ⟨_, rfl, ?_⟩
  repeat first
    | apply d_seq
    | with_reducible apply kt_normal
    | apply l_nil
    | apply d_region
    | (apply l_off; (focus rfl); (focus rfl))
    | (apply l_val; (focus rfl); (focus rfl); (focus rfl); (focus (go_simp; (try simp (disch := omega) only [wrap_in, wrap_in', wrap_u16, wrap_u8, wrap_u32, rem_in, quo_in]); first | done | with_reducible rfl | (constructor <;> with_reducible rfl))))
    | (apply l_store; (focus rfl); (focus rfl); (focus rfl); (focus (go_simp; (try simp (disch := omega) only [wrap_in, wrap_in', wrap_u16, wrap_u8, wrap_u32, rem_in, quo_in]); first | done | with_reducible rfl | (constructor <;> with_reducible rfl))))
    | apply d_block
    | (apply d_true; (focus rfl); (focus rfl))
    | (apply d_false; (focus rfl); (focus rfl))
    | apply d_skip
    | apply d_exit
    | apply d_ret
    | with_reducible apply kt_ret
    | with_reducible apply kt_exit
    | with_reducible apply kb_normal
    | with_reducible apply kb_ret
    | with_reducible apply kb_here
    | with_reducible apply kl_ret
    | with_reducible apply kl_exit
    | with_reducible apply kc_ret
    | with_reducible apply kc_exit
    | (with_reducible apply kb_there; (focus rfl))
  have hc := open_lit HX.out 0 x [] rfl 1 [⟨2, 3, W⟩, ⟨4, 5, 1⟩] #[.int .u16 2, .int .u16 3, .int .i64 W, .int .u16 4, .int .u16 5, .int .i64 1] rfl 59 2 rfl (by simp)
  simp only [ord_open W hW1 hW2] at hc
  have HC := Lib.hid hc
  clear hc
  refine l_call rfl rfl rfl (by first | (go_simp; done) | (go_simp; rfl)) (HC.out) ?_
  rintro e w' ⟨rfl, hx⟩
  clear HX
  try simp only [List.nil_append, List.cons_append, List.set_cons_zero, List.set_cons_succ] at hx
  have HX := Lib.hid hx
  clear hx
  refine ⟨_, rfl, ?_⟩
  repeat first
    | apply d_seq
    | with_reducible apply kt_normal
    | apply l_nil
    | apply d_region
    | (apply l_off; (focus rfl); (focus rfl))
    | (apply l_val; (focus rfl); (focus rfl); (focus rfl); (focus (go_simp; (try simp (disch := omega) only [wrap_in, wrap_in', wrap_u16, wrap_u8, wrap_u32, rem_in, quo_in]); first | done | with_reducible rfl | (constructor <;> with_reducible rfl))))
    | (apply l_store; (focus rfl); (focus rfl); (focus rfl); (focus (go_simp; (try simp (disch := omega) only [wrap_in, wrap_in', wrap_u16, wrap_u8, wrap_u32, rem_in, quo_in]); first | done | with_reducible rfl | (constructor <;> with_reducible rfl))))
    | ((fail_if_success (with_reducible apply d_block (id := 0))); apply d_block)
    | (apply d_true; (focus rfl); (focus rfl))
    | (apply d_false; (focus rfl); (focus rfl))
    | apply d_skip
    | apply d_exit
    | apply d_ret
    | with_reducible apply kt_ret
    | with_reducible apply kt_exit
    | with_reducible apply kb_normal
    | with_reducible apply kb_ret
    | with_reducible apply kb_here
    | with_reducible apply kl_ret
    | with_reducible apply kl_exit
    | with_reducible apply kc_ret
    | with_reducible apply kc_exit
    | (with_reducible apply kb_there; (focus rfl))
  clear HC
  refine d_join (fun D wr => ∃ (p : Int), D = [(0, .int .i64 W), (2, .slice A2 l2.length cq2), (7, .bool true), (8, .pointer (some ⟨x, 0, none⟩)), (9, .int .i64 p)] ∧ Hid (Has w wr [LedA w.heap.size x (ordS W p 0 0 0)]) ∧ 0 ≤ p ∧ p ≤ W) ?_ (fun D wr hcut => ?_)
  · repeat first
      | apply d_seq
      | with_reducible apply kt_normal
      | apply l_nil
      | apply d_region
      | (apply l_off; (focus rfl); (focus rfl))
      | (apply l_val; (focus rfl); (focus rfl); (focus rfl); (focus (go_simp; (try simp (disch := omega) only [wrap_in, wrap_in', wrap_u16, wrap_u8, wrap_u32, rem_in, quo_in]); first | done | with_reducible rfl | (constructor <;> with_reducible rfl))))
      | (apply l_store; (focus rfl); (focus rfl); (focus rfl); (focus (go_simp; (try simp (disch := omega) only [wrap_in, wrap_in', wrap_u16, wrap_u8, wrap_u32, rem_in, quo_in]); first | done | with_reducible rfl | (constructor <;> with_reducible rfl))))
      | apply d_block
      | (apply d_true; (focus rfl); (focus rfl))
      | (apply d_false; (focus rfl); (focus rfl))
      | apply d_skip
      | apply d_exit
      | apply d_ret
      | with_reducible apply kt_ret
      | with_reducible apply kt_exit
      | with_reducible apply kb_normal
      | with_reducible apply kb_ret
      | with_reducible apply kb_here
      | with_reducible apply kl_ret
      | with_reducible apply kl_exit
      | with_reducible apply kc_ret
      | with_reducible apply kc_exit
      | (with_reducible apply kb_there; (focus rfl))
    refine d_loop (fun m D wr => ∃ (k : Nat) (p : Int), m = l1.length - k ∧ k ≤ l1.length ∧ D = [(0, .int .i64 W), (1, .slice A1 l1.length cq1), (2, .slice A2 l2.length cq2), (7, .bool true), (8, .pointer (some ⟨x, 0, none⟩)), (9, .int .i64 p), (10, .int .i64 k)] ∧ Hid (Has w wr [LedA w.heap.size x (ordS W p 0 0 0)]) ∧ 0 ≤ p ∧ p ≤ W) (l1.length) _ (Subl.cons (t := 0) (by decide) rfl (Subl.cons (t := 1) (by decide) rfl (Subl.cons (t := 2) (by decide) rfl (Subl.cons (t := 7) (by decide) rfl (Subl.cons (t := 8) (by decide) rfl (Subl.cons (t := 9) (by decide) rfl (Subl.cons (t := 10) (by decide) rfl (Subl.nil _ _)))))))) ?_ (fun m D wr hrel => ?_)
    · exact ⟨0, 0, rfl, Nat.zero_le _, rfl, HX, by omega, by omega⟩
    · clear HX
      obtain ⟨k, p, rfl, hk, rfl, HX, hp0, hp1⟩ := hrel
      by_cases hlt : k < l1.length
      · by_cases h30 : (k : Int) < 30
        · obtain ⟨y, hy⟩ : ∃ y, l1[k]? = some y := ⟨_, List.getElem?_eq_getElem hlt⟩
          obtain ⟨hy0, hy1⟩ := HB1.out y (List.mem_of_getElem? hy)
          obtain ⟨g1, o1, cp1, e1, -, -, hq3, hq4, d0⟩ := sees_one (.int .u16) (fun _ => rfl) HS1.out hy
          simp only [Value.slice.injEq, true_and] at e1
          obtain ⟨rfl, rfl⟩ := e1
          have D0 := Lib.hid d0
          have HY := Lib.hid hy
          clear d0 hy
          try clear d0
          have d0 := HX.out.cell0 D0.out
          have hc := pPick_has HX.out 0 x _ rfl 1 2 y
          rw [ord_pick W p y hW2 hp0] at hc
          have h3 : y < 1 ∨ (1 ≤ y ∧ p + y ≤ W) ∨ (1 ≤ y ∧ W < p + y) := by omega
          rcases h3 with c1 | ⟨c1, c2⟩ | ⟨c1, c2⟩
          · rw [if_neg (by omega)] at hc
            have q1 : decide (1 ≤ y) = false := by simp; omega
            have q2 : decide (y ≥ 1) = false := by simp; omega
            have HC := Lib.hid hc
            clear hc
            repeat first
              | apply d_seq
              | with_reducible apply kt_normal
              | apply l_nil
              | apply d_region
              | (apply l_off; (focus rfl); (focus rfl))
              | (apply l_val; (focus rfl); (focus rfl); (focus rfl); (focus (go_simp; (try simp (disch := omega) only [wrap_in, wrap_in', wrap_u16, wrap_u8, wrap_u32, rem_in, quo_in]); first | done | with_reducible rfl | (constructor <;> with_reducible rfl))))
              | (apply l_store; (focus rfl); (focus rfl); (focus rfl); (focus (go_simp; (try simp (disch := omega) only [wrap_in, wrap_in', wrap_u16, wrap_u8, wrap_u32, rem_in, quo_in]); first | done | with_reducible rfl | (constructor <;> with_reducible rfl))))
              | apply d_block
              | (apply d_true; (focus rfl); (focus rfl))
              | (apply d_false; (focus rfl); (focus rfl))
              | apply d_skip
              | apply d_exit
              | apply d_ret
              | with_reducible apply kt_ret
              | with_reducible apply kt_exit
              | with_reducible apply kb_normal
              | with_reducible apply kb_ret
              | with_reducible apply kb_here
              | with_reducible apply kl_ret
              | with_reducible apply kl_exit
              | with_reducible apply kc_ret
              | with_reducible apply kc_exit
              | (with_reducible apply kb_there; (focus rfl))
            refine l_call rfl rfl rfl (by first | (go_simp; done) | (go_simp; rfl)) (HC.out) ?_
            rintro e w' ⟨rfl, hx⟩
            clear HX
            try simp only [List.nil_append, List.cons_append, List.set_cons_zero, List.set_cons_succ] at hx
            have HX := Lib.hid hx
            clear hx
            refine ⟨_, rfl, ?_⟩
            repeat first
              | apply d_seq
              | with_reducible apply kt_normal
              | apply l_nil
              | apply d_region
              | (apply l_off; (focus rfl); (focus rfl))
              | (apply l_val; (focus rfl); (focus rfl); (focus rfl); (focus (go_simp; (try simp (disch := omega) only [wrap_in, wrap_in', wrap_u16, wrap_u8, wrap_u32, rem_in, quo_in]); first | done | with_reducible rfl | (constructor <;> with_reducible rfl))))
              | (apply l_store; (focus rfl); (focus rfl); (focus rfl); (focus (go_simp; (try simp (disch := omega) only [wrap_in, wrap_in', wrap_u16, wrap_u8, wrap_u32, rem_in, quo_in]); first | done | with_reducible rfl | (constructor <;> with_reducible rfl))))
              | apply d_block
              | (apply d_true; (focus rfl); (focus rfl))
              | (apply d_false; (focus rfl); (focus rfl))
              | apply d_skip
              | apply d_exit
              | apply d_ret
              | with_reducible apply kt_ret
              | with_reducible apply kt_exit
              | with_reducible apply kb_normal
              | with_reducible apply kb_ret
              | with_reducible apply kb_here
              | with_reducible apply kl_ret
              | with_reducible apply kl_exit
              | with_reducible apply kc_ret
              | with_reducible apply kc_exit
              | (with_reducible apply kb_there; (focus rfl))
            refine kl_normal (l1.length - (k + 1)) _ (by omega) (Subl.cons (t := 0) (by decide) rfl (Subl.cons (t := 1) (by decide) rfl (Subl.cons (t := 2) (by decide) rfl (Subl.cons (t := 7) (by decide) rfl (Subl.cons (t := 8) (by decide) rfl (Subl.cons (t := 9) (by decide) rfl (Subl.cons (t := 10) (by decide) rfl (Subl.nil _ _)))))))) ?_
            exact ⟨k + 1, p, rfl, by omega, rfl, HX, hp0, hp1⟩
          · rw [if_pos (by omega)] at hc
            have HC := Lib.hid hc
            clear hc
            repeat first
              | apply d_seq
              | with_reducible apply kt_normal
              | apply l_nil
              | apply d_region
              | (apply l_off; (focus rfl); (focus rfl))
              | (apply l_val; (focus rfl); (focus rfl); (focus rfl); (focus (go_simp; (try simp (disch := omega) only [wrap_in, wrap_in', wrap_u16, wrap_u8, wrap_u32, rem_in, quo_in]); first | done | with_reducible rfl | (constructor <;> with_reducible rfl))))
              | (apply l_store; (focus rfl); (focus rfl); (focus rfl); (focus (go_simp; (try simp (disch := omega) only [wrap_in, wrap_in', wrap_u16, wrap_u8, wrap_u32, rem_in, quo_in]); first | done | with_reducible rfl | (constructor <;> with_reducible rfl))))
              | apply d_block
              | (apply d_true; (focus rfl); (focus rfl))
              | (apply d_false; (focus rfl); (focus rfl))
              | apply d_skip
              | apply d_exit
              | apply d_ret
              | with_reducible apply kt_ret
              | with_reducible apply kt_exit
              | with_reducible apply kb_normal
              | with_reducible apply kb_ret
              | with_reducible apply kb_here
              | with_reducible apply kl_ret
              | with_reducible apply kl_exit
              | with_reducible apply kc_ret
              | with_reducible apply kc_exit
              | (with_reducible apply kb_there; (focus rfl))
            refine l_call rfl rfl rfl (by first | (go_simp; done) | (go_simp; rfl)) (HC.out) ?_
            rintro e w' ⟨rfl, hx⟩
            clear HX
            try simp only [List.nil_append, List.cons_append, List.set_cons_zero, List.set_cons_succ] at hx
            have HX := Lib.hid hx
            clear hx
            refine ⟨_, rfl, ?_⟩
            repeat first
              | apply d_seq
              | with_reducible apply kt_normal
              | apply l_nil
              | apply d_region
              | (apply l_off; (focus rfl); (focus rfl))
              | (apply l_val; (focus rfl); (focus rfl); (focus rfl); (focus (go_simp; (try simp (disch := omega) only [wrap_in, wrap_in', wrap_u16, wrap_u8, wrap_u32, rem_in, quo_in]); first | done | with_reducible rfl | (constructor <;> with_reducible rfl))))
              | (apply l_store; (focus rfl); (focus rfl); (focus rfl); (focus (go_simp; (try simp (disch := omega) only [wrap_in, wrap_in', wrap_u16, wrap_u8, wrap_u32, rem_in, quo_in]); first | done | with_reducible rfl | (constructor <;> with_reducible rfl))))
              | apply d_block
              | (apply d_true; (focus rfl); (focus rfl))
              | (apply d_false; (focus rfl); (focus rfl))
              | apply d_skip
              | apply d_exit
              | apply d_ret
              | with_reducible apply kt_ret
              | with_reducible apply kt_exit
              | with_reducible apply kb_normal
              | with_reducible apply kb_ret
              | with_reducible apply kb_here
              | with_reducible apply kl_ret
              | with_reducible apply kl_exit
              | with_reducible apply kc_ret
              | with_reducible apply kc_exit
              | (with_reducible apply kb_there; (focus rfl))
            refine kl_normal (l1.length - (k + 1)) _ (by omega) (Subl.cons (t := 0) (by decide) rfl (Subl.cons (t := 1) (by decide) rfl (Subl.cons (t := 2) (by decide) rfl (Subl.cons (t := 7) (by decide) rfl (Subl.cons (t := 8) (by decide) rfl (Subl.cons (t := 9) (by decide) rfl (Subl.cons (t := 10) (by decide) rfl (Subl.nil _ _)))))))) ?_
            exact ⟨k + 1, p + y, rfl, by omega, rfl, HX, by omega, by omega⟩
          · rw [if_neg (by omega)] at hc
            have q1 : decide (p + y ≤ W) = false := by simp; omega
            have HC := Lib.hid hc
            clear hc
            repeat first
              | apply d_seq
              | with_reducible apply kt_normal
              | apply l_nil
              | apply d_region
              | (apply l_off; (focus rfl); (focus rfl))
              | (apply l_val; (focus rfl); (focus rfl); (focus rfl); (focus (go_simp; (try simp (disch := omega) only [wrap_in, wrap_in', wrap_u16, wrap_u8, wrap_u32, rem_in, quo_in]); first | done | with_reducible rfl | (constructor <;> with_reducible rfl))))
              | (apply l_store; (focus rfl); (focus rfl); (focus rfl); (focus (go_simp; (try simp (disch := omega) only [wrap_in, wrap_in', wrap_u16, wrap_u8, wrap_u32, rem_in, quo_in]); first | done | with_reducible rfl | (constructor <;> with_reducible rfl))))
              | apply d_block
              | (apply d_true; (focus rfl); (focus rfl))
              | (apply d_false; (focus rfl); (focus rfl))
              | apply d_skip
              | apply d_exit
              | apply d_ret
              | with_reducible apply kt_ret
              | with_reducible apply kt_exit
              | with_reducible apply kb_normal
              | with_reducible apply kb_ret
              | with_reducible apply kb_here
              | with_reducible apply kl_ret
              | with_reducible apply kl_exit
              | with_reducible apply kc_ret
              | with_reducible apply kc_exit
              | (with_reducible apply kb_there; (focus rfl))
            refine l_call rfl rfl rfl (by first | (go_simp; done) | (go_simp; rfl)) (HC.out) ?_
            rintro e w' ⟨rfl, hx⟩
            clear HX
            try simp only [List.nil_append, List.cons_append, List.set_cons_zero, List.set_cons_succ] at hx
            have HX := Lib.hid hx
            clear hx
            refine ⟨_, rfl, ?_⟩
            repeat first
              | apply d_seq
              | with_reducible apply kt_normal
              | apply l_nil
              | apply d_region
              | (apply l_off; (focus rfl); (focus rfl))
              | (apply l_val; (focus rfl); (focus rfl); (focus rfl); (focus (go_simp; (try simp (disch := omega) only [wrap_in, wrap_in', wrap_u16, wrap_u8, wrap_u32, rem_in, quo_in]); first | done | with_reducible rfl | (constructor <;> with_reducible rfl))))
              | (apply l_store; (focus rfl); (focus rfl); (focus rfl); (focus (go_simp; (try simp (disch := omega) only [wrap_in, wrap_in', wrap_u16, wrap_u8, wrap_u32, rem_in, quo_in]); first | done | with_reducible rfl | (constructor <;> with_reducible rfl))))
              | apply d_block
              | (apply d_true; (focus rfl); (focus rfl))
              | (apply d_false; (focus rfl); (focus rfl))
              | apply d_skip
              | apply d_exit
              | apply d_ret
              | with_reducible apply kt_ret
              | with_reducible apply kt_exit
              | with_reducible apply kb_normal
              | with_reducible apply kb_ret
              | with_reducible apply kb_here
              | with_reducible apply kl_ret
              | with_reducible apply kl_exit
              | with_reducible apply kc_ret
              | with_reducible apply kc_exit
              | (with_reducible apply kb_there; (focus rfl))
            refine kl_normal (l1.length - (k + 1)) _ (by omega) (Subl.cons (t := 0) (by decide) rfl (Subl.cons (t := 1) (by decide) rfl (Subl.cons (t := 2) (by decide) rfl (Subl.cons (t := 7) (by decide) rfl (Subl.cons (t := 8) (by decide) rfl (Subl.cons (t := 9) (by decide) rfl (Subl.cons (t := 10) (by decide) rfl (Subl.nil _ _)))))))) ?_
            exact ⟨k + 1, p, rfl, by omega, rfl, HX, hp0, hp1⟩
        · repeat first
            | apply d_seq
            | with_reducible apply kt_normal
            | apply l_nil
            | apply d_region
            | (apply l_off; (focus rfl); (focus rfl))
            | (apply l_val; (focus rfl); (focus rfl); (focus rfl); (focus (go_simp; (try simp (disch := omega) only [wrap_in, wrap_in', wrap_u16, wrap_u8, wrap_u32, rem_in, quo_in]); first | done | with_reducible rfl | (constructor <;> with_reducible rfl))))
            | (apply l_store; (focus rfl); (focus rfl); (focus rfl); (focus (go_simp; (try simp (disch := omega) only [wrap_in, wrap_in', wrap_u16, wrap_u8, wrap_u32, rem_in, quo_in]); first | done | with_reducible rfl | (constructor <;> with_reducible rfl))))
            | apply d_block
            | (apply d_true; (focus rfl); (focus rfl))
            | (apply d_false; (focus rfl); (focus rfl))
            | apply d_skip
            | apply d_exit
            | apply d_ret
            | with_reducible apply kt_ret
            | with_reducible apply kt_exit
            | with_reducible apply kb_normal
            | with_reducible apply kb_ret
            | with_reducible apply kb_here
            | with_reducible apply kl_ret
            | with_reducible apply kl_exit
            | with_reducible apply kc_ret
            | with_reducible apply kc_exit
            | (with_reducible apply kb_there; (focus rfl))
          refine kc_normal _ (Subl.cons (t := 0) (by decide) rfl (Subl.cons (t := 2) (by decide) rfl (Subl.cons (t := 7) (by decide) rfl (Subl.cons (t := 8) (by decide) rfl (Subl.cons (t := 9) (by decide) rfl (Subl.nil _ _)))))) ?_
          exact ⟨p, rfl, HX, hp0, hp1⟩
      · repeat first
          | apply d_seq
          | with_reducible apply kt_normal
          | apply l_nil
          | apply d_region
          | (apply l_off; (focus rfl); (focus rfl))
          | (apply l_val; (focus rfl); (focus rfl); (focus rfl); (focus (go_simp; (try simp (disch := omega) only [wrap_in, wrap_in', wrap_u16, wrap_u8, wrap_u32, rem_in, quo_in]); first | done | with_reducible rfl | (constructor <;> with_reducible rfl))))
          | (apply l_store; (focus rfl); (focus rfl); (focus rfl); (focus (go_simp; (try simp (disch := omega) only [wrap_in, wrap_in', wrap_u16, wrap_u8, wrap_u32, rem_in, quo_in]); first | done | with_reducible rfl | (constructor <;> with_reducible rfl))))
          | apply d_block
          | (apply d_true; (focus rfl); (focus rfl))
          | (apply d_false; (focus rfl); (focus rfl))
          | apply d_skip
          | apply d_exit
          | apply d_ret
          | with_reducible apply kt_ret
          | with_reducible apply kt_exit
          | with_reducible apply kb_normal
          | with_reducible apply kb_ret
          | with_reducible apply kb_here
          | with_reducible apply kl_ret
          | with_reducible apply kl_exit
          | with_reducible apply kc_ret
          | with_reducible apply kc_exit
          | (with_reducible apply kb_there; (focus rfl))
        refine kc_normal _ (Subl.cons (t := 0) (by decide) rfl (Subl.cons (t := 2) (by decide) rfl (Subl.cons (t := 7) (by decide) rfl (Subl.cons (t := 8) (by decide) rfl (Subl.cons (t := 9) (by decide) rfl (Subl.nil _ _)))))) ?_
        exact ⟨p, rfl, HX, hp0, hp1⟩
  clear HX
  obtain ⟨p, rfl, HX, hp0, hp1⟩ := hcut
  repeat first
    | apply d_seq
    | with_reducible apply kt_normal
    | apply l_nil
    | apply d_region
    | (apply l_off; (focus rfl); (focus rfl))
    | (apply l_val; (focus rfl); (focus rfl); (focus rfl); (focus (go_simp; (try simp (disch := omega) only [wrap_in, wrap_in', wrap_u16, wrap_u8, wrap_u32, rem_in, quo_in]); first | done | with_reducible rfl | (constructor <;> with_reducible rfl))))
    | (apply l_store; (focus rfl); (focus rfl); (focus rfl); (focus (go_simp; (try simp (disch := omega) only [wrap_in, wrap_in', wrap_u16, wrap_u8, wrap_u32, rem_in, quo_in]); first | done | with_reducible rfl | (constructor <;> with_reducible rfl))))
    | ((fail_if_success (with_reducible apply d_block (id := 2))); apply d_block)
    | (apply d_true; (focus rfl); (focus rfl))
    | (apply d_false; (focus rfl); (focus rfl))
    | apply d_skip
    | apply d_exit
    | apply d_ret
    | with_reducible apply kt_ret
    | with_reducible apply kt_exit
    | with_reducible apply kb_normal
    | with_reducible apply kb_ret
    | with_reducible apply kb_here
    | with_reducible apply kl_ret
    | with_reducible apply kl_exit
    | with_reducible apply kc_ret
    | with_reducible apply kc_exit
    | (with_reducible apply kb_there; (focus rfl))
  refine d_join (fun D wr => ∃ (q : Int), D = [(0, .int .i64 W), (7, .bool true), (8, .pointer (some ⟨x, 0, none⟩)), (9, .int .i64 p), (14, .int .i64 q)] ∧ Hid (Has w wr [LedA w.heap.size x (ordS W p 0 q 0)]) ∧ 0 ≤ q ∧ q ≤ p) ?_ (fun D wr hcut => ?_)
  · repeat first
      | apply d_seq
      | with_reducible apply kt_normal
      | apply l_nil
      | apply d_region
      | (apply l_off; (focus rfl); (focus rfl))
      | (apply l_val; (focus rfl); (focus rfl); (focus rfl); (focus (go_simp; (try simp (disch := omega) only [wrap_in, wrap_in', wrap_u16, wrap_u8, wrap_u32, rem_in, quo_in]); first | done | with_reducible rfl | (constructor <;> with_reducible rfl))))
      | (apply l_store; (focus rfl); (focus rfl); (focus rfl); (focus (go_simp; (try simp (disch := omega) only [wrap_in, wrap_in', wrap_u16, wrap_u8, wrap_u32, rem_in, quo_in]); first | done | with_reducible rfl | (constructor <;> with_reducible rfl))))
      | apply d_block
      | (apply d_true; (focus rfl); (focus rfl))
      | (apply d_false; (focus rfl); (focus rfl))
      | apply d_skip
      | apply d_exit
      | apply d_ret
      | with_reducible apply kt_ret
      | with_reducible apply kt_exit
      | with_reducible apply kb_normal
      | with_reducible apply kb_ret
      | with_reducible apply kb_here
      | with_reducible apply kl_ret
      | with_reducible apply kl_exit
      | with_reducible apply kc_ret
      | with_reducible apply kc_exit
      | (with_reducible apply kb_there; (focus rfl))
    refine d_loop (fun m D wr => ∃ (k : Nat) (q : Int), m = l2.length - k ∧ k ≤ l2.length ∧ D = [(0, .int .i64 W), (2, .slice A2 l2.length cq2), (7, .bool true), (8, .pointer (some ⟨x, 0, none⟩)), (9, .int .i64 p), (14, .int .i64 q), (15, .int .i64 k)] ∧ Hid (Has w wr [LedA w.heap.size x (ordS W p 0 q 0)]) ∧ 0 ≤ q ∧ q ≤ p) (l2.length) _ (Subl.cons (t := 0) (by decide) rfl (Subl.cons (t := 2) (by decide) rfl (Subl.cons (t := 7) (by decide) rfl (Subl.cons (t := 8) (by decide) rfl (Subl.cons (t := 9) (by decide) rfl (Subl.cons (t := 14) (by decide) rfl (Subl.cons (t := 15) (by decide) rfl (Subl.nil _ _)))))))) ?_ (fun m D wr hrel => ?_)
    · exact ⟨0, 0, rfl, Nat.zero_le _, rfl, HX, by omega, by omega⟩
    · clear HX
      obtain ⟨k, q, rfl, hk, rfl, HX, hq0, hq1⟩ := hrel
      by_cases hlt : k < l2.length
      · by_cases h30 : (k : Int) < 30
        · obtain ⟨y, hy⟩ : ∃ y, l2[k]? = some y := ⟨_, List.getElem?_eq_getElem hlt⟩
          obtain ⟨hy0, hy1⟩ := HB2.out y (List.mem_of_getElem? hy)
          obtain ⟨g1, o1, cp1, e1, -, -, hq3, hq4, d0⟩ := sees_one (.int .u16) (fun _ => rfl) HS2.out hy
          simp only [Value.slice.injEq, true_and] at e1
          obtain ⟨rfl, rfl⟩ := e1
          have D0 := Lib.hid d0
          have HY := Lib.hid hy
          clear d0 hy
          try clear d0
          have d0 := HX.out.cell0 D0.out
          have hc := pPut_has HX.out 0 x _ rfl 1 2 y
          rw [ord_put W p q y hW2 hp1 hq0] at hc
          have h3 : y < 1 ∨ (1 ≤ y ∧ q + y ≤ p) ∨ (1 ≤ y ∧ p < q + y) := by omega
          rcases h3 with c1 | ⟨c1, c2⟩ | ⟨c1, c2⟩
          · rw [if_neg (by omega)] at hc
            have q1 : decide (1 ≤ y) = false := by simp; omega
            have q2 : decide (y ≥ 1) = false := by simp; omega
            have HC := Lib.hid hc
            clear hc
            repeat first
              | apply d_seq
              | with_reducible apply kt_normal
              | apply l_nil
              | apply d_region
              | (apply l_off; (focus rfl); (focus rfl))
              | (apply l_val; (focus rfl); (focus rfl); (focus rfl); (focus (go_simp; (try simp (disch := omega) only [wrap_in, wrap_in', wrap_u16, wrap_u8, wrap_u32, rem_in, quo_in]); first | done | with_reducible rfl | (constructor <;> with_reducible rfl))))
              | (apply l_store; (focus rfl); (focus rfl); (focus rfl); (focus (go_simp; (try simp (disch := omega) only [wrap_in, wrap_in', wrap_u16, wrap_u8, wrap_u32, rem_in, quo_in]); first | done | with_reducible rfl | (constructor <;> with_reducible rfl))))
              | apply d_block
              | (apply d_true; (focus rfl); (focus rfl))
              | (apply d_false; (focus rfl); (focus rfl))
              | apply d_skip
              | apply d_exit
              | apply d_ret
              | with_reducible apply kt_ret
              | with_reducible apply kt_exit
              | with_reducible apply kb_normal
              | with_reducible apply kb_ret
              | with_reducible apply kb_here
              | with_reducible apply kl_ret
              | with_reducible apply kl_exit
              | with_reducible apply kc_ret
              | with_reducible apply kc_exit
              | (with_reducible apply kb_there; (focus rfl))
            refine l_call rfl rfl rfl (by first | (go_simp; done) | (go_simp; rfl)) (HC.out) ?_
            rintro e w' ⟨rfl, hx⟩
            clear HX
            try simp only [List.nil_append, List.cons_append, List.set_cons_zero, List.set_cons_succ] at hx
            have HX := Lib.hid hx
            clear hx
            refine ⟨_, rfl, ?_⟩
            repeat first
              | apply d_seq
              | with_reducible apply kt_normal
              | apply l_nil
              | apply d_region
              | (apply l_off; (focus rfl); (focus rfl))
              | (apply l_val; (focus rfl); (focus rfl); (focus rfl); (focus (go_simp; (try simp (disch := omega) only [wrap_in, wrap_in', wrap_u16, wrap_u8, wrap_u32, rem_in, quo_in]); first | done | with_reducible rfl | (constructor <;> with_reducible rfl))))
              | (apply l_store; (focus rfl); (focus rfl); (focus rfl); (focus (go_simp; (try simp (disch := omega) only [wrap_in, wrap_in', wrap_u16, wrap_u8, wrap_u32, rem_in, quo_in]); first | done | with_reducible rfl | (constructor <;> with_reducible rfl))))
              | apply d_block
              | (apply d_true; (focus rfl); (focus rfl))
              | (apply d_false; (focus rfl); (focus rfl))
              | apply d_skip
              | apply d_exit
              | apply d_ret
              | with_reducible apply kt_ret
              | with_reducible apply kt_exit
              | with_reducible apply kb_normal
              | with_reducible apply kb_ret
              | with_reducible apply kb_here
              | with_reducible apply kl_ret
              | with_reducible apply kl_exit
              | with_reducible apply kc_ret
              | with_reducible apply kc_exit
              | (with_reducible apply kb_there; (focus rfl))
            refine kl_normal (l2.length - (k + 1)) _ (by omega) (Subl.cons (t := 0) (by decide) rfl (Subl.cons (t := 2) (by decide) rfl (Subl.cons (t := 7) (by decide) rfl (Subl.cons (t := 8) (by decide) rfl (Subl.cons (t := 9) (by decide) rfl (Subl.cons (t := 14) (by decide) rfl (Subl.cons (t := 15) (by decide) rfl (Subl.nil _ _)))))))) ?_
            exact ⟨k + 1, q, rfl, by omega, rfl, HX, hq0, hq1⟩
          · rw [if_pos (by omega)] at hc
            have HC := Lib.hid hc
            clear hc
            repeat first
              | apply d_seq
              | with_reducible apply kt_normal
              | apply l_nil
              | apply d_region
              | (apply l_off; (focus rfl); (focus rfl))
              | (apply l_val; (focus rfl); (focus rfl); (focus rfl); (focus (go_simp; (try simp (disch := omega) only [wrap_in, wrap_in', wrap_u16, wrap_u8, wrap_u32, rem_in, quo_in]); first | done | with_reducible rfl | (constructor <;> with_reducible rfl))))
              | (apply l_store; (focus rfl); (focus rfl); (focus rfl); (focus (go_simp; (try simp (disch := omega) only [wrap_in, wrap_in', wrap_u16, wrap_u8, wrap_u32, rem_in, quo_in]); first | done | with_reducible rfl | (constructor <;> with_reducible rfl))))
              | apply d_block
              | (apply d_true; (focus rfl); (focus rfl))
              | (apply d_false; (focus rfl); (focus rfl))
              | apply d_skip
              | apply d_exit
              | apply d_ret
              | with_reducible apply kt_ret
              | with_reducible apply kt_exit
              | with_reducible apply kb_normal
              | with_reducible apply kb_ret
              | with_reducible apply kb_here
              | with_reducible apply kl_ret
              | with_reducible apply kl_exit
              | with_reducible apply kc_ret
              | with_reducible apply kc_exit
              | (with_reducible apply kb_there; (focus rfl))
            refine l_call rfl rfl rfl (by first | (go_simp; done) | (go_simp; rfl)) (HC.out) ?_
            rintro e w' ⟨rfl, hx⟩
            clear HX
            try simp only [List.nil_append, List.cons_append, List.set_cons_zero, List.set_cons_succ] at hx
            have HX := Lib.hid hx
            clear hx
            refine ⟨_, rfl, ?_⟩
            repeat first
              | apply d_seq
              | with_reducible apply kt_normal
              | apply l_nil
              | apply d_region
              | (apply l_off; (focus rfl); (focus rfl))
              | (apply l_val; (focus rfl); (focus rfl); (focus rfl); (focus (go_simp; (try simp (disch := omega) only [wrap_in, wrap_in', wrap_u16, wrap_u8, wrap_u32, rem_in, quo_in]); first | done | with_reducible rfl | (constructor <;> with_reducible rfl))))
              | (apply l_store; (focus rfl); (focus rfl); (focus rfl); (focus (go_simp; (try simp (disch := omega) only [wrap_in, wrap_in', wrap_u16, wrap_u8, wrap_u32, rem_in, quo_in]); first | done | with_reducible rfl | (constructor <;> with_reducible rfl))))
              | apply d_block
              | (apply d_true; (focus rfl); (focus rfl))
              | (apply d_false; (focus rfl); (focus rfl))
              | apply d_skip
              | apply d_exit
              | apply d_ret
              | with_reducible apply kt_ret
              | with_reducible apply kt_exit
              | with_reducible apply kb_normal
              | with_reducible apply kb_ret
              | with_reducible apply kb_here
              | with_reducible apply kl_ret
              | with_reducible apply kl_exit
              | with_reducible apply kc_ret
              | with_reducible apply kc_exit
              | (with_reducible apply kb_there; (focus rfl))
            refine kl_normal (l2.length - (k + 1)) _ (by omega) (Subl.cons (t := 0) (by decide) rfl (Subl.cons (t := 2) (by decide) rfl (Subl.cons (t := 7) (by decide) rfl (Subl.cons (t := 8) (by decide) rfl (Subl.cons (t := 9) (by decide) rfl (Subl.cons (t := 14) (by decide) rfl (Subl.cons (t := 15) (by decide) rfl (Subl.nil _ _)))))))) ?_
            exact ⟨k + 1, q + y, rfl, by omega, rfl, HX, by omega, by omega⟩
          · rw [if_neg (by omega)] at hc
            have q1 : decide (q + y ≤ p) = false := by simp; omega
            have HC := Lib.hid hc
            clear hc
            repeat first
              | apply d_seq
              | with_reducible apply kt_normal
              | apply l_nil
              | apply d_region
              | (apply l_off; (focus rfl); (focus rfl))
              | (apply l_val; (focus rfl); (focus rfl); (focus rfl); (focus (go_simp; (try simp (disch := omega) only [wrap_in, wrap_in', wrap_u16, wrap_u8, wrap_u32, rem_in, quo_in]); first | done | with_reducible rfl | (constructor <;> with_reducible rfl))))
              | (apply l_store; (focus rfl); (focus rfl); (focus rfl); (focus (go_simp; (try simp (disch := omega) only [wrap_in, wrap_in', wrap_u16, wrap_u8, wrap_u32, rem_in, quo_in]); first | done | with_reducible rfl | (constructor <;> with_reducible rfl))))
              | apply d_block
              | (apply d_true; (focus rfl); (focus rfl))
              | (apply d_false; (focus rfl); (focus rfl))
              | apply d_skip
              | apply d_exit
              | apply d_ret
              | with_reducible apply kt_ret
              | with_reducible apply kt_exit
              | with_reducible apply kb_normal
              | with_reducible apply kb_ret
              | with_reducible apply kb_here
              | with_reducible apply kl_ret
              | with_reducible apply kl_exit
              | with_reducible apply kc_ret
              | with_reducible apply kc_exit
              | (with_reducible apply kb_there; (focus rfl))
            refine l_call rfl rfl rfl (by first | (go_simp; done) | (go_simp; rfl)) (HC.out) ?_
            rintro e w' ⟨rfl, hx⟩
            clear HX
            try simp only [List.nil_append, List.cons_append, List.set_cons_zero, List.set_cons_succ] at hx
            have HX := Lib.hid hx
            clear hx
            refine ⟨_, rfl, ?_⟩
            repeat first
              | apply d_seq
              | with_reducible apply kt_normal
              | apply l_nil
              | apply d_region
              | (apply l_off; (focus rfl); (focus rfl))
              | (apply l_val; (focus rfl); (focus rfl); (focus rfl); (focus (go_simp; (try simp (disch := omega) only [wrap_in, wrap_in', wrap_u16, wrap_u8, wrap_u32, rem_in, quo_in]); first | done | with_reducible rfl | (constructor <;> with_reducible rfl))))
              | (apply l_store; (focus rfl); (focus rfl); (focus rfl); (focus (go_simp; (try simp (disch := omega) only [wrap_in, wrap_in', wrap_u16, wrap_u8, wrap_u32, rem_in, quo_in]); first | done | with_reducible rfl | (constructor <;> with_reducible rfl))))
              | apply d_block
              | (apply d_true; (focus rfl); (focus rfl))
              | (apply d_false; (focus rfl); (focus rfl))
              | apply d_skip
              | apply d_exit
              | apply d_ret
              | with_reducible apply kt_ret
              | with_reducible apply kt_exit
              | with_reducible apply kb_normal
              | with_reducible apply kb_ret
              | with_reducible apply kb_here
              | with_reducible apply kl_ret
              | with_reducible apply kl_exit
              | with_reducible apply kc_ret
              | with_reducible apply kc_exit
              | (with_reducible apply kb_there; (focus rfl))
            refine kl_normal (l2.length - (k + 1)) _ (by omega) (Subl.cons (t := 0) (by decide) rfl (Subl.cons (t := 2) (by decide) rfl (Subl.cons (t := 7) (by decide) rfl (Subl.cons (t := 8) (by decide) rfl (Subl.cons (t := 9) (by decide) rfl (Subl.cons (t := 14) (by decide) rfl (Subl.cons (t := 15) (by decide) rfl (Subl.nil _ _)))))))) ?_
            exact ⟨k + 1, q, rfl, by omega, rfl, HX, hq0, hq1⟩
        · repeat first
            | apply d_seq
            | with_reducible apply kt_normal
            | apply l_nil
            | apply d_region
            | (apply l_off; (focus rfl); (focus rfl))
            | (apply l_val; (focus rfl); (focus rfl); (focus rfl); (focus (go_simp; (try simp (disch := omega) only [wrap_in, wrap_in', wrap_u16, wrap_u8, wrap_u32, rem_in, quo_in]); first | done | with_reducible rfl | (constructor <;> with_reducible rfl))))
            | (apply l_store; (focus rfl); (focus rfl); (focus rfl); (focus (go_simp; (try simp (disch := omega) only [wrap_in, wrap_in', wrap_u16, wrap_u8, wrap_u32, rem_in, quo_in]); first | done | with_reducible rfl | (constructor <;> with_reducible rfl))))
            | apply d_block
            | (apply d_true; (focus rfl); (focus rfl))
            | (apply d_false; (focus rfl); (focus rfl))
            | apply d_skip
            | apply d_exit
            | apply d_ret
            | with_reducible apply kt_ret
            | with_reducible apply kt_exit
            | with_reducible apply kb_normal
            | with_reducible apply kb_ret
            | with_reducible apply kb_here
            | with_reducible apply kl_ret
            | with_reducible apply kl_exit
            | with_reducible apply kc_ret
            | with_reducible apply kc_exit
            | (with_reducible apply kb_there; (focus rfl))
          refine kc_normal _ (Subl.cons (t := 0) (by decide) rfl (Subl.cons (t := 7) (by decide) rfl (Subl.cons (t := 8) (by decide) rfl (Subl.cons (t := 9) (by decide) rfl (Subl.cons (t := 14) (by decide) rfl (Subl.nil _ _)))))) ?_
          exact ⟨q, rfl, HX, hq0, hq1⟩
      · repeat first
          | apply d_seq
          | with_reducible apply kt_normal
          | apply l_nil
          | apply d_region
          | (apply l_off; (focus rfl); (focus rfl))
          | (apply l_val; (focus rfl); (focus rfl); (focus rfl); (focus (go_simp; (try simp (disch := omega) only [wrap_in, wrap_in', wrap_u16, wrap_u8, wrap_u32, rem_in, quo_in]); first | done | with_reducible rfl | (constructor <;> with_reducible rfl))))
          | (apply l_store; (focus rfl); (focus rfl); (focus rfl); (focus (go_simp; (try simp (disch := omega) only [wrap_in, wrap_in', wrap_u16, wrap_u8, wrap_u32, rem_in, quo_in]); first | done | with_reducible rfl | (constructor <;> with_reducible rfl))))
          | apply d_block
          | (apply d_true; (focus rfl); (focus rfl))
          | (apply d_false; (focus rfl); (focus rfl))
          | apply d_skip
          | apply d_exit
          | apply d_ret
          | with_reducible apply kt_ret
          | with_reducible apply kt_exit
          | with_reducible apply kb_normal
          | with_reducible apply kb_ret
          | with_reducible apply kb_here
          | with_reducible apply kl_ret
          | with_reducible apply kl_exit
          | with_reducible apply kc_ret
          | with_reducible apply kc_exit
          | (with_reducible apply kb_there; (focus rfl))
        refine kc_normal _ (Subl.cons (t := 0) (by decide) rfl (Subl.cons (t := 7) (by decide) rfl (Subl.cons (t := 8) (by decide) rfl (Subl.cons (t := 9) (by decide) rfl (Subl.cons (t := 14) (by decide) rfl (Subl.nil _ _)))))) ?_
        exact ⟨q, rfl, HX, hq0, hq1⟩
  clear HX
  obtain ⟨q, rfl, HX, hq0, hq1⟩ := hcut
  rcases (by omega : p < W ∨ p = W) with hpw | hpw
  focus
    have hc1 := pShort_has HX.out 0 x _ rfl 1 2 (W - p + 1)
    rw [ord_short W p q _ hW2 hq1 hp0, if_neg (by omega)] at hc1
    have HC1 := Lib.hid hc1
    clear hc1
    repeat first
      | apply d_seq
      | with_reducible apply kt_normal
      | apply l_nil
      | apply d_region
      | (apply l_off; (focus rfl); (focus rfl))
      | (apply l_val; (focus rfl); (focus rfl); (focus rfl); (focus (go_simp; (try simp (disch := omega) only [wrap_in, wrap_in', wrap_u16, wrap_u8, wrap_u32, rem_in, quo_in]); first | done | with_reducible rfl | (constructor <;> with_reducible rfl))))
      | (apply l_store; (focus rfl); (focus rfl); (focus rfl); (focus (go_simp; (try simp (disch := omega) only [wrap_in, wrap_in', wrap_u16, wrap_u8, wrap_u32, rem_in, quo_in]); first | done | with_reducible rfl | (constructor <;> with_reducible rfl))))
      | apply d_block
      | (apply d_true; (focus rfl); (focus rfl))
      | (apply d_false; (focus rfl); (focus rfl))
      | apply d_skip
      | apply d_exit
      | apply d_ret
      | with_reducible apply kt_ret
      | with_reducible apply kt_exit
      | with_reducible apply kb_normal
      | with_reducible apply kb_ret
      | with_reducible apply kb_here
      | with_reducible apply kl_ret
      | with_reducible apply kl_exit
      | with_reducible apply kc_ret
      | with_reducible apply kc_exit
      | (with_reducible apply kb_there; (focus rfl))
    refine l_call rfl rfl rfl (by first | (go_simp; done) | (go_simp; rfl)) (HC1.out) ?_
    rintro e w' ⟨rfl, hx⟩
    clear HX
    try simp only [List.nil_append, List.cons_append, List.set_cons_zero, List.set_cons_succ] at hx
    have HX := Lib.hid hx
    clear hx
    refine ⟨_, rfl, ?_⟩
    repeat first
      | apply d_seq
      | with_reducible apply kt_normal
      | apply l_nil
      | apply d_region
      | (apply l_off; (focus rfl); (focus rfl))
      | (apply l_val; (focus rfl); (focus rfl); (focus rfl); (focus (go_simp; (try simp (disch := omega) only [wrap_in, wrap_in', wrap_u16, wrap_u8, wrap_u32, rem_in, quo_in]); first | done | with_reducible rfl | (constructor <;> with_reducible rfl))))
      | (apply l_store; (focus rfl); (focus rfl); (focus rfl); (focus (go_simp; (try simp (disch := omega) only [wrap_in, wrap_in', wrap_u16, wrap_u8, wrap_u32, rem_in, quo_in]); first | done | with_reducible rfl | (constructor <;> with_reducible rfl))))
      | apply d_block
      | (apply d_true; (focus rfl); (focus rfl))
      | (apply d_false; (focus rfl); (focus rfl))
      | apply d_skip
      | apply d_exit
      | apply d_ret
      | with_reducible apply kt_ret
      | with_reducible apply kt_exit
      | with_reducible apply kb_normal
      | with_reducible apply kb_ret
      | with_reducible apply kb_here
      | with_reducible apply kl_ret
      | with_reducible apply kl_exit
      | with_reducible apply kc_ret
      | with_reducible apply kc_exit
      | (with_reducible apply kb_there; (focus rfl))
    have hc2 := pShort_has HX.out 0 x _ rfl 1 2 (W - p)
    rw [ord_short W p q _ hW2 hq1 hp0, if_pos (by omega)] at hc2
    have HC2 := Lib.hid hc2
    clear hc2
    refine l_call rfl rfl rfl (by first | (go_simp; done) | (go_simp; rfl)) (HC2.out) ?_
    rintro e w' ⟨rfl, hx⟩
    clear HX
    try simp only [List.nil_append, List.cons_append, List.set_cons_zero, List.set_cons_succ] at hx
    have HX := Lib.hid hx
    clear hx
    refine ⟨_, rfl, ?_⟩
    repeat first
      | apply d_seq
      | with_reducible apply kt_normal
      | apply l_nil
      | apply d_region
      | (apply l_off; (focus rfl); (focus rfl))
      | (apply l_val; (focus rfl); (focus rfl); (focus rfl); (focus (go_simp; (try simp (disch := omega) only [wrap_in, wrap_in', wrap_u16, wrap_u8, wrap_u32, rem_in, quo_in]); first | done | with_reducible rfl | (constructor <;> with_reducible rfl))))
      | (apply l_store; (focus rfl); (focus rfl); (focus rfl); (focus (go_simp; (try simp (disch := omega) only [wrap_in, wrap_in', wrap_u16, wrap_u8, wrap_u32, rem_in, quo_in]); first | done | with_reducible rfl | (constructor <;> with_reducible rfl))))
      | apply d_block
      | (apply d_true; (focus rfl); (focus rfl))
      | (apply d_false; (focus rfl); (focus rfl))
      | apply d_skip
      | apply d_exit
      | apply d_ret
      | with_reducible apply kt_ret
      | with_reducible apply kt_exit
      | with_reducible apply kb_normal
      | with_reducible apply kb_ret
      | with_reducible apply kb_here
      | with_reducible apply kl_ret
      | with_reducible apply kl_exit
      | with_reducible apply kc_ret
      | with_reducible apply kc_exit
      | (with_reducible apply kb_there; (focus rfl))
    clear HC1 HC2
  rotate_left
  focus
    have q1 : decide (W > p) = false := by simp; omega
    have q0 : decide (p < W) = false := by simp; omega
    have q2 : (p < W) = False := by simp; omega
    have e : ordS W p 0 q 0 = ordS W p (W - p) q 0 := by rw [hpw, Int.sub_self]
    rw [e] at HX
    clear e hpw
    repeat first
      | apply d_seq
      | with_reducible apply kt_normal
      | apply l_nil
      | apply d_region
      | (apply l_off; (focus rfl); (focus rfl))
      | (apply l_val; (focus rfl); (focus rfl); (focus rfl); (focus (go_simp; (try simp (disch := omega) only [wrap_in, wrap_in', wrap_u16, wrap_u8, wrap_u32, rem_in, quo_in]); first | done | with_reducible rfl | (constructor <;> with_reducible rfl))))
      | (apply l_store; (focus rfl); (focus rfl); (focus rfl); (focus (go_simp; (try simp (disch := omega) only [wrap_in, wrap_in', wrap_u16, wrap_u8, wrap_u32, rem_in, quo_in]); first | done | with_reducible rfl | (constructor <;> with_reducible rfl))))
      | apply d_block
      | (apply d_true; (focus rfl); (focus rfl))
      | (apply d_false; (focus rfl); (focus rfl))
      | apply d_skip
      | apply d_exit
      | apply d_ret
      | with_reducible apply kt_ret
      | with_reducible apply kt_exit
      | with_reducible apply kb_normal
      | with_reducible apply kb_ret
      | with_reducible apply kb_here
      | with_reducible apply kl_ret
      | with_reducible apply kl_exit
      | with_reducible apply kc_ret
      | with_reducible apply kc_exit
      | (with_reducible apply kb_there; (focus rfl))
    clear q0 q1 q2
  all_goals
    have hc1 := closed_has HX.out 0 x _ rfl 1
    rw [ord_closed0] at hc1
    have HC1 := Lib.hid hc1
    clear hc1
    refine l_call rfl rfl rfl (by first | (go_simp; done) | (go_simp; rfl)) (HC1.out) ?_
    rintro e w' ⟨rfl, hx⟩
    clear HX
    try simp only [List.nil_append, List.cons_append, List.set_cons_zero, List.set_cons_succ] at hx
    have HX := Lib.hid hx
    clear hx
    refine ⟨_, rfl, ?_⟩
    repeat first
      | apply d_seq
      | with_reducible apply kt_normal
      | apply l_nil
      | apply d_region
      | (apply l_off; (focus rfl); (focus rfl))
      | (apply l_val; (focus rfl); (focus rfl); (focus rfl); (focus (go_simp; (try simp (disch := omega) only [wrap_in, wrap_in', wrap_u16, wrap_u8, wrap_u32, rem_in, quo_in]); first | done | with_reducible rfl | (constructor <;> with_reducible rfl))))
      | (apply l_store; (focus rfl); (focus rfl); (focus rfl); (focus (go_simp; (try simp (disch := omega) only [wrap_in, wrap_in', wrap_u16, wrap_u8, wrap_u32, rem_in, quo_in]); first | done | with_reducible rfl | (constructor <;> with_reducible rfl))))
      | apply d_block
      | (apply d_true; (focus rfl); (focus rfl))
      | (apply d_false; (focus rfl); (focus rfl))
      | apply d_skip
      | apply d_exit
      | apply d_ret
      | with_reducible apply kt_ret
      | with_reducible apply kt_exit
      | with_reducible apply kb_normal
      | with_reducible apply kb_ret
      | with_reducible apply kb_here
      | with_reducible apply kl_ret
      | with_reducible apply kl_exit
      | with_reducible apply kc_ret
      | with_reducible apply kc_exit
      | (with_reducible apply kb_there; (focus rfl))
    have hc2 := pShort_has HX.out 0 x _ rfl 1 4 1
    rw [ord_last] at hc2
    have HC2 := Lib.hid hc2
    clear hc2
    refine l_call rfl rfl rfl (by first | (go_simp; done) | (go_simp; rfl)) (HC2.out) ?_
    rintro e w' ⟨rfl, hx⟩
    clear HX
    try simp only [List.nil_append, List.cons_append, List.set_cons_zero, List.set_cons_succ] at hx
    have HX := Lib.hid hx
    clear hx
    refine ⟨_, rfl, ?_⟩
    repeat first
      | apply d_seq
      | with_reducible apply kt_normal
      | apply l_nil
      | apply d_region
      | (apply l_off; (focus rfl); (focus rfl))
      | (apply l_val; (focus rfl); (focus rfl); (focus rfl); (focus (go_simp; (try simp (disch := omega) only [wrap_in, wrap_in', wrap_u16, wrap_u8, wrap_u32, rem_in, quo_in]); first | done | with_reducible rfl | (constructor <;> with_reducible rfl))))
      | (apply l_store; (focus rfl); (focus rfl); (focus rfl); (focus (go_simp; (try simp (disch := omega) only [wrap_in, wrap_in', wrap_u16, wrap_u8, wrap_u32, rem_in, quo_in]); first | done | with_reducible rfl | (constructor <;> with_reducible rfl))))
      | apply d_block
      | (apply d_true; (focus rfl); (focus rfl))
      | (apply d_false; (focus rfl); (focus rfl))
      | apply d_skip
      | apply d_exit
      | apply d_ret
      | with_reducible apply kt_ret
      | with_reducible apply kt_exit
      | with_reducible apply kb_normal
      | with_reducible apply kb_ret
      | with_reducible apply kb_here
      | with_reducible apply kl_ret
      | with_reducible apply kl_exit
      | with_reducible apply kc_ret
      | with_reducible apply kc_exit
      | (with_reducible apply kb_there; (focus rfl))
    have hc3 := closed_has HX.out 0 x _ rfl 1
    rw [ord_closed1] at hc3
    have HC3 := Lib.hid hc3
    clear hc3
    refine l_call rfl rfl rfl (by first | (go_simp; done) | (go_simp; rfl)) (HC3.out) ?_
    rintro e w' ⟨rfl, hx⟩
    clear HX
    try simp only [List.nil_append, List.cons_append, List.set_cons_zero, List.set_cons_succ] at hx
    have HX := Lib.hid hx
    clear hx
    refine ⟨_, rfl, ?_⟩
    repeat first
      | apply d_seq
      | with_reducible apply kt_normal
      | apply l_nil
      | apply d_region
      | (apply l_off; (focus rfl); (focus rfl))
      | (apply l_val; (focus rfl); (focus rfl); (focus rfl); (focus (go_simp; (try simp (disch := omega) only [wrap_in, wrap_in', wrap_u16, wrap_u8, wrap_u32, rem_in, quo_in]); first | done | with_reducible rfl | (constructor <;> with_reducible rfl))))
      | (apply l_store; (focus rfl); (focus rfl); (focus rfl); (focus (go_simp; (try simp (disch := omega) only [wrap_in, wrap_in', wrap_u16, wrap_u8, wrap_u32, rem_in, quo_in]); first | done | with_reducible rfl | (constructor <;> with_reducible rfl))))
      | apply d_block
      | (apply d_true; (focus rfl); (focus rfl))
      | (apply d_false; (focus rfl); (focus rfl))
      | apply d_skip
      | apply d_exit
      | apply d_ret
      | with_reducible apply kt_ret
      | with_reducible apply kt_exit
      | with_reducible apply kb_normal
      | with_reducible apply kb_ret
      | with_reducible apply kb_here
      | with_reducible apply kl_ret
      | with_reducible apply kl_exit
      | with_reducible apply kc_ret
      | with_reducible apply kc_exit
      | (with_reducible apply kb_there; (focus rfl))
    have hc4 := full_has HX.out 0 x _ rfl 1
    rw [ord_full1] at hc4
    have HC4 := Lib.hid hc4
    clear hc4
    refine l_call rfl rfl rfl (by first | (go_simp; done) | (go_simp; rfl)) (HC4.out) ?_
    rintro e w' ⟨rfl, hx⟩
    clear HX
    try simp only [List.nil_append, List.cons_append, List.set_cons_zero, List.set_cons_succ] at hx
    have HX := Lib.hid hx
    clear hx
    refine ⟨_, rfl, ?_⟩
    repeat first
      | apply d_seq
      | with_reducible apply kt_normal
      | apply l_nil
      | apply d_region
      | (apply l_off; (focus rfl); (focus rfl))
      | (apply l_val; (focus rfl); (focus rfl); (focus rfl); (focus (go_simp; (try simp (disch := omega) only [wrap_in, wrap_in', wrap_u16, wrap_u8, wrap_u32, rem_in, quo_in]); first | done | with_reducible rfl | (constructor <;> with_reducible rfl))))
      | (apply l_store; (focus rfl); (focus rfl); (focus rfl); (focus (go_simp; (try simp (disch := omega) only [wrap_in, wrap_in', wrap_u16, wrap_u8, wrap_u32, rem_in, quo_in]); first | done | with_reducible rfl | (constructor <;> with_reducible rfl))))
      | apply d_block
      | (apply d_true; (focus rfl); (focus rfl))
      | (apply d_false; (focus rfl); (focus rfl))
      | apply d_skip
      | apply d_exit
      | apply d_ret
      | with_reducible apply kt_ret
      | with_reducible apply kt_exit
      | with_reducible apply kb_normal
      | with_reducible apply kb_ret
      | with_reducible apply kb_here
      | with_reducible apply kl_ret
      | with_reducible apply kl_exit
      | with_reducible apply kc_ret
      | with_reducible apply kc_exit
      | (with_reducible apply kb_there; (focus rfl))
    have hc5 := rows_has HX.out 0 x _ rfl 1
    rw [(ord_rows W p (W - p) q 1).1, (ord_rows W p (W - p) q 1).2] at hc5
    have HC5 := Lib.hid hc5
    clear hc5
    clear HC1 HC2 HC3 HC4
    refine l_call rfl rfl rfl (by first | (go_simp; done) | (go_simp; rfl)) (HC5.out) ?_
    rintro e w' ⟨A3, c3, rfl, hr1, hr2, hx⟩
    obtain ⟨g2, o2, cp2, e1, hq5, hq6, -, a0, a1, a2, a3, a4⟩ := hx.row (i := 1) rfl rfl (show [(⟨2, W, p, W - p, q⟩ : Rw), ⟨4, 1, 0, 1, 0⟩][0]? = some _ from rfl)
    simp only [Value.slice.injEq, true_and] at e1
    obtain ⟨rfl, rfl⟩ := e1
    obtain ⟨g3, o3, cp3, e1, -, -, -, t0, t1, t2, t3, t4⟩ := hx.row (i := 1) rfl rfl (show [(⟨2, W, p, W - p, q⟩ : Rw), ⟨4, 1, 0, 1, 0⟩][1]? = some _ from rfl)
    simp only [Value.slice.injEq, Option.some.injEq, Addr.mk.injEq, and_true, true_and] at e1
    obtain ⟨⟨rfl, rfl⟩, rfl⟩ := e1
    simp only [Nat.zero_mul, Nat.add_zero, Nat.one_mul] at a0 a1 a2 a3 a4 t0 t1 t2 t3 t4
    simp only [List.length_cons, List.length_nil] at hq5 hr1
    clear HX HC5
    have HX := Lib.hid hx
    clear hx
    refine ⟨_, rfl, ?_⟩
    repeat first
      | apply d_seq
      | with_reducible apply kt_normal
      | apply l_nil
      | apply d_region
      | (apply l_off; (focus rfl); (focus rfl))
      | (apply l_val; (focus rfl); (focus rfl); (focus rfl); (focus (go_simp; (try simp (disch := omega) only [wrap_in, wrap_in', wrap_u16, wrap_u8, wrap_u32, rem_in, quo_in]); first | done | with_reducible rfl | (constructor <;> with_reducible rfl))))
      | (apply l_store; (focus rfl); (focus rfl); (focus rfl); (focus (go_simp; (try simp (disch := omega) only [wrap_in, wrap_in', wrap_u16, wrap_u8, wrap_u32, rem_in, quo_in]); first | done | with_reducible rfl | (constructor <;> with_reducible rfl))))
      | apply d_block
      | (apply d_true; (focus rfl); (focus rfl))
      | (apply d_false; (focus rfl); (focus rfl))
      | apply d_skip
      | apply d_exit
      | apply d_ret
      | with_reducible apply kt_ret
      | with_reducible apply kt_exit
      | with_reducible apply kb_normal
      | with_reducible apply kb_ret
      | with_reducible apply kb_here
      | with_reducible apply kl_ret
      | with_reducible apply kl_exit
      | with_reducible apply kc_ret
      | with_reducible apply kc_exit
      | (with_reducible apply kb_there; (focus rfl))
    refine ⟨rfl, _, (by first | (simp [resultsG, resOne, Try.results5, rho, List.lookup]; done) | (simp [resultsG, resOne, Try.results5, rho, List.lookup]; rfl)), ?_⟩
    exact ⟨rfl, HX.out.old⟩
end Go.Proofs.Ytkjcmnhhgnlaeaa
