import Derived.Test.YtkjcmnhhgnlaeaaLedArgs2
namespace Go.Proofs.Ytkjcmnhhgnlaeaa
set_option linter.unusedVariables false
set_option linter.unusedSimpArgs false
open Go.RowKit
section
variable {id : Int} {ms : List Ln} {a : Acc} {k : Nat} {l : Ln} {it q : Int}
theorem rsM_row (hl : ms[k]? = some l) : (rsM ms a)[k]? = some ⟨l.item, l.qty, a.P k, a.S k, a.T k⟩ := by rw [rsM_get, hl]; rfl
theorem rsM_apart (hd : ∀ j l', j < k → ms[j]? = some l' → l'.item ≠ l.item) : ∀ j r', j < k → (rsM ms a)[j]? = some r' → r'.item ≠ l.item := by
  intro j r' hj hr
  rw [rsM_get] at hr
  cases hm : ms[j]? with
  | none => rw [hm] at hr; simp at hr
  | some l' =>
    rw [hm] at hr
    simp only [Option.map_some, Option.some.injEq] at hr
    subst hr
    exact hd j l' hj hm
theorem turnP (hl : ms[k]? = some l) (hd : ∀ j l', j < k → ms[j]? = some l' → l'.item ≠ l.item) (hit : it = l.item) (h1 : 1 ≤ q) (h2 : a.P k + q + a.S k ≤ l.qty) (h3 : a.T k ≤ a.P k) (h4 : l.qty ≤ 9999) (h5 : 0 ≤ a.P k ∧ 0 ≤ a.S k) :
    LS.turn [(id, rsM ms a)] id it q 1 = ([(id, rsM ms (a.add 1 k q))], 0) := by
  rw [turn_at id _ k _ (rsM_row hl) (rsM_apart hd) it hit, if_neg (by omega), if_pos (by simp only [Rw.add, Rw.right, Rw.left, Bool.and_eq_true, decide_eq_true_eq]; omega), rsM_set ms a k l hl]
theorem turnS (hl : ms[k]? = some l) (hd : ∀ j l', j < k → ms[j]? = some l' → l'.item ≠ l.item) (hit : it = l.item) (h1 : 1 ≤ q) (h2 : a.P k + q + a.S k ≤ l.qty) (h3 : a.T k ≤ a.P k) (h4 : l.qty ≤ 9999) (h5 : 0 ≤ a.P k ∧ 0 ≤ a.S k) :
    LS.turn [(id, rsM ms a)] id it q 2 = ([(id, rsM ms (a.add 2 k q))], 0) := by
  rw [turn_at id _ k _ (rsM_row hl) (rsM_apart hd) it hit, if_neg (by omega), if_pos (by simp only [Rw.add, Rw.right, Rw.left, Bool.and_eq_true, decide_eq_true_eq]; omega), rsM_set ms a k l hl]
theorem turnT (hl : ms[k]? = some l) (hd : ∀ j l', j < k → ms[j]? = some l' → l'.item ≠ l.item) (hit : it = l.item) (h1 : 1 ≤ q) (h2 : a.P k + a.S k ≤ l.qty) (h3 : a.T k + q ≤ a.P k) (h4 : l.qty ≤ 9999) (h5 : 0 ≤ a.P k ∧ 0 ≤ a.S k ∧ 0 ≤ a.T k) :
    LS.turn [(id, rsM ms a)] id it q 3 = ([(id, rsM ms (a.add 3 k q))], 0) := by
  rw [turn_at id _ k _ (rsM_row hl) (rsM_apart hd) it hit, if_neg (by omega), if_pos (by simp only [Rw.add, Rw.right, Rw.left, Bool.and_eq_true, decide_eq_true_eq]; omega), rsM_set ms a k l hl]
theorem turnT' (hl : ms[k]? = some l) (hd : ∀ j l', j < k → ms[j]? = some l' → l'.item ≠ l.item) (hit : it = l.item) (h3 : a.P k < a.T k + q) :
    LS.turn [(id, rsM ms a)] id it q 3 = ([(id, rsM ms a)], 10) := by
  rw [turn_at id _ k _ (rsM_row hl) (rsM_apart hd) it hit]
  split
  · rfl
  · rw [if_neg (by simp only [Rw.add, Rw.right, Rw.left, Bool.and_eq_true, decide_eq_true_eq]; omega)]
theorem rsM_take_add (i kk : Nat) (h : i ≤ k) : (rsM ms (a.add kk k q)).take i = (rsM ms a).take i := by
  apply List.ext_getElem?
  intro j
  rw [List.getElem?_take, List.getElem?_take]
  by_cases hj : j < i
  · rw [if_pos hj, if_pos hj, rsM_get, rsM_get]
    cases ms[j]? with
    | none => rfl
    | some y =>
      simp only [Option.map_some, Option.some.injEq]
      have : j ≠ k := by omega
      unfold Acc.add
      split <;> simp [upd, this]
  · rw [if_neg hj, if_neg hj]
/-- What an account says of a line: this one, and nothing beside what was. -/
structure Acc.at (a b : Acc) (k : Nat) (p s t : Int) : Prop where
  P : b.P k = p
  S : b.S k = s
  T : b.T k = t
  other : ∀ j, j ≠ k → b.P j = a.P j ∧ b.S j = a.S j ∧ b.T j = a.T j
theorem Acc.at.take {b : Acc} {p s t : Int} (h : a.at b k p s t) : (rsM ms b).take k = (rsM ms a).take k := by
  apply List.ext_getElem?
  intro j
  rw [List.getElem?_take, List.getElem?_take]
  by_cases hj : j < k
  · rw [if_pos hj, if_pos hj, rsM_get, rsM_get]
    obtain ⟨h1, h2, h3⟩ := h.other j (by omega)
    rw [h1, h2, h3]
  · rw [if_neg hj, if_neg hj]
end
theorem all_take_snoc {α : Type} {l : List α} {p : α → Bool} {k : Nat} {y : α} (hy : l[k]? = some y) : (l.take (k + 1)).all p = ((l.take k).all p && p y) := by
  rw [List.take_add_one, hy]; simp
theorem full_next {ms : List Ln} {a b : Acc} {k : Nat} {l : Ln} {cl fu : Bool} {p s q : Int} (hl : ms[k]? = some l) (h0 : ∀ j, k ≤ j → a.P j = 0 ∧ a.S j = 0 ∧ a.T j = 0) (h1 : cl = ((rsM ms a).take k).all Rw.closed) (h2 : fu = ((rsM ms a).take k).all Rw.full) (hb : a.at b k p s q) :
    (∀ j, k + 1 ≤ j → b.P j = 0 ∧ b.S j = 0 ∧ b.T j = 0) ∧ (cl && (l.qty - p - s == 0)) = ((rsM ms b).take (k + 1)).all Rw.closed ∧ ((fu && (l.qty - p - s == 0)) && p == q) = ((rsM ms b).take (k + 1)).all Rw.full := by
  have hr : (rsM ms b)[k]? = some ⟨l.item, l.qty, p, s, q⟩ := by rw [rsM_get, hl, hb.P.symm, hb.S.symm, hb.T.symm]; rfl
  have e : (p == q) = (q == p) := by rw [Bool.eq_iff_iff]; simp only [beq_iff_eq]; exact eq_comm
  refine ⟨fun j hj => ?_, ?_, ?_⟩
  · obtain ⟨c1, c2, c3⟩ := hb.other j (by omega)
    rw [c1, c2, c3]; exact h0 j (by omega)
  · rw [all_take_snoc hr, hb.take, ← h1]; rfl
  · rw [all_take_snoc hr, hb.take, ← h2, Bool.and_assoc, e]; rfl
theorem min_five (ats : Array TypeId) (ty : TypeId) (a b c d e : Value) : Builtin.min_ ats ty #[a, b, c, d, e] = (Builtin.min2 a b >>= fun s => Builtin.min2 s c >>= fun s => Builtin.min2 s d >>= fun s => Builtin.min2 s e >>= fun s => pure s) := by simp only [Builtin.min_, List.foldlM_cons, List.foldlM_nil]
end Go.Proofs.Ytkjcmnhhgnlaeaa
