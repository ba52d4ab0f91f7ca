import Derived.Test.YtkjcmnhhgnlaeaaLedI
import Derived.Test.YtkjcmnhhgnlaeaaBase3
namespace Go.Proofs.Ytkjcmnhhgnlaeaa
set_option linter.unusedVariables false
set_option linter.unusedSimpArgs false
open Go.RowKit
theorem turn_at (id : Int) (rs : List Rw) (k : Nat) (r : Rw) (hk : rs[k]? = some r) (hd : ∀ j r', j < k → rs[j]? = some r' → r'.item ≠ r.item) (it : Int) (hit : it = r.item) (q : Int) (f : Nat) :
    LS.turn [(id, rs)] id it q f = if q < 1 ∨ 9999 < q then ([(id, rs)], 10) else if (r.add f q).right = true then ([(id, rs.set k (r.add f q))], 0) else ([(id, rs)], 10) := by
  subst hit
  have hlt := (List.getElem?_eq_some_iff.1 hk).1
  have hi : rs.findIdx? (fun x => x.item == r.item) = some k := by
    rw [List.findIdx?_eq_some_iff_getElem]
    refine ⟨hlt, ?_, fun j hj => ?_⟩
    · rw [(List.getElem?_eq_some_iff.1 hk).2]; simp
    · have := hd j rs[j] hj (List.getElem?_eq_getElem (by omega))
      simpa using this
  unfold LS.turn
  rw [sidx_cons, if_pos rfl]
  simp only [List.getElem?_cons_zero, hi, hk, List.set_cons_zero]
theorem rightE_of (ls : List Ln) (h0 : 0 < ls.length) (h8 : ls.length ≤ 8) (hl : ∀ j l, ls[j]? = some l → lineE (ls.take j) l = 0) : rightE ls = 0 := by
  have key : ∀ d k, k + d ≤ ls.length → errFrom ls d k = 0 := by
    intro d
    induction d with
    | zero => intro k _; rfl
    | succ d ih =>
      intro k hk
      have hkl : k < ls.length := by omega
      rw [errFrom, List.getElem?_eq_getElem hkl]
      simp only
      rw [if_pos (hl k _ (List.getElem?_eq_getElem hkl))]
      exact ih (k + 1) (by omega)
  unfold rightE
  rw [if_neg (by omega), if_neg (by omega)]
  exact key _ _ (by omega)
theorem lineE_of {a : List Ln} {l : Ln} (h1 : l.loc < 64) (h2 : 1 ≤ l.qty) (h3 : l.qty ≤ 9999) (h4 : ∀ x ∈ a, x.item ≠ l.item ∧ x.loc ≠ l.loc) : lineE a l = 0 := by
  unfold lineE
  rw [if_neg (by omega), if_neg (by omega), if_neg]
  simp only [List.any_eq_true, Bool.or_eq_true, beq_iff_eq, not_exists, not_and, not_or]
  exact fun x hx => h4 x hx
/-- Lines made one by one of a row of numbers. -/
def mkL (f : Nat → Int) (l : List Int) : List Ln := l.mapIdx fun i q => ⟨f i, i, 1 + q % 9999⟩
theorem mkL_get (f : Nat → Int) (l : List Int) (k : Nat) : (mkL f l)[k]? = (l[k]?).map fun q => ⟨f k, k, 1 + q % 9999⟩ := by simp [mkL]
theorem mkL_len (f : Nat → Int) (l : List Int) : (mkL f l).length = l.length := by simp [mkL]
theorem mkL_right (f : Nat → Int) (hf : ∀ i j, i < 8 → j < 8 → f i = f j → i = j) (l : List Int) (h0 : 0 < l.length) (h8 : l.length ≤ 8) : rightE (mkL f l) = 0 := by
  refine rightE_of _ (by rw [mkL_len]; exact h0) (by rw [mkL_len]; exact h8) (fun j y hy => ?_)
  rw [mkL_get] at hy
  have hj : j < l.length := by
    rcases Nat.lt_or_ge j l.length with h | h
    · exact h
    · rw [List.getElem?_eq_none h] at hy; simp at hy
  rw [List.getElem?_eq_getElem hj] at hy
  simp only [Option.map_some, Option.some.injEq] at hy
  subst hy
  refine lineE_of (by simp only; omega) (by simp only; omega) (by simp only; omega) (fun x hx => ?_)
  obtain ⟨i, hi, hx⟩ := List.mem_take_iff_getElem.1 hx
  have hil : i < l.length := by omega
  have : (mkL f l)[i]? = some x := by rw [List.getElem?_eq_getElem (by omega), hx]
  rw [mkL_get, List.getElem?_eq_getElem hil] at this
  simp only [Option.map_some, Option.some.injEq] at this
  subst this
  simp only
  refine ⟨fun c => ?_, by omega⟩
  have := hf i j (by omega) (by omega) c
  omega
theorem mkL_snoc (f : Nat → Int) (l : List Int) (k : Nat) (q : Int) (hq : l[k]? = some q) : mkL f (l.take (k + 1)) = mkL f (l.take k) ++ [⟨f k, k, 1 + q % 9999⟩] := by
  have hk := (List.getElem?_eq_some_iff.1 hq).1
  apply List.ext_getElem?
  intro i
  rw [mkL_get, List.getElem?_append, mkL_get, mkL_len, List.length_take, List.getElem?_take]
  have hm : min k l.length = k := by omega
  rw [hm]
  by_cases h1 : i < k
  · rw [if_pos (by omega), if_pos h1, List.getElem?_take, if_pos h1]
  · rw [if_neg h1]
    by_cases h2 : i = k
    · subst h2; simp [hq]
    · rw [if_neg (by omega)]
      rw [List.getElem?_eq_none (by simp; omega)]
      rfl
end Go.Proofs.Ytkjcmnhhgnlaeaa
