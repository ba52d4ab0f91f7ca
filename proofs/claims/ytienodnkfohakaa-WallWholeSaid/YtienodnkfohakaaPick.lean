import Derived.Test.YtienodnkfohakaaHas
namespace Go.Proofs.Ytienodnkfohakaa
set_option linter.unusedVariables false
set_option linter.unusedSimpArgs false
open Go.RowKit
/-- The things of some places (none twice), in another order. -/
theorem Has.pick {w0 w : World} {l : List (Asrt w0.heap.size)} (H : Has w0 w l) (is : List Nat) (hn : is.Nodup) (ps : List (Asrt w0.heap.size)) (hps : ∀ (j : Nat) (P : Asrt w0.heap.size), ps[j]? = some P → ∃ i, is[j]? = some i ∧ l[i]? = some P) : Has w0 w ps := by
  obtain ⟨h0, G, h1, h2, h3⟩ := H
  refine ⟨h0, fun j k => ∃ i, is[j]? = some i ∧ G i k, fun j k ⟨i, _, h⟩ => h1 i k h, ?_, fun j P hj => ?_⟩
  · rintro j j' k ⟨i, hi, h⟩ ⟨i', hi', h'⟩
    have e := h2 i i' k h h'
    subst e
    exact (List.getElem?_inj (List.getElem?_eq_some_iff.1 hi).1 hn).1 (hi.trans hi'.symm)
  · obtain ⟨i, hi, hl⟩ := hps j P hj
    exact P.loc (h3 i P hl) (Nat.le_refl _) (fun k hg _ => ⟨⟨i, hi, hg⟩, rfl⟩) (fun k hn hl => rfl)
theorem Has.pick1 {w0 w : World} {l : List (Asrt w0.heap.size)} (H : Has w0 w l) {i : Nat} {P : Asrt w0.heap.size} (hi : l[i]? = some P) : Has w0 w [P] :=
  H.pick [i] (by simp) [P] (fun j Q hj => by
    match j with
    | 0 => simp only [List.getElem?_cons_zero, Option.some.injEq] at hj; subst hj; exact ⟨i, rfl, hi⟩
    | j + 1 => simp at hj)
theorem Has.pick2 {w0 w : World} {l : List (Asrt w0.heap.size)} (H : Has w0 w l) {i j : Nat} {P Q : Asrt w0.heap.size} (hi : l[i]? = some P) (hj : l[j]? = some Q) (hij : i ≠ j) : Has w0 w [P, Q] :=
  H.pick [i, j] (by simp [hij]) [P, Q] (fun n R hn => by
    match n with
    | 0 => simp only [List.getElem?_cons_zero, Option.some.injEq] at hn; subst hn; exact ⟨i, rfl, hi⟩
    | 1 => simp only [List.getElem?_cons_zero, List.getElem?_cons_succ, Option.some.injEq] at hn; subst hn; exact ⟨j, rfl, hj⟩
    | n + 2 => simp at hn)
end Go.Proofs.Ytienodnkfohakaa
