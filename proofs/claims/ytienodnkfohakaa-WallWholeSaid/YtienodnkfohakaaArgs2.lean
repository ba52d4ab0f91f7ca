import Derived.Test.YtienodnkfohakaaArgs
import Derived.Test.YtienodnkfohakaaHas
import Derived.Test.YtienodnkfohakaaCod
namespace Go.Proofs.Ytienodnkfohakaa
set_option linter.unusedVariables false
set_option linter.unusedSimpArgs false
open Go.RowKit
theorem SeesR.form {α : Type} {w : World} {F : Nat → Prop} {sz n c : Nat} {A : Option Addr} {R : α → List Value → Prop} {l : List α} (h : SeesR w F sz R (.slice A n c) l) : n = l.length ∧ l.length ≤ c ∧ c ≤ 9223372036854775807 := by
  obtain ⟨A', c', e, h1, h2, -⟩ := h
  simp only [Value.slice.injEq] at e
  obtain ⟨-, rfl, rfl⟩ := e
  exact ⟨rfl, h1, by unfold maxLen at h2; omega⟩
theorem SeesIn.form' {w : World} {F : Nat → Prop} {sz n c m : Nat} {A : Option Addr} {xs : List Value} (h : SeesIn w F sz (.slice A n c) m xs) : n = m ∧ m ≤ c ∧ c ≤ 9223372036854775807 := by
  obtain ⟨A', c', e, h1, h2, -⟩ := h
  simp only [Value.slice.injEq] at e
  obtain ⟨-, rfl, rfl⟩ := e
  exact ⟨rfl, h1, by unfold maxLen at h2; omega⟩
theorem Has.seesR {α : Type} {w0 w : World} {L : List (Asrt w0.heap.size)} (H : Has w0 w L) {sz : Nat} {R : α → List Value → Prop} {v : Value} {l : List α} (h : SeesR w0 (fun k => k < w0.heap.size) sz R v l) : SeesR w (fun k => k < w0.heap.size) sz R v l :=
  h.move H.size (fun _ hk hl => ⟨hk, H.old.block _ hl (fun c => c)⟩)
/-- An element of one cell. -/
theorem sees_one {α : Type} {enc : α → List Value} (f : α → Value) (he : ∀ y, enc y = [f y]) {w : World} {F : Nat → Prop} {v : Value} {l : List α} (h : SeesIn w F 1 v l.length (l.flatMap enc)) {k : Nat} {y : α} (hy : l[k]? = some y) :
    ∃ g o c, v = .slice (some ⟨g, o, none⟩) l.length c ∧ F g ∧ g < w.heap.size ∧ l.length ≤ c ∧ c ≤ 9223372036854775807 ∧ w.cell? ⟨g, o + k, none⟩ = some (f y) := by
  obtain ⟨g, o, c, h1, h2, h3, h4, h5, hc⟩ := sees_get (enc := enc) (sz := 1) (fun y => by rw [he]; rfl) h rfl hy
  have := hc 0 (f y) (by rw [he]; rfl)
  rw [Nat.mul_one, Nat.add_zero] at this
  exact ⟨g, o, c, h1, h4, h5, h2, by unfold maxLen at h3; omega, this⟩
/-- What was there when the law began is there. -/
theorem Has.cell0 {w0 w : World} {L : List (Asrt w0.heap.size)} (H : Has w0 w L) {p : Addr} {v : Value} (h : w0.cell? p = some v) : w.cell? p = some v :=
  (H.old.cell (World.block_lt_of_cell? w0 p h) (fun c => c)).trans h
end Go.Proofs.Ytienodnkfohakaa
