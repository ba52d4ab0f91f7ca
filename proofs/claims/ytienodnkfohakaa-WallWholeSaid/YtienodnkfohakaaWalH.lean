import Derived.Test.YtienodnkfohakaaWalG
namespace Go.Proofs.Ytienodnkfohakaa
set_option linter.unusedVariables false
set_option linter.unusedSimpArgs false
open Go.RowKit
/-- What is told of a cubby. -/
theorem look {s : WS} (h : s.good) (q : Int) : ∃ (held : Bool) (od : Int), s.order q = .tuple #[.int .u32 od, .bool held] ∧ s.full q = (held && decide (((s.needs q).length : Int) = 0)) ∧ (held = false → s.needs q = []) ∧ Need (s.needs q) := by
  unfold WS.order WS.full WS.needs
  cases hat : s.at q with
  | none => exact ⟨false, 0, rfl, rfl, fun _ => rfl, Need.nil⟩
  | some c =>
    obtain ⟨h0, h1, h2⟩ := at_in hat
    exact ⟨true, c.order, rfl, by simp, fun hh => by simp at hh, (h.each c (List.mem_of_getElem? h1)).need⟩
/-- A line of a row of ours: read, and its quantity written. -/
theorem Has.rowLn {w0 w : World} {L : List (Asrt w0.heap.size)} (H : Has w0 w L) {i n d : Nat} {e : TypeId} {B : Option Addr} {l : List Ln} (hi : L[i]? = some (OwnA w0.heap.size e 3 (.slice B n d) n (lns l))) {j : Nat} {y : Ln} (hy : l[j]? = some y) (hj : j < n) :
    ∃ g, B = some ⟨g, 0, none⟩ ∧ n ≤ d ∧ d ≤ 9223372036854775807 ∧ (w.cell? ⟨g, j * 3, none⟩ = some (.int .u16 y.item) ∧ w.cell? ⟨g, j * 3 + 1, none⟩ = some (.int .u16 y.loc) ∧ w.cell? ⟨g, j * 3 + 2, none⟩ = some (.int .i64 y.qty)) ∧
      w.frozen? ⟨g, j * 3 + 2, none⟩ = false ∧ ∀ q : Int, Has w0 (w.setCell ⟨g, j * 3 + 2, none⟩ (.int .i64 q)) (L.set i (OwnA w0.heap.size e 3 (.slice B n d) n (lns (l.set j { y with qty := q })))) := by
  obtain ⟨F, hz, hF, hback⟩ := H.call hi
  have ho : Own w F e 3 (.slice B n d) n (lns l) := hz
  obtain ⟨g, c, ev, hFg, hg, h1, h2⟩ := ho.form (by omega)
  simp only [Value.slice.injEq, true_and] at ev
  obtain ⟨rfl, rfl⟩ := ev
  have hc := fun q u (hq : (lns l)[j * 3 + q]? = some u) => (ho.1.cellAt (j * 3 + q) (by rw [← ho.1.1]; exact (List.getElem?_eq_some_iff.1 hq).1)).trans hq
  have hk := fun q hq => fl_get Ln.three l j y hy q hq
  refine ⟨g, rfl, h1, by unfold maxLen at h2; omega, ⟨hc 0 _ (hk 0 (by omega)), hc 1 _ (hk 1 (by omega)), hc 2 _ (hk 2 (by omega))⟩, (ho.cell (j * 3 + 2) (by omega)).2, fun q => ?_⟩
  refine hback _ _ ((Keep.refl _ _).setCell (.inr hFg) _) ?_
  have := ho.store (j * 3 + 2) (.int .i64 q) rfl
  rw [lns_setq l q j y hy] at this
  exact this.move (fun k hk _ => ⟨.inl hk, rfl⟩)
/-- A line of a row of ours is read. -/
theorem Has.rowAt {w0 w : World} {L : List (Asrt w0.heap.size)} (H : Has w0 w L) {i n d g : Nat} {e : TypeId} {l : List Ln} (hi : L[i]? = some (OwnA w0.heap.size e 3 (.slice (some ⟨g, 0, none⟩) n d) n (lns l))) {j : Nat} {y : Ln} (hy : l[j]? = some y) (hj : j < n) :
    w.cell? ⟨g, j * 3, none⟩ = some (.int .u16 y.item) ∧ w.cell? ⟨g, j * 3 + 1, none⟩ = some (.int .u16 y.loc) ∧ w.cell? ⟨g, j * 3 + 2, none⟩ = some (.int .i64 y.qty) := by
  obtain ⟨g', e1, -, -, h, -⟩ := H.rowLn hi hy hj
  simp only [Option.some.injEq, Addr.mk.injEq, and_true] at e1
  subst e1
  exact h
end Go.Proofs.Ytienodnkfohakaa
