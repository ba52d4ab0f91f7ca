import Derived.Test.YtbcjmgocdplfnaaPushL
import Derived.Laws.OwnMore
namespace Go.Proofs.Ytbcjmgocdplfnaa
set_option linter.unusedVariables false
set_option linter.unusedSimpArgs false
open Go.RowKit
/-- A number of a row of ours is written over. -/
theorem Has.poke {w0 w : World} {L : List (Asrt w0.heap.size)} (H : Has w0 w L) {i : Nat} {e : TypeId} {v : Value} {n : Nat} {ki : IntKind} {xs : List Int} (hi : L[i]? = some (OwnA w0.heap.size e 1 v n (ints ki xs))) (hn : n = xs.length) {k : Nat} (hk : k < xs.length) (y : Int) :
    ∃ g c old, v = .slice (some ⟨g, 0, none⟩) n c ∧ n ≤ c ∧ c ≤ 9223372036854775807 ∧ w.cell? ⟨g, k, none⟩ = some old ∧ w.frozen? ⟨g, k, none⟩ = false ∧
      Has w0 (w.setCell ⟨g, k, none⟩ (.int ki y)) (L.set i (OwnA w0.heap.size e 1 v n (ints ki (xs.set k y)))) := by
  obtain ⟨F, hz, hF, hback⟩ := H.call hi
  have ho : Own w F e 1 v n (ints ki xs) := hz
  obtain ⟨g, c, rfl, hFg, hg, h1, h2⟩ := ho.form (by omega)
  unfold maxLen at h2
  obtain ⟨cur, hb, hnc, hcm, hcs, htk⟩ := ho.block
  have hkc : k < cur.size := by omega
  refine ⟨g, c, cur[k], rfl, h1, by omega, by simp [World.cell?, hb, hkc], by simp [World.frozen?, hb], ?_⟩
  refine hback _ _ ((Keep.refl _ _).setCell (.inr hFg) _) ?_
  refine ⟨⟨?_, .inr ⟨g, c, cur.setIfInBounds k (.int ki y), rfl, Nat.zero_le _, heap_setCell_same _ _ _ _ _ _ hb, hnc, hcm, by simpa using hcs, ?_⟩⟩, fun q hq => ?_, ints_one ki _⟩
  · have := ho.1.1
    simp [ints] at this ⊢
    omega
  · rw [Array.toList_setIfInBounds, List.take_set, htk]
    simp [ints, List.map_set]
  · simp only [Value.ownBlock, Option.some.injEq] at hq
    subst hq
    exact .inl hFg
end Go.Proofs.Ytbcjmgocdplfnaa
