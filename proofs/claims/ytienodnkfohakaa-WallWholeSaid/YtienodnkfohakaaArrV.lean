import Derived.Test.YtienodnkfohakaaHas
namespace Go.Proofs.Ytienodnkfohakaa
set_option linter.unusedVariables false
set_option linter.unusedSimpArgs false
open Go.RowKit
/-! An array variable of one-cell values. -/
def arrv (n : Nat) (f : Nat → Value) : Array Value := ((List.range n).map f).toArray
def updv (f : Nat → Value) (k : Nat) (v : Value) : Nat → Value := fun i => if i = k then v else f i
theorem arrv_get {n i : Nat} (f : Nat → Value) (h : i < n) : (arrv n f)[i]? = some (f i) := by simp [arrv, h]
theorem arrv_set {n k : Nat} (f : Nat → Value) (v : Value) (h : k < n) : (arrv n f).setIfInBounds k v = arrv n (updv f k v) := by
  apply Array.ext
  · simp [arrv]
  · intro i h1 h2
    simp only [arrv, updv, List.setIfInBounds_toArray, List.getElem_toArray, List.getElem_set, List.getElem_map, List.getElem_range]
    by_cases e : k = i
    · subst e; simp
    · rw [if_neg e, if_neg (fun c => e c.symm)]
theorem Has.arrv {w0 w : World} {L : List (Asrt w0.heap.size)} (H : Has w0 w L) {i b n : Nat} {f : Nat → Value} {T : TypeId} (hi : L[i]? = some (BlkA w0.heap.size b (arrv n f) T)) {k : Nat} (hk : k < n) : w.cell? ⟨b, k, none⟩ = some (f k) ∧ w.frozen? ⟨b, k, none⟩ = false := by
  have h := H.blk hi
  exact ⟨by simp only [World.cell?, h]; exact arrv_get f hk, by simp [World.frozen?, h]⟩
theorem Has.arrvPut {w0 w : World} {L : List (Asrt w0.heap.size)} (H : Has w0 w L) {i b n : Nat} {f : Nat → Value} {T : TypeId} (hi : L[i]? = some (BlkA w0.heap.size b (Go.Proofs.Ytienodnkfohakaa.arrv n f) T)) {k : Nat} (hk : k < n) (v : Value) : Has w0 (w.setCell ⟨b, k, none⟩ v) (L.set i (BlkA w0.heap.size b (Go.Proofs.Ytienodnkfohakaa.arrv n (updv f k v)) T)) := by
  obtain ⟨F, hz, hF, hback⟩ := H.call hi
  have h2 : F b ∧ w.heap[b]? = some (.cells (Go.Proofs.Ytienodnkfohakaa.arrv n f) T (0, 0)) := hz
  refine hback _ _ ((Keep.refl _ _).setCell (.inr h2.1) _) ⟨.inl h2.1, ?_⟩
  rw [heap_setCell_same _ _ _ _ _ _ h2.2, arrv_set f v hk]
end Go.Proofs.Ytienodnkfohakaa
