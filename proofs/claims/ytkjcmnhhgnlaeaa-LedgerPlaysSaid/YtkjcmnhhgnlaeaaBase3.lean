import Derived.Test.YtkjcmnhhgnlaeaaBase2
namespace Go.Proofs.Ytkjcmnhhgnlaeaa
set_option linter.unusedVariables false
set_option linter.unusedSimpArgs false
open Go.RowKit

/-- an array variable of ints -/
def arr (n : Nat) (f : Nat → Int) : Array Value := ((List.range n).map fun i => Value.int .i64 (f i)).toArray
theorem arr_get {n i : Nat} (f : Nat → Int) (h : i < n) : (arr n f)[i]? = some (.int .i64 (f i)) := by simp [arr, h]
def upd (f : Nat → Int) (k : Nat) (v : Int) : Nat → Int := fun i => if i = k then v else f i
theorem arr_set {n k : Nat} (f : Nat → Int) (v : Int) (h : k < n) : (arr n f).setIfInBounds k (.int .i64 v) = arr n (upd f k v) := by
  apply Array.ext
  · simp [arr]
  · intro i h1 h2
    simp only [arr, upd, List.setIfInBounds_toArray, List.getElem_toArray, List.getElem_set, List.getElem_map, List.getElem_range]
    by_cases e : k = i
    · subst e; simp
    · rw [if_neg e, if_neg (fun c => e c.symm)]
theorem arr_cell {w : World} {b n i : Nat} {f : Nat → Int} {T : TypeId} (h : w.heap[b]? = some (.cells (arr n f) T (0, 0))) (hi : i < n) : w.cell? ⟨b, i, none⟩ = some (.int .i64 (f i)) ∧ w.frozen? ⟨b, i, none⟩ = false := by
  constructor
  · simp only [World.cell?, h]; exact arr_get f hi
  · simp [World.frozen?, h]
theorem arr_store {w : World} {b n k : Nat} {f : Nat → Int} {T : TypeId} (h : w.heap[b]? = some (.cells (arr n f) T (0, 0))) (hk : k < n) (v : Int) : (w.setCell ⟨b, k, none⟩ (.int .i64 v)).heap[b]? = some (.cells (arr n (upd f k v)) T (0, 0)) := by
  rw [heap_setCell_same _ _ _ _ _ _ h, arr_set f v hk]
end Go.Proofs.Ytkjcmnhhgnlaeaa
