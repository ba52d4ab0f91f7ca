import Derived.Test.YtbcjmgocdplfnaaPlcM
namespace Go.Proofs.Ytbcjmgocdplfnaa
set_option linter.unusedVariables false
set_option linter.unusedSimpArgs false
open Go.RowKit
/-! An array variable of one-cell values. -/
def arrv (n : Nat) (f : Nat → Value) : Array Value := ((List.range n).map f).toArray
def updv (f : Nat → Value) (k : Nat) (v : Value) : Nat → Value := fun i => if i = k then v else f i
theorem arrv_get {n i : Nat} (f : Nat → Value) (h : i < n) : (arrv n f)[i]? = some (f i) := by simp [arrv, h]
theorem arrv_set {n k : Nat} (f : Nat → Value) (v : Value) (h : k < n) : (arrv n f).setIfInBounds k v = arrv n (updv f k v) := by
  apply Array.ext
  · simp [arrv]
  · intro i h1 h2
    simp only [arrv, updv, List.setIfInBounds_toArray, List.getElem_toArray, List.getElem_set, List.getElem_map, List.getElem_range]
    by_cases e : k = i
    · subst e; simp
    · rw [if_neg e, if_neg (fun c => e c.symm)]
theorem Has.arrv {w0 w : World} {L : List (Asrt w0.heap.size)} (H : Has w0 w L) {i b n : Nat} {f : Nat → Value} {T : TypeId} (hi : L[i]? = some (BlkA w0.heap.size b (arrv n f) T)) {k : Nat} (hk : k < n) : w.cell? ⟨b, k, none⟩ = some (f k) ∧ w.frozen? ⟨b, k, none⟩ = false := by
  have h := H.blk hi
  exact ⟨by simp only [World.cell?, h]; exact arrv_get f hk, by simp [World.frozen?, h]⟩
theorem Has.arrvPut {w0 w : World} {L : List (Asrt w0.heap.size)} (H : Has w0 w L) {i b n : Nat} {f : Nat → Value} {T : TypeId} (hi : L[i]? = some (BlkA w0.heap.size b (Go.Proofs.Ytbcjmgocdplfnaa.arrv n f) T)) {k : Nat} (hk : k < n) (v : Value) : Has w0 (w.setCell ⟨b, k, none⟩ v) (L.set i (BlkA w0.heap.size b (Go.Proofs.Ytbcjmgocdplfnaa.arrv n (updv f k v)) T)) := by
  obtain ⟨F, hz, hF, hback⟩ := H.call hi
  have h2 : F b ∧ w.heap[b]? = some (.cells (Go.Proofs.Ytbcjmgocdplfnaa.arrv n f) T (0, 0)) := hz
  refine hback _ _ ((Keep.refl _ _).setCell (.inr h2.1) _) ⟨.inl h2.1, ?_⟩
  rw [heap_setCell_same _ _ _ _ _ _ h2.2, arrv_set f v hk]
/-- Who showed what, of the first so many locations. -/
def wasTo (s : PS) (k : Nat) : Nat → Value := fun x => .int .u8 (if (x : Int) ∈ s.locs.take k then (s.at? x).getD 0 else 0)
theorem wasTo_zero (s : PS) : wasTo s 0 = fun _ => .int .u8 0 := by funext x; simp [wasTo]
theorem wasTo_succ (s : PS) {k : Nat} {v : Nat} {a : Int} (hk : s.locs[k]? = some (v : Int)) (ha : s.at? v = some a) : wasTo s (k + 1) = updv (wasTo s k) v (.int .u8 a) := by
  funext x
  unfold wasTo updv
  rw [List.take_add_one, hk]
  by_cases e : x = v
  · subst e; simp [ha]
  · have e' : (x : Int) ≠ v := by omega
    simp [e, e']
theorem wasTo_all (s : PS) : wasTo s s.locs.length = fun x => .int .u8 ((s.at? x).getD 0) := by
  funext x
  unfold wasTo
  rw [List.take_length]
  split
  · rfl
  · rename_i h
    rw [PS.at_none_iff.2 h]
    rfl
theorem ansV_some {k : IntKind} {o : Option Int} {x : Int} (h : ansV k o = .tuple #[.int k x, .bool true]) : o = some x := by
  cases o with
  | none => simp [ansV] at h
  | some y => simp only [ansV, Value.tuple.injEq, Array.mk.injEq, List.cons.injEq, Value.int.injEq, true_and, and_true] at h; rw [h]
theorem ansV_none {k : IntKind} {o : Option Int} {x : Int} (h : ansV k o = .tuple #[.int k x, .bool false]) : o = none ∧ x = 0 := by
  cases o with
  | none => simp only [ansV, Value.tuple.injEq, Array.mk.injEq, List.cons.injEq, Value.int.injEq, true_and, and_true] at h; exact ⟨rfl, h.symm⟩
  | some y => simp [ansV] at h
/-- A row's rest behind its first, as a string. -/
theorem tail_str {W : World} {F : Nat → Prop} {g N c : Nat} {l0 : Int} {ls : List Int} (h : SeesIn W F 1 (.slice (some ⟨g, 0, none⟩) N c) (l0 :: ls).length (ints .u8 (l0 :: ls))) :
    ∃ A', (∀ W' : World, (Instr.slice 22 (.slice (some ⟨g, 0, none⟩) N c) (some (.int .i64 1)) none none).run Try.prog W' = .ok (.slice A' (N - 1) (c - 1)) W') ∧ (convert 22 9 (.slice A' (N - 1) (c - 1))).run Try.prog W = .ok (.string (strOfNums ls)) W := by
  obtain ⟨A', c', e, h1, h2, h3, h4, h4', h5⟩ := h
  simp only [Value.slice.injEq] at e
  obtain ⟨rfl, rfl, rfl⟩ := e
  obtain ⟨g', o', e5, hF, hg, hc⟩ := h5 (by simp)
  simp only [Option.some.injEq, Addr.mk.injEq, and_true] at e5
  obtain ⟨rfl, rfl⟩ := e5
  rw [List.length_cons] at h1
  refine ⟨if c = 1 then some ⟨g, 0, none⟩ else some ⟨g, 1, none⟩, fun W' => ?_, ?_⟩
  · have hsz : (sizeOf 5).run Try.prog W' = .ok 1 W' := Try.sizeOf5 W'
    have hb : (1 : Int) ≤ (ls.length : Int) + 1 := by omega
    have hb2 : (0 : Int) ≤ (ls.length : Int) := by omega
    simp [Instr.slice, hb, hb2, run_underlying Try.underlying22, Instr.sliceBounds, Instr.sliceBound, asIntOf, hsz, Result.andThen, Addr.add]
  · refine str_sees (F := F) (n := ls.length) ⟨_, _, rfl, by omega, by unfold maxLen at h2 ⊢; omega, fun e => ?_, by simp [ints], ints_one .u8 ls, fun hl => ⟨g, 1, ?_, hF, hg, fun j u hj => ?_⟩⟩
    · split at e <;> simp at e
    · rw [if_neg (by omega)]
    · have := hc (1 + j) u (by rw [Nat.add_comm]; exact hj)
      rw [Nat.zero_add] at this
      exact this
end Go.Proofs.Ytbcjmgocdplfnaa
