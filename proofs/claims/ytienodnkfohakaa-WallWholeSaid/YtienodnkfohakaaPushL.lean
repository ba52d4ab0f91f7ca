import Derived.Test.YtienodnkfohakaaArgs2
namespace Go.Proofs.Ytienodnkfohakaa
set_option linter.unusedVariables false
set_option linter.unusedSimpArgs false
open Go.RowKit
section
variable {w0 w : World} {L : List (Asrt w0.heap.size)}
/-- append of one element to what is ours. -/
theorem Has.push {P : Program} (H : Has w0 w L) {k m : Nat} {e : TypeId} {v : Value} {xs : List Value} {size : Nat} (hi : L[k]? = some (OwnA w0.heap.size e size v m xs)) (t : TypeId) (i : TypeInfo) (z : Value) (bytes : Nat) (ht : P.underlying t = some (.slice e)) (hi0 : P.info? e = some i) (hz : i.zero = some z)
    (hsize : i.size = size) (hby : i.bytes = bytes) (hzs : z.cells.size = size) (hsz : 0 < size) (cs : Array Value) (hcs : cs.size = size) (h1 : ∀ u ∈ cs.toList, u.oneCell' = true) (h63 : m + 1 ≤ maxLen) (hbytes : (m + 1) * bytes ≤ 140737488355328) (ty : TypeId) :
    ∃ g cap w', (Builtin.append_ #[t, t] ty #[v, .slice (some ⟨w.heap.size, 0, none⟩) 1 1]).run P (w.alloc (.cells cs e)) = .ok (.slice (some ⟨g, 0, none⟩) (m + 1) cap) w' ∧ m + 1 ≤ cap ∧ cap ≤ 9223372036854775807 ∧ Has w0 w' (L.set k (OwnA w0.heap.size e size (.slice (some ⟨g, 0, none⟩) (m + 1) cap) (m + 1) (xs ++ cs.toList))) := by
  obtain ⟨F, ho, hF, hback⟩ := H.call hi
  have ho' : Own w F e size v m xs := ho
  obtain ⟨g, cap, w', hr, hown, hgr, hg, -⟩ := push_law w t e i z size bytes ht hi0 hz hsize hby hzs hsz F cs v m xs ho' hcs h1 h63 hbytes ty
  have hf := hown.form (by omega)
  obtain ⟨g', c', e1, -, -, h2, h3⟩ := hf
  simp only [Value.slice.injEq, true_and] at e1
  obtain ⟨-, rfl⟩ := e1
  refine ⟨g, cap, w', hr, h2, by unfold maxLen at h3; omega, hback w' _ (((Keep.refl F w).alloc _).grown hgr (fun q hq => .inr (ho'.2.1 q hq))) ?_⟩
  refine hown.move (fun q hq hl => ⟨?_, rfl⟩)
  rcases hq with c | c
  · exact .inl (ho'.2.1 q c)
  · exact .inr ⟨by omega, hl⟩
end
end Go.Proofs.Ytienodnkfohakaa
