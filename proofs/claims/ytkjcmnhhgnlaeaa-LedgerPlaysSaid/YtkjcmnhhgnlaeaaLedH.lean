import Derived.Test.YtkjcmnhhgnlaeaaLedG
import Derived.Test.YtkjcmnhhgnlaeaaMasks
namespace Go.Proofs.Ytkjcmnhhgnlaeaa
set_option linter.unusedVariables false
set_option linter.unusedSimpArgs false
open Go.RowKit
section
variable {w0 w : World} {L : List (Asrt w0.heap.size)}
/-- Of lines that are laid ahead of the call. -/
theorem open_lit (H : Has w0 w L) (i x : Nat) (s : LS) (hi : L[i]? = some (LedA w0.heap.size x s)) (id : Int) (ls : List Ln) (cs : Array Value) (hcs : cs.toList = lns ls) (T : TypeId) (n : Nat) (hn : n = ls.length) (hl : ls.length ≤ 100) :
    Calls Try.prog 24 #[.pointer (some ⟨x, 0, none⟩), .agg #[.int .u32 id, .slice (some ⟨w.heap.size, 0, none⟩) n n]] (w.alloc (.cells cs T)) fun e w' => e = .returned (.int .i64 (s.openUp id ls).2) ∧ Has w0 w' (L.set i (LedA w0.heap.size x (s.openUp id ls).1)) := by
  subst hn
  obtain ⟨F, hz, hF, hback⟩ := H.call hi
  have hsz : cs.size = ls.length * 3 := by rw [← Array.length_toList, hcs, lns_len]
  have hs := SeesIn.lit w cs T 3 ls.length hsz (by rw [hcs]; exact lns_one ls) (by unfold maxLen; omega)
  rw [hcs] at hs
  have hz' : LRep w F x s := hz
  refine (lOpen_any x s id _ ls F (fun k => k = w.heap.size) (w.alloc (.cells cs T)) (hz'.move (fun k hk hl => ⟨hk, Below.heap_alloc _ _ _ hl⟩)) hs (fun k hk c => by have := (hF k c).2; omega)).mono ?_
  rintro e w' ⟨rfl, hk, hr⟩
  exact ⟨rfl, hback w' _ (((Keep.refl F w).alloc _).trans (hk.mono (fun q c => .inl c))) (hr.move (fun q hq _ => ⟨by rcases hq with c | c; exact .inl c; simp at c; exact .inr (by omega), rfl⟩))⟩
/-- append of one element to what is ours. -/
theorem Has.push {P : Program} (H : Has w0 w L) {k m : Nat} {e : TypeId} {v : Value} {xs : List Value} {size : Nat} (hi : L[k]? = some (OwnA w0.heap.size e size v m xs)) (t : TypeId) (i : TypeInfo) (z : Value) (bytes : Nat) (ht : P.underlying t = some (.slice e)) (hi0 : P.info? e = some i) (hz : i.zero = some z)
    (hsize : i.size = size) (hby : i.bytes = bytes) (hzs : z.cells.size = size) (hsz : 0 < size) (cs : Array Value) (hcs : cs.size = size) (h1 : ∀ u ∈ cs.toList, u.oneCell' = true) (h63 : m + 1 ≤ maxLen) (hbytes : (m + 1) * bytes ≤ 140737488355328) (ty : TypeId) :
    ∃ g cap w', (Builtin.append_ #[t, t] ty #[v, .slice (some ⟨w.heap.size, 0, none⟩) 1 1]).run P (w.alloc (.cells cs e)) = .ok (.slice (some ⟨g, 0, none⟩) (m + 1) cap) w' ∧ m + 1 ≤ cap ∧ cap ≤ 9223372036854775807 ∧ Has w0 w' (L.set k (OwnA w0.heap.size e size (.slice (some ⟨g, 0, none⟩) (m + 1) cap) (m + 1) (xs ++ cs.toList))) := by
  obtain ⟨F, ho, hF, hback⟩ := H.call hi
  have ho' : Own w F e size v m xs := ho
  obtain ⟨g, cap, w', hr, hown, hgr, hg, -⟩ := push_law w t e i z size bytes ht hi0 hz hsize hby hzs hsz F cs v m xs ho' hcs h1 h63 hbytes ty
  have hf := hown.form (by omega)
  obtain ⟨g', c', e1, -, -, h2, h3⟩ := hf
  simp only [Value.slice.injEq, true_and] at e1
  obtain ⟨-, rfl⟩ := e1
  refine ⟨g, cap, w', hr, h2, by unfold maxLen at h3; omega, hback w' _ (((Keep.refl F w).alloc _).grown hgr (fun q hq => .inr (ho'.2.1 q hq))) ?_⟩
  refine hown.move (fun q hq hl => ⟨?_, rfl⟩)
  rcases hq with c | c
  · exact .inl (ho'.2.1 q c)
  · exact .inr ⟨by omega, hl⟩
end
end Go.Proofs.Ytkjcmnhhgnlaeaa
