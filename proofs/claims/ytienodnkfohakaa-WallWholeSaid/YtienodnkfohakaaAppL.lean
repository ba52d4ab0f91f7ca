import Derived.Test.YtienodnkfohakaaArgs2
namespace Go.Proofs.Ytienodnkfohakaa
set_option linter.unusedVariables false
set_option linter.unusedSimpArgs false
open Go.RowKit
/-- append of what is read to what is ours. -/
theorem append_law {P : Program} (w : World) (t e : TypeId) (i : TypeInfo) (z : Value) (size bytes : Nat) (ht : P.underlying t = some (.slice e)) (hi : P.info? e = some i) (hz : i.zero = some z)
    (hsize : i.size = size) (hby : i.bytes = bytes) (hzs : z.cells.size = size) (hsz : 0 < size) {F G : Nat → Prop} {v x : Value} {n m : Nat} {xs news : List Value} (hown : Own w F e size v n xs) (hx : SeesIn w G size x m news)
    (h63 : n + m ≤ maxLen) (hbytes : (n + m) * bytes ≤ 140737488355328) (ty : TypeId) :
    ∃ v' w', (Builtin.append_ #[t, t] ty #[v, x]).run P w = .ok v' w' ∧ Own w' (fun q => v.ownBlock = some q ∨ (w.heap.size ≤ q ∧ q < w'.heap.size)) e size v' (n + m) (xs ++ news) ∧ w.grownBy w' v.ownBlock := by
  obtain ⟨A, c, rfl, h1, h2, h2', h3, h3', h4⟩ := hx
  have one : ∀ u ∈ xs ++ news, u.oneCell' = true := fun u hu => by
    rcases List.mem_append.1 hu with h | h
    · exact hown.2.2 u h
    · exact h3' u h
  cases A with
  | none =>
    obtain rfl := h2' rfl
    obtain rfl : m = 0 := by omega
    obtain rfl : news = [] := List.eq_nil_of_length_eq_zero (by simpa using h3)
    refine ⟨v, w, run_append_owned_none w 0 t ty e i size ht hi v n xs hown.1, ⟨by simpa using hown.1, fun g hg => .inl hg, one⟩, ⟨rfl, rfl, rfl, Nat.le_refl _, fun _ _ _ => rfl⟩⟩
  | some ad =>
    have hc : ∀ j u, news[j]? = some u → w.cell? (ad.add j) = some u := by
      intro j u hj
      have hm : 0 < m := by
        have := (List.getElem?_eq_some_iff.1 hj).1
        rcases Nat.eq_zero_or_pos m with c | c
        · rw [h3, c] at this; omega
        · exact c
      obtain ⟨g, o, e1, -, -, hcc⟩ := h4 hm
      obtain rfl := Option.some.inj e1
      rw [Addr.add_lit]; exact hcc j u hj
    obtain ⟨v', w', hr, h5, h6, h7, h8⟩ := run_append_own_at (P := P) w 0 t ty e i z size bytes ht hi hz hsize hby hzs hsz v n xs hown.1 ad m c news h3 hc h3' h63 hbytes (Nat.zero_le _)
    refine ⟨v', w', hr, ⟨h5, fun g hg => ?_, one⟩, h6⟩
    rcases h8 with c | c
    · exact .inl (by rw [← c]; exact hg)
    · rw [c] at hg
      obtain rfl := Option.some.inj hg
      exact .inr ⟨Nat.le_refl _, (h5.lt _ c).2⟩
/-- append of what is ours to what is ours. -/
theorem Has.append {P : Program} {w0 w : World} {L : List (Asrt w0.heap.size)} (H : Has w0 w L) {k j n m : Nat} {e : TypeId} {v x : Value} {xs news : List Value} {size : Nat} (hi : L[k]? = some (OwnA w0.heap.size e size v n xs)) {e' : TypeId} (hj : L[j]? = some (OwnA w0.heap.size e' size x m news)) (hkj : k ≠ j) (t : TypeId) (i : TypeInfo) (z : Value) (bytes : Nat) (ht : P.underlying t = some (.slice e)) (hi0 : P.info? e = some i) (hz : i.zero = some z)
    (hsize : i.size = size) (hby : i.bytes = bytes) (hzs : z.cells.size = size) (hsz : 0 < size) (h63 : n + m ≤ maxLen) (hbytes : (n + m) * bytes ≤ 140737488355328) (ty : TypeId) :
    ∃ A c w', (Builtin.append_ #[t, t] ty #[v, x]).run P w = .ok (.slice A (n + m) c) w' ∧ n + m ≤ c ∧ c ≤ 9223372036854775807 ∧ Has w0 w' (L.set k (OwnA w0.heap.size e size (.slice A (n + m) c) (n + m) (xs ++ news))) := by
  obtain ⟨F, G, ho, hx, hF, hG, hd, hback⟩ := H.two hi hj hkj
  have ho' : Own w F e size v n xs := ho
  have hx' : Own w G e' size x m news := hx
  obtain ⟨v', w', hr, hown, hg⟩ := append_law w t e i z size bytes ht hi0 hz hsize hby hzs hsz ho' hx'.sees h63 hbytes ty
  obtain ⟨A, c, rfl, h1, h2⟩ := hown.len
  refine ⟨A, c, w', hr, h1, by unfold maxLen at h2; omega, hback w' _ ((Keep.refl F w).grown hg (fun q hq => .inr (ho'.2.1 q hq))) (hown.move (fun q hq _ => ⟨?_, rfl⟩))⟩
  rcases hq with c | c
  · exact .inl (ho'.2.1 q c)
  · exact .inr c
end Go.Proofs.Ytienodnkfohakaa
