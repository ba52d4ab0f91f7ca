import Derived.Test.YtbcjmgocdplfnaaMapL
import Derived.Maps.RangeRun
namespace Go.Proofs.Ytbcjmgocdplfnaa
set_option linter.unusedVariables false
set_option linter.unusedSimpArgs false
open Go.RowKit

/-! A range over a map of int keys, by its entries. -/
structure EGood (es : List (Int × Value × Nat)) (clock : Nat) : Prop where
  once : (es.map (·.2.2)).Nodup
  old : ∀ p ∈ es, p.2.2 < clock
def toE (k : IntKind) (p : Int × Value × Nat) : MapEntry := ⟨.int k p.1, p.2.1, p.2.2⟩
theorem ents_list (k : IntKind) (es : List (Int × Value × Nat)) : (ents k es).toList = es.map (toE k) := by simp [ents, toE]
theorem EGood.put {es : List (Int × Value × Nat)} {clock : Nat} (h : EGood es clock) (key : Int) (v : Value) : EGood (eput es clock key v).1 (eput es clock key v).2 := by
  unfold eput
  split
  · rename_i j hj
    have hm : (es.modify j fun p => (p.1, v, p.2.2)).map (·.2.2) = es.map (·.2.2) := by
      apply List.ext_getElem?
      intro i
      simp only [List.getElem?_map, List.getElem?_modify]
      by_cases e : j = i
      · subst e; cases es[j]? <;> simp
      · simp [e]
    refine ⟨by rw [hm]; exact h.once, fun p hp => ?_⟩
    have : p.2.2 ∈ es.map (·.2.2) := by rw [← hm]; exact List.mem_map_of_mem hp
    obtain ⟨q, hq, e⟩ := List.mem_map.1 this
    rw [← e]; exact h.old q hq
  · refine ⟨?_, fun p hp => ?_⟩
    · rw [List.map_append, List.nodup_append]
      refine ⟨h.once, by simp, ?_⟩
      intro a ha b hb
      obtain ⟨q, hq, rfl⟩ := List.mem_map.1 ha
      simp only [List.map_cons, List.map_nil, List.mem_singleton] at hb
      subst hb
      have := h.old q hq
      omega
    · rcases List.mem_append.1 hp with hp | hp
      · have := h.old p hp; simp only; omega
      · simp only [List.mem_singleton] at hp; subst hp; simp
theorem EGood.erase {es : List (Int × Value × Nat)} {clock : Nat} (h : EGood es clock) (j : Nat) : EGood (es.eraseIdx j) clock :=
  ⟨by rw [← erase_map]; exact h.once.sublist (List.eraseIdx_sublist _ _), fun p hp => h.old p ((List.eraseIdx_sublist _ _).subset hp)⟩
theorem nodup_len : ∀ (l m : List Nat), l.Nodup → (∀ x ∈ l, x ∈ m) → l.length ≤ m.length
  | [], m, _, _ => Nat.zero_le _
  | x :: l, m, hn, hs => by
    rw [List.nodup_cons] at hn
    have hx := hs x (List.mem_cons_self ..)
    have := nodup_len l (m.erase x) hn.2 (fun y hy => (List.mem_erase_of_ne (fun e : y = x => hn.1 (by rw [← e]; exact hy))).2 (hs y (List.mem_cons_of_mem _ hy)))
    rw [List.length_erase_of_mem hx] at this
    have hp := List.length_pos_of_mem hx
    rw [List.length_cons]
    omega
def leftE (es : List (Int × Value × Nat)) (seen : List Nat) : List (Int × Value × Nat) := es.filter fun p => !seen.contains p.2.2
theorem leftOf_ents (k : IntKind) (es : List (Int × Value × Nat)) (seen : List Nat) : (leftOf (ents k es) seen.toArray).toList = (leftE es seen).map (toE k) := by
  unfold leftOf leftE
  rw [Array.toList_filter, ents_list, List.filter_map]
  congr 1
  refine List.filter_congr (fun p _ => ?_)
  by_cases hm : p.2.2 ∈ seen <;> simp [toE, hm]
/-- An iterator in block r, over the map of block b: what has come so far. -/
structure ItR (w : World) (r b : Nat) (k : IntKind) (es : List (Int × Value × Nat)) (clock : Nat) (come : List (Int × Value × Nat)) : Prop where
  it : ∃ c0, clock ≤ c0 ∧ w.heap[r]? = some (.mapIter (some b) clock (come.map (·.2.2)).toArray c0)
  map : w.heap[b]? = some (.map (ents k es) clock)
  once : (come.map (·.2.2)).Nodup
  sub : ∀ p ∈ come, p ∈ es
section
variable {P : Program} {w : World} {r b clock : Nat} {k : IntKind} {es come : List (Int × Value × Nat)}
theorem ItR.moved {w' : World} (h : ItR w r b k es clock come) (hr : w'.heap[r]? = w.heap[r]?) (hb : w'.heap[b]? = w.heap[b]?) : ItR w' r b k es clock come := by
  obtain ⟨c0, h1, h2⟩ := h.it
  exact ⟨⟨c0, h1, hr.trans h2⟩, hb.trans h.map, h.once, h.sub⟩
theorem ItR.start (t : TypeId) (kt e : TypeId) (ht : P.underlying t = some (.map kt e)) (hb : w.heap[b]? = some (.map (ents k es) clock)) :
    (Instr.range t (.map (some b))).run P w = .ok (.pointer (some ⟨w.heap.size, 0, none⟩)) (w.alloc (.mapIter (some b) clock #[] clock)) ∧ ItR (w.alloc (.mapIter (some b) clock #[] clock)) w.heap.size b k es clock [] :=
  ⟨run_range_map w t kt e b _ clock ht hb, ⟨clock, Nat.le_refl _, heap_alloc_new _ _⟩, (Below.heap_alloc _ _ _ (lt_of_block hb)).trans hb, by simp, fun p h => by simp at h⟩
/-- All that there is has come. -/
theorem ItR.all (h : ItR w r b k es clock come) (hg : EGood es clock) (hl : leftE es (come.map (·.2.2)) = []) : come.Perm es := by
  have n1 : come.Nodup := by
    have := h.once
    rw [List.Nodup, List.pairwise_map] at this
    exact this.imp (fun hne e => hne (by rw [e]))
  have n2 : es.Nodup := by
    have := hg.once
    rw [List.Nodup, List.pairwise_map] at this
    exact this.imp (fun hne e => hne (by rw [e]))
  refine (List.perm_ext_iff_of_nodup n1 n2).2 (fun p => ⟨h.sub p, fun hp => ?_⟩)
  have h1 : p ∉ leftE es (come.map (·.2.2)) := by rw [hl]; simp
  unfold leftE at h1
  rw [List.mem_filter] at h1
  have h2 : (come.map (·.2.2)).contains p.2.2 = true := by
    cases hc : (come.map (·.2.2)).contains p.2.2 with
    | true => rfl
    | false => exact absurd ⟨hp, by rw [hc]; rfl⟩ h1
  rw [List.contains_iff_mem] at h2
  obtain ⟨q, hq, e⟩ := List.mem_map.1 h2
  have hqe := h.sub q hq
  -- stamps are unlike
  have : q = p := by
    obtain ⟨i, hi⟩ := List.mem_iff_getElem?.1 hqe
    obtain ⟨j, hj⟩ := List.mem_iff_getElem?.1 hp
    have a1 : (es.map (·.2.2))[i]? = some q.2.2 := by rw [List.getElem?_map, hi]; rfl
    have a2 : (es.map (·.2.2))[j]? = some q.2.2 := by rw [List.getElem?_map, hj, e]; rfl
    have hij : i = j := (List.getElem?_inj (List.getElem?_eq_some_iff.1 a1).1 hg.once).1 (a1.trans a2.symm)
    rw [hij, hj] at hi
    exact (Option.some.inj hi).symm
  rw [← this]; exact hq
theorem ItR.next (h : ItR w r b k es clock come) (hg : EGood es clock) (hrb : r ≠ b) (ty : TypeId) :
    (come.Perm es ∧ (Instr.next (.pointer (some ⟨r, 0, none⟩)) false ty).run P w = .ok (.tuple #[.bool false]) w) ∨
    ∃ p ∈ es, ∃ w1 : World, (w1 = w ∨ w1 = w.drew) ∧ (Instr.next (.pointer (some ⟨r, 0, none⟩)) false ty).run P w = .ok (.tuple #[.bool true, .int k p.1, p.2.1]) (putObj w1 r (.mapIter (some b) clock ((come ++ [p]).map (·.2.2)).toArray clock)) ∧
      ItR (putObj w1 r (.mapIter (some b) clock ((come ++ [p]).map (·.2.2)).toArray clock)) r b k es clock (come ++ [p]) ∧ come.length < es.length ∧
      (Instr.entry (.pointer (some ⟨r, 0, none⟩))).run P (putObj w1 r (.mapIter (some b) clock ((come ++ [p]).map (·.2.2)).toArray clock)) = .ok (.tuple #[.int k p.1, p.2.1]) (putObj w1 r (.mapIter (some b) clock ((come ++ [p]).map (·.2.2)).toArray clock)) := by
  obtain ⟨c0, hc, hr⟩ := h.it
  have hold : ∀ x ∈ (ents k es).toList, x.born < clock := fun x hx => by
    rw [ents_list] at hx
    obtain ⟨p, hp, rfl⟩ := List.mem_map.1 hx
    exact hg.old p hp
  rcases run_next_at (P := P) w ty r b clock c0 _ (ents k es) clock hr h.map hold hc with ⟨h0, hrun⟩ | ⟨e, he, w1, hw1, hrun⟩
  · left
    refine ⟨h.all hg ?_, hrun⟩
    have := leftOf_ents k es (come.map (·.2.2))
    have hz : (leftOf (ents k es) (come.map (·.2.2)).toArray).toList = [] := List.eq_nil_of_length_eq_zero (by rw [Array.length_toList]; exact h0)
    rw [hz] at this
    exact List.map_eq_nil_iff.1 this.symm
  · right
    rw [leftOf_ents] at he
    obtain ⟨p, hp, rfl⟩ := List.mem_map.1 he
    unfold leftE at hp
    rw [List.mem_filter] at hp
    obtain ⟨hpe, hpn⟩ := hp
    have hpn' : p.2.2 ∉ come.map (·.2.2) := by
      intro c
      rw [← List.contains_iff_mem] at c
      rw [c] at hpn
      cases hpn
    have hse : (come.map (·.2.2)).toArray.push (toE k p).born = ((come ++ [p]).map (·.2.2)).toArray := by simp [toE]
    rw [hse] at hrun
    have hrl : r < w1.heap.size := by rcases hw1 with rfl | rfl <;> exact lt_of_block hr
    have hb1 : w1.heap[b]? = some (.map (ents k es) clock) := by rcases hw1 with rfl | rfl <;> exact h.map
    have hr1 : w1.heap[r]? = some (.mapIter (some b) clock (come.map (·.2.2)).toArray c0) := by rcases hw1 with rfl | rfl <;> exact hr
    have hi : ItR (putObj w1 r (.mapIter (some b) clock ((come ++ [p]).map (·.2.2)).toArray clock)) r b k es clock (come ++ [p]) := by
      refine ⟨⟨clock, Nat.le_refl _, putObj_here _ _ _ _ hr1⟩, (putObj_there _ _ _ _ (fun c => hrb c.symm)).trans hb1, ?_, fun q hq => ?_⟩
      · rw [List.map_append, List.nodup_append]
        refine ⟨h.once, by simp, ?_⟩
        intro a ha c hc e
        simp only [List.map_cons, List.map_nil, List.mem_singleton] at hc
        subst hc
        exact hpn' (e ▸ ha)
      · rcases List.mem_append.1 hq with hq | hq
        · exact h.sub q hq
        · simp only [List.mem_singleton] at hq; subst hq; exact hpe
    refine ⟨p, hpe, w1, hw1, hrun, hi, ?_, ?_⟩
    · -- fewer have come than there are
      have hn : ((come ++ [p]).map (·.2.2)).Nodup := hi.once
      have hs : (come ++ [p]).length ≤ es.length := by
        have := nodup_len _ (es.map (·.2.2)) hn (fun x hx => by obtain ⟨q, hq, rfl⟩ := List.mem_map.1 hx; exact List.mem_map_of_mem (hi.sub q hq))
        simpa using this
      rw [List.length_append, List.length_singleton] at hs
      omega
    · obtain ⟨c1, -, hr2⟩ := hi.it
      have := run_entry_at (P := P) (putObj w1 r (.mapIter (some b) clock ((come ++ [p]).map (·.2.2)).toArray clock)) r b clock (come.map (·.2.2)).toArray (ents k es) clock (toE k p) (by rw [hse]; exact putObj_here _ _ _ _ hr1) hi.map (by rw [ents_list]; exact List.mem_map_of_mem hpe) (by rw [ents_list, List.map_map]; exact hg.once)
      exact this
end
end Go.Proofs.Ytbcjmgocdplfnaa
