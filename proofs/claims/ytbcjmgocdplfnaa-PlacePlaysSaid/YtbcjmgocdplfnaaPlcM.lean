import Derived.Test.YtbcjmgocdplfnaaPlcL
namespace Go.Proofs.Ytbcjmgocdplfnaa
set_option linter.unusedVariables false
set_option linter.unusedSimpArgs false
open Go.RowKit
theorem find_key (bs : List (Int × Int)) (hn : (bs.map (·.1)).Nodup) (b : Int × Int) (hb : b ∈ bs) : bs.find? (fun q => q.1 == b.1) = some b := by
  induction bs with
  | nil => simp at hb
  | cons c bs ih =>
    simp only [List.map_cons, List.nodup_cons] at hn
    rw [List.find?_cons]
    rcases List.mem_cons.1 hb with rfl | hb
    · simp
    · have : (c.1 == b.1) = false := by
        have : c.1 ≠ b.1 := fun e => hn.1 (by rw [e]; exact List.mem_map_of_mem (f := (·.1)) hb)
        simpa using this
      rw [this]
      exact ih hn.2 hb
theorem PS.at_iff {s : PS} (h : s.ok) {l a : Int} : s.at? l = some a ↔ (l, a) ∈ s.by_ := by
  constructor
  · intro e
    unfold PS.at? at e
    obtain ⟨q, hq, rfl⟩ := Option.map_eq_some_iff.1 e
    have := List.find?_some hq
    simp only [beq_iff_eq] at this
    subst this
    exact List.mem_of_find?_eq_some hq
  · intro hm
    unfold PS.at?
    rw [find_key s.by_ h.keys (l, a) hm]
    rfl
theorem PS.of_iff {s : PS} (h : s.ok) {l a : Int} : s.of? a = some l ↔ (l, a) ∈ s.by_ := by
  constructor
  · intro e
    unfold PS.of? at e
    obtain ⟨q, hq, rfl⟩ := Option.map_eq_some_iff.1 e
    have := List.find?_some hq
    simp only [beq_iff_eq] at this
    subst this
    exact List.mem_of_find?_eq_some hq
  · intro hm
    exact PS.of_some h hm
theorem PS.mem_locs {s : PS} {l : Int} : l ∈ s.locs ↔ ∃ a, (l, a) ∈ s.by_ := by
  unfold PS.locs
  rw [(List.mergeSort_perm _ _).mem_iff, List.mem_map]
  constructor
  · rintro ⟨⟨x, y⟩, hq, rfl⟩; exact ⟨y, hq⟩
  · rintro ⟨a, ha⟩; exact ⟨(l, a), ha, rfl⟩
theorem PS.at_none_iff {s : PS} {l : Int} : s.at? l = none ↔ l ∉ s.locs := by
  rw [PS.mem_locs]
  constructor
  · intro e
    rintro ⟨a, ha⟩
    exact PS.at_none e _ ha rfl
  · intro hn
    unfold PS.at?
    rw [Option.map_eq_none_iff, List.find?_eq_none]
    intro q hq e
    exact hn ⟨q.2, by have : q.1 = l := by simpa using e
                      rw [← this]; exact hq⟩
theorem PS.loc_range {s : PS} (h : s.ok) {l : Int} (hl : l ∈ s.locs) : 0 ≤ l ∧ l < 64 := by
  obtain ⟨a, ha⟩ := PS.mem_locs.1 hl
  exact (h.each _ ha).1
/-- What an address is, by who shows what. -/
theorem PS.of_is {s : PS} (h : s.ok) {l a : Int} (e : s.of? a = some l) : (1 ≤ a ∧ a ≤ 31) ∧ s.is a = 3 := by
  have := h.each _ ((PS.of_iff h).1 e)
  refine ⟨this.2.1, ?_⟩
  unfold PS.is
  rw [if_pos (known_iff.2 this.2.1)]
  exact this.2.2
theorem PS.of_isnt {s : PS} (h : s.ok) {a : Int} (e : s.of? a = none) : s.is a ≠ 3 := by
  intro h3
  obtain ⟨ha, hof⟩ := PS.is_pos (s := s) (a := a) (by omega)
  obtain ⟨q, hq, e2⟩ := h.back a.toNat (by omega)
  have : s.of? a = some q.1 := (PS.of_iff h).2 (by have : q.2 = a := by omega
                                                   rw [← this]; exact hq)
  rw [e] at this
  cases this
theorem PS.is_range {s : PS} (h : s.ok) (a : Int) : 0 ≤ s.is a ∧ s.is a ≤ 3 := by
  unfold PS.is
  split
  · exact h.kind _
  · omega
theorem fail_hidden {s : PS} (h : s.ok) {a : Int} (e : s.of? a = none) : (s.fail a).2.1 = 0 ∧ (s.fail a).2.2 ≠ 5 ∧ (s.fail a).1.by_ = s.by_ := by
  have h3 := PS.of_isnt h e
  have hr := PS.is_range h a
  unfold PS.fail
  split
  · exact ⟨rfl, by simp, rfl⟩
  · split
    · exact ⟨rfl, by simp, rfl⟩
    · split
      · exact ⟨rfl, by simp, rfl⟩
      · exact absurd (by omega) h3
theorem fail_full {s : PS} (h : s.ok) {a l : Int} (e : s.of? a = some l) (hs : s.spares = []) : s.fail a = (s, 0, 5) := by
  have h3 := (PS.of_is h e).2
  unfold PS.fail
  rw [if_neg (by omega), if_neg (by omega), if_neg (by omega), hs]
theorem fail_moves {s : PS} (h : s.ok) {a l l0 : Int} {ls : List Int} (e : s.of? a = some l) (hs : s.spares = l0 :: ls) : s.fail a = (⟨upd (upd s.of a.toNat 2) l0.toNat 3, s.by_.map fun q => if q.2 == a then (q.1, l0) else q⟩, l0, 0) := by
  have h3 := (PS.of_is h e).2
  unfold PS.fail
  rw [if_neg (by omega), if_neg (by omega), if_neg (by omega), hs]
theorem PS.spares_nodup (s : PS) : s.spares.Nodup := by
  unfold PS.spares
  rw [List.Nodup, List.pairwise_map]
  refine List.Pairwise.imp (fun {a b} hab e => hab (by exact_mod_cast e)) ((List.nodup_range).sublist List.filter_sublist)
theorem filter_head {l0 : Int} {ls : List Int} (hn : (l0 :: ls).Nodup) : (l0 :: ls).filter (fun x => x != l0) = ls := by
  rw [List.nodup_cons] at hn
  rw [List.filter_cons]
  simp only [bne_self_eq_false, Bool.false_eq_true, if_false]
  rw [List.filter_eq_self]
  intro x hx
  have : x ≠ l0 := fun e => hn.1 (by rw [← e]; exact hx)
  simpa using this
theorem fail_spares {s : PS} (h : s.ok) {a l l0 : Int} {ls : List Int} (e : s.of? a = some l) (hs : s.spares = l0 :: ls) : (s.fail a).1.spares = ls := by
  rw [fail_moves h e hs]
  have h3 := (PS.of_is h e)
  have hof : s.of a.toNat = 3 := by have := PS.is_pos (s := s) (a := a) (by omega); omega
  obtain ⟨hl0, hl1⟩ := (PS.mem_spares h (x := l0)).1 (by rw [hs]; simp)
  have hn := PS.spares_nodup s
  rw [hs] at hn
  rw [← filter_head hn, ← hs]
  unfold PS.spares
  rw [List.filter_map, List.filter_filter]
  congr 1
  apply List.filter_congr
  intro x hx
  simp only [upd, Function.comp_apply]
  by_cases e1 : x = l0.toNat
  · subst e1
    rw [if_pos rfl]
    have : ((l0.toNat : Nat) : Int) = l0 := by omega
    simp [this]
  · rw [if_neg e1]
    have hne : (((x : Nat) : Int) != l0) = true := by
      have : (x : Int) ≠ l0 := by omega
      simpa using this
    rw [hne]
    by_cases e2 : x = a.toNat
    · subst e2
      rw [if_pos rfl, hof]
      rfl
    · rw [if_neg e2]
      simp
theorem fail_at {s : PS} (h : s.ok) {a l l0 : Int} {ls : List Int} (e : s.of? a = some l) (hs : s.spares = l0 :: ls) (x : Int) : (s.fail a).1.at? x = if x = l then some l0 else s.at? x := by
  have hok' := PS.ok_fail h a
  have hm := (PS.of_iff h).1 e
  have hby : (s.fail a).1.by_ = s.by_.map fun q => if q.2 == a then (q.1, l0) else q := by rw [fail_moves h e hs]
  by_cases hx : x = l
  · subst hx
    rw [if_pos rfl, PS.at_iff hok', hby]
    exact List.mem_map.2 ⟨(x, a), hm, by simp⟩
  · rw [if_neg hx]
    cases ho : s.at? x with
    | none =>
      rw [PS.at_none_iff, PS.mem_locs, hby]
      rintro ⟨y, hy⟩
      obtain ⟨q, hq, e2⟩ := List.mem_map.1 hy
      have : q.1 = x := by
        by_cases c : q.2 = a
        · simp only [c, beq_self_eq_true, if_true] at e2; exact congrArg (·.1) e2
        · simp only [beq_iff_eq, c, if_false] at e2; rw [e2]
      exact PS.at_none ho q hq this
    | some y =>
      rw [PS.at_iff hok', hby]
      have hy := (PS.at_iff h).1 ho
      refine List.mem_map.2 ⟨(x, y), hy, ?_⟩
      have : y ≠ a := fun c => by
        subst c
        have h1 := (PS.of_iff h).2 hy
        rw [e] at h1
        simp only [Option.some.injEq] at h1
        exact hx h1.symm
      simp [this]
theorem PS.at_by {s s' : PS} (hb : s'.by_ = s.by_) (x : Int) : s'.at? x = s.at? x := by unfold PS.at?; rw [hb]
/-- Behind Fail: what Bring tells. -/
theorem bring_ok {s : PS} (h : s.ok) {a : Int} (e : (s.fail a).2.2 = 0) : ((s.fail a).1.bring a).2 = 0 := by
  have key : (s.fail a).1.is a = 2 := by
    unfold PS.fail at e ⊢
    split
    · rename_i h0; rw [if_pos h0] at e; simp at e
    · rename_i h0
      obtain ⟨ha, hof⟩ := PS.is_pos h0
      rw [if_neg h0] at e
      split
      · rename_i h2; exact h2
      · rename_i h2
        rw [if_neg h2] at e
        split
        · simp only [PS.is, upd]
          rw [if_pos (known_iff.2 ha), if_pos trivial]
        · rename_i h1
          rw [if_neg h1] at e
          cases hs : s.spares with
          | nil => rw [hs] at e; simp at e
          | cons l0 ls =>
            obtain ⟨hl0, hl1⟩ := (PS.mem_spares h (x := l0)).1 (by rw [hs]; simp)
            simp only [PS.is, upd]
            have hne : a.toNat ≠ l0.toNat := fun c => by rw [← c] at hl1; omega
            rw [if_pos (known_iff.2 ha), if_neg hne, if_pos trivial]
  unfold PS.bring
  rw [if_neg (by omega), if_pos key]
theorem bring_none {s : PS} {a : Int} (e : (s.fail a).2.2 = 6) : ((s.fail a).1.bring a).2 = 6 := by
  have key : s.is a = 0 := by
    unfold PS.fail at e
    by_cases h0 : s.is a = 0
    · exact h0
    · rw [if_neg h0] at e
      exfalso
      split at e
      · simp at e
      · split at e
        · simp at e
        · split at e <;> simp at e
  unfold PS.fail
  rw [if_pos key]
  unfold PS.bring
  rw [if_pos key]
end Go.Proofs.Ytbcjmgocdplfnaa
