import Derived.Test.YtbcjmgocdplfnaaPlcV
namespace Go.Proofs.Ytbcjmgocdplfnaa
set_option linter.unusedVariables false
set_option linter.unusedSimpArgs false
open Go.RowKit
/-! Rows that rise. -/
theorem sub_sorted : ∀ (m l : List Int), l.Pairwise (· < ·) → m.Pairwise (· < ·) → (∀ x ∈ l, x ∈ m) → l.Sublist m := by
  intro m
  induction m with
  | nil =>
    intro l _ _ h
    cases l with
    | nil => exact List.Sublist.slnil
    | cons x l => exact absurd (h x (List.mem_cons_self ..)) (by simp)
  | cons y m ih =>
    intro l hl hm h
    cases l with
    | nil => exact List.nil_sublist _
    | cons x l =>
      rw [List.pairwise_cons] at hl hm
      by_cases e : x = y
      · subst e
        refine List.Sublist.cons_cons x (ih l hl.2 hm.2 (fun z hz => ?_))
        rcases List.mem_cons.1 (h z (List.mem_cons_of_mem _ hz)) with c | c
        · have := hl.1 z hz; omega
        · exact c
      · have hx : x ∈ m := (List.mem_cons.1 (h x (List.mem_cons_self ..))).resolve_left e
        have hyx := hm.1 x hx
        refine List.Sublist.cons y (ih (x :: l) (List.pairwise_cons.2 hl) hm.2 (fun z hz => ?_))
        rcases List.mem_cons.1 (h z hz) with c | c
        · subst c
          rcases List.mem_cons.1 hz with c2 | c2
          · exact absurd c2.symm e
          · have := hl.1 z c2; omega
        · exact c
theorem eq_sorted {l m : List Int} (hl : l.Pairwise (· < ·)) (hm : m.Pairwise (· < ·)) (h : ∀ x, x ∈ l ↔ x ∈ m) : l = m :=
  (sub_sorted m l hl hm (fun x hx => (h x).1 hx)).eq_of_length_le (sub_sorted l m hm hl (fun x hx => (h x).2 hx)).length_le
theorem PS.locs_sorted {s : PS} (h : s.ok) : s.locs.Pairwise (· < ·) := by
  have h1 : s.locs.Pairwise fun x y => decide (x ≤ y) = true := List.pairwise_mergeSort (fun a b c h1 h2 => by simp only [decide_eq_true_eq] at *; omega) (fun a b => by simp only [Bool.or_eq_true, decide_eq_true_eq]; omega) _
  have h2 : s.locs.Nodup := by
    unfold PS.locs
    rw [(List.mergeSort_perm _ _).nodup_iff]
    exact h.keys
  refine (h1.and h2).imp (fun {a b} hab => ?_)
  have := of_decide_eq_true hab.1
  have := hab.2
  omega
theorem PS.locs_len (s : PS) : s.locs.length = s.by_.length := by unfold PS.locs; rw [List.length_mergeSort, List.length_map]
theorem PS.spares_sorted (s : PS) : s.spares.Pairwise (· < ·) := by
  unfold PS.spares
  rw [List.pairwise_map]
  refine List.Pairwise.imp (fun {a b} h => by exact_mod_cast h) ((List.pairwise_lt_range).sublist List.filter_sublist)
theorem fail_keys (s : PS) (a : Int) : (s.fail a).1.by_.map (·.1) = s.by_.map (·.1) := by
  unfold PS.fail
  repeat' split
  all_goals first
    | rfl
    | (rw [List.map_map]
       apply List.map_congr_left
       intro q hq
       simp only [Function.comp_apply]
       split <;> rfl)
theorem fail_locs (s : PS) (a : Int) : (s.fail a).1.locs = s.locs := by unfold PS.locs; rw [fail_keys]
theorem bring_locs (s : PS) (a : Int) : (s.bring a).1.locs = s.locs := by
  unfold PS.bring
  repeat' split
  all_goals rfl
theorem map_locs {s : PS} (h : s.ok) (loc a : Int) (hl : 0 ≤ loc) : s.locs.Sublist (s.map loc a).1.locs ∧ (s.map loc a).1.locs.length ≤ s.locs.length + 1 := by
  have hok := PS.ok_map h loc a hl
  have hm : (s.map loc a).1.by_ = s.by_ ∨ (s.map loc a).1.by_ = s.by_ ++ [(loc, a)] := by
    unfold PS.map
    repeat' split
    all_goals first | exact .inl rfl | exact .inr rfl
  refine ⟨sub_sorted _ _ (PS.locs_sorted h) (PS.locs_sorted hok) (fun x hx => ?_), ?_⟩
  · obtain ⟨b, hb⟩ := PS.mem_locs.1 hx
    rw [PS.mem_locs]
    refine ⟨b, ?_⟩
    rcases hm with e | e <;> rw [e]
    · exact hb
    · exact List.mem_append_left _ hb
  · rw [PS.locs_len, PS.locs_len]
    rcases hm with e | e <;> rw [e] <;> simp
/-- One step further through a longer row. -/
theorem sub_step {l m : List Int} {k j : Nat} {y : Int} (h : (l.drop k).Sublist (m.drop j)) (hy : m[j]? = some y) : (k < l.length → ∀ x, l[k]? = some x → if x = y then (l.drop (k + 1)).Sublist (m.drop (j + 1)) else (l.drop k).Sublist (m.drop (j + 1))) ∧ (¬ k < l.length → (l.drop k).Sublist (m.drop (j + 1))) := by
  obtain ⟨hj, hy'⟩ := List.getElem?_eq_some_iff.1 hy
  rw [List.drop_eq_getElem_cons hj, hy'] at h
  constructor
  · intro hk x hx
    obtain ⟨hk', hx'⟩ := List.getElem?_eq_some_iff.1 hx
    rw [List.drop_eq_getElem_cons hk, hx'] at h
    split
    · rename_i e
      subst e
      exact List.cons_sublist_cons.1 h
    · rename_i e
      rw [List.drop_eq_getElem_cons hk, hx']
      cases h with
      | cons _ h => exact h
      | cons_cons _ h => exact absurd rfl e
  · intro hk
    rw [List.drop_eq_nil_of_le (by omega)]
    exact List.nil_sublist _
theorem sub_end {l m : List Int} {k : Nat} (hk : k ≤ l.length) (h : (l.drop k).Sublist (m.drop m.length)) : k = l.length := by
  rw [List.drop_length, List.sublist_nil] at h
  have := List.drop_eq_nil_iff.1 h
  omega
/-- Who is seen: those that show the first j locations. -/
def seenTo (s : PS) (j : Nat) : Nat → Value := fun x => .bool (decide (∃ l ∈ s.locs.take j, s.at? l = some (x : Int)))
def seenSp (s : PS) (j : Nat) : Nat → Value := fun x => .bool (decide ((∃ l ∈ s.locs, s.at? l = some (x : Int)) ∨ (x : Int) ∈ s.spares.take j))
theorem seenTo_zero (s : PS) : seenTo s 0 = fun _ => .bool false := by funext x; simp [seenTo]
theorem seenTo_succ (s : PS) {j : Nat} {l : Int} {a : Nat} (hl : s.locs[j]? = some l) (ha : s.at? l = some (a : Int)) : seenTo s (j + 1) = updv (seenTo s j) a (.bool true) := by
  funext x
  unfold seenTo updv
  rw [List.take_add_one, hl]
  by_cases e : x = a
  · subst e
    rw [if_pos rfl]
    congr 1
    exact decide_eq_true ⟨l, by simp, ha⟩
  · rw [if_neg e]
    congr 2
    apply propext
    constructor
    · rintro ⟨l', hl', ha'⟩
      rcases List.mem_append.1 hl' with c | c
      · exact ⟨l', c, ha'⟩
      · simp only [Option.toList_some, List.mem_singleton] at c
        subst c
        rw [ha] at ha'
        simp only [Option.some.injEq] at ha'
        omega
    · rintro ⟨l', hl', ha'⟩
      exact ⟨l', List.mem_append_left _ hl', ha'⟩
theorem seenTo_not {s : PS} (h : s.ok) {j : Nat} {l : Int} {a : Nat} (hl : s.locs[j]? = some l) (ha : s.at? l = some (a : Int)) : seenTo s j a = .bool false := by
  unfold seenTo
  congr 1
  refine decide_eq_false ?_
  rintro ⟨l', hl', ha'⟩
  have h1 := (PS.of_iff h).2 ((PS.at_iff h).1 ha)
  have h2 := (PS.of_iff h).2 ((PS.at_iff h).1 ha')
  rw [h1] at h2
  simp only [Option.some.injEq] at h2
  subst h2
  obtain ⟨i, hi, e⟩ := List.mem_take_iff_getElem.1 hl'
  obtain ⟨hj, e2⟩ := List.getElem?_eq_some_iff.1 hl
  have := (List.pairwise_iff_getElem.1 (PS.locs_sorted h)) i j (by omega) hj (by omega)
  omega
theorem seenTo_all (s : PS) : seenTo s s.locs.length = seenSp s 0 := by
  funext x
  unfold seenTo seenSp
  rw [List.take_length]
  simp
theorem seenSp_succ (s : PS) {j : Nat} {a : Nat} (ha : s.spares[j]? = some (a : Int)) : seenSp s (j + 1) = updv (seenSp s j) a (.bool true) := by
  funext x
  unfold seenSp updv
  rw [List.take_add_one, ha]
  by_cases e : x = a
  · subst e
    rw [if_pos rfl]
    congr 1
    exact decide_eq_true (.inr (by simp))
  · rw [if_neg e]
    congr 2
    apply propext
    simp only [Option.toList_some, List.mem_append, List.mem_singleton]
    have : ¬ (x : Int) = a := by omega
    simp [this]
theorem seenSp_not {s : PS} (h : s.ok) {j : Nat} {a : Nat} (ha : s.spares[j]? = some (a : Int)) : seenSp s j a = .bool false := by
  unfold seenSp
  congr 1
  refine decide_eq_false ?_
  rintro (⟨l', hl', ha'⟩ | c)
  · have h1 := (h.each _ ((PS.at_iff h).1 ha')).2.2
    have h2 := ((PS.mem_spares h).1 (List.mem_of_getElem? ha)).2
    rw [h2] at h1
    exact absurd h1 (by decide)
  · obtain ⟨i, hi, e⟩ := List.mem_take_iff_getElem.1 c
    obtain ⟨hj, e2⟩ := List.getElem?_eq_some_iff.1 ha
    have := (List.pairwise_iff_getElem.1 (PS.spares_sorted s)) i j (by omega) hj (by omega)
    rw [e, e2] at this
    exact absurd this (Int.lt_irrefl _)
end Go.Proofs.Ytbcjmgocdplfnaa
