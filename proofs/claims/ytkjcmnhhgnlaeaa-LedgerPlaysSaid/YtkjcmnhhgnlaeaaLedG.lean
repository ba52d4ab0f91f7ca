import Derived.Test.YtkjcmnhhgnlaeaaLed10
namespace Go.Proofs.Ytkjcmnhhgnlaeaa
set_option linter.unusedVariables false
set_option linter.unusedSimpArgs false
open Go.RowKit

theorem sidx_cons (p : Int × List Rw) (s : LS) (id : Int) : sidx (p :: s) id = if p.1 = id then some 0 else (sidx s id).map (· + 1) := by
  unfold sidx
  rw [List.findIdx?_cons]
  by_cases h : p.1 = id
  · simp [h]
  · simp [h]
theorem get_nil (id : Int) : LS.get [] id = none := rfl
theorem get_cons (p : Int × List Rw) (s : LS) (id : Int) : LS.get (p :: s) id = if p.1 = id then some p.2 else s.get id := by
  unfold LS.get
  rw [sidx_cons]
  by_cases h : p.1 = id
  · simp [h]
  · rw [if_neg h, if_neg h]
    cases sidx s id <;> simp
theorem get_snoc (s : LS) (id : Int) (X : List Rw) (id' : Int) (h : s.get id = none) : LS.get (s ++ [(id, X)]) id' = if id' = id then some X else s.get id' := by
  induction s with
  | nil => rw [List.nil_append, get_cons, get_nil]; simp only [eq_comm]
  | cons p s ih =>
    rw [get_cons] at h
    split at h
    · simp at h
    · rename_i hp
      rw [List.cons_append, get_cons, get_cons, ih h]
      by_cases e : p.1 = id'
      · rw [if_pos e, if_neg (fun c => hp (e.trans c)), if_pos e]
      · rw [if_neg e, if_neg e]
theorem get_set (s : LS) (id : Int) (X : List Rw) (id' : Int) : ∀ j, sidx s id = some j → LS.get (s.set j (id, X)) id' = if id' = id then some X else s.get id' := by
  induction s with
  | nil => intro j h; simp [sidx] at h
  | cons p s ih =>
    intro j h
    rw [sidx_cons] at h
    split at h
    · rename_i hp
      simp only [Option.some.injEq] at h
      subst h
      rw [List.set_cons_zero, get_cons, get_cons]
      by_cases e : id' = id
      · rw [if_pos e.symm, if_pos e]
      · rw [if_neg (fun c => e c.symm), if_neg e, if_neg (fun c => e (c.symm.trans hp))]
    · rename_i hp
      cases hj : sidx s id with
      | none => simp [hj] at h
      | some q =>
        simp only [hj, Option.map_some, Option.some.injEq] at h
        subst h
        rw [List.set_cons_succ, get_cons, get_cons, ih q hj]
        by_cases e : p.1 = id'
        · rw [if_pos e, if_neg (fun c => hp (e.trans c)), if_pos e]
        · rw [if_neg e, if_neg e]
theorem get_notin (s : LS) (id : Int) (h : id ∉ s.map (·.1)) : s.get id = none := by
  induction s with
  | nil => rfl
  | cons p s ih =>
    simp only [List.map_cons, List.mem_cons, not_or] at h
    rw [get_cons, if_neg (fun c => h.1 c.symm), ih h.2]
theorem get_erase (s : LS) (id : Int) (id' : Int) (hn : (s.map (·.1)).Nodup) : ∀ j, sidx s id = some j → LS.get (s.eraseIdx j) id' = if id' = id then none else s.get id' := by
  induction s with
  | nil => intro j h; simp [sidx] at h
  | cons p s ih =>
    intro j h
    simp only [List.map_cons, List.nodup_cons] at hn
    rw [sidx_cons] at h
    split at h
    · rename_i hp
      simp only [Option.some.injEq] at h
      subst h
      rw [List.eraseIdx_cons_zero, get_cons]
      by_cases e : id' = id
      · rw [if_pos e, get_notin]; rw [e, ← hp]; exact hn.1
      · rw [if_neg e, if_neg (fun c => e (c.symm.trans hp))]
    · rename_i hp
      cases hj : sidx s id with
      | none => simp [hj] at h
      | some q =>
        simp only [hj, Option.map_some, Option.some.injEq] at h
        subst h
        rw [List.eraseIdx_cons_succ, get_cons, get_cons, ih hn.2 q hj]
        by_cases e : p.1 = id'
        · rw [if_pos e, if_neg (fun c => hp (e.trans c)), if_pos e]
        · rw [if_neg e, if_neg e]
theorem get_some {s : LS} {id : Int} {j : Nat} (h : sidx s id = some j) : ∃ rs, s[j]? = some (id, rs) ∧ s.get id = some rs := by
  obtain ⟨rs, hrs⟩ := sidx_some h
  exact ⟨rs, hrs, by simp [LS.get, h, hrs]⟩
theorem get_none {s : LS} {id : Int} (h : sidx s id = none) : s.get id = none := by simp [LS.get, h]

/-! What becomes of one order. -/
abbrev OR := Option (List Rw)
def turnR (o : OR) (item qty : Int) (k : Nat) : OR × Int :=
  match o with
  | none => (none, 6)
  | some rs => match rs.findIdx? (fun r => r.item == item) with
    | none => (some rs, 11)
    | some i => match rs[i]? with
      | none => (some rs, 11)
      | some r => if qty < 1 ∨ 9999 < qty then (some rs, 10) else if (r.add k qty).right = true then (some (rs.set i (r.add k qty)), 0) else (some rs, 10)
def openR (o : OR) (ls : List Ln) : OR × Int := if rightE ls ≠ 0 then (o, rightE ls) else if o.isSome = true then (o, 8) else (some (ls.map row0), 0)
def dropR (o : OR) : OR × Int := match o with | none => (none, 6) | some _ => (none, 0)
theorem get_same (s : LS) (id id' : Int) : s.get id' = if id' = id then s.get id else s.get id' := by
  by_cases e : id' = id
  · rw [if_pos e, e]
  · rw [if_neg e]
theorem turn_get (s : LS) (id item qty : Int) (k : Nat) : (s.turn id item qty k).2 = (turnR (s.get id) item qty k).2 ∧ ∀ id', (s.turn id item qty k).1.get id' = if id' = id then (turnR (s.get id) item qty k).1 else s.get id' := by
  have same := get_same s id
  cases hj : sidx s id with
  | none => rw [get_none hj] at same ⊢; simp only [LS.turn, hj, turnR]; exact ⟨trivial, same⟩
  | some j =>
    obtain ⟨rs, hrs, hg⟩ := get_some hj
    rw [hg] at same ⊢
    simp only [LS.turn, hj, hrs, turnR]
    cases hi : rs.findIdx? (fun r => r.item == item) with
    | none => simp only; exact ⟨trivial, same⟩
    | some i =>
      simp only
      cases hr : rs[i]? with
      | none => simp only; exact ⟨trivial, same⟩
      | some r =>
        simp only
        split
        · exact ⟨rfl, same⟩
        · split
          · exact ⟨rfl, fun id' => get_set s id _ id' j hj⟩
          · exact ⟨rfl, same⟩
theorem openUp_get (s : LS) (id : Int) (ls : List Ln) : (s.openUp id ls).2 = (openR (s.get id) ls).2 ∧ ∀ id', (s.openUp id ls).1.get id' = if id' = id then (openR (s.get id) ls).1 else s.get id' := by
  have same := get_same s id
  unfold LS.openUp openR
  split
  · exact ⟨rfl, same⟩
  · cases hg : s.get id with
    | none => simp only [Option.isSome_none, Bool.false_eq_true, if_false, true_and]; exact fun id' => get_snoc s id _ id' hg
    | some rs => rw [hg] at same; simp only [Option.isSome_some, if_true, true_and]; exact same
theorem drop_get (s : LS) (hs : s.good) (id : Int) : (s.drop id).2 = (dropR (s.get id)).2 ∧ ∀ id', (s.drop id).1.get id' = if id' = id then (dropR (s.get id)).1 else s.get id' := by
  unfold LS.drop
  cases hj : sidx s id with
  | none =>
    rw [get_none hj]
    refine ⟨rfl, fun id' => ?_⟩
    by_cases e : id' = id
    · rw [if_pos e, e]; exact get_none hj
    · rw [if_neg e]
  | some j =>
    obtain ⟨rs, hrs, hg⟩ := get_some hj
    rw [hg]
    exact ⟨rfl, fun id' => get_erase s id id' hs.once j hj⟩
def St.key (y : St) : Int := if y.kind = 1 then y.o_id else y.id
def St.act (y : St) (o : OR) : OR × Int :=
  if y.kind = 1 then openR o (y.o_lines.take 12) else if y.kind = 2 ∨ y.kind = 3 then turnR o y.item y.qty 1 else if y.kind = 4 then turnR o y.item y.qty 2 else if y.kind = 5 ∨ y.kind = 6 then turnR o y.item y.qty 3 else if y.kind = 7 then dropR o else (o, 0)
theorem step_get (s : LS) (hs : s.good) (y : St) : (s.step y).2 = (y.act (s.get y.key)).2 ∧ ∀ id', (s.step y).1.get id' = if id' = y.key then (y.act (s.get y.key)).1 else s.get id' := by
  have same := get_same s
  unfold LS.step LS.does St.act St.key
  by_cases h1 : y.kind = 1
  · rw [if_pos h1, if_pos h1, if_pos h1]; exact openUp_get _ _ _
  · rw [if_neg h1, if_neg h1, if_neg h1]
    split
    · exact turn_get _ _ _ _ _
    · split
      · exact turn_get _ _ _ _ _
      · split
        · exact turn_get _ _ _ _ _
        · split
          · exact drop_get _ hs _
          · exact ⟨rfl, same _⟩
/-- What is refused changes nothing. -/
theorem turn_refused (s : LS) (id item qty : Int) (k : Nat) : (s.turn id item qty k).2 = 0 ∨ (s.turn id item qty k).1 = s := by
  unfold LS.turn
  repeat' split
  all_goals first | exact .inr rfl | exact .inl rfl
theorem openUp_refused (s : LS) (id : Int) (ls : List Ln) : (s.openUp id ls).2 = 0 ∨ (s.openUp id ls).1 = s := by
  unfold LS.openUp
  repeat' split
  all_goals first | exact .inr rfl | exact .inl rfl
theorem drop_refused (s : LS) (id : Int) : (s.drop id).2 = 0 ∨ (s.drop id).1 = s := by
  unfold LS.drop
  repeat' split
  all_goals first | exact .inr rfl | exact .inl rfl
theorem step_refused (s : LS) (y : St) : (s.step y).2 = 0 ∨ (s.step y).1 = s := by
  unfold LS.step LS.does
  repeat' split
  all_goals first | exact openUp_refused _ _ _ | exact turn_refused _ _ _ _ _ | exact drop_refused _ _ | exact .inr rfl
end Go.Proofs.Ytkjcmnhhgnlaeaa
