import Derived.Test.YtienodnkfohakaaSched
import Derived.Test.YtienodnkfohakaaTab
import Derived.WalkKit
import Derived.Orders
import Derived.Lib.Hide
namespace Go.Proofs.Ytienodnkfohakaa
set_option linter.unusedVariables false
set_option linter.unusedSimpArgs false
open Go.Proofs.YtienodnkfohakaaW.PrintLast Go.RowKit

/-- A frame with some slots written: the newest first. -/
def Fr (a : Act) : List (Nat × Value) → Act
  | [] => a
  | (t, v) :: D => (Fr a D).put (some t) v
/-- What an operand is, by the slots that are known. -/
def rho (D : List (Nat × Value)) : Operand → Value
  | .tmp t => (D.lookup t).getD undef
  | .const v => v
  | .global g => .pointer (some ⟨g, 0, none⟩)
  | .func f => .func (.func f) #[] #[]
theorem rho_const (D : List (Nat × Value)) (v : Value) : rho D (.const v) = v := rfl
theorem rho_func (D : List (Nat × Value)) (f : FuncId) : rho D (.func f) = .func (.func f) #[] #[] := rfl
theorem rho_hit (D : List (Nat × Value)) (t : Nat) (v : Value) : rho ((t, v) :: D) (.tmp t) = v := by simp [rho, List.lookup]
theorem rho_miss (D : List (Nat × Value)) (s t : Nat) (v : Value) (h : t ≠ s) : rho ((s, v) :: D) (.tmp t) = rho D (.tmp t) := by
  have : (t == s) = false := by simpa using h
  simp [rho, List.lookup, this]
def coversB (n : Nat) (D : List (Nat × Value)) (o : Oper) : Bool :=
  (match o.op with | .select _ _ => false | _ => true) && o.op.operands.toList.all fun x => match x with | .tmp t => (D.lookup t).isSome && decide (t < n) | _ => true
def wantedD (ops : Array Oper) (n : Nat) (D : List (Nat × Value)) (o : Oper) : Option Bool :=
  match o.guard with
  | none => some true
  | some (j, b) => match (ops[j]?).bind (·.dst) with
    | some t => if t < n then match D.lookup t with
      | some (.bool c) => some (c == b)
      | some (.tuple _) => some false
      | _ => none else none
    | none => none

theorem Fr_size (a : Act) (D : List (Nat × Value)) : (Fr a D).tmps.size = a.tmps.size := by
  induction D with
  | nil => rfl
  | cons p D ih => obtain ⟨t, v⟩ := p; simp [Fr, Act.put, ih]
theorem Fr_get (a : Act) (D : List (Nat × Value)) {t : Nat} {v : Value} (h : D.lookup t = some v) (ht : t < a.tmps.size) : (Fr a D).tmps[t]? = some v := by
  induction D with
  | nil => simp [List.lookup] at h
  | cons p D ih =>
    obtain ⟨s, u⟩ := p
    by_cases e : t = s
    · subst e
      rw [List.lookup_cons_self] at h
      obtain rfl := Option.some.inj h
      simp [Fr, Act.put, Fr_size, ht]
    · have hb : (t == s) = false := by simpa using e
      rw [List.lookup_cons, hb] at h
      have := ih h
      simp only [Fr, Act.put]
      rw [Array.getElem?_setIfInBounds_ne (fun c => e c.symm)]
      exact this
theorem Fr_eval {n : Nat} {a : Act} {D : List (Nat × Value)} {o : Oper} (hn : a.tmps.size = n) (hc : coversB n D o = true) : execOp (Fr a D).eval o = execOp (rho D) o := by
  simp only [coversB, Bool.and_eq_true, List.all_eq_true] at hc
  obtain ⟨h1, h2⟩ := hc
  refine execOp_congr o (fun cs b e => by rw [e] at h1; simp at h1) (fun x hx => ?_)
  have := h2 x (Array.mem_toList_iff.2 hx)
  cases x with
  | tmp t =>
    simp only [Bool.and_eq_true, decide_eq_true_eq, Option.isSome_iff_exists] at this
    obtain ⟨⟨v, hv⟩, ht⟩ := this
    have hg := Fr_get a D hv (by rw [hn]; exact ht)
    simp [Act.eval, rho, hv, Array.getD_eq_getD_getElem?, hg]
  | const v => rfl
  | global g => rfl
  | func f => rfl
theorem Fr_wanted {n : Nat} {a : Act} {D : List (Nat × Value)} {ops : Array Oper} {o : Oper} {b : Bool} (hn : a.tmps.size = n) (hw : wantedD ops n D o = some b) : Region.wanted o (yielded ops (Fr a D).tmps) = b := by
  unfold wantedD at hw
  unfold Region.wanted
  cases hg : o.guard with
  | none => rw [hg] at hw; simpa using hw
  | some p =>
    obtain ⟨j, c⟩ := p
    rw [hg] at hw
    simp only at hw ⊢
    cases hd : (ops[j]?).bind (·.dst) with
    | none => rw [hd] at hw; simp at hw
    | some t =>
      rw [hd] at hw
      simp only at hw
      split at hw
      · rename_i ht
        cases hl : D.lookup t with
        | none => rw [hl] at hw; simp at hw
        | some v =>
          rw [hl] at hw
          have hge := Fr_get a D hl (by rw [hn]; exact ht)
          cases v with
          | bool d =>
            simp only [Option.some.injEq] at hw
            simp only [yielded, hd, Option.bind_some, hge]
            rw [← hw]
            cases d <;> cases c <;> rfl
          | tuple _ =>
            simp only [Option.some.injEq] at hw
            simp only [yielded, hd, Option.bind_some, hge]
            rw [← hw]
            rfl
          | _ => simp at hw
      · simp at hw

section
variable {P : Program} {ops : Array Oper} {Q : Exit → Act → World → Prop} {md : Region.Mode} {S : World → Prop} {ds : List Nat} {A : Act} {n : Nat} {D : List (Nat × Value)} {i : Nat} {r : List (Nat × Nat)} {oi : Oper} {w : World}

/-- A region by a schedule; of the frame only the slots of D are known. -/
theorem wp_sch2 {id : Nat} {a : Act} (n : Nat) (D : List (Nat × Value)) (sched : List (Nat × Nat)) (ds : List Nat) (S : World → Prop) (hm : P.follows .mixedOrders = true) (hn : (sched.length == ops.size) = true) (hc : schB .any ops ds sched (Array.replicate ops.size false) = true) (hQ : ∀ c (a : Act) d v w, Q (.panic c) (a.put d v) w → Q (.panic c) a w)
    (hS : S w.drew) (hz : a.tmps.size = n) (hD : Fr a D = a) (h : ∀ A : Act, A.tmps.size = n → Hid (A = a) → wpSch P ops Q S sched (Fr A D) w.drew) : (Code.region id ops true).wp P Q a w :=
  wp_sch sched ds S hm hn hc hQ hS (by have := h a hz (Lib.hid rfl); rw [hD] at this; exact this)

theorem s2_yield {t : Nat} {v : Value} (hA : A.tmps.size = n) (ho : ops[i]? = some oi) (hd : oi.dst = some t) (hw : wantedD ops n D oi = some true) (hc : coversB n D oi = true)
    (hy : ∀ W : World, S W → Sem.run P (execOp (rho D) oi) W = Result.ok (Next.value v) W) (h : wpSch P ops Q S r (Fr A ((t, v) :: D)) w) : wpSch P ops Q S ((0, i) :: r) (Fr A D) w :=
  ⟨oi, v, ho, .inl ⟨Fr_wanted hA hw, fun W hW => by rw [Fr_eval hA hc]; exact hy W hW⟩, by rw [hd]; exact h⟩
theorem s2_off {t : Nat} (hA : A.tmps.size = n) (ho : ops[i]? = some oi) (hd : oi.dst = some t) (hw : wantedD ops n D oi = some false) (h : wpSch P ops Q S r (Fr A ((t, undef) :: D)) w) : wpSch P ops Q S ((0, i) :: r) (Fr A D) w :=
  ⟨oi, undef, ho, .inr ⟨Fr_wanted hA hw, rfl⟩, by rw [hd]; exact h⟩
theorem s2_call {t : Nat} {f : FuncId} {args : Array Value} {R : Ending → World → Prop} (hA : A.tmps.size = n) (ho : ops[i]? = some oi) (hd : oi.dst = some t) (hw : wantedD ops n D oi = some true) (hc : coversB n D oi = true)
    (hx : (execOp (rho D) oi).run P w = .ok (.enter f args) w) (hcall : Calls P f args w R) (hR : ∀ e w', R e w' → ∃ v, e = .returned v ∧ S w' ∧ wpSch P ops Q S r (Fr A ((t, v) :: D)) w') : wpSch P ops Q S ((1, i) :: r) (Fr A D) w :=
  ⟨oi, ho, fun K hK => by
    rw [if_pos (Fr_wanted hA hw)]
    unfold Oper.wp
    rw [Fr_eval hA hc, hx, Oper.upon_enter]
    refine hcall.mono (fun e w' h => ?_)
    obtain ⟨v, rfl, hs, h⟩ := hR e w' h
    rw [hd]
    exact hK _ _ hs h⟩
theorem s2_nocall {t : Nat} (hA : A.tmps.size = n) (ho : ops[i]? = some oi) (hd : oi.dst = some t) (hw : wantedD ops n D oi = some false) (hS : S w) (h : wpSch P ops Q S r (Fr A ((t, undef) :: D)) w) : wpSch P ops Q S ((1, i) :: r) (Fr A D) w :=
  ⟨oi, ho, fun K hK => by
    rw [if_neg (by rw [Fr_wanted hA hw]; simp), hd]
    exact hK _ _ hS h⟩
theorem s2_op {t : Nat} {v : Value} {w' : World} (hA : A.tmps.size = n) (ho : ops[i]? = some oi) (hd : oi.dst = some t) (hw : wantedD ops n D oi = some true) (hc : coversB n D oi = true)
    (hx : (execOp (rho D) oi).run P w = .ok (.value v) w') (hS : S w') (h : wpSch P ops Q S r (Fr A ((t, v) :: D)) w') : wpSch P ops Q S ((1, i) :: r) (Fr A D) w :=
  ⟨oi, ho, fun K hK => by
    rw [if_pos (Fr_wanted hA hw)]
    unfold Oper.wp
    rw [Fr_eval hA hc, hx, Oper.upon_value, hd]
    exact hK _ _ hS h⟩
theorem s2_store {w' : World} (hA : A.tmps.size = n) (ho : ops[i]? = some oi) (hd : oi.dst = none) (hw : wantedD ops n D oi = some true) (hc : coversB n D oi = true)
    (hx : (execOp (rho D) oi).run P w = .ok .skip w' ∨ ∃ v, (execOp (rho D) oi).run P w = .ok (.value v) w') (hS : S w') (h : wpSch P ops Q S r (Fr A D) w') : wpSch P ops Q S ((1, i) :: r) (Fr A D) w :=
  ⟨oi, ho, fun K hK => by
    rw [if_pos (Fr_wanted hA hw)]
    unfold Oper.wp
    rw [Fr_eval hA hc]
    rcases hx with hx | ⟨v, hx⟩
    · rw [hx, Oper.upon_skip, hd]; exact hK _ _ hS h
    · rw [hx, Oper.upon_value, hd]; exact hK _ _ hS h⟩
theorem s2_last {t : Nat} {v : Value} {w' : World} (hA : A.tmps.size = n) (ho : ops[i]? = some oi) (hd : oi.dst = some t) (hw : wantedD ops n D oi = some true) (hc : coversB n D oi = true)
    (hx : (execOp (rho D) oi).run P w = .ok (.value v) w') (h : wpSch P ops Q S r (Fr A ((t, v) :: D)) w') : wpSch P ops Q S ((2, i) :: r) (Fr A D) w :=
  ⟨oi, ho, fun K hK => by
    rw [if_pos (Fr_wanted hA hw)]
    unfold Oper.wp
    rw [Fr_eval hA hc, hx, Oper.upon_value, hd]
    exact hK _ _ h⟩
theorem s2_laststore {w' : World} (hA : A.tmps.size = n) (ho : ops[i]? = some oi) (hd : oi.dst = none) (hw : wantedD ops n D oi = some true) (hc : coversB n D oi = true)
    (hx : (execOp (rho D) oi).run P w = .ok .skip w' ∨ ∃ v, (execOp (rho D) oi).run P w = .ok (.value v) w') (h : wpSch P ops Q S r (Fr A D) w') : wpSch P ops Q S ((2, i) :: r) (Fr A D) w :=
  ⟨oi, ho, fun K hK => by
    rw [if_pos (Fr_wanted hA hw)]
    unfold Oper.wp
    rw [Fr_eval hA hc]
    rcases hx with hx | ⟨v, hx⟩
    · rw [hx, Oper.upon_skip, hd]; exact hK _ _ h
    · rw [hx, Oper.upon_value, hd]; exact hK _ _ h⟩
end

/-- A schedule's check out of the region's table. -/
def schT (T : Bool × List (List Nat × List Nat)) (ds : List Nat) : List (Nat × Nat) → List Bool → Bool
  | [], l => readyT T.2 l == []
  | (0, i) :: r, l => T.1 && freeT T.2 l i && readyAt T.2 l i && closedT T.2 l && lastT T.2 l ds i && schT T ds r (l.set i true)
  | (1, i) :: r, l => (readyT T.2 l == [i]) && !ds.contains i && schT T ds r (l.set i true)
  | (_, i) :: r, l => (readyT T.2 l == [i]) && ds.contains i && r.isEmpty && schT T ds r (l.set i true)
theorem sch_of {md : Region.Mode} {ops : Array Oper} {T : Bool × List (List Nat × List Nat)} {ds : List Nat} (hT : rtab md ops = T) : ∀ (sched : List (Nat × Nat)) (l : Array Bool), schT T ds sched l.toList = true → schB md ops ds sched l = true
  | [], l, h => by
    subst hT
    unfold schT at h
    unfold schB
    rw [ready_eq]; exact h
  | (0, i) :: r, l, h => by
    unfold schT at h
    simp only [Bool.and_eq_true] at h
    obtain ⟨⟨⟨⟨⟨h1, h2⟩, h3⟩, h4⟩, h5⟩, h6⟩ := h
    have h7 := readyAt_mem h3 hT
    have h8 := sch_of hT r (l.setIfInBounds i true) (by rw [Array.toList_setIfInBounds]; exact h6)
    subst hT
    unfold schB
    simp only [Bool.and_eq_true]
    exact ⟨⟨⟨⟨⟨h1, by rw [free_eq]; exact h2⟩, h7⟩, by rw [closed_eq]; exact h4⟩, by rw [last_eq]; exact h5⟩, h8⟩
  | (1, i) :: r, l, h => by
    unfold schT at h
    simp only [Bool.and_eq_true] at h
    obtain ⟨⟨h1, h2⟩, h6⟩ := h
    have h8 := sch_of hT r (l.setIfInBounds i true) (by rw [Array.toList_setIfInBounds]; exact h6)
    subst hT
    unfold schB
    simp only [Bool.and_eq_true]
    exact ⟨⟨by rw [ready_eq]; exact h1, h2⟩, h8⟩
  | (k + 2, i) :: r, l, h => by
    unfold schT at h
    simp only [Bool.and_eq_true] at h
    obtain ⟨⟨⟨h1, h2⟩, h3⟩, h6⟩ := h
    have h8 := sch_of hT r (l.setIfInBounds i true) (by rw [Array.toList_setIfInBounds]; exact h6)
    subst hT
    unfold schB
    simp only [Bool.and_eq_true]
    exact ⟨⟨⟨by rw [ready_eq]; exact h1, h2⟩, h3⟩, h8⟩

def setL (l : List Value) : List (Nat × Value) → List Value
  | [] => l
  | (t, v) :: D => (setL l D).set t v
theorem Fr_lit (l : List Value) (d : List Deferred) (D : List (Nat × Value)) : Fr ⟨l.toArray, d⟩ D = ⟨(setL l D).toArray, d⟩ := by
  induction D with
  | nil => rfl
  | cons p D ih => obtain ⟨t, v⟩ := p; simp [Fr, ih, Act.put, setL]
/-- Only these slots are read later. -/
theorem Fr_done {P : Act → Prop} {A a : Act} {D : List (Nat × Value)} (hA : Hid (A = a)) (h : P (Fr a D)) : P (Fr A D) := by rw [hA.out]; exact h
end Go.Proofs.Ytienodnkfohakaa
