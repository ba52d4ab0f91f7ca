import Derived.Test.YtienodnkfohakaaDW
namespace Go.Proofs.Ytienodnkfohakaa
set_option linter.unusedVariables false
set_option linter.unusedSimpArgs false
open Go.Proofs.YtienodnkfohakaaW.PrintLast Go.RowKit

/-! A region that draws its order and stores more than once at its end: marks 0 (shown in every S-world), 1 (alone), 3 (yields in whatever world), else (alone; behind it S need not hold). -/
def wpTl (P : Program) (ops : Array Oper) (Q : Exit → Act → World → Prop) (S : World → Prop) : List (Nat × Nat) → Act → World → Prop
  | [], a, w => Q .normal a w
  | (0, i) :: r, a, w => ∃ oi v, ops[i]? = some oi ∧ YieldsIf P ops S oi v a ∧ wpTl P ops Q S r (a.put oi.dst v) w
  | (1, i) :: r, a, w => ∃ oi, ops[i]? = some oi ∧ ∀ K : Act → World → Prop, Shut (∀ a' w', S w' → wpTl P ops Q S r a' w' → K a' w') → if Region.wanted oi (yielded ops a.tmps) = true then Oper.wp P oi a w K Q else K (a.put oi.dst undef) w
  | (3, i) :: r, a, w => ∃ oi v, ops[i]? = some oi ∧ Yields P ops oi v a ∧ wpTl P ops Q S r (a.put oi.dst v) w
  | (_, i) :: r, a, w => ∃ oi, ops[i]? = some oi ∧ ∀ K : Act → World → Prop, Shut (∀ a' w', wpTl P ops Q S r a' w' → K a' w') → if Region.wanted oi (yielded ops a.tmps) = true then Oper.wp P oi a w K Q else K (a.put oi.dst undef) w
def tlT (T : Bool × List (List Nat × List Nat)) (ds : List Nat) : List (Nat × Nat) → Bool → List Bool → Bool
  | [], _, l => readyT T.2 l == []
  | (0, i) :: r, s, l => s && T.1 && freeT T.2 l i && readyAt T.2 l i && closedT T.2 l && lastT T.2 l ds i && tlT T ds r s (l.set i true)
  | (1, i) :: r, s, l => s && (readyT T.2 l == [i]) && !ds.contains i && tlT T ds r s (l.set i true)
  | (3, i) :: r, s, l => T.1 && freeT T.2 l i && readyAt T.2 l i && tlT T ds r s (l.set i true)
  | (_, i) :: r, _, l => (readyT T.2 l == [i]) && ds.contains i && tlT T ds r false (l.set i true)

section
variable {P : Program} {ops : Array Oper} {Q : Exit → Act → World → Prop} {S : World → Prop} {ds : List Nat} {T : Bool × List (List Nat × List Nat)}
theorem wpTl_last (hT : rtab .any ops = T) (hQ : ∀ c (a : Act) d v w, Q (.panic c) (a.put d v) w → Q (.panic c) a w) : ∀ (sched : List (Nat × Nat)) (s : Bool) (l : Array Bool) (a : Act) (w : World), tlT T ds sched s l.toList = true → (s = true → S w) → wpTl P ops Q S sched a w → wpAnyLast P .any ops Q S ds sched.length l a w
  | [], s, l, a, w, hc, _, h => by
    subst hT
    unfold tlT at hc
    exact wpAnyLast_done (by rw [ready_eq]; simpa using hc) h 0
  | (0, i) :: r, s, l, a, w, hc, hS, h => by
    unfold tlT at hc
    simp only [Bool.and_eq_true] at hc
    obtain ⟨⟨⟨⟨⟨⟨h0, h1⟩, h2⟩, h3⟩, h4⟩, h5⟩, h6⟩ := hc
    obtain ⟨oi, v, ho, hy, hr⟩ := h
    have h7 := readyAt_mem h3 hT
    have h8 := wpTl_last hT hQ r s (l.setIfInBounds i true) _ w (by rw [Array.toList_setIfInBounds]; exact h6) hS hr
    subst hT
    exact wpAnyLast_take ho h1 (by rw [free_eq]; exact h2) h7 (by rw [closed_eq]; exact h4) (by rw [last_eq]; exact h5) (fun c a w => hQ c a oi.dst v w) hy (hS h0) h8
  | (1, i) :: r, s, l, a, w, hc, hS, h => by
    unfold tlT at hc
    simp only [Bool.and_eq_true, beq_iff_eq] at hc
    obtain ⟨⟨⟨h0, h1⟩, h2⟩, h3⟩ := hc
    obtain ⟨oi, ho, hr⟩ := h
    have h8 := fun a' w' (hS' : S w') hh => wpTl_last hT hQ r s (l.setIfInBounds i true) a' w' (by rw [Array.toList_setIfInBounds]; exact h3) (fun _ => hS') hh
    subst hT
    exact wpAnyLast_ready (by rw [ready_eq]; exact h1) (by simp) (AllReadyL.cons ho (by simpa using h2) (fun K hK => hr K (fun a' w' hS' h' => hK a' w' hS' (fun _ => h8 a' w' hS' h'))) AllReadyL.nil)
  | (3, i) :: r, s, l, a, w, hc, hS, h => by
    unfold tlT at hc
    simp only [Bool.and_eq_true] at hc
    obtain ⟨⟨⟨h1, h2⟩, h3⟩, h6⟩ := hc
    obtain ⟨oi, v, ho, hy, hr⟩ := h
    have h7 := readyAt_mem h3 hT
    have h8 := wpTl_last hT hQ r s (l.setIfInBounds i true) _ w (by rw [Array.toList_setIfInBounds]; exact h6) hS hr
    subst hT
    exact wpAnyLast_any ho (Region.noSelect_spec h1) (fun c a w => hQ c a oi.dst v w) _ _ _ _ (Region.free_spec ho (by rw [free_eq]; exact h2)) (by simpa using h7) hy h8
  | (2, i) :: r, s, l, a, w, hc, hS, h => by
    unfold tlT at hc
    simp only [Bool.and_eq_true, beq_iff_eq] at hc
    obtain ⟨⟨h1, h2⟩, h3⟩ := hc
    obtain ⟨oi, ho, hr⟩ := h
    have h8 := fun a' w' hh => wpTl_last hT hQ r false (l.setIfInBounds i true) a' w' (by rw [Array.toList_setIfInBounds]; exact h3) (fun c => by cases c) hh
    subst hT
    exact wpAnyLast_ready (by rw [ready_eq]; exact h1) (by simp) (AllReadyL.cons_last ho (by simpa using h2) (fun K hK => hr K (fun a' w' h' => hK a' w' (h8 a' w' h'))) AllReadyL.nil)
  | (k + 4, i) :: r, s, l, a, w, hc, hS, h => by
    unfold tlT at hc
    simp only [Bool.and_eq_true, beq_iff_eq] at hc
    obtain ⟨⟨h1, h2⟩, h3⟩ := hc
    obtain ⟨oi, ho, hr⟩ := h
    have h8 := fun a' w' hh => wpTl_last hT hQ r false (l.setIfInBounds i true) a' w' (by rw [Array.toList_setIfInBounds]; exact h3) (fun c => by cases c) hh
    subst hT
    exact wpAnyLast_ready (by rw [ready_eq]; exact h1) (by simp) (AllReadyL.cons_last ho (by simpa using h2) (fun K hK => hr K (fun a' w' h' => hK a' w' (h8 a' w' h'))) AllReadyL.nil)
end
structure WpT (P : Program) (n : Nat) (K : Exit → List (Nat × Value) → World → Prop) (ops : Array Oper) (S : World → Prop) (sched : List (Nat × Nat)) (D : List (Nat × Value)) (w : World) : Prop where
  out : ∀ A : Act, A.tmps.size = n → A.defers = [] → wpTl P ops (lift n K) S sched (Fr A D) w
section
variable {P : Program} {n : Nat} {K : Exit → List (Nat × Value) → World → Prop} {D D' : List (Nat × Value)} {w : World} {id : Nat}
theorem d_drawt {ops : Array Oper} (T : Bool × List (List Nat × List Nat)) (sched : List (Nat × Nat)) (ds : List Nat) (S : World → Prop) (hm : P.follows .mixedOrders = true) (hl : (sched.length == ops.size) = true) (hT : rtab .any ops = T) (hc : tlT T ds sched true (List.replicate sched.length false) = true) (hS : S w.drew)
    (h : WpT P n K ops S sched D w.drew) : WpD P n K (.region id ops true) D w := ⟨fun A hn hd => wp_region_last_drew (ds := ds) hm hS (fun hS => by
  have := wpTl_last (P := P) (ds := ds) hT (fun c a d v w hh => hh.elim) sched true (Array.replicate ops.size false) _ w.drew (by rw [Array.toList_replicate, ← beq_iff_eq.1 hl]; exact hc) (fun _ => hS) (h.out A hn hd)
  rw [beq_iff_eq.1 hl] at this
  exact this)⟩
/-- Ahead of a region and what follows it. -/
theorem d_at_region {ops : Array Oper} {b : Bool} {y : Code} (h : WpD P n K (.seq (.region id ops b) y) D w) : WpD P n K (.seq (.region id ops b) y) D w := h
variable {ops : Array Oper} {S : World → Prop} {i : Nat} {r : List (Nat × Nat)} {o : Oper} {t : Nat} {v : Value} {w' : World}
theorem t_done (h : K .normal D w) : WpT P n K ops S [] D w := ⟨fun A hn hd => ⟨A, D, hn, hd, rfl, h⟩⟩
theorem t_yield (ho : ops[i]? = some o) (hd : o.dst = some t) (hw : wantedD ops n D o = some true) (hc : coversB n D o = true) (hy : ∀ W : World, S W → Sem.run P (execOp (rho D) o) W = Result.ok (Next.value v) W) (h : WpT P n K ops S r ((t, v) :: D) w) : WpT P n K ops S ((0, i) :: r) D w :=
  ⟨fun A hn hdf => ⟨o, v, ho, .inl ⟨Fr_wanted hn hw, fun W hW => by rw [Fr_eval hn hc]; exact hy W hW⟩, by rw [hd]; exact h.out A hn hdf⟩⟩
theorem t_off (ho : ops[i]? = some o) (hd : o.dst = some t) (hw : wantedD ops n D o = some false) (h : WpT P n K ops S r ((t, undef) :: D) w) : WpT P n K ops S ((0, i) :: r) D w :=
  ⟨fun A hn hdf => ⟨o, undef, ho, .inr ⟨Fr_wanted hn hw, rfl⟩, by rw [hd]; exact h.out A hn hdf⟩⟩
theorem t_any (ho : ops[i]? = some o) (hd : o.dst = some t) (hw : wantedD ops n D o = some true) (hc : coversB n D o = true) (hy : ∀ W : World, Sem.run P (execOp (rho D) o) W = Result.ok (Next.value v) W) (h : WpT P n K ops S r ((t, v) :: D) w) : WpT P n K ops S ((3, i) :: r) D w :=
  ⟨fun A hn hdf => ⟨o, v, ho, .inl ⟨Fr_wanted hn hw, fun W => by rw [Fr_eval hn hc]; exact hy W⟩, by rw [hd]; exact h.out A hn hdf⟩⟩
theorem t_anyoff (ho : ops[i]? = some o) (hd : o.dst = some t) (hw : wantedD ops n D o = some false) (h : WpT P n K ops S r ((t, undef) :: D) w) : WpT P n K ops S ((3, i) :: r) D w :=
  ⟨fun A hn hdf => ⟨o, undef, ho, .inr ⟨Fr_wanted hn hw, rfl⟩, by rw [hd]; exact h.out A hn hdf⟩⟩
theorem t_call {f : FuncId} {args : Array Value} {R : Ending → World → Prop} (ho : ops[i]? = some o) (hd : o.dst = some t) (hw : wantedD ops n D o = some true) (hc : coversB n D o = true) (hx : (execOp (rho D) o).run P w = .ok (.enter f args) w) (hcall : Calls P f args w R)
    (hR : ∀ e w', R e w' → ∃ v, e = .returned v ∧ S w' ∧ WpT P n K ops S r ((t, v) :: D) w') : WpT P n K ops S ((1, i) :: r) D w :=
  ⟨fun A hn hdf => ⟨o, ho, fun K hK => by
    rw [if_pos (Fr_wanted hn hw)]
    unfold Oper.wp
    rw [Fr_eval hn hc, hx, Oper.upon_enter]
    refine hcall.mono (fun e w' h => ?_)
    obtain ⟨v, rfl, hs, h⟩ := hR e w' h
    rw [hd]
    exact hK _ _ hs (h.out A hn hdf)⟩⟩
theorem t_nocall (ho : ops[i]? = some o) (hd : o.dst = some t) (hw : wantedD ops n D o = some false) (hS : S w) (h : WpT P n K ops S r ((t, undef) :: D) w) : WpT P n K ops S ((1, i) :: r) D w :=
  ⟨fun A hn hdf => ⟨o, ho, fun K hK => by
    rw [if_neg (by rw [Fr_wanted hn hw]; simp), hd]
    exact hK _ _ hS (h.out A hn hdf)⟩⟩
theorem t_op (ho : ops[i]? = some o) (hd : o.dst = some t) (hw : wantedD ops n D o = some true) (hc : coversB n D o = true) (hx : (execOp (rho D) o).run P w = .ok (.value v) w') (hS : S w') (h : WpT P n K ops S r ((t, v) :: D) w') : WpT P n K ops S ((1, i) :: r) D w :=
  ⟨fun A hn hdf => ⟨o, ho, fun K hK => by
    rw [if_pos (Fr_wanted hn hw)]
    unfold Oper.wp
    rw [Fr_eval hn hc, hx, Oper.upon_value, hd]
    exact hK _ _ hS (h.out A hn hdf)⟩⟩
theorem t_store (ho : ops[i]? = some o) (hd : o.dst = none) (hw : wantedD ops n D o = some true) (hc : coversB n D o = true) (hx : (execOp (rho D) o).run P w = .ok .skip w') (hS : S w') (h : WpT P n K ops S r D w') : WpT P n K ops S ((1, i) :: r) D w :=
  ⟨fun A hn hdf => ⟨o, ho, fun K hK => by
    rw [if_pos (Fr_wanted hn hw)]
    unfold Oper.wp
    rw [Fr_eval hn hc, hx, Oper.upon_skip, hd]
    exact hK _ _ hS (h.out A hn hdf)⟩⟩
theorem t_last (ho : ops[i]? = some o) (hd : o.dst = some t) (hw : wantedD ops n D o = some true) (hc : coversB n D o = true) (hx : (execOp (rho D) o).run P w = .ok (.value v) w') (h : WpT P n K ops S r ((t, v) :: D) w') : WpT P n K ops S ((2, i) :: r) D w :=
  ⟨fun A hn hdf => ⟨o, ho, fun K hK => by
    rw [if_pos (Fr_wanted hn hw)]
    unfold Oper.wp
    rw [Fr_eval hn hc, hx, Oper.upon_value, hd]
    exact hK _ _ (h.out A hn hdf)⟩⟩
theorem t_laststore (ho : ops[i]? = some o) (hd : o.dst = none) (hw : wantedD ops n D o = some true) (hc : coversB n D o = true) (hx : (execOp (rho D) o).run P w = .ok .skip w') (h : WpT P n K ops S r D w') : WpT P n K ops S ((2, i) :: r) D w :=
  ⟨fun A hn hdf => ⟨o, ho, fun K hK => by
    rw [if_pos (Fr_wanted hn hw)]
    unfold Oper.wp
    rw [Fr_eval hn hc, hx, Oper.upon_skip, hd]
    exact hK _ _ (h.out A hn hdf)⟩⟩
end
end Go.Proofs.Ytienodnkfohakaa
