import Derived.Test.YtienodnkfohakaaSchT
namespace Go.Proofs.Ytienodnkfohakaa
set_option linter.unusedVariables false
set_option linter.unusedSimpArgs false
open Go.Proofs.YtienodnkfohakaaW.PrintLast Go.RowKit

/-! A region that draws its order, walked as a tree: where several operations may be next, each is walked. l: what has come up; s: does S hold yet? -/
structure WpB (P : Program) (n : Nat) (K : Exit → List (Nat × Value) → World → Prop) (ops : Array Oper) (S : World → Prop) (ds : List Nat) (T : Bool × List (List Nat × List Nat)) (k : Nat) (s : Bool) (l : List Bool) (D : List (Nat × Value)) (w : World) : Prop where
  out : rtab .any ops = T → (s = true → S w) → ∀ A : Act, A.tmps.size = n → A.defers = [] → wpAnyLast P .any ops (lift n K) S ds k l.toArray (Fr A D) w
structure StepB (P : Program) (n : Nat) (K : Exit → List (Nat × Value) → World → Prop) (ops : Array Oper) (S : World → Prop) (ds : List Nat) (T : Bool × List (List Nat × List Nat)) (k : Nat) (l : List Bool) (D : List (Nat × Value)) (w : World) (i : Nat) : Prop where
  out : rtab .any ops = T → S w → ∀ A : Act, A.tmps.size = n → A.defers = [] → ∃ oi, ops[i]? = some oi ∧ ∀ K' : Act → World → Prop, (∀ a' w', S w' → (S w' → wpAnyLast P .any ops (lift n K) S ds k (l.set i true).toArray a' w') → K' a' w') → if Region.wanted oi (yielded ops (Fr A D).tmps) = true then Oper.wp P oi (Fr A D) w K' (lift n K) else K' ((Fr A D).put oi.dst undef) w
section
variable {P : Program} {n : Nat} {K : Exit → List (Nat × Value) → World → Prop} {D : List (Nat × Value)} {w w' : World} {id k : Nat} {ops : Array Oper} {S : World → Prop} {ds : List Nat} {l : List Bool} {s : Bool} {T : Bool × List (List Nat × List Nat)} {i j q t : Nat} {o : Oper} {v : Value}
theorem d_drawb (T : Bool × List (List Nat × List Nat)) (N : Nat) (ds : List Nat) (S : World → Prop) (hm : P.follows .mixedOrders = true) (hl : (N == ops.size) = true) (hT : rtab .any ops = T) (hS : S w.drew)
    (h : WpB P n K ops S ds T N true (List.replicate N false) D w.drew) : WpD P n K (.region id ops true) D w := ⟨fun A hn hd => wp_region_last_drew (ds := ds) hm hS (fun hS => by
  have := h.out hT (fun _ => hS) A hn hd
  rw [beq_iff_eq.1 hl, ← Array.toList_replicate, Array.toArray_toList] at this
  exact this)⟩
theorem b_done (hr : (readyT T.2 l == []) = true) (h : K .normal D w) : WpB P n K ops S ds T k s l D w := ⟨fun hT _ A hn hd => by
  refine wpAnyLast_done ?_ ⟨A, D, hn, hd, rfl, h⟩ k
  rw [ready_eq, hT]
  simpa using hr⟩
theorem setArr (l : List Bool) (i : Nat) : l.toArray.setIfInBounds i true = (l.set i true).toArray := by simp
theorem b_take {a : Act} {oi : Oper} (hT : rtab .any ops = T) (ho : ops[i]? = some oi) (hchk : (T.1 && freeT T.2 l i && readyAt T.2 l i && closedT T.2 l && lastT T.2 l ds i) = true) (hy : YieldsIf P ops S oi v a) (hS : S w) (h : wpAnyLast P .any ops (lift n K) S ds k (l.set i true).toArray (a.put oi.dst v) w) : wpAnyLast P .any ops (lift n K) S ds (k + 1) l.toArray a w := by
  simp only [Bool.and_eq_true] at hchk
  obtain ⟨⟨⟨⟨h1, h2⟩, h3⟩, h4⟩, h5⟩ := hchk
  have h7 := readyAt_mem (l := l.toArray) h3 hT
  rw [← setArr] at h
  subst hT
  exact wpAnyLast_take ho h1 (by rw [free_eq]; exact h2) h7 (by rw [closed_eq]; exact h4) (by rw [last_eq]; exact h5) (fun c a w hh => hh.elim) hy hS h
theorem b_yield (ho : ops[i]? = some o) (hd : o.dst = some t) (hw : wantedD ops n D o = some true) (hc : coversB n D o = true) (hchk : (T.1 && freeT T.2 l i && readyAt T.2 l i && closedT T.2 l && lastT T.2 l ds i) = true) (hy : ∀ W : World, S W → Sem.run P (execOp (rho D) o) W = Result.ok (Next.value v) W) (h : WpB P n K ops S ds T k true (l.set i true) ((t, v) :: D) w) : WpB P n K ops S ds T (k + 1) true l D w :=
  ⟨fun hT hS A hn hdf => b_take hT ho hchk (.inl ⟨Fr_wanted hn hw, fun W hW => by rw [Fr_eval hn hc]; exact hy W hW⟩) (hS rfl) (by rw [hd]; exact h.out hT hS A hn hdf)⟩
theorem b_off (ho : ops[i]? = some o) (hd : o.dst = some t) (hw : wantedD ops n D o = some false) (hchk : (T.1 && freeT T.2 l i && readyAt T.2 l i && closedT T.2 l && lastT T.2 l ds i) = true) (h : WpB P n K ops S ds T k true (l.set i true) ((t, undef) :: D) w) : WpB P n K ops S ds T (k + 1) true l D w :=
  ⟨fun hT hS A hn hdf => b_take hT ho hchk (.inr ⟨Fr_wanted hn hw, rfl⟩) (hS rfl) (by rw [hd]; exact h.out hT hS A hn hdf)⟩
theorem b_any (ho : ops[i]? = some o) (hd : o.dst = some t) (hw : wantedD ops n D o = some true) (hc : coversB n D o = true) (hchk : (T.1 && freeT T.2 l i && readyAt T.2 l i) = true) (hy : ∀ W : World, Sem.run P (execOp (rho D) o) W = Result.ok (Next.value v) W) (h : WpB P n K ops S ds T k s (l.set i true) ((t, v) :: D) w) : WpB P n K ops S ds T (k + 1) s l D w :=
  ⟨fun hT hS A hn hdf => by
    simp only [Bool.and_eq_true] at hchk
    obtain ⟨⟨h1, h2⟩, h3⟩ := hchk
    have h7 := readyAt_mem (l := l.toArray) h3 hT
    have h8 := h.out hT hS A hn hdf
    rw [← setArr] at h8
    subst hT
    exact wpAnyLast_any ho (Region.noSelect_spec h1) (fun c a w hh => hh.elim) _ _ _ _ (Region.free_spec ho (by rw [free_eq]; exact h2)) (by simpa using h7) (.inl ⟨Fr_wanted hn hw, fun W => by rw [Fr_eval hn hc]; exact hy W⟩) (by rw [hd]; exact h8)⟩
theorem StepB.ready (h : StepB P n K ops S ds T k l D w i) (hT : rtab .any ops = T) (hS : S w) {A : Act} (hn : A.tmps.size = n) (hd : A.defers = []) (hds : ds.contains i = false) {r : List Nat} (hr : AllReadyL P .any ops (lift n K) S ds k l.toArray (Fr A D) w r) : AllReadyL P .any ops (lift n K) S ds k l.toArray (Fr A D) w (i :: r) := by
  obtain ⟨oi, ho, h⟩ := h.out hT hS A hn hd
  refine AllReadyL.cons ho (by simpa using hds) (fun K' hK => ?_) hr
  rw [setArr] at hK
  exact h K' hK
theorem b_one (hr : (readyT T.2 l == [i] && !ds.contains i) = true) (h : StepB P n K ops S ds T k l D w i) : WpB P n K ops S ds T (k + 1) true l D w := ⟨fun hT hS A hn hd => by
  simp only [Bool.and_eq_true, Bool.not_eq_true'] at hr
  refine wpAnyLast_ready (rs := [i]) (by rw [ready_eq, hT]; simpa using hr.1) (by simp) (h.ready hT (hS rfl) hn hd hr.2 AllReadyL.nil)⟩
theorem b_two (hr : (readyT T.2 l == [i, j] && !ds.contains i && !ds.contains j) = true) (h : StepB P n K ops S ds T k l D w i) (h' : StepB P n K ops S ds T k l D w j) : WpB P n K ops S ds T (k + 1) true l D w := ⟨fun hT hS A hn hd => by
  simp only [Bool.and_eq_true, Bool.not_eq_true'] at hr
  refine wpAnyLast_ready (rs := [i, j]) (by rw [ready_eq, hT]; simpa using hr.1.1) (by simp) (h.ready hT (hS rfl) hn hd hr.1.2 (h'.ready hT (hS rfl) hn hd hr.2 AllReadyL.nil))⟩
theorem b_three (hr : (readyT T.2 l == [i, j, q] && !ds.contains i && !ds.contains j && !ds.contains q) = true) (h : StepB P n K ops S ds T k l D w i) (h' : StepB P n K ops S ds T k l D w j) (h'' : StepB P n K ops S ds T k l D w q) : WpB P n K ops S ds T (k + 1) true l D w := ⟨fun hT hS A hn hd => by
  simp only [Bool.and_eq_true, Bool.not_eq_true'] at hr
  refine wpAnyLast_ready (rs := [i, j, q]) (by rw [ready_eq, hT]; simpa using hr.1.1.1) (by simp) (h.ready hT (hS rfl) hn hd hr.1.1.2 (h'.ready hT (hS rfl) hn hd hr.1.2 (h''.ready hT (hS rfl) hn hd hr.2 AllReadyL.nil)))⟩
/-- One of ds: behind it S need not hold. -/
theorem b_last (ho : ops[i]? = some o) (hd : o.dst = some t) (hr : (readyT T.2 l == [i] && ds.contains i) = true) (hw : wantedD ops n D o = some true) (hc : coversB n D o = true) (hx : (execOp (rho D) o).run P w = .ok (.value v) w') (h : WpB P n K ops S ds T k false (l.set i true) ((t, v) :: D) w') : WpB P n K ops S ds T (k + 1) s l D w := ⟨fun hT hS A hn hdf => by
  simp only [Bool.and_eq_true] at hr
  refine wpAnyLast_ready (rs := [i]) (by rw [ready_eq, hT]; simpa using hr.1) (by simp) (AllReadyL.cons_last ho (by simpa using hr.2) (fun K' hK => ?_) AllReadyL.nil)
  rw [setArr] at hK
  rw [if_pos (Fr_wanted hn hw)]
  unfold Oper.wp
  rw [Fr_eval hn hc, hx, Oper.upon_value, hd]
  exact hK _ _ (h.out hT (fun c => by cases c) A hn hdf)⟩
theorem b_laststore (ho : ops[i]? = some o) (hd : o.dst = none) (hr : (readyT T.2 l == [i] && ds.contains i) = true) (hw : wantedD ops n D o = some true) (hc : coversB n D o = true) (hx : (execOp (rho D) o).run P w = .ok .skip w') (h : WpB P n K ops S ds T k false (l.set i true) D w') : WpB P n K ops S ds T (k + 1) s l D w := ⟨fun hT hS A hn hdf => by
  simp only [Bool.and_eq_true] at hr
  refine wpAnyLast_ready (rs := [i]) (by rw [ready_eq, hT]; simpa using hr.1) (by simp) (AllReadyL.cons_last ho (by simpa using hr.2) (fun K' hK => ?_) AllReadyL.nil)
  rw [setArr] at hK
  rw [if_pos (Fr_wanted hn hw)]
  unfold Oper.wp
  rw [Fr_eval hn hc, hx, Oper.upon_skip, hd]
  exact hK _ _ (h.out hT (fun c => by cases c) A hn hdf)⟩
theorem st_op (ho : ops[i]? = some o) (hd : o.dst = some t) (hw : wantedD ops n D o = some true) (hc : coversB n D o = true) (hx : (execOp (rho D) o).run P w = .ok (.value v) w') (hS : S w') (h : WpB P n K ops S ds T k true (l.set i true) ((t, v) :: D) w') : StepB P n K ops S ds T k l D w i :=
  ⟨fun hT _ A hn hdf => ⟨o, ho, fun K' hK => by
    rw [if_pos (Fr_wanted hn hw)]
    unfold Oper.wp
    rw [Fr_eval hn hc, hx, Oper.upon_value, hd]
    exact hK _ _ hS (fun hS' => h.out hT (fun _ => hS') A hn hdf)⟩⟩
theorem st_store (ho : ops[i]? = some o) (hd : o.dst = none) (hw : wantedD ops n D o = some true) (hc : coversB n D o = true) (hx : (execOp (rho D) o).run P w = .ok .skip w') (hS : S w') (h : WpB P n K ops S ds T k true (l.set i true) D w') : StepB P n K ops S ds T k l D w i :=
  ⟨fun hT _ A hn hdf => ⟨o, ho, fun K' hK => by
    rw [if_pos (Fr_wanted hn hw)]
    unfold Oper.wp
    rw [Fr_eval hn hc, hx, Oper.upon_skip, hd]
    exact hK _ _ hS (fun hS' => h.out hT (fun _ => hS') A hn hdf)⟩⟩
theorem st_call {f : FuncId} {args : Array Value} {R : Ending → World → Prop} (ho : ops[i]? = some o) (hd : o.dst = some t) (hw : wantedD ops n D o = some true) (hc : coversB n D o = true) (hx : (execOp (rho D) o).run P w = .ok (.enter f args) w) (hcall : Calls P f args w R)
    (hR : ∀ e w', R e w' → ∃ v, e = .returned v ∧ S w' ∧ WpB P n K ops S ds T k true (l.set i true) ((t, v) :: D) w') : StepB P n K ops S ds T k l D w i :=
  ⟨fun hT _ A hn hdf => ⟨o, ho, fun K' hK => by
    rw [if_pos (Fr_wanted hn hw)]
    unfold Oper.wp
    rw [Fr_eval hn hc, hx, Oper.upon_enter]
    refine hcall.mono (fun e w' h => ?_)
    obtain ⟨v, rfl, hs, h⟩ := hR e w' h
    rw [hd]
    exact hK _ _ hs (fun hS' => h.out hT (fun _ => hS') A hn hdf)⟩⟩
theorem st_off (ho : ops[i]? = some o) (hd : o.dst = some t) (hw : wantedD ops n D o = some false) (hS : S w) (h : WpB P n K ops S ds T k true (l.set i true) ((t, undef) :: D) w) : StepB P n K ops S ds T k l D w i :=
  ⟨fun hT _ A hn hdf => ⟨o, ho, fun K' hK => by
    rw [if_neg (by rw [Fr_wanted hn hw]; simp), hd]
    exact hK _ _ hS (fun hS' => h.out hT (fun _ => hS') A hn hdf)⟩⟩
end
end Go.Proofs.Ytienodnkfohakaa
