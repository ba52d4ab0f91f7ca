import Derived.Test.YtienodnkfohakaaSched2
namespace Go.Proofs.Ytienodnkfohakaa
set_option linter.unusedVariables false
set_option linter.unusedSimpArgs false
open Go.Proofs.YtienodnkfohakaaW.PrintLast Go.RowKit

/-! A walk in which of a frame only some slots are known: D, the newest first. -/
def lift (n : Nat) (K : Exit → List (Nat × Value) → World → Prop) : Exit → Act → World → Prop
  | .panic _, _, _ => False
  | .goto _, _, _ => False
  | .outgrown, _, _ => False
  | e, a, w => ∃ A D, A.tmps.size = n ∧ A.defers = [] ∧ a = Fr A D ∧ K e D w
structure WpD (P : Program) (n : Nat) (K : Exit → List (Nat × Value) → World → Prop) (c : Code) (D : List (Nat × Value)) (w : World) : Prop where
  out : ∀ A : Act, A.tmps.size = n → A.defers = [] → c.wp P (lift n K) (Fr A D) w
structure WpL (P : Program) (n : Nat) (K : Exit → List (Nat × Value) → World → Prop) (ops : Array Oper) (rest : List Oper) (D : List (Nat × Value)) (w : World) : Prop where
  out : ∀ A : Act, A.tmps.size = n → A.defers = [] → wpList P ops (lift n K) rest (Fr A D) w
structure WpS (P : Program) (n : Nat) (K : Exit → List (Nat × Value) → World → Prop) (ops : Array Oper) (S : World → Prop) (sched : List (Nat × Nat)) (D : List (Nat × Value)) (w : World) : Prop where
  out : ∀ A : Act, A.tmps.size = n → A.defers = [] → wpSch P ops (lift n K) S sched (Fr A D) w

def KThen (P : Program) (n : Nat) (y : Code) (K : Exit → List (Nat × Value) → World → Prop) : Exit → List (Nat × Value) → World → Prop
  | .normal, D, w => WpD P n K y D w
  | e, D, w => K e D w
def KBlock (id : Nat) (K : Exit → List (Nat × Value) → World → Prop) : Exit → List (Nat × Value) → World → Prop
  | .exit j, D, w => if j = id then K .normal D w else K (.exit j) D w
  | e, D, w => K e D w
/-- All that is known by D' is known by D, too. -/
def Subl (n : Nat) (D D' : List (Nat × Value)) : Prop := ∀ p ∈ D', p.1 < n ∧ D.lookup p.1 = some p.2
def KLoop (n : Nat) (R : Nat → List (Nat × Value) → World → Prop) (m : Nat) (K : Exit → List (Nat × Value) → World → Prop) : Exit → List (Nat × Value) → World → Prop
  | .normal, D, w => ∃ m' D', m' < m ∧ Subl n D D' ∧ R m' D' w
  | e, D, w => K e D w
def KCut (n : Nat) (R : List (Nat × Value) → World → Prop) (K : Exit → List (Nat × Value) → World → Prop) : Exit → List (Nat × Value) → World → Prop
  | .normal, D, w => ∃ D', Subl n D D' ∧ R D' w
  | e, D, w => K e D w

theorem Fr_defers (a : Act) (D : List (Nat × Value)) : (Fr a D).defers = a.defers := by
  induction D with
  | nil => rfl
  | cons p D ih => obtain ⟨t, v⟩ := p; simp [Fr, Act.put, ih]
theorem Fr_same (a : Act) (D : List (Nat × Value)) (h : ∀ p ∈ D, a.tmps[p.1]? = some p.2) : Fr a D = a := by
  induction D with
  | nil => rfl
  | cons p D ih =>
    obtain ⟨t, v⟩ := p
    rw [Fr, ih (fun q hq => h q (List.mem_cons_of_mem _ hq))]
    have := h (t, v) (List.mem_cons_self ..)
    obtain ⟨tm, df⟩ := a
    simp only [Act.put, Act.mk.injEq, and_true]
    simp only at this
    obtain ⟨hlt, hv⟩ := Array.getElem?_eq_some_iff.1 this
    rw [← hv]
    apply Array.ext
    · simp
    · intro i h1 h2
      rw [Array.getElem_setIfInBounds]
      split
      · rename_i e; subst e; rfl
      · rfl
theorem Subl.fr {n : Nat} {D D' : List (Nat × Value)} (h : Subl n D D') {A : Act} (hn : A.tmps.size = n) : Fr (Fr A D) D' = Fr A D :=
  Fr_same _ _ (fun p hp => Fr_get A D (h p hp).2 (by rw [hn]; exact (h p hp).1))
theorem Subl.nil (n : Nat) (D : List (Nat × Value)) : Subl n D [] := fun _ h => by simp at h
theorem Subl.cons {n : Nat} {D D' : List (Nat × Value)} {t : Nat} {v : Value} (ht : t < n) (hv : D.lookup t = some v) (h : Subl n D D') : Subl n D ((t, v) :: D') := fun p hp => by
  rcases List.mem_cons.1 hp with rfl | hp
  · exact ⟨ht, hv⟩
  · exact h p hp

section
variable {P : Program} {n : Nat} {K : Exit → List (Nat × Value) → World → Prop} {D D' : List (Nat × Value)} {w : World} {c x y : Code} {id : Nat}
theorem lift_mono {n : Nat} {K K' : Exit → List (Nat × Value) → World → Prop} (h : ∀ e D w, K e D w → K' e D w) : ∀ e a w, lift n K e a w → lift n K' e a w := by
  intro e a w
  cases e <;> simp only [lift] <;> intro hh <;> first
    | exact hh.elim
    | (obtain ⟨A, D, h1, h2, h3, h4⟩ := hh; exact ⟨A, D, h1, h2, h3, h _ _ _ h4⟩)
theorem WpD.mono {K' : Exit → List (Nat × Value) → World → Prop} (h : WpD P n K c D w) (hk : ∀ e D w, K e D w → K' e D w) : WpD P n K' c D w :=
  ⟨fun A hn hd => wp_mono (h.out A hn hd) (lift_mono hk)⟩
/-- Less is known. -/
theorem WpD.sub (hs : Subl n D D') (h : WpD P n K c D' w) : WpD P n K c D w := by
  refine ⟨fun A hn hd => ?_⟩
  rw [← hs.fr hn]
  exact h.out (Fr A D) (by rw [Fr_size, hn]) (by rw [Fr_defers, hd])
theorem WpL.sub {ops : Array Oper} {rest : List Oper} (hs : Subl n D D') (h : WpL P n K ops rest D' w) : WpL P n K ops rest D w := by
  refine ⟨fun A hn hd => ?_⟩
  rw [← hs.fr hn]
  exact h.out (Fr A D) (by rw [Fr_size, hn]) (by rw [Fr_defers, hd])
theorem d_skip (h : K .normal D w) : WpD P n K .skip D w := ⟨fun A hn hd => wp_skip ⟨A, D, hn, hd, rfl, h⟩⟩
theorem d_exit (h : K (.exit id) D w) : WpD P n K (.exit id) D w := ⟨fun A hn hd => wp_exit ⟨A, D, hn, hd, rfl, h⟩⟩
theorem d_ret (h : K .ret D w) : WpD P n K .ret D w := ⟨fun A hn hd => wp_ret ⟨A, D, hn, hd, rfl, h⟩⟩
theorem d_seq (h : WpD P n (KThen P n y K) x D w) : WpD P n K (.seq x y) D w := ⟨fun A hn hd => wp_seq (wp_mono (h.out A hn hd) (fun e a w hh => by
  cases e <;> simp only [lift, Exit.then] at hh ⊢ <;> first
    | exact hh.elim
    | (obtain ⟨A, D, h1, h2, rfl, h4⟩ := hh; first | exact h4.out A h1 h2 | exact ⟨A, D, h1, h2, rfl, h4⟩)))⟩
theorem d_block (h : WpD P n (KBlock id K) c D w) : WpD P n K (.block id c) D w := ⟨fun A hn hd => wp_block (wp_mono (h.out A hn hd) (fun e a w hh => by
  cases e with
  | exit j =>
    simp only [lift, Exit.inBlock, KBlock] at hh ⊢
    obtain ⟨A, D, h1, h2, rfl, h4⟩ := hh
    split <;> rename_i e
    · rw [if_pos e] at h4; exact ⟨A, D, h1, h2, rfl, h4⟩
    · rw [if_neg e] at h4; exact ⟨A, D, h1, h2, rfl, h4⟩
  | normal => exact hh
  | ret => exact hh
  | goto l => exact hh.elim
  | panic ch => exact hh.elim
  | outgrown => exact hh.elim))⟩
theorem kt_normal (h : WpD P n K y D w) : KThen P n y K .normal D w := h
theorem kt_ret (h : K .ret D w) : KThen P n y K .ret D w := h
theorem kt_exit (h : K (.exit id) D w) : KThen P n y K (.exit id) D w := h
theorem kb_normal (h : K .normal D w) : KBlock id K .normal D w := h
theorem kb_ret (h : K .ret D w) : KBlock id K .ret D w := h
theorem kb_here (h : K .normal D w) : KBlock id K (.exit id) D w := by simp only [KBlock, if_true]; exact h
theorem kb_there {j : Nat} (hj : (j == id) = false) (h : K (.exit j) D w) : KBlock id K (.exit j) D w := by
  have : ¬ j = id := by simpa using hj
  simp only [KBlock, if_neg this]; exact h
theorem kl_normal {R : Nat → List (Nat × Value) → World → Prop} {m : Nat} (m' : Nat) (D' : List (Nat × Value)) (hm : m' < m) (hs : Subl n D D') (h : R m' D' w) : KLoop n R m K .normal D w := ⟨m', D', hm, hs, h⟩
theorem kl_ret {R : Nat → List (Nat × Value) → World → Prop} {m : Nat} (h : K .ret D w) : KLoop n R m K .ret D w := h
theorem kl_exit {R : Nat → List (Nat × Value) → World → Prop} {m : Nat} (h : K (.exit id) D w) : KLoop n R m K (.exit id) D w := h
theorem kc_normal {R : List (Nat × Value) → World → Prop} (D' : List (Nat × Value)) (hs : Subl n D D') (h : R D' w) : KCut n R K .normal D w := ⟨D', hs, h⟩
theorem kc_ret {R : List (Nat × Value) → World → Prop} (h : K .ret D w) : KCut n R K .ret D w := h
theorem kc_exit {R : List (Nat × Value) → World → Prop} (h : K (.exit id) D w) : KCut n R K (.exit id) D w := h

def knownB (n : Nat) (D : List (Nat × Value)) : Operand → Bool
  | .tmp t => (D.lookup t).isSome && decide (t < n)
  | _ => true
theorem rho_eval {a : Act} {o : Operand} (hn : a.tmps.size = n) (hk : knownB n D o = true) : (Fr a D).eval o = rho D o := by
  cases o with
  | tmp t =>
    simp only [knownB, Bool.and_eq_true, decide_eq_true_eq, Option.isSome_iff_exists] at hk
    obtain ⟨⟨v, hv⟩, ht⟩ := hk
    have hg := Fr_get a D hv (by rw [hn]; exact ht)
    simp [Act.eval, rho, hv, Array.getD_eq_getD_getElem?, hg]
  | const v => rfl
  | global g => rfl
  | func f => rfl
theorem d_if {o : Operand} (b : Bool) (hk : knownB n D o = true) (hc : rho D o = .bool b) (ht : b = true → WpD P n K x D w) (hf : b = false → WpD P n K y D w) : WpD P n K (.cond o x y) D w := ⟨fun A hn hd =>
  wp_cond_split (by rw [rho_eval hn hk]; exact hc) (fun e => (ht e).out A hn hd) (fun e => (hf e).out A hn hd)⟩
theorem d_true {o : Operand} (hk : knownB n D o = true) (hc : rho D o = .bool true) (h : WpD P n K x D w) : WpD P n K (.cond o x y) D w := d_if true hk hc (fun _ => h) (fun e => by simp at e)
theorem d_false {o : Operand} (hk : knownB n D o = true) (hc : rho D o = .bool false) (h : WpD P n K y D w) : WpD P n K (.cond o x y) D w := d_if false hk hc (fun e => by simp at e) (fun _ => h)

/-- A loop: R with a measure; what is known besides is forgotten at the head. -/
theorem d_loop (R : Nat → List (Nat × Value) → World → Prop) (m : Nat) (D' : List (Nat × Value)) (hs : Subl n D D') (h0 : R m D' w)
    (hr : ∀ m D w, R m D w → WpD P n (KLoop n R m K) c D w) : WpD P n K (.loop c) D w := by
  refine WpD.sub hs ⟨fun A hn hd b k cs => ?_⟩
  have key : ∀ (m : Nat) (A : Act) (D : List (Nat × Value)) (w : World), A.tmps.size = n → A.defers = [] → R m D w →
      ∃ e a' w', lift n K e a' w' ∧ Arrives P (lone (b.at (Fr A D) (.code c :: .inLoop c :: k)) cs w) b k cs e a' w' := by
    intro m
    induction m using Nat.strongRecOn with
    | _ m ih =>
      intro A D w hn hd hR
      obtain ⟨e, a1, w1, hq, harr⟩ := (hr m D w hR).out A hn hd b (.inLoop c :: k) cs
      cases e with
      | normal =>
        obtain ⟨A1, D1, h1, h2, rfl, m', D', hlt, hs', hR'⟩ := hq
        obtain ⟨e2, a2, w2, hq2, harr2⟩ := ih m' hlt (Fr A1 D1) D' w1 (by rw [Fr_size, h1]) (by rw [Fr_defers, h2]) hR'
        rw [hs'.fr h1] at harr2
        exact ⟨e2, a2, w2, hq2, .of_steps (Steps.trans harr (.one step_inLoop)) harr2⟩
      | exit id => exact ⟨.exit id, a1, w1, hq, .pass (x := .inLoop c) rfl (fun _ _ => .inl (by simp)) harr⟩
      | ret => exact ⟨.ret, a1, w1, hq, .pass (x := .inLoop c) rfl (fun _ _ => .inl (by simp)) harr⟩
      | goto l => exact hq.elim
      | panic ch => exact hq.elim
      | outgrown => exact hq.elim
  obtain ⟨e, a', w', hq, harr⟩ := key m A D' w hn hd h0
  exact ⟨e, a', w', hq, .of_steps (.one step_loop) harr⟩
/-- A place where ways meet again. -/
theorem d_cut (R : List (Nat × Value) → World → Prop) (hx : WpD P n (KCut n R (KThen P n y K)) x D w) (hy : ∀ D w, R D w → WpD P n K y D w) : WpD P n K (.seq x y) D w :=
  d_seq (hx.mono (fun e D w hh => by
    cases e with
    | normal =>
      obtain ⟨D', hs, hR⟩ := hh
      exact (hy D' w hR).sub hs
    | _ => exact hh))
/-- The same, inside a sequence that is under way. -/
theorem d_join (R : List (Nat × Value) → World → Prop) (hx : WpD P n (KCut n R (KThen P n y K)) c D w) (hy : ∀ D w, R D w → WpD P n K y D w) : WpD P n (KThen P n y K) c D w :=
  hx.mono (fun e D w hh => by
    cases e with
    | normal =>
      obtain ⟨D', hs, hR⟩ := hh
      exact (hy D' w hR).sub hs
    | _ => exact hh)
/-- The same, where the ways meet at the end of what is walked. -/
theorem d_end (R : List (Nat × Value) → World → Prop) (hx : WpD P n (KCut n R K) c D w) (hk : ∀ D D' w, R D' w → Subl n D D' → K .normal D w) : WpD P n K c D w :=
  hx.mono (fun e D w hh => by
    cases e with
    | normal =>
      obtain ⟨D', hs, hR⟩ := hh
      exact hk D D' w hR hs
    | _ => exact hh)

theorem wrap_in {x : Int} (h0 : -9223372036854775808 ≤ x) (h1 : x ≤ 9223372036854775807) : IntKind.i64.wrap x = x := IntWalk.i64_in x ⟨h0, h1⟩
theorem wrap_in' {x : Int} (h0 : -9223372036854775808 ≤ x) (h1 : x ≤ 9223372036854775807) : wrap64 x = x := IntWalk.wrap64_in x ⟨h0, h1⟩
theorem wrap_u16 {x : Int} (h0 : 0 ≤ x) (h1 : x ≤ 65535) : IntKind.u16.wrap x = x := IntWalk.u16_in x ⟨h0, h1⟩
theorem wrap_u8 {x : Int} (h0 : 0 ≤ x) (h1 : x ≤ 255) : IntKind.u8.wrap x = x := IntWalk.u8_in x ⟨h0, h1⟩
theorem wrap_u32 {x : Int} (h0 : 0 ≤ x) (h1 : x ≤ 4294967295) : IntKind.u32.wrap x = x := IntWalk.u32_in x ⟨h0, h1⟩
theorem wrap_u64 {x : Int} (h0 : 0 ≤ x) (h1 : x ≤ 18446744073709551615) : IntKind.u64.wrap x = x := IntWalk.u64_in x ⟨h0, h1⟩
theorem rem_in {x y : Int} (h : 0 ≤ x) : x.tmod y = x % y := Int.tmod_eq_emod_of_nonneg h
theorem quo_in {x y : Int} (h : 0 ≤ x) : x.tdiv y = x / y := Int.tdiv_eq_ediv_of_nonneg h
/-! Regions. -/
theorem d_region {l : List Oper} (h : WpL P n K l.toArray l D w) : WpD P n K (.region id l.toArray false) D w := ⟨fun A hn hd => wp_region_lit (h.out A hn hd)⟩
section
variable {ops : Array Oper} {rest : List Oper} {o : Oper} {t : Nat} {v : Value} {w' : World}
theorem l_nil (h : K .normal D w) : WpL P n K ops [] D w := ⟨fun A hn hd => wpList_nil ⟨A, D, hn, hd, rfl, h⟩⟩
theorem l_off (hd : o.dst = some t) (hw : wantedD ops n D o = some false) (h : WpL P n K ops rest ((t, undef) :: D) w) : WpL P n K ops (o :: rest) D w := by
  refine ⟨fun A hn hdf => ?_⟩
  unfold wpList
  rw [if_neg (by rw [Fr_wanted hn hw]; simp), hd]
  exact h.out A hn hdf
theorem l_val (hd : o.dst = some t) (hw : wantedD ops n D o = some true) (hc : coversB n D o = true) (hx : (execOp (rho D) o).run P w = .ok (.value v) w') (h : WpL P n K ops rest ((t, v) :: D) w') : WpL P n K ops (o :: rest) D w := by
  refine ⟨fun A hn hdf => ?_⟩
  unfold wpList
  rw [if_pos (Fr_wanted hn hw)]
  refine .inl ?_
  unfold Oper.wp
  rw [Fr_eval hn hc, hx, Oper.upon_value, hd]
  exact h.out A hn hdf
theorem l_store (hd : o.dst = none) (hw : wantedD ops n D o = some true) (hc : coversB n D o = true) (hx : (execOp (rho D) o).run P w = .ok .skip w') (h : WpL P n K ops rest D w') : WpL P n K ops (o :: rest) D w := by
  refine ⟨fun A hn hdf => ?_⟩
  unfold wpList
  rw [if_pos (Fr_wanted hn hw)]
  refine .inl ?_
  unfold Oper.wp
  rw [Fr_eval hn hc, hx, Oper.upon_skip, hd]
  exact h.out A hn hdf
theorem l_none (hd : o.dst = none) (hw : wantedD ops n D o = some true) (hc : coversB n D o = true) (hx : (execOp (rho D) o).run P w = .ok (.value v) w') (h : WpL P n K ops rest D w') : WpL P n K ops (o :: rest) D w := by
  refine ⟨fun A hn hdf => ?_⟩
  unfold wpList
  rw [if_pos (Fr_wanted hn hw)]
  refine .inl ?_
  unfold Oper.wp
  rw [Fr_eval hn hc, hx, Oper.upon_value, hd]
  exact h.out A hn hdf
theorem l_call {f : FuncId} {args : Array Value} {R : Ending → World → Prop} (hd : o.dst = some t) (hw : wantedD ops n D o = some true) (hc : coversB n D o = true) (hx : (execOp (rho D) o).run P w = .ok (.enter f args) w) (hcall : Calls P f args w R)
    (hR : ∀ e w', R e w' → ∃ v, e = .returned v ∧ WpL P n K ops rest ((t, v) :: D) w') : WpL P n K ops (o :: rest) D w := by
  refine ⟨fun A hn hdf => ?_⟩
  unfold wpList
  rw [if_pos (Fr_wanted hn hw)]
  refine .inl ?_
  unfold Oper.wp
  rw [Fr_eval hn hc, hx, Oper.upon_enter]
  refine hcall.mono (fun e w' hh => ?_)
  obtain ⟨v, rfl, h2⟩ := hR e w' hh
  have := h2.out A hn hdf
  show wpList P ops (lift n K) rest ((Fr A D).put o.dst v) w'
  rw [hd]; exact this
end

/-! A region that draws. -/
theorem d_draw {ops : Array Oper} (T : Bool × List (List Nat × List Nat)) (sched : List (Nat × Nat)) (ds : List Nat) (S : World → Prop) (hm : P.follows .mixedOrders = true) (hl : (sched.length == ops.size) = true) (hT : rtab .any ops = T) (hc : schT T ds sched (List.replicate sched.length false) = true) (hS : S w.drew)
    (h : WpS P n K ops S sched D w.drew) : WpD P n K (.region id ops true) D w := ⟨fun A hn hd => wp_sch sched ds S hm hl (sch_of hT sched _ (by rw [Array.toList_replicate, ← beq_iff_eq.1 hl]; exact hc)) (fun c a d v w hh => hh.elim) hS (h.out A hn hd)⟩
section
variable {ops : Array Oper} {S : World → Prop} {i : Nat} {r : List (Nat × Nat)} {o : Oper} {t : Nat} {v : Value} {w' : World}
theorem s_done (h : K .normal D w) : WpS P n K ops S [] D w := ⟨fun A hn hd => sch_done ⟨A, D, hn, hd, rfl, h⟩⟩
theorem s_yield (ho : ops[i]? = some o) (hd : o.dst = some t) (hw : wantedD ops n D o = some true) (hc : coversB n D o = true) (hy : ∀ W : World, S W → Sem.run P (execOp (rho D) o) W = Result.ok (Next.value v) W) (h : WpS P n K ops S r ((t, v) :: D) w) : WpS P n K ops S ((0, i) :: r) D w :=
  ⟨fun A hn hdf => s2_yield hn ho hd hw hc hy (h.out A hn hdf)⟩
theorem s_off (ho : ops[i]? = some o) (hd : o.dst = some t) (hw : wantedD ops n D o = some false) (h : WpS P n K ops S r ((t, undef) :: D) w) : WpS P n K ops S ((0, i) :: r) D w :=
  ⟨fun A hn hdf => s2_off hn ho hd hw (h.out A hn hdf)⟩
theorem s_call {f : FuncId} {args : Array Value} {R : Ending → World → Prop} (ho : ops[i]? = some o) (hd : o.dst = some t) (hw : wantedD ops n D o = some true) (hc : coversB n D o = true) (hx : (execOp (rho D) o).run P w = .ok (.enter f args) w) (hcall : Calls P f args w R)
    (hR : ∀ e w', R e w' → ∃ v, e = .returned v ∧ S w' ∧ WpS P n K ops S r ((t, v) :: D) w') : WpS P n K ops S ((1, i) :: r) D w :=
  ⟨fun A hn hdf => s2_call hn ho hd hw hc hx hcall (fun e w' hh => let ⟨v, h1, h2, h3⟩ := hR e w' hh; ⟨v, h1, h2, h3.out A hn hdf⟩)⟩
theorem s_nocall (ho : ops[i]? = some o) (hd : o.dst = some t) (hw : wantedD ops n D o = some false) (hS : S w) (h : WpS P n K ops S r ((t, undef) :: D) w) : WpS P n K ops S ((1, i) :: r) D w :=
  ⟨fun A hn hdf => s2_nocall hn ho hd hw hS (h.out A hn hdf)⟩
theorem s_op (ho : ops[i]? = some o) (hd : o.dst = some t) (hw : wantedD ops n D o = some true) (hc : coversB n D o = true) (hx : (execOp (rho D) o).run P w = .ok (.value v) w') (hS : S w') (h : WpS P n K ops S r ((t, v) :: D) w') : WpS P n K ops S ((1, i) :: r) D w :=
  ⟨fun A hn hdf => s2_op hn ho hd hw hc hx hS (h.out A hn hdf)⟩
theorem s_store (ho : ops[i]? = some o) (hd : o.dst = none) (hw : wantedD ops n D o = some true) (hc : coversB n D o = true) (hx : (execOp (rho D) o).run P w = .ok .skip w') (hS : S w') (h : WpS P n K ops S r D w') : WpS P n K ops S ((1, i) :: r) D w :=
  ⟨fun A hn hdf => s2_store hn ho hd hw hc (.inl hx) hS (h.out A hn hdf)⟩
theorem s_last (ho : ops[i]? = some o) (hd : o.dst = some t) (hw : wantedD ops n D o = some true) (hc : coversB n D o = true) (hx : (execOp (rho D) o).run P w = .ok (.value v) w') (h : WpS P n K ops S r ((t, v) :: D) w') : WpS P n K ops S ((2, i) :: r) D w :=
  ⟨fun A hn hdf => s2_last hn ho hd hw hc hx (h.out A hn hdf)⟩
theorem s_laststore (ho : ops[i]? = some o) (hd : o.dst = none) (hw : wantedD ops n D o = some true) (hc : coversB n D o = true) (hx : (execOp (rho D) o).run P w = .ok .skip w') (h : WpS P n K ops S r D w') : WpS P n K ops S ((2, i) :: r) D w :=
  ⟨fun A hn hdf => s2_laststore hn ho hd hw hc (.inl hx) (h.out A hn hdf)⟩
end

/-! A function. -/
def resOne (g : Nat → Value) : ResultVar → Sem Value
  | .tmp t => pure (g t)
  | .cell a t => do loadVar t (← asAddr (g a))
def resultsG (fn : Func) (g : Nat → Value) : Sem Value := do
  let vs ← fn.results.mapM (resOne g)
  pure (if h : vs.size = 1 then vs[0] else .tuple vs)
theorem results_g (fn : Func) (tmps : Array Value) : results fn tmps = resultsG fn (fun t => tmps.getD t undef) := by
  unfold results resultsG
  congr 1
def resKnownB (n : Nat) (D : List (Nat × Value)) (fn : Func) : Bool := fn.results.toList.all fun r => match r with
  | .tmp t => (D.lookup t).isSome && decide (t < n)
  | .cell t _ => (D.lookup t).isSome && decide (t < n)
theorem results_congr (fn : Func) (g g' : Nat → Value) (h : ∀ r ∈ fn.results, match r with | .tmp t => g t = g' t | .cell t _ => g t = g' t) : resultsG fn g = resultsG fn g' := by
  have key : ∀ l : List ResultVar, (∀ r ∈ l, match r with | .tmp t => g t = g' t | .cell t _ => g t = g' t) → l.mapM (resOne g) = l.mapM (resOne g') := by
    intro l
    induction l with
    | nil => intro _; rfl
    | cons r l ih =>
      intro hl
      have hr := hl r (List.mem_cons_self ..)
      rw [List.mapM_cons, List.mapM_cons, ih (fun q hq => hl q (List.mem_cons_of_mem _ hq))]
      have : resOne g r = resOne g' r := by
        cases r with
        | tmp t => simp only at hr; simp only [resOne, hr]
        | cell t ty => simp only at hr; simp only [resOne, hr]
      rw [this]
  unfold resultsG
  cases hfr : fn.results with
  | mk l =>
    have := key l (fun r hr => h r (by rw [hfr]; exact List.mem_toArray.2 hr))
    simp only [List.mapM_toArray]
    rw [this]
def KFun (P : Program) (n : Nat) (fn : Func) (R : Ending → World → Prop) : Exit → List (Nat × Value) → World → Prop
  | .normal, D, w | .ret, D, w => resKnownB n D fn = true ∧ ∃ v, (resultsG fn (fun t => rho D (.tmp t))).run P w = .ok v w ∧ R (.returned v) w
  | _, _, _ => False
theorem d_calls {f : FuncId} {fn : Func} {c : Code} {args : Array Value} {R : Ending → World → Prop} (hf : P.funcs[f]? = some fn) (hb : fn.body = some c) (hn : fn.ntmps = n) (hsz : args.size ≤ n) (D : List (Nat × Value)) (hD : ∀ p ∈ D, args[p.1]? = some p.2)
    (h : WpD P n (KFun P n fn R) c D w) : Calls P f args w R := by
  refine calls_of_wp hf hb ?_
  have e : Fr ({ tmps := args ++ Array.replicate (fn.ntmps - args.size) undef, defers := [] } : Act) D = { tmps := args ++ Array.replicate (fn.ntmps - args.size) undef, defers := [] } :=
    Fr_same _ _ (fun p hp => by
      have := hD p hp
      have hlt : p.1 < args.size := (Array.getElem?_eq_some_iff.1 this).1
      show (args ++ _)[p.1]? = _
      rw [Array.getElem?_append_left hlt]; exact this)
  rw [← e]
  refine wp_mono (h.out _ (by simp; omega) rfl) (fun e a w hh => ?_)
  have fin : ∀ A D w, A.tmps.size = n → A.defers = [] → (resKnownB n D fn = true ∧ ∃ v, (resultsG fn (fun t => rho D (.tmp t))).run P w = .ok v w ∧ R (.returned v) w) → (Fr A D).defers = [] ∧ ∃ v, (results fn (Fr A D).tmps).run P w = .ok v w ∧ R (.returned v) w := by
    rintro A D w h1 h2 ⟨hk, v, hv, hR⟩
    refine ⟨by rw [Fr_defers, h2], v, ?_, hR⟩
    rw [results_g, results_congr fn _ (fun t => rho D (.tmp t)) (fun r hr => ?_)]
    · exact hv
    · have hk' := (List.all_eq_true.1 hk) r (Array.mem_toList_iff.2 hr)
      have look : ∀ t, ((D.lookup t).isSome && decide (t < n)) = true → (Fr A D).tmps.getD t undef = rho D (.tmp t) := fun t ht => by
        have := rho_eval (o := .tmp t) h1 ht
        exact this
      cases r with
      | tmp t => exact look t hk'
      | cell t ty => exact look t hk'
  cases e with
  | normal => obtain ⟨A, D, h1, h2, rfl, hh⟩ := hh; exact fin A D w h1 h2 hh
  | ret => obtain ⟨A, D, h1, h2, rfl, hh⟩ := hh; exact fin A D w h1 h2 hh
  | exit id => obtain ⟨A, D, h1, h2, rfl, hh⟩ := hh; exact hh.elim
  | goto l => exact hh.elim
  | panic ch => exact hh.elim
  | outgrown => exact hh.elim
end
end Go.Proofs.Ytienodnkfohakaa
