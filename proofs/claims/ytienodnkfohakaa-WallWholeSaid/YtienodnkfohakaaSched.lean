import Derived.Test.YtienodnkfohakaaWLast
import Derived.Test.YtienodnkfohakaaBase
namespace Go.Proofs.Ytienodnkfohakaa
set_option linter.unusedVariables false
set_option linter.unusedSimpArgs false
open Go.Proofs.YtienodnkfohakaaW.PrintLast

/-- May the operations come up in this order, the ones marked 0 wherever they may, the one marked 1 alone, the one marked 2 alone and last? -/
def schB (md : Region.Mode) (ops : Array Oper) (ds : List Nat) : List (Nat × Nat) → Array Bool → Bool
  | [], l => Region.ready md ops l == []
  | (0, i) :: r, l => Region.noSelect ops && Region.free md ops l i && (Region.ready md ops l).contains i && Region.closedB md ops l && Region.lastB md ops l ds i && schB md ops ds r (l.setIfInBounds i true)
  | (1, i) :: r, l => (Region.ready md ops l == [i]) && !ds.contains i && schB md ops ds r (l.setIfInBounds i true)
  | (_, i) :: r, l => (Region.ready md ops l == [i]) && ds.contains i && r.isEmpty && schB md ops ds r (l.setIfInBounds i true)

def wpSch (P : Program) (ops : Array Oper) (Q : Exit → Act → World → Prop) (S : World → Prop) : List (Nat × Nat) → Act → World → Prop
  | [], a, w => Q .normal a w
  | (0, i) :: r, a, w => ∃ oi v, ops[i]? = some oi ∧ YieldsIf P ops S oi v a ∧ wpSch P ops Q S r (a.put oi.dst v) w
  | (1, i) :: r, a, w => ∃ oi, ops[i]? = some oi ∧ ∀ K : Act → World → Prop, Shut (∀ a' w', S w' → wpSch P ops Q S r a' w' → K a' w') → if Region.wanted oi (yielded ops a.tmps) = true then Oper.wp P oi a w K Q else K (a.put oi.dst undef) w
  | (_, i) :: r, a, w => ∃ oi, ops[i]? = some oi ∧ ∀ K : Act → World → Prop, Shut (∀ a' w', wpSch P ops Q S r a' w' → K a' w') → if Region.wanted oi (yielded ops a.tmps) = true then Oper.wp P oi a w K Q else K (a.put oi.dst undef) w

section
variable {P : Program} {ops : Array Oper} {Q : Exit → Act → World → Prop} {md : Region.Mode} {S : World → Prop} {ds : List Nat}

theorem wpSch_last (hQ : ∀ c (a : Act) d v w, Q (.panic c) (a.put d v) w → Q (.panic c) a w) : ∀ (sched : List (Nat × Nat)) (l : Array Bool) (a : Act) (w : World), schB md ops ds sched l = true → S w → wpSch P ops Q S sched a w → wpAnyLast P md ops Q S ds sched.length l a w
  | [], l, a, w, hc, _, h => wpAnyLast_done (by simpa [schB] using hc) h 0
  | (0, i) :: r, l, a, w, hc, hS, h => by
    simp only [schB, Bool.and_eq_true] at hc
    obtain ⟨⟨⟨⟨⟨h1, h2⟩, h3⟩, h4⟩, h5⟩, h6⟩ := hc
    obtain ⟨oi, v, ho, hy, hr⟩ := h
    exact wpAnyLast_take ho h1 h2 h3 h4 h5 (fun c a w => hQ c a oi.dst v w) hy hS (wpSch_last hQ r _ _ w h6 hS hr)
  | (1, i) :: r, l, a, w, hc, hS, h => by
    simp only [schB, Bool.and_eq_true, beq_iff_eq] at hc
    obtain ⟨⟨h1, h2⟩, h3⟩ := hc
    obtain ⟨oi, ho, hr⟩ := h
    refine wpAnyLast_ready h1 (by simp) (AllReadyL.cons ho (by simpa using h2) (fun K hK => hr K (fun a' w' hS' h' => hK a' w' hS' (fun _ => wpSch_last hQ r _ a' w' h3 hS' h'))) AllReadyL.nil)
  | (k + 2, i) :: r, l, a, w, hc, hS, h => by
    simp only [schB, Bool.and_eq_true, beq_iff_eq] at hc
    obtain ⟨⟨⟨h1, h2⟩, h4⟩, h3⟩ := hc
    obtain ⟨oi, ho, hr⟩ := h
    obtain rfl : r = [] := by simpa using h4
    refine wpAnyLast_ready h1 (by simp) (AllReadyL.cons_last ho (by simpa using h2) (fun K hK => hr K (fun a' w' h' => hK a' w' (wpAnyLast_done (by simpa [schB] using h3) h' 0))) AllReadyL.nil)

theorem wp_sch {id : Nat} {a : Act} {w : World} (sched : List (Nat × Nat)) (ds : List Nat) (S : World → Prop) (hm : P.follows .mixedOrders = true) (hn : (sched.length == ops.size) = true) (hc : schB .any ops ds sched (Array.replicate ops.size false) = true) (hQ : ∀ c (a : Act) d v w, Q (.panic c) (a.put d v) w → Q (.panic c) a w)
    (hS : S w.drew) (h : wpSch P ops Q S sched a w.drew) : (Code.region id ops true).wp P Q a w :=
  wp_region_last_drew (ds := ds) hm hS (fun hS => by
    have := wpSch_last (P := P) (ds := ds) hQ sched _ a w.drew hc hS h
    rw [beq_iff_eq.1 hn] at this
    exact this)

theorem sch_yield {i : Nat} {r : List (Nat × Nat)} {oi : Oper} {N : Option Tmp} {v : Value} {a : Act} {w : World} (ho : ops[i]? = some oi) (hN : oi.dst = N) (hw : Region.wanted oi (yielded ops a.tmps) = true) (hy : ∀ w : World, S w → Sem.run P (execOp a.eval oi) w = Result.ok (Next.value v) w) (h : wpSch P ops Q S r (a.put N v) w) : wpSch P ops Q S ((0, i) :: r) a w :=
  ⟨oi, v, ho, .inl ⟨hw, hy⟩, by rw [hN]; exact h⟩
theorem sch_off {i : Nat} {r : List (Nat × Nat)} {oi : Oper} {N : Option Tmp} {a : Act} {w : World} (ho : ops[i]? = some oi) (hN : oi.dst = N) (hw : Region.wanted oi (yielded ops a.tmps) = false) (h : wpSch P ops Q S r (a.put N undef) w) : wpSch P ops Q S ((0, i) :: r) a w :=
  ⟨oi, undef, ho, .inr ⟨hw, rfl⟩, by rw [hN]; exact h⟩
theorem sch_done {a : Act} {w : World} (h : Q .normal a w) : wpSch P ops Q S [] a w := h
theorem sch_run {i : Nat} {r : List (Nat × Nat)} {oi : Oper} {a : Act} {w : World} (ho : ops[i]? = some oi) (h : ∀ K : Act → World → Prop, Shut (∀ a' w', S w' → wpSch P ops Q S r a' w' → K a' w') → if Region.wanted oi (yielded ops a.tmps) = true then Oper.wp P oi a w K Q else K (a.put oi.dst undef) w) : wpSch P ops Q S ((1, i) :: r) a w := ⟨oi, ho, h⟩
theorem sch_store {i : Nat} {r : List (Nat × Nat)} {oi : Oper} {a : Act} {w : World} (ho : ops[i]? = some oi) (h : ∀ K : Act → World → Prop, Shut (∀ a' w', wpSch P ops Q S r a' w' → K a' w') → if Region.wanted oi (yielded ops a.tmps) = true then Oper.wp P oi a w K Q else K (a.put oi.dst undef) w) : wpSch P ops Q S ((2, i) :: r) a w := ⟨oi, ho, h⟩
theorem sch_call {i : Nat} {r : List (Nat × Nat)} {oi : Oper} {a : Act} {w : World} {f : FuncId} {args : Array Value} {R : Ending → World → Prop} (ho : ops[i]? = some oi) (hw : Region.wanted oi (yielded ops a.tmps) = true)
    (hx : (execOp a.eval oi).run P w = .ok (.enter f args) w) (hc : Calls P f args w R) (hR : ∀ e w', R e w' → ∃ v, e = .returned v ∧ S w' ∧ wpSch P ops Q S r (a.put oi.dst v) w') : wpSch P ops Q S ((1, i) :: r) a w :=
  ⟨oi, ho, fun K hK => by
    rw [if_pos hw]
    unfold Oper.wp
    rw [hx, Oper.upon_enter]
    refine hc.mono (fun e w' h => ?_)
    obtain ⟨v, rfl, hs, h⟩ := hR e w' h
    exact hK _ _ hs h⟩
end
end Go.Proofs.Ytienodnkfohakaa
