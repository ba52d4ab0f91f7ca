import Derived.Test.YtbcjmgocdplfnaaIter1
import Derived.Test.YtbcjmgocdplfnaaHas
import Derived.Shelf.AbstractIn
import Derived.Shelf.Abstract
import Derived.RangeFuncSeq
import Derived.RangeFuncGives
import Derived.RangeFuncBound
import Derived.Sort.MapsRangeIn
import Derived.Maps.AppendAt
import Derived.RangeFuncBox
import Derived.RangeFuncFrom
import Derived.RangeFuncLeaves
import Derived.WalkKit
import Derived.OwnWalkIn
import Derived.TacticsInMore
import Derived.RegionIn
import Derived.LoopNIn
import Derived.LoopIn
namespace Go.Proofs.Ytbcjmgocdplfnaa
set_option linter.unusedVariables false
set_option linter.unusedSimpArgs false
open Go.RowKit Go.Shelf
attribute [local go_sem] Oper.semAt_some
section
variable {F : Fence} {n : Nat} {P : Program} {ops : Array Oper} {Q : Exit → Act → World → Prop} {rest : List Oper} {o : Oper} {a : Act} {w : World}
/-- 'range' over a map, by its run. -/
theorem li_range (hg : o.guard = none) (m : Operand) (t : TypeId) (hop : o.op = Op.range t m) (mv v : Value) (w' : World) (hm : a.eval m = mv) (hrun : (Instr.range t mv).run P w = .ok v w') (hK : wpListIn F n P ops Q rest (a.put o.dst v) w') : wpListIn F n P ops Q (o :: rest) a w := by
  refine wpListIn_plain hg fun K' hK' => ?_
  unfold Oper.wpIn
  refine ⟨by simp [Oper.about, hop], ?_⟩
  rw [Oper.semAt_plain F _ _ (by rw [hop]; intro c hc'; cases hc')]
  simp [execOp, hop, hm, hrun, Result.andThen]
  exact hK' _ _ hK
/-- 'next', by its run. -/
theorem li_next (hg : o.guard = none) (it : Operand) (hop : o.op = Op.next it false) (iv v : Value) (w' : World) (hit : a.eval it = iv) (hrun : (Instr.next iv false o.type).run P w = .ok v w') (hK : wpListIn F n P ops Q rest (a.put o.dst v) w') : wpListIn F n P ops Q (o :: rest) a w := by
  refine wpListIn_plain hg fun K' hK' => ?_
  unfold Oper.wpIn
  refine ⟨by simp [Oper.about, hop], ?_⟩
  rw [Oper.semAt_plain F _ _ (by rw [hop]; intro c hc'; cases hc')]
  simp [execOp, hop, hit, hrun, Result.andThen]
  exact hK' _ _ hK
end
theorem grownBy_put (w : World) (r : Nat) (o : Obj) : w.grownBy (putObj w r o) (some r) := ⟨rfl, rfl, rfl, by simp [putObj], fun k _ hk => putObj_there _ _ _ _ (fun e => hk (by rw [e]))⟩
theorem grownBy_put2 (w : World) (r : Nat) (o : Obj) : w.grownBy (putObj w.drew r o) (some r) := ⟨rfl, rfl, rfl, by simp [putObj], fun k _ hk => putObj_there _ _ _ _ (fun e => hk (by rw [e]))⟩
/-- How many an iterator has handed out. -/
def cameIn (w : World) (r : Nat) : Nat := match w.heap[r]? with | some (.mapIter _ _ seen _) => seen.size | _ => 0
theorem ItR.came {w : World} {r b clock : Nat} {k : IntKind} {es come : List (Int × Value × Nat)} (h : ItR w r b k es clock come) : cameIn w r = come.length := by
  obtain ⟨c0, -, h2⟩ := h.it
  simp [cameIn, h2]
theorem kw_map {W W' : World} (h : KeepsWalks W W') {r : Nat} {o : Obj} (hr : W.heap[r]? = some o) (ho : o.isWalk = true) : W'.heap[r]? = some o := h.same _ _ hr ho
set_option maxRecDepth 100000 in
set_option maxHeartbeats 2000000 in
/-- The iterator of maps.Keys: the keys come, each once, in some order. -/
theorem keysIt_in (F : Fence) (n : Nat) (hF : F.fn 33) (hro : F.round = none) (hn : 1 ≤ n) (l Bm b : Nat) (es : List (Int × Value × Nat)) (clock : Nat) (hg : EGood es clock) (J Jx : List Int → World → Prop)
    (hY : ∀ pre x W, J pre W → pre.length < es.length → YieldAt F (n - 1) Try.prog l #[.int .u16 x] W fun e W' => (e = .returned (.bool true) ∧ J (pre ++ [x]) W' ∧ KeepsWalks W W') ∨ (e = .returned (.bool false) ∧ Jx (pre ++ [x]) W'))
    (W : World) (hJ : AbidesFrom W.heap.size J) (hm : W.cell? ⟨Bm, 0, none⟩ = some (.map (some b))) (hb : W.heap[b]? = some (.map (ents .u16 es) clock)) (h0 : J [] W) :
    CallsIn F n Try.prog 33 #[.func (.yield l) #[] #[], .pointer (some ⟨Bm, 0, none⟩)] W fun e W' => (∃ v, e = .returned v) ∧ ((∃ ss : List Int, ss.Perm (es.map (·.1)) ∧ J ss W') ∨ (∃ pre : List Int, True ∧ Jx pre W')) := by
  refine callsIn_of_wp Try.func33 rfl hF ?_ hro
  simp only [Try.ntmps33, List.size_toArray, List.length_cons, List.length_nil, Nat.reduceAdd, Nat.reduceSub, Array.replicate_succ, Array.replicate_zero, List.push_toArray, List.append_toArray, List.nil_append, List.cons_append]
  have hrb : W.heap.size ≠ b := by have := lt_of_block hb; omega
  have hst := ItR.start (P := Try.prog) 42 _ _ Try.underlying42 hb
  gi_wp2_with (gi_at_range; refine li_range rfl _ _ rfl _ _ _ rfl hst.1 ?_)
  go_frame
  gi_loopw [3] (fun _ wr => ∃ come : List (Int × Value × Nat), ItR wr W.heap.size b .u16 es clock come ∧ J (come.map (·.1)) wr)
    (fun _ wr => es.length - cameIn wr W.heap.size)
  case atStart =>
    exact ⟨[], hst.2, hJ [] W _ none h0 (World.grownBy_alloc W _ none) (fun r e => by cases e)⟩
  case round =>
    obtain ⟨come, hi, hj⟩ := hrel
    rcases hi.next (P := Try.prog) hg hrb 0 with ⟨hperm, hrun⟩ | ⟨p, hp, w1, hw1, hrun, hi2, hlen, hen⟩
    · gi_wp2_with (gi_at_next; refine li_next rfl _ rfl _ _ _ rfl hrun ?_)
      go_end0
      exact ⟨⟨_, rfl⟩, .inl ⟨_, hperm.map _, hj⟩⟩
    · obtain ⟨W2, hW2⟩ : ∃ W2, putObj w1 W.heap.size (.mapIter (some b) clock ((come ++ [p]).map (·.2.2)).toArray clock) = W2 := ⟨_, rfl⟩
      have hg2 : wr.grownBy W2 (some W.heap.size) := by
        rw [← hW2]
        rcases hw1 with rfl | rfl
        · exact grownBy_put _ _ _
        · exact grownBy_put2 wr _ _
      rw [hW2] at hrun hi2 hen
      obtain ⟨c0, -, hit⟩ := hi.it
      have hj2 : J (come.map (·.1)) W2 := hJ _ wr W2 _ hj hg2 (fun r e => by cases e; exact ⟨Nat.le_refl _, _, hit, rfl⟩)
      obtain ⟨fn, tmps, assign, body, hy, hR⟩ := hY (come.map (·.1)) p.1 W2 hj2 (by simpa using hlen)
      have hmeas : cameIn wr W.heap.size = come.length := hi.came
      clear hi hst hW2 hg2 hit
      gi_wp2_with (gi_at_next; refine li_next rfl _ rfl _ _ _ rfl hrun ?_)
      refine hR.mono ?_
      rintro e W3 (⟨rfl, hJ3, hk3⟩ | ⟨rfl, hx3⟩)
      rotate_left
      · gi_wp2
        refine bodyPost_ret (results_none rfl _ _ _) rfl ?_
        exact ⟨⟨_, rfl⟩, .inr ⟨_, trivial, hx3⟩⟩
      have hi3 : ItR W3 W.heap.size b .u16 es clock (come ++ [p]) := by
        obtain ⟨c1, hc1, h2⟩ := hi2.it
        exact hi2.moved ((kw_map hk3 h2 rfl).trans h2.symm) ((kw_map hk3 hi2.map rfl).trans hi2.map.symm)
      gi_wp2
      go_roundw
      case rel => exact ⟨come ++ [p], hi3, by rw [List.map_append]; exact hJ3⟩
      case measure => rw [hi3.came, hmeas, List.length_append, List.length_singleton]; omega
theorem Try.infoU16 : (Try.prog.info? 29).map (fun i => (i.zero, i.size, i.bytes)) = some (some (.int .u16 0), 1, 2) := by kernel_rfl
/-- What maps.Keys hands back. -/
theorem keys_stops (F : Fence) (n : Nat) (hF : F.fn 33) (hro : F.round = none) (hn : 1 ≤ n) (Bm b : Nat) (es : List (Int × Value × Nat)) (clock : Nat) (hg : EGood es clock) (w : World)
    (hm : w.cell? ⟨Bm, 0, none⟩ = some (.map (some b))) (hb : w.heap[b]? = some (.map (ents .u16 es) clock)) :
    SeqStopsK F n Try.prog 33 #[.pointer (some ⟨Bm, 0, none⟩)] (fun x : Int => #[Value.int .u16 x]) KeepsWalks (fun ss => ss.Perm (es.map (·.1))) (fun _ => True) es.length w := fun l J Jx W hW hJ _ hY h0 =>
  keysIt_in F n hF hro hn l Bm b es clock hg J Jx hY W hJ ((hW.cell (p := ⟨Bm, 0, none⟩) (World.block_lt_of_cell? _ _ hm)).trans hm) ((hW.block b (lt_of_block hb)).trans hb) h0
theorem keeps_walks {W W' : World} (h : KeepsOthers W W') : KeepsWalks W W' := ⟨h.size, fun k o hk ho => h.same k o hk (Obj.not_cells_of_walk ho)⟩
set_option maxRecDepth 100000 in
set_option maxHeartbeats 2000000 in
/-- slices.AppendSeq(nil, maps.Keys(m)). -/
theorem apSeq_in (F : Fence) (n : Nat) (hA : F.fn 34) (hF : F.fn 33) (hro : F.round = none) (hn : 3 ≤ n) (Bm b : Nat) (es : List (Int × Value × Nat)) (clock : Nat) (hg : EGood es clock) (hlen : es.length ≤ 1000) (w : World)
    (hm : w.cell? ⟨Bm, 0, none⟩ = some (.map (some b))) (hb : w.heap[b]? = some (.map (ents .u16 es) clock)) :
    CallsIn F n Try.prog 34 #[.slice none 0 0, .func (.func 33) #[] #[.pointer (some ⟨Bm, 0, none⟩)]] w fun e W' => ∃ (v : Value) (ss : List Int), e = .returned v ∧ ss.Perm (es.map (·.1)) ∧ W'.ownsRow w.heap.size 29 1 v ss.length (ss.map (Value.int .u16)) ∧ Below w.heap.size w W' := by
  have h1 : 1 ≤ n := by omega
  obtain ⟨i0, hi, hz0, hz1, hz2⟩ := info_parts Try.infoU16
  refine callsIn_of_wp_marks Try.func34 rfl hA ?_ hro
  simp only [Try.ntmps34, List.size_toArray, List.length_cons, List.length_nil, Nat.reduceAdd, Nat.reduceSub, Array.replicate_succ, Array.replicate_zero, List.push_toArray, List.append_toArray, List.nil_append, List.cons_append]
  gi_wp2
  have bO := Boxed.new w 49 (.slice none 0 0)
  have hB0 : Below w.heap.size w (w.alloc (.cells #[.slice none 0 0] 49)) := (Below.refl _ w).alloc (Nat.le_refl _) _
  have hbl := lt_of_block hb
  have hml := World.block_lt_of_cell? _ _ hm
  refine wpIn_rangeFunc_ownF hro h1 (gf := 33) (lb := #[.pointer (some ⟨Bm, 0, none⟩)]) rfl hF (enters_of Try.func33 (by kernel_rfl) rfl)
    (keys_stops F (n - 1) hF hro (by omega) Bm b es clock hg _ ((hB0.cell (p := ⟨Bm, 0, none⟩) hml).trans hm) ((hB0.block b hbl).trans hb)) walksK_t walksK_b (Below.refl _ _) (fun _ => rfl)
    (fun pre W => (∃ v, Boxed W w.heap.size 49 v ∧ W.ownsRow w.heap.size 29 1 v pre.length (pre.map (Value.int .u16)) ∧ True) ∧ Below w.heap.size w W)
    (fun _ _ _ => False)
    (OwnFrom.and (Own.from (holdsRow_own w.heap.size w.heap.size 49 29 1 (fun pre : List Int => pre.length) (fun pre : List Int => pre.map (Value.int .u16)) (fun (_ : List Int) _ => True)) _) (ownFrom_below (Nat.le_refl _) (by simp)))
    (fun _ _ _ _ _ hs _ _ => hs)
    ⟨⟨_, bO, World.ownsRow_nil _ _ _ _, trivial⟩, hB0⟩
    (fun x => { tmps := #[.slice none 0 0, .func (.func 33) #[] #[.pointer (some ⟨Bm, 0, none⟩)], .pointer (some ⟨w.heap.size, 0, none⟩), undef, .slice none 0 0, .int .u16 x, .func (.func 33) #[] #[.pointer (some ⟨Bm, 0, none⟩)], .int .u16 x, undef, undef, undef, undef, undef], defers := [] }) ?assign ?body ?done ?stop
  case assign =>
    intro l x W K hK
    gi_wp2
    exact hK
  case body =>
    rintro l pre x W ⟨⟨v, hv, hrow, -⟩, hB⟩ hlt
    have hc := hv.cell
    gi_wp2_with (gi_at_builtin; refine wpListIn_append_own _ rfl _ _ 49 rfl w.heap.size 29 i0 (.int .u16 0) 1 2 Try.underlying49 hi hz0 hz1 hz2 rfl (by decide) _ _ _ rfl (hrow.alloc _) ⟨W.heap.size, 0, none⟩ 1 1 [.int .u16 x] rfl rfl (cell_one_new _ _ _) (by simp [Value.oneCell']) (by unfold maxLen; omega) (by omega) (by have := hB.size; simp; omega) ?_; intro v' w1 hown' hgrow _; obtain ⟨g', cap', rfl⟩ := ownsRow_succ hown'; obtain ⟨hv1, hv2, hr2, hk2, hb2⟩ := hv.appended (by decide) hrow hB.size (Nat.le_refl _) hown' hgrow; have hc1 := hv1.cell; have hf1 := hv1.frozen)
    exact ⟨hk2, keeps_walks hk2, ⟨_, hv2, by simp only [List.length_append, List.length_singleton, List.map_append, List.map_cons, List.map_nil]; exact hr2⟩, hB.trans hb2⟩
  case done =>
    rintro D ys W hD hperm ⟨⟨v, hv, hrow, -⟩, hB⟩ hK
    have hc := hv.cell
    gi_wp2
    refine ⟨by simp, .inl ⟨_, _, rfl, run_takeDeferred hK, ?_⟩⟩
    exact ⟨_, results_tmp rfl _ _ _, v, rfl, ys, hperm, ownsRow_putObj hrow _ hK rfl, hB.trans (belowK_b (w := w) (Nat.le_refl _) W D _ _ (by simp at hD; omega) hK rfl rfl)⟩
  case stop =>
    rintro D c pre W _ _ h _
    exact h.elim
end Go.Proofs.Ytbcjmgocdplfnaa
