import Derived.Test.YtienodnkfohakaaWal1
import Derived.Shelf.AbstractIn
import Derived.Shelf.Abstract
import Derived.RangeFuncSeq
import Derived.RangeFuncGives
import Derived.RangeFuncBound
import Derived.Sort.MapsRangeIn
import Derived.Maps.AppendAt
import Derived.RangeFuncBox
import Derived.RangeFuncFrom
import Derived.RangeFuncLeaves
import Derived.RangeFuncKeeps
import Derived.RangeFuncNested
import Derived.WalkKit
import Derived.OwnWalkIn
import Derived.TacticsInMore
import Derived.RegionIn
import Derived.LoopNIn
import Derived.LoopIn
namespace Go.Proofs.Ytienodnkfohakaa
set_option linter.unusedVariables false
set_option linter.unusedSimpArgs false
attribute [local go_sem] rho_const rho_func rho_hit rho_miss
open Go.RowKit Go.Shelf
attribute [local go_sem] Oper.semAt_some
def Ln.val (x : Ln) : Value := .agg #[.int .u16 x.item, .int .u16 x.loc, .int .i64 x.qty]
/-- The lines lie behind A, below n₀. -/
def LnsAt (w : World) (n₀ : Nat) (A : Option Addr) (ls : List Ln) : Prop := ∀ (k : Nat) (y : Ln), ls[k]? = some y → ∃ g o, A = some ⟨g, o, none⟩ ∧ g < n₀ ∧ w.cell? ⟨g, o + k * 3, none⟩ = some (.int .u16 y.item) ∧ w.cell? ⟨g, o + k * 3 + 1, none⟩ = some (.int .u16 y.loc) ∧ w.cell? ⟨g, o + k * 3 + 2, none⟩ = some (.int .i64 y.qty)
theorem LnsAt.below {n₀ : Nat} {A B : World} {p : Option Addr} {ls : List Ln} (h : LnsAt A n₀ p ls) (hb : Below n₀ A B) : LnsAt B n₀ p ls := fun k y hy => by
  obtain ⟨g, o, e, hg, a, b, c⟩ := h k y hy
  exact ⟨g, o, e, hg, (hb.cell (p := ⟨g, _, none⟩) hg).trans a, (hb.cell (p := ⟨g, _, none⟩) hg).trans b, (hb.cell (p := ⟨g, _, none⟩) hg).trans c⟩
theorem lnsAt_of {w : World} {F : Nat → Prop} {A : Option Addr} {n c : Nat} {ls : List Ln} (h : SeesIn w F 3 (.slice A n c) n (lns ls)) (hn : n = ls.length) : LnsAt w w.heap.size A ls := fun k y hy => by
  obtain ⟨g, o, c', e, h1, h2, hF, hg, hc⟩ := sees_get (enc := Ln.cs) Ln.three h hn hy
  simp only [Value.slice.injEq, true_and] at e
  obtain ⟨rfl, rfl⟩ := e
  exact ⟨g, o, rfl, hg, hc 0 _ rfl, by rw [Nat.add_assoc]; exact hc 1 _ rfl, by rw [Nat.add_assoc]; exact hc 2 _ rfl⟩
set_option maxRecDepth 100000 in
set_option maxHeartbeats 2000000 in
/-- The iterator of slices.Values. -/
theorem valIt_in (F : Fence) (n : Nat) (hV : F.fn 53) (hro : F.round = none) (hn : 1 ≤ n) (l Bs n₀ cap : Nat) (A : Option Addr) (ls : List Ln) (hl : ls.length ≤ 1000) (J Jx : List Ln → World → Prop)
    (hY : ∀ pre (x : Ln) W, J pre W → pre.length < ls.length → YieldAt F (n - 1) Try.prog l #[x.val] W fun e W' => (e = .returned (.bool true) ∧ J (pre ++ [x]) W' ∧ Below n₀ W W') ∨ (e = .returned (.bool false) ∧ Jx (pre ++ [x]) W'))
    (W : World) (hn0 : n₀ ≤ W.heap.size) (hJ : AbidesFrom W.heap.size J) (hBs : W.cell? ⟨Bs, 0, none⟩ = some (.slice A ls.length cap)) (hc : LnsAt W n₀ A ls) (h0 : J [] W) :
    CallsIn F n Try.prog 53 #[.func (.yield l) #[] #[], .pointer (some ⟨Bs, 0, none⟩)] W fun e W' => (∃ v, e = .returned v) ∧ (J ls W' ∨ (∃ pre : List Ln, True ∧ Jx pre W')) := by
  refine callsIn_of_wp Try.func53 rfl hV ?_ hro
  simp only [Try.ntmps53, List.size_toArray, List.length_cons, List.length_nil, Nat.reduceAdd, Nat.reduceSub, Array.replicate_succ, Array.replicate_zero, List.push_toArray, List.append_toArray, List.nil_append, List.cons_append]
  gi_wp2
  gi_loopw [7] (fun i wr => ∃ k : Nat, k ≤ ls.length ∧ i = .int .i64 k ∧ J (ls.take k) wr ∧ Below n₀ W wr ∧ W.heap.size ≤ wr.heap.size)
    (fun i _ => ls.length - (intOf i).toNat)
  case atStart => exact ⟨0, Nat.zero_le _, rfl, h0, Below.refl _ _, Nat.le_refl _⟩
  case round =>
    obtain ⟨k, hk, rfl, hJs, hnx, hsz⟩ := hrel
    by_cases hlt : k < ls.length
    · obtain ⟨y, hy⟩ : ∃ y, ls[k]? = some y := ⟨_, List.getElem?_eq_getElem hlt⟩
      obtain ⟨g, o, rfl, hg, d0, d1, d2⟩ := (hc.below hnx) k y hy
      have htk : ls.take (k + 1) = ls.take k ++ [y] := by rw [List.take_add_one, hy]; rfl
      have hlt' : decide (((k : Nat) : Int) < ((ls.length : Nat) : Int)) = true := decide_eq_true (by omega)
      obtain ⟨W2, hW2⟩ : ∃ W2, wr.alloc (.cells #[.int .u16 y.item, .int .u16 y.loc, .int .i64 y.qty] 35) = W2 := ⟨_, rfl⟩
      have hj2 : J (ls.take k) W2 := hJ _ wr W2 none hJs (by rw [← hW2]; exact World.grownBy_alloc _ _ none) (fun r e => by cases e)
      obtain ⟨fn, tmps, assign, body, hyy, hR⟩ := hY (ls.take k) y W2 hj2 (by rw [List.length_take]; omega)
      obtain ⟨c0, c1, c2, -⟩ := blk3 ((congrArg (·.heap[wr.heap.size]?) hW2.symm).trans (heap_alloc_new wr (.cells #[.int .u16 y.item, .int .u16 y.loc, .int .i64 y.qty] 35)))
      have hb2 : Below n₀ wr W2 := by rw [← hW2]; exact (Below.refl _ wr).alloc (by omega) _
      have hs2 : wr.heap.size ≤ W2.heap.size := hb2.size
      unfold Ln.val at hyy
      gi_wp2
      refine hR.mono ?_
      rintro e W3 (⟨rfl, hJ3, hk3⟩ | ⟨rfl, hx3⟩)
      · gi_wp2
        go_roundw
        case rel => exact ⟨k + 1, by omega, by simp, by rw [htk]; exact hJ3, (hnx.trans hb2).trans hk3, by have := hk3.size; omega⟩
        case measure => simp [intOf]; omega
      · gi_wp2
        refine bodyPost_ret (results_none rfl _ _ _) rfl ?_
        exact ⟨⟨_, rfl⟩, .inr ⟨_, trivial, hx3⟩⟩
    · obtain rfl : k = ls.length := by omega
      rw [List.take_length] at hJs
      gi_wp2
      go_end0
      exact ⟨⟨_, rfl⟩, .inl hJs⟩
/-- What slices.Values hands back. -/
theorem val_stops (F : Fence) (n : Nat) (hV : F.fn 53) (hro : F.round = none) (hn : 1 ≤ n) (Bs n₀ cap : Nat) (A : Option Addr) (ls : List Ln) (hl : ls.length ≤ 1000) (w : World) (hn0 : n₀ ≤ w.heap.size) (hBs : w.cell? ⟨Bs, 0, none⟩ = some (.slice A ls.length cap)) (hc : LnsAt w n₀ A ls) :
    SeqStopsK F n Try.prog 53 #[.pointer (some ⟨Bs, 0, none⟩)] (fun x : Ln => #[x.val]) (Below n₀) (fun xs => xs = ls) (fun _ => True) ls.length w := fun l J Jx W hW hJ _ hY h0 =>
  (valIt_in F n hV hro hn l Bs n₀ cap A ls hl J Jx hY W (by have := hW.size; omega) hJ ((hW.cell (p := ⟨Bs, 0, none⟩) (World.block_lt_of_cell? _ _ hBs)).trans hBs) (hc.below (hW.mono hn0)) h0).mono fun e W' h => ⟨h.1, h.2.elim (fun hj => .inl ⟨_, rfl, hj⟩) .inr⟩
theorem Try.infoLine : (Try.prog.info? 35).map (fun i => (i.zero, i.size, i.bytes)) = some (some (.agg #[.int .u16 0, .int .u16 0, .int .i64 0]), 3, 16) := by kernel_rfl
theorem cell3_new (w : World) (x y z : Value) (t : TypeId) : ∀ j u, [x, y, z][j]? = some u → (w.alloc (.cells #[x, y, z] t)).cell? ((⟨w.heap.size, 0, none⟩ : Addr).add j) = some u := by
  intro j u hj
  obtain ⟨c0, c1, c2, -⟩ := blk3 (heap_alloc_new w (.cells #[x, y, z] t))
  match j, hj with
  | 0, hj => simp only [List.getElem?_cons_zero, Option.some.injEq] at hj; subst hj; exact c0
  | 1, hj => simp only [List.getElem?_cons_succ, List.getElem?_cons_zero, Option.some.injEq] at hj; subst hj; exact c1
  | 2, hj => simp only [List.getElem?_cons_succ, List.getElem?_cons_zero, Option.some.injEq] at hj; subst hj; exact c2
/-- A line's own variable. -/
def LnBox (W : World) (B : Nat) (x : Ln) : Prop := W.heap[B]? = some (.cells #[.int .u16 x.item, .int .u16 x.loc, .int .i64 x.qty] 35)
set_option maxRecDepth 100000 in
set_option maxHeartbeats 2000000 in
/-- slices.AppendSeq(nil, slices.Values(l)). -/
theorem apSeq_in (F : Fence) (n : Nat) (hA : F.fn 55) (hF : F.fn 53) (hro : F.round = none) (hn : 3 ≤ n) (Bs cap : Nat) (A : Option Addr) (ls : List Ln) (hl : ls.length ≤ 1000) (w : World)
    (hBs : w.cell? ⟨Bs, 0, none⟩ = some (.slice A ls.length cap)) (hc : LnsAt w w.heap.size A ls) :
    CallsIn F n Try.prog 55 #[.slice none 0 0, .func (.func 53) #[] #[.pointer (some ⟨Bs, 0, none⟩)]] w fun e W' => ∃ (v : Value), e = .returned v ∧ W'.ownsRow w.heap.size 35 3 v ls.length (lns ls) ∧ Below w.heap.size w W' := by
  have h1 : 1 ≤ n := by omega
  obtain ⟨i0, hi, hz0, hz1, hz2⟩ := info_parts Try.infoLine
  refine callsIn_of_wp_marks Try.func55 rfl hA ?_ hro
  simp only [Try.ntmps55, List.size_toArray, List.length_cons, List.length_nil, Nat.reduceAdd, Nat.reduceSub, Array.replicate_succ, Array.replicate_zero, List.push_toArray, List.append_toArray, List.nil_append, List.cons_append]
  gi_wp2
  have bO := Boxed.new w 22 (.slice none 0 0)
  have hB0 : Below w.heap.size w (w.alloc (.cells #[.slice none 0 0] 22)) := (Below.refl _ w).alloc (Nat.le_refl _) _
  have hml := World.block_lt_of_cell? _ _ hBs
  refine wpIn_rangeFunc_ownH hro h1 (gf := 53) (lb := #[.pointer (some ⟨Bs, 0, none⟩)]) rfl hF (enters_of Try.func53 (by kernel_rfl) rfl)
    (val_stops F (n - 1) hF hro (by omega) Bs w.heap.size cap A ls hl _ (by simp) ((hB0.cell (p := ⟨Bs, 0, none⟩) hml).trans hBs) (hc.below hB0)) belowK_t (belowK_b (by simp)) (Below.refl _ _) (fun _ => rfl)
    (fun pre W => (∃ v, Boxed W w.heap.size 22 v ∧ W.ownsRow w.heap.size 35 3 v pre.length (lns pre) ∧ True) ∧ Below w.heap.size w W)
    (fun _ _ _ => False)
    (OwnFrom.and (Own.from (holdsRow_own w.heap.size w.heap.size 22 35 3 (fun pre : List Ln => pre.length) (fun pre : List Ln => lns pre) (fun (_ : List Ln) _ => True)) _) (ownFrom_below (Nat.le_refl _) (by simp)))
    (fun _ _ _ _ _ hs _ _ => hs)
    ⟨⟨_, bO, World.ownsRow_nil _ _ _ _, trivial⟩, hB0⟩
    (fun x a' W => ∃ Bx, w.heap.size < Bx ∧ LnBox W Bx x ∧ a' = { tmps := #[.slice none 0 0, .func (.func 53) #[] #[.pointer (some ⟨Bs, 0, none⟩)], .pointer (some ⟨w.heap.size, 0, none⟩), undef, .slice none 0 0, .pointer (some ⟨Bx, 0, none⟩), .func (.func 53) #[] #[.pointer (some ⟨Bs, 0, none⟩)], x.val, undef, undef, undef, undef, undef], defers := [] })
    (fun x a' _ X Y row hs hg hr => by
      obtain ⟨Bx, e1, e2, e3⟩ := hs
      exact ⟨Bx, e1, (hg.block Bx (lt_of_block e2) (fun e => by obtain ⟨o, h1, h2⟩ := (hr Bx e.symm).2; rw [show X.heap[Bx]? = _ from e2] at h1; cases h1; cases h2)).trans e2, e3⟩)
    ?assign ?body ?done ?stop
  case assign =>
    rintro l pre x W K ⟨⟨v, hv, hrow, -⟩, hB⟩ hK
    unfold Ln.val
    gi_wp2
    exact hK _ _ ((KeepsOthers.alloc _ _).from _) ((Below.refl _ W).alloc hB.size _) ⟨⟨v, hv.alloc _, hrow.alloc _, trivial⟩, hB.alloc hB.size _⟩ ⟨W.heap.size, lt_of_block (show W.heap[w.heap.size]? = _ from hv), heap_alloc_new _ _, rfl⟩
  case body =>
    rintro l pre x a' W hl2 ⟨r, hr⟩ ⟨⟨v, hv, hrow, -⟩, hB⟩ ⟨Bx, hBx, bX, rfl⟩ hlt
    have hc := hv.cell
    unfold LnBox at bX
    obtain ⟨x0, x1, x2, -⟩ := blk3 bX
    have hsn : lns (pre ++ [x]) = lns pre ++ x.cs := lns_snoc pre x
    clear hr
    gi_wp2_with (gi_at_builtin; refine wpListIn_append_own _ rfl _ _ 22 rfl w.heap.size 35 i0 _ 3 16 Try.underlying22 hi hz0 hz1 hz2 rfl (by decide) _ _ _ rfl (hrow.alloc _) ⟨W.heap.size, 0, none⟩ 1 1 x.cs rfl rfl (cell3_new _ _ _ _ _) (by intro u hu; simp only [Ln.cs, List.mem_cons, List.not_mem_nil, or_false] at hu; rcases hu with rfl | rfl | rfl <;> rfl) (by unfold maxLen; omega) (by omega) (by have := hB.size; simp; omega) ?_; intro v' w1 hown' hgrow _; obtain ⟨g', cap', rfl⟩ := ownsRow_succ hown'; obtain ⟨hv1, hv2, hr2, hk2, hb2⟩ := hv.appended (by decide) hrow hB.size (Nat.le_refl _) hown' hgrow; have hc1 := hv1.cell; have hf1 := hv1.frozen)
    exact ⟨hk2.from _, hb2, ⟨_, hv2, by rw [List.length_append, List.length_singleton, hsn]; exact hr2⟩, hB.trans hb2⟩
  case done =>
    rintro D ys W hD rfl ⟨⟨v, hv, hrow, -⟩, hB⟩ hK
    have hc := hv.cell
    gi_wp2
    refine ⟨by simp, .inl ⟨_, _, rfl, run_takeDeferred hK, ?_⟩⟩
    exact ⟨_, results_tmp rfl _ _ _, v, rfl, ownsRow_putObj hrow _ hK rfl, hB.trans (belowK_b (w := w) (Nat.le_refl _) W D _ _ (by simp at hD; omega) hK rfl rfl)⟩
  case stop =>
    rintro D c pre W _ _ h _
    exact h.elim
/-- slices.Values. -/
theorem values_any (A : Option Addr) (n c : Nat) (w : World) : Calls Try.prog 43 #[.slice A n c] w fun e w' => e = .returned (.func (.func 53) #[] #[.pointer (some ⟨w.heap.size, 0, none⟩)]) ∧ w' = w.alloc (.cells #[.slice A n c] 22) := by
  refine d_calls (n := 4) Try.func43 rfl rfl (by simp) [(0, .slice A n c)] (by simp) ?_
  repeat first
    | apply d_seq
    | with_reducible apply kt_normal
    | apply l_nil
    | apply d_region
    | (apply l_off; (focus rfl); (focus rfl))
    | (apply l_val; (focus rfl); (focus rfl); (focus rfl); (focus (go_simp; (try simp (disch := omega) only [wrap_in, wrap_in', wrap_u16, wrap_u8, wrap_u32, wrap_u64, rem_in, quo_in]); first | done | with_reducible rfl | (constructor <;> with_reducible rfl))))
    | (apply l_store; (focus rfl); (focus rfl); (focus rfl); (focus (go_simp; (try simp (disch := omega) only [wrap_in, wrap_in', wrap_u16, wrap_u8, wrap_u32, wrap_u64, rem_in, quo_in]); first | done | with_reducible rfl | (constructor <;> with_reducible rfl))))
    | apply d_block
    | (apply d_true; (focus rfl); (focus rfl))
    | (apply d_false; (focus rfl); (focus rfl))
    | apply d_skip
    | apply d_exit
    | apply d_ret
    | with_reducible apply kt_ret
    | with_reducible apply kt_exit
    | with_reducible apply kb_normal
    | with_reducible apply kb_ret
    | with_reducible apply kb_here
    | with_reducible apply kl_ret
    | with_reducible apply kl_exit
    | with_reducible apply kc_ret
    | with_reducible apply kc_exit
    | (with_reducible apply kb_there; (focus rfl))
  refine ⟨rfl, _, (by first | (simp [resultsG, resOne, Try.results43, rho, List.lookup]; done) | (simp [resultsG, resOne, Try.results43, rho, List.lookup]; rfl)), ?_⟩
  exact ⟨rfl, rfl⟩
theorem collect_any (Bs cap : Nat) (A : Option Addr) (ls : List Ln) (hl : ls.length ≤ 1000) (w : World) (hBs : w.cell? ⟨Bs, 0, none⟩ = some (.slice A ls.length cap)) (hc : LnsAt w w.heap.size A ls) :
    Calls Try.prog 51 #[.func (.func 53) #[] #[.pointer (some ⟨Bs, 0, none⟩)]] w fun e W' => ∃ (v : Value), e = .returned v ∧ W'.ownsRow w.heap.size 35 3 v ls.length (lns ls) ∧ Below w.heap.size w W' := by
  have hc := callsIn_wide.1 (apSeq_in Fence.wide 10 trivial trivial rfl (by omega) Bs cap A ls hl w hBs hc)
  have HC := Lib.hid hc
  clear hc
  refine d_calls (n := 5) Try.func51 rfl rfl (by simp) [(0, .func (.func 53) #[] #[.pointer (some ⟨Bs, 0, none⟩)])] (by simp) ?_
  repeat first
    | apply d_seq
    | with_reducible apply kt_normal
    | apply l_nil
    | apply d_region
    | (apply l_off; (focus rfl); (focus rfl))
    | (apply l_val; (focus rfl); (focus rfl); (focus rfl); (focus (go_simp; (try simp (disch := omega) only [wrap_in, wrap_in', wrap_u16, wrap_u8, wrap_u32, wrap_u64, rem_in, quo_in]); first | done | with_reducible rfl | (constructor <;> with_reducible rfl))))
    | (apply l_store; (focus rfl); (focus rfl); (focus rfl); (focus (go_simp; (try simp (disch := omega) only [wrap_in, wrap_in', wrap_u16, wrap_u8, wrap_u32, wrap_u64, rem_in, quo_in]); first | done | with_reducible rfl | (constructor <;> with_reducible rfl))))
    | apply d_block
    | (apply d_true; (focus rfl); (focus rfl))
    | (apply d_false; (focus rfl); (focus rfl))
    | apply d_skip
    | apply d_exit
    | apply d_ret
    | with_reducible apply kt_ret
    | with_reducible apply kt_exit
    | with_reducible apply kb_normal
    | with_reducible apply kb_ret
    | with_reducible apply kb_here
    | with_reducible apply kl_ret
    | with_reducible apply kl_exit
    | with_reducible apply kc_ret
    | with_reducible apply kc_exit
    | (with_reducible apply kb_there; (focus rfl))
  refine l_call rfl rfl rfl (by first | (go_simp; done) | (go_simp; rfl)) (HC.out) ?_
  rintro e w' ⟨v, rfl, h1, h2⟩
  refine ⟨_, rfl, ?_⟩
  repeat first
    | apply d_seq
    | with_reducible apply kt_normal
    | apply l_nil
    | apply d_region
    | (apply l_off; (focus rfl); (focus rfl))
    | (apply l_val; (focus rfl); (focus rfl); (focus rfl); (focus (go_simp; (try simp (disch := omega) only [wrap_in, wrap_in', wrap_u16, wrap_u8, wrap_u32, wrap_u64, rem_in, quo_in]); first | done | with_reducible rfl | (constructor <;> with_reducible rfl))))
    | (apply l_store; (focus rfl); (focus rfl); (focus rfl); (focus (go_simp; (try simp (disch := omega) only [wrap_in, wrap_in', wrap_u16, wrap_u8, wrap_u32, wrap_u64, rem_in, quo_in]); first | done | with_reducible rfl | (constructor <;> with_reducible rfl))))
    | apply d_block
    | (apply d_true; (focus rfl); (focus rfl))
    | (apply d_false; (focus rfl); (focus rfl))
    | apply d_skip
    | apply d_exit
    | apply d_ret
    | with_reducible apply kt_ret
    | with_reducible apply kt_exit
    | with_reducible apply kb_normal
    | with_reducible apply kb_ret
    | with_reducible apply kb_here
    | with_reducible apply kl_ret
    | with_reducible apply kl_exit
    | with_reducible apply kc_ret
    | with_reducible apply kc_exit
    | (with_reducible apply kb_there; (focus rfl))
  refine ⟨rfl, _, (by first | (simp [resultsG, resOne, Try.results51, rho, List.lookup]; done) | (simp [resultsG, resOne, Try.results51, rho, List.lookup]; rfl)), ?_⟩
  exact ⟨v, rfl, h1, h2⟩
end Go.Proofs.Ytienodnkfohakaa
