import Derived.Test.YtienodnkfohakaaWal5
import Derived.Test.YtienodnkfohakaaHasF
namespace Go.Proofs.Ytienodnkfohakaa
set_option linter.unusedVariables false
set_option linter.unusedSimpArgs false
attribute [local go_sem] rho_const rho_func rho_hit rho_miss
open Go.RowKit
/-- A place that the wall takes offence at. -/
def badAt (l : List Ln) (k : Nat) : Bool := match l[k]? with
  | some x => decide (x.qty < 1) || (decide (0 < k) && (match l[k - 1]? with | some y => y.item == x.item | none => false))
  | none => false
def badL (l : List Ln) : Bool := (List.range l.length).any (badAt l)
theorem badL_true {l : List Ln} {k : Nat} (hk : k < l.length) (h : badAt l k = true) : badL l = true := List.any_eq_true.2 ⟨k, List.mem_range.2 hk, h⟩
theorem badL_false {l : List Ln} (h : ∀ k, k < l.length → badAt l k = false) : badL l = false := by
  unfold badL
  rw [List.any_eq_false]
  intro k hk
  rw [h k (List.mem_range.1 hk)]
  simp
set_option maxRecDepth 100000 in
set_option maxHeartbeats 4000000 in
/-- sorted: the lines by rising item, or nothing. -/
theorem sortedW_any (ls : List Ln) (A : Option Addr) (n c : Nat) (F : Nat → Prop) (w : World) (h : SeesIn w F 3 (.slice A n c) n (lns ls)) (hn : n = ls.length) (hl : n ≤ 12) :
    Calls Try.prog 33 #[.slice A n c] w fun e w' => ∃ v, e = .returned (.tuple #[v, .bool (!badL (sortL ls))]) ∧ Keep none_ w w' ∧ (badL (sortL ls) = true → v = .slice none 0 0) ∧ (badL (sortL ls) = false → Own w' (fresh none_ w w') 35 3 v ls.length (lns (sortL ls))) := by
  subst hn
  have hb0 : Go.RowKit.Below w.heap.size w (w.alloc (.cells #[.slice A ls.length c] 22)) := (Go.RowKit.Below.refl _ w).alloc (Nat.le_refl _) _
  have HA := Lib.hid (lnsAt_of h rfl)
  have hv := values_any A ls.length c w
  have hso := sortedF_any w.heap.size c A ls hl (w.alloc (.cells #[.slice A ls.length c] 22)) (blk1 (heap_alloc_new w (.cells #[.slice A ls.length c] 22))).1 (fun k y hy => by
    obtain ⟨g, o, e, hg, a1, a2, a3⟩ := (HA.out.below hb0) k y hy
    exact ⟨g, o, e, by simp; omega, a1, a2, a3⟩)
  have HB := Lib.hid hb0
  have HV := Lib.hid hv
  have HSO := Lib.hid hso
  clear hv hso
  clear h hb0
  refine d_calls (n := 37) Try.func33 rfl rfl (by simp) [(0, .slice A ls.length c)] (by simp) ?_
  repeat first
    | apply d_seq
    | with_reducible apply kt_normal
    | apply l_nil
    | apply d_region
    | (apply l_off; (focus rfl); (focus rfl))
    | (apply l_val; (focus rfl); (focus rfl); (focus rfl); (focus (go_simp; (try simp (disch := omega) only [wrap_in, wrap_in', wrap_u16, wrap_u8, wrap_u32, wrap_u64, rem_in, quo_in]); first | done | with_reducible rfl | (constructor <;> with_reducible rfl))))
    | (apply l_store; (focus rfl); (focus rfl); (focus rfl); (focus (go_simp; (try simp (disch := omega) only [wrap_in, wrap_in', wrap_u16, wrap_u8, wrap_u32, wrap_u64, rem_in, quo_in]); first | done | with_reducible rfl | (constructor <;> with_reducible rfl))))
    | apply d_block
    | (apply d_true; (focus rfl); (focus rfl))
    | (apply d_false; (focus rfl); (focus rfl))
    | apply d_skip
    | apply d_exit
    | apply d_ret
    | with_reducible apply kt_ret
    | with_reducible apply kt_exit
    | with_reducible apply kb_normal
    | with_reducible apply kb_ret
    | with_reducible apply kb_here
    | with_reducible apply kl_ret
    | with_reducible apply kl_exit
    | with_reducible apply kc_ret
    | with_reducible apply kc_exit
    | (with_reducible apply kb_there; (focus rfl))
  refine l_call rfl rfl rfl (by first | (go_simp; done) | (go_simp; rfl)) (HV.out) ?_
  rintro e w' ⟨rfl, rfl⟩
  refine ⟨_, rfl, ?_⟩
  repeat first
    | apply d_seq
    | with_reducible apply kt_normal
    | apply l_nil
    | apply d_region
    | (apply l_off; (focus rfl); (focus rfl))
    | (apply l_val; (focus rfl); (focus rfl); (focus rfl); (focus (go_simp; (try simp (disch := omega) only [wrap_in, wrap_in', wrap_u16, wrap_u8, wrap_u32, wrap_u64, rem_in, quo_in]); first | done | with_reducible rfl | (constructor <;> with_reducible rfl))))
    | (apply l_store; (focus rfl); (focus rfl); (focus rfl); (focus (go_simp; (try simp (disch := omega) only [wrap_in, wrap_in', wrap_u16, wrap_u8, wrap_u32, wrap_u64, rem_in, quo_in]); first | done | with_reducible rfl | (constructor <;> with_reducible rfl))))
    | apply d_block
    | (apply d_true; (focus rfl); (focus rfl))
    | (apply d_false; (focus rfl); (focus rfl))
    | apply d_skip
    | apply d_exit
    | apply d_ret
    | with_reducible apply kt_ret
    | with_reducible apply kt_exit
    | with_reducible apply kb_normal
    | with_reducible apply kb_ret
    | with_reducible apply kb_here
    | with_reducible apply kl_ret
    | with_reducible apply kl_exit
    | with_reducible apply kc_ret
    | with_reducible apply kc_exit
    | (with_reducible apply kb_there; (focus rfl))
  refine l_call rfl rfl rfl (by first | (go_simp; done) | (go_simp; rfl)) (HSO.out) ?_
  rintro e w1 ⟨v, rfl, hk, hown⟩
  have HK1 := Lib.hid (Keep.trans ((Keep.refl none_ w).alloc _) (hk.mono fun _ c => c.elim))
  have hsz1 : w.heap.size ≤ w1.heap.size := HK1.out.size
  have HO := Lib.hid (hown.move (w' := w1) (G := fresh none_ w w1) (fun k hk' hl' => ⟨hk'.elim .inl (fun e => .inr ⟨by have := e.1; simp at this; omega, e.2⟩), rfl⟩))
  obtain ⟨hln, -, -⟩ := sortL_facts ls
  rw [← hln] at HO hl
  obtain ⟨A2, c2, e0, hb1, hb2, -⟩ := HO.out.sees.form
  subst e0
  have HS := Lib.hid HO.out.sees
  rw [← hln]
  generalize sortL ls = l at *
  clear hk hown HA HB HV HSO hln
  refine ⟨_, rfl, ?_⟩
  repeat first
    | apply d_seq
    | with_reducible apply kt_normal
    | apply l_nil
    | apply d_region
    | (apply l_off; (focus rfl); (focus rfl))
    | (apply l_val; (focus rfl); (focus rfl); (focus rfl); (focus (go_simp; (try simp (disch := omega) only [wrap_in, wrap_in', wrap_u16, wrap_u8, wrap_u32, wrap_u64, rem_in, quo_in]); first | done | with_reducible rfl | (constructor <;> with_reducible rfl))))
    | (apply l_store; (focus rfl); (focus rfl); (focus rfl); (focus (go_simp; (try simp (disch := omega) only [wrap_in, wrap_in', wrap_u16, wrap_u8, wrap_u32, wrap_u64, rem_in, quo_in]); first | done | with_reducible rfl | (constructor <;> with_reducible rfl))))
    | apply d_block
    | (apply d_true; (focus rfl); (focus rfl))
    | (apply d_false; (focus rfl); (focus rfl))
    | apply d_skip
    | apply d_exit
    | apply d_ret
    | with_reducible apply kt_ret
    | with_reducible apply kt_exit
    | with_reducible apply kb_normal
    | with_reducible apply kb_ret
    | with_reducible apply kb_here
    | with_reducible apply kl_ret
    | with_reducible apply kl_exit
    | with_reducible apply kc_ret
    | with_reducible apply kc_exit
    | (with_reducible apply kb_there; (focus rfl))
  refine d_loop (fun m D wr => ∃ k : Nat, m = l.length - k ∧ k ≤ l.length ∧ D = [(4, .slice A2 l.length c2), (10, .slice A2 l.length c2), (11, .int .i64 l.length), (12, .int .i64 k)] ∧ Hid (Keep none_ w1 wr) ∧ Hid (∀ j, j < k → badAt l j = false)) (l.length) _ (Subl.cons (t := 4) (by decide) rfl (Subl.cons (t := 10) (by decide) rfl (Subl.cons (t := 11) (by decide) rfl (Subl.cons (t := 12) (by decide) rfl (Subl.nil _ _))))) ?_ (fun m D wr hrel => ?_)
  · exact ⟨0, rfl, Nat.zero_le _, rfl, Lib.hid (Keep.refl _ _), Lib.hid (fun j hj => by omega)⟩
  · obtain ⟨k, rfl, hk, rfl, HK, HB⟩ := hrel
    by_cases hlt : k < l.length
    · obtain ⟨y, hy⟩ : ∃ y, l[k]? = some y := ⟨_, List.getElem?_eq_getElem hlt⟩
      obtain ⟨g, o, rfl, -, -, d0, d1, d2⟩ := sees_ln (HS.out.keep HK.out) rfl hy
      have q0 : decide (((k : Nat) : Int) < ((l.length : Nat) : Int)) = true := decide_eq_true (by omega)
      have hBx := heap_alloc_new wr (.cells #[.int .u16 y.item, .int .u16 y.loc, .int .i64 y.qty] 35)
      have HK2 := Lib.hid (HK.out.alloc (.cells #[.int .u16 y.item, .int .u16 y.loc, .int .i64 y.qty] 35))
      have HY := Lib.hid hy
      clear hy
      repeat first
        | ((fail_if_success (with_reducible refine d_at_region (id := 5) ?_)); apply d_seq)
        | with_reducible apply kt_normal
        | apply l_nil
        | apply d_region
        | (apply l_off; (focus rfl); (focus rfl))
        | (apply l_val; (focus rfl); (focus rfl); (focus rfl); (focus (go_simp; (try simp (disch := omega) only [wrap_in, wrap_in', wrap_u16, wrap_u8, wrap_u32, wrap_u64, rem_in, quo_in]); first | done | with_reducible rfl | (constructor <;> with_reducible rfl))))
        | (apply l_store; (focus rfl); (focus rfl); (focus rfl); (focus (go_simp; (try simp (disch := omega) only [wrap_in, wrap_in', wrap_u16, wrap_u8, wrap_u32, wrap_u64, rem_in, quo_in]); first | done | with_reducible rfl | (constructor <;> with_reducible rfl))))
        | apply d_block
        | (apply d_true; (focus rfl); (focus rfl))
        | (apply d_false; (focus rfl); (focus rfl))
        | apply d_skip
        | apply d_exit
        | apply d_ret
        | with_reducible apply kt_ret
        | with_reducible apply kt_exit
        | with_reducible apply kb_normal
        | with_reducible apply kb_ret
        | with_reducible apply kb_here
        | with_reducible apply kl_ret
        | with_reducible apply kl_exit
        | with_reducible apply kc_ret
        | with_reducible apply kc_exit
        | (with_reducible apply kb_there; (focus rfl))
      generalize wr.alloc (.cells #[.int .u16 y.item, .int .u16 y.loc, .int .i64 y.qty] 35) = W2 at *
      generalize wr.heap.size = xb at *
      obtain ⟨c0, c1, c2, -⟩ := blk3 hBx
      clear d0 d1 d2 hBx
      by_cases hq : y.qty < 1
      · have q1 : decide (y.qty < 1) = true := decide_eq_true hq
        have HG : Hid (badL l = true) := Lib.hid (badL_true hlt (by simp only [badAt, HY.out, q1, Bool.true_or]))
        refine d_draw (true, [([], []), ([0], [0]), ([1], [1]), ([2], [2]), ([3], [3]), ([4, 3], [3, 4]), ([5, 3, 3], [3, 5]), ([6], [6]), ([6], [6]), ([8, 6], [6, 8]), ([7, 9, 6], [6, 7, 9]), ([10, 6], [6, 10]), ([11, 6], [6, 11]), ([6], [6]), ([13, 6], [6, 13]), ([12, 14, 6], [6, 12, 14]), ([6, 15, 3], [3, 6, 15]), ([3, 16], [3, 16])]) [(0, 0), (0, 1), (0, 2), (0, 3), (0, 4), (0, 5), (0, 6), (0, 7), (0, 8), (0, 9), (0, 10), (0, 11), (0, 12), (0, 13), (0, 14), (0, 15), (0, 16), (0, 17)] [999999] (fun W => W.cell? ⟨xb, 2, none⟩ = some (.int .i64 y.qty)) (by kernel_rfl) (by kernel_rfl) (by kernel_rfl) (by kernel_rfl) c2 ?_
        iterate 18
          first | (apply s_off; (focus rfl); (focus rfl); (focus rfl)) | (apply s_yield; (focus rfl); (focus rfl); (focus rfl); (focus rfl); (focus (intro W hS; go_simp; (try simp (disch := omega) only [wrap_in, wrap_in', wrap_u16, wrap_u8, wrap_u32, wrap_u64, rem_in, quo_in]); first | done | with_reducible rfl | (constructor <;> with_reducible rfl))))
        refine s_done ?_
        repeat first
          | apply d_seq
          | with_reducible apply kt_normal
          | apply l_nil
          | apply d_region
          | (apply l_off; (focus rfl); (focus rfl))
          | (apply l_val; (focus rfl); (focus rfl); (focus rfl); (focus (go_simp; (try simp (disch := omega) only [wrap_in, wrap_in', wrap_u16, wrap_u8, wrap_u32, wrap_u64, rem_in, quo_in]); first | done | with_reducible rfl | (constructor <;> with_reducible rfl))))
          | (apply l_store; (focus rfl); (focus rfl); (focus rfl); (focus (go_simp; (try simp (disch := omega) only [wrap_in, wrap_in', wrap_u16, wrap_u8, wrap_u32, wrap_u64, rem_in, quo_in]); first | done | with_reducible rfl | (constructor <;> with_reducible rfl))))
          | apply d_block
          | (apply d_true; (focus rfl); (focus rfl))
          | (apply d_false; (focus rfl); (focus rfl))
          | apply d_skip
          | apply d_exit
          | apply d_ret
          | with_reducible apply kt_ret
          | with_reducible apply kt_exit
          | with_reducible apply kb_normal
          | with_reducible apply kb_ret
          | with_reducible apply kb_here
          | with_reducible apply kl_ret
          | with_reducible apply kl_exit
          | with_reducible apply kc_ret
          | with_reducible apply kc_exit
          | (with_reducible apply kb_there; (focus rfl))
        refine ⟨rfl, _, (by first | (simp [resultsG, resOne, Try.results33, rho, List.lookup]; done) | (simp [resultsG, resOne, Try.results33, rho, List.lookup]; rfl)), ?_⟩
        refine ⟨_, by rw [HG.out]; rfl, (HK1.out.next HK2.out).drew, fun _ => rfl, fun hh => absurd (HG.out.symm.trans hh) (by decide)⟩
      · have q1 : decide (y.qty < 1) = false := decide_eq_false hq
        cases k with
        | zero =>
          have HG : Hid (badAt l 0 = false) := Lib.hid (by simp only [badAt, HY.out, q1]; rfl)
          refine d_draw (true, [([], []), ([0], [0]), ([1], [1]), ([2], [2]), ([3], [3]), ([4, 3], [3, 4]), ([5, 3, 3], [3, 5]), ([6], [6]), ([6], [6]), ([8, 6], [6, 8]), ([7, 9, 6], [6, 7, 9]), ([10, 6], [6, 10]), ([11, 6], [6, 11]), ([6], [6]), ([13, 6], [6, 13]), ([12, 14, 6], [6, 12, 14]), ([6, 15, 3], [3, 6, 15]), ([3, 16], [3, 16])]) [(0, 0), (0, 1), (0, 2), (0, 3), (0, 4), (0, 5), (0, 6), (0, 7), (0, 8), (0, 9), (0, 10), (0, 11), (0, 12), (0, 13), (0, 14), (0, 15), (0, 16), (0, 17)] [999999] (fun W => W.cell? ⟨xb, 2, none⟩ = some (.int .i64 y.qty)) (by kernel_rfl) (by kernel_rfl) (by kernel_rfl) (by kernel_rfl) c2 ?_
          iterate 18
            first | (apply s_off; (focus rfl); (focus rfl); (focus rfl)) | (apply s_yield; (focus rfl); (focus rfl); (focus rfl); (focus rfl); (focus (intro W hS; go_simp; (try simp (disch := omega) only [wrap_in, wrap_in', wrap_u16, wrap_u8, wrap_u32, wrap_u64, rem_in, quo_in]); first | done | with_reducible rfl | (constructor <;> with_reducible rfl))))
          refine s_done ?_
          repeat first
            | apply d_seq
            | with_reducible apply kt_normal
            | apply l_nil
            | apply d_region
            | (apply l_off; (focus rfl); (focus rfl))
            | (apply l_val; (focus rfl); (focus rfl); (focus rfl); (focus (go_simp; (try simp (disch := omega) only [wrap_in, wrap_in', wrap_u16, wrap_u8, wrap_u32, wrap_u64, rem_in, quo_in]); first | done | with_reducible rfl | (constructor <;> with_reducible rfl))))
            | (apply l_store; (focus rfl); (focus rfl); (focus rfl); (focus (go_simp; (try simp (disch := omega) only [wrap_in, wrap_in', wrap_u16, wrap_u8, wrap_u32, wrap_u64, rem_in, quo_in]); first | done | with_reducible rfl | (constructor <;> with_reducible rfl))))
            | apply d_block
            | (apply d_true; (focus rfl); (focus rfl))
            | (apply d_false; (focus rfl); (focus rfl))
            | apply d_skip
            | apply d_exit
            | apply d_ret
            | with_reducible apply kt_ret
            | with_reducible apply kt_exit
            | with_reducible apply kb_normal
            | with_reducible apply kb_ret
            | with_reducible apply kb_here
            | with_reducible apply kl_ret
            | with_reducible apply kl_exit
            | with_reducible apply kc_ret
            | with_reducible apply kc_exit
            | (with_reducible apply kb_there; (focus rfl))
          refine kl_normal (l.length - 1) _ (by omega) (Subl.cons (t := 4) (by decide) rfl (Subl.cons (t := 10) (by decide) rfl (Subl.cons (t := 11) (by decide) rfl (Subl.cons (t := 12) (by decide) rfl (Subl.nil _ _))))) ?_
          exact ⟨1, rfl, by omega, rfl, Lib.hid HK2.out.drew, Lib.hid (fun j hj => by have e : j = 0 := (by omega); rw [e]; exact HG.out)⟩
        | succ p =>
          obtain ⟨z, hz⟩ : ∃ z, l[p]? = some z := ⟨_, List.getElem?_eq_getElem (by omega)⟩
          obtain ⟨g', o', e0, -, -, d0, d1, d2⟩ := sees_ln (HS.out.keep HK2.out) rfl hz
          simp only [Option.some.injEq, Addr.mk.injEq, and_true] at e0
          obtain ⟨rfl, rfl⟩ := e0
          have q2 : decide ((((p + 1 : Nat)) : Int) > 0) = true := decide_eq_true (by omega)
          have q2' : decide ((p : Int) + 1 > 0) = true := decide_eq_true (by omega)
          have q2'' : decide (0 < (p : Int) + 1) = true := decide_eq_true (by omega)
          have q3 : ((p : Int) + 1 - 1) = p := by omega
          have q5 : ((p : Nat) : Int) < ((l.length : Nat) : Int) := by omega
          have q6 : (0 : Int) ≤ ((p : Nat) : Int) := by omega
          obtain ⟨bb, hbb⟩ : ∃ bb, (z.item == y.item) = bb := ⟨_, rfl⟩
          have HG : Hid (badAt l (p + 1) = bb) := Lib.hid (by simp only [badAt, HY.out, q1, Nat.add_sub_cancel, hz, hbb]; simp)
          have HZ := Lib.hid hz
          clear hz d1 d2
          refine d_draw (true, [([], []), ([0], [0]), ([1], [1]), ([2], [2]), ([3], [3]), ([4, 3], [3, 4]), ([5, 3, 3], [3, 5]), ([6], [6]), ([6], [6]), ([8, 6], [6, 8]), ([7, 9, 6], [6, 7, 9]), ([10, 6], [6, 10]), ([11, 6], [6, 11]), ([6], [6]), ([13, 6], [6, 13]), ([12, 14, 6], [6, 12, 14]), ([6, 15, 3], [3, 6, 15]), ([3, 16], [3, 16])]) [(0, 0), (0, 1), (0, 2), (0, 3), (0, 4), (0, 5), (0, 6), (0, 7), (0, 8), (0, 9), (0, 10), (0, 11), (0, 12), (0, 13), (0, 14), (0, 15), (0, 16), (0, 17)] [999999] (fun W => W.cell? ⟨xb, 2, none⟩ = some (.int .i64 y.qty) ∧ W.cell? ⟨xb, 0, none⟩ = some (.int .u16 y.item) ∧ W.cell? ⟨g, o + p * 3, none⟩ = some (.int .u16 z.item)) (by kernel_rfl) (by kernel_rfl) (by kernel_rfl) (by kernel_rfl) ⟨c2, c0, d0⟩ ?_
          iterate 18
            first | (apply s_off; (focus rfl); (focus rfl); (focus rfl)) | (apply s_yield; (focus rfl); (focus rfl); (focus rfl); (focus rfl); (focus (intro W hS; obtain ⟨hS1, hS2, hS3⟩ := hS; go_simp; (try simp (disch := omega) only [wrap_in, wrap_in', wrap_u16, wrap_u8, wrap_u32, wrap_u64, rem_in, quo_in]); first | done | with_reducible rfl | (constructor <;> with_reducible rfl))))
          refine s_done ?_
          cases bb with
          | true =>
            have HG2 : Hid (badL l = true) := Lib.hid (badL_true hlt HG.out)
            repeat first
              | apply d_seq
              | with_reducible apply kt_normal
              | apply l_nil
              | apply d_region
              | (apply l_off; (focus rfl); (focus rfl))
              | (apply l_val; (focus rfl); (focus rfl); (focus rfl); (focus (go_simp; (try simp (disch := omega) only [wrap_in, wrap_in', wrap_u16, wrap_u8, wrap_u32, wrap_u64, rem_in, quo_in]); first | done | with_reducible rfl | (constructor <;> with_reducible rfl))))
              | (apply l_store; (focus rfl); (focus rfl); (focus rfl); (focus (go_simp; (try simp (disch := omega) only [wrap_in, wrap_in', wrap_u16, wrap_u8, wrap_u32, wrap_u64, rem_in, quo_in]); first | done | with_reducible rfl | (constructor <;> with_reducible rfl))))
              | apply d_block
              | (apply d_true; (focus rfl); (focus rfl))
              | (apply d_false; (focus rfl); (focus rfl))
              | apply d_skip
              | apply d_exit
              | apply d_ret
              | with_reducible apply kt_ret
              | with_reducible apply kt_exit
              | with_reducible apply kb_normal
              | with_reducible apply kb_ret
              | with_reducible apply kb_here
              | with_reducible apply kl_ret
              | with_reducible apply kl_exit
              | with_reducible apply kc_ret
              | with_reducible apply kc_exit
              | (with_reducible apply kb_there; (focus rfl))
            refine ⟨rfl, _, (by first | (simp [resultsG, resOne, Try.results33, rho, List.lookup]; done) | (simp [resultsG, resOne, Try.results33, rho, List.lookup]; rfl)), ?_⟩
            refine ⟨_, by rw [HG2.out]; rfl, (HK1.out.next HK2.out).drew, fun _ => rfl, fun hh => absurd (HG2.out.symm.trans hh) (by decide)⟩
          | false =>
            repeat first
              | apply d_seq
              | with_reducible apply kt_normal
              | apply l_nil
              | apply d_region
              | (apply l_off; (focus rfl); (focus rfl))
              | (apply l_val; (focus rfl); (focus rfl); (focus rfl); (focus (go_simp; (try simp (disch := omega) only [wrap_in, wrap_in', wrap_u16, wrap_u8, wrap_u32, wrap_u64, rem_in, quo_in]); first | done | with_reducible rfl | (constructor <;> with_reducible rfl))))
              | (apply l_store; (focus rfl); (focus rfl); (focus rfl); (focus (go_simp; (try simp (disch := omega) only [wrap_in, wrap_in', wrap_u16, wrap_u8, wrap_u32, wrap_u64, rem_in, quo_in]); first | done | with_reducible rfl | (constructor <;> with_reducible rfl))))
              | apply d_block
              | (apply d_true; (focus rfl); (focus rfl))
              | (apply d_false; (focus rfl); (focus rfl))
              | apply d_skip
              | apply d_exit
              | apply d_ret
              | with_reducible apply kt_ret
              | with_reducible apply kt_exit
              | with_reducible apply kb_normal
              | with_reducible apply kb_ret
              | with_reducible apply kb_here
              | with_reducible apply kl_ret
              | with_reducible apply kl_exit
              | with_reducible apply kc_ret
              | with_reducible apply kc_exit
              | (with_reducible apply kb_there; (focus rfl))
            refine kl_normal (l.length - (p + 2)) _ (by omega) (Subl.cons (t := 4) (by decide) rfl (Subl.cons (t := 10) (by decide) rfl (Subl.cons (t := 11) (by decide) rfl (Subl.cons (t := 12) (by decide) rfl (Subl.nil _ _))))) ?_
            exact ⟨p + 2, rfl, by omega, rfl, Lib.hid HK2.out.drew, Lib.hid (fun j hj => by
              by_cases hjp : j = p + 1
              · subst hjp; exact HG.out
              · exact HB.out j (by omega))⟩
    · obtain rfl : k = l.length := by omega
      have HG : Hid (badL l = false) := Lib.hid (badL_false HB.out)
      repeat first
        | apply d_seq
        | with_reducible apply kt_normal
        | apply l_nil
        | apply d_region
        | (apply l_off; (focus rfl); (focus rfl))
        | (apply l_val; (focus rfl); (focus rfl); (focus rfl); (focus (go_simp; (try simp (disch := omega) only [wrap_in, wrap_in', wrap_u16, wrap_u8, wrap_u32, wrap_u64, rem_in, quo_in]); first | done | with_reducible rfl | (constructor <;> with_reducible rfl))))
        | (apply l_store; (focus rfl); (focus rfl); (focus rfl); (focus (go_simp; (try simp (disch := omega) only [wrap_in, wrap_in', wrap_u16, wrap_u8, wrap_u32, wrap_u64, rem_in, quo_in]); first | done | with_reducible rfl | (constructor <;> with_reducible rfl))))
        | apply d_block
        | (apply d_true; (focus rfl); (focus rfl))
        | (apply d_false; (focus rfl); (focus rfl))
        | apply d_skip
        | apply d_exit
        | apply d_ret
        | with_reducible apply kt_ret
        | with_reducible apply kt_exit
        | with_reducible apply kb_normal
        | with_reducible apply kb_ret
        | with_reducible apply kb_here
        | with_reducible apply kl_ret
        | with_reducible apply kl_exit
        | with_reducible apply kc_ret
        | with_reducible apply kc_exit
        | (with_reducible apply kb_there; (focus rfl))
      refine ⟨rfl, _, (by first | (simp [resultsG, resOne, Try.results33, rho, List.lookup]; done) | (simp [resultsG, resOne, Try.results33, rho, List.lookup]; rfl)), ?_⟩
      refine ⟨_, by rw [HG.out]; rfl, HK1.out.next HK.out, fun hh => absurd (HG.out.symm.trans hh) (by decide), fun _ => ?_⟩
      exact (HO.out.keep HK.out (fun _ _ c => c)).move (fun q hq hl => ⟨hq.elim .inl (fun e => .inr ⟨e.1, hl⟩), rfl⟩)
end Go.Proofs.Ytienodnkfohakaa
