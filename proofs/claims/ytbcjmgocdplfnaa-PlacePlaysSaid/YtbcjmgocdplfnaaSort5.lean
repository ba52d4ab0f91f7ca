import Derived.Test.YtbcjmgocdplfnaaSort4
import Derived.Laws.BitsLemmas
namespace Go.Proofs.Ytbcjmgocdplfnaa
set_option linter.unusedVariables false
set_option linter.unusedSimpArgs false
attribute [local go_sem] rho_const rho_func rho_hit rho_miss
open Go.RowKit Go.Sort
theorem d_abs {P : Program} {n : Nat} {K : Exit → List (Nat × Value) → World → Prop} {c : Code} {D : List (Nat × Value)} {w : World} (R : World → Prop) (D' : List (Nat × Value)) (hs : Subl n D D') (h : R w) (hy : ∀ w, R w → WpD P n K c D' w) : WpD P n K c D w := (hy w h).sub hs
theorem u64_range (x : Int) : 0 ≤ IntKind.u64.wrap x ∧ IntKind.u64.wrap x < 18446744073709551616 := by
  have : IntKind.u64.wrap x = x % 18446744073709551616 := by simp [IntKind.wrap, IntKind.bits, IntKind.signed]
  rw [this]
  exact ⟨Int.emod_nonneg _ (by decide), Int.emod_lt_of_pos _ (by decide)⟩
def lenL : List Nat := [0, 1, 2, 2, 3, 3, 3, 3, 4, 4, 4, 4, 4, 4, 4, 4, 5, 5, 5, 5, 5, 5, 5, 5, 5, 5, 5, 5, 5, 5, 5, 5, 6, 6, 6, 6, 6, 6, 6, 6, 6]
theorem lenL_ok (x : Nat) (hx : x < 41) : lenL.getD x 0 ≤ 6 ∧ (0 < x → x < 2 ^ lenL.getD x 0 ∧ 2 ^ lenL.getD x 0 ≤ 2 * x) := by
  revert x
  decide
set_option maxRecDepth 100000 in
set_option maxHeartbeats 4000000 in
theorem len64_any (x : Nat) (hx : x < 41) (w : World) : Calls Try.prog 47 #[.int .u64 x] w fun e w' => e = .returned (.int .i64 (lenL.getD x 0 : Nat)) ∧ w' = w := by
  have q1 : decide (4294967296 ≤ (x : Int)) = false := decide_eq_false (by omega)
  have q2 : decide (65536 ≤ (x : Int)) = false := decide_eq_false (by omega)
  have q3 : decide (256 ≤ (x : Int)) = false := decide_eq_false (by omega)
  have q4 : IntKind.u8.wrap (x : Int) = x := wrap_u8 (by omega) (by omega)
  have q5 := (lenL_ok x hx).1
  have q6 : (0 : Int) ≤ (lenL.getD x 0 : Nat) := by omega
  have q7 : ((lenL.getD x 0 : Nat) : Int) ≤ 6 := by omega
  refine d_calls (n := 25) Try.func47 rfl rfl (by simp) [(0, .int .u64 x)] (by simp) ?_
  repeat first
    | apply d_seq
    | with_reducible apply kt_normal
    | apply l_nil
    | apply d_region
    | (apply l_off; (focus rfl); (focus rfl))
    | (apply l_val; (focus rfl); (focus rfl); (focus rfl); (focus (go_simp; (try simp (disch := omega) only [wrap_in, wrap_in', wrap_u16, wrap_u8, wrap_u32, wrap_u64, rem_in, quo_in]); first | done | with_reducible rfl | (constructor <;> with_reducible rfl))))
    | (apply l_store; (focus rfl); (focus rfl); (focus rfl); (focus (go_simp; (try simp (disch := omega) only [wrap_in, wrap_in', wrap_u16, wrap_u8, wrap_u32, wrap_u64, rem_in, quo_in]); first | done | with_reducible rfl | (constructor <;> with_reducible rfl))))
    | apply d_block
    | (apply d_true; (focus rfl); (focus rfl))
    | (apply d_false; (focus rfl); (focus rfl))
    | apply d_skip
    | apply d_exit
    | apply d_ret
    | with_reducible apply kt_ret
    | with_reducible apply kt_exit
    | with_reducible apply kb_normal
    | with_reducible apply kb_ret
    | with_reducible apply kb_here
    | with_reducible apply kl_ret
    | with_reducible apply kl_exit
    | with_reducible apply kc_ret
    | with_reducible apply kc_exit
    | (with_reducible apply kb_there; (focus rfl))
  refine l_val (v := .int .u8 (lenL.getD x 0 : Nat)) (w' := w) rfl rfl rfl ?_ ?_
  · have h64 : x = 0 ∨ x = 1 ∨ x = 2 ∨ x = 3 ∨ x = 4 ∨ x = 5 ∨ x = 6 ∨ x = 7 ∨ x = 8 ∨ x = 9 ∨ x = 10 ∨ x = 11 ∨ x = 12 ∨ x = 13 ∨ x = 14 ∨ x = 15 ∨ x = 16 ∨ x = 17 ∨ x = 18 ∨ x = 19 ∨ x = 20 ∨ x = 21 ∨ x = 22 ∨ x = 23 ∨ x = 24 ∨ x = 25 ∨ x = 26 ∨ x = 27 ∨ x = 28 ∨ x = 29 ∨ x = 30 ∨ x = 31 ∨ x = 32 ∨ x = 33 ∨ x = 34 ∨ x = 35 ∨ x = 36 ∨ x = 37 ∨ x = 38 ∨ x = 39 ∨ x = 40 := by omega
    clear q1 q2 q3 q4 q5 q6 q7 hx
    rcases h64 with rfl | rfl | rfl | rfl | rfl | rfl | rfl | rfl | rfl | rfl | rfl | rfl | rfl | rfl | rfl | rfl | rfl | rfl | rfl | rfl | rfl | rfl | rfl | rfl | rfl | rfl | rfl | rfl | rfl | rfl | rfl | rfl | rfl | rfl | rfl | rfl | rfl | rfl | rfl | rfl | rfl <;> rfl
  · generalize lenL.getD x 0 = L at *
    repeat first
      | apply d_seq
      | with_reducible apply kt_normal
      | apply l_nil
      | apply d_region
      | (apply l_off; (focus rfl); (focus rfl))
      | (apply l_val; (focus rfl); (focus rfl); (focus rfl); (focus (go_simp; (try simp (disch := omega) only [wrap_in, wrap_in', wrap_u16, wrap_u8, wrap_u32, wrap_u64, rem_in, quo_in]); first | done | with_reducible rfl | (constructor <;> with_reducible rfl))))
      | (apply l_store; (focus rfl); (focus rfl); (focus rfl); (focus (go_simp; (try simp (disch := omega) only [wrap_in, wrap_in', wrap_u16, wrap_u8, wrap_u32, wrap_u64, rem_in, quo_in]); first | done | with_reducible rfl | (constructor <;> with_reducible rfl))))
      | apply d_block
      | (apply d_true; (focus rfl); (focus rfl))
      | (apply d_false; (focus rfl); (focus rfl))
      | apply d_skip
      | apply d_exit
      | apply d_ret
      | with_reducible apply kt_ret
      | with_reducible apply kt_exit
      | with_reducible apply kb_normal
      | with_reducible apply kb_ret
      | with_reducible apply kb_here
      | with_reducible apply kl_ret
      | with_reducible apply kl_exit
      | with_reducible apply kc_ret
      | with_reducible apply kc_exit
      | (with_reducible apply kb_there; (focus rfl))
    refine ⟨rfl, _, (by first | (simp [resultsG, resOne, Try.results47, rho, List.lookup]; done) | (simp [resultsG, resOne, Try.results47, rho, List.lookup]; rfl)), ?_⟩
    exact ⟨rfl, rfl⟩
set_option maxRecDepth 100000 in
set_option maxHeartbeats 2000000 in
theorem next_any (q : Nat) (r : Int) (w : World) (h : w.heap[q]? = some (.cells #[.int .u64 r] 92 (0, 0))) : Calls Try.prog 50 #[.pointer (some ⟨q, 0, none⟩)] w fun e w' => ∃ r' : Int, e = .returned (.int .u64 r') ∧ (0 ≤ r' ∧ r' < 18446744073709551616) ∧ Keep (fun z => z = q) w w' ∧ w'.heap[q]? = some (.cells #[.int .u64 r'] 92 (0, 0)) := by
  refine d_calls (n := 33) Try.func50 rfl rfl (by simp) [(0, .pointer (some ⟨q, 0, none⟩))] (by simp) ?_
  repeat first
    | apply d_seq
    | with_reducible apply kt_normal
    | apply l_nil
    | apply d_region
    | (apply l_off; (focus rfl); (focus rfl))
    | (apply l_val; (focus rfl); (focus rfl); (focus rfl); (focus (go_simp; (try simp (disch := omega) only [wrap_in, wrap_in', wrap_u16, wrap_u8, wrap_u32, wrap_u64, rem_in, quo_in]); first | done | with_reducible rfl | (constructor <;> with_reducible rfl))))
    | (apply l_store; (focus rfl); (focus rfl); (focus rfl); (focus (go_simp; (try simp (disch := omega) only [wrap_in, wrap_in', wrap_u16, wrap_u8, wrap_u32, wrap_u64, rem_in, quo_in]); first | done | with_reducible rfl | (constructor <;> with_reducible rfl))))
    | apply d_block
    | (apply d_true; (focus rfl); (focus rfl))
    | (apply d_false; (focus rfl); (focus rfl))
    | apply d_skip
    | apply d_exit
    | apply d_ret
    | with_reducible apply kt_ret
    | with_reducible apply kt_exit
    | with_reducible apply kb_normal
    | with_reducible apply kb_ret
    | with_reducible apply kb_here
    | with_reducible apply kl_ret
    | with_reducible apply kl_exit
    | with_reducible apply kc_ret
    | with_reducible apply kc_exit
    | (with_reducible apply kb_there; (focus rfl))
  have HA : Hid (∃ r1, Keep (fun z => z = q) w w ∧ w.heap[q]? = some (.cells #[.int .u64 r1] 92 (0, 0))) := Lib.hid ⟨r, Keep.refl _ _, h⟩
  obtain ⟨r1, -, h1⟩ := HA.out
  obtain ⟨c0, f0⟩ := blk1 h1
  clear h
  refine d_draw (true, [([], []), ([0], [0]), ([1], [1]), ([], []), ([3], [3]), ([4], [4]), ([5], [5]), ([2, 6], [2, 6]), ([0, 0, 1, 2, 3, 4, 5, 6, 7], [0]), ([8, 7, 0, 1, 2, 3, 4, 5, 6, 7], [7, 8])]) [(0, 0), (0, 1), (0, 2), (0, 3), (0, 4), (0, 5), (0, 6), (0, 7), (0, 8), (2, 9)] [9] (fun W => W.cell? ⟨q, 0, none⟩ = some (.int .u64 r1)) (by kernel_rfl) (by kernel_rfl) (by kernel_rfl) (by kernel_rfl) c0 ?_
  iterate 9
    first | (apply s_off; (focus rfl); (focus rfl); (focus rfl)) | (apply s_yield; (focus rfl); (focus rfl); (focus rfl); (focus rfl); (focus (intro W hS; go_simp; (try simp (disch := omega) only [wrap_in, wrap_in', wrap_u16, wrap_u8, wrap_u32, wrap_u64, rem_in, quo_in]); first | done | with_reducible rfl | (constructor <;> with_reducible rfl))))
  first | (apply s_last; (focus rfl); (focus rfl); (focus rfl); (focus rfl); (focus (go_simp; (try simp (disch := omega) only [wrap_in, wrap_in', wrap_u16, wrap_u8, wrap_u32, wrap_u64, rem_in, quo_in]); first | done | with_reducible rfl | (constructor <;> with_reducible rfl)))) | (apply s_laststore; (focus rfl); (focus rfl); (focus rfl); (focus rfl); (focus (go_simp; (try simp (disch := omega) only [wrap_in, wrap_in', wrap_u16, wrap_u8, wrap_u32, wrap_u64, rem_in, quo_in]); first | done | with_reducible rfl | (constructor <;> with_reducible rfl))))
  refine s_done ?_
  with_reducible apply kt_normal
  refine d_abs (fun wr => ∃ r1, Keep (fun z => z = q) w wr ∧ wr.heap[q]? = some (.cells #[.int .u64 r1] 92 (0, 0))) _ (Subl.cons (t := 0) (by decide) rfl (Subl.nil _ _)) ?_ (fun wr hcut => ?_)
  · exact ⟨_, ((Keep.refl (fun z => z = q) w).setCell (p := ⟨q, 0, none⟩) (.inr rfl) _).drew, heap_setCell_same _ _ _ _ _ _ h1⟩
  clear c0 f0 h1 HA
  obtain ⟨r2, hk1, h1⟩ := hcut
  obtain ⟨c0, f0⟩ := blk1 h1
  have HK1 := Lib.hid hk1
  clear hk1
  repeat first
    | apply d_seq
    | with_reducible apply kt_normal
    | apply l_nil
    | apply d_region
    | (apply l_off; (focus rfl); (focus rfl))
    | (apply l_val; (focus rfl); (focus rfl); (focus rfl); (focus (go_simp; (try simp (disch := omega) only [wrap_in, wrap_in', wrap_u16, wrap_u8, wrap_u32, wrap_u64, rem_in, quo_in]); first | done | with_reducible rfl | (constructor <;> with_reducible rfl))))
    | (apply l_store; (focus rfl); (focus rfl); (focus rfl); (focus (go_simp; (try simp (disch := omega) only [wrap_in, wrap_in', wrap_u16, wrap_u8, wrap_u32, wrap_u64, rem_in, quo_in]); first | done | with_reducible rfl | (constructor <;> with_reducible rfl))))
    | apply d_block
    | (apply d_true; (focus rfl); (focus rfl))
    | (apply d_false; (focus rfl); (focus rfl))
    | apply d_skip
    | apply d_exit
    | apply d_ret
    | with_reducible apply kt_ret
    | with_reducible apply kt_exit
    | with_reducible apply kb_normal
    | with_reducible apply kb_ret
    | with_reducible apply kb_here
    | with_reducible apply kl_ret
    | with_reducible apply kl_exit
    | with_reducible apply kc_ret
    | with_reducible apply kc_exit
    | (with_reducible apply kb_there; (focus rfl))
  refine d_draw (true, [([], []), ([0], [0]), ([1], [1]), ([], []), ([3], [3]), ([4], [4]), ([5], [5]), ([2, 6], [2, 6]), ([0, 0, 1, 2, 3, 4, 5, 6, 7], [0]), ([8, 7, 0, 1, 2, 3, 4, 5, 6, 7], [7, 8])]) [(0, 0), (0, 1), (0, 2), (0, 3), (0, 4), (0, 5), (0, 6), (0, 7), (0, 8), (2, 9)] [9] (fun W => W.cell? ⟨q, 0, none⟩ = some (.int .u64 r2)) (by kernel_rfl) (by kernel_rfl) (by kernel_rfl) (by kernel_rfl) c0 ?_
  iterate 9
    first | (apply s_off; (focus rfl); (focus rfl); (focus rfl)) | (apply s_yield; (focus rfl); (focus rfl); (focus rfl); (focus rfl); (focus (intro W hS; go_simp; (try simp (disch := omega) only [wrap_in, wrap_in', wrap_u16, wrap_u8, wrap_u32, wrap_u64, rem_in, quo_in]); first | done | with_reducible rfl | (constructor <;> with_reducible rfl))))
  first | (apply s_last; (focus rfl); (focus rfl); (focus rfl); (focus rfl); (focus (go_simp; (try simp (disch := omega) only [wrap_in, wrap_in', wrap_u16, wrap_u8, wrap_u32, wrap_u64, rem_in, quo_in]); first | done | with_reducible rfl | (constructor <;> with_reducible rfl)))) | (apply s_laststore; (focus rfl); (focus rfl); (focus rfl); (focus rfl); (focus (go_simp; (try simp (disch := omega) only [wrap_in, wrap_in', wrap_u16, wrap_u8, wrap_u32, wrap_u64, rem_in, quo_in]); first | done | with_reducible rfl | (constructor <;> with_reducible rfl))))
  refine s_done ?_
  with_reducible apply kt_normal
  refine d_abs (fun wr => ∃ r1, Keep (fun z => z = q) w wr ∧ wr.heap[q]? = some (.cells #[.int .u64 r1] 92 (0, 0))) _ (Subl.cons (t := 0) (by decide) rfl (Subl.nil _ _)) ?_ (fun wr hcut => ?_)
  · exact ⟨_, (HK1.out.setCell (p := ⟨q, 0, none⟩) (.inr rfl) _).drew, heap_setCell_same _ _ _ _ _ _ h1⟩
  clear c0 f0 h1 HK1
  obtain ⟨r3, hk1, h1⟩ := hcut
  obtain ⟨c0, f0⟩ := blk1 h1
  have HK1 := Lib.hid hk1
  clear hk1
  repeat first
    | apply d_seq
    | with_reducible apply kt_normal
    | apply l_nil
    | apply d_region
    | (apply l_off; (focus rfl); (focus rfl))
    | (apply l_val; (focus rfl); (focus rfl); (focus rfl); (focus (go_simp; (try simp (disch := omega) only [wrap_in, wrap_in', wrap_u16, wrap_u8, wrap_u32, wrap_u64, rem_in, quo_in]); first | done | with_reducible rfl | (constructor <;> with_reducible rfl))))
    | (apply l_store; (focus rfl); (focus rfl); (focus rfl); (focus (go_simp; (try simp (disch := omega) only [wrap_in, wrap_in', wrap_u16, wrap_u8, wrap_u32, wrap_u64, rem_in, quo_in]); first | done | with_reducible rfl | (constructor <;> with_reducible rfl))))
    | apply d_block
    | (apply d_true; (focus rfl); (focus rfl))
    | (apply d_false; (focus rfl); (focus rfl))
    | apply d_skip
    | apply d_exit
    | apply d_ret
    | with_reducible apply kt_ret
    | with_reducible apply kt_exit
    | with_reducible apply kb_normal
    | with_reducible apply kb_ret
    | with_reducible apply kb_here
    | with_reducible apply kl_ret
    | with_reducible apply kl_exit
    | with_reducible apply kc_ret
    | with_reducible apply kc_exit
    | (with_reducible apply kb_there; (focus rfl))
  refine d_draw (true, [([], []), ([0], [0]), ([1], [1]), ([], []), ([3], [3]), ([4], [4]), ([5], [5]), ([2, 6], [2, 6]), ([0, 0, 1, 2, 3, 4, 5, 6, 7], [0]), ([8, 7, 0, 1, 2, 3, 4, 5, 6, 7], [7, 8])]) [(0, 0), (0, 1), (0, 2), (0, 3), (0, 4), (0, 5), (0, 6), (0, 7), (0, 8), (2, 9)] [9] (fun W => W.cell? ⟨q, 0, none⟩ = some (.int .u64 r3)) (by kernel_rfl) (by kernel_rfl) (by kernel_rfl) (by kernel_rfl) c0 ?_
  iterate 9
    first | (apply s_off; (focus rfl); (focus rfl); (focus rfl)) | (apply s_yield; (focus rfl); (focus rfl); (focus rfl); (focus rfl); (focus (intro W hS; go_simp; (try simp (disch := omega) only [wrap_in, wrap_in', wrap_u16, wrap_u8, wrap_u32, wrap_u64, rem_in, quo_in]); first | done | with_reducible rfl | (constructor <;> with_reducible rfl))))
  first | (apply s_last; (focus rfl); (focus rfl); (focus rfl); (focus rfl); (focus (go_simp; (try simp (disch := omega) only [wrap_in, wrap_in', wrap_u16, wrap_u8, wrap_u32, wrap_u64, rem_in, quo_in]); first | done | with_reducible rfl | (constructor <;> with_reducible rfl)))) | (apply s_laststore; (focus rfl); (focus rfl); (focus rfl); (focus rfl); (focus (go_simp; (try simp (disch := omega) only [wrap_in, wrap_in', wrap_u16, wrap_u8, wrap_u32, wrap_u64, rem_in, quo_in]); first | done | with_reducible rfl | (constructor <;> with_reducible rfl))))
  refine s_done ?_
  with_reducible apply kt_normal
  refine d_abs (fun wr => ∃ r1, (0 ≤ r1 ∧ r1 < 18446744073709551616) ∧ Keep (fun z => z = q) w wr ∧ wr.heap[q]? = some (.cells #[.int .u64 r1] 92 (0, 0))) _ (Subl.cons (t := 0) (by decide) rfl (Subl.nil _ _)) ?_ (fun wr hcut => ?_)
  · exact ⟨_, u64_range _, (HK1.out.setCell (p := ⟨q, 0, none⟩) (.inr rfl) _).drew, heap_setCell_same _ _ _ _ _ _ h1⟩
  clear c0 f0 h1 HK1
  obtain ⟨r4, hr4, hk1, h1⟩ := hcut
  obtain ⟨c0, f0⟩ := blk1 h1
  have HK1 := Lib.hid hk1
  have H1 := Lib.hid h1
  clear hk1 h1
  repeat first
    | apply d_seq
    | with_reducible apply kt_normal
    | apply l_nil
    | apply d_region
    | (apply l_off; (focus rfl); (focus rfl))
    | (apply l_val; (focus rfl); (focus rfl); (focus rfl); (focus (go_simp; (try simp (disch := omega) only [wrap_in, wrap_in', wrap_u16, wrap_u8, wrap_u32, wrap_u64, rem_in, quo_in]); first | done | with_reducible rfl | (constructor <;> with_reducible rfl))))
    | (apply l_store; (focus rfl); (focus rfl); (focus rfl); (focus (go_simp; (try simp (disch := omega) only [wrap_in, wrap_in', wrap_u16, wrap_u8, wrap_u32, wrap_u64, rem_in, quo_in]); first | done | with_reducible rfl | (constructor <;> with_reducible rfl))))
    | apply d_block
    | (apply d_true; (focus rfl); (focus rfl))
    | (apply d_false; (focus rfl); (focus rfl))
    | apply d_skip
    | apply d_exit
    | apply d_ret
    | with_reducible apply kt_ret
    | with_reducible apply kt_exit
    | with_reducible apply kb_normal
    | with_reducible apply kb_ret
    | with_reducible apply kb_here
    | with_reducible apply kl_ret
    | with_reducible apply kl_exit
    | with_reducible apply kc_ret
    | with_reducible apply kc_exit
    | (with_reducible apply kb_there; (focus rfl))
  refine ⟨rfl, _, (by first | (simp [resultsG, resOne, Try.results50, rho, List.lookup]; done) | (simp [resultsG, resOne, Try.results50, rho, List.lookup]; rfl)), ?_⟩
  exact ⟨r4, rfl, hr4, HK1.out, H1.out⟩
set_option maxRecDepth 100000 in
set_option maxHeartbeats 2000000 in
theorem blen_any (x : Nat) (hx : x < 41) (w : World) : Calls Try.prog 36 #[.int .u64 x] w fun e w' => e = .returned (.int .i64 (lenL.getD x 0 : Nat)) ∧ w' = w := by
  refine d_calls (n := 8) Try.func36 rfl rfl (by simp) [(0, .int .u64 x)] (by simp) ?_
  repeat first
    | apply d_seq
    | with_reducible apply kt_normal
    | apply l_nil
    | apply d_region
    | (apply l_off; (focus rfl); (focus rfl))
    | (apply l_val; (focus rfl); (focus rfl); (focus rfl); (focus (go_simp; (try simp (disch := omega) only [wrap_in, wrap_in', wrap_u16, wrap_u8, wrap_u32, wrap_u64, rem_in, quo_in]); first | done | with_reducible rfl | (constructor <;> with_reducible rfl))))
    | (apply l_store; (focus rfl); (focus rfl); (focus rfl); (focus (go_simp; (try simp (disch := omega) only [wrap_in, wrap_in', wrap_u16, wrap_u8, wrap_u32, wrap_u64, rem_in, quo_in]); first | done | with_reducible rfl | (constructor <;> with_reducible rfl))))
    | apply d_block
    | (apply d_true; (focus rfl); (focus rfl))
    | (apply d_false; (focus rfl); (focus rfl))
    | apply d_skip
    | apply d_exit
    | apply d_ret
    | with_reducible apply kt_ret
    | with_reducible apply kt_exit
    | with_reducible apply kb_normal
    | with_reducible apply kb_ret
    | with_reducible apply kb_here
    | with_reducible apply kl_ret
    | with_reducible apply kl_exit
    | with_reducible apply kc_ret
    | with_reducible apply kc_exit
    | (with_reducible apply kb_there; (focus rfl))
  refine l_call rfl rfl rfl (by first | (go_simp; done) | (go_simp; rfl)) (len64_any x hx w) ?_
  rintro e w' ⟨rfl, rfl⟩
  refine ⟨_, rfl, ?_⟩
  repeat first
    | apply d_seq
    | with_reducible apply kt_normal
    | apply l_nil
    | apply d_region
    | (apply l_off; (focus rfl); (focus rfl))
    | (apply l_val; (focus rfl); (focus rfl); (focus rfl); (focus (go_simp; (try simp (disch := omega) only [wrap_in, wrap_in', wrap_u16, wrap_u8, wrap_u32, wrap_u64, rem_in, quo_in]); first | done | with_reducible rfl | (constructor <;> with_reducible rfl))))
    | (apply l_store; (focus rfl); (focus rfl); (focus rfl); (focus (go_simp; (try simp (disch := omega) only [wrap_in, wrap_in', wrap_u16, wrap_u8, wrap_u32, wrap_u64, rem_in, quo_in]); first | done | with_reducible rfl | (constructor <;> with_reducible rfl))))
    | apply d_block
    | (apply d_true; (focus rfl); (focus rfl))
    | (apply d_false; (focus rfl); (focus rfl))
    | apply d_skip
    | apply d_exit
    | apply d_ret
    | with_reducible apply kt_ret
    | with_reducible apply kt_exit
    | with_reducible apply kb_normal
    | with_reducible apply kb_ret
    | with_reducible apply kb_here
    | with_reducible apply kl_ret
    | with_reducible apply kl_exit
    | with_reducible apply kc_ret
    | with_reducible apply kc_exit
    | (with_reducible apply kb_there; (focus rfl))
  refine ⟨rfl, _, (by first | (simp [resultsG, resOne, Try.results36, rho, List.lookup]; done) | (simp [resultsG, resOne, Try.results36, rho, List.lookup]; rfl)), ?_⟩
  exact ⟨rfl, rfl⟩
set_option maxRecDepth 100000 in
set_option maxHeartbeats 2000000 in
theorem npow_any (x : Nat) (hx : x < 41) (w : World) : Calls Try.prog 49 #[.int .i64 x] w fun e w' => e = .returned (.int .u64 ((2 ^ lenL.getD x 0 : Nat) : Int)) ∧ w' = w := by
  have q5 := (lenL_ok x hx).1
  have q4 : IntKind.u64.wrap (x : Int) = x := wrap_u64 (by omega) (by omega)
  have hb := blen_any x hx w
  obtain ⟨L, hL⟩ : ∃ L, lenL.getD x 0 = L := ⟨_, rfl⟩
  rw [hL] at q5 hb ⊢
  have q6 : IntKind.u64.wrap ((2 : Int) ^ L) = ((2 ^ L : Nat) : Int) := by
    rcases (by omega : L = 0 ∨ L = 1 ∨ L = 2 ∨ L = 3 ∨ L = 4 ∨ L = 5 ∨ L = 6) with rfl | rfl | rfl | rfl | rfl | rfl | rfl <;> rfl
  generalize 2 ^ L = M at q6 ⊢
  have HB := Lib.hid hb
  clear hb
  refine d_calls (n := 7) Try.func49 rfl rfl (by simp) [(0, .int .i64 x)] (by simp) ?_
  repeat first
    | apply d_seq
    | with_reducible apply kt_normal
    | apply l_nil
    | apply d_region
    | (apply l_off; (focus rfl); (focus rfl))
    | (apply l_val; (focus rfl); (focus rfl); (focus rfl); (focus (go_simp; (try simp (disch := omega) only [wrap_in, wrap_in', wrap_u16, wrap_u8, wrap_u32, wrap_u64, rem_in, quo_in]); first | done | with_reducible rfl | (constructor <;> with_reducible rfl))))
    | (apply l_store; (focus rfl); (focus rfl); (focus rfl); (focus (go_simp; (try simp (disch := omega) only [wrap_in, wrap_in', wrap_u16, wrap_u8, wrap_u32, wrap_u64, rem_in, quo_in]); first | done | with_reducible rfl | (constructor <;> with_reducible rfl))))
    | apply d_block
    | (apply d_true; (focus rfl); (focus rfl))
    | (apply d_false; (focus rfl); (focus rfl))
    | apply d_skip
    | apply d_exit
    | apply d_ret
    | with_reducible apply kt_ret
    | with_reducible apply kt_exit
    | with_reducible apply kb_normal
    | with_reducible apply kb_ret
    | with_reducible apply kb_here
    | with_reducible apply kl_ret
    | with_reducible apply kl_exit
    | with_reducible apply kc_ret
    | with_reducible apply kc_exit
    | (with_reducible apply kb_there; (focus rfl))
  refine l_call rfl rfl rfl (by first | (go_simp; done) | (go_simp; rfl)) (HB.out) ?_
  rintro e w' ⟨rfl, rfl⟩
  refine ⟨_, rfl, ?_⟩
  repeat first
    | apply d_seq
    | with_reducible apply kt_normal
    | apply l_nil
    | apply d_region
    | (apply l_off; (focus rfl); (focus rfl))
    | (apply l_val; (focus rfl); (focus rfl); (focus rfl); (focus (go_simp; (try simp (disch := omega) only [wrap_in, wrap_in', wrap_u16, wrap_u8, wrap_u32, wrap_u64, rem_in, quo_in]); first | done | with_reducible rfl | (constructor <;> with_reducible rfl))))
    | (apply l_store; (focus rfl); (focus rfl); (focus rfl); (focus (go_simp; (try simp (disch := omega) only [wrap_in, wrap_in', wrap_u16, wrap_u8, wrap_u32, wrap_u64, rem_in, quo_in]); first | done | with_reducible rfl | (constructor <;> with_reducible rfl))))
    | apply d_block
    | (apply d_true; (focus rfl); (focus rfl))
    | (apply d_false; (focus rfl); (focus rfl))
    | apply d_skip
    | apply d_exit
    | apply d_ret
    | with_reducible apply kt_ret
    | with_reducible apply kt_exit
    | with_reducible apply kb_normal
    | with_reducible apply kb_ret
    | with_reducible apply kb_here
    | with_reducible apply kl_ret
    | with_reducible apply kl_exit
    | with_reducible apply kc_ret
    | with_reducible apply kc_exit
    | (with_reducible apply kb_there; (focus rfl))
  refine ⟨rfl, _, (by first | (simp [resultsG, resOne, Try.results49, rho, List.lookup]; done) | (simp [resultsG, resOne, Try.results49, rho, List.lookup]; rfl)), ?_⟩
  exact ⟨rfl, rfl⟩
/-- A step that turns a new block alone. -/
theorem SortK.trans2 {w w1 w2 : World} {g q : Nat} (h : SortK w g w1) (hq : w.heap.size ≤ q) (h2 : Keep (fun z => z = q) w1 w2) : SortK w g w2 :=
  Keep.trans h (Keep.mono h2 (fun _ e => .inr (by subst e; exact hq)))
set_option maxRecDepth 100000 in
set_option maxHeartbeats 4000000 in
theorem brk_any (g c : Nat) (t : List Value) (d : Array Int) (a b : Nat) (w : World) (h : RowB w g t d) (hc : d.size ≤ c) (hc' : c ≤ 9223372036854775807) (hz : d.size ≤ 4000000000000000) (hab : 12 < b - a) (hl : b - a < 41) (hb : b ≤ d.size) :
    Calls Try.prog 39 #[.slice (some ⟨g, 0, none⟩) d.size c, .int .i64 a, .int .i64 b] w fun e w' => ∃ d', e = .returned (.tuple #[]) ∧ SortK w g w' ∧ RowB w' g t d' ∧ PermIn a b d d' := by
  have hgl : g < w.heap.size := lt_of_block h
  obtain ⟨n, hn⟩ : ∃ n, d.size = n := ⟨_, rfl⟩
  rw [hn] at hc hb hz ⊢
  obtain ⟨l, hll⟩ : ∃ l, b - a = l := ⟨_, rfl⟩
  have k1 : (b : Int) - (a : Int) = l := by omega
  obtain ⟨q4, hq4⟩ : ∃ q, l / 4 = q := ⟨_, rfl⟩
  have k2 : (l : Int) / 4 = q4 := by omega
  have q1 : decide (8 ≤ (l : Int)) = true := decide_eq_true (by omega)
  have q2 : IntKind.u64.wrap (l : Int) = l := wrap_u64 (by omega) (by omega)
  have hlo := (lenL_ok l (by omega)).2 (by omega)
  have hl6 := (lenL_ok l (by omega)).1
  have hnp := fun W => npow_any l (by omega) W
  obtain ⟨L, hL⟩ : ∃ L, lenL.getD l 0 = L := ⟨_, rfl⟩
  rw [hL] at hlo hnp hl6
  have hmask : ∀ r : Int, 0 ≤ r → r < 18446744073709551616 → bits .and .u64 r ((2 : Int) ^ L - 1) = r % 2 ^ L := fun r h0 h1 => bits_mask .u64 64 (by decide) (fun n h0 h1 => wrap_u64 h0 (by omega)) L (by omega) r h0 (by simpa using h1)
  obtain ⟨M, hM⟩ : ∃ M : Nat, 2 ^ L = M := ⟨_, rfl⟩
  have hMI : (2 : Int) ^ L = (M : Int) := by rw [← hM]; simp
  rw [hM] at hlo hnp
  rw [hMI] at hmask
  obtain ⟨hM1, hM2⟩ := hlo
  clear hM hMI hL hl6
  obtain ⟨i0, hi0⟩ : ∃ i0, a + q4 * 2 = i0 + 1 := ⟨a + q4 * 2 - 1, by omega⟩
  have k3 : (a : Int) + q4 * 2 - 1 = i0 := by omega
  have k4 : (a : Int) + q4 * 2 + 1 = (i0 : Int) + 2 := by omega
  have hia : a ≤ i0 := by omega
  have hib : i0 + 2 < b := by omega
  have HX0 := Lib.hid h
  have HNP := Lib.hid hnp
  have HMASK := Lib.hid hmask
  have HLL := Lib.hid hll
  have HQ4 := Lib.hid hq4
  have HI0 := Lib.hid hi0
  clear hnp hmask hll hq4 hi0
  clear h
  refine d_calls (n := 65) Try.func39 rfl rfl (by simp) [(0, .slice (some ⟨g, 0, none⟩) n c), (1, .int .i64 a), (2, .int .i64 b)] (by simp) ?_
  repeat first
    | apply d_seq
    | with_reducible apply kt_normal
    | apply l_nil
    | apply d_region
    | (apply l_off; (focus rfl); (focus rfl))
    | (apply l_val; (focus rfl); (focus rfl); (focus rfl); (focus (go_simp; (try simp (disch := omega) only [wrap_in, wrap_in', wrap_u16, wrap_u8, wrap_u32, wrap_u64, rem_in, quo_in]); first | done | with_reducible rfl | (constructor <;> with_reducible rfl))))
    | (apply l_store; (focus rfl); (focus rfl); (focus rfl); (focus (go_simp; (try simp (disch := omega) only [wrap_in, wrap_in', wrap_u16, wrap_u8, wrap_u32, wrap_u64, rem_in, quo_in]); first | done | with_reducible rfl | (constructor <;> with_reducible rfl))))
    | apply d_block
    | (apply d_true; (focus rfl); (focus rfl))
    | (apply d_false; (focus rfl); (focus rfl))
    | apply d_skip
    | apply d_exit
    | apply d_ret
    | with_reducible apply kt_ret
    | with_reducible apply kt_exit
    | with_reducible apply kb_normal
    | with_reducible apply kb_ret
    | with_reducible apply kb_here
    | with_reducible apply kl_ret
    | with_reducible apply kl_exit
    | with_reducible apply kc_ret
    | with_reducible apply kc_exit
    | (with_reducible apply kb_there; (focus rfl))
  refine l_call rfl rfl rfl (by first | (go_simp; done) | (go_simp; rfl)) (HNP.out _) ?_
  rintro e w' ⟨rfl, rfl⟩
  refine ⟨_, rfl, ?_⟩
  repeat first
    | apply d_seq
    | with_reducible apply kt_normal
    | apply l_nil
    | apply d_region
    | (apply l_off; (focus rfl); (focus rfl))
    | (apply l_val; (focus rfl); (focus rfl); (focus rfl); (focus (go_simp; (try simp (disch := omega) only [wrap_in, wrap_in', wrap_u16, wrap_u8, wrap_u32, wrap_u64, rem_in, quo_in]); first | done | with_reducible rfl | (constructor <;> with_reducible rfl))))
    | (apply l_store; (focus rfl); (focus rfl); (focus rfl); (focus (go_simp; (try simp (disch := omega) only [wrap_in, wrap_in', wrap_u16, wrap_u8, wrap_u32, wrap_u64, rem_in, quo_in]); first | done | with_reducible rfl | (constructor <;> with_reducible rfl))))
    | apply d_block
    | (apply d_true; (focus rfl); (focus rfl))
    | (apply d_false; (focus rfl); (focus rfl))
    | apply d_skip
    | apply d_exit
    | apply d_ret
    | with_reducible apply kt_ret
    | with_reducible apply kt_exit
    | with_reducible apply kb_normal
    | with_reducible apply kb_ret
    | with_reducible apply kb_here
    | with_reducible apply kl_ret
    | with_reducible apply kl_exit
    | with_reducible apply kc_ret
    | with_reducible apply kc_exit
    | (with_reducible apply kb_there; (focus rfl))
  obtain ⟨q, hq⟩ : ∃ q, w.heap.size = q := ⟨_, rfl⟩
  have HI := Lib.hid (show SortK w g _ ∧ RowB _ g t d ∧ _ from ⟨(Keep.refl (fun z => z = g) w).alloc (.cells #[.int .u64 l] 92), (Below.heap_alloc w (.cells #[.int .u64 l] 92) g hgl).trans HX0.out, heap_alloc_new w (.cells #[.int .u64 l] 92)⟩)
  rw [hq] at HI ⊢
  have hqs : w.heap.size ≤ q := Nat.le_of_eq hq
  have HQ0 := Lib.hid hqs
  clear hq hqs
  refine d_loop (fun m D wr => ∃ (i : Nat) (d1 : Array Int) (r : Int), m = i0 + 3 - i ∧ i0 ≤ i ∧ i ≤ i0 + 3 ∧ d1.size = n ∧ D = [(0, .slice (some ⟨g, 0, none⟩) n c), (1, .int .i64 a), (6, .int .i64 l), (7, .pointer (some ⟨q, 0, none⟩)), (8, .int .u64 M), (9, .int .i64 i)] ∧ Hid ((SortK w g wr ∧ RowB wr g t d1) ∧ PermIn a b d d1 ∧ wr.heap[q]? = some (.cells #[.int .u64 r] 92 (0, 0)))) (i0 + 3 - i0) _ (Subl.cons (t := 0) (by decide) rfl (Subl.cons (t := 1) (by decide) rfl (Subl.cons (t := 6) (by decide) rfl (Subl.cons (t := 7) (by decide) rfl (Subl.cons (t := 8) (by decide) rfl (Subl.cons (t := 9) (by decide) rfl (Subl.nil _ _))))))) ?_ (fun m D wr hrel => ?_)
  · exact ⟨i0, d, l, rfl, Nat.le_refl _, by omega, hn, rfl, Lib.hid ⟨⟨HI.out.1, HI.out.2.1⟩, permIn_refl _ _ _, HI.out.2.2⟩⟩
  · clear HI HX0
    obtain ⟨i, d1, r, rfl, hi1, hi2, hz1, rfl, HR⟩ := hrel
    by_cases hlt : i ≤ i0 + 2
    · have q5 : decide ((i : Int) ≤ (i0 : Int) + 2) = true := decide_eq_true (by omega)
      have hnx := next_any q r wr HR.out.2.2
      have HNX := Lib.hid hnx
      clear hnx
      repeat first
        | apply d_seq
        | with_reducible apply kt_normal
        | apply l_nil
        | apply d_region
        | (apply l_off; (focus rfl); (focus rfl))
        | (apply l_val; (focus rfl); (focus rfl); (focus rfl); (focus (go_simp; (try simp (disch := omega) only [wrap_in, wrap_in', wrap_u16, wrap_u8, wrap_u32, wrap_u64, rem_in, quo_in]); first | done | with_reducible rfl | (constructor <;> with_reducible rfl))))
        | (apply l_store; (focus rfl); (focus rfl); (focus rfl); (focus (go_simp; (try simp (disch := omega) only [wrap_in, wrap_in', wrap_u16, wrap_u8, wrap_u32, wrap_u64, rem_in, quo_in]); first | done | with_reducible rfl | (constructor <;> with_reducible rfl))))
        | apply d_block
        | (apply d_true; (focus rfl); (focus rfl))
        | (apply d_false; (focus rfl); (focus rfl))
        | apply d_skip
        | apply d_exit
        | apply d_ret
        | with_reducible apply kt_ret
        | with_reducible apply kt_exit
        | with_reducible apply kb_normal
        | with_reducible apply kb_ret
        | with_reducible apply kb_here
        | with_reducible apply kl_ret
        | with_reducible apply kl_exit
        | with_reducible apply kc_ret
        | with_reducible apply kc_exit
        | (with_reducible apply kb_there; (focus rfl))
      refine l_call rfl rfl rfl (by first | (go_simp; done) | (go_simp; rfl)) (HNX.out) ?_
      rintro e w1 ⟨r1, rfl, hr1, hk1, hq1⟩
      obtain ⟨o, ho⟩ : ∃ o : Nat, r1 % (M : Int) = o := ⟨(r1 % (M : Int)).toNat, (Int.toNat_of_nonneg (Int.emod_nonneg _ (by omega))).symm⟩
      have hoM : o < M := by
        have := Int.emod_lt_of_pos r1 (show (0 : Int) < M by omega)
        omega
      have hand := HMASK.out r1 hr1.1 hr1.2
      rw [ho] at hand
      have hgq : g ≠ q := by have := HQ0.out; omega
      have HX := Lib.hid (show SortK w g w1 ∧ RowB w1 g t d1 from ⟨HR.out.1.1.trans2 HQ0.out hk1, by unfold RowB; rw [hk1.block g (lt_of_block HR.out.1.2) hgq]; exact HR.out.1.2⟩)
      have HQ1 := Lib.hid hq1
      clear hk1 hq1 ho hr1
      have k6 : (M : Int) - 1 = (M - 1 : Nat) := by omega
      rw [k6] at hand
      refine ⟨_, rfl, ?_⟩
      repeat first
        | ((fail_if_success (with_reducible refine d_at_region (id := 8) ?_)); apply d_seq)
        | with_reducible apply kt_normal
        | apply l_nil
        | apply d_region
        | (apply l_off; (focus rfl); (focus rfl))
        | (apply l_val; (focus rfl); (focus rfl); (focus rfl); (focus (go_simp; (try simp (disch := omega) only [wrap_in, wrap_in', wrap_u16, wrap_u8, wrap_u32, wrap_u64, rem_in, quo_in]); first | done | with_reducible rfl | (constructor <;> with_reducible rfl))))
        | (apply l_store; (focus rfl); (focus rfl); (focus rfl); (focus (go_simp; (try simp (disch := omega) only [wrap_in, wrap_in', wrap_u16, wrap_u8, wrap_u32, wrap_u64, rem_in, quo_in]); first | done | with_reducible rfl | (constructor <;> with_reducible rfl))))
        | apply d_block
        | (apply d_true; (focus rfl); (focus rfl))
        | (apply d_false; (focus rfl); (focus rfl))
        | apply d_skip
        | apply d_exit
        | apply d_ret
        | with_reducible apply kt_ret
        | with_reducible apply kt_exit
        | with_reducible apply kb_normal
        | with_reducible apply kb_ret
        | with_reducible apply kb_here
        | with_reducible apply kl_ret
        | with_reducible apply kl_exit
        | with_reducible apply kc_ret
        | with_reducible apply kc_exit
        | (with_reducible apply kb_there; (focus rfl))
      refine d_join (fun D wr => ∃ (o2 : Nat), D = [(0, .slice (some ⟨g, 0, none⟩) n c), (1, .int .i64 a), (6, .int .i64 l), (7, .pointer (some ⟨q, 0, none⟩)), (8, .int .u64 M), (9, .int .i64 i), (10, .int .i64 o2)] ∧ o2 < l ∧ Hid ((SortK w g wr ∧ RowB wr g t d1) ∧ wr.heap[q]? = some (.cells #[.int .u64 r1] 92 (0, 0)))) ?_ (fun D wr hcut => ?_)
      · by_cases ho2 : l ≤ o
        · have q6 : decide ((l : Int) ≤ (o : Int)) = true := decide_eq_true (by omega)
          obtain ⟨o2, ho3⟩ : ∃ o2, o = l + o2 := ⟨o - l, by omega⟩
          have k7 : (o : Int) - (l : Int) = o2 := by omega
          have h3 : o2 < l := by omega
          clear ho3
          repeat first
            | apply d_seq
            | with_reducible apply kt_normal
            | apply l_nil
            | apply d_region
            | (apply l_off; (focus rfl); (focus rfl))
            | (apply l_val; (focus rfl); (focus rfl); (focus rfl); (focus (go_simp; (try simp (disch := omega) only [wrap_in, wrap_in', wrap_u16, wrap_u8, wrap_u32, wrap_u64, rem_in, quo_in]); first | done | with_reducible rfl | (constructor <;> with_reducible rfl))))
            | (apply l_store; (focus rfl); (focus rfl); (focus rfl); (focus (go_simp; (try simp (disch := omega) only [wrap_in, wrap_in', wrap_u16, wrap_u8, wrap_u32, wrap_u64, rem_in, quo_in]); first | done | with_reducible rfl | (constructor <;> with_reducible rfl))))
            | apply d_block
            | (apply d_true; (focus rfl); (focus rfl))
            | (apply d_false; (focus rfl); (focus rfl))
            | apply d_skip
            | apply d_exit
            | apply d_ret
            | with_reducible apply kt_ret
            | with_reducible apply kt_exit
            | with_reducible apply kb_normal
            | with_reducible apply kb_ret
            | with_reducible apply kb_here
            | with_reducible apply kl_ret
            | with_reducible apply kl_exit
            | with_reducible apply kc_ret
            | with_reducible apply kc_exit
            | (with_reducible apply kb_there; (focus rfl))
          refine kc_normal _ (Subl.cons (t := 0) (by decide) rfl (Subl.cons (t := 1) (by decide) rfl (Subl.cons (t := 6) (by decide) rfl (Subl.cons (t := 7) (by decide) rfl (Subl.cons (t := 8) (by decide) rfl (Subl.cons (t := 9) (by decide) rfl (Subl.cons (t := 10) (by decide) rfl (Subl.nil _ _)))))))) ?_
          exact ⟨o2, rfl, h3, Lib.hid ⟨HX.out, HQ1.out⟩⟩
        · have q6 : decide ((l : Int) ≤ (o : Int)) = false := decide_eq_false (by omega)
          repeat first
            | apply d_seq
            | with_reducible apply kt_normal
            | apply l_nil
            | apply d_region
            | (apply l_off; (focus rfl); (focus rfl))
            | (apply l_val; (focus rfl); (focus rfl); (focus rfl); (focus (go_simp; (try simp (disch := omega) only [wrap_in, wrap_in', wrap_u16, wrap_u8, wrap_u32, wrap_u64, rem_in, quo_in]); first | done | with_reducible rfl | (constructor <;> with_reducible rfl))))
            | (apply l_store; (focus rfl); (focus rfl); (focus rfl); (focus (go_simp; (try simp (disch := omega) only [wrap_in, wrap_in', wrap_u16, wrap_u8, wrap_u32, wrap_u64, rem_in, quo_in]); first | done | with_reducible rfl | (constructor <;> with_reducible rfl))))
            | apply d_block
            | (apply d_true; (focus rfl); (focus rfl))
            | (apply d_false; (focus rfl); (focus rfl))
            | apply d_skip
            | apply d_exit
            | apply d_ret
            | with_reducible apply kt_ret
            | with_reducible apply kt_exit
            | with_reducible apply kb_normal
            | with_reducible apply kb_ret
            | with_reducible apply kb_here
            | with_reducible apply kl_ret
            | with_reducible apply kl_exit
            | with_reducible apply kc_ret
            | with_reducible apply kc_exit
            | (with_reducible apply kb_there; (focus rfl))
          refine kc_normal _ (Subl.cons (t := 0) (by decide) rfl (Subl.cons (t := 1) (by decide) rfl (Subl.cons (t := 6) (by decide) rfl (Subl.cons (t := 7) (by decide) rfl (Subl.cons (t := 8) (by decide) rfl (Subl.cons (t := 9) (by decide) rfl (Subl.cons (t := 10) (by decide) rfl (Subl.nil _ _)))))))) ?_
          exact ⟨o, rfl, by omega, Lib.hid ⟨HX.out, HQ1.out⟩⟩
      · clear HX HQ1
        obtain ⟨o2, rfl, ho2, HC⟩ := hcut
        have HX := Lib.hid HC.out.1
        obtain ⟨i1, hi3⟩ : ∃ i1, a + o2 = i1 := ⟨_, rfl⟩
        have k7 : (a : Int) + (o2 : Int) = i1 := by omega
        have hi4 : a ≤ i1 ∧ i1 < b := by omega
        obtain ⟨hi5, hi6⟩ := hi4
        clear hi3
        obtain ⟨d2, hd2⟩ : ∃ e, swp d1 i i1 = e := ⟨_, rfl⟩
        have r1 : i < d1.size := by omega
        have r2 : i1 < d1.size := by omega
        have s1 : i < n := by omega
        have s2 : i1 < n := by omega
        have x1 := HX.out.2.cell r1
        have x2 := HX.out.2.cell r2
        have x3 := (HX.out.2.set r1 d1[i1]!).cell (i := i1) (by simpa using r2)
        generalize (d1.setIfInBounds i d1[i1]!)[i1]! = u at x3
        have f1 := HX.out.2.frozen i
        have f2 := HX.out.2.frozen i1
        have hsw := HX.out.2.swp r1 r2
        rw [hd2] at hsw
        obtain ⟨x, hx⟩ : ∃ x, d1[i]! = x := ⟨_, rfl⟩
        obtain ⟨y, hy⟩ : ∃ y, d1[i1]! = y := ⟨_, rfl⟩
        rw [hx] at x1 hsw
        rw [hy] at x2 x3 hsw
        clear hx hy
        have zd2 : d2.size = n := by rw [← hd2, swp_size]; omega
        have HSW := Lib.hid hsw
        have HD2 := Lib.hid hd2
        clear hsw hd2
        repeat first
          | apply d_seq
          | with_reducible apply kt_normal
          | apply l_nil
          | apply d_region
          | (apply l_off; (focus rfl); (focus rfl))
          | (apply l_val; (focus rfl); (focus rfl); (focus rfl); (focus (go_simp; (try simp (disch := omega) only [wrap_in, wrap_in', wrap_u16, wrap_u8, wrap_u32, wrap_u64, rem_in, quo_in]); first | done | with_reducible rfl | (constructor <;> with_reducible rfl))))
          | (apply l_store; (focus rfl); (focus rfl); (focus rfl); (focus (go_simp; (try simp (disch := omega) only [wrap_in, wrap_in', wrap_u16, wrap_u8, wrap_u32, wrap_u64, rem_in, quo_in]); first | done | with_reducible rfl | (constructor <;> with_reducible rfl))))
          | apply d_block
          | (apply d_true; (focus rfl); (focus rfl))
          | (apply d_false; (focus rfl); (focus rfl))
          | apply d_skip
          | apply d_exit
          | apply d_ret
          | with_reducible apply kt_ret
          | with_reducible apply kt_exit
          | with_reducible apply kb_normal
          | with_reducible apply kb_ret
          | with_reducible apply kb_here
          | with_reducible apply kl_ret
          | with_reducible apply kl_exit
          | with_reducible apply kc_ret
          | with_reducible apply kc_exit
          | (with_reducible apply kb_there; (focus rfl))
        refine d_drawt (true, [([], []), ([], []), ([], []), ([], []), ([], []), ([3, 4], [3, 4]), ([], []), ([], []), ([], []), ([7, 8], [7, 8]), ([6, 9], [6, 9]), ([10], [10]), ([], []), ([], []), ([12, 13], [12, 13]), ([14], [14]), ([0, 1, 0, 1, 6, 7, 8, 9, 10, 11, 15], [0, 1]), ([16, 11, 0, 1, 6, 7, 8, 9, 10, 11, 15], [11, 16]), ([2, 5, 0, 1, 2, 3, 4, 5, 6, 7, 8, 9, 10, 11, 12, 13, 14, 15, 16, 17], [2, 5]), ([18, 15, 17, 0, 1, 2, 3, 4, 5, 6, 7, 8, 9, 10, 11, 12, 13, 14, 15, 16, 17], [15, 18])]) [(0, 0), (0, 1), (0, 6), (0, 7), (0, 8), (0, 9), (0, 10), (0, 11), (0, 12), (0, 13), (0, 14), (0, 15), (0, 16), (3, 2), (3, 3), (3, 4), (3, 5), (2, 17), (2, 18), (2, 19)] [17, 18, 19] (fun W => W.cell? ⟨g, i, none⟩ = some (.int .u16 x) ∧ W.cell? ⟨g, i1, none⟩ = some (.int .u16 y)) (by kernel_rfl) (by kernel_rfl) (by kernel_rfl) (by kernel_rfl) ⟨x1, x2⟩ ?_
        iterate 13
          first | (apply t_off; (focus rfl); (focus rfl); (focus rfl)) | (apply t_yield; (focus rfl); (focus rfl); (focus rfl); (focus rfl); (focus (intro W hS; obtain ⟨hS1, hS2⟩ := hS; go_simp; (try simp (disch := omega) only [wrap_in, wrap_in', wrap_u16, wrap_u8, wrap_u32, wrap_u64, rem_in, quo_in]); first | done | with_reducible rfl | (constructor <;> with_reducible rfl))))
        iterate 4
          first | (apply t_anyoff; (focus rfl); (focus rfl); (focus rfl)) | (apply t_any; (focus rfl); (focus rfl); (focus rfl); (focus rfl); (focus (intro W; go_simp; (try simp (disch := omega) only [wrap_in, wrap_in', wrap_u16, wrap_u8, wrap_u32, wrap_u64, rem_in, quo_in]); first | done | with_reducible rfl | (constructor <;> with_reducible rfl))))
        first | (apply t_last; (focus rfl); (focus rfl); (focus rfl); (focus rfl); (focus (go_simp; (try simp (disch := omega) only [wrap_in, wrap_in', wrap_u16, wrap_u8, wrap_u32, wrap_u64, rem_in, quo_in]); first | done | with_reducible rfl | (constructor <;> with_reducible rfl)))) | (apply t_laststore; (focus rfl); (focus rfl); (focus rfl); (focus rfl); (focus (go_simp; (try simp (disch := omega) only [wrap_in, wrap_in', wrap_u16, wrap_u8, wrap_u32, wrap_u64, rem_in, quo_in]); first | done | with_reducible rfl | (constructor <;> with_reducible rfl))))
        first | (apply t_last; (focus rfl); (focus rfl); (focus rfl); (focus rfl); (focus (go_simp; (try simp (disch := omega) only [wrap_in, wrap_in', wrap_u16, wrap_u8, wrap_u32, wrap_u64, rem_in, quo_in]); first | done | with_reducible rfl | (constructor <;> with_reducible rfl)))) | (apply t_laststore; (focus rfl); (focus rfl); (focus rfl); (focus rfl); (focus (go_simp; (try simp (disch := omega) only [wrap_in, wrap_in', wrap_u16, wrap_u8, wrap_u32, wrap_u64, rem_in, quo_in]); first | done | with_reducible rfl | (constructor <;> with_reducible rfl))))
        first | (apply t_last; (focus rfl); (focus rfl); (focus rfl); (focus rfl); (focus (go_simp; (try simp (disch := omega) only [wrap_in, wrap_in', wrap_u16, wrap_u8, wrap_u32, wrap_u64, rem_in, quo_in]); first | done | with_reducible rfl | (constructor <;> with_reducible rfl)))) | (apply t_laststore; (focus rfl); (focus rfl); (focus rfl); (focus rfl); (focus (go_simp; (try simp (disch := omega) only [wrap_in, wrap_in', wrap_u16, wrap_u8, wrap_u32, wrap_u64, rem_in, quo_in]); first | done | with_reducible rfl | (constructor <;> with_reducible rfl))))
        refine t_done ?_
        have HK := Lib.hid ((HX.out.1.drew.set i (.int .u16 y)).set i1 (.int .u16 x))
        clear HX x1 x2 x3 f1 f2 r1 r2 s1 s2
        have HX := Lib.hid (⟨HK.out, HSW.out⟩ : SortK w g _ ∧ RowB _ g t d2)
        clear HK HSW
        have hp := permIn_trans _ _ _ a b HR.out.2.1 (swp_permIn d1 a b i i1 (by omega) (by omega) hi5 hi6 (by omega))
        rw [HD2.out] at hp
        have hkq := (((SortK.refl wr g).drew.set i (.int .u16 y)).set i1 (.int .u16 x)).block q (lt_of_block HC.out.2) (fun e => hgq e.symm)
        have HP := Lib.hid (And.intro hp (hkq.trans HC.out.2))
        clear hp hkq
        repeat first
          | apply d_seq
          | with_reducible apply kt_normal
          | apply l_nil
          | apply d_region
          | (apply l_off; (focus rfl); (focus rfl))
          | (apply l_val; (focus rfl); (focus rfl); (focus rfl); (focus (go_simp; (try simp (disch := omega) only [wrap_in, wrap_in', wrap_u16, wrap_u8, wrap_u32, wrap_u64, rem_in, quo_in]); first | done | with_reducible rfl | (constructor <;> with_reducible rfl))))
          | (apply l_store; (focus rfl); (focus rfl); (focus rfl); (focus (go_simp; (try simp (disch := omega) only [wrap_in, wrap_in', wrap_u16, wrap_u8, wrap_u32, wrap_u64, rem_in, quo_in]); first | done | with_reducible rfl | (constructor <;> with_reducible rfl))))
          | apply d_block
          | (apply d_true; (focus rfl); (focus rfl))
          | (apply d_false; (focus rfl); (focus rfl))
          | apply d_skip
          | apply d_exit
          | apply d_ret
          | with_reducible apply kt_ret
          | with_reducible apply kt_exit
          | with_reducible apply kb_normal
          | with_reducible apply kb_ret
          | with_reducible apply kb_here
          | with_reducible apply kl_ret
          | with_reducible apply kl_exit
          | with_reducible apply kc_ret
          | with_reducible apply kc_exit
          | (with_reducible apply kb_there; (focus rfl))
        refine kl_normal (i0 + 3 - (i + 1)) _ (by omega) (Subl.cons (t := 0) (by decide) rfl (Subl.cons (t := 1) (by decide) rfl (Subl.cons (t := 6) (by decide) rfl (Subl.cons (t := 7) (by decide) rfl (Subl.cons (t := 8) (by decide) rfl (Subl.cons (t := 9) (by decide) rfl (Subl.nil _ _))))))) ?_
        exact ⟨i + 1, d2, r1, rfl, by omega, by omega, zd2, rfl, Lib.hid ⟨HX.out, HP.out⟩⟩
    · have q5 : decide ((i : Int) ≤ (i0 : Int) + 2) = false := decide_eq_false (by omega)
      repeat first
        | apply d_seq
        | with_reducible apply kt_normal
        | apply l_nil
        | apply d_region
        | (apply l_off; (focus rfl); (focus rfl))
        | (apply l_val; (focus rfl); (focus rfl); (focus rfl); (focus (go_simp; (try simp (disch := omega) only [wrap_in, wrap_in', wrap_u16, wrap_u8, wrap_u32, wrap_u64, rem_in, quo_in]); first | done | with_reducible rfl | (constructor <;> with_reducible rfl))))
        | (apply l_store; (focus rfl); (focus rfl); (focus rfl); (focus (go_simp; (try simp (disch := omega) only [wrap_in, wrap_in', wrap_u16, wrap_u8, wrap_u32, wrap_u64, rem_in, quo_in]); first | done | with_reducible rfl | (constructor <;> with_reducible rfl))))
        | apply d_block
        | (apply d_true; (focus rfl); (focus rfl))
        | (apply d_false; (focus rfl); (focus rfl))
        | apply d_skip
        | apply d_exit
        | apply d_ret
        | with_reducible apply kt_ret
        | with_reducible apply kt_exit
        | with_reducible apply kb_normal
        | with_reducible apply kb_ret
        | with_reducible apply kb_here
        | with_reducible apply kl_ret
        | with_reducible apply kl_exit
        | with_reducible apply kc_ret
        | with_reducible apply kc_exit
        | (with_reducible apply kb_there; (focus rfl))
      refine ⟨rfl, _, (by first | (simp [resultsG, resOne, Try.results39, rho, List.lookup]; done) | (simp [resultsG, resOne, Try.results39, rho, List.lookup]; rfl)), ?_⟩
      exact ⟨d1, rfl, HR.out.1.1, HR.out.1.2, HR.out.2.1⟩
end Go.Proofs.Ytbcjmgocdplfnaa
