import Derived.Test.YtbcjmgocdplfnaaSort3
import Derived.Test.YtbcjmgocdplfnaaHas
namespace Go.Proofs.Ytbcjmgocdplfnaa
set_option linter.unusedVariables false
set_option linter.unusedSimpArgs false
attribute [local go_sem] rho_const rho_func rho_hit rho_miss
open Go.RowKit Go.Sort
set_option maxRecDepth 100000 in
set_option maxHeartbeats 4000000 in
theorem pins_any (g c : Nat) (t : List Value) (d : Array Int) (a b : Nat) (w : World) (h : RowB w g t d) (hc : d.size ≤ c) (hc' : c ≤ 9223372036854775807) (hz : d.size ≤ 4000000000000000) (hab : a < b) (hb : b ≤ d.size) (hl : b - a < 50) :
    Calls Try.prog 42 #[.slice (some ⟨g, 0, none⟩) d.size c, .int .i64 a, .int .i64 b] w fun e w' => ∃ r, e = .returned (.bool r) ∧ SortK w g w' ∧ RowB w' g t d ∧ (r = true → SortedIn ltInt a b d) := by
  obtain ⟨n, hn⟩ : ∃ n, d.size = n := ⟨_, rfl⟩
  rw [hn] at hc hb hz ⊢
  have HX := Lib.hid (show SortK w g w ∧ RowB w g t d from ⟨.refl _ _, h⟩)
  clear h
  refine d_calls (n := 133) Try.func42 rfl rfl (by simp) [(0, .slice (some ⟨g, 0, none⟩) n c), (1, .int .i64 a), (2, .int .i64 b)] (by simp) ?_
  repeat first
    | apply d_seq
    | with_reducible apply kt_normal
    | apply l_nil
    | apply d_region
    | (apply l_off; (focus rfl); (focus rfl))
    | (apply l_val; (focus rfl); (focus rfl); (focus rfl); (focus (go_simp; (try simp (disch := omega) only [wrap_in, wrap_in', wrap_u16, wrap_u8, wrap_u32, wrap_u64, rem_in, quo_in]); first | done | with_reducible rfl | (constructor <;> with_reducible rfl))))
    | (apply l_store; (focus rfl); (focus rfl); (focus rfl); (focus (go_simp; (try simp (disch := omega) only [wrap_in, wrap_in', wrap_u16, wrap_u8, wrap_u32, wrap_u64, rem_in, quo_in]); first | done | with_reducible rfl | (constructor <;> with_reducible rfl))))
    | apply d_block
    | (apply d_true; (focus rfl); (focus rfl))
    | (apply d_false; (focus rfl); (focus rfl))
    | apply d_skip
    | apply d_exit
    | apply d_ret
    | with_reducible apply kt_ret
    | with_reducible apply kt_exit
    | with_reducible apply kb_normal
    | with_reducible apply kb_ret
    | with_reducible apply kb_here
    | with_reducible apply kl_ret
    | with_reducible apply kl_exit
    | with_reducible apply kc_ret
    | with_reducible apply kc_exit
    | (with_reducible apply kb_there; (focus rfl))
  refine d_loop (fun m D wr => m = 0 ∧ D = [(0, .slice (some ⟨g, 0, none⟩) n c), (1, .int .i64 a), (2, .int .i64 b), (7, .int .i64 ((a : Int) + 1)), (8, .int .i64 0)] ∧ Hid (SortK w g wr ∧ RowB wr g t d)) (0) _ (Subl.cons (t := 0) (by decide) rfl (Subl.cons (t := 1) (by decide) rfl (Subl.cons (t := 2) (by decide) rfl (Subl.cons (t := 7) (by decide) rfl (Subl.cons (t := 8) (by decide) rfl (Subl.nil _ _)))))) ?_ (fun m D wr hrel => ?_)
  · exact ⟨rfl, rfl, HX⟩
  · clear HX
    obtain ⟨rfl, rfl, HX⟩ := hrel
    repeat first
      | apply d_seq
      | with_reducible apply kt_normal
      | apply l_nil
      | apply d_region
      | (apply l_off; (focus rfl); (focus rfl))
      | (apply l_val; (focus rfl); (focus rfl); (focus rfl); (focus (go_simp; (try simp (disch := omega) only [wrap_in, wrap_in', wrap_u16, wrap_u8, wrap_u32, wrap_u64, rem_in, quo_in]); first | done | with_reducible rfl | (constructor <;> with_reducible rfl))))
      | (apply l_store; (focus rfl); (focus rfl); (focus rfl); (focus (go_simp; (try simp (disch := omega) only [wrap_in, wrap_in', wrap_u16, wrap_u8, wrap_u32, wrap_u64, rem_in, quo_in]); first | done | with_reducible rfl | (constructor <;> with_reducible rfl))))
      | ((fail_if_success (with_reducible apply d_block (id := 2))); apply d_block)
      | (apply d_true; (focus rfl); (focus rfl))
      | (apply d_false; (focus rfl); (focus rfl))
      | apply d_skip
      | apply d_exit
      | apply d_ret
      | with_reducible apply kt_ret
      | with_reducible apply kt_exit
      | with_reducible apply kb_normal
      | with_reducible apply kb_ret
      | with_reducible apply kb_here
      | with_reducible apply kl_ret
      | with_reducible apply kl_exit
      | with_reducible apply kc_ret
      | with_reducible apply kc_exit
      | (with_reducible apply kb_there; (focus rfl))
    refine d_join (fun D wr => ∃ (i : Nat), D = [(0, .slice (some ⟨g, 0, none⟩) n c), (1, .int .i64 a), (2, .int .i64 b), (7, .int .i64 i)] ∧ i ≤ b ∧ Hid ((SortK w g wr ∧ RowB wr g t d) ∧ SortedIn ltInt a i d)) ?_ (fun D wr hcut => ?_)
    · repeat first
        | apply d_seq
        | with_reducible apply kt_normal
        | apply l_nil
        | apply d_region
        | (apply l_off; (focus rfl); (focus rfl))
        | (apply l_val; (focus rfl); (focus rfl); (focus rfl); (focus (go_simp; (try simp (disch := omega) only [wrap_in, wrap_in', wrap_u16, wrap_u8, wrap_u32, wrap_u64, rem_in, quo_in]); first | done | with_reducible rfl | (constructor <;> with_reducible rfl))))
        | (apply l_store; (focus rfl); (focus rfl); (focus rfl); (focus (go_simp; (try simp (disch := omega) only [wrap_in, wrap_in', wrap_u16, wrap_u8, wrap_u32, wrap_u64, rem_in, quo_in]); first | done | with_reducible rfl | (constructor <;> with_reducible rfl))))
        | apply d_block
        | (apply d_true; (focus rfl); (focus rfl))
        | (apply d_false; (focus rfl); (focus rfl))
        | apply d_skip
        | apply d_exit
        | apply d_ret
        | with_reducible apply kt_ret
        | with_reducible apply kt_exit
        | with_reducible apply kb_normal
        | with_reducible apply kb_ret
        | with_reducible apply kb_here
        | with_reducible apply kl_ret
        | with_reducible apply kl_exit
        | with_reducible apply kc_ret
        | with_reducible apply kc_exit
        | (with_reducible apply kb_there; (focus rfl))
      refine d_loop (fun m D wr => ∃ (i : Nat) (v : Int), m = b - i ∧ a + 1 ≤ i ∧ i ≤ b ∧ v = i ∧ D = [(0, .slice (some ⟨g, 0, none⟩) n c), (1, .int .i64 a), (2, .int .i64 b), (7, .int .i64 v)] ∧ Hid ((SortK w g wr ∧ RowB wr g t d) ∧ SortedIn ltInt a i d)) (b - (a + 1)) _ (Subl.cons (t := 0) (by decide) rfl (Subl.cons (t := 1) (by decide) rfl (Subl.cons (t := 2) (by decide) rfl (Subl.cons (t := 7) (by decide) rfl (Subl.nil _ _))))) ?_ (fun m D wr hrel => ?_)
      · exact ⟨a + 1, _, rfl, Nat.le_refl _, by omega, by omega, rfl, Lib.hid ⟨HX.out, fun i j h1 h2 h3 => by omega⟩⟩
      · clear HX
        obtain ⟨i, v, rfl, hi1, hi2, rfl, rfl, HR⟩ := hrel
        by_cases hlt : i < b
        · obtain ⟨q, hq⟩ : ∃ q, i = q + 1 := ⟨i - 1, by omega⟩
          have hq3 : ((i : Int) - 1) = q := by omega
          have hq4 : i - 1 = q := by omega
          have r1 : i < d.size := by omega
          have r0 : q < d.size := by omega
          have s1 : i < n := by omega
          have s0 : q < n := by omega
          have x1 := HR.out.1.2.cell r1
          have x0 := HR.out.1.2.cell r0
          have HQ := Lib.hid hq
          have HQ4 := Lib.hid hq4
          clear hq hq4
          obtain ⟨x, hx⟩ : ∃ x, d[i]! = x := ⟨_, rfl⟩
          obtain ⟨y, hy⟩ : ∃ y, d[q]! = y := ⟨_, rfl⟩
          rw [hx] at x1
          rw [hy] at x0
          obtain ⟨bb, hb⟩ : ∃ bb, ltInt x y = bb := ⟨_, rfl⟩
          have hl := fun W => less_any x y W
          simp only [hb] at hl
          have he : ltInt d[i]! d[q]! = bb := by rw [hx, hy]; exact hb
          clear hx hy hb
          have HL := Lib.hid hl
          have HE := Lib.hid he
          clear hl he
          repeat first
            | apply d_seq
            | with_reducible apply kt_normal
            | apply l_nil
            | apply d_region
            | (apply l_off; (focus rfl); (focus rfl))
            | (apply l_val; (focus rfl); (focus rfl); (focus rfl); (focus (go_simp; (try simp (disch := omega) only [wrap_in, wrap_in', wrap_u16, wrap_u8, wrap_u32, wrap_u64, rem_in, quo_in]); first | done | with_reducible rfl | (constructor <;> with_reducible rfl))))
            | (apply l_store; (focus rfl); (focus rfl); (focus rfl); (focus (go_simp; (try simp (disch := omega) only [wrap_in, wrap_in', wrap_u16, wrap_u8, wrap_u32, wrap_u64, rem_in, quo_in]); first | done | with_reducible rfl | (constructor <;> with_reducible rfl))))
            | apply d_block
            | (apply d_true; (focus rfl); (focus rfl))
            | (apply d_false; (focus rfl); (focus rfl))
            | apply d_skip
            | apply d_exit
            | apply d_ret
            | with_reducible apply kt_ret
            | with_reducible apply kt_exit
            | with_reducible apply kb_normal
            | with_reducible apply kb_ret
            | with_reducible apply kb_here
            | with_reducible apply kl_ret
            | with_reducible apply kl_exit
            | with_reducible apply kc_ret
            | with_reducible apply kc_exit
            | (with_reducible apply kb_there; (focus rfl))
          refine d_draw (true, [([], []), ([], []), ([0, 1], [0, 1]), ([2], [2]), ([3], [3]), ([3], [3]), ([4, 5, 3], [3, 4, 5]), ([6, 3], [3, 6]), ([3], [3]), ([3], [3]), ([9, 3], [3, 9]), ([8, 10, 3], [3, 8, 10]), ([11, 3], [3, 11]), ([7, 12, 3, 3], [3, 7, 12]), ([13, 3], [3, 13]), ([3, 14], [3, 14])]) [(0, 0), (0, 1), (0, 2), (0, 3), (0, 4), (0, 5), (0, 6), (0, 7), (0, 8), (0, 9), (0, 10), (0, 11), (0, 12), (1, 13), (0, 14), (0, 15)] [999999] (fun W => W.cell? ⟨g, i, none⟩ = some (.int .u16 x) ∧ W.cell? ⟨g, q, none⟩ = some (.int .u16 y)) (by kernel_rfl) (by kernel_rfl) (by kernel_rfl) (by kernel_rfl) ⟨x1, x0⟩ ?_
          iterate 13
            first | (apply s_off; (focus rfl); (focus rfl); (focus rfl)) | (apply s_yield; (focus rfl); (focus rfl); (focus rfl); (focus rfl); (focus (intro W hS; obtain ⟨hS1, hS2⟩ := hS; go_simp; (try simp (disch := omega) only [wrap_in, wrap_in', wrap_u16, wrap_u8, wrap_u32, wrap_u64, rem_in, quo_in]); first | done | with_reducible rfl | (constructor <;> with_reducible rfl))))
          refine s_call rfl rfl rfl rfl (by first | (go_simp; done) | (go_simp; rfl)) (HL.out _) ?_
          rintro e w' ⟨rfl, rfl⟩
          refine ⟨_, rfl, ⟨x1, x0⟩, ?_⟩
          iterate 2
            first | (apply s_off; (focus rfl); (focus rfl); (focus rfl)) | (apply s_yield; (focus rfl); (focus rfl); (focus rfl); (focus rfl); (focus (intro W hS; obtain ⟨hS1, hS2⟩ := hS; go_simp; (try simp (disch := omega) only [wrap_in, wrap_in', wrap_u16, wrap_u8, wrap_u32, wrap_u64, rem_in, quo_in]); first | done | with_reducible rfl | (constructor <;> with_reducible rfl))))
          refine s_done ?_
          cases bb
          · repeat first
              | apply d_seq
              | with_reducible apply kt_normal
              | apply l_nil
              | apply d_region
              | (apply l_off; (focus rfl); (focus rfl))
              | (apply l_val; (focus rfl); (focus rfl); (focus rfl); (focus (go_simp; (try simp (disch := omega) only [wrap_in, wrap_in', wrap_u16, wrap_u8, wrap_u32, wrap_u64, rem_in, quo_in]); first | done | with_reducible rfl | (constructor <;> with_reducible rfl))))
              | (apply l_store; (focus rfl); (focus rfl); (focus rfl); (focus (go_simp; (try simp (disch := omega) only [wrap_in, wrap_in', wrap_u16, wrap_u8, wrap_u32, wrap_u64, rem_in, quo_in]); first | done | with_reducible rfl | (constructor <;> with_reducible rfl))))
              | apply d_block
              | (apply d_true; (focus rfl); (focus rfl))
              | (apply d_false; (focus rfl); (focus rfl))
              | apply d_skip
              | apply d_exit
              | apply d_ret
              | with_reducible apply kt_ret
              | with_reducible apply kt_exit
              | with_reducible apply kb_normal
              | with_reducible apply kb_ret
              | with_reducible apply kb_here
              | with_reducible apply kl_ret
              | with_reducible apply kl_exit
              | with_reducible apply kc_ret
              | with_reducible apply kc_exit
              | (with_reducible apply kb_there; (focus rfl))
            refine kl_normal (b - (i + 1)) _ (by omega) (Subl.cons (t := 0) (by decide) rfl (Subl.cons (t := 1) (by decide) rfl (Subl.cons (t := 2) (by decide) rfl (Subl.cons (t := 7) (by decide) rfl (Subl.nil _ _))))) ?_
            refine ⟨i + 1, _, rfl, by omega, by omega, by omega, rfl, Lib.hid ⟨⟨HR.out.1.1.drew, HR.out.1.2⟩, SortedIn.snoc swo_ltInt HR.out.2 (by rw [HQ4.out]; exact HE.out)⟩⟩
          · repeat first
              | apply d_seq
              | with_reducible apply kt_normal
              | apply l_nil
              | apply d_region
              | (apply l_off; (focus rfl); (focus rfl))
              | (apply l_val; (focus rfl); (focus rfl); (focus rfl); (focus (go_simp; (try simp (disch := omega) only [wrap_in, wrap_in', wrap_u16, wrap_u8, wrap_u32, wrap_u64, rem_in, quo_in]); first | done | with_reducible rfl | (constructor <;> with_reducible rfl))))
              | (apply l_store; (focus rfl); (focus rfl); (focus rfl); (focus (go_simp; (try simp (disch := omega) only [wrap_in, wrap_in', wrap_u16, wrap_u8, wrap_u32, wrap_u64, rem_in, quo_in]); first | done | with_reducible rfl | (constructor <;> with_reducible rfl))))
              | apply d_block
              | (apply d_true; (focus rfl); (focus rfl))
              | (apply d_false; (focus rfl); (focus rfl))
              | apply d_skip
              | apply d_exit
              | apply d_ret
              | with_reducible apply kt_ret
              | with_reducible apply kt_exit
              | with_reducible apply kb_normal
              | with_reducible apply kb_ret
              | with_reducible apply kb_here
              | with_reducible apply kl_ret
              | with_reducible apply kl_exit
              | with_reducible apply kc_ret
              | with_reducible apply kc_exit
              | (with_reducible apply kb_there; (focus rfl))
            refine kc_normal _ (Subl.cons (t := 0) (by decide) rfl (Subl.cons (t := 1) (by decide) rfl (Subl.cons (t := 2) (by decide) rfl (Subl.cons (t := 7) (by decide) rfl (Subl.nil _ _))))) ?_
            exact ⟨i, rfl, hi2, Lib.hid ⟨⟨HR.out.1.1.drew, HR.out.1.2⟩, HR.out.2⟩⟩
        · repeat first
            | apply d_seq
            | with_reducible apply kt_normal
            | apply l_nil
            | apply d_region
            | (apply l_off; (focus rfl); (focus rfl))
            | (apply l_val; (focus rfl); (focus rfl); (focus rfl); (focus (go_simp; (try simp (disch := omega) only [wrap_in, wrap_in', wrap_u16, wrap_u8, wrap_u32, wrap_u64, rem_in, quo_in]); first | done | with_reducible rfl | (constructor <;> with_reducible rfl))))
            | (apply l_store; (focus rfl); (focus rfl); (focus rfl); (focus (go_simp; (try simp (disch := omega) only [wrap_in, wrap_in', wrap_u16, wrap_u8, wrap_u32, wrap_u64, rem_in, quo_in]); first | done | with_reducible rfl | (constructor <;> with_reducible rfl))))
            | apply d_block
            | (apply d_true; (focus rfl); (focus rfl))
            | (apply d_false; (focus rfl); (focus rfl))
            | apply d_skip
            | apply d_exit
            | apply d_ret
            | with_reducible apply kt_ret
            | with_reducible apply kt_exit
            | with_reducible apply kb_normal
            | with_reducible apply kb_ret
            | with_reducible apply kb_here
            | with_reducible apply kl_ret
            | with_reducible apply kl_exit
            | with_reducible apply kc_ret
            | with_reducible apply kc_exit
            | (with_reducible apply kb_there; (focus rfl))
          refine d_draw (true, [([], []), ([], []), ([0, 1], [0, 1]), ([2], [2]), ([3], [3]), ([3], [3]), ([4, 5, 3], [3, 4, 5]), ([6, 3], [3, 6]), ([3], [3]), ([3], [3]), ([9, 3], [3, 9]), ([8, 10, 3], [3, 8, 10]), ([11, 3], [3, 11]), ([7, 12, 3, 3], [3, 7, 12]), ([13, 3], [3, 13]), ([3, 14], [3, 14])]) [(0, 0), (0, 1), (0, 2), (0, 3), (0, 4), (0, 5), (0, 6), (0, 7), (0, 8), (0, 9), (0, 10), (0, 11), (0, 12), (1, 13), (0, 14), (0, 15)] [999999] (fun W => True) (by kernel_rfl) (by kernel_rfl) (by kernel_rfl) (by kernel_rfl) trivial ?_
          iterate 13
            first | (apply s_off; (focus rfl); (focus rfl); (focus rfl)) | (apply s_yield; (focus rfl); (focus rfl); (focus rfl); (focus rfl); (focus (intro W hS; go_simp; (try simp (disch := omega) only [wrap_in, wrap_in', wrap_u16, wrap_u8, wrap_u32, wrap_u64, rem_in, quo_in]); first | done | with_reducible rfl | (constructor <;> with_reducible rfl))))
          refine s_nocall rfl rfl rfl trivial ?_
          iterate 2
            first | (apply s_off; (focus rfl); (focus rfl); (focus rfl)) | (apply s_yield; (focus rfl); (focus rfl); (focus rfl); (focus rfl); (focus (intro W hS; go_simp; (try simp (disch := omega) only [wrap_in, wrap_in', wrap_u16, wrap_u8, wrap_u32, wrap_u64, rem_in, quo_in]); first | done | with_reducible rfl | (constructor <;> with_reducible rfl))))
          refine s_done ?_
          repeat first
            | apply d_seq
            | with_reducible apply kt_normal
            | apply l_nil
            | apply d_region
            | (apply l_off; (focus rfl); (focus rfl))
            | (apply l_val; (focus rfl); (focus rfl); (focus rfl); (focus (go_simp; (try simp (disch := omega) only [wrap_in, wrap_in', wrap_u16, wrap_u8, wrap_u32, wrap_u64, rem_in, quo_in]); first | done | with_reducible rfl | (constructor <;> with_reducible rfl))))
            | (apply l_store; (focus rfl); (focus rfl); (focus rfl); (focus (go_simp; (try simp (disch := omega) only [wrap_in, wrap_in', wrap_u16, wrap_u8, wrap_u32, wrap_u64, rem_in, quo_in]); first | done | with_reducible rfl | (constructor <;> with_reducible rfl))))
            | apply d_block
            | (apply d_true; (focus rfl); (focus rfl))
            | (apply d_false; (focus rfl); (focus rfl))
            | apply d_skip
            | apply d_exit
            | apply d_ret
            | with_reducible apply kt_ret
            | with_reducible apply kt_exit
            | with_reducible apply kb_normal
            | with_reducible apply kb_ret
            | with_reducible apply kb_here
            | with_reducible apply kl_ret
            | with_reducible apply kl_exit
            | with_reducible apply kc_ret
            | with_reducible apply kc_exit
            | (with_reducible apply kb_there; (focus rfl))
          refine kc_normal _ (Subl.cons (t := 0) (by decide) rfl (Subl.cons (t := 1) (by decide) rfl (Subl.cons (t := 2) (by decide) rfl (Subl.cons (t := 7) (by decide) rfl (Subl.nil _ _))))) ?_
          exact ⟨i, rfl, hi2, Lib.hid ⟨⟨HR.out.1.1.drew, HR.out.1.2⟩, HR.out.2⟩⟩
    · clear HX
      obtain ⟨i, rfl, hib, HR⟩ := hcut
      by_cases hq : i = b
      · subst hq
        have q1 : ((i : Int) == (i : Int)) = true := by simp
        repeat first
          | apply d_seq
          | with_reducible apply kt_normal
          | apply l_nil
          | apply d_region
          | (apply l_off; (focus rfl); (focus rfl))
          | (apply l_val; (focus rfl); (focus rfl); (focus rfl); (focus (go_simp; (try simp (disch := omega) only [wrap_in, wrap_in', wrap_u16, wrap_u8, wrap_u32, wrap_u64, rem_in, quo_in]); first | done | with_reducible rfl | (constructor <;> with_reducible rfl))))
          | (apply l_store; (focus rfl); (focus rfl); (focus rfl); (focus (go_simp; (try simp (disch := omega) only [wrap_in, wrap_in', wrap_u16, wrap_u8, wrap_u32, wrap_u64, rem_in, quo_in]); first | done | with_reducible rfl | (constructor <;> with_reducible rfl))))
          | apply d_block
          | (apply d_true; (focus rfl); (focus rfl))
          | (apply d_false; (focus rfl); (focus rfl))
          | apply d_skip
          | apply d_exit
          | apply d_ret
          | with_reducible apply kt_ret
          | with_reducible apply kt_exit
          | with_reducible apply kb_normal
          | with_reducible apply kb_ret
          | with_reducible apply kb_here
          | with_reducible apply kl_ret
          | with_reducible apply kl_exit
          | with_reducible apply kc_ret
          | with_reducible apply kc_exit
          | (with_reducible apply kb_there; (focus rfl))
        refine ⟨rfl, _, (by first | (simp [resultsG, resOne, Try.results42, rho, List.lookup]; done) | (simp [resultsG, resOne, Try.results42, rho, List.lookup]; rfl)), ?_⟩
        exact ⟨true, rfl, HR.out.1.1, HR.out.1.2, fun _ => HR.out.2⟩
      · have q1 : ((i : Int) == (b : Int)) = false := by simp; omega
        have q2 : decide ((b : Int) - (a : Int) < 50) = true := decide_eq_true (by omega)
        repeat first
          | apply d_seq
          | with_reducible apply kt_normal
          | apply l_nil
          | apply d_region
          | (apply l_off; (focus rfl); (focus rfl))
          | (apply l_val; (focus rfl); (focus rfl); (focus rfl); (focus (go_simp; (try simp (disch := omega) only [wrap_in, wrap_in', wrap_u16, wrap_u8, wrap_u32, wrap_u64, rem_in, quo_in]); first | done | with_reducible rfl | (constructor <;> with_reducible rfl))))
          | (apply l_store; (focus rfl); (focus rfl); (focus rfl); (focus (go_simp; (try simp (disch := omega) only [wrap_in, wrap_in', wrap_u16, wrap_u8, wrap_u32, wrap_u64, rem_in, quo_in]); first | done | with_reducible rfl | (constructor <;> with_reducible rfl))))
          | apply d_block
          | (apply d_true; (focus rfl); (focus rfl))
          | (apply d_false; (focus rfl); (focus rfl))
          | apply d_skip
          | apply d_exit
          | apply d_ret
          | with_reducible apply kt_ret
          | with_reducible apply kt_exit
          | with_reducible apply kb_normal
          | with_reducible apply kb_ret
          | with_reducible apply kb_here
          | with_reducible apply kl_ret
          | with_reducible apply kl_exit
          | with_reducible apply kc_ret
          | with_reducible apply kc_exit
          | (with_reducible apply kb_there; (focus rfl))
        refine ⟨rfl, _, (by first | (simp [resultsG, resOne, Try.results42, rho, List.lookup]; done) | (simp [resultsG, resOne, Try.results42, rho, List.lookup]; rfl)), ?_⟩
        exact ⟨false, rfl, HR.out.1.1, HR.out.1.2, fun c => by cases c⟩
set_option maxRecDepth 100000 in
set_option maxHeartbeats 2000000 in
theorem ord2_any (g c q : Nat) (t : List Value) (d : Array Int) (a b : Nat) (s : Int) (w : World) (h : RowB w g t d) (hc : d.size ≤ c) (hc' : c ≤ 9223372036854775807) (ha : a < d.size) (hb : b < d.size) (hs : w.heap[q]? = some (.cells #[.int .i64 s] 3 (0, 0))) (hs0 : 0 ≤ s) (hs1 : s ≤ 100) :
    Calls Try.prog 54 #[.slice (some ⟨g, 0, none⟩) d.size c, .int .i64 a, .int .i64 b, .pointer (some ⟨q, 0, none⟩)] w fun e w' => ∃ (x y : Nat) (s' : Int), e = .returned (.tuple #[.int .i64 x, .int .i64 y]) ∧ ((x = a ∧ y = b) ∨ (x = b ∧ y = a)) ∧ (s ≤ s' ∧ s' ≤ s + 1) ∧ Keep (fun z => z = q) w w' ∧ w'.heap[q]? = some (.cells #[.int .i64 s'] 3 (0, 0)) := by
  obtain ⟨n, hn⟩ : ∃ n, d.size = n := ⟨_, rfl⟩
  have x1 := h.cell hb
  have x0 := h.cell ha
  rw [hn] at hc ha hb ⊢
  have HS := Lib.hid hs
  clear hs
  obtain ⟨x, hx⟩ : ∃ x, d[b]! = x := ⟨_, rfl⟩
  obtain ⟨y, hy⟩ : ∃ y, d[a]! = y := ⟨_, rfl⟩
  rw [hx] at x1
  rw [hy] at x0
  obtain ⟨bb, hb⟩ : ∃ bb, ltInt x y = bb := ⟨_, rfl⟩
  have hl := fun W => less_any x y W
  simp only [hb] at hl
  have he : ltInt d[b]! d[a]! = bb := by rw [hx, hy]; exact hb
  clear hx hy hb
  have HL := Lib.hid hl
  have HE := Lib.hid he
  clear hl he
  clear h
  refine d_calls (n := 28) Try.func54 rfl rfl (by simp) [(0, .slice (some ⟨g, 0, none⟩) n c), (1, .int .i64 a), (2, .int .i64 b), (3, .pointer (some ⟨q, 0, none⟩))] (by simp) ?_
  repeat first
    | apply d_seq
    | with_reducible apply kt_normal
    | apply l_nil
    | apply d_region
    | (apply l_off; (focus rfl); (focus rfl))
    | (apply l_val; (focus rfl); (focus rfl); (focus rfl); (focus (go_simp; (try simp (disch := omega) only [wrap_in, wrap_in', wrap_u16, wrap_u8, wrap_u32, wrap_u64, rem_in, quo_in]); first | done | with_reducible rfl | (constructor <;> with_reducible rfl))))
    | (apply l_store; (focus rfl); (focus rfl); (focus rfl); (focus (go_simp; (try simp (disch := omega) only [wrap_in, wrap_in', wrap_u16, wrap_u8, wrap_u32, wrap_u64, rem_in, quo_in]); first | done | with_reducible rfl | (constructor <;> with_reducible rfl))))
    | apply d_block
    | (apply d_true; (focus rfl); (focus rfl))
    | (apply d_false; (focus rfl); (focus rfl))
    | apply d_skip
    | apply d_exit
    | apply d_ret
    | with_reducible apply kt_ret
    | with_reducible apply kt_exit
    | with_reducible apply kb_normal
    | with_reducible apply kb_ret
    | with_reducible apply kb_here
    | with_reducible apply kl_ret
    | with_reducible apply kl_exit
    | with_reducible apply kc_ret
    | with_reducible apply kc_exit
    | (with_reducible apply kb_there; (focus rfl))
  refine d_draw (true, [([], []), ([], []), ([0, 1], [0, 1]), ([2], [2]), ([], []), ([], []), ([4, 5], [4, 5]), ([6], [6]), ([3, 7], [3, 7])]) [(0, 0), (0, 1), (0, 2), (0, 3), (0, 4), (0, 5), (0, 6), (0, 7), (1, 8)] [999999] (fun W => W.cell? ⟨g, b, none⟩ = some (.int .u16 x) ∧ W.cell? ⟨g, a, none⟩ = some (.int .u16 y)) (by kernel_rfl) (by kernel_rfl) (by kernel_rfl) (by kernel_rfl) ⟨x1, x0⟩ ?_
  iterate 8
    first | (apply s_off; (focus rfl); (focus rfl); (focus rfl)) | (apply s_yield; (focus rfl); (focus rfl); (focus rfl); (focus rfl); (focus (intro W hS; obtain ⟨hS1, hS2⟩ := hS; go_simp; (try simp (disch := omega) only [wrap_in, wrap_in', wrap_u16, wrap_u8, wrap_u32, wrap_u64, rem_in, quo_in]); first | done | with_reducible rfl | (constructor <;> with_reducible rfl))))
  refine s_call rfl rfl rfl rfl (by first | (go_simp; done) | (go_simp; rfl)) (HL.out _) ?_
  rintro e w' ⟨rfl, rfl⟩
  refine ⟨_, rfl, ⟨x1, x0⟩, ?_⟩
  refine s_done ?_
  cases bb
  · repeat first
      | apply d_seq
      | with_reducible apply kt_normal
      | apply l_nil
      | apply d_region
      | (apply l_off; (focus rfl); (focus rfl))
      | (apply l_val; (focus rfl); (focus rfl); (focus rfl); (focus (go_simp; (try simp (disch := omega) only [wrap_in, wrap_in', wrap_u16, wrap_u8, wrap_u32, wrap_u64, rem_in, quo_in]); first | done | with_reducible rfl | (constructor <;> with_reducible rfl))))
      | (apply l_store; (focus rfl); (focus rfl); (focus rfl); (focus (go_simp; (try simp (disch := omega) only [wrap_in, wrap_in', wrap_u16, wrap_u8, wrap_u32, wrap_u64, rem_in, quo_in]); first | done | with_reducible rfl | (constructor <;> with_reducible rfl))))
      | apply d_block
      | (apply d_true; (focus rfl); (focus rfl))
      | (apply d_false; (focus rfl); (focus rfl))
      | apply d_skip
      | apply d_exit
      | apply d_ret
      | with_reducible apply kt_ret
      | with_reducible apply kt_exit
      | with_reducible apply kb_normal
      | with_reducible apply kb_ret
      | with_reducible apply kb_here
      | with_reducible apply kl_ret
      | with_reducible apply kl_exit
      | with_reducible apply kc_ret
      | with_reducible apply kc_exit
      | (with_reducible apply kb_there; (focus rfl))
    refine ⟨rfl, _, (by first | (simp [resultsG, resOne, Try.results54, rho, List.lookup]; done) | (simp [resultsG, resOne, Try.results54, rho, List.lookup]; rfl)), ?_⟩
    exact ⟨a, b, s, rfl, .inl ⟨rfl, rfl⟩, ⟨by omega, by omega⟩, (Keep.refl _ _).drew, HS.out⟩
  · obtain ⟨c0, f0⟩ := blk1 HS.out
    repeat first
      | apply d_seq
      | with_reducible apply kt_normal
      | apply l_nil
      | apply d_region
      | (apply l_off; (focus rfl); (focus rfl))
      | (apply l_val; (focus rfl); (focus rfl); (focus rfl); (focus (go_simp; (try simp (disch := omega) only [wrap_in, wrap_in', wrap_u16, wrap_u8, wrap_u32, wrap_u64, rem_in, quo_in]); first | done | with_reducible rfl | (constructor <;> with_reducible rfl))))
      | (apply l_store; (focus rfl); (focus rfl); (focus rfl); (focus (go_simp; (try simp (disch := omega) only [wrap_in, wrap_in', wrap_u16, wrap_u8, wrap_u32, wrap_u64, rem_in, quo_in]); first | done | with_reducible rfl | (constructor <;> with_reducible rfl))))
      | apply d_block
      | (apply d_true; (focus rfl); (focus rfl))
      | (apply d_false; (focus rfl); (focus rfl))
      | apply d_skip
      | apply d_exit
      | apply d_ret
      | with_reducible apply kt_ret
      | with_reducible apply kt_exit
      | with_reducible apply kb_normal
      | with_reducible apply kb_ret
      | with_reducible apply kb_here
      | with_reducible apply kl_ret
      | with_reducible apply kl_exit
      | with_reducible apply kc_ret
      | with_reducible apply kc_exit
      | (with_reducible apply kb_there; (focus rfl))
    refine ⟨rfl, _, (by first | (simp [resultsG, resOne, Try.results54, rho, List.lookup]; done) | (simp [resultsG, resOne, Try.results54, rho, List.lookup]; rfl)), ?_⟩
    exact ⟨b, a, s + 1, rfl, .inr ⟨rfl, rfl⟩, ⟨by omega, by omega⟩, ((Keep.refl (fun z => z = q) w).setCell (p := ⟨q, 0, none⟩) (.inr rfl) _).drew, heap_setCell_same _ _ _ _ _ _ HS.out⟩
set_option maxRecDepth 100000 in
set_option maxHeartbeats 2000000 in
theorem med_any (g c q : Nat) (t : List Value) (d : Array Int) (lo hi : Nat) (a b k : Nat) (s : Int) (w : World) (h : RowB w g t d) (hgq : g ≠ q) (hc : d.size ≤ c) (hc' : c ≤ 9223372036854775807) (hh : hi ≤ d.size) (ha : lo ≤ a ∧ a < hi) (hb : lo ≤ b ∧ b < hi) (hk : lo ≤ k ∧ k < hi) (hs : w.heap[q]? = some (.cells #[.int .i64 s] 3 (0, 0))) (hs0 : 0 ≤ s) (hs1 : s ≤ 50) :
    Calls Try.prog 52 #[.slice (some ⟨g, 0, none⟩) d.size c, .int .i64 a, .int .i64 b, .int .i64 k, .pointer (some ⟨q, 0, none⟩)] w fun e w' => ∃ (x : Nat) (s' : Int), e = .returned (.int .i64 x) ∧ (lo ≤ x ∧ x < hi) ∧ (s ≤ s' ∧ s' ≤ s + 3) ∧ Keep (fun z => z = q) w w' ∧ w'.heap[q]? = some (.cells #[.int .i64 s'] 3 (0, 0)) := by
  have hrow : ∀ w' : World, Keep (fun z => z = q) w w' → RowB w' g t d := fun w' hk => by
    have := hk.block g (lt_of_block h) hgq
    unfold RowB
    rw [this]; exact h
  have o1 := ord2_any g c q t d a b s w h hc hc' (by omega) (by omega) hs hs0 (by omega)
  have HO := Lib.hid (fun (W : World) (a b : Nat) (s : Int) (h : RowB W g t d) ha hb hs h0 h1 => ord2_any g c q t d a b s W h hc hc' ha hb hs h0 h1)
  obtain ⟨n, hn⟩ : ∃ n, d.size = n := ⟨_, rfl⟩
  rw [hn] at o1 hh HO ⊢
  have HK0 := Lib.hid (Keep.refl (fun z => z = q) w)
  have HROW := Lib.hid hrow
  have O1 := Lib.hid o1
  have HS := Lib.hid hs
  clear hrow o1 hs
  clear h
  refine d_calls (n := 36) Try.func52 rfl rfl (by simp) [(0, .slice (some ⟨g, 0, none⟩) n c), (1, .int .i64 a), (2, .int .i64 b), (3, .int .i64 k), (4, .pointer (some ⟨q, 0, none⟩))] (by simp) ?_
  repeat first
    | apply d_seq
    | with_reducible apply kt_normal
    | apply l_nil
    | apply d_region
    | (apply l_off; (focus rfl); (focus rfl))
    | (apply l_val; (focus rfl); (focus rfl); (focus rfl); (focus (go_simp; (try simp (disch := omega) only [wrap_in, wrap_in', wrap_u16, wrap_u8, wrap_u32, wrap_u64, rem_in, quo_in]); first | done | with_reducible rfl | (constructor <;> with_reducible rfl))))
    | (apply l_store; (focus rfl); (focus rfl); (focus rfl); (focus (go_simp; (try simp (disch := omega) only [wrap_in, wrap_in', wrap_u16, wrap_u8, wrap_u32, wrap_u64, rem_in, quo_in]); first | done | with_reducible rfl | (constructor <;> with_reducible rfl))))
    | apply d_block
    | (apply d_true; (focus rfl); (focus rfl))
    | (apply d_false; (focus rfl); (focus rfl))
    | apply d_skip
    | apply d_exit
    | apply d_ret
    | with_reducible apply kt_ret
    | with_reducible apply kt_exit
    | with_reducible apply kb_normal
    | with_reducible apply kb_ret
    | with_reducible apply kb_here
    | with_reducible apply kl_ret
    | with_reducible apply kl_exit
    | with_reducible apply kc_ret
    | with_reducible apply kc_exit
    | (with_reducible apply kb_there; (focus rfl))
  refine l_call rfl rfl rfl (by first | (go_simp; done) | (go_simp; rfl)) (O1.out) ?_
  rintro e w1 ⟨a1, b1, s1, rfl, hor1, hs2, hk1, hq1⟩
  have HK1 := Lib.hid hk1
  have HQ1 := Lib.hid hq1
  clear hk1 hq1
  have ha1 : lo ≤ a1 ∧ a1 < hi := by rcases hor1 with ⟨rfl, rfl⟩ | ⟨rfl, rfl⟩ <;> omega
  have hb1 : lo ≤ b1 ∧ b1 < hi := by rcases hor1 with ⟨rfl, rfl⟩ | ⟨rfl, rfl⟩ <;> omega
  clear hor1
  have O2 := Lib.hid (HO.out w1 b1 k s1 (HROW.out _ HK1.out) (by omega) (by omega) HQ1.out (by omega) (by omega))
  refine ⟨_, rfl, ?_⟩
  repeat first
    | apply d_seq
    | with_reducible apply kt_normal
    | apply l_nil
    | apply d_region
    | (apply l_off; (focus rfl); (focus rfl))
    | (apply l_val; (focus rfl); (focus rfl); (focus rfl); (focus (go_simp; (try simp (disch := omega) only [wrap_in, wrap_in', wrap_u16, wrap_u8, wrap_u32, wrap_u64, rem_in, quo_in]); first | done | with_reducible rfl | (constructor <;> with_reducible rfl))))
    | (apply l_store; (focus rfl); (focus rfl); (focus rfl); (focus (go_simp; (try simp (disch := omega) only [wrap_in, wrap_in', wrap_u16, wrap_u8, wrap_u32, wrap_u64, rem_in, quo_in]); first | done | with_reducible rfl | (constructor <;> with_reducible rfl))))
    | apply d_block
    | (apply d_true; (focus rfl); (focus rfl))
    | (apply d_false; (focus rfl); (focus rfl))
    | apply d_skip
    | apply d_exit
    | apply d_ret
    | with_reducible apply kt_ret
    | with_reducible apply kt_exit
    | with_reducible apply kb_normal
    | with_reducible apply kb_ret
    | with_reducible apply kb_here
    | with_reducible apply kl_ret
    | with_reducible apply kl_exit
    | with_reducible apply kc_ret
    | with_reducible apply kc_exit
    | (with_reducible apply kb_there; (focus rfl))
  refine l_call rfl rfl rfl (by first | (go_simp; done) | (go_simp; rfl)) (O2.out) ?_
  rintro e w2 ⟨b2, c2, s2, rfl, hor2, hs3, hk2, hq2⟩
  have HK2 := Lib.hid (HK1.out.trans (hk2.mono fun _ e => .inl e))
  have HQ2 := Lib.hid hq2
  clear hk2 hq2
  have hb2 : lo ≤ b2 ∧ b2 < hi := by rcases hor2 with ⟨rfl, rfl⟩ | ⟨rfl, rfl⟩ <;> omega
  clear hor2
  have O3 := Lib.hid (HO.out w2 a1 b2 s2 (HROW.out _ HK2.out) (by omega) (by omega) HQ2.out (by omega) (by omega))
  refine ⟨_, rfl, ?_⟩
  repeat first
    | apply d_seq
    | with_reducible apply kt_normal
    | apply l_nil
    | apply d_region
    | (apply l_off; (focus rfl); (focus rfl))
    | (apply l_val; (focus rfl); (focus rfl); (focus rfl); (focus (go_simp; (try simp (disch := omega) only [wrap_in, wrap_in', wrap_u16, wrap_u8, wrap_u32, wrap_u64, rem_in, quo_in]); first | done | with_reducible rfl | (constructor <;> with_reducible rfl))))
    | (apply l_store; (focus rfl); (focus rfl); (focus rfl); (focus (go_simp; (try simp (disch := omega) only [wrap_in, wrap_in', wrap_u16, wrap_u8, wrap_u32, wrap_u64, rem_in, quo_in]); first | done | with_reducible rfl | (constructor <;> with_reducible rfl))))
    | apply d_block
    | (apply d_true; (focus rfl); (focus rfl))
    | (apply d_false; (focus rfl); (focus rfl))
    | apply d_skip
    | apply d_exit
    | apply d_ret
    | with_reducible apply kt_ret
    | with_reducible apply kt_exit
    | with_reducible apply kb_normal
    | with_reducible apply kb_ret
    | with_reducible apply kb_here
    | with_reducible apply kl_ret
    | with_reducible apply kl_exit
    | with_reducible apply kc_ret
    | with_reducible apply kc_exit
    | (with_reducible apply kb_there; (focus rfl))
  refine l_call rfl rfl rfl (by first | (go_simp; done) | (go_simp; rfl)) (O3.out) ?_
  rintro e w3 ⟨a3, b3, s3, rfl, hor3, hs4, hk3, hq3⟩
  have HK3 := Lib.hid (HK2.out.trans (hk3.mono fun _ e => .inl e))
  have HQ3 := Lib.hid hq3
  clear hk3 hq3
  have hb3 : lo ≤ b3 ∧ b3 < hi := by rcases hor3 with ⟨rfl, rfl⟩ | ⟨rfl, rfl⟩ <;> omega
  refine ⟨_, rfl, ?_⟩
  repeat first
    | apply d_seq
    | with_reducible apply kt_normal
    | apply l_nil
    | apply d_region
    | (apply l_off; (focus rfl); (focus rfl))
    | (apply l_val; (focus rfl); (focus rfl); (focus rfl); (focus (go_simp; (try simp (disch := omega) only [wrap_in, wrap_in', wrap_u16, wrap_u8, wrap_u32, wrap_u64, rem_in, quo_in]); first | done | with_reducible rfl | (constructor <;> with_reducible rfl))))
    | (apply l_store; (focus rfl); (focus rfl); (focus rfl); (focus (go_simp; (try simp (disch := omega) only [wrap_in, wrap_in', wrap_u16, wrap_u8, wrap_u32, wrap_u64, rem_in, quo_in]); first | done | with_reducible rfl | (constructor <;> with_reducible rfl))))
    | apply d_block
    | (apply d_true; (focus rfl); (focus rfl))
    | (apply d_false; (focus rfl); (focus rfl))
    | apply d_skip
    | apply d_exit
    | apply d_ret
    | with_reducible apply kt_ret
    | with_reducible apply kt_exit
    | with_reducible apply kb_normal
    | with_reducible apply kb_ret
    | with_reducible apply kb_here
    | with_reducible apply kl_ret
    | with_reducible apply kl_exit
    | with_reducible apply kc_ret
    | with_reducible apply kc_exit
    | (with_reducible apply kb_there; (focus rfl))
  refine ⟨rfl, _, (by first | (simp [resultsG, resOne, Try.results52, rho, List.lookup]; done) | (simp [resultsG, resOne, Try.results52, rho, List.lookup]; rfl)), ?_⟩
  exact ⟨b3, s3, rfl, hb3, ⟨by omega, by omega⟩, HK3.out, HQ3.out⟩
set_option maxRecDepth 100000 in
set_option maxHeartbeats 2000000 in
theorem piv_any (g c : Nat) (t : List Value) (d : Array Int) (a b : Nat) (w : World) (h : RowB w g t d) (hc : d.size ≤ c) (hc' : c ≤ 9223372036854775807) (hz : d.size ≤ 4000000000000000) (hab : 12 < b - a) (hl : b - a < 50) (hb : b ≤ d.size) :
    Calls Try.prog 40 #[.slice (some ⟨g, 0, none⟩) d.size c, .int .i64 a, .int .i64 b] w fun e w' => ∃ (p : Nat) (k : Int), e = .returned (.tuple #[.int .i64 p, .int .i64 k]) ∧ (a ≤ p ∧ p < b) ∧ (k = 0 ∨ k = 1) ∧ Keep none_ w w' := by
  have hgl : g < w.heap.size := lt_of_block h
  obtain ⟨l, hll⟩ : ∃ l, b - a = l := ⟨_, rfl⟩
  have k1 : (b : Int) - (a : Int) = l := by omega
  obtain ⟨q4, hq4⟩ : ∃ q, l / 4 = q := ⟨_, rfl⟩
  have k2 : (l : Int) / 4 = q4 := by omega
  have hm := med_any g c w.heap.size t d a b (a + q4) (a + q4 * 2) (a + q4 * 3) 0 (w.alloc (.cells #[.int .i64 0] 3)) (by unfold RowB; rw [Below.heap_alloc _ _ _ hgl]; exact h) (by omega) hc hc' hb (by omega) (by omega) (by omega) (heap_alloc_new _ _) (by omega) (by omega)
  obtain ⟨n, hn⟩ : ∃ n, d.size = n := ⟨_, rfl⟩
  rw [hn] at hm hb hz ⊢
  have e1 : (((a + q4 : Nat) : Int)) = (a : Int) + q4 := by omega
  have e2 : (((a + q4 * 2 : Nat) : Int)) = (a : Int) + q4 * 2 := by omega
  have e3 : (((a + q4 * 3 : Nat) : Int)) = (a : Int) + q4 * 3 := by omega
  rw [e1, e2, e3] at hm
  have q1 : decide (8 ≤ (l : Int)) = true := decide_eq_true (by omega)
  have q2 : decide (50 ≤ (l : Int)) = false := decide_eq_false (by omega)
  clear e1 e2 e3
  have HM := Lib.hid hm
  have HLL := Lib.hid hll
  have HQ4 := Lib.hid hq4
  clear hm hll hq4
  clear h
  refine d_calls (n := 57) Try.func40 rfl rfl (by simp) [(0, .slice (some ⟨g, 0, none⟩) n c), (1, .int .i64 a), (2, .int .i64 b)] (by simp) ?_
  repeat first
    | apply d_seq
    | with_reducible apply kt_normal
    | apply l_nil
    | apply d_region
    | (apply l_off; (focus rfl); (focus rfl))
    | (apply l_val; (focus rfl); (focus rfl); (focus rfl); (focus (go_simp; (try simp (disch := omega) only [wrap_in, wrap_in', wrap_u16, wrap_u8, wrap_u32, wrap_u64, rem_in, quo_in]); first | done | with_reducible rfl | (constructor <;> with_reducible rfl))))
    | (apply l_store; (focus rfl); (focus rfl); (focus rfl); (focus (go_simp; (try simp (disch := omega) only [wrap_in, wrap_in', wrap_u16, wrap_u8, wrap_u32, wrap_u64, rem_in, quo_in]); first | done | with_reducible rfl | (constructor <;> with_reducible rfl))))
    | apply d_block
    | (apply d_true; (focus rfl); (focus rfl))
    | (apply d_false; (focus rfl); (focus rfl))
    | apply d_skip
    | apply d_exit
    | apply d_ret
    | with_reducible apply kt_ret
    | with_reducible apply kt_exit
    | with_reducible apply kb_normal
    | with_reducible apply kb_ret
    | with_reducible apply kb_here
    | with_reducible apply kl_ret
    | with_reducible apply kl_exit
    | with_reducible apply kc_ret
    | with_reducible apply kc_exit
    | (with_reducible apply kb_there; (focus rfl))
  refine l_call rfl rfl rfl (by first | (go_simp; done) | (go_simp; rfl)) (HM.out) ?_
  rintro e w1 ⟨p, s, rfl, hp, hs, hk, hqc⟩
  have HK := Lib.hid (((Keep.refl none_ w).alloc (.cells #[.int .i64 0] 3)).trans (hk.mono fun q e => .inr (by omega)))
  obtain ⟨c0, f0⟩ := blk1 hqc
  clear hk hqc
  refine ⟨_, rfl, ?_⟩
  by_cases hs0 : s = 0
  · subst hs0
    repeat first
      | apply d_seq
      | with_reducible apply kt_normal
      | apply l_nil
      | apply d_region
      | (apply l_off; (focus rfl); (focus rfl))
      | (apply l_val; (focus rfl); (focus rfl); (focus rfl); (focus (go_simp; (try simp (disch := omega) only [wrap_in, wrap_in', wrap_u16, wrap_u8, wrap_u32, wrap_u64, rem_in, quo_in]); first | done | with_reducible rfl | (constructor <;> with_reducible rfl))))
      | (apply l_store; (focus rfl); (focus rfl); (focus rfl); (focus (go_simp; (try simp (disch := omega) only [wrap_in, wrap_in', wrap_u16, wrap_u8, wrap_u32, wrap_u64, rem_in, quo_in]); first | done | with_reducible rfl | (constructor <;> with_reducible rfl))))
      | apply d_block
      | (apply d_true; (focus rfl); (focus rfl))
      | (apply d_false; (focus rfl); (focus rfl))
      | apply d_skip
      | apply d_exit
      | apply d_ret
      | with_reducible apply kt_ret
      | with_reducible apply kt_exit
      | with_reducible apply kb_normal
      | with_reducible apply kb_ret
      | with_reducible apply kb_here
      | with_reducible apply kl_ret
      | with_reducible apply kl_exit
      | with_reducible apply kc_ret
      | with_reducible apply kc_exit
      | (with_reducible apply kb_there; (focus rfl))
    refine ⟨rfl, _, (by first | (simp [resultsG, resOne, Try.results40, rho, List.lookup]; done) | (simp [resultsG, resOne, Try.results40, rho, List.lookup]; rfl)), ?_⟩
    exact ⟨p, 1, rfl, hp, .inr rfl, HK.out⟩
  · have q3 : (s == 0) = false := by simpa using hs0
    have q4 : (s == 12) = false := by simp; omega
    repeat first
      | apply d_seq
      | with_reducible apply kt_normal
      | apply l_nil
      | apply d_region
      | (apply l_off; (focus rfl); (focus rfl))
      | (apply l_val; (focus rfl); (focus rfl); (focus rfl); (focus (go_simp; (try simp (disch := omega) only [wrap_in, wrap_in', wrap_u16, wrap_u8, wrap_u32, wrap_u64, rem_in, quo_in]); first | done | with_reducible rfl | (constructor <;> with_reducible rfl))))
      | (apply l_store; (focus rfl); (focus rfl); (focus rfl); (focus (go_simp; (try simp (disch := omega) only [wrap_in, wrap_in', wrap_u16, wrap_u8, wrap_u32, wrap_u64, rem_in, quo_in]); first | done | with_reducible rfl | (constructor <;> with_reducible rfl))))
      | apply d_block
      | (apply d_true; (focus rfl); (focus rfl))
      | (apply d_false; (focus rfl); (focus rfl))
      | apply d_skip
      | apply d_exit
      | apply d_ret
      | with_reducible apply kt_ret
      | with_reducible apply kt_exit
      | with_reducible apply kb_normal
      | with_reducible apply kb_ret
      | with_reducible apply kb_here
      | with_reducible apply kl_ret
      | with_reducible apply kl_exit
      | with_reducible apply kc_ret
      | with_reducible apply kc_exit
      | (with_reducible apply kb_there; (focus rfl))
    refine ⟨rfl, _, (by first | (simp [resultsG, resOne, Try.results40, rho, List.lookup]; done) | (simp [resultsG, resOne, Try.results40, rho, List.lookup]; rfl)), ?_⟩
    exact ⟨p, 0, rfl, hp, .inl rfl, HK.out⟩
end Go.Proofs.Ytbcjmgocdplfnaa

