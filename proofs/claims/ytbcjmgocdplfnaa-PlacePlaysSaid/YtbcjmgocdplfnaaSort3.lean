import Derived.Test.YtbcjmgocdplfnaaSort2
namespace Go.Proofs.Ytbcjmgocdplfnaa
set_option linter.unusedVariables false
set_option linter.unusedSimpArgs false
attribute [local go_sem] rho_const rho_func rho_hit rho_miss
open Go.RowKit Go.Sort
/-- The child that is looked at. -/
def chOf (d : Array Int) (hi first root : Nat) : Nat := if (decide (2 * root + 1 + 1 < hi) && ltInt d[first + (2 * root + 1)]! d[first + (2 * root + 1) + 1]!) = true then 2 * root + 2 else 2 * root + 1
theorem sift_eq (d : Array Int) (hi first root : Nat) (h : 2 * root + 1 < hi) : siftDown ltInt hi first root d = if ltInt d[first + root]! d[first + chOf d hi first root]! = true then siftDown ltInt hi first (chOf d hi first root) (swp d (first + root) (first + chOf d hi first root)) else d := by
  rw [siftDown.eq_def, dif_neg (by omega)]
  unfold chOf
  by_cases hc : (decide (2 * root + 1 + 1 < hi) && ltInt d[first + (2 * root + 1)]! d[first + (2 * root + 1) + 1]!) = true
  · rw [if_pos hc, if_pos hc]
    have h2 : 2 * root + 2 < hi := by simp at hc; omega
    cases ltInt d[first + root]! d[first + (2 * root + 2)]! <;> simp [h2]
  · rw [if_neg hc, if_neg hc]
    cases ltInt d[first + root]! d[first + (2 * root + 1)]! <;> simp
theorem sift_end (d : Array Int) (hi first root : Nat) (h : ¬ 2 * root + 1 < hi) : siftDown ltInt hi first root d = d := by
  rw [siftDown.eq_def, dif_pos (by omega)]
theorem ch_le (d : Array Int) (hi first root : Nat) (h : 2 * root + 1 < hi) : root < chOf d hi first root ∧ chOf d hi first root < hi := by
  unfold chOf
  split
  · rename_i hc; simp at hc; omega
  · omega
theorem sift_size (hi first : Nat) : ∀ (root : Nat) (d : Array Int), (siftDown ltInt hi first root d).size = d.size := by
  intro root
  induction h : hi - root using Nat.strongRecOn generalizing root with
  | _ m ih =>
    intro d
    by_cases hl : 2 * root + 1 < hi
    · rw [sift_eq d hi first root hl]
      split
      · have := ch_le d hi first root hl
        rw [ih _ (by omega) _ rfl, swp_size]
      · rfl
    · rw [sift_end d hi first root hl]
set_option maxRecDepth 100000 in
set_option maxHeartbeats 4000000 in
theorem sift_any (g c : Nat) (t : List Value) (d : Array Int) (lo hi first : Nat) (w : World) (h : RowB w g t d) (hc : d.size ≤ c) (hc' : c ≤ 9223372036854775807) (hz : d.size ≤ 4000000000000000) (hlo : lo ≤ hi) (hb : first + hi ≤ d.size) :
    Calls Try.prog 48 #[.slice (some ⟨g, 0, none⟩) d.size c, .int .i64 lo, .int .i64 hi, .int .i64 first] w fun e w' => e = .returned (.tuple #[]) ∧ SortK w g w' ∧ RowB w' g t (siftDown ltInt hi first lo d) := by
  obtain ⟨n, hn⟩ : ∃ n, d.size = n := ⟨_, rfl⟩
  rw [hn] at hc hb hz ⊢
  have HX := Lib.hid (show SortK w g w ∧ RowB w g t d from ⟨.refl _ _, h⟩)
  clear h
  refine d_calls (n := 76) Try.func48 rfl rfl (by simp) [(0, .slice (some ⟨g, 0, none⟩) n c), (1, .int .i64 lo), (2, .int .i64 hi), (3, .int .i64 first)] (by simp) ?_
  repeat first
    | apply d_seq
    | with_reducible apply kt_normal
    | apply l_nil
    | apply d_region
    | (apply l_off; (focus rfl); (focus rfl))
    | (apply l_val; (focus rfl); (focus rfl); (focus rfl); (focus (go_simp; (try simp (disch := omega) only [wrap_in, wrap_in', wrap_u16, wrap_u8, wrap_u32, wrap_u64, rem_in, quo_in]); first | done | with_reducible rfl | (constructor <;> with_reducible rfl))))
    | (apply l_store; (focus rfl); (focus rfl); (focus rfl); (focus (go_simp; (try simp (disch := omega) only [wrap_in, wrap_in', wrap_u16, wrap_u8, wrap_u32, wrap_u64, rem_in, quo_in]); first | done | with_reducible rfl | (constructor <;> with_reducible rfl))))
    | apply d_block
    | (apply d_true; (focus rfl); (focus rfl))
    | (apply d_false; (focus rfl); (focus rfl))
    | apply d_skip
    | apply d_exit
    | apply d_ret
    | with_reducible apply kt_ret
    | with_reducible apply kt_exit
    | with_reducible apply kb_normal
    | with_reducible apply kb_ret
    | with_reducible apply kb_here
    | with_reducible apply kl_ret
    | with_reducible apply kl_exit
    | with_reducible apply kc_ret
    | with_reducible apply kc_exit
    | (with_reducible apply kb_there; (focus rfl))
  refine d_loop (fun m D wr => ∃ (root : Nat) (d1 : Array Int), m = hi - root ∧ root ≤ hi ∧ d1.size = n ∧ D = [(0, .slice (some ⟨g, 0, none⟩) n c), (2, .int .i64 hi), (3, .int .i64 first), (8, .int .i64 root)] ∧ Hid ((SortK w g wr ∧ RowB wr g t d1) ∧ siftDown ltInt hi first lo d = siftDown ltInt hi first root d1)) (hi - lo) _ (Subl.cons (t := 0) (by decide) rfl (Subl.cons (t := 2) (by decide) rfl (Subl.cons (t := 3) (by decide) rfl (Subl.cons (t := 8) (by decide) rfl (Subl.nil _ _))))) ?_ (fun m D wr hrel => ?_)
  · exact ⟨lo, d, rfl, hlo, hn, rfl, Lib.hid ⟨HX.out, rfl⟩⟩
  · clear HX
    obtain ⟨root, d1, rfl, hro, hz1, rfl, HR⟩ := hrel
    have HX := Lib.hid HR.out.1
    by_cases hlt : 2 * root + 1 < hi
    · have q1 : decide ((hi : Int) ≤ 2 * (root : Int) + 1) = false := decide_eq_false (by omega)
      obtain ⟨ch, hch⟩ : ∃ ch, chOf d1 hi first root = ch := ⟨_, rfl⟩
      have hcl := ch_le d1 hi first root hlt
      have hse := sift_eq d1 hi first root hlt
      rw [hch] at hcl hse
      have hc1 := hcl.1
      have hc2 := hcl.2
      unfold chOf at hch
      have HCH := Lib.hid hch
      have HSE := Lib.hid hse
      clear hch hse
      clear hcl
      repeat first
        | ((fail_if_success (with_reducible refine d_at_region (id := 3) ?_)); apply d_seq)
        | with_reducible apply kt_normal
        | apply l_nil
        | apply d_region
        | (apply l_off; (focus rfl); (focus rfl))
        | (apply l_val; (focus rfl); (focus rfl); (focus rfl); (focus (go_simp; (try simp (disch := omega) only [wrap_in, wrap_in', wrap_u16, wrap_u8, wrap_u32, wrap_u64, rem_in, quo_in]); first | done | with_reducible rfl | (constructor <;> with_reducible rfl))))
        | (apply l_store; (focus rfl); (focus rfl); (focus rfl); (focus (go_simp; (try simp (disch := omega) only [wrap_in, wrap_in', wrap_u16, wrap_u8, wrap_u32, wrap_u64, rem_in, quo_in]); first | done | with_reducible rfl | (constructor <;> with_reducible rfl))))
        | apply d_block
        | (apply d_true; (focus rfl); (focus rfl))
        | (apply d_false; (focus rfl); (focus rfl))
        | apply d_skip
        | apply d_exit
        | apply d_ret
        | with_reducible apply kt_ret
        | with_reducible apply kt_exit
        | with_reducible apply kb_normal
        | with_reducible apply kb_ret
        | with_reducible apply kb_here
        | with_reducible apply kl_ret
        | with_reducible apply kl_exit
        | with_reducible apply kc_ret
        | with_reducible apply kc_exit
        | (with_reducible apply kb_there; (focus rfl))
      refine d_join (fun D wr => D = [(0, .slice (some ⟨g, 0, none⟩) n c), (2, .int .i64 hi), (3, .int .i64 first), (8, .int .i64 root), (9, .int .i64 ch)] ∧ Hid (SortK w g wr ∧ RowB wr g t d1)) ?_ (fun D wr hcut => ?_)
      · by_cases h2 : 2 * root + 1 + 1 < hi
        · have q2 : decide (2 * (root : Int) + 1 + 1 < (hi : Int)) = true := decide_eq_true (by omega)
          have r1 : first + (2 * root + 1) < d1.size := by omega
          have r0 : first + (2 * root + 1) + 1 < d1.size := by omega
          have x1 := HX.out.2.cell r1
          have x0 := HX.out.2.cell r0
          obtain ⟨i1, hi1⟩ : ∃ i1, first + (2 * root + 1) = i1 := ⟨_, rfl⟩
          obtain ⟨i0, hi0⟩ : ∃ i0, i1 + 1 = i0 := ⟨_, rfl⟩
          have hch2 : (if (decide (2 * root + 1 + 1 < hi) && ltInt d1[i1]! d1[i0]!) = true then 2 * root + 2 else 2 * root + 1) = ch := by rw [← hi0, ← hi1]; exact HCH.out
          rw [hi1] at r1 r0 x1 x0
          rw [hi0] at r0 x0
          have s1 : i1 < n := by omega
          have s0 : i0 < n := by omega
          have k1 : (first : Int) + (2 * (root : Int) + 1) = i1 := by omega
          have k0 : (i1 : Int) + 1 = i0 := by omega
          clear hi1 hi0
          have HCH2 := Lib.hid hch2
          clear hch2
          obtain ⟨x, hx⟩ : ∃ x, d1[i1]! = x := ⟨_, rfl⟩
          obtain ⟨y, hy⟩ : ∃ y, d1[i0]! = y := ⟨_, rfl⟩
          rw [hx] at x1
          rw [hy] at x0
          obtain ⟨bb, hb⟩ : ∃ bb, ltInt x y = bb := ⟨_, rfl⟩
          have hl := fun W => less_any x y W
          simp only [hb] at hl
          have he : ltInt d1[i1]! d1[i0]! = bb := by rw [hx, hy]; exact hb
          clear hx hy hb
          have HL := Lib.hid hl
          have HE := Lib.hid he
          clear hl he
          repeat first
            | apply d_seq
            | with_reducible apply kt_normal
            | apply l_nil
            | apply d_region
            | (apply l_off; (focus rfl); (focus rfl))
            | (apply l_val; (focus rfl); (focus rfl); (focus rfl); (focus (go_simp; (try simp (disch := omega) only [wrap_in, wrap_in', wrap_u16, wrap_u8, wrap_u32, wrap_u64, rem_in, quo_in]); first | done | with_reducible rfl | (constructor <;> with_reducible rfl))))
            | (apply l_store; (focus rfl); (focus rfl); (focus rfl); (focus (go_simp; (try simp (disch := omega) only [wrap_in, wrap_in', wrap_u16, wrap_u8, wrap_u32, wrap_u64, rem_in, quo_in]); first | done | with_reducible rfl | (constructor <;> with_reducible rfl))))
            | apply d_block
            | (apply d_true; (focus rfl); (focus rfl))
            | (apply d_false; (focus rfl); (focus rfl))
            | apply d_skip
            | apply d_exit
            | apply d_ret
            | with_reducible apply kt_ret
            | with_reducible apply kt_exit
            | with_reducible apply kb_normal
            | with_reducible apply kb_ret
            | with_reducible apply kb_here
            | with_reducible apply kl_ret
            | with_reducible apply kl_exit
            | with_reducible apply kc_ret
            | with_reducible apply kc_exit
            | (with_reducible apply kb_there; (focus rfl))
          refine d_draw (true, [([], []), ([0], [0]), ([], []), ([1, 2], [1, 2]), ([3], [3]), ([4], [4]), ([4], [4]), ([4], [4]), ([6, 7, 4], [4, 6, 7]), ([5, 8, 4], [4, 5, 8]), ([9, 4], [4, 9]), ([4], [4]), ([4], [4]), ([4], [4]), ([12, 13, 4], [4, 12, 13]), ([14, 4], [4, 14]), ([11, 15, 4], [4, 11, 15]), ([16, 4], [4, 16]), ([10, 17, 4, 4], [4, 10, 17]), ([4, 18], [4, 18])]) [(0, 0), (0, 1), (0, 2), (0, 3), (0, 4), (0, 5), (0, 6), (0, 7), (0, 8), (0, 9), (0, 10), (0, 11), (0, 12), (0, 13), (0, 14), (0, 15), (0, 16), (0, 17), (1, 18), (0, 19)] [999999] (fun W => W.cell? ⟨g, i1, none⟩ = some (.int .u16 x) ∧ W.cell? ⟨g, i0, none⟩ = some (.int .u16 y)) (by kernel_rfl) (by kernel_rfl) (by kernel_rfl) (by kernel_rfl) ⟨x1, x0⟩ ?_
          iterate 18
            first | (apply s_off; (focus rfl); (focus rfl); (focus rfl)) | (apply s_yield; (focus rfl); (focus rfl); (focus rfl); (focus rfl); (focus (intro W hS; obtain ⟨hS1, hS2⟩ := hS; go_simp; (try simp (disch := omega) only [wrap_in, wrap_in', wrap_u16, wrap_u8, wrap_u32, wrap_u64, rem_in, quo_in]); first | done | with_reducible rfl | (constructor <;> with_reducible rfl))))
          refine s_call rfl rfl rfl rfl (by first | (go_simp; done) | (go_simp; rfl)) (HL.out _) ?_
          rintro e w' ⟨rfl, rfl⟩
          refine ⟨_, rfl, ⟨x1, x0⟩, ?_⟩
          iterate 1
            first | (apply s_off; (focus rfl); (focus rfl); (focus rfl)) | (apply s_yield; (focus rfl); (focus rfl); (focus rfl); (focus rfl); (focus (intro W hS; obtain ⟨hS1, hS2⟩ := hS; go_simp; (try simp (disch := omega) only [wrap_in, wrap_in', wrap_u16, wrap_u8, wrap_u32, wrap_u64, rem_in, quo_in]); first | done | with_reducible rfl | (constructor <;> with_reducible rfl))))
          refine s_done ?_
          have hch2 := HCH2.out
          rw [HE.out] at hch2
          cases bb
          · have k2 : 2 * (root : Int) + 1 = ch := by simp at hch2; omega
            clear hch2
            repeat first
              | apply d_seq
              | with_reducible apply kt_normal
              | apply l_nil
              | apply d_region
              | (apply l_off; (focus rfl); (focus rfl))
              | (apply l_val; (focus rfl); (focus rfl); (focus rfl); (focus (go_simp; (try simp (disch := omega) only [wrap_in, wrap_in', wrap_u16, wrap_u8, wrap_u32, wrap_u64, rem_in, quo_in]); first | done | with_reducible rfl | (constructor <;> with_reducible rfl))))
              | (apply l_store; (focus rfl); (focus rfl); (focus rfl); (focus (go_simp; (try simp (disch := omega) only [wrap_in, wrap_in', wrap_u16, wrap_u8, wrap_u32, wrap_u64, rem_in, quo_in]); first | done | with_reducible rfl | (constructor <;> with_reducible rfl))))
              | apply d_block
              | (apply d_true; (focus rfl); (focus rfl))
              | (apply d_false; (focus rfl); (focus rfl))
              | apply d_skip
              | apply d_exit
              | apply d_ret
              | with_reducible apply kt_ret
              | with_reducible apply kt_exit
              | with_reducible apply kb_normal
              | with_reducible apply kb_ret
              | with_reducible apply kb_here
              | with_reducible apply kl_ret
              | with_reducible apply kl_exit
              | with_reducible apply kc_ret
              | with_reducible apply kc_exit
              | (with_reducible apply kb_there; (focus rfl))
            refine kc_normal _ (Subl.cons (t := 0) (by decide) rfl (Subl.cons (t := 2) (by decide) rfl (Subl.cons (t := 3) (by decide) rfl (Subl.cons (t := 8) (by decide) rfl (Subl.cons (t := 9) (by decide) rfl (Subl.nil _ _)))))) ?_
            exact ⟨by first | rfl | simp only [k2], Lib.hid ⟨HX.out.1.drew, HX.out.2⟩⟩
          · have k2 : 2 * (root : Int) + 1 + 1 = ch := by simp [h2] at hch2; omega
            clear hch2
            repeat first
              | apply d_seq
              | with_reducible apply kt_normal
              | apply l_nil
              | apply d_region
              | (apply l_off; (focus rfl); (focus rfl))
              | (apply l_val; (focus rfl); (focus rfl); (focus rfl); (focus (go_simp; (try simp (disch := omega) only [wrap_in, wrap_in', wrap_u16, wrap_u8, wrap_u32, wrap_u64, rem_in, quo_in]); first | done | with_reducible rfl | (constructor <;> with_reducible rfl))))
              | (apply l_store; (focus rfl); (focus rfl); (focus rfl); (focus (go_simp; (try simp (disch := omega) only [wrap_in, wrap_in', wrap_u16, wrap_u8, wrap_u32, wrap_u64, rem_in, quo_in]); first | done | with_reducible rfl | (constructor <;> with_reducible rfl))))
              | apply d_block
              | (apply d_true; (focus rfl); (focus rfl))
              | (apply d_false; (focus rfl); (focus rfl))
              | apply d_skip
              | apply d_exit
              | apply d_ret
              | with_reducible apply kt_ret
              | with_reducible apply kt_exit
              | with_reducible apply kb_normal
              | with_reducible apply kb_ret
              | with_reducible apply kb_here
              | with_reducible apply kl_ret
              | with_reducible apply kl_exit
              | with_reducible apply kc_ret
              | with_reducible apply kc_exit
              | (with_reducible apply kb_there; (focus rfl))
            refine kc_normal _ (Subl.cons (t := 0) (by decide) rfl (Subl.cons (t := 2) (by decide) rfl (Subl.cons (t := 3) (by decide) rfl (Subl.cons (t := 8) (by decide) rfl (Subl.cons (t := 9) (by decide) rfl (Subl.nil _ _)))))) ?_
            exact ⟨by first | rfl | simp only [k2], Lib.hid ⟨HX.out.1.drew, HX.out.2⟩⟩
        · have q2 : decide (2 * (root : Int) + 1 + 1 < (hi : Int)) = false := decide_eq_false (by omega)
          have k2 : 2 * (root : Int) + 1 = ch := by have := HCH.out; simp [h2] at this; omega
          have K2 := Lib.hid k2
          clear k2
          repeat first
            | apply d_seq
            | with_reducible apply kt_normal
            | apply l_nil
            | apply d_region
            | (apply l_off; (focus rfl); (focus rfl))
            | (apply l_val; (focus rfl); (focus rfl); (focus rfl); (focus (go_simp; (try simp (disch := omega) only [wrap_in, wrap_in', wrap_u16, wrap_u8, wrap_u32, wrap_u64, rem_in, quo_in]); first | done | with_reducible rfl | (constructor <;> with_reducible rfl))))
            | (apply l_store; (focus rfl); (focus rfl); (focus rfl); (focus (go_simp; (try simp (disch := omega) only [wrap_in, wrap_in', wrap_u16, wrap_u8, wrap_u32, wrap_u64, rem_in, quo_in]); first | done | with_reducible rfl | (constructor <;> with_reducible rfl))))
            | apply d_block
            | (apply d_true; (focus rfl); (focus rfl))
            | (apply d_false; (focus rfl); (focus rfl))
            | apply d_skip
            | apply d_exit
            | apply d_ret
            | with_reducible apply kt_ret
            | with_reducible apply kt_exit
            | with_reducible apply kb_normal
            | with_reducible apply kb_ret
            | with_reducible apply kb_here
            | with_reducible apply kl_ret
            | with_reducible apply kl_exit
            | with_reducible apply kc_ret
            | with_reducible apply kc_exit
            | (with_reducible apply kb_there; (focus rfl))
          refine d_draw (true, [([], []), ([0], [0]), ([], []), ([1, 2], [1, 2]), ([3], [3]), ([4], [4]), ([4], [4]), ([4], [4]), ([6, 7, 4], [4, 6, 7]), ([5, 8, 4], [4, 5, 8]), ([9, 4], [4, 9]), ([4], [4]), ([4], [4]), ([4], [4]), ([12, 13, 4], [4, 12, 13]), ([14, 4], [4, 14]), ([11, 15, 4], [4, 11, 15]), ([16, 4], [4, 16]), ([10, 17, 4, 4], [4, 10, 17]), ([4, 18], [4, 18])]) [(0, 0), (0, 1), (0, 2), (0, 3), (0, 4), (0, 5), (0, 6), (0, 7), (0, 8), (0, 9), (0, 10), (0, 11), (0, 12), (0, 13), (0, 14), (0, 15), (0, 16), (0, 17), (1, 18), (0, 19)] [999999] (fun W => True) (by kernel_rfl) (by kernel_rfl) (by kernel_rfl) (by kernel_rfl) trivial ?_
          iterate 18
            first | (apply s_off; (focus rfl); (focus rfl); (focus rfl)) | (apply s_yield; (focus rfl); (focus rfl); (focus rfl); (focus rfl); (focus (intro W hS; go_simp; (try simp (disch := omega) only [wrap_in, wrap_in', wrap_u16, wrap_u8, wrap_u32, wrap_u64, rem_in, quo_in]); first | done | with_reducible rfl | (constructor <;> with_reducible rfl))))
          refine s_nocall rfl rfl rfl trivial ?_
          iterate 1
            first | (apply s_off; (focus rfl); (focus rfl); (focus rfl)) | (apply s_yield; (focus rfl); (focus rfl); (focus rfl); (focus rfl); (focus (intro W hS; go_simp; (try simp (disch := omega) only [wrap_in, wrap_in', wrap_u16, wrap_u8, wrap_u32, wrap_u64, rem_in, quo_in]); first | done | with_reducible rfl | (constructor <;> with_reducible rfl))))
          refine s_done ?_
          repeat first
            | apply d_seq
            | with_reducible apply kt_normal
            | apply l_nil
            | apply d_region
            | (apply l_off; (focus rfl); (focus rfl))
            | (apply l_val; (focus rfl); (focus rfl); (focus rfl); (focus (go_simp; (try simp (disch := omega) only [wrap_in, wrap_in', wrap_u16, wrap_u8, wrap_u32, wrap_u64, rem_in, quo_in]); first | done | with_reducible rfl | (constructor <;> with_reducible rfl))))
            | (apply l_store; (focus rfl); (focus rfl); (focus rfl); (focus (go_simp; (try simp (disch := omega) only [wrap_in, wrap_in', wrap_u16, wrap_u8, wrap_u32, wrap_u64, rem_in, quo_in]); first | done | with_reducible rfl | (constructor <;> with_reducible rfl))))
            | apply d_block
            | (apply d_true; (focus rfl); (focus rfl))
            | (apply d_false; (focus rfl); (focus rfl))
            | apply d_skip
            | apply d_exit
            | apply d_ret
            | with_reducible apply kt_ret
            | with_reducible apply kt_exit
            | with_reducible apply kb_normal
            | with_reducible apply kb_ret
            | with_reducible apply kb_here
            | with_reducible apply kl_ret
            | with_reducible apply kl_exit
            | with_reducible apply kc_ret
            | with_reducible apply kc_exit
            | (with_reducible apply kb_there; (focus rfl))
          refine kc_normal _ (Subl.cons (t := 0) (by decide) rfl (Subl.cons (t := 2) (by decide) rfl (Subl.cons (t := 3) (by decide) rfl (Subl.cons (t := 8) (by decide) rfl (Subl.cons (t := 9) (by decide) rfl (Subl.nil _ _)))))) ?_
          exact ⟨by simp only [K2.out], Lib.hid ⟨HX.out.1.drew, HX.out.2⟩⟩
      · clear HX
        obtain ⟨rfl, HX⟩ := hcut
        obtain ⟨i1, hi1⟩ : ∃ i1, first + root = i1 := ⟨_, rfl⟩
        obtain ⟨i0, hi0⟩ : ∃ i0, first + ch = i0 := ⟨_, rfl⟩
        have r1 : i1 < d1.size := by omega
        have r0 : i0 < d1.size := by omega
        have s1 : i1 < n := by omega
        have s0 : i0 < n := by omega
        have k1 : (first : Int) + (root : Int) = i1 := by omega
        have k0 : (first : Int) + (ch : Int) = i0 := by omega
        have x1 := HX.out.2.cell r1
        have x0 := HX.out.2.cell r0
        have hse := HSE.out
        rw [hi1, hi0] at hse
        clear hi1 hi0 HSE
        have HSE := Lib.hid hse
        clear hse
        obtain ⟨x, hx⟩ : ∃ x, d1[i1]! = x := ⟨_, rfl⟩
        obtain ⟨y, hy⟩ : ∃ y, d1[i0]! = y := ⟨_, rfl⟩
        rw [hx] at x1
        rw [hy] at x0
        obtain ⟨bb, hb⟩ : ∃ bb, ltInt x y = bb := ⟨_, rfl⟩
        have hl := fun W => less_any x y W
        simp only [hb] at hl
        have he : ltInt d1[i1]! d1[i0]! = bb := by rw [hx, hy]; exact hb
        clear hx hy hb
        have HL := Lib.hid hl
        have HE := Lib.hid he
        clear hl he
        repeat first
          | apply d_seq
          | with_reducible apply kt_normal
          | apply l_nil
          | apply d_region
          | (apply l_off; (focus rfl); (focus rfl))
          | (apply l_val; (focus rfl); (focus rfl); (focus rfl); (focus (go_simp; (try simp (disch := omega) only [wrap_in, wrap_in', wrap_u16, wrap_u8, wrap_u32, wrap_u64, rem_in, quo_in]); first | done | with_reducible rfl | (constructor <;> with_reducible rfl))))
          | (apply l_store; (focus rfl); (focus rfl); (focus rfl); (focus (go_simp; (try simp (disch := omega) only [wrap_in, wrap_in', wrap_u16, wrap_u8, wrap_u32, wrap_u64, rem_in, quo_in]); first | done | with_reducible rfl | (constructor <;> with_reducible rfl))))
          | apply d_block
          | (apply d_true; (focus rfl); (focus rfl))
          | (apply d_false; (focus rfl); (focus rfl))
          | apply d_skip
          | apply d_exit
          | apply d_ret
          | with_reducible apply kt_ret
          | with_reducible apply kt_exit
          | with_reducible apply kb_normal
          | with_reducible apply kb_ret
          | with_reducible apply kb_here
          | with_reducible apply kl_ret
          | with_reducible apply kl_exit
          | with_reducible apply kc_ret
          | with_reducible apply kc_exit
          | (with_reducible apply kb_there; (focus rfl))
        refine d_draw (true, [([], []), ([], []), ([], []), ([1, 2], [1, 2]), ([0, 3], [0, 3]), ([4], [4]), ([], []), ([], []), ([], []), ([7, 8], [7, 8]), ([6, 9], [6, 9]), ([10], [10]), ([5, 11], [5, 11]), ([12], [12])]) [(0, 0), (0, 1), (0, 2), (0, 3), (0, 4), (0, 5), (0, 6), (0, 7), (0, 8), (0, 9), (0, 10), (0, 11), (1, 12), (0, 13)] [999999] (fun W => W.cell? ⟨g, i1, none⟩ = some (.int .u16 x) ∧ W.cell? ⟨g, i0, none⟩ = some (.int .u16 y)) (by kernel_rfl) (by kernel_rfl) (by kernel_rfl) (by kernel_rfl) ⟨x1, x0⟩ ?_
        iterate 12
          first | (apply s_off; (focus rfl); (focus rfl); (focus rfl)) | (apply s_yield; (focus rfl); (focus rfl); (focus rfl); (focus rfl); (focus (intro W hS; obtain ⟨hS1, hS2⟩ := hS; go_simp; (try simp (disch := omega) only [wrap_in, wrap_in', wrap_u16, wrap_u8, wrap_u32, wrap_u64, rem_in, quo_in]); first | done | with_reducible rfl | (constructor <;> with_reducible rfl))))
        refine s_call rfl rfl rfl rfl (by first | (go_simp; done) | (go_simp; rfl)) (HL.out _) ?_
        rintro e w' ⟨rfl, rfl⟩
        refine ⟨_, rfl, ⟨x1, x0⟩, ?_⟩
        iterate 1
          first | (apply s_off; (focus rfl); (focus rfl); (focus rfl)) | (apply s_yield; (focus rfl); (focus rfl); (focus rfl); (focus rfl); (focus (intro W hS; obtain ⟨hS1, hS2⟩ := hS; go_simp; (try simp (disch := omega) only [wrap_in, wrap_in', wrap_u16, wrap_u8, wrap_u32, wrap_u64, rem_in, quo_in]); first | done | with_reducible rfl | (constructor <;> with_reducible rfl))))
        refine s_done ?_
        have hse := HSE.out
        rw [HE.out] at hse
        cases bb
        · clear HSE
          repeat first
            | apply d_seq
            | with_reducible apply kt_normal
            | apply l_nil
            | apply d_region
            | (apply l_off; (focus rfl); (focus rfl))
            | (apply l_val; (focus rfl); (focus rfl); (focus rfl); (focus (go_simp; (try simp (disch := omega) only [wrap_in, wrap_in', wrap_u16, wrap_u8, wrap_u32, wrap_u64, rem_in, quo_in]); first | done | with_reducible rfl | (constructor <;> with_reducible rfl))))
            | (apply l_store; (focus rfl); (focus rfl); (focus rfl); (focus (go_simp; (try simp (disch := omega) only [wrap_in, wrap_in', wrap_u16, wrap_u8, wrap_u32, wrap_u64, rem_in, quo_in]); first | done | with_reducible rfl | (constructor <;> with_reducible rfl))))
            | apply d_block
            | (apply d_true; (focus rfl); (focus rfl))
            | (apply d_false; (focus rfl); (focus rfl))
            | apply d_skip
            | apply d_exit
            | apply d_ret
            | with_reducible apply kt_ret
            | with_reducible apply kt_exit
            | with_reducible apply kb_normal
            | with_reducible apply kb_ret
            | with_reducible apply kb_here
            | with_reducible apply kl_ret
            | with_reducible apply kl_exit
            | with_reducible apply kc_ret
            | with_reducible apply kc_exit
            | (with_reducible apply kb_there; (focus rfl))
          refine ⟨rfl, _, (by first | (simp [resultsG, resOne, Try.results48, rho, List.lookup]; done) | (simp [resultsG, resOne, Try.results48, rho, List.lookup]; rfl)), ?_⟩
          have el := HR.out.2
          rw [hse, if_neg (by simp)] at el
          rw [el]
          exact ⟨rfl, HX.out.1.drew, HX.out.2⟩
        · rw [if_pos rfl] at hse
          clear HSE HE HL x1 x0 r1 r0 s1 s0
          have HSE := Lib.hid hse
          clear hse
          obtain ⟨d2, hd2⟩ : ∃ e, swp d1 i1 i0 = e := ⟨_, rfl⟩
          have r1 : i1 < d1.size := by omega
          have r2 : i0 < d1.size := by omega
          have s1 : i1 < n := by omega
          have s2 : i0 < n := by omega
          have x1 := HX.out.2.cell r1
          have x2 := HX.out.2.cell r2
          have x3 := (HX.out.2.set r1 d1[i0]!).cell (i := i0) (by simpa using r2)
          generalize (d1.setIfInBounds i1 d1[i0]!)[i0]! = u at x3
          have f1 := HX.out.2.frozen i1
          have f2 := HX.out.2.frozen i0
          have hsw := HX.out.2.swp r1 r2
          rw [hd2] at hsw
          obtain ⟨x, hx⟩ : ∃ x, d1[i1]! = x := ⟨_, rfl⟩
          obtain ⟨y, hy⟩ : ∃ y, d1[i0]! = y := ⟨_, rfl⟩
          rw [hx] at x1 hsw
          rw [hy] at x2 x3 hsw
          clear hx hy
          have zd2 : d2.size = n := by rw [← hd2, swp_size]; omega
          have HSW := Lib.hid hsw
          have HD2 := Lib.hid hd2
          clear hsw hd2
          repeat first
            | apply d_seq
            | with_reducible apply kt_normal
            | apply l_nil
            | apply d_region
            | (apply l_off; (focus rfl); (focus rfl))
            | (apply l_val; (focus rfl); (focus rfl); (focus rfl); (focus (go_simp; (try simp (disch := omega) only [wrap_in, wrap_in', wrap_u16, wrap_u8, wrap_u32, wrap_u64, rem_in, quo_in]); first | done | with_reducible rfl | (constructor <;> with_reducible rfl))))
            | (apply l_store; (focus rfl); (focus rfl); (focus rfl); (focus (go_simp; (try simp (disch := omega) only [wrap_in, wrap_in', wrap_u16, wrap_u8, wrap_u32, wrap_u64, rem_in, quo_in]); first | done | with_reducible rfl | (constructor <;> with_reducible rfl))))
            | apply d_block
            | (apply d_true; (focus rfl); (focus rfl))
            | (apply d_false; (focus rfl); (focus rfl))
            | apply d_skip
            | apply d_exit
            | apply d_ret
            | with_reducible apply kt_ret
            | with_reducible apply kt_exit
            | with_reducible apply kb_normal
            | with_reducible apply kb_ret
            | with_reducible apply kb_here
            | with_reducible apply kl_ret
            | with_reducible apply kl_exit
            | with_reducible apply kc_ret
            | with_reducible apply kc_exit
            | (with_reducible apply kb_there; (focus rfl))
          refine d_drawt (true, [([], []), ([], []), ([], []), ([1, 2], [1, 2]), ([], []), ([], []), ([], []), ([5, 6], [5, 6]), ([], []), ([], []), ([], []), ([9, 10], [9, 10]), ([8, 11], [8, 11]), ([12], [12]), ([], []), ([], []), ([], []), ([15, 16], [15, 16]), ([14, 17], [14, 17]), ([18], [18]), ([0, 3, 0, 1, 2, 3, 8, 9, 10, 11, 12, 13, 19], [0, 3]), ([20, 13, 0, 1, 2, 3, 8, 9, 10, 11, 12, 13, 19], [13, 20]), ([4, 7, 0, 1, 2, 3, 4, 5, 6, 7, 8, 9, 10, 11, 12, 13, 14, 15, 16, 17, 18, 19, 20, 21], [4, 7]), ([22, 19, 21, 0, 1, 2, 3, 4, 5, 6, 7, 8, 9, 10, 11, 12, 13, 14, 15, 16, 17, 18, 19, 20, 21], [19, 22])]) [(0, 0), (0, 1), (0, 2), (0, 3), (0, 8), (0, 9), (0, 10), (0, 11), (0, 12), (0, 13), (0, 14), (0, 15), (0, 16), (0, 17), (0, 18), (0, 19), (0, 20), (3, 4), (3, 5), (3, 6), (3, 7), (2, 21), (2, 22), (2, 23)] [21, 22, 23] (fun W => W.cell? ⟨g, i1, none⟩ = some (.int .u16 x) ∧ W.cell? ⟨g, i0, none⟩ = some (.int .u16 y)) (by kernel_rfl) (by kernel_rfl) (by kernel_rfl) (by kernel_rfl) ⟨x1, x2⟩ ?_
          iterate 17
            first | (apply t_off; (focus rfl); (focus rfl); (focus rfl)) | (apply t_yield; (focus rfl); (focus rfl); (focus rfl); (focus rfl); (focus (intro W hS; obtain ⟨hS1, hS2⟩ := hS; go_simp; (try simp (disch := omega) only [wrap_in, wrap_in', wrap_u16, wrap_u8, wrap_u32, wrap_u64, rem_in, quo_in]); first | done | with_reducible rfl | (constructor <;> with_reducible rfl))))
          iterate 4
            first | (apply t_anyoff; (focus rfl); (focus rfl); (focus rfl)) | (apply t_any; (focus rfl); (focus rfl); (focus rfl); (focus rfl); (focus (intro W; go_simp; (try simp (disch := omega) only [wrap_in, wrap_in', wrap_u16, wrap_u8, wrap_u32, wrap_u64, rem_in, quo_in]); first | done | with_reducible rfl | (constructor <;> with_reducible rfl))))
          first | (apply t_last; (focus rfl); (focus rfl); (focus rfl); (focus rfl); (focus (go_simp; (try simp (disch := omega) only [wrap_in, wrap_in', wrap_u16, wrap_u8, wrap_u32, wrap_u64, rem_in, quo_in]); first | done | with_reducible rfl | (constructor <;> with_reducible rfl)))) | (apply t_laststore; (focus rfl); (focus rfl); (focus rfl); (focus rfl); (focus (go_simp; (try simp (disch := omega) only [wrap_in, wrap_in', wrap_u16, wrap_u8, wrap_u32, wrap_u64, rem_in, quo_in]); first | done | with_reducible rfl | (constructor <;> with_reducible rfl))))
          first | (apply t_last; (focus rfl); (focus rfl); (focus rfl); (focus rfl); (focus (go_simp; (try simp (disch := omega) only [wrap_in, wrap_in', wrap_u16, wrap_u8, wrap_u32, wrap_u64, rem_in, quo_in]); first | done | with_reducible rfl | (constructor <;> with_reducible rfl)))) | (apply t_laststore; (focus rfl); (focus rfl); (focus rfl); (focus rfl); (focus (go_simp; (try simp (disch := omega) only [wrap_in, wrap_in', wrap_u16, wrap_u8, wrap_u32, wrap_u64, rem_in, quo_in]); first | done | with_reducible rfl | (constructor <;> with_reducible rfl))))
          first | (apply t_last; (focus rfl); (focus rfl); (focus rfl); (focus rfl); (focus (go_simp; (try simp (disch := omega) only [wrap_in, wrap_in', wrap_u16, wrap_u8, wrap_u32, wrap_u64, rem_in, quo_in]); first | done | with_reducible rfl | (constructor <;> with_reducible rfl)))) | (apply t_laststore; (focus rfl); (focus rfl); (focus rfl); (focus rfl); (focus (go_simp; (try simp (disch := omega) only [wrap_in, wrap_in', wrap_u16, wrap_u8, wrap_u32, wrap_u64, rem_in, quo_in]); first | done | with_reducible rfl | (constructor <;> with_reducible rfl))))
          refine t_done ?_
          have HK := Lib.hid ((HX.out.1.drew.drew.set i1 (.int .u16 y)).set i0 (.int .u16 x))
          clear HX x1 x2 x3 f1 f2 r1 r2 s1 s2
          have HX := Lib.hid (⟨HK.out, HSW.out⟩ : SortK w g _ ∧ RowB _ g t d2)
          clear HK HSW
          repeat first
            | apply d_seq
            | with_reducible apply kt_normal
            | apply l_nil
            | apply d_region
            | (apply l_off; (focus rfl); (focus rfl))
            | (apply l_val; (focus rfl); (focus rfl); (focus rfl); (focus (go_simp; (try simp (disch := omega) only [wrap_in, wrap_in', wrap_u16, wrap_u8, wrap_u32, wrap_u64, rem_in, quo_in]); first | done | with_reducible rfl | (constructor <;> with_reducible rfl))))
            | (apply l_store; (focus rfl); (focus rfl); (focus rfl); (focus (go_simp; (try simp (disch := omega) only [wrap_in, wrap_in', wrap_u16, wrap_u8, wrap_u32, wrap_u64, rem_in, quo_in]); first | done | with_reducible rfl | (constructor <;> with_reducible rfl))))
            | apply d_block
            | (apply d_true; (focus rfl); (focus rfl))
            | (apply d_false; (focus rfl); (focus rfl))
            | apply d_skip
            | apply d_exit
            | apply d_ret
            | with_reducible apply kt_ret
            | with_reducible apply kt_exit
            | with_reducible apply kb_normal
            | with_reducible apply kb_ret
            | with_reducible apply kb_here
            | with_reducible apply kl_ret
            | with_reducible apply kl_exit
            | with_reducible apply kc_ret
            | with_reducible apply kc_exit
            | (with_reducible apply kb_there; (focus rfl))
          refine kl_normal (hi - ch) _ (by omega) (Subl.cons (t := 0) (by decide) rfl (Subl.cons (t := 2) (by decide) rfl (Subl.cons (t := 3) (by decide) rfl (Subl.cons (t := 8) (by decide) rfl (Subl.nil _ _))))) ?_
          refine ⟨ch, d2, rfl, by omega, zd2, rfl, Lib.hid ⟨HX.out, ?_⟩⟩
          have el := HR.out.2
          rw [HSE.out, HD2.out] at el
          exact el
    · have q1 : decide ((hi : Int) ≤ 2 * (root : Int) + 1) = true := decide_eq_true (by omega)
      repeat first
        | apply d_seq
        | with_reducible apply kt_normal
        | apply l_nil
        | apply d_region
        | (apply l_off; (focus rfl); (focus rfl))
        | (apply l_val; (focus rfl); (focus rfl); (focus rfl); (focus (go_simp; (try simp (disch := omega) only [wrap_in, wrap_in', wrap_u16, wrap_u8, wrap_u32, wrap_u64, rem_in, quo_in]); first | done | with_reducible rfl | (constructor <;> with_reducible rfl))))
        | (apply l_store; (focus rfl); (focus rfl); (focus rfl); (focus (go_simp; (try simp (disch := omega) only [wrap_in, wrap_in', wrap_u16, wrap_u8, wrap_u32, wrap_u64, rem_in, quo_in]); first | done | with_reducible rfl | (constructor <;> with_reducible rfl))))
        | apply d_block
        | (apply d_true; (focus rfl); (focus rfl))
        | (apply d_false; (focus rfl); (focus rfl))
        | apply d_skip
        | apply d_exit
        | apply d_ret
        | with_reducible apply kt_ret
        | with_reducible apply kt_exit
        | with_reducible apply kb_normal
        | with_reducible apply kb_ret
        | with_reducible apply kb_here
        | with_reducible apply kl_ret
        | with_reducible apply kl_exit
        | with_reducible apply kc_ret
        | with_reducible apply kc_exit
        | (with_reducible apply kb_there; (focus rfl))
      refine ⟨rfl, _, (by first | (simp [resultsG, resOne, Try.results48, rho, List.lookup]; done) | (simp [resultsG, resOne, Try.results48, rho, List.lookup]; rfl)), ?_⟩
      have el := HR.out.2
      rw [sift_end d1 hi first root hlt] at el
      rw [el]
      exact ⟨rfl, HX.out⟩
set_option maxRecDepth 100000 in
set_option maxHeartbeats 4000000 in
theorem heap_any (g c : Nat) (t : List Value) (d : Array Int) (a b : Nat) (w : World) (h : RowB w g t d) (hc : d.size ≤ c) (hc' : c ≤ 9223372036854775807) (hz : d.size ≤ 4000000000000000) (hab : a < b) (hb : b ≤ d.size) :
    Calls Try.prog 38 #[.slice (some ⟨g, 0, none⟩) d.size c, .int .i64 a, .int .i64 b] w fun e w' => e = .returned (.tuple #[]) ∧ SortK w g w' ∧ RowB w' g t (heapSort ltInt d a b) := by
  obtain ⟨n, hn⟩ : ∃ n, d.size = n := ⟨_, rfl⟩
  rw [hn] at hc hb hz ⊢
  have HX := Lib.hid (show SortK w g w ∧ RowB w g t d from ⟨.refl _ _, h⟩)
  clear h
  obtain ⟨hi, hhi⟩ : ∃ hi, b - a = hi := ⟨_, rfl⟩
  have k1 : (b : Int) - (a : Int) = hi := by omega
  obtain ⟨k, hk⟩ : ∃ k, (hi - 1) / 2 = k := ⟨_, rfl⟩
  have k2 : ((hi : Int) - 1) / 2 = k := by omega
  have k3 : (0 : Int) ≤ (hi : Int) - 1 := by omega
  have e0 : heapSort ltInt d a b = heapPop ltInt a hi (heapBuild ltInt hi a (k + 1) d) := by unfold Sort.heapSort; rw [hhi, hk]
  rw [e0]
  have hah : a + hi ≤ n := by omega
  have hi1 : 1 ≤ hi := by omega
  have hkh : k ≤ hi := by omega
  clear e0 hhi hk
  refine d_calls (n := 56) Try.func38 rfl rfl (by simp) [(0, .slice (some ⟨g, 0, none⟩) n c), (1, .int .i64 a), (2, .int .i64 b)] (by simp) ?_
  repeat first
    | apply d_seq
    | with_reducible apply kt_normal
    | apply l_nil
    | apply d_region
    | (apply l_off; (focus rfl); (focus rfl))
    | (apply l_val; (focus rfl); (focus rfl); (focus rfl); (focus (go_simp; (try simp (disch := omega) only [wrap_in, wrap_in', wrap_u16, wrap_u8, wrap_u32, wrap_u64, rem_in, quo_in]); first | done | with_reducible rfl | (constructor <;> with_reducible rfl))))
    | (apply l_store; (focus rfl); (focus rfl); (focus rfl); (focus (go_simp; (try simp (disch := omega) only [wrap_in, wrap_in', wrap_u16, wrap_u8, wrap_u32, wrap_u64, rem_in, quo_in]); first | done | with_reducible rfl | (constructor <;> with_reducible rfl))))
    | apply d_block
    | (apply d_true; (focus rfl); (focus rfl))
    | (apply d_false; (focus rfl); (focus rfl))
    | apply d_skip
    | apply d_exit
    | apply d_ret
    | with_reducible apply kt_ret
    | with_reducible apply kt_exit
    | with_reducible apply kb_normal
    | with_reducible apply kb_ret
    | with_reducible apply kb_here
    | with_reducible apply kl_ret
    | with_reducible apply kl_exit
    | with_reducible apply kc_ret
    | with_reducible apply kc_exit
    | (with_reducible apply kb_there; (focus rfl))
  refine d_loop (fun m D wr => ∃ (q : Nat) (d1 : Array Int) (v : Int), m = q + 1 ∧ q ≤ k + 1 ∧ d1.size = n ∧ v = (q : Int) - 1 ∧ D = [(0, .slice (some ⟨g, 0, none⟩) n c), (6, .int .i64 a), (7, .int .i64 0), (8, .int .i64 hi), (9, .int .i64 v)] ∧ Hid ((SortK w g wr ∧ RowB wr g t d1) ∧ heapBuild ltInt hi a (k + 1) d = heapBuild ltInt hi a q d1)) (k + 2) _ (Subl.cons (t := 0) (by decide) rfl (Subl.cons (t := 6) (by decide) rfl (Subl.cons (t := 7) (by decide) rfl (Subl.cons (t := 8) (by decide) rfl (Subl.cons (t := 9) (by decide) rfl (Subl.nil _ _)))))) ?_ (fun m D wr hrel => ?_)
  · exact ⟨k + 1, d, k, rfl, Nat.le_refl _, hn, by omega, rfl, Lib.hid ⟨HX.out, rfl⟩⟩
  · clear HX
    obtain ⟨q, d1, v, rfl, hq, hz1, hv, rfl, HR⟩ := hrel
    have HX := Lib.hid HR.out.1
    by_cases hlt : 0 < q
    · obtain ⟨r, rfl⟩ : ∃ r, q = r + 1 := ⟨q - 1, by omega⟩
      obtain rfl : v = (r : Int) := by omega
      have hs := sift_any g c t d1 r hi a wr HX.out.2 (by omega) hc' (by omega) (by omega) (by omega)
      have hss : (siftDown ltInt hi a r d1).size = n := by rw [sift_size]; exact hz1
      rw [hz1] at hs
      have HS := Lib.hid hs
      have HV := Lib.hid hv
      have HSS := Lib.hid hss
      clear hs hv hss
      repeat first
        | apply d_seq
        | with_reducible apply kt_normal
        | apply l_nil
        | apply d_region
        | (apply l_off; (focus rfl); (focus rfl))
        | (apply l_val; (focus rfl); (focus rfl); (focus rfl); (focus (go_simp; (try simp (disch := omega) only [wrap_in, wrap_in', wrap_u16, wrap_u8, wrap_u32, wrap_u64, rem_in, quo_in]); first | done | with_reducible rfl | (constructor <;> with_reducible rfl))))
        | (apply l_store; (focus rfl); (focus rfl); (focus rfl); (focus (go_simp; (try simp (disch := omega) only [wrap_in, wrap_in', wrap_u16, wrap_u8, wrap_u32, wrap_u64, rem_in, quo_in]); first | done | with_reducible rfl | (constructor <;> with_reducible rfl))))
        | apply d_block
        | (apply d_true; (focus rfl); (focus rfl))
        | (apply d_false; (focus rfl); (focus rfl))
        | apply d_skip
        | apply d_exit
        | apply d_ret
        | with_reducible apply kt_ret
        | with_reducible apply kt_exit
        | with_reducible apply kb_normal
        | with_reducible apply kb_ret
        | with_reducible apply kb_here
        | with_reducible apply kl_ret
        | with_reducible apply kl_exit
        | with_reducible apply kc_ret
        | with_reducible apply kc_exit
        | (with_reducible apply kb_there; (focus rfl))
      refine l_call rfl rfl rfl (by first | (go_simp; done) | (go_simp; rfl)) (HS.out) ?_
      rintro e w1 ⟨rfl, hk1, hk2⟩
      have HX1 := Lib.hid (show SortK w g w1 ∧ RowB w1 g t (siftDown ltInt hi a r d1) from ⟨HX.out.1.trans hk1, hk2⟩)
      clear hk1 hk2
      refine ⟨_, rfl, ?_⟩
      repeat first
        | apply d_seq
        | with_reducible apply kt_normal
        | apply l_nil
        | apply d_region
        | (apply l_off; (focus rfl); (focus rfl))
        | (apply l_val; (focus rfl); (focus rfl); (focus rfl); (focus (go_simp; (try simp (disch := omega) only [wrap_in, wrap_in', wrap_u16, wrap_u8, wrap_u32, wrap_u64, rem_in, quo_in]); first | done | with_reducible rfl | (constructor <;> with_reducible rfl))))
        | (apply l_store; (focus rfl); (focus rfl); (focus rfl); (focus (go_simp; (try simp (disch := omega) only [wrap_in, wrap_in', wrap_u16, wrap_u8, wrap_u32, wrap_u64, rem_in, quo_in]); first | done | with_reducible rfl | (constructor <;> with_reducible rfl))))
        | apply d_block
        | (apply d_true; (focus rfl); (focus rfl))
        | (apply d_false; (focus rfl); (focus rfl))
        | apply d_skip
        | apply d_exit
        | apply d_ret
        | with_reducible apply kt_ret
        | with_reducible apply kt_exit
        | with_reducible apply kb_normal
        | with_reducible apply kb_ret
        | with_reducible apply kb_here
        | with_reducible apply kl_ret
        | with_reducible apply kl_exit
        | with_reducible apply kc_ret
        | with_reducible apply kc_exit
        | (with_reducible apply kb_there; (focus rfl))
      refine kl_normal (r + 1) _ (by omega) (Subl.cons (t := 0) (by decide) rfl (Subl.cons (t := 6) (by decide) rfl (Subl.cons (t := 7) (by decide) rfl (Subl.cons (t := 8) (by decide) rfl (Subl.cons (t := 9) (by decide) rfl (Subl.nil _ _)))))) ?_
      exact ⟨r, _, _, rfl, by omega, HSS.out, rfl, rfl, Lib.hid ⟨HX1.out, HR.out.2⟩⟩
    · obtain rfl : q = 0 := by omega
      obtain rfl : v = -1 := by omega
      clear hv hlt hq
      have h2 : heapBuild ltInt hi a (k + 1) d = d1 := HR.out.2
      rw [h2]
      clear h2 HR
      repeat first
        | apply d_seq
        | with_reducible apply kt_normal
        | apply l_nil
        | apply d_region
        | (apply l_off; (focus rfl); (focus rfl))
        | (apply l_val; (focus rfl); (focus rfl); (focus rfl); (focus (go_simp; (try simp (disch := omega) only [wrap_in, wrap_in', wrap_u16, wrap_u8, wrap_u32, wrap_u64, rem_in, quo_in]); first | done | with_reducible rfl | (constructor <;> with_reducible rfl))))
        | (apply l_store; (focus rfl); (focus rfl); (focus rfl); (focus (go_simp; (try simp (disch := omega) only [wrap_in, wrap_in', wrap_u16, wrap_u8, wrap_u32, wrap_u64, rem_in, quo_in]); first | done | with_reducible rfl | (constructor <;> with_reducible rfl))))
        | apply d_block
        | (apply d_true; (focus rfl); (focus rfl))
        | (apply d_false; (focus rfl); (focus rfl))
        | apply d_skip
        | apply d_exit
        | apply d_ret
        | with_reducible apply kt_ret
        | with_reducible apply kt_exit
        | with_reducible apply kb_normal
        | with_reducible apply kb_ret
        | with_reducible apply kb_here
        | with_reducible apply kl_ret
        | with_reducible apply kl_exit
        | with_reducible apply kc_ret
        | with_reducible apply kc_exit
        | (with_reducible apply kb_there; (focus rfl))
      refine d_loop (fun m D wr => ∃ (q : Nat) (d2 : Array Int) (v : Int), m = q + 1 ∧ q ≤ hi ∧ d2.size = n ∧ v = (q : Int) - 1 ∧ D = [(0, .slice (some ⟨g, 0, none⟩) n c), (6, .int .i64 a), (7, .int .i64 0), (10, .int .i64 v)] ∧ Hid ((SortK w g wr ∧ RowB wr g t d2) ∧ heapPop ltInt a hi d1 = heapPop ltInt a q d2)) (hi + 1) _ (Subl.cons (t := 0) (by decide) rfl (Subl.cons (t := 6) (by decide) rfl (Subl.cons (t := 7) (by decide) rfl (Subl.cons (t := 10) (by decide) rfl (Subl.nil _ _))))) ?_ (fun m D wr hrel => ?_)
      · exact ⟨hi, d1, _, rfl, Nat.le_refl _, hz1, rfl, rfl, Lib.hid ⟨HX.out, rfl⟩⟩
      · clear HX
        obtain ⟨q, d2, v, rfl, hq, hz2, hv, rfl, HR⟩ := hrel
        have HX := Lib.hid HR.out.1
        by_cases hlt : 0 < q
        · obtain ⟨r, rfl⟩ : ∃ r, q = r + 1 := ⟨q - 1, by omega⟩
          obtain rfl : v = (r : Int) := by omega
          obtain ⟨i1, hi1'⟩ : ∃ i1, a + r = i1 := ⟨_, rfl⟩
          have k5 : (a : Int) + (r : Int) = i1 := by omega
          have HV := Lib.hid hv
          clear hv
          obtain ⟨d3, hd3⟩ : ∃ e, swp d2 a i1 = e := ⟨_, rfl⟩
          have r1 : a < d2.size := by omega
          have r2 : i1 < d2.size := by omega
          have s1 : a < n := by omega
          have s2 : i1 < n := by omega
          have x1 := HX.out.2.cell r1
          have x2 := HX.out.2.cell r2
          have x3 := (HX.out.2.set r1 d2[i1]!).cell (i := i1) (by simpa using r2)
          generalize (d2.setIfInBounds a d2[i1]!)[i1]! = u at x3
          have f1 := HX.out.2.frozen a
          have f2 := HX.out.2.frozen i1
          have hsw := HX.out.2.swp r1 r2
          rw [hd3] at hsw
          obtain ⟨x, hx⟩ : ∃ x, d2[a]! = x := ⟨_, rfl⟩
          obtain ⟨y, hy⟩ : ∃ y, d2[i1]! = y := ⟨_, rfl⟩
          rw [hx] at x1 hsw
          rw [hy] at x2 x3 hsw
          clear hx hy
          have zd3 : d3.size = n := by rw [← hd3, swp_size]; omega
          have HSW := Lib.hid hsw
          have HD3 := Lib.hid hd3
          clear hsw hd3
          repeat first
            | apply d_seq
            | with_reducible apply kt_normal
            | apply l_nil
            | apply d_region
            | (apply l_off; (focus rfl); (focus rfl))
            | (apply l_val; (focus rfl); (focus rfl); (focus rfl); (focus (go_simp; (try simp (disch := omega) only [wrap_in, wrap_in', wrap_u16, wrap_u8, wrap_u32, wrap_u64, rem_in, quo_in]); first | done | with_reducible rfl | (constructor <;> with_reducible rfl))))
            | (apply l_store; (focus rfl); (focus rfl); (focus rfl); (focus (go_simp; (try simp (disch := omega) only [wrap_in, wrap_in', wrap_u16, wrap_u8, wrap_u32, wrap_u64, rem_in, quo_in]); first | done | with_reducible rfl | (constructor <;> with_reducible rfl))))
            | apply d_block
            | (apply d_true; (focus rfl); (focus rfl))
            | (apply d_false; (focus rfl); (focus rfl))
            | apply d_skip
            | apply d_exit
            | apply d_ret
            | with_reducible apply kt_ret
            | with_reducible apply kt_exit
            | with_reducible apply kb_normal
            | with_reducible apply kb_ret
            | with_reducible apply kb_here
            | with_reducible apply kl_ret
            | with_reducible apply kl_exit
            | with_reducible apply kc_ret
            | with_reducible apply kc_exit
            | (with_reducible apply kb_there; (focus rfl))
          refine d_drawt (true, [([], []), ([], []), ([], []), ([], []), ([], []), ([3, 4], [3, 4]), ([], []), ([], []), ([], []), ([7, 8], [7, 8]), ([6, 9], [6, 9]), ([10], [10]), ([], []), ([], []), ([12, 13], [12, 13]), ([14], [14]), ([0, 1, 0, 1, 6, 7, 8, 9, 10, 11, 15], [0, 1]), ([16, 11, 0, 1, 6, 7, 8, 9, 10, 11, 15], [11, 16]), ([2, 5, 0, 1, 2, 3, 4, 5, 6, 7, 8, 9, 10, 11, 12, 13, 14, 15, 16, 17], [2, 5]), ([18, 15, 17, 0, 1, 2, 3, 4, 5, 6, 7, 8, 9, 10, 11, 12, 13, 14, 15, 16, 17], [15, 18])]) [(0, 0), (0, 1), (0, 6), (0, 7), (0, 8), (0, 9), (0, 10), (0, 11), (0, 12), (0, 13), (0, 14), (0, 15), (0, 16), (3, 2), (3, 3), (3, 4), (3, 5), (2, 17), (2, 18), (2, 19)] [17, 18, 19] (fun W => W.cell? ⟨g, a, none⟩ = some (.int .u16 x) ∧ W.cell? ⟨g, i1, none⟩ = some (.int .u16 y)) (by kernel_rfl) (by kernel_rfl) (by kernel_rfl) (by kernel_rfl) ⟨x1, x2⟩ ?_
          iterate 13
            first | (apply t_off; (focus rfl); (focus rfl); (focus rfl)) | (apply t_yield; (focus rfl); (focus rfl); (focus rfl); (focus rfl); (focus (intro W hS; obtain ⟨hS1, hS2⟩ := hS; go_simp; (try simp (disch := omega) only [wrap_in, wrap_in', wrap_u16, wrap_u8, wrap_u32, wrap_u64, rem_in, quo_in]); first | done | with_reducible rfl | (constructor <;> with_reducible rfl))))
          iterate 4
            first | (apply t_anyoff; (focus rfl); (focus rfl); (focus rfl)) | (apply t_any; (focus rfl); (focus rfl); (focus rfl); (focus rfl); (focus (intro W; go_simp; (try simp (disch := omega) only [wrap_in, wrap_in', wrap_u16, wrap_u8, wrap_u32, wrap_u64, rem_in, quo_in]); first | done | with_reducible rfl | (constructor <;> with_reducible rfl))))
          first | (apply t_last; (focus rfl); (focus rfl); (focus rfl); (focus rfl); (focus (go_simp; (try simp (disch := omega) only [wrap_in, wrap_in', wrap_u16, wrap_u8, wrap_u32, wrap_u64, rem_in, quo_in]); first | done | with_reducible rfl | (constructor <;> with_reducible rfl)))) | (apply t_laststore; (focus rfl); (focus rfl); (focus rfl); (focus rfl); (focus (go_simp; (try simp (disch := omega) only [wrap_in, wrap_in', wrap_u16, wrap_u8, wrap_u32, wrap_u64, rem_in, quo_in]); first | done | with_reducible rfl | (constructor <;> with_reducible rfl))))
          first | (apply t_last; (focus rfl); (focus rfl); (focus rfl); (focus rfl); (focus (go_simp; (try simp (disch := omega) only [wrap_in, wrap_in', wrap_u16, wrap_u8, wrap_u32, wrap_u64, rem_in, quo_in]); first | done | with_reducible rfl | (constructor <;> with_reducible rfl)))) | (apply t_laststore; (focus rfl); (focus rfl); (focus rfl); (focus rfl); (focus (go_simp; (try simp (disch := omega) only [wrap_in, wrap_in', wrap_u16, wrap_u8, wrap_u32, wrap_u64, rem_in, quo_in]); first | done | with_reducible rfl | (constructor <;> with_reducible rfl))))
          first | (apply t_last; (focus rfl); (focus rfl); (focus rfl); (focus rfl); (focus (go_simp; (try simp (disch := omega) only [wrap_in, wrap_in', wrap_u16, wrap_u8, wrap_u32, wrap_u64, rem_in, quo_in]); first | done | with_reducible rfl | (constructor <;> with_reducible rfl)))) | (apply t_laststore; (focus rfl); (focus rfl); (focus rfl); (focus rfl); (focus (go_simp; (try simp (disch := omega) only [wrap_in, wrap_in', wrap_u16, wrap_u8, wrap_u32, wrap_u64, rem_in, quo_in]); first | done | with_reducible rfl | (constructor <;> with_reducible rfl))))
          refine t_done ?_
          have HK := Lib.hid ((HX.out.1.drew.set a (.int .u16 y)).set i1 (.int .u16 x))
          clear HX x1 x2 x3 f1 f2 r1 r2 s1 s2
          have HX := Lib.hid (⟨HK.out, HSW.out⟩ : SortK w g _ ∧ RowB _ g t d3)
          clear HK HSW
          have hs := fun W h => sift_any g c t d3 0 r a W h (by omega) hc' (by omega) (by omega) (by omega)
          have hss : (siftDown ltInt r a 0 d3).size = n := by rw [sift_size]; exact zd3
          rw [zd3] at hs
          have HI := Lib.hid hi1'
          have HS := Lib.hid hs
          have HSS := Lib.hid hss
          clear hs hss
          clear hi1'
          repeat first
            | apply d_seq
            | with_reducible apply kt_normal
            | apply l_nil
            | apply d_region
            | (apply l_off; (focus rfl); (focus rfl))
            | (apply l_val; (focus rfl); (focus rfl); (focus rfl); (focus (go_simp; (try simp (disch := omega) only [wrap_in, wrap_in', wrap_u16, wrap_u8, wrap_u32, wrap_u64, rem_in, quo_in]); first | done | with_reducible rfl | (constructor <;> with_reducible rfl))))
            | (apply l_store; (focus rfl); (focus rfl); (focus rfl); (focus (go_simp; (try simp (disch := omega) only [wrap_in, wrap_in', wrap_u16, wrap_u8, wrap_u32, wrap_u64, rem_in, quo_in]); first | done | with_reducible rfl | (constructor <;> with_reducible rfl))))
            | apply d_block
            | (apply d_true; (focus rfl); (focus rfl))
            | (apply d_false; (focus rfl); (focus rfl))
            | apply d_skip
            | apply d_exit
            | apply d_ret
            | with_reducible apply kt_ret
            | with_reducible apply kt_exit
            | with_reducible apply kb_normal
            | with_reducible apply kb_ret
            | with_reducible apply kb_here
            | with_reducible apply kl_ret
            | with_reducible apply kl_exit
            | with_reducible apply kc_ret
            | with_reducible apply kc_exit
            | (with_reducible apply kb_there; (focus rfl))
          refine l_call rfl rfl rfl (by first | (go_simp; done) | (go_simp; rfl)) (HS.out _ HX.out.2) ?_
          rintro e w1 ⟨rfl, hk1, hk2⟩
          have HX1 := Lib.hid (show SortK w g w1 ∧ RowB w1 g t (siftDown ltInt r a 0 d3) from ⟨HX.out.1.trans hk1, hk2⟩)
          clear hk1 hk2
          refine ⟨_, rfl, ?_⟩
          repeat first
            | apply d_seq
            | with_reducible apply kt_normal
            | apply l_nil
            | apply d_region
            | (apply l_off; (focus rfl); (focus rfl))
            | (apply l_val; (focus rfl); (focus rfl); (focus rfl); (focus (go_simp; (try simp (disch := omega) only [wrap_in, wrap_in', wrap_u16, wrap_u8, wrap_u32, wrap_u64, rem_in, quo_in]); first | done | with_reducible rfl | (constructor <;> with_reducible rfl))))
            | (apply l_store; (focus rfl); (focus rfl); (focus rfl); (focus (go_simp; (try simp (disch := omega) only [wrap_in, wrap_in', wrap_u16, wrap_u8, wrap_u32, wrap_u64, rem_in, quo_in]); first | done | with_reducible rfl | (constructor <;> with_reducible rfl))))
            | apply d_block
            | (apply d_true; (focus rfl); (focus rfl))
            | (apply d_false; (focus rfl); (focus rfl))
            | apply d_skip
            | apply d_exit
            | apply d_ret
            | with_reducible apply kt_ret
            | with_reducible apply kt_exit
            | with_reducible apply kb_normal
            | with_reducible apply kb_ret
            | with_reducible apply kb_here
            | with_reducible apply kl_ret
            | with_reducible apply kl_exit
            | with_reducible apply kc_ret
            | with_reducible apply kc_exit
            | (with_reducible apply kb_there; (focus rfl))
          refine kl_normal (r + 1) _ (by omega) (Subl.cons (t := 0) (by decide) rfl (Subl.cons (t := 6) (by decide) rfl (Subl.cons (t := 7) (by decide) rfl (Subl.cons (t := 10) (by decide) rfl (Subl.nil _ _))))) ?_
          refine ⟨r, _, _, rfl, by omega, HSS.out, rfl, rfl, Lib.hid ⟨HX1.out, ?_⟩⟩
          have el := HR.out.2
          rw [heapPop, HI.out, HD3.out] at el
          exact el
        · obtain rfl : q = 0 := by omega
          obtain rfl : v = -1 := by omega
          clear hv hlt hq
          repeat first
            | apply d_seq
            | with_reducible apply kt_normal
            | apply l_nil
            | apply d_region
            | (apply l_off; (focus rfl); (focus rfl))
            | (apply l_val; (focus rfl); (focus rfl); (focus rfl); (focus (go_simp; (try simp (disch := omega) only [wrap_in, wrap_in', wrap_u16, wrap_u8, wrap_u32, wrap_u64, rem_in, quo_in]); first | done | with_reducible rfl | (constructor <;> with_reducible rfl))))
            | (apply l_store; (focus rfl); (focus rfl); (focus rfl); (focus (go_simp; (try simp (disch := omega) only [wrap_in, wrap_in', wrap_u16, wrap_u8, wrap_u32, wrap_u64, rem_in, quo_in]); first | done | with_reducible rfl | (constructor <;> with_reducible rfl))))
            | apply d_block
            | (apply d_true; (focus rfl); (focus rfl))
            | (apply d_false; (focus rfl); (focus rfl))
            | apply d_skip
            | apply d_exit
            | apply d_ret
            | with_reducible apply kt_ret
            | with_reducible apply kt_exit
            | with_reducible apply kb_normal
            | with_reducible apply kb_ret
            | with_reducible apply kb_here
            | with_reducible apply kl_ret
            | with_reducible apply kl_exit
            | with_reducible apply kc_ret
            | with_reducible apply kc_exit
            | (with_reducible apply kb_there; (focus rfl))
          refine ⟨rfl, _, (by first | (simp [resultsG, resOne, Try.results38, rho, List.lookup]; done) | (simp [resultsG, resOne, Try.results38, rho, List.lookup]; rfl)), ?_⟩
          have el := HR.out.2
          rw [el]
          exact ⟨rfl, HX.out⟩
end Go.Proofs.Ytbcjmgocdplfnaa
