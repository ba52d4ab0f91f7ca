import Derived.Test.YtilmodbiimjllaaTotM
namespace Go.Proofs.Ytilmodbiimjllaa
set_option linter.unusedVariables false
set_option linter.unusedSimpArgs false
attribute [local go_sem] rho_const rho_func rho_hit rho_miss
open Go.RowKit
attribute [local go_sem] min2_mn min_two' max2_mx max_two'
def none9 : Nat → List Int := fun _ => []
theorem updL_upd (f : Nat → List Int) (i : Nat) (q q' : List Int) : updL (updL f i q) i q' = updL f i q' := by
  funext j
  unfold updL
  split <;> rfl
theorem put_k {r n z k : Nat} (hz : z < n) (hk : k < r) : (mkT r n (updL none9 z (seqk k))).put k z = (mkT r n (updL none9 z (seqk (k + 1))), 0) := by
  rw [mkT_put hz (fun j hj hm => ?_) (by rw [updL_same, seqk_len]; omega), updL_same, updL_upd, seqk_succ]
  by_cases e : j = z
  · rw [e, updL_same] at hm; have := seqk_mem hm; omega
  · rw [updL_other _ _ e] at hm; simp [none9] at hm
theorem notin999 {r n z : Nat} (hr : r ≤ 64) : ∀ j, j < n → (999 : Int) ∉ updL none9 z (seqk r) j := by
  intro j hj hm
  by_cases e : j = z
  · rw [e, updL_same] at hm; have := seqk_mem hm; omega
  · rw [updL_other _ _ e] at hm; simp [none9] at hm
set_option maxRecDepth 100000 in
set_option maxHeartbeats 8000000 in
theorem toteFull_any {w : World} (zn rm zz : Int) :
    Calls Try.prog 8 #[.int .i64 zn, .int .i64 rm, .int .i64 zz] w fun e w' => e = .returned (.bool true) ∧ Keep none_ w w' := by
  have HX := Lib.hid (Has.nil (Keep.refl none_ w))
  have h7 : bits .and .i64 zn 7 = zn % 8 := i64_mask 3 7 (by decide) (by decide) zn
  have h63 : bits .and .i64 rm 63 = rm % 64 := i64_mask 6 63 (by decide) (by decide) rm
  have h16 : bits .and .i64 zz 65535 = zz % 65536 := i64_mask 16 65535 (by decide) (by decide) zz
  obtain ⟨n, hn, hn1, hn8⟩ : ∃ n : Nat, 1 + zn % 8 = n ∧ 1 ≤ n ∧ n ≤ 8 := ⟨(1 + zn % 8).toNat, by omega, by omega, by omega⟩
  obtain ⟨r, hr, hr1, hr64⟩ : ∃ r : Nat, 1 + rm % 64 = r ∧ 1 ≤ r ∧ r ≤ 64 := ⟨(1 + rm % 64).toNat, by omega, by omega, by omega⟩
  obtain ⟨z, hz, hzn⟩ : ∃ z : Nat, zz % 65536 % (n : Int) = z ∧ z < n := ⟨(zz % 65536 % (n : Int)).toNat, by have := Int.emod_nonneg (zz % 65536) (show (n : Int) ≠ 0 by omega); omega, by have := Int.emod_nonneg (zz % 65536) (show (n : Int) ≠ 0 by omega); have := Int.emod_lt_of_pos (zz % 65536) (show (0 : Int) < n by omega); omega⟩
  have z1 : ((n : Int) == 0) = false := by simp; omega
  have z2 : ¬ ((n : Int) = 0) := by omega
  have z3 : ¬ n = 0 := by omega
  have hb1 : 0 ≤ zn % 8 ∧ zn % 8 ≤ 7 := by omega
  have hb2 : 0 ≤ rm % 64 ∧ rm % 64 ≤ 63 := by omega
  have hb3 : 0 ≤ zz % 65536 ∧ zz % 65536 ≤ 65535 := by omega
  have em : mn (mx (n : Int) 1) 8 = n := by unfold mn mx; split <;> split <;> omega
  have er : mn (mx (r : Int) 1) 64 = r := by unfold mn mx; split <;> split <;> omega
  refine d_calls (n := 165) Try.func8 rfl rfl (by simp) [(0, .int .i64 zn), (1, .int .i64 rm), (2, .int .i64 zz)] (by simp) ?_
  repeat first
    | apply d_seq
    | with_reducible apply kt_normal
    | apply l_nil
    | apply d_region
    | (apply l_off; (focus rfl); (focus rfl))
    | (apply l_val; (focus rfl); (focus rfl); (focus rfl); (focus (go_simp; (try simp (disch := omega) only [wrap_in, wrap_in', wrap_u16, wrap_u8, wrap_u32, wrap_u64, rem_in, quo_in]); first | done | with_reducible rfl | (constructor <;> with_reducible rfl))))
    | (apply l_store; (focus rfl); (focus rfl); (focus rfl); (focus (go_simp; (try simp (disch := omega) only [wrap_in, wrap_in', wrap_u16, wrap_u8, wrap_u32, wrap_u64, rem_in, quo_in]); first | done | with_reducible rfl | (constructor <;> with_reducible rfl))))
    | apply d_block
    | (apply d_true; (focus rfl); (focus rfl))
    | (apply d_false; (focus rfl); (focus rfl))
    | apply d_skip
    | apply d_exit
    | apply d_ret
    | with_reducible apply kt_ret
    | with_reducible apply kt_exit
    | with_reducible apply kb_normal
    | with_reducible apply kb_ret
    | with_reducible apply kb_here
    | with_reducible apply kl_ret
    | with_reducible apply kl_exit
    | with_reducible apply kc_ret
    | with_reducible apply kc_exit
    | (with_reducible apply kb_there; (focus rfl))
  refine l_call rfl rfl rfl (by first | (go_simp; done) | (go_simp; rfl)) (shown_has HX.out) ?_
  rintro e w' ⟨rfl, hx⟩
  clear HX
  try simp only [List.nil_append, List.cons_append, List.set_cons_zero, List.set_cons_succ] at hx
  have HX := Lib.hid hx
  clear hx
  refine ⟨_, rfl, ?_⟩
  repeat first
    | apply d_seq
    | with_reducible apply kt_normal
    | apply l_nil
    | apply d_region
    | (apply l_off; (focus rfl); (focus rfl))
    | (apply l_val; (focus rfl); (focus rfl); (focus rfl); (focus (go_simp; (try simp (disch := omega) only [wrap_in, wrap_in', wrap_u16, wrap_u8, wrap_u32, wrap_u64, rem_in, quo_in]); first | done | with_reducible rfl | (constructor <;> with_reducible rfl))))
    | (apply l_store; (focus rfl); (focus rfl); (focus rfl); (focus (go_simp; (try simp (disch := omega) only [wrap_in, wrap_in', wrap_u16, wrap_u8, wrap_u32, wrap_u64, rem_in, quo_in]); first | done | with_reducible rfl | (constructor <;> with_reducible rfl))))
    | apply d_block
    | (apply d_true; (focus rfl); (focus rfl))
    | (apply d_false; (focus rfl); (focus rfl))
    | apply d_skip
    | apply d_exit
    | apply d_ret
    | with_reducible apply kt_ret
    | with_reducible apply kt_exit
    | with_reducible apply kb_normal
    | with_reducible apply kb_ret
    | with_reducible apply kb_here
    | with_reducible apply kl_ret
    | with_reducible apply kl_exit
    | with_reducible apply kc_ret
    | with_reducible apply kc_exit
    | (with_reducible apply kb_there; (focus rfl))
  clear h7 h63 h16 hb1 hb2 hb3 hn hr hz z1 z2 z3
  have hc := new_has HX.out n r n r em er
  rw [init_mkT] at hc
  have HC := Lib.hid hc
  clear hc
  refine l_call rfl rfl rfl (by first | (go_simp; done) | (go_simp; rfl)) (HC.out) ?_
  rintro e w' ⟨t, zb, rfl, hx⟩
  clear HX HC
  try simp only [List.nil_append, List.cons_append, List.set_cons_zero, List.set_cons_succ] at hx
  have HX := Lib.hid hx
  clear hx
  refine ⟨_, rfl, ?_⟩
  repeat first
    | apply d_seq
    | with_reducible apply kt_normal
    | apply l_nil
    | apply d_region
    | (apply l_off; (focus rfl); (focus rfl))
    | (apply l_val; (focus rfl); (focus rfl); (focus rfl); (focus (go_simp; (try simp (disch := omega) only [wrap_in, wrap_in', wrap_u16, wrap_u8, wrap_u32, wrap_u64, rem_in, quo_in]); first | done | with_reducible rfl | (constructor <;> with_reducible rfl))))
    | (apply l_store; (focus rfl); (focus rfl); (focus rfl); (focus (go_simp; (try simp (disch := omega) only [wrap_in, wrap_in', wrap_u16, wrap_u8, wrap_u32, wrap_u64, rem_in, quo_in]); first | done | with_reducible rfl | (constructor <;> with_reducible rfl))))
    | ((fail_if_success (with_reducible apply d_block (id := 0))); apply d_block)
    | (apply d_true; (focus rfl); (focus rfl))
    | (apply d_false; (focus rfl); (focus rfl))
    | apply d_skip
    | apply d_exit
    | apply d_ret
    | with_reducible apply kt_ret
    | with_reducible apply kt_exit
    | with_reducible apply kb_normal
    | with_reducible apply kb_ret
    | with_reducible apply kb_here
    | with_reducible apply kl_ret
    | with_reducible apply kl_exit
    | with_reducible apply kc_ret
    | with_reducible apply kc_exit
    | (with_reducible apply kb_there; (focus rfl))
  clear em er
  have e0 : (fun _ => ([] : List Int)) = updL none9 z (seqk 0) := by funext j; unfold updL none9; split <;> rfl
  rw [e0] at HX
  clear e0
  refine d_join (fun D wr => D = [(0, .int .i64 n), (1, .int .i64 r), (2, .int .i64 z), (7, .bool true), (8, .pointer (some ⟨t, 0, none⟩))] ∧ Hid (Has w wr [TotA w.heap.size t zb (mkT r n (updL none9 z (seqk r)))])) ?_ (fun D wr hcut => ?_)
  · repeat first
      | apply d_seq
      | with_reducible apply kt_normal
      | apply l_nil
      | apply d_region
      | (apply l_off; (focus rfl); (focus rfl))
      | (apply l_val; (focus rfl); (focus rfl); (focus rfl); (focus (go_simp; (try simp (disch := omega) only [wrap_in, wrap_in', wrap_u16, wrap_u8, wrap_u32, wrap_u64, rem_in, quo_in]); first | done | with_reducible rfl | (constructor <;> with_reducible rfl))))
      | (apply l_store; (focus rfl); (focus rfl); (focus rfl); (focus (go_simp; (try simp (disch := omega) only [wrap_in, wrap_in', wrap_u16, wrap_u8, wrap_u32, wrap_u64, rem_in, quo_in]); first | done | with_reducible rfl | (constructor <;> with_reducible rfl))))
      | apply d_block
      | (apply d_true; (focus rfl); (focus rfl))
      | (apply d_false; (focus rfl); (focus rfl))
      | apply d_skip
      | apply d_exit
      | apply d_ret
      | with_reducible apply kt_ret
      | with_reducible apply kt_exit
      | with_reducible apply kb_normal
      | with_reducible apply kb_ret
      | with_reducible apply kb_here
      | with_reducible apply kl_ret
      | with_reducible apply kl_exit
      | with_reducible apply kc_ret
      | with_reducible apply kc_exit
      | (with_reducible apply kb_there; (focus rfl))
    refine d_loop (fun m D wr => ∃ (k : Nat), m = r - k ∧ k ≤ r ∧ D = [(0, .int .i64 n), (1, .int .i64 r), (2, .int .i64 z), (7, .bool true), (8, .pointer (some ⟨t, 0, none⟩)), (9, .int .i64 k)] ∧ Hid (Has w wr [TotA w.heap.size t zb (mkT r n (updL none9 z (seqk k)))])) (r) _ (Subl.cons (t := 0) (by decide) rfl (Subl.cons (t := 1) (by decide) rfl (Subl.cons (t := 2) (by decide) rfl (Subl.cons (t := 7) (by decide) rfl (Subl.cons (t := 8) (by decide) rfl (Subl.cons (t := 9) (by decide) rfl (Subl.nil _ _))))))) ?_ (fun m D wr hrel => ?_)
    · exact ⟨0, rfl, Nat.zero_le _, rfl, HX⟩
    · clear HX
      obtain ⟨k, rfl, hk, rfl, HX⟩ := hrel
      by_cases hlt : k < r
      · have hki : (k : Int) < r := by omega
        have hk64 : (k : Int) ≤ 64 := by omega
        repeat first
          | apply d_seq
          | with_reducible apply kt_normal
          | apply l_nil
          | apply d_region
          | (apply l_off; (focus rfl); (focus rfl))
          | (apply l_val; (focus rfl); (focus rfl); (focus rfl); (focus (go_simp; (try simp (disch := omega) only [wrap_in, wrap_in', wrap_u16, wrap_u8, wrap_u32, wrap_u64, rem_in, quo_in]); first | done | with_reducible rfl | (constructor <;> with_reducible rfl))))
          | (apply l_store; (focus rfl); (focus rfl); (focus rfl); (focus (go_simp; (try simp (disch := omega) only [wrap_in, wrap_in', wrap_u16, wrap_u8, wrap_u32, wrap_u64, rem_in, quo_in]); first | done | with_reducible rfl | (constructor <;> with_reducible rfl))))
          | apply d_block
          | (apply d_true; (focus rfl); (focus rfl))
          | (apply d_false; (focus rfl); (focus rfl))
          | apply d_skip
          | apply d_exit
          | apply d_ret
          | with_reducible apply kt_ret
          | with_reducible apply kt_exit
          | with_reducible apply kb_normal
          | with_reducible apply kb_ret
          | with_reducible apply kb_here
          | with_reducible apply kl_ret
          | with_reducible apply kl_exit
          | with_reducible apply kc_ret
          | with_reducible apply kc_exit
          | (with_reducible apply kb_there; (focus rfl))
        have hc := put_has HX.out 0 t zb _ rfl k z
        rw [put_k hzn hlt] at hc
        have HC := Lib.hid hc
        clear hc
        refine l_call rfl rfl rfl (by first | (go_simp; done) | (go_simp; rfl)) (HC.out) ?_
        rintro e w' ⟨rfl, hx⟩
        clear HX HC
        try simp only [List.nil_append, List.cons_append, List.set_cons_zero, List.set_cons_succ] at hx
        have HX := Lib.hid hx
        clear hx
        refine ⟨_, rfl, ?_⟩
        repeat first
          | apply d_seq
          | with_reducible apply kt_normal
          | apply l_nil
          | apply d_region
          | (apply l_off; (focus rfl); (focus rfl))
          | (apply l_val; (focus rfl); (focus rfl); (focus rfl); (focus (go_simp; (try simp (disch := omega) only [wrap_in, wrap_in', wrap_u16, wrap_u8, wrap_u32, wrap_u64, rem_in, quo_in]); first | done | with_reducible rfl | (constructor <;> with_reducible rfl))))
          | (apply l_store; (focus rfl); (focus rfl); (focus rfl); (focus (go_simp; (try simp (disch := omega) only [wrap_in, wrap_in', wrap_u16, wrap_u8, wrap_u32, wrap_u64, rem_in, quo_in]); first | done | with_reducible rfl | (constructor <;> with_reducible rfl))))
          | apply d_block
          | (apply d_true; (focus rfl); (focus rfl))
          | (apply d_false; (focus rfl); (focus rfl))
          | apply d_skip
          | apply d_exit
          | apply d_ret
          | with_reducible apply kt_ret
          | with_reducible apply kt_exit
          | with_reducible apply kb_normal
          | with_reducible apply kb_ret
          | with_reducible apply kb_here
          | with_reducible apply kl_ret
          | with_reducible apply kl_exit
          | with_reducible apply kc_ret
          | with_reducible apply kc_exit
          | (with_reducible apply kb_there; (focus rfl))
        have hc := len_has HX.out 0 t zb _ rfl z
        rw [mkT_rowZ hzn, updL_same, seqk_len] at hc
        have HC := Lib.hid hc
        clear hc
        refine l_call rfl rfl rfl (by first | (go_simp; done) | (go_simp; rfl)) (HC.out) ?_
        rintro e w' ⟨rfl, hx⟩
        clear HX HC
        try simp only [List.nil_append, List.cons_append, List.set_cons_zero, List.set_cons_succ] at hx
        have HX := Lib.hid hx
        clear hx
        refine ⟨_, rfl, ?_⟩
        repeat first
          | apply d_seq
          | with_reducible apply kt_normal
          | apply l_nil
          | apply d_region
          | (apply l_off; (focus rfl); (focus rfl))
          | (apply l_val; (focus rfl); (focus rfl); (focus rfl); (focus (go_simp; (try simp (disch := omega) only [wrap_in, wrap_in', wrap_u16, wrap_u8, wrap_u32, wrap_u64, rem_in, quo_in]); first | done | with_reducible rfl | (constructor <;> with_reducible rfl))))
          | (apply l_store; (focus rfl); (focus rfl); (focus rfl); (focus (go_simp; (try simp (disch := omega) only [wrap_in, wrap_in', wrap_u16, wrap_u8, wrap_u32, wrap_u64, rem_in, quo_in]); first | done | with_reducible rfl | (constructor <;> with_reducible rfl))))
          | apply d_block
          | (apply d_true; (focus rfl); (focus rfl))
          | (apply d_false; (focus rfl); (focus rfl))
          | apply d_skip
          | apply d_exit
          | apply d_ret
          | with_reducible apply kt_ret
          | with_reducible apply kt_exit
          | with_reducible apply kb_normal
          | with_reducible apply kb_ret
          | with_reducible apply kb_here
          | with_reducible apply kl_ret
          | with_reducible apply kl_exit
          | with_reducible apply kc_ret
          | with_reducible apply kc_exit
          | (with_reducible apply kb_there; (focus rfl))
        refine kl_normal (r - (k + 1)) _ (by omega) (Subl.cons (t := 0) (by decide) rfl (Subl.cons (t := 1) (by decide) rfl (Subl.cons (t := 2) (by decide) rfl (Subl.cons (t := 7) (by decide) rfl (Subl.cons (t := 8) (by decide) rfl (Subl.cons (t := 9) (by decide) rfl (Subl.nil _ _))))))) ?_
        exact ⟨k + 1, rfl, by omega, rfl, HX⟩
      · obtain rfl : k = r := by omega
        repeat first
          | apply d_seq
          | with_reducible apply kt_normal
          | apply l_nil
          | apply d_region
          | (apply l_off; (focus rfl); (focus rfl))
          | (apply l_val; (focus rfl); (focus rfl); (focus rfl); (focus (go_simp; (try simp (disch := omega) only [wrap_in, wrap_in', wrap_u16, wrap_u8, wrap_u32, wrap_u64, rem_in, quo_in]); first | done | with_reducible rfl | (constructor <;> with_reducible rfl))))
          | (apply l_store; (focus rfl); (focus rfl); (focus rfl); (focus (go_simp; (try simp (disch := omega) only [wrap_in, wrap_in', wrap_u16, wrap_u8, wrap_u32, wrap_u64, rem_in, quo_in]); first | done | with_reducible rfl | (constructor <;> with_reducible rfl))))
          | apply d_block
          | (apply d_true; (focus rfl); (focus rfl))
          | (apply d_false; (focus rfl); (focus rfl))
          | apply d_skip
          | apply d_exit
          | apply d_ret
          | with_reducible apply kt_ret
          | with_reducible apply kt_exit
          | with_reducible apply kb_normal
          | with_reducible apply kb_ret
          | with_reducible apply kb_here
          | with_reducible apply kl_ret
          | with_reducible apply kl_exit
          | with_reducible apply kc_ret
          | with_reducible apply kc_exit
          | (with_reducible apply kb_there; (focus rfl))
        refine kc_normal _ (Subl.cons (t := 0) (by decide) rfl (Subl.cons (t := 1) (by decide) rfl (Subl.cons (t := 2) (by decide) rfl (Subl.cons (t := 7) (by decide) rfl (Subl.cons (t := 8) (by decide) rfl (Subl.nil _ _)))))) ?_
        exact ⟨rfl, HX⟩
  clear HX
  obtain ⟨rfl, HX⟩ := hcut
  obtain ⟨r', rfl⟩ : ∃ r', r = r' + 1 := ⟨r - 1, by omega⟩
  obtain ⟨tl, htl, htlen, htm⟩ := seqk_cons r'
  have hsl : (seqk (r' + 1)).length = r' + 1 := seqk_len _
  have hnt : (999 : Int) ∉ tl := fun c => by have := htm _ c; omega
  have hnt0 : (0 : Int) ∉ tl := fun c => by have := htm _ c; omega
  have hrr : ((r' + 1 : Nat) : Int) - 1 = r' := by omega
  have hf0 : ∀ j, j ≠ z → updL none9 z (seqk (r' + 1)) j = [] := fun j hj => by rw [updL_other _ _ hj]; rfl
  have hfz : updL none9 z (seqk (r' + 1)) z = 0 :: tl := by rw [updL_same, htl]
  have hput := mkT_putF (r := ((r' + 1 : Nat) : Int)) (x := 999) hzn (notin999 hr64) (by rw [updL_same, hsl]; exact Int.le_refl _)
  have hnin := notin999 (n := n) (z := z) hr64
  have hzl : (0 :: tl).length = r' + 1 := by rw [List.length_cons, htlen]
  generalize updL none9 z (seqk (r' + 1)) = f at *
  have HPUT := Lib.hid hput
  have HF0 := Lib.hid hf0
  have HFZ := Lib.hid hfz
  have HTL := Lib.hid htl
  have HTM := Lib.hid htm
  have HSL := Lib.hid hsl
  have HNIN := Lib.hid hnin
  have HZL := Lib.hid hzl
  clear hput hf0 hfz htl htm hsl hnin hzl
  rcases (show z = 0 ∨ ∃ p : Nat, p + 1 = z from by rcases Nat.eq_zero_or_pos z with h | h; exact .inl h; exact .inr ⟨z - 1, by omega⟩) with h0 | ⟨p, hp⟩
  · have w7 : decide ((z : Int) > 0) = false := decide_eq_false (by omega)
    have w8 : decide (0 < (z : Int)) = false := decide_eq_false (by omega)
    have w9 : decide (0 < z) = false := decide_eq_false (by omega)
    have FZ := Lib.hid HFZ.out
    have FO : Hid (∀ j, j ≠ z → f j = []) := HF0
    have H0' := Lib.hid h0
    clear h0
    repeat first
      | apply d_seq
      | with_reducible apply kt_normal
      | apply l_nil
      | apply d_region
      | (apply l_off; (focus rfl); (focus rfl))
      | (apply l_val; (focus rfl); (focus rfl); (focus rfl); (focus (go_simp; (try simp (disch := omega) only [wrap_in, wrap_in', wrap_u16, wrap_u8, wrap_u32, wrap_u64, rem_in, quo_in]); first | done | with_reducible rfl | (constructor <;> with_reducible rfl))))
      | (apply l_store; (focus rfl); (focus rfl); (focus rfl); (focus (go_simp; (try simp (disch := omega) only [wrap_in, wrap_in', wrap_u16, wrap_u8, wrap_u32, wrap_u64, rem_in, quo_in]); first | done | with_reducible rfl | (constructor <;> with_reducible rfl))))
      | apply d_block
      | (apply d_true; (focus rfl); (focus rfl))
      | (apply d_false; (focus rfl); (focus rfl))
      | apply d_skip
      | apply d_exit
      | apply d_ret
      | with_reducible apply kt_ret
      | with_reducible apply kt_exit
      | with_reducible apply kb_normal
      | with_reducible apply kb_ret
      | with_reducible apply kb_here
      | with_reducible apply kl_ret
      | with_reducible apply kl_exit
      | with_reducible apply kc_ret
      | with_reducible apply kc_exit
      | (with_reducible apply kb_there; (focus rfl))
    have hc := put_has HX.out 0 t zb _ rfl 999 z
    rw [HPUT.out] at hc
    have HC := Lib.hid hc
    clear hc
    refine l_call rfl rfl rfl (by first | (go_simp; done) | (go_simp; rfl)) (HC.out) ?_
    rintro e w' ⟨rfl, hx⟩
    clear HX HC
    try simp only [List.nil_append, List.cons_append, List.set_cons_zero, List.set_cons_succ] at hx
    have HX := Lib.hid hx
    clear hx
    refine ⟨_, rfl, ?_⟩
    repeat first
      | apply d_seq
      | with_reducible apply kt_normal
      | apply l_nil
      | apply d_region
      | (apply l_off; (focus rfl); (focus rfl))
      | (apply l_val; (focus rfl); (focus rfl); (focus rfl); (focus (go_simp; (try simp (disch := omega) only [wrap_in, wrap_in', wrap_u16, wrap_u8, wrap_u32, wrap_u64, rem_in, quo_in]); first | done | with_reducible rfl | (constructor <;> with_reducible rfl))))
      | (apply l_store; (focus rfl); (focus rfl); (focus rfl); (focus (go_simp; (try simp (disch := omega) only [wrap_in, wrap_in', wrap_u16, wrap_u8, wrap_u32, wrap_u64, rem_in, quo_in]); first | done | with_reducible rfl | (constructor <;> with_reducible rfl))))
      | apply d_block
      | (apply d_true; (focus rfl); (focus rfl))
      | (apply d_false; (focus rfl); (focus rfl))
      | apply d_skip
      | apply d_exit
      | apply d_ret
      | with_reducible apply kt_ret
      | with_reducible apply kt_exit
      | with_reducible apply kb_normal
      | with_reducible apply kb_ret
      | with_reducible apply kb_here
      | with_reducible apply kl_ret
      | with_reducible apply kl_exit
      | with_reducible apply kc_ret
      | with_reducible apply kc_exit
      | (with_reducible apply kb_there; (focus rfl))
    rcases (by omega : z + 1 < n ∨ z + 1 = n) with hn' | hn'
    · have w1 : decide ((z : Int) < (n : Int) - 1) = true := decide_eq_true (by omega)
      have w2 : decide ((z : Int) + 1 < (n : Int)) = true := decide_eq_true (by omega)
      have w3 : decide (z + 1 < n) = true := decide_eq_true (by omega)
      have HN := Lib.hid hn'
      have FN : Hid (f (z + 1) = []) := Lib.hid (FO.out _ (by omega))
      clear hn'
      have hc := pass_has HX.out 0 t zb _ rfl z
      rw [mkT_passN HN.out (y := 0) (q := tl) FZ.out (by rw [FN.out]; show ((0 : Nat) : Int) < _; omega), FN.out] at hc
      have g1 : updL (updL f z tl) (z + 1) ([] ++ [0]) z = tl := by rw [updL_other _ _ (by omega), updL_same]
      have g2 : ∀ j, j ≠ z → j ≠ z + 1 → updL (updL f z tl) (z + 1) ([] ++ [0]) j = f j := fun j h1 h2 => by rw [updL_other _ _ h2, updL_other _ _ h1]
      have g3 : updL (updL f z tl) (z + 1) ([] ++ [0]) (z + 1) = [0] := by rw [updL_same]; rfl
      generalize updL (updL f z tl) (z + 1) ([] ++ [0]) = f2 at *
      have G1 := Lib.hid g1
      have G2 := Lib.hid g2
      have G3 := Lib.hid g3
      clear g1 g2 g3
      have HC := Lib.hid hc
      clear hc
      repeat first
        | apply d_seq
        | with_reducible apply kt_normal
        | apply l_nil
        | apply d_region
        | (apply l_off; (focus rfl); (focus rfl))
        | (apply l_val; (focus rfl); (focus rfl); (focus rfl); (focus (go_simp; (try simp (disch := omega) only [wrap_in, wrap_in', wrap_u16, wrap_u8, wrap_u32, wrap_u64, rem_in, quo_in]); first | done | with_reducible rfl | (constructor <;> with_reducible rfl))))
        | (apply l_store; (focus rfl); (focus rfl); (focus rfl); (focus (go_simp; (try simp (disch := omega) only [wrap_in, wrap_in', wrap_u16, wrap_u8, wrap_u32, wrap_u64, rem_in, quo_in]); first | done | with_reducible rfl | (constructor <;> with_reducible rfl))))
        | apply d_block
        | (apply d_true; (focus rfl); (focus rfl))
        | (apply d_false; (focus rfl); (focus rfl))
        | apply d_skip
        | apply d_exit
        | apply d_ret
        | with_reducible apply kt_ret
        | with_reducible apply kt_exit
        | with_reducible apply kb_normal
        | with_reducible apply kb_ret
        | with_reducible apply kb_here
        | with_reducible apply kl_ret
        | with_reducible apply kl_exit
        | with_reducible apply kc_ret
        | with_reducible apply kc_exit
        | (with_reducible apply kb_there; (focus rfl))
      refine l_call rfl rfl rfl (by first | (go_simp; done) | (go_simp; rfl)) (HC.out) ?_
      rintro e w' ⟨rfl, hx⟩
      clear HX
      try simp only [List.nil_append, List.cons_append, List.set_cons_zero, List.set_cons_succ] at hx
      have HX := Lib.hid hx
      clear hx
      refine ⟨_, rfl, ?_⟩
      repeat first
        | apply d_seq
        | with_reducible apply kt_normal
        | apply l_nil
        | apply d_region
        | (apply l_off; (focus rfl); (focus rfl))
        | (apply l_val; (focus rfl); (focus rfl); (focus rfl); (focus (go_simp; (try simp (disch := omega) only [wrap_in, wrap_in', wrap_u16, wrap_u8, wrap_u32, wrap_u64, rem_in, quo_in]); first | done | with_reducible rfl | (constructor <;> with_reducible rfl))))
        | (apply l_store; (focus rfl); (focus rfl); (focus rfl); (focus (go_simp; (try simp (disch := omega) only [wrap_in, wrap_in', wrap_u16, wrap_u8, wrap_u32, wrap_u64, rem_in, quo_in]); first | done | with_reducible rfl | (constructor <;> with_reducible rfl))))
        | apply d_block
        | (apply d_true; (focus rfl); (focus rfl))
        | (apply d_false; (focus rfl); (focus rfl))
        | apply d_skip
        | apply d_exit
        | apply d_ret
        | with_reducible apply kt_ret
        | with_reducible apply kt_exit
        | with_reducible apply kb_normal
        | with_reducible apply kb_ret
        | with_reducible apply kb_here
        | with_reducible apply kl_ret
        | with_reducible apply kl_exit
        | with_reducible apply kc_ret
        | with_reducible apply kc_exit
        | (with_reducible apply kb_there; (focus rfl))
      have hc := len_has HX.out 0 t zb _ rfl z
      rw [mkT_rowZ hzn, G1.out, htlen] at hc
      have HC := Lib.hid hc
      clear hc
      refine l_call rfl rfl rfl (by first | (go_simp; done) | (go_simp; rfl)) (HC.out) ?_
      rintro e w' ⟨rfl, hx⟩
      clear HX HC
      try simp only [List.nil_append, List.cons_append, List.set_cons_zero, List.set_cons_succ] at hx
      have HX := Lib.hid hx
      clear hx
      refine ⟨_, rfl, ?_⟩
      repeat first
        | apply d_seq
        | with_reducible apply kt_normal
        | apply l_nil
        | apply d_region
        | (apply l_off; (focus rfl); (focus rfl))
        | (apply l_val; (focus rfl); (focus rfl); (focus rfl); (focus (go_simp; (try simp (disch := omega) only [wrap_in, wrap_in', wrap_u16, wrap_u8, wrap_u32, wrap_u64, rem_in, quo_in]); first | done | with_reducible rfl | (constructor <;> with_reducible rfl))))
        | (apply l_store; (focus rfl); (focus rfl); (focus rfl); (focus (go_simp; (try simp (disch := omega) only [wrap_in, wrap_in', wrap_u16, wrap_u8, wrap_u32, wrap_u64, rem_in, quo_in]); first | done | with_reducible rfl | (constructor <;> with_reducible rfl))))
        | apply d_block
        | (apply d_true; (focus rfl); (focus rfl))
        | (apply d_false; (focus rfl); (focus rfl))
        | apply d_skip
        | apply d_exit
        | apply d_ret
        | with_reducible apply kt_ret
        | with_reducible apply kt_exit
        | with_reducible apply kb_normal
        | with_reducible apply kb_ret
        | with_reducible apply kb_here
        | with_reducible apply kl_ret
        | with_reducible apply kl_exit
        | with_reducible apply kc_ret
        | with_reducible apply kc_exit
        | (with_reducible apply kb_there; (focus rfl))
      have hc := where_has HX.out 0 t zb _ rfl 0
      rw [mkT_whereS (i := z + 1) HN.out (by rw [G3.out]; simp) (fun j hj => by by_cases e2 : j = z; (rw [e2, G1.out]; exact hnt0); (rw [G2.out j e2 (by have := HN.out; omega), FO.out j e2]; simp)), show ((z + 1 : Nat) : Int) = (z : Int) + 1 from rfl] at hc
      have HC := Lib.hid hc
      clear hc
      refine l_call rfl rfl rfl (by first | (go_simp; done) | (go_simp; rfl)) (HC.out) ?_
      rintro e w' ⟨rfl, hx⟩
      clear HX HC
      try simp only [List.nil_append, List.cons_append, List.set_cons_zero, List.set_cons_succ] at hx
      have HX := Lib.hid hx
      clear hx
      refine ⟨_, rfl, ?_⟩
      repeat first
        | apply d_seq
        | with_reducible apply kt_normal
        | apply l_nil
        | apply d_region
        | (apply l_off; (focus rfl); (focus rfl))
        | (apply l_val; (focus rfl); (focus rfl); (focus rfl); (focus (go_simp; (try simp (disch := omega) only [wrap_in, wrap_in', wrap_u16, wrap_u8, wrap_u32, wrap_u64, rem_in, quo_in]); first | done | with_reducible rfl | (constructor <;> with_reducible rfl))))
        | (apply l_store; (focus rfl); (focus rfl); (focus rfl); (focus (go_simp; (try simp (disch := omega) only [wrap_in, wrap_in', wrap_u16, wrap_u8, wrap_u32, wrap_u64, rem_in, quo_in]); first | done | with_reducible rfl | (constructor <;> with_reducible rfl))))
        | apply d_block
        | (apply d_true; (focus rfl); (focus rfl))
        | (apply d_false; (focus rfl); (focus rfl))
        | apply d_skip
        | apply d_exit
        | apply d_ret
        | with_reducible apply kt_ret
        | with_reducible apply kt_exit
        | with_reducible apply kb_normal
        | with_reducible apply kb_ret
        | with_reducible apply kb_here
        | with_reducible apply kl_ret
        | with_reducible apply kl_exit
        | with_reducible apply kc_ret
        | with_reducible apply kc_exit
        | (with_reducible apply kb_there; (focus rfl))
      refine ⟨rfl, _, (by first | (simp [resultsG, resOne, Try.results8, rho, List.lookup]; done) | (simp [resultsG, resOne, Try.results8, rho, List.lookup]; rfl)), ?_⟩
      exact ⟨rfl, HX.out.old⟩
    · have w1 : decide ((z : Int) < (n : Int) - 1) = false := decide_eq_false (by omega)
      have w2 : decide ((z : Int) + 1 < (n : Int)) = false := decide_eq_false (by omega)
      have w3 : decide (z + 1 < n) = false := decide_eq_false (by omega)
      have HN := Lib.hid hn'
      clear hn'
      have hc := pass_has HX.out 0 t zb _ rfl z
      rw [mkT_passL HN.out (y := 0) (q := tl) FZ.out] at hc
      have g1 : updL f z tl z = tl := updL_same _ _ _
      have g2 : ∀ j, j ≠ z → j ≠ z + 1 → updL f z tl j = f j := fun j h1 h2 => by rw [updL_other _ _ h1]
      have g3 : True := trivial
      generalize updL f z tl = f2 at *
      have G1 := Lib.hid g1
      have G2 := Lib.hid g2
      have G3 := Lib.hid g3
      clear g1 g2 g3
      have HC := Lib.hid hc
      clear hc
      repeat first
        | apply d_seq
        | with_reducible apply kt_normal
        | apply l_nil
        | apply d_region
        | (apply l_off; (focus rfl); (focus rfl))
        | (apply l_val; (focus rfl); (focus rfl); (focus rfl); (focus (go_simp; (try simp (disch := omega) only [wrap_in, wrap_in', wrap_u16, wrap_u8, wrap_u32, wrap_u64, rem_in, quo_in]); first | done | with_reducible rfl | (constructor <;> with_reducible rfl))))
        | (apply l_store; (focus rfl); (focus rfl); (focus rfl); (focus (go_simp; (try simp (disch := omega) only [wrap_in, wrap_in', wrap_u16, wrap_u8, wrap_u32, wrap_u64, rem_in, quo_in]); first | done | with_reducible rfl | (constructor <;> with_reducible rfl))))
        | apply d_block
        | (apply d_true; (focus rfl); (focus rfl))
        | (apply d_false; (focus rfl); (focus rfl))
        | apply d_skip
        | apply d_exit
        | apply d_ret
        | with_reducible apply kt_ret
        | with_reducible apply kt_exit
        | with_reducible apply kb_normal
        | with_reducible apply kb_ret
        | with_reducible apply kb_here
        | with_reducible apply kl_ret
        | with_reducible apply kl_exit
        | with_reducible apply kc_ret
        | with_reducible apply kc_exit
        | (with_reducible apply kb_there; (focus rfl))
      refine l_call rfl rfl rfl (by first | (go_simp; done) | (go_simp; rfl)) (HC.out) ?_
      rintro e w' ⟨rfl, hx⟩
      clear HX
      try simp only [List.nil_append, List.cons_append, List.set_cons_zero, List.set_cons_succ] at hx
      have HX := Lib.hid hx
      clear hx
      refine ⟨_, rfl, ?_⟩
      repeat first
        | apply d_seq
        | with_reducible apply kt_normal
        | apply l_nil
        | apply d_region
        | (apply l_off; (focus rfl); (focus rfl))
        | (apply l_val; (focus rfl); (focus rfl); (focus rfl); (focus (go_simp; (try simp (disch := omega) only [wrap_in, wrap_in', wrap_u16, wrap_u8, wrap_u32, wrap_u64, rem_in, quo_in]); first | done | with_reducible rfl | (constructor <;> with_reducible rfl))))
        | (apply l_store; (focus rfl); (focus rfl); (focus rfl); (focus (go_simp; (try simp (disch := omega) only [wrap_in, wrap_in', wrap_u16, wrap_u8, wrap_u32, wrap_u64, rem_in, quo_in]); first | done | with_reducible rfl | (constructor <;> with_reducible rfl))))
        | apply d_block
        | (apply d_true; (focus rfl); (focus rfl))
        | (apply d_false; (focus rfl); (focus rfl))
        | apply d_skip
        | apply d_exit
        | apply d_ret
        | with_reducible apply kt_ret
        | with_reducible apply kt_exit
        | with_reducible apply kb_normal
        | with_reducible apply kb_ret
        | with_reducible apply kb_here
        | with_reducible apply kl_ret
        | with_reducible apply kl_exit
        | with_reducible apply kc_ret
        | with_reducible apply kc_exit
        | (with_reducible apply kb_there; (focus rfl))
      have hc := len_has HX.out 0 t zb _ rfl z
      rw [mkT_rowZ hzn, G1.out, htlen] at hc
      have HC := Lib.hid hc
      clear hc
      refine l_call rfl rfl rfl (by first | (go_simp; done) | (go_simp; rfl)) (HC.out) ?_
      rintro e w' ⟨rfl, hx⟩
      clear HX HC
      try simp only [List.nil_append, List.cons_append, List.set_cons_zero, List.set_cons_succ] at hx
      have HX := Lib.hid hx
      clear hx
      refine ⟨_, rfl, ?_⟩
      repeat first
        | apply d_seq
        | with_reducible apply kt_normal
        | apply l_nil
        | apply d_region
        | (apply l_off; (focus rfl); (focus rfl))
        | (apply l_val; (focus rfl); (focus rfl); (focus rfl); (focus (go_simp; (try simp (disch := omega) only [wrap_in, wrap_in', wrap_u16, wrap_u8, wrap_u32, wrap_u64, rem_in, quo_in]); first | done | with_reducible rfl | (constructor <;> with_reducible rfl))))
        | (apply l_store; (focus rfl); (focus rfl); (focus rfl); (focus (go_simp; (try simp (disch := omega) only [wrap_in, wrap_in', wrap_u16, wrap_u8, wrap_u32, wrap_u64, rem_in, quo_in]); first | done | with_reducible rfl | (constructor <;> with_reducible rfl))))
        | apply d_block
        | (apply d_true; (focus rfl); (focus rfl))
        | (apply d_false; (focus rfl); (focus rfl))
        | apply d_skip
        | apply d_exit
        | apply d_ret
        | with_reducible apply kt_ret
        | with_reducible apply kt_exit
        | with_reducible apply kb_normal
        | with_reducible apply kb_ret
        | with_reducible apply kb_here
        | with_reducible apply kl_ret
        | with_reducible apply kl_exit
        | with_reducible apply kc_ret
        | with_reducible apply kc_exit
        | (with_reducible apply kb_there; (focus rfl))
      have hc := where_has HX.out 0 t zb _ rfl 0
      rw [mkT_whereN (fun j hj => by by_cases e2 : j = z; (rw [e2, G1.out]; exact hnt0); (rw [G2.out j e2 (by have := HN.out; omega), FO.out j e2]; simp))] at hc
      have HC := Lib.hid hc
      clear hc
      refine l_call rfl rfl rfl (by first | (go_simp; done) | (go_simp; rfl)) (HC.out) ?_
      rintro e w' ⟨rfl, hx⟩
      clear HX HC
      try simp only [List.nil_append, List.cons_append, List.set_cons_zero, List.set_cons_succ] at hx
      have HX := Lib.hid hx
      clear hx
      refine ⟨_, rfl, ?_⟩
      repeat first
        | apply d_seq
        | with_reducible apply kt_normal
        | apply l_nil
        | apply d_region
        | (apply l_off; (focus rfl); (focus rfl))
        | (apply l_val; (focus rfl); (focus rfl); (focus rfl); (focus (go_simp; (try simp (disch := omega) only [wrap_in, wrap_in', wrap_u16, wrap_u8, wrap_u32, wrap_u64, rem_in, quo_in]); first | done | with_reducible rfl | (constructor <;> with_reducible rfl))))
        | (apply l_store; (focus rfl); (focus rfl); (focus rfl); (focus (go_simp; (try simp (disch := omega) only [wrap_in, wrap_in', wrap_u16, wrap_u8, wrap_u32, wrap_u64, rem_in, quo_in]); first | done | with_reducible rfl | (constructor <;> with_reducible rfl))))
        | apply d_block
        | (apply d_true; (focus rfl); (focus rfl))
        | (apply d_false; (focus rfl); (focus rfl))
        | apply d_skip
        | apply d_exit
        | apply d_ret
        | with_reducible apply kt_ret
        | with_reducible apply kt_exit
        | with_reducible apply kb_normal
        | with_reducible apply kb_ret
        | with_reducible apply kb_here
        | with_reducible apply kl_ret
        | with_reducible apply kl_exit
        | with_reducible apply kc_ret
        | with_reducible apply kc_exit
        | (with_reducible apply kb_there; (focus rfl))
      refine ⟨rfl, _, (by first | (simp [resultsG, resOne, Try.results8, rho, List.lookup]; done) | (simp [resultsG, resOne, Try.results8, rho, List.lookup]; rfl)), ?_⟩
      exact ⟨rfl, HX.out.old⟩
  · have w7 : decide ((z : Int) > 0) = true := decide_eq_true (by omega)
    have w8 : decide (0 < (z : Int)) = true := decide_eq_true (by omega)
    have w9 : decide (0 < z) = true := decide_eq_true (by omega)
    have hzi : (z : Int) - 1 = p := by omega
    have hpn : p < n := by omega
    have hp8 : (p : Int) ≤ 8 := by omega
    have hp1 := Lib.hid hp
    clear hp
    repeat first
      | apply d_seq
      | with_reducible apply kt_normal
      | apply l_nil
      | apply d_region
      | (apply l_off; (focus rfl); (focus rfl))
      | (apply l_val; (focus rfl); (focus rfl); (focus rfl); (focus (go_simp; (try simp (disch := omega) only [wrap_in, wrap_in', wrap_u16, wrap_u8, wrap_u32, wrap_u64, rem_in, quo_in]); first | done | with_reducible rfl | (constructor <;> with_reducible rfl))))
      | (apply l_store; (focus rfl); (focus rfl); (focus rfl); (focus (go_simp; (try simp (disch := omega) only [wrap_in, wrap_in', wrap_u16, wrap_u8, wrap_u32, wrap_u64, rem_in, quo_in]); first | done | with_reducible rfl | (constructor <;> with_reducible rfl))))
      | apply d_block
      | (apply d_true; (focus rfl); (focus rfl))
      | (apply d_false; (focus rfl); (focus rfl))
      | apply d_skip
      | apply d_exit
      | apply d_ret
      | with_reducible apply kt_ret
      | with_reducible apply kt_exit
      | with_reducible apply kb_normal
      | with_reducible apply kb_ret
      | with_reducible apply kb_here
      | with_reducible apply kl_ret
      | with_reducible apply kl_exit
      | with_reducible apply kc_ret
      | with_reducible apply kc_exit
      | (with_reducible apply kb_there; (focus rfl))
    have hc := put_has HX.out 0 t zb _ rfl 999 z
    rw [HPUT.out] at hc
    have HC := Lib.hid hc
    clear hc
    refine l_call rfl rfl rfl (by first | (go_simp; done) | (go_simp; rfl)) (HC.out) ?_
    rintro e w' ⟨rfl, hx⟩
    clear HX HC
    try simp only [List.nil_append, List.cons_append, List.set_cons_zero, List.set_cons_succ] at hx
    have HX := Lib.hid hx
    clear hx
    refine ⟨_, rfl, ?_⟩
    repeat first
      | apply d_seq
      | with_reducible apply kt_normal
      | apply l_nil
      | apply d_region
      | (apply l_off; (focus rfl); (focus rfl))
      | (apply l_val; (focus rfl); (focus rfl); (focus rfl); (focus (go_simp; (try simp (disch := omega) only [wrap_in, wrap_in', wrap_u16, wrap_u8, wrap_u32, wrap_u64, rem_in, quo_in]); first | done | with_reducible rfl | (constructor <;> with_reducible rfl))))
      | (apply l_store; (focus rfl); (focus rfl); (focus rfl); (focus (go_simp; (try simp (disch := omega) only [wrap_in, wrap_in', wrap_u16, wrap_u8, wrap_u32, wrap_u64, rem_in, quo_in]); first | done | with_reducible rfl | (constructor <;> with_reducible rfl))))
      | apply d_block
      | (apply d_true; (focus rfl); (focus rfl))
      | (apply d_false; (focus rfl); (focus rfl))
      | apply d_skip
      | apply d_exit
      | apply d_ret
      | with_reducible apply kt_ret
      | with_reducible apply kt_exit
      | with_reducible apply kb_normal
      | with_reducible apply kb_ret
      | with_reducible apply kb_here
      | with_reducible apply kl_ret
      | with_reducible apply kl_exit
      | with_reducible apply kc_ret
      | with_reducible apply kc_exit
      | (with_reducible apply kb_there; (focus rfl))
    have hp := hp1.out
    have hc := put_has HX.out 0 t zb _ rfl 999 p
    rw [mkT_put hpn HNIN.out (by rw [HF0.out p (by omega)]; show ((0 : Nat) : Int) < _; omega), HF0.out p (by omega)] at hc
    have FZ : Hid (updL f p ([] ++ [999]) z = 0 :: tl) := Lib.hid (by rw [updL_other _ _ (by omega)]; exact HFZ.out)
    have FP : Hid (updL f p ([] ++ [999]) p = [999]) := Lib.hid (by rw [updL_same]; rfl)
    have FO : Hid (∀ j, j ≠ z → j ≠ p → updL f p ([] ++ [999]) j = []) := Lib.hid (fun j h1 h2 => by rw [updL_other _ _ h2]; exact HF0.out j h1)
    clear HPUT HF0 HFZ HNIN
    generalize updL f p ([] ++ [999]) = f at *
    have HC := Lib.hid hc
    clear hc
    clear hp
    repeat first
      | apply d_seq
      | with_reducible apply kt_normal
      | apply l_nil
      | apply d_region
      | (apply l_off; (focus rfl); (focus rfl))
      | (apply l_val; (focus rfl); (focus rfl); (focus rfl); (focus (go_simp; (try simp (disch := omega) only [wrap_in, wrap_in', wrap_u16, wrap_u8, wrap_u32, wrap_u64, rem_in, quo_in]); first | done | with_reducible rfl | (constructor <;> with_reducible rfl))))
      | (apply l_store; (focus rfl); (focus rfl); (focus rfl); (focus (go_simp; (try simp (disch := omega) only [wrap_in, wrap_in', wrap_u16, wrap_u8, wrap_u32, wrap_u64, rem_in, quo_in]); first | done | with_reducible rfl | (constructor <;> with_reducible rfl))))
      | apply d_block
      | (apply d_true; (focus rfl); (focus rfl))
      | (apply d_false; (focus rfl); (focus rfl))
      | apply d_skip
      | apply d_exit
      | apply d_ret
      | with_reducible apply kt_ret
      | with_reducible apply kt_exit
      | with_reducible apply kb_normal
      | with_reducible apply kb_ret
      | with_reducible apply kb_here
      | with_reducible apply kl_ret
      | with_reducible apply kl_exit
      | with_reducible apply kc_ret
      | with_reducible apply kc_exit
      | (with_reducible apply kb_there; (focus rfl))
    refine l_call rfl rfl rfl (by first | (go_simp; done) | (go_simp; rfl)) (HC.out) ?_
    rintro e w' ⟨rfl, hx⟩
    clear HX
    try simp only [List.nil_append, List.cons_append, List.set_cons_zero, List.set_cons_succ] at hx
    have HX := Lib.hid hx
    clear hx
    refine ⟨_, rfl, ?_⟩
    repeat first
      | apply d_seq
      | with_reducible apply kt_normal
      | apply l_nil
      | apply d_region
      | (apply l_off; (focus rfl); (focus rfl))
      | (apply l_val; (focus rfl); (focus rfl); (focus rfl); (focus (go_simp; (try simp (disch := omega) only [wrap_in, wrap_in', wrap_u16, wrap_u8, wrap_u32, wrap_u64, rem_in, quo_in]); first | done | with_reducible rfl | (constructor <;> with_reducible rfl))))
      | (apply l_store; (focus rfl); (focus rfl); (focus rfl); (focus (go_simp; (try simp (disch := omega) only [wrap_in, wrap_in', wrap_u16, wrap_u8, wrap_u32, wrap_u64, rem_in, quo_in]); first | done | with_reducible rfl | (constructor <;> with_reducible rfl))))
      | apply d_block
      | (apply d_true; (focus rfl); (focus rfl))
      | (apply d_false; (focus rfl); (focus rfl))
      | apply d_skip
      | apply d_exit
      | apply d_ret
      | with_reducible apply kt_ret
      | with_reducible apply kt_exit
      | with_reducible apply kb_normal
      | with_reducible apply kb_ret
      | with_reducible apply kb_here
      | with_reducible apply kl_ret
      | with_reducible apply kl_exit
      | with_reducible apply kc_ret
      | with_reducible apply kc_exit
      | (with_reducible apply kb_there; (focus rfl))
    have hp := hp1.out
    clear HC
    have hc := pass_has HX.out 0 t zb _ rfl p
    rw [mkT_passF (show p + 1 < n by omega) (y := 999) (q := []) FP.out (by rw [hp, FZ.out, HZL.out]; exact Int.le_refl _)] at hc
    have hw := mkT_whereS (f := f) (r := ((r' + 1 : Nat) : Int)) (x := 999) hpn (by rw [FP.out]; simp) (fun j hj => by rw [FO.out j (by omega) (by omega)]; simp)
    have HC := Lib.hid hc
    have HW := Lib.hid hw
    clear hc hw
    clear hp
    refine l_call rfl rfl rfl (by first | (go_simp; done) | (go_simp; rfl)) (HC.out) ?_
    rintro e w' ⟨rfl, hx⟩
    clear HX
    try simp only [List.nil_append, List.cons_append, List.set_cons_zero, List.set_cons_succ] at hx
    have HX := Lib.hid hx
    clear hx
    refine ⟨_, rfl, ?_⟩
    repeat first
      | apply d_seq
      | with_reducible apply kt_normal
      | apply l_nil
      | apply d_region
      | (apply l_off; (focus rfl); (focus rfl))
      | (apply l_val; (focus rfl); (focus rfl); (focus rfl); (focus (go_simp; (try simp (disch := omega) only [wrap_in, wrap_in', wrap_u16, wrap_u8, wrap_u32, wrap_u64, rem_in, quo_in]); first | done | with_reducible rfl | (constructor <;> with_reducible rfl))))
      | (apply l_store; (focus rfl); (focus rfl); (focus rfl); (focus (go_simp; (try simp (disch := omega) only [wrap_in, wrap_in', wrap_u16, wrap_u8, wrap_u32, wrap_u64, rem_in, quo_in]); first | done | with_reducible rfl | (constructor <;> with_reducible rfl))))
      | apply d_block
      | (apply d_true; (focus rfl); (focus rfl))
      | (apply d_false; (focus rfl); (focus rfl))
      | apply d_skip
      | apply d_exit
      | apply d_ret
      | with_reducible apply kt_ret
      | with_reducible apply kt_exit
      | with_reducible apply kb_normal
      | with_reducible apply kb_ret
      | with_reducible apply kb_here
      | with_reducible apply kl_ret
      | with_reducible apply kl_exit
      | with_reducible apply kc_ret
      | with_reducible apply kc_exit
      | (with_reducible apply kb_there; (focus rfl))
    have hc := where_has HX.out 0 t zb _ rfl 999
    rw [HW.out] at hc
    have HC := Lib.hid hc
    clear hc
    refine l_call rfl rfl rfl (by first | (go_simp; done) | (go_simp; rfl)) (HC.out) ?_
    rintro e w' ⟨rfl, hx⟩
    clear HX HC
    try simp only [List.nil_append, List.cons_append, List.set_cons_zero, List.set_cons_succ] at hx
    have HX := Lib.hid hx
    clear hx
    refine ⟨_, rfl, ?_⟩
    repeat first
      | apply d_seq
      | with_reducible apply kt_normal
      | apply l_nil
      | apply d_region
      | (apply l_off; (focus rfl); (focus rfl))
      | (apply l_val; (focus rfl); (focus rfl); (focus rfl); (focus (go_simp; (try simp (disch := omega) only [wrap_in, wrap_in', wrap_u16, wrap_u8, wrap_u32, wrap_u64, rem_in, quo_in]); first | done | with_reducible rfl | (constructor <;> with_reducible rfl))))
      | (apply l_store; (focus rfl); (focus rfl); (focus rfl); (focus (go_simp; (try simp (disch := omega) only [wrap_in, wrap_in', wrap_u16, wrap_u8, wrap_u32, wrap_u64, rem_in, quo_in]); first | done | with_reducible rfl | (constructor <;> with_reducible rfl))))
      | apply d_block
      | (apply d_true; (focus rfl); (focus rfl))
      | (apply d_false; (focus rfl); (focus rfl))
      | apply d_skip
      | apply d_exit
      | apply d_ret
      | with_reducible apply kt_ret
      | with_reducible apply kt_exit
      | with_reducible apply kb_normal
      | with_reducible apply kb_ret
      | with_reducible apply kb_here
      | with_reducible apply kl_ret
      | with_reducible apply kl_exit
      | with_reducible apply kc_ret
      | with_reducible apply kc_exit
      | (with_reducible apply kb_there; (focus rfl))
    clear HC
    have hp := hp1.out
    rcases (by omega : z + 1 < n ∨ z + 1 = n) with hn' | hn'
    · have w1 : decide ((z : Int) < (n : Int) - 1) = true := decide_eq_true (by omega)
      have w2 : decide ((z : Int) + 1 < (n : Int)) = true := decide_eq_true (by omega)
      have w3 : decide (z + 1 < n) = true := decide_eq_true (by omega)
      have HN := Lib.hid hn'
      have FN : Hid (f (z + 1) = []) := Lib.hid (FO.out _ (by omega) (by omega))
      clear hn'
      have hc := pass_has HX.out 0 t zb _ rfl z
      rw [mkT_passN HN.out (y := 0) (q := tl) FZ.out (by rw [FN.out]; show ((0 : Nat) : Int) < _; omega), FN.out] at hc
      have g1 : updL (updL f z tl) (z + 1) ([] ++ [0]) z = tl := by rw [updL_other _ _ (by omega), updL_same]
      have g2 : ∀ j, j ≠ z → j ≠ z + 1 → updL (updL f z tl) (z + 1) ([] ++ [0]) j = f j := fun j h1 h2 => by rw [updL_other _ _ h2, updL_other _ _ h1]
      have g3 : updL (updL f z tl) (z + 1) ([] ++ [0]) (z + 1) = [0] := by rw [updL_same]; rfl
      generalize updL (updL f z tl) (z + 1) ([] ++ [0]) = f2 at *
      have G1 := Lib.hid g1
      have G2 := Lib.hid g2
      have G3 := Lib.hid g3
      clear g1 g2 g3
      have HC := Lib.hid hc
      clear hc
      repeat first
        | apply d_seq
        | with_reducible apply kt_normal
        | apply l_nil
        | apply d_region
        | (apply l_off; (focus rfl); (focus rfl))
        | (apply l_val; (focus rfl); (focus rfl); (focus rfl); (focus (go_simp; (try simp (disch := omega) only [wrap_in, wrap_in', wrap_u16, wrap_u8, wrap_u32, wrap_u64, rem_in, quo_in]); first | done | with_reducible rfl | (constructor <;> with_reducible rfl))))
        | (apply l_store; (focus rfl); (focus rfl); (focus rfl); (focus (go_simp; (try simp (disch := omega) only [wrap_in, wrap_in', wrap_u16, wrap_u8, wrap_u32, wrap_u64, rem_in, quo_in]); first | done | with_reducible rfl | (constructor <;> with_reducible rfl))))
        | apply d_block
        | (apply d_true; (focus rfl); (focus rfl))
        | (apply d_false; (focus rfl); (focus rfl))
        | apply d_skip
        | apply d_exit
        | apply d_ret
        | with_reducible apply kt_ret
        | with_reducible apply kt_exit
        | with_reducible apply kb_normal
        | with_reducible apply kb_ret
        | with_reducible apply kb_here
        | with_reducible apply kl_ret
        | with_reducible apply kl_exit
        | with_reducible apply kc_ret
        | with_reducible apply kc_exit
        | (with_reducible apply kb_there; (focus rfl))
      refine l_call rfl rfl rfl (by first | (go_simp; done) | (go_simp; rfl)) (HC.out) ?_
      rintro e w' ⟨rfl, hx⟩
      clear HX
      try simp only [List.nil_append, List.cons_append, List.set_cons_zero, List.set_cons_succ] at hx
      have HX := Lib.hid hx
      clear hx
      refine ⟨_, rfl, ?_⟩
      repeat first
        | apply d_seq
        | with_reducible apply kt_normal
        | apply l_nil
        | apply d_region
        | (apply l_off; (focus rfl); (focus rfl))
        | (apply l_val; (focus rfl); (focus rfl); (focus rfl); (focus (go_simp; (try simp (disch := omega) only [wrap_in, wrap_in', wrap_u16, wrap_u8, wrap_u32, wrap_u64, rem_in, quo_in]); first | done | with_reducible rfl | (constructor <;> with_reducible rfl))))
        | (apply l_store; (focus rfl); (focus rfl); (focus rfl); (focus (go_simp; (try simp (disch := omega) only [wrap_in, wrap_in', wrap_u16, wrap_u8, wrap_u32, wrap_u64, rem_in, quo_in]); first | done | with_reducible rfl | (constructor <;> with_reducible rfl))))
        | apply d_block
        | (apply d_true; (focus rfl); (focus rfl))
        | (apply d_false; (focus rfl); (focus rfl))
        | apply d_skip
        | apply d_exit
        | apply d_ret
        | with_reducible apply kt_ret
        | with_reducible apply kt_exit
        | with_reducible apply kb_normal
        | with_reducible apply kb_ret
        | with_reducible apply kb_here
        | with_reducible apply kl_ret
        | with_reducible apply kl_exit
        | with_reducible apply kc_ret
        | with_reducible apply kc_exit
        | (with_reducible apply kb_there; (focus rfl))
      have hc := len_has HX.out 0 t zb _ rfl z
      rw [mkT_rowZ hzn, G1.out, htlen] at hc
      have HC := Lib.hid hc
      clear hc
      refine l_call rfl rfl rfl (by first | (go_simp; done) | (go_simp; rfl)) (HC.out) ?_
      rintro e w' ⟨rfl, hx⟩
      clear HX HC
      try simp only [List.nil_append, List.cons_append, List.set_cons_zero, List.set_cons_succ] at hx
      have HX := Lib.hid hx
      clear hx
      refine ⟨_, rfl, ?_⟩
      repeat first
        | apply d_seq
        | with_reducible apply kt_normal
        | apply l_nil
        | apply d_region
        | (apply l_off; (focus rfl); (focus rfl))
        | (apply l_val; (focus rfl); (focus rfl); (focus rfl); (focus (go_simp; (try simp (disch := omega) only [wrap_in, wrap_in', wrap_u16, wrap_u8, wrap_u32, wrap_u64, rem_in, quo_in]); first | done | with_reducible rfl | (constructor <;> with_reducible rfl))))
        | (apply l_store; (focus rfl); (focus rfl); (focus rfl); (focus (go_simp; (try simp (disch := omega) only [wrap_in, wrap_in', wrap_u16, wrap_u8, wrap_u32, wrap_u64, rem_in, quo_in]); first | done | with_reducible rfl | (constructor <;> with_reducible rfl))))
        | apply d_block
        | (apply d_true; (focus rfl); (focus rfl))
        | (apply d_false; (focus rfl); (focus rfl))
        | apply d_skip
        | apply d_exit
        | apply d_ret
        | with_reducible apply kt_ret
        | with_reducible apply kt_exit
        | with_reducible apply kb_normal
        | with_reducible apply kb_ret
        | with_reducible apply kb_here
        | with_reducible apply kl_ret
        | with_reducible apply kl_exit
        | with_reducible apply kc_ret
        | with_reducible apply kc_exit
        | (with_reducible apply kb_there; (focus rfl))
      have hc := pass_has HX.out 0 t zb _ rfl p
      rw [mkT_passN (show p + 1 < n by omega) (y := 999) (q := []) (by rw [G2.out p (by omega) (by omega)]; exact FP.out) (by rw [hp, G1.out, htlen]; omega), hp, G1.out] at hc
      have g1 : updL (updL f2 p []) z (tl ++ [999]) z = tl ++ [999] := updL_same _ _ _
      have g2 : ∀ j, j ≠ z → j ≠ p → updL (updL f2 p []) z (tl ++ [999]) j = f2 j := fun j h1 h2 => by rw [updL_other _ _ h1, updL_other _ _ h2]
      have g3 : updL (updL f2 p []) z (tl ++ [999]) p = [] := by rw [updL_other _ _ (by omega), updL_same]
      generalize updL (updL f2 p []) z (tl ++ [999]) = f3 at *
      have K1 := Lib.hid g1
      have K2 := Lib.hid g2
      have K3 := Lib.hid g3
      clear g1 g2 g3
      clear HC
      have HC := Lib.hid hc
      clear hc
      refine l_call rfl rfl rfl (by first | (go_simp; done) | (go_simp; rfl)) (HC.out) ?_
      rintro e w' ⟨rfl, hx⟩
      clear HX
      try simp only [List.nil_append, List.cons_append, List.set_cons_zero, List.set_cons_succ] at hx
      have HX := Lib.hid hx
      clear hx
      refine ⟨_, rfl, ?_⟩
      repeat first
        | apply d_seq
        | with_reducible apply kt_normal
        | apply l_nil
        | apply d_region
        | (apply l_off; (focus rfl); (focus rfl))
        | (apply l_val; (focus rfl); (focus rfl); (focus rfl); (focus (go_simp; (try simp (disch := omega) only [wrap_in, wrap_in', wrap_u16, wrap_u8, wrap_u32, wrap_u64, rem_in, quo_in]); first | done | with_reducible rfl | (constructor <;> with_reducible rfl))))
        | (apply l_store; (focus rfl); (focus rfl); (focus rfl); (focus (go_simp; (try simp (disch := omega) only [wrap_in, wrap_in', wrap_u16, wrap_u8, wrap_u32, wrap_u64, rem_in, quo_in]); first | done | with_reducible rfl | (constructor <;> with_reducible rfl))))
        | apply d_block
        | (apply d_true; (focus rfl); (focus rfl))
        | (apply d_false; (focus rfl); (focus rfl))
        | apply d_skip
        | apply d_exit
        | apply d_ret
        | with_reducible apply kt_ret
        | with_reducible apply kt_exit
        | with_reducible apply kb_normal
        | with_reducible apply kb_ret
        | with_reducible apply kb_here
        | with_reducible apply kl_ret
        | with_reducible apply kl_exit
        | with_reducible apply kc_ret
        | with_reducible apply kc_exit
        | (with_reducible apply kb_there; (focus rfl))
      have hc := where_has HX.out 0 t zb _ rfl 999
      rw [mkT_whereS (i := z) hzn (by rw [K1.out]; simp) (fun j hj => by by_cases e : j = p; (rw [e, K3.out]; simp); (rw [K2.out j (by omega) e, G2.out j (by omega) (by omega), FO.out j (by omega) e]; simp))] at hc
      have HC := Lib.hid hc
      clear hc
      refine l_call rfl rfl rfl (by first | (go_simp; done) | (go_simp; rfl)) (HC.out) ?_
      rintro e w' ⟨rfl, hx⟩
      clear HX HC
      try simp only [List.nil_append, List.cons_append, List.set_cons_zero, List.set_cons_succ] at hx
      have HX := Lib.hid hx
      clear hx
      refine ⟨_, rfl, ?_⟩
      repeat first
        | apply d_seq
        | with_reducible apply kt_normal
        | apply l_nil
        | apply d_region
        | (apply l_off; (focus rfl); (focus rfl))
        | (apply l_val; (focus rfl); (focus rfl); (focus rfl); (focus (go_simp; (try simp (disch := omega) only [wrap_in, wrap_in', wrap_u16, wrap_u8, wrap_u32, wrap_u64, rem_in, quo_in]); first | done | with_reducible rfl | (constructor <;> with_reducible rfl))))
        | (apply l_store; (focus rfl); (focus rfl); (focus rfl); (focus (go_simp; (try simp (disch := omega) only [wrap_in, wrap_in', wrap_u16, wrap_u8, wrap_u32, wrap_u64, rem_in, quo_in]); first | done | with_reducible rfl | (constructor <;> with_reducible rfl))))
        | apply d_block
        | (apply d_true; (focus rfl); (focus rfl))
        | (apply d_false; (focus rfl); (focus rfl))
        | apply d_skip
        | apply d_exit
        | apply d_ret
        | with_reducible apply kt_ret
        | with_reducible apply kt_exit
        | with_reducible apply kb_normal
        | with_reducible apply kb_ret
        | with_reducible apply kb_here
        | with_reducible apply kl_ret
        | with_reducible apply kl_exit
        | with_reducible apply kc_ret
        | with_reducible apply kc_exit
        | (with_reducible apply kb_there; (focus rfl))
      have hc := where_has HX.out 0 t zb _ rfl 0
      rw [mkT_whereS (i := z + 1) HN.out (by rw [K2.out (z + 1) (by omega) (by omega), G3.out]; simp) (fun j hj => by by_cases e : j = p; (rw [e, K3.out]; simp); by_cases e2 : j = z; (rw [e2, K1.out]; simp [hnt0]); (rw [K2.out j e2 e, G2.out j e2 (by have := HN.out; omega), FO.out j e2 e]; simp)), show ((z + 1 : Nat) : Int) = (z : Int) + 1 from rfl] at hc
      have HC := Lib.hid hc
      clear hc
      refine l_call rfl rfl rfl (by first | (go_simp; done) | (go_simp; rfl)) (HC.out) ?_
      rintro e w' ⟨rfl, hx⟩
      clear HX HC
      try simp only [List.nil_append, List.cons_append, List.set_cons_zero, List.set_cons_succ] at hx
      have HX := Lib.hid hx
      clear hx
      refine ⟨_, rfl, ?_⟩
      repeat first
        | apply d_seq
        | with_reducible apply kt_normal
        | apply l_nil
        | apply d_region
        | (apply l_off; (focus rfl); (focus rfl))
        | (apply l_val; (focus rfl); (focus rfl); (focus rfl); (focus (go_simp; (try simp (disch := omega) only [wrap_in, wrap_in', wrap_u16, wrap_u8, wrap_u32, wrap_u64, rem_in, quo_in]); first | done | with_reducible rfl | (constructor <;> with_reducible rfl))))
        | (apply l_store; (focus rfl); (focus rfl); (focus rfl); (focus (go_simp; (try simp (disch := omega) only [wrap_in, wrap_in', wrap_u16, wrap_u8, wrap_u32, wrap_u64, rem_in, quo_in]); first | done | with_reducible rfl | (constructor <;> with_reducible rfl))))
        | apply d_block
        | (apply d_true; (focus rfl); (focus rfl))
        | (apply d_false; (focus rfl); (focus rfl))
        | apply d_skip
        | apply d_exit
        | apply d_ret
        | with_reducible apply kt_ret
        | with_reducible apply kt_exit
        | with_reducible apply kb_normal
        | with_reducible apply kb_ret
        | with_reducible apply kb_here
        | with_reducible apply kl_ret
        | with_reducible apply kl_exit
        | with_reducible apply kc_ret
        | with_reducible apply kc_exit
        | (with_reducible apply kb_there; (focus rfl))
      refine ⟨rfl, _, (by first | (simp [resultsG, resOne, Try.results8, rho, List.lookup]; done) | (simp [resultsG, resOne, Try.results8, rho, List.lookup]; rfl)), ?_⟩
      exact ⟨rfl, HX.out.old⟩
    · have w1 : decide ((z : Int) < (n : Int) - 1) = false := decide_eq_false (by omega)
      have w2 : decide ((z : Int) + 1 < (n : Int)) = false := decide_eq_false (by omega)
      have w3 : decide (z + 1 < n) = false := decide_eq_false (by omega)
      have HN := Lib.hid hn'
      clear hn'
      have hc := pass_has HX.out 0 t zb _ rfl z
      rw [mkT_passL HN.out (y := 0) (q := tl) FZ.out] at hc
      have g1 : updL f z tl z = tl := updL_same _ _ _
      have g2 : ∀ j, j ≠ z → j ≠ z + 1 → updL f z tl j = f j := fun j h1 h2 => by rw [updL_other _ _ h1]
      have g3 : True := trivial
      generalize updL f z tl = f2 at *
      have G1 := Lib.hid g1
      have G2 := Lib.hid g2
      have G3 := Lib.hid g3
      clear g1 g2 g3
      have HC := Lib.hid hc
      clear hc
      repeat first
        | apply d_seq
        | with_reducible apply kt_normal
        | apply l_nil
        | apply d_region
        | (apply l_off; (focus rfl); (focus rfl))
        | (apply l_val; (focus rfl); (focus rfl); (focus rfl); (focus (go_simp; (try simp (disch := omega) only [wrap_in, wrap_in', wrap_u16, wrap_u8, wrap_u32, wrap_u64, rem_in, quo_in]); first | done | with_reducible rfl | (constructor <;> with_reducible rfl))))
        | (apply l_store; (focus rfl); (focus rfl); (focus rfl); (focus (go_simp; (try simp (disch := omega) only [wrap_in, wrap_in', wrap_u16, wrap_u8, wrap_u32, wrap_u64, rem_in, quo_in]); first | done | with_reducible rfl | (constructor <;> with_reducible rfl))))
        | apply d_block
        | (apply d_true; (focus rfl); (focus rfl))
        | (apply d_false; (focus rfl); (focus rfl))
        | apply d_skip
        | apply d_exit
        | apply d_ret
        | with_reducible apply kt_ret
        | with_reducible apply kt_exit
        | with_reducible apply kb_normal
        | with_reducible apply kb_ret
        | with_reducible apply kb_here
        | with_reducible apply kl_ret
        | with_reducible apply kl_exit
        | with_reducible apply kc_ret
        | with_reducible apply kc_exit
        | (with_reducible apply kb_there; (focus rfl))
      refine l_call rfl rfl rfl (by first | (go_simp; done) | (go_simp; rfl)) (HC.out) ?_
      rintro e w' ⟨rfl, hx⟩
      clear HX
      try simp only [List.nil_append, List.cons_append, List.set_cons_zero, List.set_cons_succ] at hx
      have HX := Lib.hid hx
      clear hx
      refine ⟨_, rfl, ?_⟩
      repeat first
        | apply d_seq
        | with_reducible apply kt_normal
        | apply l_nil
        | apply d_region
        | (apply l_off; (focus rfl); (focus rfl))
        | (apply l_val; (focus rfl); (focus rfl); (focus rfl); (focus (go_simp; (try simp (disch := omega) only [wrap_in, wrap_in', wrap_u16, wrap_u8, wrap_u32, wrap_u64, rem_in, quo_in]); first | done | with_reducible rfl | (constructor <;> with_reducible rfl))))
        | (apply l_store; (focus rfl); (focus rfl); (focus rfl); (focus (go_simp; (try simp (disch := omega) only [wrap_in, wrap_in', wrap_u16, wrap_u8, wrap_u32, wrap_u64, rem_in, quo_in]); first | done | with_reducible rfl | (constructor <;> with_reducible rfl))))
        | apply d_block
        | (apply d_true; (focus rfl); (focus rfl))
        | (apply d_false; (focus rfl); (focus rfl))
        | apply d_skip
        | apply d_exit
        | apply d_ret
        | with_reducible apply kt_ret
        | with_reducible apply kt_exit
        | with_reducible apply kb_normal
        | with_reducible apply kb_ret
        | with_reducible apply kb_here
        | with_reducible apply kl_ret
        | with_reducible apply kl_exit
        | with_reducible apply kc_ret
        | with_reducible apply kc_exit
        | (with_reducible apply kb_there; (focus rfl))
      have hc := len_has HX.out 0 t zb _ rfl z
      rw [mkT_rowZ hzn, G1.out, htlen] at hc
      have HC := Lib.hid hc
      clear hc
      refine l_call rfl rfl rfl (by first | (go_simp; done) | (go_simp; rfl)) (HC.out) ?_
      rintro e w' ⟨rfl, hx⟩
      clear HX HC
      try simp only [List.nil_append, List.cons_append, List.set_cons_zero, List.set_cons_succ] at hx
      have HX := Lib.hid hx
      clear hx
      refine ⟨_, rfl, ?_⟩
      repeat first
        | apply d_seq
        | with_reducible apply kt_normal
        | apply l_nil
        | apply d_region
        | (apply l_off; (focus rfl); (focus rfl))
        | (apply l_val; (focus rfl); (focus rfl); (focus rfl); (focus (go_simp; (try simp (disch := omega) only [wrap_in, wrap_in', wrap_u16, wrap_u8, wrap_u32, wrap_u64, rem_in, quo_in]); first | done | with_reducible rfl | (constructor <;> with_reducible rfl))))
        | (apply l_store; (focus rfl); (focus rfl); (focus rfl); (focus (go_simp; (try simp (disch := omega) only [wrap_in, wrap_in', wrap_u16, wrap_u8, wrap_u32, wrap_u64, rem_in, quo_in]); first | done | with_reducible rfl | (constructor <;> with_reducible rfl))))
        | apply d_block
        | (apply d_true; (focus rfl); (focus rfl))
        | (apply d_false; (focus rfl); (focus rfl))
        | apply d_skip
        | apply d_exit
        | apply d_ret
        | with_reducible apply kt_ret
        | with_reducible apply kt_exit
        | with_reducible apply kb_normal
        | with_reducible apply kb_ret
        | with_reducible apply kb_here
        | with_reducible apply kl_ret
        | with_reducible apply kl_exit
        | with_reducible apply kc_ret
        | with_reducible apply kc_exit
        | (with_reducible apply kb_there; (focus rfl))
      have hc := pass_has HX.out 0 t zb _ rfl p
      rw [mkT_passN (show p + 1 < n by omega) (y := 999) (q := []) (by rw [G2.out p (by omega) (by omega)]; exact FP.out) (by rw [hp, G1.out, htlen]; omega), hp, G1.out] at hc
      have g1 : updL (updL f2 p []) z (tl ++ [999]) z = tl ++ [999] := updL_same _ _ _
      have g2 : ∀ j, j ≠ z → j ≠ p → updL (updL f2 p []) z (tl ++ [999]) j = f2 j := fun j h1 h2 => by rw [updL_other _ _ h1, updL_other _ _ h2]
      have g3 : updL (updL f2 p []) z (tl ++ [999]) p = [] := by rw [updL_other _ _ (by omega), updL_same]
      generalize updL (updL f2 p []) z (tl ++ [999]) = f3 at *
      have K1 := Lib.hid g1
      have K2 := Lib.hid g2
      have K3 := Lib.hid g3
      clear g1 g2 g3
      clear HC
      have HC := Lib.hid hc
      clear hc
      refine l_call rfl rfl rfl (by first | (go_simp; done) | (go_simp; rfl)) (HC.out) ?_
      rintro e w' ⟨rfl, hx⟩
      clear HX
      try simp only [List.nil_append, List.cons_append, List.set_cons_zero, List.set_cons_succ] at hx
      have HX := Lib.hid hx
      clear hx
      refine ⟨_, rfl, ?_⟩
      repeat first
        | apply d_seq
        | with_reducible apply kt_normal
        | apply l_nil
        | apply d_region
        | (apply l_off; (focus rfl); (focus rfl))
        | (apply l_val; (focus rfl); (focus rfl); (focus rfl); (focus (go_simp; (try simp (disch := omega) only [wrap_in, wrap_in', wrap_u16, wrap_u8, wrap_u32, wrap_u64, rem_in, quo_in]); first | done | with_reducible rfl | (constructor <;> with_reducible rfl))))
        | (apply l_store; (focus rfl); (focus rfl); (focus rfl); (focus (go_simp; (try simp (disch := omega) only [wrap_in, wrap_in', wrap_u16, wrap_u8, wrap_u32, wrap_u64, rem_in, quo_in]); first | done | with_reducible rfl | (constructor <;> with_reducible rfl))))
        | apply d_block
        | (apply d_true; (focus rfl); (focus rfl))
        | (apply d_false; (focus rfl); (focus rfl))
        | apply d_skip
        | apply d_exit
        | apply d_ret
        | with_reducible apply kt_ret
        | with_reducible apply kt_exit
        | with_reducible apply kb_normal
        | with_reducible apply kb_ret
        | with_reducible apply kb_here
        | with_reducible apply kl_ret
        | with_reducible apply kl_exit
        | with_reducible apply kc_ret
        | with_reducible apply kc_exit
        | (with_reducible apply kb_there; (focus rfl))
      have hc := where_has HX.out 0 t zb _ rfl 999
      rw [mkT_whereS (i := z) hzn (by rw [K1.out]; simp) (fun j hj => by by_cases e : j = p; (rw [e, K3.out]; simp); (rw [K2.out j (by omega) e, G2.out j (by omega) (by omega), FO.out j (by omega) e]; simp))] at hc
      have HC := Lib.hid hc
      clear hc
      refine l_call rfl rfl rfl (by first | (go_simp; done) | (go_simp; rfl)) (HC.out) ?_
      rintro e w' ⟨rfl, hx⟩
      clear HX HC
      try simp only [List.nil_append, List.cons_append, List.set_cons_zero, List.set_cons_succ] at hx
      have HX := Lib.hid hx
      clear hx
      refine ⟨_, rfl, ?_⟩
      repeat first
        | apply d_seq
        | with_reducible apply kt_normal
        | apply l_nil
        | apply d_region
        | (apply l_off; (focus rfl); (focus rfl))
        | (apply l_val; (focus rfl); (focus rfl); (focus rfl); (focus (go_simp; (try simp (disch := omega) only [wrap_in, wrap_in', wrap_u16, wrap_u8, wrap_u32, wrap_u64, rem_in, quo_in]); first | done | with_reducible rfl | (constructor <;> with_reducible rfl))))
        | (apply l_store; (focus rfl); (focus rfl); (focus rfl); (focus (go_simp; (try simp (disch := omega) only [wrap_in, wrap_in', wrap_u16, wrap_u8, wrap_u32, wrap_u64, rem_in, quo_in]); first | done | with_reducible rfl | (constructor <;> with_reducible rfl))))
        | apply d_block
        | (apply d_true; (focus rfl); (focus rfl))
        | (apply d_false; (focus rfl); (focus rfl))
        | apply d_skip
        | apply d_exit
        | apply d_ret
        | with_reducible apply kt_ret
        | with_reducible apply kt_exit
        | with_reducible apply kb_normal
        | with_reducible apply kb_ret
        | with_reducible apply kb_here
        | with_reducible apply kl_ret
        | with_reducible apply kl_exit
        | with_reducible apply kc_ret
        | with_reducible apply kc_exit
        | (with_reducible apply kb_there; (focus rfl))
      have hc := where_has HX.out 0 t zb _ rfl 0
      rw [mkT_whereN (fun j hj => by by_cases e : j = p; (rw [e, K3.out]; simp); by_cases e2 : j = z; (rw [e2, K1.out]; simp [hnt0]); (rw [K2.out j e2 e, G2.out j e2 (by have := HN.out; omega), FO.out j e2 e]; simp))] at hc
      have HC := Lib.hid hc
      clear hc
      refine l_call rfl rfl rfl (by first | (go_simp; done) | (go_simp; rfl)) (HC.out) ?_
      rintro e w' ⟨rfl, hx⟩
      clear HX HC
      try simp only [List.nil_append, List.cons_append, List.set_cons_zero, List.set_cons_succ] at hx
      have HX := Lib.hid hx
      clear hx
      refine ⟨_, rfl, ?_⟩
      repeat first
        | apply d_seq
        | with_reducible apply kt_normal
        | apply l_nil
        | apply d_region
        | (apply l_off; (focus rfl); (focus rfl))
        | (apply l_val; (focus rfl); (focus rfl); (focus rfl); (focus (go_simp; (try simp (disch := omega) only [wrap_in, wrap_in', wrap_u16, wrap_u8, wrap_u32, wrap_u64, rem_in, quo_in]); first | done | with_reducible rfl | (constructor <;> with_reducible rfl))))
        | (apply l_store; (focus rfl); (focus rfl); (focus rfl); (focus (go_simp; (try simp (disch := omega) only [wrap_in, wrap_in', wrap_u16, wrap_u8, wrap_u32, wrap_u64, rem_in, quo_in]); first | done | with_reducible rfl | (constructor <;> with_reducible rfl))))
        | apply d_block
        | (apply d_true; (focus rfl); (focus rfl))
        | (apply d_false; (focus rfl); (focus rfl))
        | apply d_skip
        | apply d_exit
        | apply d_ret
        | with_reducible apply kt_ret
        | with_reducible apply kt_exit
        | with_reducible apply kb_normal
        | with_reducible apply kb_ret
        | with_reducible apply kb_here
        | with_reducible apply kl_ret
        | with_reducible apply kl_exit
        | with_reducible apply kc_ret
        | with_reducible apply kc_exit
        | (with_reducible apply kb_there; (focus rfl))
      refine ⟨rfl, _, (by first | (simp [resultsG, resOne, Try.results8, rho, List.lookup]; done) | (simp [resultsG, resOne, Try.results8, rho, List.lookup]; rfl)), ?_⟩
      exact ⟨rfl, HX.out.old⟩
end Go.Proofs.Ytilmodbiimjllaa
