import Derived.Test.YtilmodbiimjllaaTotM
namespace Go.Proofs.Ytilmodbiimjllaa
set_option linter.unusedVariables false
set_option linter.unusedSimpArgs false
attribute [local go_sem] rho_const rho_func rho_hit rho_miss
open Go.RowKit
attribute [local go_sem] min2_mn min_two' max2_mx max_two'
theorem mkT_congr {r : Int} {n : Nat} {f g : Nat → List Int} (h : ∀ j, j < n → f j = g j) : mkT r n f = mkT r n g := by
  unfold mkT
  congr 1
  exact List.map_congr_left (fun j hj => h j (List.mem_range.1 hj))
/-- What a zone has behind so many rounds. -/
def Fz (N rd j : Nat) : List Int := if j + 1 ≤ rd ∧ rd < N + 1 + j then [500 + ((rd - 1 - j : Nat) : Int)] else []
def Gr (N rd q j : Nat) : List Int := if j < q then Fz N rd j else if j = q then [] else Fz N (rd + 1) j
theorem Fz_succ (N rd j : Nat) : Fz N (rd + 1) (j + 1) = Fz N rd j := by
  unfold Fz
  by_cases h : j + 1 ≤ rd ∧ rd < N + 1 + j
  · rw [if_pos h, if_pos (by omega), show rd + 1 - 1 - (j + 1) = rd - 1 - j by omega]
  · rw [if_neg h, if_neg (by omega)]
theorem Gr_start (r : Int) (N rd n : Nat) : mkT r n (Fz N rd) = mkT r n (Gr N rd n) := mkT_congr (fun j hj => by unfold Gr; rw [if_pos hj])
theorem thru_empty {r : Int} {N rd n i : Nat} (hi : i < n) (h : Fz N rd i = []) : (mkT r n (Gr N rd (i + 1))).pass i = (mkT r n (Gr N rd i), 0, 6) := by
  rw [mkT_passE hi (by unfold Gr; rw [if_pos (by omega), h])]
  congr 1
  refine mkT_congr (fun j hj => ?_)
  unfold Gr
  by_cases h1 : j < i
  · rw [if_pos (by omega), if_pos h1]
  · by_cases h2 : j = i
    · subst h2; rw [if_pos (by omega), if_neg h1, if_pos rfl, h]
    · rw [if_neg (by omega), if_neg h1, if_neg h2]
      by_cases h3 : j = i + 1
      · subst h3; rw [if_pos rfl, Fz_succ, h]
      · rw [if_neg h3]
theorem thru_move {r : Int} (hr : 1 ≤ r) {N rd n i : Nat} (hi : i < n) {y : Int} (h : Fz N rd i = [y]) : (mkT r n (Gr N rd (i + 1))).pass i = (mkT r n (Gr N rd i), y, 0) := by
  have hg : Gr N rd (i + 1) i = [y] := by unfold Gr; rw [if_pos (by omega), h]
  by_cases hn : i + 1 = n
  · rw [mkT_passL hn hg]
    congr 1
    refine mkT_congr (fun j hj => ?_)
    by_cases h2 : j = i
    · subst h2; rw [updL_same]; unfold Gr; rw [if_neg (by omega), if_pos rfl]
    · rw [updL_other _ _ h2]; unfold Gr; rw [if_pos (by omega), if_pos (by omega)]
  · have hg1 : Gr N rd (i + 1) (i + 1) = [] := by unfold Gr; rw [if_neg (by omega), if_pos rfl]
    rw [mkT_passN (by omega) hg (by rw [hg1]; show ((0 : Nat) : Int) < r; omega), hg1]
    congr 1
    refine mkT_congr (fun j hj => ?_)
    by_cases h2 : j = i + 1
    · subst h2; rw [updL_same]; unfold Gr; rw [if_neg (by omega), if_neg (by omega), Fz_succ, h]; rfl
    · rw [updL_other _ _ h2]
      by_cases h3 : j = i
      · subst h3; rw [updL_same]; unfold Gr; rw [if_neg (by omega), if_pos rfl]
      · rw [updL_other _ _ h3]; unfold Gr
        by_cases h4 : j < i
        · rw [if_pos (by omega), if_pos h4]
        · rw [if_neg (by omega), if_neg h2, if_neg h4, if_neg h3]
theorem thru_put {r : Int} (hr : 1 ≤ r) {N rd n : Nat} (hn : 0 < n) (h : rd < N) : (mkT r n (Gr N rd 0)).put (500 + rd) ((0 : Nat) : Int) = (mkT r n (Fz N (rd + 1)), 0) := by
  have h0 : Gr N rd 0 0 = [] := by unfold Gr; rw [if_neg (by omega), if_pos rfl]
  rw [mkT_put hn (fun j hj hm => ?_) (by rw [h0]; show ((0 : Nat) : Int) < r; omega), h0]
  · congr 1
    refine mkT_congr (fun j hj => ?_)
    by_cases h2 : j = 0
    · subst h2; rw [updL_same]; unfold Fz; rw [if_pos (by omega), show rd + 1 - 1 - 0 = rd by omega]; rfl
    · rw [updL_other _ _ h2]; unfold Gr; rw [if_neg (by omega), if_neg h2]
  · unfold Gr at hm
    rw [if_neg (by omega)] at hm
    split at hm
    · simp at hm
    · unfold Fz at hm
      split at hm
      · simp only [List.mem_singleton] at hm; omega
      · simp at hm
theorem thru_noput {r : Int} {N rd n : Nat} (h : N ≤ rd) : mkT r n (Gr N rd 0) = mkT r n (Fz N (rd + 1)) := by
  refine mkT_congr (fun j hj => ?_)
  unfold Gr
  rw [if_neg (by omega)]
  split
  · rename_i c; subst c; unfold Fz; rw [if_neg (by omega)]
  · rfl
set_option maxRecDepth 100000 in
set_option maxHeartbeats 8000000 in
theorem toteThrough_any {w : World} (zn rm nn : Int) :
    Calls Try.prog 5 #[.int .i64 zn, .int .i64 rm, .int .i64 nn] w fun e w' => e = .returned (.bool true) ∧ Keep none_ w w' := by
  have HX := Lib.hid (Has.nil (Keep.refl none_ w))
  have h7 : bits .and .i64 zn 7 = zn % 8 := i64_mask 3 7 (by decide) (by decide) zn
  have h63 : bits .and .i64 rm 65535 = rm % 65536 := i64_mask 16 65535 (by decide) (by decide) rm
  have h16 : bits .and .i64 nn 65535 = nn % 65536 := i64_mask 16 65535 (by decide) (by decide) nn
  obtain ⟨n, hn, hn1, hn8⟩ : ∃ n : Nat, 1 + zn % 8 = n ∧ 1 ≤ n ∧ n ≤ 8 := ⟨(1 + zn % 8).toNat, by omega, by omega, by omega⟩
  obtain ⟨r, hr, hr1, hr64⟩ : ∃ r : Nat, 1 + rm % 65536 % 10 = r ∧ 1 ≤ r ∧ r ≤ 10 := ⟨(1 + rm % 65536 % 10).toNat, by omega, by omega, by omega⟩
  obtain ⟨N, hN, hN41⟩ : ∃ N : Nat, nn % 65536 % 41 = N ∧ N ≤ 41 := ⟨(nn % 65536 % 41).toNat, by omega, by omega⟩
  have hb1 : 0 ≤ zn % 8 ∧ zn % 8 ≤ 7 := by omega
  have hb2 : 0 ≤ rm % 65536 ∧ rm % 65536 ≤ 65535 := by omega
  have hb4 : 0 ≤ rm % 65536 % 10 ∧ rm % 65536 % 10 ≤ 9 := by omega
  have hb3 : 0 ≤ nn % 65536 ∧ nn % 65536 ≤ 65535 := by omega
  have em : mn (mx (n : Int) 1) 8 = n := by unfold mn mx; split <;> split <;> omega
  have er : mn (mx (r : Int) 1) 64 = r := by unfold mn mx; split <;> split <;> omega
  refine d_calls (n := 83) Try.func5 rfl rfl (by simp) [(0, .int .i64 zn), (1, .int .i64 rm), (2, .int .i64 nn)] (by simp) ?_
  repeat first
    | apply d_seq
    | with_reducible apply kt_normal
    | apply l_nil
    | apply d_region
    | (apply l_off; (focus rfl); (focus rfl))
    | (apply l_val; (focus rfl); (focus rfl); (focus rfl); (focus (go_simp; (try simp (disch := omega) only [wrap_in, wrap_in', wrap_u16, wrap_u8, wrap_u32, wrap_u64, rem_in, quo_in]); first | done | with_reducible rfl | (constructor <;> with_reducible rfl))))
    | (apply l_store; (focus rfl); (focus rfl); (focus rfl); (focus (go_simp; (try simp (disch := omega) only [wrap_in, wrap_in', wrap_u16, wrap_u8, wrap_u32, wrap_u64, rem_in, quo_in]); first | done | with_reducible rfl | (constructor <;> with_reducible rfl))))
    | apply d_block
    | (apply d_true; (focus rfl); (focus rfl))
    | (apply d_false; (focus rfl); (focus rfl))
    | apply d_skip
    | apply d_exit
    | apply d_ret
    | with_reducible apply kt_ret
    | with_reducible apply kt_exit
    | with_reducible apply kb_normal
    | with_reducible apply kb_ret
    | with_reducible apply kb_here
    | with_reducible apply kl_ret
    | with_reducible apply kl_exit
    | with_reducible apply kc_ret
    | with_reducible apply kc_exit
    | (with_reducible apply kb_there; (focus rfl))
  refine l_call rfl rfl rfl (by first | (go_simp; done) | (go_simp; rfl)) (shown_has HX.out) ?_
  rintro e w' ⟨rfl, hx⟩
  clear HX
  try simp only [List.nil_append, List.cons_append, List.set_cons_zero, List.set_cons_succ] at hx
  have HX := Lib.hid hx
  clear hx
  refine ⟨_, rfl, ?_⟩
  repeat first
    | apply d_seq
    | with_reducible apply kt_normal
    | apply l_nil
    | apply d_region
    | (apply l_off; (focus rfl); (focus rfl))
    | (apply l_val; (focus rfl); (focus rfl); (focus rfl); (focus (go_simp; (try simp (disch := omega) only [wrap_in, wrap_in', wrap_u16, wrap_u8, wrap_u32, wrap_u64, rem_in, quo_in]); first | done | with_reducible rfl | (constructor <;> with_reducible rfl))))
    | (apply l_store; (focus rfl); (focus rfl); (focus rfl); (focus (go_simp; (try simp (disch := omega) only [wrap_in, wrap_in', wrap_u16, wrap_u8, wrap_u32, wrap_u64, rem_in, quo_in]); first | done | with_reducible rfl | (constructor <;> with_reducible rfl))))
    | apply d_block
    | (apply d_true; (focus rfl); (focus rfl))
    | (apply d_false; (focus rfl); (focus rfl))
    | apply d_skip
    | apply d_exit
    | apply d_ret
    | with_reducible apply kt_ret
    | with_reducible apply kt_exit
    | with_reducible apply kb_normal
    | with_reducible apply kb_ret
    | with_reducible apply kb_here
    | with_reducible apply kl_ret
    | with_reducible apply kl_exit
    | with_reducible apply kc_ret
    | with_reducible apply kc_exit
    | (with_reducible apply kb_there; (focus rfl))
  clear h7 h63 h16 hb1 hb2 hb3 hb4 hn hr hN
  have hc := new_has HX.out n r n r em er
  rw [init_mkT] at hc
  have HC := Lib.hid hc
  clear hc
  refine l_call rfl rfl rfl (by first | (go_simp; done) | (go_simp; rfl)) (HC.out) ?_
  rintro e w' ⟨t, zb, rfl, hx⟩
  clear HX HC
  try simp only [List.nil_append, List.cons_append, List.set_cons_zero, List.set_cons_succ] at hx
  have HX := Lib.hid hx
  clear hx
  refine ⟨_, rfl, ?_⟩
  repeat first
    | apply d_seq
    | with_reducible apply kt_normal
    | apply l_nil
    | apply d_region
    | (apply l_off; (focus rfl); (focus rfl))
    | (apply l_val; (focus rfl); (focus rfl); (focus rfl); (focus (go_simp; (try simp (disch := omega) only [wrap_in, wrap_in', wrap_u16, wrap_u8, wrap_u32, wrap_u64, rem_in, quo_in]); first | done | with_reducible rfl | (constructor <;> with_reducible rfl))))
    | (apply l_store; (focus rfl); (focus rfl); (focus rfl); (focus (go_simp; (try simp (disch := omega) only [wrap_in, wrap_in', wrap_u16, wrap_u8, wrap_u32, wrap_u64, rem_in, quo_in]); first | done | with_reducible rfl | (constructor <;> with_reducible rfl))))
    | apply d_block
    | (apply d_true; (focus rfl); (focus rfl))
    | (apply d_false; (focus rfl); (focus rfl))
    | apply d_skip
    | apply d_exit
    | apply d_ret
    | with_reducible apply kt_ret
    | with_reducible apply kt_exit
    | with_reducible apply kb_normal
    | with_reducible apply kb_ret
    | with_reducible apply kb_here
    | with_reducible apply kl_ret
    | with_reducible apply kl_exit
    | with_reducible apply kc_ret
    | with_reducible apply kc_exit
    | (with_reducible apply kb_there; (focus rfl))
  clear em er
  have e0 : mkT (r : Int) n (fun _ => []) = mkT r n (Fz N 0) := mkT_congr (fun j hj => by unfold Fz; rw [if_neg (by omega)])
  rw [e0] at HX
  clear e0
  have hn8i : (n : Int) ≤ 8 := by omega
  have hNi : (N : Int) ≤ 41 := by omega
  have hn1i : (1 : Int) ≤ n := by omega
  refine d_loop (fun m D wr => ∃ (rd nx o : Nat), m = N + n + 2 - rd ∧ rd ≤ N + n + 2 ∧ nx = Nat.min rd N ∧ o = Nat.min (rd - n) N ∧ D = [(0, .int .i64 n), (2, .int .i64 N), (7, .bool true), (8, .pointer (some ⟨t, 0, none⟩)), (9, .int .i64 nx), (10, .int .i64 o), (11, .int .i64 rd)] ∧ Hid (Has w wr [TotA w.heap.size t zb (mkT r n (Fz N rd))])) (N + n + 2) _ (Subl.cons (t := 0) (by decide) rfl (Subl.cons (t := 2) (by decide) rfl (Subl.cons (t := 7) (by decide) rfl (Subl.cons (t := 8) (by decide) rfl (Subl.cons (t := 9) (by decide) rfl (Subl.cons (t := 10) (by decide) rfl (Subl.cons (t := 11) (by decide) rfl (Subl.nil _ _)))))))) ?_ (fun m D wr hrel => ?_)
  · exact ⟨0, 0, 0, rfl, Nat.zero_le _, by rw [show Nat.min 0 N = 0 from Nat.zero_min N], by rw [Nat.zero_sub, show Nat.min 0 N = 0 from Nat.zero_min N], rfl, HX⟩
  · clear HX
    obtain ⟨rd, nx, o, rfl, hrd, hnx, ho, rfl, HX⟩ := hrel
    have hnx' : nx ≤ rd ∧ nx ≤ N ∧ (rd < N → nx = rd) ∧ (N ≤ rd → nx = N) := by have : nx = min rd N := hnx; omega
    have ho' : o ≤ N ∧ (rd - n ≤ N → o = rd - n) ∧ (N ≤ rd - n → o = N) := by have : o = min (rd - n) N := ho; omega
    clear hnx ho
    have hrd60 : (rd : Int) ≤ 60 := by omega
    by_cases hlt : rd < N + n + 2
    · have q1 : decide ((rd : Int) < (N : Int) + n + 2) = true := decide_eq_true (by omega)
      have q2 : decide (rd < N + n + 2) = true := decide_eq_true hlt
      rw [Gr_start] at HX
      have HNX := Lib.hid hnx'
      have HO := Lib.hid ho'
      have HLT := Lib.hid hlt
      clear hnx' ho' hlt
      have ho41 : (o : Int) ≤ 41 := by have := HO.out; omega
      have hnx41 : (nx : Int) ≤ 41 := by have := HNX.out; omega
      repeat first
        | apply d_seq
        | with_reducible apply kt_normal
        | apply l_nil
        | apply d_region
        | (apply l_off; (focus rfl); (focus rfl))
        | (apply l_val; (focus rfl); (focus rfl); (focus rfl); (focus (go_simp; (try simp (disch := omega) only [wrap_in, wrap_in', wrap_u16, wrap_u8, wrap_u32, wrap_u64, rem_in, quo_in]); first | done | with_reducible rfl | (constructor <;> with_reducible rfl))))
        | (apply l_store; (focus rfl); (focus rfl); (focus rfl); (focus (go_simp; (try simp (disch := omega) only [wrap_in, wrap_in', wrap_u16, wrap_u8, wrap_u32, wrap_u64, rem_in, quo_in]); first | done | with_reducible rfl | (constructor <;> with_reducible rfl))))
        | apply d_block
        | (apply d_true; (focus rfl); (focus rfl))
        | (apply d_false; (focus rfl); (focus rfl))
        | apply d_skip
        | apply d_exit
        | apply d_ret
        | with_reducible apply kt_ret
        | with_reducible apply kt_exit
        | with_reducible apply kb_normal
        | with_reducible apply kb_ret
        | with_reducible apply kb_here
        | with_reducible apply kl_ret
        | with_reducible apply kl_exit
        | with_reducible apply kc_ret
        | with_reducible apply kc_exit
        | (with_reducible apply kb_there; (focus rfl))
      refine d_loop (fun m D wr => ∃ (q o : Nat) (zz : Int), m = q ∧ q ≤ n ∧ zz = (q : Int) - 1 ∧ (q = n → o ≤ N ∧ (rd - n ≤ N → o = rd - n) ∧ (N ≤ rd - n → o = N)) ∧ (q < n → o ≤ N ∧ (rd + 1 - n ≤ N → o = rd + 1 - n) ∧ (N ≤ rd + 1 - n → o = N)) ∧ D = [(0, .int .i64 n), (2, .int .i64 N), (7, .bool true), (8, .pointer (some ⟨t, 0, none⟩)), (9, .int .i64 nx), (10, .int .i64 o), (11, .int .i64 rd), (12, .int .i64 zz)] ∧ Hid (Has w wr [TotA w.heap.size t zb (mkT r n (Gr N rd q))])) (n) _ (Subl.cons (t := 0) (by decide) rfl (Subl.cons (t := 2) (by decide) rfl (Subl.cons (t := 7) (by decide) rfl (Subl.cons (t := 8) (by decide) rfl (Subl.cons (t := 9) (by decide) rfl (Subl.cons (t := 10) (by decide) rfl (Subl.cons (t := 11) (by decide) rfl (Subl.cons (t := 12) (by decide) rfl (Subl.nil _ _))))))))) ?_ (fun m D wr hrel => ?_)
      · exact ⟨n, o, _, rfl, Nat.le_refl _, rfl, fun _ => HO.out, fun h => by omega, rfl, HX⟩
      · clear HX HO ho41 q1 q2
        obtain ⟨q, o, zz, rfl, hq, hzz, ho1, ho2, rfl, HX⟩ := hrel
        have ho41 : (o : Int) ≤ 41 := by omega
        cases m with
        | zero =>
          have q7 : decide (zz ≥ 0) = false := decide_eq_false (by omega)
          have q8 : decide (0 ≤ zz) = false := decide_eq_false (by omega)
          have hoo := ho2 (by omega)
          clear ho1 ho2
          have HZZ := Lib.hid hzz
          have HOO := Lib.hid hoo
          clear hzz hoo
          rcases Nat.lt_or_ge rd N with hN1 | hN1
          · have hnr : nx = rd := HNX.out.2.2.1 hN1
            subst hnr
            have q1 : decide ((nx : Int) < N) = true := decide_eq_true (by omega)
            have q2 : decide (nx < N) = true := decide_eq_true hN1
            repeat first
              | apply d_seq
              | with_reducible apply kt_normal
              | apply l_nil
              | apply d_region
              | (apply l_off; (focus rfl); (focus rfl))
              | (apply l_val; (focus rfl); (focus rfl); (focus rfl); (focus (go_simp; (try simp (disch := omega) only [wrap_in, wrap_in', wrap_u16, wrap_u8, wrap_u32, wrap_u64, rem_in, quo_in]); first | done | with_reducible rfl | (constructor <;> with_reducible rfl))))
              | (apply l_store; (focus rfl); (focus rfl); (focus rfl); (focus (go_simp; (try simp (disch := omega) only [wrap_in, wrap_in', wrap_u16, wrap_u8, wrap_u32, wrap_u64, rem_in, quo_in]); first | done | with_reducible rfl | (constructor <;> with_reducible rfl))))
              | apply d_block
              | (apply d_true; (focus rfl); (focus rfl))
              | (apply d_false; (focus rfl); (focus rfl))
              | apply d_skip
              | apply d_exit
              | apply d_ret
              | with_reducible apply kt_ret
              | with_reducible apply kt_exit
              | with_reducible apply kb_normal
              | with_reducible apply kb_ret
              | with_reducible apply kb_here
              | with_reducible apply kl_ret
              | with_reducible apply kl_exit
              | with_reducible apply kc_ret
              | with_reducible apply kc_exit
              | (with_reducible apply kb_there; (focus rfl))
            have hc := put_has HX.out 0 t zb _ rfl (500 + nx) ((0 : Nat) : Int)
            rw [thru_put (show (1 : Int) ≤ r by omega) (by omega) hN1] at hc
            have HC := Lib.hid hc
            clear hc
            refine l_call rfl rfl rfl (by first | (go_simp; done) | (go_simp; rfl)) (HC.out) ?_
            rintro e w' ⟨rfl, hx⟩
            clear HX HC
            try simp only [List.nil_append, List.cons_append, List.set_cons_zero, List.set_cons_succ] at hx
            have HX := Lib.hid hx
            clear hx
            refine ⟨_, rfl, ?_⟩
            repeat first
              | apply d_seq
              | with_reducible apply kt_normal
              | apply l_nil
              | apply d_region
              | (apply l_off; (focus rfl); (focus rfl))
              | (apply l_val; (focus rfl); (focus rfl); (focus rfl); (focus (go_simp; (try simp (disch := omega) only [wrap_in, wrap_in', wrap_u16, wrap_u8, wrap_u32, wrap_u64, rem_in, quo_in]); first | done | with_reducible rfl | (constructor <;> with_reducible rfl))))
              | (apply l_store; (focus rfl); (focus rfl); (focus rfl); (focus (go_simp; (try simp (disch := omega) only [wrap_in, wrap_in', wrap_u16, wrap_u8, wrap_u32, wrap_u64, rem_in, quo_in]); first | done | with_reducible rfl | (constructor <;> with_reducible rfl))))
              | apply d_block
              | (apply d_true; (focus rfl); (focus rfl))
              | (apply d_false; (focus rfl); (focus rfl))
              | apply d_skip
              | apply d_exit
              | apply d_ret
              | with_reducible apply kt_ret
              | with_reducible apply kt_exit
              | with_reducible apply kb_normal
              | with_reducible apply kb_ret
              | with_reducible apply kb_here
              | with_reducible apply kl_ret
              | with_reducible apply kl_exit
              | with_reducible apply kc_ret
              | with_reducible apply kc_exit
              | (with_reducible apply kb_there; (focus rfl))
            refine kl_normal (N + n + 2 - (nx + 1)) _ (by omega) (Subl.cons (t := 0) (by decide) rfl (Subl.cons (t := 2) (by decide) rfl (Subl.cons (t := 7) (by decide) rfl (Subl.cons (t := 8) (by decide) rfl (Subl.cons (t := 9) (by decide) rfl (Subl.cons (t := 10) (by decide) rfl (Subl.cons (t := 11) (by decide) rfl (Subl.nil _ _)))))))) ?_
            exact ⟨nx + 1, nx + 1, o, rfl, by have := HLT.out; omega, by show nx + 1 = min (nx + 1) N; omega, by show o = min (nx + 1 - n) N; have := HOO.out; omega, rfl, HX⟩
          · have hnr : nx = N := HNX.out.2.2.2 hN1
            subst hnr
            have q1 : decide ((nx : Int) < nx) = false := decide_eq_false (by omega)
            have q2 : decide (nx < nx) = false := decide_eq_false (by omega)
            rw [thru_noput hN1] at HX
            have HN1 := Lib.hid hN1
            clear hN1
            repeat first
              | apply d_seq
              | with_reducible apply kt_normal
              | apply l_nil
              | apply d_region
              | (apply l_off; (focus rfl); (focus rfl))
              | (apply l_val; (focus rfl); (focus rfl); (focus rfl); (focus (go_simp; (try simp (disch := omega) only [wrap_in, wrap_in', wrap_u16, wrap_u8, wrap_u32, wrap_u64, rem_in, quo_in]); first | done | with_reducible rfl | (constructor <;> with_reducible rfl))))
              | (apply l_store; (focus rfl); (focus rfl); (focus rfl); (focus (go_simp; (try simp (disch := omega) only [wrap_in, wrap_in', wrap_u16, wrap_u8, wrap_u32, wrap_u64, rem_in, quo_in]); first | done | with_reducible rfl | (constructor <;> with_reducible rfl))))
              | apply d_block
              | (apply d_true; (focus rfl); (focus rfl))
              | (apply d_false; (focus rfl); (focus rfl))
              | apply d_skip
              | apply d_exit
              | apply d_ret
              | with_reducible apply kt_ret
              | with_reducible apply kt_exit
              | with_reducible apply kb_normal
              | with_reducible apply kb_ret
              | with_reducible apply kb_here
              | with_reducible apply kl_ret
              | with_reducible apply kl_exit
              | with_reducible apply kc_ret
              | with_reducible apply kc_exit
              | (with_reducible apply kb_there; (focus rfl))
            have hlt2 := HLT.out
            refine kl_normal (nx + n + 2 - (rd + 1)) _ (by omega) (Subl.cons (t := 0) (by decide) rfl (Subl.cons (t := 2) (by decide) rfl (Subl.cons (t := 7) (by decide) rfl (Subl.cons (t := 8) (by decide) rfl (Subl.cons (t := 9) (by decide) rfl (Subl.cons (t := 10) (by decide) rfl (Subl.cons (t := 11) (by decide) rfl (Subl.nil _ _)))))))) ?_
            exact ⟨rd + 1, nx, o, rfl, by have := HLT.out; omega, by show nx = min (rd + 1) nx; have := HN1.out; omega, by show o = min (rd + 1 - n) nx; have := HOO.out; omega, rfl, HX⟩
        | succ i =>
          obtain rfl : zz = i := by omega
          have q7 : decide ((i : Int) ≥ 0) = true := decide_eq_true (by omega)
          have q8 : decide ((0 : Int) ≤ i) = true := decide_eq_true (by omega)
          by_cases hf : i + 1 ≤ rd ∧ rd < N + 1 + i
          · have hF : Fz N rd i = [500 + ((rd - 1 - i : Nat) : Int)] := by unfold Fz; rw [if_pos hf]
            have hc := pass_has HX.out 0 t zb _ rfl i
            rw [thru_move (show (1 : Int) ≤ r by omega) (show i < n by omega) hF] at hc
            by_cases hin : i + 1 = n
            · have q5 : (((i : Nat) : Int) == (n : Int) - 1) = true := by simp; omega
              have hy : (500 + ((rd - 1 - i : Nat) : Int)) = 500 + o := by have := ho1 hin; omega
              rw [hy] at hc
              have hol := ho1 hin
              have HOL := Lib.hid hol
              have HF_ := Lib.hid hf
              have HIN := Lib.hid hin
              clear ho1 ho2 hy hF hf hin hol
              have HC := Lib.hid hc
              have HZZ := Lib.hid hzz
              clear hc hzz
              repeat first
                | apply d_seq
                | with_reducible apply kt_normal
                | apply l_nil
                | apply d_region
                | (apply l_off; (focus rfl); (focus rfl))
                | (apply l_val; (focus rfl); (focus rfl); (focus rfl); (focus (go_simp; (try simp (disch := omega) only [wrap_in, wrap_in', wrap_u16, wrap_u8, wrap_u32, wrap_u64, rem_in, quo_in]); first | done | with_reducible rfl | (constructor <;> with_reducible rfl))))
                | (apply l_store; (focus rfl); (focus rfl); (focus rfl); (focus (go_simp; (try simp (disch := omega) only [wrap_in, wrap_in', wrap_u16, wrap_u8, wrap_u32, wrap_u64, rem_in, quo_in]); first | done | with_reducible rfl | (constructor <;> with_reducible rfl))))
                | apply d_block
                | (apply d_true; (focus rfl); (focus rfl))
                | (apply d_false; (focus rfl); (focus rfl))
                | apply d_skip
                | apply d_exit
                | apply d_ret
                | with_reducible apply kt_ret
                | with_reducible apply kt_exit
                | with_reducible apply kb_normal
                | with_reducible apply kb_ret
                | with_reducible apply kb_here
                | with_reducible apply kl_ret
                | with_reducible apply kl_exit
                | with_reducible apply kc_ret
                | with_reducible apply kc_exit
                | (with_reducible apply kb_there; (focus rfl))
              refine l_call rfl rfl rfl (by first | (go_simp; done) | (go_simp; rfl)) (HC.out) ?_
              rintro e w' ⟨rfl, hx⟩
              clear HX
              try simp only [List.nil_append, List.cons_append, List.set_cons_zero, List.set_cons_succ] at hx
              have HX := Lib.hid hx
              clear hx
              refine ⟨_, rfl, ?_⟩
              repeat first
                | apply d_seq
                | with_reducible apply kt_normal
                | apply l_nil
                | apply d_region
                | (apply l_off; (focus rfl); (focus rfl))
                | (apply l_val; (focus rfl); (focus rfl); (focus rfl); (focus (go_simp; (try simp (disch := omega) only [wrap_in, wrap_in', wrap_u16, wrap_u8, wrap_u32, wrap_u64, rem_in, quo_in]); first | done | with_reducible rfl | (constructor <;> with_reducible rfl))))
                | (apply l_store; (focus rfl); (focus rfl); (focus rfl); (focus (go_simp; (try simp (disch := omega) only [wrap_in, wrap_in', wrap_u16, wrap_u8, wrap_u32, wrap_u64, rem_in, quo_in]); first | done | with_reducible rfl | (constructor <;> with_reducible rfl))))
                | apply d_block
                | (apply d_true; (focus rfl); (focus rfl))
                | (apply d_false; (focus rfl); (focus rfl))
                | apply d_skip
                | apply d_exit
                | apply d_ret
                | with_reducible apply kt_ret
                | with_reducible apply kt_exit
                | with_reducible apply kb_normal
                | with_reducible apply kb_ret
                | with_reducible apply kb_here
                | with_reducible apply kl_ret
                | with_reducible apply kl_exit
                | with_reducible apply kc_ret
                | with_reducible apply kc_exit
                | (with_reducible apply kb_there; (focus rfl))
              refine kl_normal (i) _ (by omega) (Subl.cons (t := 0) (by decide) rfl (Subl.cons (t := 2) (by decide) rfl (Subl.cons (t := 7) (by decide) rfl (Subl.cons (t := 8) (by decide) rfl (Subl.cons (t := 9) (by decide) rfl (Subl.cons (t := 10) (by decide) rfl (Subl.cons (t := 11) (by decide) rfl (Subl.cons (t := 12) (by decide) rfl (Subl.nil _ _))))))))) ?_
              exact ⟨i, o + 1, _, rfl, by omega, rfl, fun h => by have := HIN.out; omega, fun h => by have := HOL.out; have := HIN.out; have := HF_.out; omega, rfl, HX⟩
            · have q5 : (((i : Nat) : Int) == (n : Int) - 1) = false := by simp; omega
              have hol := ho2 (by omega)
              have HOL := Lib.hid hol
              clear ho1 ho2 hF hf hol
              have HC := Lib.hid hc
              have HZZ := Lib.hid hzz
              have HIN := Lib.hid hin
              clear hc hzz hin
              repeat first
                | apply d_seq
                | with_reducible apply kt_normal
                | apply l_nil
                | apply d_region
                | (apply l_off; (focus rfl); (focus rfl))
                | (apply l_val; (focus rfl); (focus rfl); (focus rfl); (focus (go_simp; (try simp (disch := omega) only [wrap_in, wrap_in', wrap_u16, wrap_u8, wrap_u32, wrap_u64, rem_in, quo_in]); first | done | with_reducible rfl | (constructor <;> with_reducible rfl))))
                | (apply l_store; (focus rfl); (focus rfl); (focus rfl); (focus (go_simp; (try simp (disch := omega) only [wrap_in, wrap_in', wrap_u16, wrap_u8, wrap_u32, wrap_u64, rem_in, quo_in]); first | done | with_reducible rfl | (constructor <;> with_reducible rfl))))
                | apply d_block
                | (apply d_true; (focus rfl); (focus rfl))
                | (apply d_false; (focus rfl); (focus rfl))
                | apply d_skip
                | apply d_exit
                | apply d_ret
                | with_reducible apply kt_ret
                | with_reducible apply kt_exit
                | with_reducible apply kb_normal
                | with_reducible apply kb_ret
                | with_reducible apply kb_here
                | with_reducible apply kl_ret
                | with_reducible apply kl_exit
                | with_reducible apply kc_ret
                | with_reducible apply kc_exit
                | (with_reducible apply kb_there; (focus rfl))
              refine l_call rfl rfl rfl (by first | (go_simp; done) | (go_simp; rfl)) (HC.out) ?_
              rintro e w' ⟨rfl, hx⟩
              clear HX
              try simp only [List.nil_append, List.cons_append, List.set_cons_zero, List.set_cons_succ] at hx
              have HX := Lib.hid hx
              clear hx
              refine ⟨_, rfl, ?_⟩
              repeat first
                | apply d_seq
                | with_reducible apply kt_normal
                | apply l_nil
                | apply d_region
                | (apply l_off; (focus rfl); (focus rfl))
                | (apply l_val; (focus rfl); (focus rfl); (focus rfl); (focus (go_simp; (try simp (disch := omega) only [wrap_in, wrap_in', wrap_u16, wrap_u8, wrap_u32, wrap_u64, rem_in, quo_in]); first | done | with_reducible rfl | (constructor <;> with_reducible rfl))))
                | (apply l_store; (focus rfl); (focus rfl); (focus rfl); (focus (go_simp; (try simp (disch := omega) only [wrap_in, wrap_in', wrap_u16, wrap_u8, wrap_u32, wrap_u64, rem_in, quo_in]); first | done | with_reducible rfl | (constructor <;> with_reducible rfl))))
                | apply d_block
                | (apply d_true; (focus rfl); (focus rfl))
                | (apply d_false; (focus rfl); (focus rfl))
                | apply d_skip
                | apply d_exit
                | apply d_ret
                | with_reducible apply kt_ret
                | with_reducible apply kt_exit
                | with_reducible apply kb_normal
                | with_reducible apply kb_ret
                | with_reducible apply kb_here
                | with_reducible apply kl_ret
                | with_reducible apply kl_exit
                | with_reducible apply kc_ret
                | with_reducible apply kc_exit
                | (with_reducible apply kb_there; (focus rfl))
              refine kl_normal (i) _ (by omega) (Subl.cons (t := 0) (by decide) rfl (Subl.cons (t := 2) (by decide) rfl (Subl.cons (t := 7) (by decide) rfl (Subl.cons (t := 8) (by decide) rfl (Subl.cons (t := 9) (by decide) rfl (Subl.cons (t := 10) (by decide) rfl (Subl.cons (t := 11) (by decide) rfl (Subl.cons (t := 12) (by decide) rfl (Subl.nil _ _))))))))) ?_
              exact ⟨i, o, _, rfl, by omega, rfl, fun h => by omega, fun h => HOL.out, rfl, HX⟩
          · have hF : Fz N rd i = [] := by unfold Fz; rw [if_neg hf]
            have hc := pass_has HX.out 0 t zb _ rfl i
            rw [thru_empty (show i < n by omega) hF] at hc
            have hol : o ≤ N ∧ (rd + 1 - n ≤ N → o = rd + 1 - n) ∧ (N ≤ rd + 1 - n → o = N) := by
              by_cases hin : i + 1 = n
              · have := ho1 hin; omega
              · exact ho2 (by omega)
            have HOL := Lib.hid hol
            clear ho1 ho2 hF hf hol
            have HC := Lib.hid hc
            have HZZ := Lib.hid hzz
            clear hc hzz
            repeat first
              | apply d_seq
              | with_reducible apply kt_normal
              | apply l_nil
              | apply d_region
              | (apply l_off; (focus rfl); (focus rfl))
              | (apply l_val; (focus rfl); (focus rfl); (focus rfl); (focus (go_simp; (try simp (disch := omega) only [wrap_in, wrap_in', wrap_u16, wrap_u8, wrap_u32, wrap_u64, rem_in, quo_in]); first | done | with_reducible rfl | (constructor <;> with_reducible rfl))))
              | (apply l_store; (focus rfl); (focus rfl); (focus rfl); (focus (go_simp; (try simp (disch := omega) only [wrap_in, wrap_in', wrap_u16, wrap_u8, wrap_u32, wrap_u64, rem_in, quo_in]); first | done | with_reducible rfl | (constructor <;> with_reducible rfl))))
              | apply d_block
              | (apply d_true; (focus rfl); (focus rfl))
              | (apply d_false; (focus rfl); (focus rfl))
              | apply d_skip
              | apply d_exit
              | apply d_ret
              | with_reducible apply kt_ret
              | with_reducible apply kt_exit
              | with_reducible apply kb_normal
              | with_reducible apply kb_ret
              | with_reducible apply kb_here
              | with_reducible apply kl_ret
              | with_reducible apply kl_exit
              | with_reducible apply kc_ret
              | with_reducible apply kc_exit
              | (with_reducible apply kb_there; (focus rfl))
            refine l_call rfl rfl rfl (by first | (go_simp; done) | (go_simp; rfl)) (HC.out) ?_
            rintro e w' ⟨rfl, hx⟩
            clear HX
            try simp only [List.nil_append, List.cons_append, List.set_cons_zero, List.set_cons_succ] at hx
            have HX := Lib.hid hx
            clear hx
            refine ⟨_, rfl, ?_⟩
            repeat first
              | apply d_seq
              | with_reducible apply kt_normal
              | apply l_nil
              | apply d_region
              | (apply l_off; (focus rfl); (focus rfl))
              | (apply l_val; (focus rfl); (focus rfl); (focus rfl); (focus (go_simp; (try simp (disch := omega) only [wrap_in, wrap_in', wrap_u16, wrap_u8, wrap_u32, wrap_u64, rem_in, quo_in]); first | done | with_reducible rfl | (constructor <;> with_reducible rfl))))
              | (apply l_store; (focus rfl); (focus rfl); (focus rfl); (focus (go_simp; (try simp (disch := omega) only [wrap_in, wrap_in', wrap_u16, wrap_u8, wrap_u32, wrap_u64, rem_in, quo_in]); first | done | with_reducible rfl | (constructor <;> with_reducible rfl))))
              | apply d_block
              | (apply d_true; (focus rfl); (focus rfl))
              | (apply d_false; (focus rfl); (focus rfl))
              | apply d_skip
              | apply d_exit
              | apply d_ret
              | with_reducible apply kt_ret
              | with_reducible apply kt_exit
              | with_reducible apply kb_normal
              | with_reducible apply kb_ret
              | with_reducible apply kb_here
              | with_reducible apply kl_ret
              | with_reducible apply kl_exit
              | with_reducible apply kc_ret
              | with_reducible apply kc_exit
              | (with_reducible apply kb_there; (focus rfl))
            refine kl_normal (i) _ (by omega) (Subl.cons (t := 0) (by decide) rfl (Subl.cons (t := 2) (by decide) rfl (Subl.cons (t := 7) (by decide) rfl (Subl.cons (t := 8) (by decide) rfl (Subl.cons (t := 9) (by decide) rfl (Subl.cons (t := 10) (by decide) rfl (Subl.cons (t := 11) (by decide) rfl (Subl.cons (t := 12) (by decide) rfl (Subl.nil _ _))))))))) ?_
            exact ⟨i, o, _, rfl, by omega, rfl, fun h => by omega, fun h => HOL.out, rfl, HX⟩
    · have q1 : decide ((rd : Int) < (N : Int) + n + 2) = false := decide_eq_false (by omega)
      have q2 : decide (rd < N + n + 2) = false := decide_eq_false hlt
      obtain rfl : o = N := by omega
      have HNX' := Lib.hid hnx'
      have HO' := Lib.hid ho'
      clear hnx' ho'
      clear hlt
      repeat first
        | apply d_seq
        | with_reducible apply kt_normal
        | apply l_nil
        | apply d_region
        | (apply l_off; (focus rfl); (focus rfl))
        | (apply l_val; (focus rfl); (focus rfl); (focus rfl); (focus (go_simp; (try simp (disch := omega) only [wrap_in, wrap_in', wrap_u16, wrap_u8, wrap_u32, wrap_u64, rem_in, quo_in]); first | done | with_reducible rfl | (constructor <;> with_reducible rfl))))
        | (apply l_store; (focus rfl); (focus rfl); (focus rfl); (focus (go_simp; (try simp (disch := omega) only [wrap_in, wrap_in', wrap_u16, wrap_u8, wrap_u32, wrap_u64, rem_in, quo_in]); first | done | with_reducible rfl | (constructor <;> with_reducible rfl))))
        | apply d_block
        | (apply d_true; (focus rfl); (focus rfl))
        | (apply d_false; (focus rfl); (focus rfl))
        | apply d_skip
        | apply d_exit
        | apply d_ret
        | with_reducible apply kt_ret
        | with_reducible apply kt_exit
        | with_reducible apply kb_normal
        | with_reducible apply kb_ret
        | with_reducible apply kb_here
        | with_reducible apply kl_ret
        | with_reducible apply kl_exit
        | with_reducible apply kc_ret
        | with_reducible apply kc_exit
        | (with_reducible apply kb_there; (focus rfl))
      refine ⟨rfl, _, (by first | (simp [resultsG, resOne, Try.results5, rho, List.lookup]; done) | (simp [resultsG, resOne, Try.results5, rho, List.lookup]; rfl)), ?_⟩
      exact ⟨rfl, HX.out.old⟩
end Go.Proofs.Ytilmodbiimjllaa
