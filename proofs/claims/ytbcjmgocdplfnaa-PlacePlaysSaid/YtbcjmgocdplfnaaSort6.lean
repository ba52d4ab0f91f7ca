import Derived.Test.YtbcjmgocdplfnaaSort5
namespace Go.Proofs.Ytbcjmgocdplfnaa
set_option linter.unusedVariables false
set_option linter.unusedSimpArgs false
attribute [local go_sem] rho_const rho_func rho_hit rho_miss
open Go.RowKit Go.Sort
/-- What is left to do. -/
structure PQ (a0 b0 : Nat) (d0 : Array Int) (n a b : Nat) (d : Array Int) : Prop where
  size : d.size = n
  ab : a ≤ b
  bn : b ≤ n
  below : Below ltInt a b d
  small : b - a ≤ b0 - a0
  goal : ∀ R, PermIn a b d R → SortedIn ltInt a b R → PermIn a0 b0 d0 R ∧ SortedIn ltInt a0 b0 R
theorem PQ.perm {a0 b0 n a b : Nat} {d0 d d1 : Array Int} (h : PQ a0 b0 d0 n a b d) (hp : PermIn a b d d1) : PQ a0 b0 d0 n a b d1 :=
  ⟨hp.1.trans h.size, h.ab, h.bn, h.below.perm (by rw [h.size]; exact h.bn) hp, h.small, fun R h1 h2 => h.goal R (permIn_trans _ _ _ _ _ hp h1) h2⟩
set_option maxRecDepth 100000 in
set_option maxHeartbeats 8000000 in
theorem pdq_any (g c : Nat) (t : List Value) : ∀ (M : Nat) (d : Array Int) (a b lim : Nat) (w : World), b - a = M → RowB w g t d → d.size ≤ c → c ≤ 9223372036854775807 → d.size ≤ 40 → a ≤ b → b ≤ d.size → lim ≤ 100 → Below ltInt a b d →
    Calls Try.prog 35 #[.slice (some ⟨g, 0, none⟩) d.size c, .int .i64 a, .int .i64 b, .int .i64 lim] w fun e w' => ∃ R, e = .returned (.tuple #[]) ∧ SortK w g w' ∧ RowB w' g t R ∧ PermIn a b d R ∧ SortedIn ltInt a b R := by
  intro M
  induction M using Nat.strongRecOn with
  | _ M ih =>
    intro d a0 b0 lim0 w hM h hc hc' hz hab hb hlim hbl
    obtain ⟨n, hn⟩ : ∃ n, d.size = n := ⟨_, rfl⟩
    rw [hn] at hc hb hz ⊢
    have HX := Lib.hid (show SortK w g w ∧ RowB w g t d ∧ PQ a0 b0 d n a0 b0 d from ⟨.refl _ _, h, ⟨hn, hab, hb, hbl, Nat.le_refl _, fun R h1 h2 => ⟨h1, h2⟩⟩⟩)
    have IH := Lib.hid ih
    clear h ih hbl
    refine d_calls (n := 134) Try.func35 rfl rfl (by simp) [(0, .slice (some ⟨g, 0, none⟩) n c), (1, .int .i64 a0), (2, .int .i64 b0), (3, .int .i64 lim0)] (by simp) ?_
    repeat first
      | apply d_seq
      | with_reducible apply kt_normal
      | apply l_nil
      | apply d_region
      | (apply l_off; (focus rfl); (focus rfl))
      | (apply l_val; (focus rfl); (focus rfl); (focus rfl); (focus (go_simp; (try simp (disch := omega) only [wrap_in, wrap_in', wrap_u16, wrap_u8, wrap_u32, wrap_u64, rem_in, quo_in]); first | done | with_reducible rfl | (constructor <;> with_reducible rfl))))
      | (apply l_store; (focus rfl); (focus rfl); (focus rfl); (focus (go_simp; (try simp (disch := omega) only [wrap_in, wrap_in', wrap_u16, wrap_u8, wrap_u32, wrap_u64, rem_in, quo_in]); first | done | with_reducible rfl | (constructor <;> with_reducible rfl))))
      | apply d_block
      | (apply d_true; (focus rfl); (focus rfl))
      | (apply d_false; (focus rfl); (focus rfl))
      | apply d_skip
      | apply d_exit
      | apply d_ret
      | with_reducible apply kt_ret
      | with_reducible apply kt_exit
      | with_reducible apply kb_normal
      | with_reducible apply kb_ret
      | with_reducible apply kb_here
      | with_reducible apply kl_ret
      | with_reducible apply kl_exit
      | with_reducible apply kc_ret
      | with_reducible apply kc_exit
      | (with_reducible apply kb_there; (focus rfl))
    refine d_loop (fun m D wr => ∃ (a b lim : Nat) (d1 : Array Int) (wb wp : Bool), m = b - a ∧ a ≤ b ∧ b ≤ n ∧ lim ≤ 100 ∧ D = [(0, .slice (some ⟨g, 0, none⟩) n c), (1, .int .i64 a), (2, .int .i64 b), (3, .int .i64 lim), (8, .bool wb), (9, .bool wp)] ∧ Hid (SortK w g wr ∧ RowB wr g t d1 ∧ PQ a0 b0 d n a b d1)) (b0 - a0) _ (Subl.cons (t := 0) (by decide) rfl (Subl.cons (t := 1) (by decide) rfl (Subl.cons (t := 2) (by decide) rfl (Subl.cons (t := 3) (by decide) rfl (Subl.cons (t := 8) (by decide) rfl (Subl.cons (t := 9) (by decide) rfl (Subl.nil _ _))))))) ?_ (fun m D wr hrel => ?_)
    · exact ⟨a0, b0, lim0, d, true, true, rfl, hab, hb, hlim, rfl, HX⟩
    · clear HX
      obtain ⟨a, b, lim, d1, wb, wp, rfl, hab1, hbn, hlim1, rfl, HX⟩ := hrel
      have hz1 := HX.out.2.2.size
      obtain ⟨l, hl⟩ : ∃ l, b - a = l := ⟨_, rfl⟩
      have k1 : (b : Int) - (a : Int) = l := by omega
      by_cases h12 : l ≤ 12
      · have q1 : decide ((l : Int) ≤ 12) = true := decide_eq_true (by omega)
        have hi := ins_any g c t d1 a b wr HX.out.2.1 (by omega) hc' (by omega) (by omega) (by omega)
        have hs := insertionSort_holds (lt := ltInt) swo_ltInt d1 a b hab1 (by omega)
        rw [hz1] at hi
        have HI := Lib.hid hi
        have HS := Lib.hid hs
        have HL := Lib.hid hl
        clear hi hs hl
        repeat first
          | apply d_seq
          | with_reducible apply kt_normal
          | apply l_nil
          | apply d_region
          | (apply l_off; (focus rfl); (focus rfl))
          | (apply l_val; (focus rfl); (focus rfl); (focus rfl); (focus (go_simp; (try simp (disch := omega) only [wrap_in, wrap_in', wrap_u16, wrap_u8, wrap_u32, wrap_u64, rem_in, quo_in]); first | done | with_reducible rfl | (constructor <;> with_reducible rfl))))
          | (apply l_store; (focus rfl); (focus rfl); (focus rfl); (focus (go_simp; (try simp (disch := omega) only [wrap_in, wrap_in', wrap_u16, wrap_u8, wrap_u32, wrap_u64, rem_in, quo_in]); first | done | with_reducible rfl | (constructor <;> with_reducible rfl))))
          | apply d_block
          | (apply d_true; (focus rfl); (focus rfl))
          | (apply d_false; (focus rfl); (focus rfl))
          | apply d_skip
          | apply d_exit
          | apply d_ret
          | with_reducible apply kt_ret
          | with_reducible apply kt_exit
          | with_reducible apply kb_normal
          | with_reducible apply kb_ret
          | with_reducible apply kb_here
          | with_reducible apply kl_ret
          | with_reducible apply kl_exit
          | with_reducible apply kc_ret
          | with_reducible apply kc_exit
          | (with_reducible apply kb_there; (focus rfl))
        refine l_call rfl rfl rfl (by first | (go_simp; done) | (go_simp; rfl)) (HI.out) ?_
        rintro e w1 ⟨rfl, hk1, hk2⟩
        have HF := Lib.hid (show SortK w g w1 ∧ RowB w1 g t _ ∧ _ from ⟨HX.out.1.trans hk1, hk2, HX.out.2.2.goal _ HS.out.1 HS.out.2⟩)
        clear hk1 hk2
        refine ⟨_, rfl, ?_⟩
        repeat first
          | apply d_seq
          | with_reducible apply kt_normal
          | apply l_nil
          | apply d_region
          | (apply l_off; (focus rfl); (focus rfl))
          | (apply l_val; (focus rfl); (focus rfl); (focus rfl); (focus (go_simp; (try simp (disch := omega) only [wrap_in, wrap_in', wrap_u16, wrap_u8, wrap_u32, wrap_u64, rem_in, quo_in]); first | done | with_reducible rfl | (constructor <;> with_reducible rfl))))
          | (apply l_store; (focus rfl); (focus rfl); (focus rfl); (focus (go_simp; (try simp (disch := omega) only [wrap_in, wrap_in', wrap_u16, wrap_u8, wrap_u32, wrap_u64, rem_in, quo_in]); first | done | with_reducible rfl | (constructor <;> with_reducible rfl))))
          | apply d_block
          | (apply d_true; (focus rfl); (focus rfl))
          | (apply d_false; (focus rfl); (focus rfl))
          | apply d_skip
          | apply d_exit
          | apply d_ret
          | with_reducible apply kt_ret
          | with_reducible apply kt_exit
          | with_reducible apply kb_normal
          | with_reducible apply kb_ret
          | with_reducible apply kb_here
          | with_reducible apply kl_ret
          | with_reducible apply kl_exit
          | with_reducible apply kc_ret
          | with_reducible apply kc_exit
          | (with_reducible apply kb_there; (focus rfl))
        refine ⟨rfl, _, (by first | (simp [resultsG, resOne, Try.results35, rho, List.lookup]; done) | (simp [resultsG, resOne, Try.results35, rho, List.lookup]; rfl)), ?_⟩
        exact ⟨_, rfl, HF.out⟩
      · have q1 : decide ((l : Int) ≤ 12) = false := decide_eq_false (by omega)
        by_cases hl0 : lim = 0
        · subst hl0
          have hi := heap_any g c t d1 a b wr HX.out.2.1 (by omega) hc' (by omega) (by omega) (by omega)
          have hs := heapSort_holds (lt := ltInt) swo_ltInt d1 a b hab1 (by omega)
          rw [hz1] at hi
          have HI := Lib.hid hi
          have HS := Lib.hid hs
          have HL := Lib.hid hl
          clear hi hs hl
          repeat first
            | apply d_seq
            | with_reducible apply kt_normal
            | apply l_nil
            | apply d_region
            | (apply l_off; (focus rfl); (focus rfl))
            | (apply l_val; (focus rfl); (focus rfl); (focus rfl); (focus (go_simp; (try simp (disch := omega) only [wrap_in, wrap_in', wrap_u16, wrap_u8, wrap_u32, wrap_u64, rem_in, quo_in]); first | done | with_reducible rfl | (constructor <;> with_reducible rfl))))
            | (apply l_store; (focus rfl); (focus rfl); (focus rfl); (focus (go_simp; (try simp (disch := omega) only [wrap_in, wrap_in', wrap_u16, wrap_u8, wrap_u32, wrap_u64, rem_in, quo_in]); first | done | with_reducible rfl | (constructor <;> with_reducible rfl))))
            | apply d_block
            | (apply d_true; (focus rfl); (focus rfl))
            | (apply d_false; (focus rfl); (focus rfl))
            | apply d_skip
            | apply d_exit
            | apply d_ret
            | with_reducible apply kt_ret
            | with_reducible apply kt_exit
            | with_reducible apply kb_normal
            | with_reducible apply kb_ret
            | with_reducible apply kb_here
            | with_reducible apply kl_ret
            | with_reducible apply kl_exit
            | with_reducible apply kc_ret
            | with_reducible apply kc_exit
            | (with_reducible apply kb_there; (focus rfl))
          refine l_call rfl rfl rfl (by first | (go_simp; done) | (go_simp; rfl)) (HI.out) ?_
          rintro e w1 ⟨rfl, hk1, hk2⟩
          have HF := Lib.hid (show SortK w g w1 ∧ RowB w1 g t _ ∧ _ from ⟨HX.out.1.trans hk1, hk2, HX.out.2.2.goal _ HS.out.1 HS.out.2⟩)
          clear hk1 hk2
          refine ⟨_, rfl, ?_⟩
          repeat first
            | apply d_seq
            | with_reducible apply kt_normal
            | apply l_nil
            | apply d_region
            | (apply l_off; (focus rfl); (focus rfl))
            | (apply l_val; (focus rfl); (focus rfl); (focus rfl); (focus (go_simp; (try simp (disch := omega) only [wrap_in, wrap_in', wrap_u16, wrap_u8, wrap_u32, wrap_u64, rem_in, quo_in]); first | done | with_reducible rfl | (constructor <;> with_reducible rfl))))
            | (apply l_store; (focus rfl); (focus rfl); (focus rfl); (focus (go_simp; (try simp (disch := omega) only [wrap_in, wrap_in', wrap_u16, wrap_u8, wrap_u32, wrap_u64, rem_in, quo_in]); first | done | with_reducible rfl | (constructor <;> with_reducible rfl))))
            | apply d_block
            | (apply d_true; (focus rfl); (focus rfl))
            | (apply d_false; (focus rfl); (focus rfl))
            | apply d_skip
            | apply d_exit
            | apply d_ret
            | with_reducible apply kt_ret
            | with_reducible apply kt_exit
            | with_reducible apply kb_normal
            | with_reducible apply kb_ret
            | with_reducible apply kb_here
            | with_reducible apply kl_ret
            | with_reducible apply kl_exit
            | with_reducible apply kc_ret
            | with_reducible apply kc_exit
            | (with_reducible apply kb_there; (focus rfl))
          refine ⟨rfl, _, (by first | (simp [resultsG, resOne, Try.results35, rho, List.lookup]; done) | (simp [resultsG, resOne, Try.results35, rho, List.lookup]; rfl)), ?_⟩
          exact ⟨_, rfl, HF.out⟩
        · have q2 : ((lim : Int) == 0) = false := by simp; omega
          repeat first
            | ((fail_if_success (with_reducible refine d_at_region (id := 7) ?_)); apply d_seq)
            | with_reducible apply kt_normal
            | apply l_nil
            | apply d_region
            | (apply l_off; (focus rfl); (focus rfl))
            | (apply l_val; (focus rfl); (focus rfl); (focus rfl); (focus (go_simp; (try simp (disch := omega) only [wrap_in, wrap_in', wrap_u16, wrap_u8, wrap_u32, wrap_u64, rem_in, quo_in]); first | done | with_reducible rfl | (constructor <;> with_reducible rfl))))
            | (apply l_store; (focus rfl); (focus rfl); (focus rfl); (focus (go_simp; (try simp (disch := omega) only [wrap_in, wrap_in', wrap_u16, wrap_u8, wrap_u32, wrap_u64, rem_in, quo_in]); first | done | with_reducible rfl | (constructor <;> with_reducible rfl))))
            | apply d_block
            | (apply d_true; (focus rfl); (focus rfl))
            | (apply d_false; (focus rfl); (focus rfl))
            | apply d_skip
            | apply d_exit
            | apply d_ret
            | with_reducible apply kt_ret
            | with_reducible apply kt_exit
            | with_reducible apply kb_normal
            | with_reducible apply kb_ret
            | with_reducible apply kb_here
            | with_reducible apply kl_ret
            | with_reducible apply kl_exit
            | with_reducible apply kc_ret
            | with_reducible apply kc_exit
            | (with_reducible apply kb_there; (focus rfl))
          refine d_join (fun D wr => ∃ (lim1 : Nat) (d2 : Array Int), lim1 ≤ 100 ∧ D = [(0, .slice (some ⟨g, 0, none⟩) n c), (1, .int .i64 a), (2, .int .i64 b), (3, .int .i64 lim1), (8, .bool wb), (9, .bool wp), (10, .int .i64 l)] ∧ Hid (SortK w g wr ∧ RowB wr g t d2 ∧ PQ a0 b0 d n a b d2)) ?_ (fun D wr hcut => ?_)
          · cases wb
            · have hi := brk_any g c t d1 a b wr HX.out.2.1 (by omega) hc' (by omega) (by omega) (by omega) (by omega)
              rw [hz1] at hi
              obtain ⟨lm, hlm⟩ : ∃ q, lim = q + 1 := ⟨lim - 1, by omega⟩
              have k2 : (lim : Int) - 1 = lm := by omega
              have hlm2 : lm ≤ 100 := by omega
              have HI := Lib.hid hi
              have HL := Lib.hid hl
              have HLM := Lib.hid hlm
              clear hi hl hlm
              repeat first
                | apply d_seq
                | with_reducible apply kt_normal
                | apply l_nil
                | apply d_region
                | (apply l_off; (focus rfl); (focus rfl))
                | (apply l_val; (focus rfl); (focus rfl); (focus rfl); (focus (go_simp; (try simp (disch := omega) only [wrap_in, wrap_in', wrap_u16, wrap_u8, wrap_u32, wrap_u64, rem_in, quo_in]); first | done | with_reducible rfl | (constructor <;> with_reducible rfl))))
                | (apply l_store; (focus rfl); (focus rfl); (focus rfl); (focus (go_simp; (try simp (disch := omega) only [wrap_in, wrap_in', wrap_u16, wrap_u8, wrap_u32, wrap_u64, rem_in, quo_in]); first | done | with_reducible rfl | (constructor <;> with_reducible rfl))))
                | apply d_block
                | (apply d_true; (focus rfl); (focus rfl))
                | (apply d_false; (focus rfl); (focus rfl))
                | apply d_skip
                | apply d_exit
                | apply d_ret
                | with_reducible apply kt_ret
                | with_reducible apply kt_exit
                | with_reducible apply kb_normal
                | with_reducible apply kb_ret
                | with_reducible apply kb_here
                | with_reducible apply kl_ret
                | with_reducible apply kl_exit
                | with_reducible apply kc_ret
                | with_reducible apply kc_exit
                | (with_reducible apply kb_there; (focus rfl))
              refine l_call rfl rfl rfl (by first | (go_simp; done) | (go_simp; rfl)) (HI.out) ?_
              rintro e w1 ⟨d2, rfl, hk1, hk2, hk3⟩
              have HF := Lib.hid (show SortK w g w1 ∧ RowB w1 g t d2 ∧ PQ a0 b0 d n a b d2 from ⟨HX.out.1.trans hk1, hk2, HX.out.2.2.perm hk3⟩)
              clear hk1 hk2 hk3
              refine ⟨_, rfl, ?_⟩
              repeat first
                | apply d_seq
                | with_reducible apply kt_normal
                | apply l_nil
                | apply d_region
                | (apply l_off; (focus rfl); (focus rfl))
                | (apply l_val; (focus rfl); (focus rfl); (focus rfl); (focus (go_simp; (try simp (disch := omega) only [wrap_in, wrap_in', wrap_u16, wrap_u8, wrap_u32, wrap_u64, rem_in, quo_in]); first | done | with_reducible rfl | (constructor <;> with_reducible rfl))))
                | (apply l_store; (focus rfl); (focus rfl); (focus rfl); (focus (go_simp; (try simp (disch := omega) only [wrap_in, wrap_in', wrap_u16, wrap_u8, wrap_u32, wrap_u64, rem_in, quo_in]); first | done | with_reducible rfl | (constructor <;> with_reducible rfl))))
                | apply d_block
                | (apply d_true; (focus rfl); (focus rfl))
                | (apply d_false; (focus rfl); (focus rfl))
                | apply d_skip
                | apply d_exit
                | apply d_ret
                | with_reducible apply kt_ret
                | with_reducible apply kt_exit
                | with_reducible apply kb_normal
                | with_reducible apply kb_ret
                | with_reducible apply kb_here
                | with_reducible apply kl_ret
                | with_reducible apply kl_exit
                | with_reducible apply kc_ret
                | with_reducible apply kc_exit
                | (with_reducible apply kb_there; (focus rfl))
              refine kc_normal _ (Subl.cons (t := 0) (by decide) rfl (Subl.cons (t := 1) (by decide) rfl (Subl.cons (t := 2) (by decide) rfl (Subl.cons (t := 3) (by decide) rfl (Subl.cons (t := 8) (by decide) rfl (Subl.cons (t := 9) (by decide) rfl (Subl.cons (t := 10) (by decide) rfl (Subl.nil _ _)))))))) ?_
              exact ⟨lm, d2, hlm2, rfl, HF⟩
            · repeat first
                | apply d_seq
                | with_reducible apply kt_normal
                | apply l_nil
                | apply d_region
                | (apply l_off; (focus rfl); (focus rfl))
                | (apply l_val; (focus rfl); (focus rfl); (focus rfl); (focus (go_simp; (try simp (disch := omega) only [wrap_in, wrap_in', wrap_u16, wrap_u8, wrap_u32, wrap_u64, rem_in, quo_in]); first | done | with_reducible rfl | (constructor <;> with_reducible rfl))))
                | (apply l_store; (focus rfl); (focus rfl); (focus rfl); (focus (go_simp; (try simp (disch := omega) only [wrap_in, wrap_in', wrap_u16, wrap_u8, wrap_u32, wrap_u64, rem_in, quo_in]); first | done | with_reducible rfl | (constructor <;> with_reducible rfl))))
                | apply d_block
                | (apply d_true; (focus rfl); (focus rfl))
                | (apply d_false; (focus rfl); (focus rfl))
                | apply d_skip
                | apply d_exit
                | apply d_ret
                | with_reducible apply kt_ret
                | with_reducible apply kt_exit
                | with_reducible apply kb_normal
                | with_reducible apply kb_ret
                | with_reducible apply kb_here
                | with_reducible apply kl_ret
                | with_reducible apply kl_exit
                | with_reducible apply kc_ret
                | with_reducible apply kc_exit
                | (with_reducible apply kb_there; (focus rfl))
              refine kc_normal _ (Subl.cons (t := 0) (by decide) rfl (Subl.cons (t := 1) (by decide) rfl (Subl.cons (t := 2) (by decide) rfl (Subl.cons (t := 3) (by decide) rfl (Subl.cons (t := 8) (by decide) rfl (Subl.cons (t := 9) (by decide) rfl (Subl.cons (t := 10) (by decide) rfl (Subl.nil _ _)))))))) ?_
              exact ⟨lim, d1, hlim1, rfl, HX⟩
          · clear HX q2 hl0 hz1 hlim1
            obtain ⟨lim1, d2, hlim1, rfl, HX⟩ := hcut
            have hz1 := HX.out.2.2.size
            have hi := piv_any g c t d2 a b wr HX.out.2.1 (by omega) hc' (by omega) (by omega) (by omega) (by omega)
            rw [hz1] at hi
            have HI := Lib.hid hi
            clear hi
            repeat first
              | apply d_seq
              | with_reducible apply kt_normal
              | apply l_nil
              | apply d_region
              | (apply l_off; (focus rfl); (focus rfl))
              | (apply l_val; (focus rfl); (focus rfl); (focus rfl); (focus (go_simp; (try simp (disch := omega) only [wrap_in, wrap_in', wrap_u16, wrap_u8, wrap_u32, wrap_u64, rem_in, quo_in]); first | done | with_reducible rfl | (constructor <;> with_reducible rfl))))
              | (apply l_store; (focus rfl); (focus rfl); (focus rfl); (focus (go_simp; (try simp (disch := omega) only [wrap_in, wrap_in', wrap_u16, wrap_u8, wrap_u32, wrap_u64, rem_in, quo_in]); first | done | with_reducible rfl | (constructor <;> with_reducible rfl))))
              | apply d_block
              | (apply d_true; (focus rfl); (focus rfl))
              | (apply d_false; (focus rfl); (focus rfl))
              | apply d_skip
              | apply d_exit
              | apply d_ret
              | with_reducible apply kt_ret
              | with_reducible apply kt_exit
              | with_reducible apply kb_normal
              | with_reducible apply kb_ret
              | with_reducible apply kb_here
              | with_reducible apply kl_ret
              | with_reducible apply kl_exit
              | with_reducible apply kc_ret
              | with_reducible apply kc_exit
              | (with_reducible apply kb_there; (focus rfl))
            refine l_call rfl rfl rfl (by first | (go_simp; done) | (go_simp; rfl)) (HI.out) ?_
            rintro e w1 ⟨p, k, rfl, hp, hk, hk1⟩
            have HX1 := Lib.hid (show SortK w g w1 ∧ RowB w1 g t d2 ∧ PQ a0 b0 d n a b d2 from ⟨HX.out.1.trans (hk1.mono fun _ e => e.elim), by have := hk1.block g (lt_of_block HX.out.2.1) (fun e => e); unfold RowB; rw [this]; exact HX.out.2.1, HX.out.2.2⟩)
            clear HX hk1
            have q3 : (k == 2) = false := by rcases hk with rfl | rfl <;> rfl
            refine ⟨_, rfl, ?_⟩
            repeat first
              | ((fail_if_success (with_reducible refine d_at_region (id := 15) ?_)); apply d_seq)
              | with_reducible apply kt_normal
              | apply l_nil
              | apply d_region
              | (apply l_off; (focus rfl); (focus rfl))
              | (apply l_val; (focus rfl); (focus rfl); (focus rfl); (focus (go_simp; (try simp (disch := omega) only [wrap_in, wrap_in', wrap_u16, wrap_u8, wrap_u32, wrap_u64, rem_in, quo_in]); first | done | with_reducible rfl | (constructor <;> with_reducible rfl))))
              | (apply l_store; (focus rfl); (focus rfl); (focus rfl); (focus (go_simp; (try simp (disch := omega) only [wrap_in, wrap_in', wrap_u16, wrap_u8, wrap_u32, wrap_u64, rem_in, quo_in]); first | done | with_reducible rfl | (constructor <;> with_reducible rfl))))
              | apply d_block
              | (apply d_true; (focus rfl); (focus rfl))
              | (apply d_false; (focus rfl); (focus rfl))
              | apply d_skip
              | apply d_exit
              | apply d_ret
              | with_reducible apply kt_ret
              | with_reducible apply kt_exit
              | with_reducible apply kb_normal
              | with_reducible apply kb_ret
              | with_reducible apply kb_here
              | with_reducible apply kl_ret
              | with_reducible apply kl_exit
              | with_reducible apply kc_ret
              | with_reducible apply kc_exit
              | (with_reducible apply kb_there; (focus rfl))
            refine d_join (fun D wr => D = [(0, .slice (some ⟨g, 0, none⟩) n c), (1, .int .i64 a), (2, .int .i64 b), (3, .int .i64 lim1), (8, .bool wb), (9, .bool wp), (10, .int .i64 l), (11, .int .i64 p)] ∧ Hid (SortK w g wr ∧ RowB wr g t d2 ∧ PQ a0 b0 d n a b d2)) ?_ (fun D wr hcut => ?_)
            · by_cases hcnd : wb = true ∧ wp = true ∧ k = 1
              · obtain ⟨rfl, rfl, rfl⟩ := hcnd
                have hi := pins_any g c t d2 a b w1 HX1.out.2.1 (by omega) hc' (by omega) (by omega) (by omega) (by omega)
                rw [hz1] at hi
                have HI := Lib.hid hi
                clear hi
                repeat first
                  | apply d_seq
                  | with_reducible apply kt_normal
                  | apply l_nil
                  | apply d_region
                  | (apply l_off; (focus rfl); (focus rfl))
                  | (apply l_val; (focus rfl); (focus rfl); (focus rfl); (focus (go_simp; (try simp (disch := omega) only [wrap_in, wrap_in', wrap_u16, wrap_u8, wrap_u32, wrap_u64, rem_in, quo_in]); first | done | with_reducible rfl | (constructor <;> with_reducible rfl))))
                  | (apply l_store; (focus rfl); (focus rfl); (focus rfl); (focus (go_simp; (try simp (disch := omega) only [wrap_in, wrap_in', wrap_u16, wrap_u8, wrap_u32, wrap_u64, rem_in, quo_in]); first | done | with_reducible rfl | (constructor <;> with_reducible rfl))))
                  | apply d_block
                  | (apply d_true; (focus rfl); (focus rfl))
                  | (apply d_false; (focus rfl); (focus rfl))
                  | apply d_skip
                  | apply d_exit
                  | apply d_ret
                  | with_reducible apply kt_ret
                  | with_reducible apply kt_exit
                  | with_reducible apply kb_normal
                  | with_reducible apply kb_ret
                  | with_reducible apply kb_here
                  | with_reducible apply kl_ret
                  | with_reducible apply kl_exit
                  | with_reducible apply kc_ret
                  | with_reducible apply kc_exit
                  | (with_reducible apply kb_there; (focus rfl))
                refine l_call rfl rfl rfl (by first | (go_simp; done) | (go_simp; rfl)) (HI.out) ?_
                rintro e w2 ⟨r, rfl, hk1, hk2, hk3⟩
                have HX2 := Lib.hid (show SortK w g w2 ∧ RowB w2 g t d2 ∧ PQ a0 b0 d n a b d2 from ⟨HX1.out.1.trans hk1, hk2, HX1.out.2.2⟩)
                have HSo := Lib.hid hk3
                clear hk1 hk2 hk3
                refine ⟨_, rfl, ?_⟩
                cases r
                · repeat first
                    | apply d_seq
                    | with_reducible apply kt_normal
                    | apply l_nil
                    | apply d_region
                    | (apply l_off; (focus rfl); (focus rfl))
                    | (apply l_val; (focus rfl); (focus rfl); (focus rfl); (focus (go_simp; (try simp (disch := omega) only [wrap_in, wrap_in', wrap_u16, wrap_u8, wrap_u32, wrap_u64, rem_in, quo_in]); first | done | with_reducible rfl | (constructor <;> with_reducible rfl))))
                    | (apply l_store; (focus rfl); (focus rfl); (focus rfl); (focus (go_simp; (try simp (disch := omega) only [wrap_in, wrap_in', wrap_u16, wrap_u8, wrap_u32, wrap_u64, rem_in, quo_in]); first | done | with_reducible rfl | (constructor <;> with_reducible rfl))))
                    | apply d_block
                    | (apply d_true; (focus rfl); (focus rfl))
                    | (apply d_false; (focus rfl); (focus rfl))
                    | apply d_skip
                    | apply d_exit
                    | apply d_ret
                    | with_reducible apply kt_ret
                    | with_reducible apply kt_exit
                    | with_reducible apply kb_normal
                    | with_reducible apply kb_ret
                    | with_reducible apply kb_here
                    | with_reducible apply kl_ret
                    | with_reducible apply kl_exit
                    | with_reducible apply kc_ret
                    | with_reducible apply kc_exit
                    | (with_reducible apply kb_there; (focus rfl))
                  refine kc_normal _ (Subl.cons (t := 0) (by decide) rfl (Subl.cons (t := 1) (by decide) rfl (Subl.cons (t := 2) (by decide) rfl (Subl.cons (t := 3) (by decide) rfl (Subl.cons (t := 8) (by decide) rfl (Subl.cons (t := 9) (by decide) rfl (Subl.cons (t := 10) (by decide) rfl (Subl.cons (t := 11) (by decide) rfl (Subl.nil _ _))))))))) ?_
                  exact ⟨rfl, HX2⟩
                · repeat first
                    | apply d_seq
                    | with_reducible apply kt_normal
                    | apply l_nil
                    | apply d_region
                    | (apply l_off; (focus rfl); (focus rfl))
                    | (apply l_val; (focus rfl); (focus rfl); (focus rfl); (focus (go_simp; (try simp (disch := omega) only [wrap_in, wrap_in', wrap_u16, wrap_u8, wrap_u32, wrap_u64, rem_in, quo_in]); first | done | with_reducible rfl | (constructor <;> with_reducible rfl))))
                    | (apply l_store; (focus rfl); (focus rfl); (focus rfl); (focus (go_simp; (try simp (disch := omega) only [wrap_in, wrap_in', wrap_u16, wrap_u8, wrap_u32, wrap_u64, rem_in, quo_in]); first | done | with_reducible rfl | (constructor <;> with_reducible rfl))))
                    | apply d_block
                    | (apply d_true; (focus rfl); (focus rfl))
                    | (apply d_false; (focus rfl); (focus rfl))
                    | apply d_skip
                    | apply d_exit
                    | apply d_ret
                    | with_reducible apply kt_ret
                    | with_reducible apply kt_exit
                    | with_reducible apply kb_normal
                    | with_reducible apply kb_ret
                    | with_reducible apply kb_here
                    | with_reducible apply kl_ret
                    | with_reducible apply kl_exit
                    | with_reducible apply kc_ret
                    | with_reducible apply kc_exit
                    | (with_reducible apply kb_there; (focus rfl))
                  refine ⟨rfl, _, (by first | (simp [resultsG, resOne, Try.results35, rho, List.lookup]; done) | (simp [resultsG, resOne, Try.results35, rho, List.lookup]; rfl)), ?_⟩
                  exact ⟨d2, rfl, HX2.out.1, HX2.out.2.1, HX2.out.2.2.goal d2 (permIn_refl _ _ _) (HSo.out rfl)⟩
              · rcases hk with rfl | rfl
                all_goals cases wb
                all_goals cases wp
                all_goals first | exact absurd ⟨rfl, rfl, rfl⟩ hcnd | skip
                all_goals
                  repeat first
                    | apply d_seq
                    | with_reducible apply kt_normal
                    | apply l_nil
                    | apply d_region
                    | (apply l_off; (focus rfl); (focus rfl))
                    | (apply l_val; (focus rfl); (focus rfl); (focus rfl); (focus (go_simp; (try simp (disch := omega) only [wrap_in, wrap_in', wrap_u16, wrap_u8, wrap_u32, wrap_u64, rem_in, quo_in]); first | done | with_reducible rfl | (constructor <;> with_reducible rfl))))
                    | (apply l_store; (focus rfl); (focus rfl); (focus rfl); (focus (go_simp; (try simp (disch := omega) only [wrap_in, wrap_in', wrap_u16, wrap_u8, wrap_u32, wrap_u64, rem_in, quo_in]); first | done | with_reducible rfl | (constructor <;> with_reducible rfl))))
                    | apply d_block
                    | (apply d_true; (focus rfl); (focus rfl))
                    | (apply d_false; (focus rfl); (focus rfl))
                    | apply d_skip
                    | apply d_exit
                    | apply d_ret
                    | with_reducible apply kt_ret
                    | with_reducible apply kt_exit
                    | with_reducible apply kb_normal
                    | with_reducible apply kb_ret
                    | with_reducible apply kb_here
                    | with_reducible apply kl_ret
                    | with_reducible apply kl_exit
                    | with_reducible apply kc_ret
                    | with_reducible apply kc_exit
                    | (with_reducible apply kb_there; (focus rfl))
                  refine kc_normal _ (Subl.cons (t := 0) (by decide) rfl (Subl.cons (t := 1) (by decide) rfl (Subl.cons (t := 2) (by decide) rfl (Subl.cons (t := 3) (by decide) rfl (Subl.cons (t := 8) (by decide) rfl (Subl.cons (t := 9) (by decide) rfl (Subl.cons (t := 10) (by decide) rfl (Subl.cons (t := 11) (by decide) rfl (Subl.nil _ _))))))))) ?_
                  exact ⟨rfl, HX1⟩
            · clear HX1 q3 hk
              obtain ⟨rfl, HX⟩ := hcut
              obtain ⟨hp1, hp2⟩ := hp
              repeat first
                | ((fail_if_success (with_reducible refine d_at_region (id := 17) ?_)); apply d_seq)
                | with_reducible apply kt_normal
                | apply l_nil
                | apply d_region
                | (apply l_off; (focus rfl); (focus rfl))
                | (apply l_val; (focus rfl); (focus rfl); (focus rfl); (focus (go_simp; (try simp (disch := omega) only [wrap_in, wrap_in', wrap_u16, wrap_u8, wrap_u32, wrap_u64, rem_in, quo_in]); first | done | with_reducible rfl | (constructor <;> with_reducible rfl))))
                | (apply l_store; (focus rfl); (focus rfl); (focus rfl); (focus (go_simp; (try simp (disch := omega) only [wrap_in, wrap_in', wrap_u16, wrap_u8, wrap_u32, wrap_u64, rem_in, quo_in]); first | done | with_reducible rfl | (constructor <;> with_reducible rfl))))
                | apply d_block
                | (apply d_true; (focus rfl); (focus rfl))
                | (apply d_false; (focus rfl); (focus rfl))
                | apply d_skip
                | apply d_exit
                | apply d_ret
                | with_reducible apply kt_ret
                | with_reducible apply kt_exit
                | with_reducible apply kb_normal
                | with_reducible apply kb_ret
                | with_reducible apply kb_here
                | with_reducible apply kl_ret
                | with_reducible apply kl_exit
                | with_reducible apply kc_ret
                | with_reducible apply kc_exit
                | (with_reducible apply kb_there; (focus rfl))
              refine d_join (fun D wr => D = [(0, .slice (some ⟨g, 0, none⟩) n c), (1, .int .i64 a), (2, .int .i64 b), (3, .int .i64 lim1), (10, .int .i64 l), (11, .int .i64 p)] ∧ Hid (SortK w g wr ∧ RowB wr g t d2 ∧ PQ a0 b0 d n a b d2)) ?_ (fun D wr hcut => ?_)
              · by_cases ha0 : 0 < a
                · obtain ⟨q, hq⟩ : ∃ q, a = q + 1 := ⟨a - 1, by omega⟩
                  have k3 : (a : Int) - 1 = q := by omega
                  have hq4 : a - 1 = q := by omega
                  have q3 : decide ((0 : Int) < (a : Int)) = true := decide_eq_true (by omega)
                  have x1 := HX.out.2.1.cell (i := q) (by omega)
                  have x0 := HX.out.2.1.cell (i := p) (by omega)
                  have s1 : q < n := by omega
                  have s0 : p < n := by omega
                  obtain ⟨x, hx⟩ : ∃ x, d2[q]! = x := ⟨_, rfl⟩
                  obtain ⟨y, hy⟩ : ∃ y, d2[p]! = y := ⟨_, rfl⟩
                  rw [hx] at x1
                  rw [hy] at x0
                  obtain ⟨bb, hbb⟩ : ∃ bb, ltInt x y = bb := ⟨_, rfl⟩
                  have hl2 := fun W => less_any x y W
                  simp only [hbb] at hl2
                  have he : ltInt d2[a - 1]! d2[p]! = bb := by rw [hq4, hx, hy]; exact hbb
                  clear hx hy hbb
                  have HL2 := Lib.hid hl2
                  have HE := Lib.hid he
                  have HQ := Lib.hid hq
                  have HQ4 := Lib.hid hq4
                  clear hl2 he hq hq4
                  repeat first
                    | apply d_seq
                    | with_reducible apply kt_normal
                    | apply l_nil
                    | apply d_region
                    | (apply l_off; (focus rfl); (focus rfl))
                    | (apply l_val; (focus rfl); (focus rfl); (focus rfl); (focus (go_simp; (try simp (disch := omega) only [wrap_in, wrap_in', wrap_u16, wrap_u8, wrap_u32, wrap_u64, rem_in, quo_in]); first | done | with_reducible rfl | (constructor <;> with_reducible rfl))))
                    | (apply l_store; (focus rfl); (focus rfl); (focus rfl); (focus (go_simp; (try simp (disch := omega) only [wrap_in, wrap_in', wrap_u16, wrap_u8, wrap_u32, wrap_u64, rem_in, quo_in]); first | done | with_reducible rfl | (constructor <;> with_reducible rfl))))
                    | apply d_block
                    | (apply d_true; (focus rfl); (focus rfl))
                    | (apply d_false; (focus rfl); (focus rfl))
                    | apply d_skip
                    | apply d_exit
                    | apply d_ret
                    | with_reducible apply kt_ret
                    | with_reducible apply kt_exit
                    | with_reducible apply kb_normal
                    | with_reducible apply kb_ret
                    | with_reducible apply kb_here
                    | with_reducible apply kl_ret
                    | with_reducible apply kl_exit
                    | with_reducible apply kc_ret
                    | with_reducible apply kc_exit
                    | (with_reducible apply kb_there; (focus rfl))
                  refine d_draw (true, [([], []), ([0], [0]), ([1], [1]), ([2], [2]), ([2], [2]), ([4, 2], [2, 4]), ([3, 5, 2], [2, 3, 5]), ([6, 2], [2, 6]), ([2], [2]), ([2], [2]), ([8, 9, 2], [2, 8, 9]), ([10, 2], [2, 10]), ([7, 11, 2, 2], [2, 7, 11]), ([12, 2], [2, 12]), ([2, 13], [2, 13])]) [(0, 0), (0, 1), (0, 2), (0, 3), (0, 4), (0, 5), (0, 6), (0, 7), (0, 8), (0, 9), (0, 10), (0, 11), (1, 12), (0, 13), (0, 14)] [999999] (fun W => W.cell? ⟨g, q, none⟩ = some (.int .u16 x) ∧ W.cell? ⟨g, p, none⟩ = some (.int .u16 y)) (by kernel_rfl) (by kernel_rfl) (by kernel_rfl) (by kernel_rfl) ⟨x1, x0⟩ ?_
                  iterate 12
                    first | (apply s_off; (focus rfl); (focus rfl); (focus rfl)) | (apply s_yield; (focus rfl); (focus rfl); (focus rfl); (focus rfl); (focus (intro W hS; obtain ⟨hS1, hS2⟩ := hS; go_simp; (try simp (disch := omega) only [wrap_in, wrap_in', wrap_u16, wrap_u8, wrap_u32, wrap_u64, rem_in, quo_in]); first | done | with_reducible rfl | (constructor <;> with_reducible rfl))))
                  refine s_call rfl rfl rfl rfl (by first | (go_simp; done) | (go_simp; rfl)) (HL2.out _) ?_
                  rintro e w' ⟨rfl, rfl⟩
                  refine ⟨_, rfl, ⟨x1, x0⟩, ?_⟩
                  iterate 2
                    first | (apply s_off; (focus rfl); (focus rfl); (focus rfl)) | (apply s_yield; (focus rfl); (focus rfl); (focus rfl); (focus rfl); (focus (intro W hS; obtain ⟨hS1, hS2⟩ := hS; go_simp; (try simp (disch := omega) only [wrap_in, wrap_in', wrap_u16, wrap_u8, wrap_u32, wrap_u64, rem_in, quo_in]); first | done | with_reducible rfl | (constructor <;> with_reducible rfl))))
                  refine s_done ?_
                  cases bb
                  · obtain ⟨mid, d4, hpe⟩ : ∃ mid d4, partitionEqual ltInt d2 a b p = (mid, d4) := ⟨_, _, rfl⟩
                    have hi := fun W h => parte_any g c t d2 a b p W h (by omega) hc' (by omega) hp1 hp2 (by omega)
                    rw [hz1, hpe] at hi
                    have hr := round_eq (lt := ltInt) swo_ltInt (partitionEqual_holds ltInt) ha0 hp1 hp2 (by omega) HX.out.2.2.below HE.out hpe
                    have hm1 := hr.1
                    have hm2 := hr.2.1
                    have HPQ := Lib.hid (show PQ a0 b0 d n mid b d4 from ⟨hr.2.2.1.trans hz1, hm2, hbn, hr.2.2.2.1, by have := HX.out.2.2.small; omega, fun R h1 h2 => by have := hr.2.2.2.2 R h1 h2; exact HX.out.2.2.goal R this.1 this.2⟩)
                    have HI := Lib.hid hi
                    have HPE := Lib.hid hpe
                    have HR := Lib.hid hr
                    clear hi hpe hr
                    repeat first
                      | apply d_seq
                      | with_reducible apply kt_normal
                      | apply l_nil
                      | apply d_region
                      | (apply l_off; (focus rfl); (focus rfl))
                      | (apply l_val; (focus rfl); (focus rfl); (focus rfl); (focus (go_simp; (try simp (disch := omega) only [wrap_in, wrap_in', wrap_u16, wrap_u8, wrap_u32, wrap_u64, rem_in, quo_in]); first | done | with_reducible rfl | (constructor <;> with_reducible rfl))))
                      | (apply l_store; (focus rfl); (focus rfl); (focus rfl); (focus (go_simp; (try simp (disch := omega) only [wrap_in, wrap_in', wrap_u16, wrap_u8, wrap_u32, wrap_u64, rem_in, quo_in]); first | done | with_reducible rfl | (constructor <;> with_reducible rfl))))
                      | apply d_block
                      | (apply d_true; (focus rfl); (focus rfl))
                      | (apply d_false; (focus rfl); (focus rfl))
                      | apply d_skip
                      | apply d_exit
                      | apply d_ret
                      | with_reducible apply kt_ret
                      | with_reducible apply kt_exit
                      | with_reducible apply kb_normal
                      | with_reducible apply kb_ret
                      | with_reducible apply kb_here
                      | with_reducible apply kl_ret
                      | with_reducible apply kl_exit
                      | with_reducible apply kc_ret
                      | with_reducible apply kc_exit
                      | (with_reducible apply kb_there; (focus rfl))
                    refine l_call rfl rfl rfl (by first | (go_simp; done) | (go_simp; rfl)) (HI.out _ HX.out.2.1) ?_
                    rintro e w2 ⟨rfl, hk1, hk2⟩
                    have HX2 := Lib.hid (show SortK w g w2 ∧ RowB w2 g t d4 ∧ PQ a0 b0 d n mid b d4 from ⟨HX.out.1.drew.trans hk1, hk2, HPQ.out⟩)
                    clear hk1 hk2
                    refine ⟨_, rfl, ?_⟩
                    repeat first
                      | apply d_seq
                      | with_reducible apply kt_normal
                      | apply l_nil
                      | apply d_region
                      | (apply l_off; (focus rfl); (focus rfl))
                      | (apply l_val; (focus rfl); (focus rfl); (focus rfl); (focus (go_simp; (try simp (disch := omega) only [wrap_in, wrap_in', wrap_u16, wrap_u8, wrap_u32, wrap_u64, rem_in, quo_in]); first | done | with_reducible rfl | (constructor <;> with_reducible rfl))))
                      | (apply l_store; (focus rfl); (focus rfl); (focus rfl); (focus (go_simp; (try simp (disch := omega) only [wrap_in, wrap_in', wrap_u16, wrap_u8, wrap_u32, wrap_u64, rem_in, quo_in]); first | done | with_reducible rfl | (constructor <;> with_reducible rfl))))
                      | apply d_block
                      | (apply d_true; (focus rfl); (focus rfl))
                      | (apply d_false; (focus rfl); (focus rfl))
                      | apply d_skip
                      | apply d_exit
                      | apply d_ret
                      | with_reducible apply kt_ret
                      | with_reducible apply kt_exit
                      | with_reducible apply kb_normal
                      | with_reducible apply kb_ret
                      | with_reducible apply kb_here
                      | with_reducible apply kl_ret
                      | with_reducible apply kl_exit
                      | with_reducible apply kc_ret
                      | with_reducible apply kc_exit
                      | (with_reducible apply kb_there; (focus rfl))
                    refine kl_normal (b - mid) _ (by omega) (Subl.cons (t := 0) (by decide) rfl (Subl.cons (t := 1) (by decide) rfl (Subl.cons (t := 2) (by decide) rfl (Subl.cons (t := 3) (by decide) rfl (Subl.cons (t := 8) (by decide) rfl (Subl.cons (t := 9) (by decide) rfl (Subl.nil _ _))))))) ?_
                    exact ⟨mid, b, lim1, d4, wb, wp, rfl, hm2, hbn, hlim1, rfl, HX2⟩
                  · repeat first
                      | apply d_seq
                      | with_reducible apply kt_normal
                      | apply l_nil
                      | apply d_region
                      | (apply l_off; (focus rfl); (focus rfl))
                      | (apply l_val; (focus rfl); (focus rfl); (focus rfl); (focus (go_simp; (try simp (disch := omega) only [wrap_in, wrap_in', wrap_u16, wrap_u8, wrap_u32, wrap_u64, rem_in, quo_in]); first | done | with_reducible rfl | (constructor <;> with_reducible rfl))))
                      | (apply l_store; (focus rfl); (focus rfl); (focus rfl); (focus (go_simp; (try simp (disch := omega) only [wrap_in, wrap_in', wrap_u16, wrap_u8, wrap_u32, wrap_u64, rem_in, quo_in]); first | done | with_reducible rfl | (constructor <;> with_reducible rfl))))
                      | apply d_block
                      | (apply d_true; (focus rfl); (focus rfl))
                      | (apply d_false; (focus rfl); (focus rfl))
                      | apply d_skip
                      | apply d_exit
                      | apply d_ret
                      | with_reducible apply kt_ret
                      | with_reducible apply kt_exit
                      | with_reducible apply kb_normal
                      | with_reducible apply kb_ret
                      | with_reducible apply kb_here
                      | with_reducible apply kl_ret
                      | with_reducible apply kl_exit
                      | with_reducible apply kc_ret
                      | with_reducible apply kc_exit
                      | (with_reducible apply kb_there; (focus rfl))
                    refine kc_normal _ (Subl.cons (t := 0) (by decide) rfl (Subl.cons (t := 1) (by decide) rfl (Subl.cons (t := 2) (by decide) rfl (Subl.cons (t := 3) (by decide) rfl (Subl.cons (t := 10) (by decide) rfl (Subl.cons (t := 11) (by decide) rfl (Subl.nil _ _))))))) ?_
                    exact ⟨rfl, Lib.hid ⟨HX.out.1.drew, HX.out.2.1, HX.out.2.2⟩⟩
                · have q3 : decide ((0 : Int) < (a : Int)) = false := decide_eq_false (by omega)
                  repeat first
                    | apply d_seq
                    | with_reducible apply kt_normal
                    | apply l_nil
                    | apply d_region
                    | (apply l_off; (focus rfl); (focus rfl))
                    | (apply l_val; (focus rfl); (focus rfl); (focus rfl); (focus (go_simp; (try simp (disch := omega) only [wrap_in, wrap_in', wrap_u16, wrap_u8, wrap_u32, wrap_u64, rem_in, quo_in]); first | done | with_reducible rfl | (constructor <;> with_reducible rfl))))
                    | (apply l_store; (focus rfl); (focus rfl); (focus rfl); (focus (go_simp; (try simp (disch := omega) only [wrap_in, wrap_in', wrap_u16, wrap_u8, wrap_u32, wrap_u64, rem_in, quo_in]); first | done | with_reducible rfl | (constructor <;> with_reducible rfl))))
                    | apply d_block
                    | (apply d_true; (focus rfl); (focus rfl))
                    | (apply d_false; (focus rfl); (focus rfl))
                    | apply d_skip
                    | apply d_exit
                    | apply d_ret
                    | with_reducible apply kt_ret
                    | with_reducible apply kt_exit
                    | with_reducible apply kb_normal
                    | with_reducible apply kb_ret
                    | with_reducible apply kb_here
                    | with_reducible apply kl_ret
                    | with_reducible apply kl_exit
                    | with_reducible apply kc_ret
                    | with_reducible apply kc_exit
                    | (with_reducible apply kb_there; (focus rfl))
                  refine d_draw (true, [([], []), ([0], [0]), ([1], [1]), ([2], [2]), ([2], [2]), ([4, 2], [2, 4]), ([3, 5, 2], [2, 3, 5]), ([6, 2], [2, 6]), ([2], [2]), ([2], [2]), ([8, 9, 2], [2, 8, 9]), ([10, 2], [2, 10]), ([7, 11, 2, 2], [2, 7, 11]), ([12, 2], [2, 12]), ([2, 13], [2, 13])]) [(0, 0), (0, 1), (0, 2), (0, 3), (0, 4), (0, 5), (0, 6), (0, 7), (0, 8), (0, 9), (0, 10), (0, 11), (1, 12), (0, 13), (0, 14)] [999999] (fun W => True) (by kernel_rfl) (by kernel_rfl) (by kernel_rfl) (by kernel_rfl) trivial ?_
                  iterate 12
                    first | (apply s_off; (focus rfl); (focus rfl); (focus rfl)) | (apply s_yield; (focus rfl); (focus rfl); (focus rfl); (focus rfl); (focus (intro W hS; go_simp; (try simp (disch := omega) only [wrap_in, wrap_in', wrap_u16, wrap_u8, wrap_u32, wrap_u64, rem_in, quo_in]); first | done | with_reducible rfl | (constructor <;> with_reducible rfl))))
                  refine s_nocall rfl rfl rfl trivial ?_
                  iterate 2
                    first | (apply s_off; (focus rfl); (focus rfl); (focus rfl)) | (apply s_yield; (focus rfl); (focus rfl); (focus rfl); (focus rfl); (focus (intro W hS; go_simp; (try simp (disch := omega) only [wrap_in, wrap_in', wrap_u16, wrap_u8, wrap_u32, wrap_u64, rem_in, quo_in]); first | done | with_reducible rfl | (constructor <;> with_reducible rfl))))
                  refine s_done ?_
                  repeat first
                    | apply d_seq
                    | with_reducible apply kt_normal
                    | apply l_nil
                    | apply d_region
                    | (apply l_off; (focus rfl); (focus rfl))
                    | (apply l_val; (focus rfl); (focus rfl); (focus rfl); (focus (go_simp; (try simp (disch := omega) only [wrap_in, wrap_in', wrap_u16, wrap_u8, wrap_u32, wrap_u64, rem_in, quo_in]); first | done | with_reducible rfl | (constructor <;> with_reducible rfl))))
                    | (apply l_store; (focus rfl); (focus rfl); (focus rfl); (focus (go_simp; (try simp (disch := omega) only [wrap_in, wrap_in', wrap_u16, wrap_u8, wrap_u32, wrap_u64, rem_in, quo_in]); first | done | with_reducible rfl | (constructor <;> with_reducible rfl))))
                    | apply d_block
                    | (apply d_true; (focus rfl); (focus rfl))
                    | (apply d_false; (focus rfl); (focus rfl))
                    | apply d_skip
                    | apply d_exit
                    | apply d_ret
                    | with_reducible apply kt_ret
                    | with_reducible apply kt_exit
                    | with_reducible apply kb_normal
                    | with_reducible apply kb_ret
                    | with_reducible apply kb_here
                    | with_reducible apply kl_ret
                    | with_reducible apply kl_exit
                    | with_reducible apply kc_ret
                    | with_reducible apply kc_exit
                    | (with_reducible apply kb_there; (focus rfl))
                  refine kc_normal _ (Subl.cons (t := 0) (by decide) rfl (Subl.cons (t := 1) (by decide) rfl (Subl.cons (t := 2) (by decide) rfl (Subl.cons (t := 3) (by decide) rfl (Subl.cons (t := 10) (by decide) rfl (Subl.cons (t := 11) (by decide) rfl (Subl.nil _ _))))))) ?_
                  exact ⟨rfl, Lib.hid ⟨HX.out.1.drew, HX.out.2.1, HX.out.2.2⟩⟩
              · clear HX
                obtain ⟨rfl, HX⟩ := hcut
                obtain ⟨mid, ap, d4, hpt⟩ : ∃ mid ap d4, partition ltInt d2 a b p = (mid, ap, d4) := ⟨_, _, _, rfl⟩
                have hi := fun W h => part_any g c t d2 a b p W h (by omega) hc' (by omega) hp1 hp2 (by omega)
                rw [hz1, hpt] at hi
                have hr := round_part (lt := ltInt) swo_ltInt (partition_holds ltInt) hp1 hp2 (by omega) HX.out.2.2.below hpt
                have hm1 := hr.1
                have hm2 := hr.2.1
                have hz4 : d4.size = n := hr.2.2.1.trans hz1
                have hsm := HX.out.2.2.small
                have HI := Lib.hid hi
                have HPT := Lib.hid hpt
                have HR := Lib.hid hr
                clear hi hpt hr
                repeat first
                  | apply d_seq
                  | with_reducible apply kt_normal
                  | apply l_nil
                  | apply d_region
                  | (apply l_off; (focus rfl); (focus rfl))
                  | (apply l_val; (focus rfl); (focus rfl); (focus rfl); (focus (go_simp; (try simp (disch := omega) only [wrap_in, wrap_in', wrap_u16, wrap_u8, wrap_u32, wrap_u64, rem_in, quo_in]); first | done | with_reducible rfl | (constructor <;> with_reducible rfl))))
                  | (apply l_store; (focus rfl); (focus rfl); (focus rfl); (focus (go_simp; (try simp (disch := omega) only [wrap_in, wrap_in', wrap_u16, wrap_u8, wrap_u32, wrap_u64, rem_in, quo_in]); first | done | with_reducible rfl | (constructor <;> with_reducible rfl))))
                  | apply d_block
                  | (apply d_true; (focus rfl); (focus rfl))
                  | (apply d_false; (focus rfl); (focus rfl))
                  | apply d_skip
                  | apply d_exit
                  | apply d_ret
                  | with_reducible apply kt_ret
                  | with_reducible apply kt_exit
                  | with_reducible apply kb_normal
                  | with_reducible apply kb_ret
                  | with_reducible apply kb_here
                  | with_reducible apply kl_ret
                  | with_reducible apply kl_exit
                  | with_reducible apply kc_ret
                  | with_reducible apply kc_exit
                  | (with_reducible apply kb_there; (focus rfl))
                refine l_call rfl rfl rfl (by first | (go_simp; done) | (go_simp; rfl)) (HI.out _ HX.out.2.1) ?_
                rintro e w2 ⟨rfl, hk1, hk2⟩
                have HX2 := Lib.hid (show SortK w g w2 ∧ RowB w2 g t d4 from ⟨HX.out.1.trans hk1, hk2⟩)
                clear hk1 hk2
                refine ⟨_, rfl, ?_⟩
                obtain ⟨l8, hl8⟩ : ∃ q, l / 8 = q := ⟨_, rfl⟩
                have k4 : (l : Int) / 8 = l8 := by omega
                obtain ⟨ll, hll⟩ : ∃ q, mid - a = q := ⟨_, rfl⟩
                have k5 : (mid : Int) - (a : Int) = ll := by omega
                obtain ⟨rl, hrl⟩ : ∃ q, b - mid = q := ⟨_, rfl⟩
                have k6 : (b : Int) - (mid : Int) = rl := by omega
                have HL8 := Lib.hid hl8
                have HLL := Lib.hid hll
                have HRL := Lib.hid hrl
                clear hl8 hll hrl
                by_cases hlr : ll < rl
                · have q4 : decide ((ll : Int) < (rl : Int)) = true := decide_eq_true (by omega)
                  have hi := IH.out (mid - a) (by omega) d4 a mid lim1 w2 rfl HX2.out.2 (by omega) hc' (by omega) hm1 (by omega) hlim1 HR.out.2.2.2.1
                  rw [hz4] at hi
                  have HI := Lib.hid hi
                  clear hi
                  repeat first
                    | apply d_seq
                    | with_reducible apply kt_normal
                    | apply l_nil
                    | apply d_region
                    | (apply l_off; (focus rfl); (focus rfl))
                    | (apply l_val; (focus rfl); (focus rfl); (focus rfl); (focus (go_simp; (try simp (disch := omega) only [wrap_in, wrap_in', wrap_u16, wrap_u8, wrap_u32, wrap_u64, rem_in, quo_in]); first | done | with_reducible rfl | (constructor <;> with_reducible rfl))))
                    | (apply l_store; (focus rfl); (focus rfl); (focus rfl); (focus (go_simp; (try simp (disch := omega) only [wrap_in, wrap_in', wrap_u16, wrap_u8, wrap_u32, wrap_u64, rem_in, quo_in]); first | done | with_reducible rfl | (constructor <;> with_reducible rfl))))
                    | apply d_block
                    | (apply d_true; (focus rfl); (focus rfl))
                    | (apply d_false; (focus rfl); (focus rfl))
                    | apply d_skip
                    | apply d_exit
                    | apply d_ret
                    | with_reducible apply kt_ret
                    | with_reducible apply kt_exit
                    | with_reducible apply kb_normal
                    | with_reducible apply kb_ret
                    | with_reducible apply kb_here
                    | with_reducible apply kl_ret
                    | with_reducible apply kl_exit
                    | with_reducible apply kc_ret
                    | with_reducible apply kc_exit
                    | (with_reducible apply kb_there; (focus rfl))
                  refine l_call rfl rfl rfl (by first | (go_simp; done) | (go_simp; rfl)) (HI.out) ?_
                  rintro e w3 ⟨d5, rfl, hk1, hk2, hk3, hk4⟩
                  have hg := HR.out.2.2.2.2.2.1 d5 hk3 hk4
                  have HX3 := Lib.hid (show SortK w g w3 ∧ RowB w3 g t d5 ∧ PQ a0 b0 d n (mid + 1) b d5 from ⟨HX2.out.1.trans hk1, hk2, ⟨hk3.1.trans hz4, by omega, hbn, hg.1, by omega, fun R h1 h2 => by have := hg.2 R h1 h2; exact HX.out.2.2.goal R this.1 this.2⟩⟩)
                  clear hk1 hk2 hk3 hk4 hg
                  refine ⟨_, rfl, ?_⟩
                  repeat first
                    | apply d_seq
                    | with_reducible apply kt_normal
                    | apply l_nil
                    | apply d_region
                    | (apply l_off; (focus rfl); (focus rfl))
                    | (apply l_val; (focus rfl); (focus rfl); (focus rfl); (focus (go_simp; (try simp (disch := omega) only [wrap_in, wrap_in', wrap_u16, wrap_u8, wrap_u32, wrap_u64, rem_in, quo_in]); first | done | with_reducible rfl | (constructor <;> with_reducible rfl))))
                    | (apply l_store; (focus rfl); (focus rfl); (focus rfl); (focus (go_simp; (try simp (disch := omega) only [wrap_in, wrap_in', wrap_u16, wrap_u8, wrap_u32, wrap_u64, rem_in, quo_in]); first | done | with_reducible rfl | (constructor <;> with_reducible rfl))))
                    | apply d_block
                    | (apply d_true; (focus rfl); (focus rfl))
                    | (apply d_false; (focus rfl); (focus rfl))
                    | apply d_skip
                    | apply d_exit
                    | apply d_ret
                    | with_reducible apply kt_ret
                    | with_reducible apply kt_exit
                    | with_reducible apply kb_normal
                    | with_reducible apply kb_ret
                    | with_reducible apply kb_here
                    | with_reducible apply kl_ret
                    | with_reducible apply kl_exit
                    | with_reducible apply kc_ret
                    | with_reducible apply kc_exit
                    | (with_reducible apply kb_there; (focus rfl))
                  refine kl_normal (b - (mid + 1)) _ (by omega) (Subl.cons (t := 0) (by decide) rfl (Subl.cons (t := 1) (by decide) rfl (Subl.cons (t := 2) (by decide) rfl (Subl.cons (t := 3) (by decide) rfl (Subl.cons (t := 8) (by decide) rfl (Subl.cons (t := 9) (by decide) rfl (Subl.nil _ _))))))) ?_
                  exact ⟨mid + 1, b, lim1, d5, _, _, rfl, by omega, hbn, hlim1, rfl, HX3⟩
                · have q4 : decide ((ll : Int) < (rl : Int)) = false := decide_eq_false (by omega)
                  have hi := IH.out (b - (mid + 1)) (by omega) d4 (mid + 1) b lim1 w2 rfl HX2.out.2 (by omega) hc' (by omega) (by omega) (by omega) hlim1 HR.out.2.2.2.2.1
                  rw [hz4] at hi
                  have HI := Lib.hid hi
                  clear hi
                  repeat first
                    | apply d_seq
                    | with_reducible apply kt_normal
                    | apply l_nil
                    | apply d_region
                    | (apply l_off; (focus rfl); (focus rfl))
                    | (apply l_val; (focus rfl); (focus rfl); (focus rfl); (focus (go_simp; (try simp (disch := omega) only [wrap_in, wrap_in', wrap_u16, wrap_u8, wrap_u32, wrap_u64, rem_in, quo_in]); first | done | with_reducible rfl | (constructor <;> with_reducible rfl))))
                    | (apply l_store; (focus rfl); (focus rfl); (focus rfl); (focus (go_simp; (try simp (disch := omega) only [wrap_in, wrap_in', wrap_u16, wrap_u8, wrap_u32, wrap_u64, rem_in, quo_in]); first | done | with_reducible rfl | (constructor <;> with_reducible rfl))))
                    | apply d_block
                    | (apply d_true; (focus rfl); (focus rfl))
                    | (apply d_false; (focus rfl); (focus rfl))
                    | apply d_skip
                    | apply d_exit
                    | apply d_ret
                    | with_reducible apply kt_ret
                    | with_reducible apply kt_exit
                    | with_reducible apply kb_normal
                    | with_reducible apply kb_ret
                    | with_reducible apply kb_here
                    | with_reducible apply kl_ret
                    | with_reducible apply kl_exit
                    | with_reducible apply kc_ret
                    | with_reducible apply kc_exit
                    | (with_reducible apply kb_there; (focus rfl))
                  refine l_call rfl rfl rfl (by first | (go_simp; done) | (go_simp; rfl)) (HI.out) ?_
                  rintro e w3 ⟨d5, rfl, hk1, hk2, hk3, hk4⟩
                  have hg := HR.out.2.2.2.2.2.2 d5 hk3 hk4
                  have HX3 := Lib.hid (show SortK w g w3 ∧ RowB w3 g t d5 ∧ PQ a0 b0 d n a mid d5 from ⟨HX2.out.1.trans hk1, hk2, ⟨hk3.1.trans hz4, by omega, by omega, hg.1, by omega, fun R h1 h2 => by have := hg.2 R h1 h2; exact HX.out.2.2.goal R this.1 this.2⟩⟩)
                  clear hk1 hk2 hk3 hk4 hg
                  refine ⟨_, rfl, ?_⟩
                  repeat first
                    | apply d_seq
                    | with_reducible apply kt_normal
                    | apply l_nil
                    | apply d_region
                    | (apply l_off; (focus rfl); (focus rfl))
                    | (apply l_val; (focus rfl); (focus rfl); (focus rfl); (focus (go_simp; (try simp (disch := omega) only [wrap_in, wrap_in', wrap_u16, wrap_u8, wrap_u32, wrap_u64, rem_in, quo_in]); first | done | with_reducible rfl | (constructor <;> with_reducible rfl))))
                    | (apply l_store; (focus rfl); (focus rfl); (focus rfl); (focus (go_simp; (try simp (disch := omega) only [wrap_in, wrap_in', wrap_u16, wrap_u8, wrap_u32, wrap_u64, rem_in, quo_in]); first | done | with_reducible rfl | (constructor <;> with_reducible rfl))))
                    | apply d_block
                    | (apply d_true; (focus rfl); (focus rfl))
                    | (apply d_false; (focus rfl); (focus rfl))
                    | apply d_skip
                    | apply d_exit
                    | apply d_ret
                    | with_reducible apply kt_ret
                    | with_reducible apply kt_exit
                    | with_reducible apply kb_normal
                    | with_reducible apply kb_ret
                    | with_reducible apply kb_here
                    | with_reducible apply kl_ret
                    | with_reducible apply kl_exit
                    | with_reducible apply kc_ret
                    | with_reducible apply kc_exit
                    | (with_reducible apply kb_there; (focus rfl))
                  refine kl_normal (mid - a) _ (by omega) (Subl.cons (t := 0) (by decide) rfl (Subl.cons (t := 1) (by decide) rfl (Subl.cons (t := 2) (by decide) rfl (Subl.cons (t := 3) (by decide) rfl (Subl.cons (t := 8) (by decide) rfl (Subl.cons (t := 9) (by decide) rfl (Subl.nil _ _))))))) ?_
                  exact ⟨a, mid, lim1, d5, _, _, rfl, hm1, by omega, hlim1, rfl, HX3⟩
set_option maxRecDepth 100000 in
set_option maxHeartbeats 2000000 in
/-- slices.Sort. -/
theorem sort_any (g c : Nat) (t : List Value) (l : List Int) (w : World) (h : RowB w g t l.toArray) (hc : l.length ≤ c) (hc' : c ≤ 9223372036854775807) (hz : l.length ≤ 40) :
    Calls Try.prog 32 #[.slice (some ⟨g, 0, none⟩) l.length c] w fun e w' => e = .returned (.tuple #[]) ∧ SortK w g w' ∧ RowB w' g t (l.mergeSort fun x y => decide (x ≤ y)).toArray := by
  have hb := fun W => blen_any l.length (by omega) W
  have hlk := (lenL_ok l.length (by omega)).1
  have hp := fun (L : Nat) (hL : L ≤ 6) => pdq_any g c t l.toArray.size l.toArray 0 l.toArray.size L w (by simp) h (by simpa using hc) hc' (by simpa using hz) (Nat.zero_le _) (Nat.le_refl _) (by omega) (.inl rfl)
  have hsz : l.toArray.size = l.length := by simp
  have q2 : IntKind.u64.wrap (l.length : Int) = l.length := wrap_u64 (by omega) (by omega)
  have hfin : ∀ R : Array Int, PermIn 0 l.toArray.size l.toArray R → SortedIn ltInt 0 l.toArray.size R → R = (l.mergeSort fun x y => decide (x ≤ y)).toArray := by
    intro R h1 h2
    have := sorted_unique_holds (lt := ltInt) swo_ltInt (fun x y h1 h2 => by unfold ltInt at h1 h2; simp at h1 h2; omega) l.toArray R h1 h2
    have e : R.toList = l.mergeSort fun x y => decide (x ≤ y) := by
      rw [this]
      congr 1
      funext x y
      unfold ltInt
      by_cases hxy : x ≤ y
      · simp [hxy, Int.not_lt.2 hxy]
      · simp [hxy, Int.not_le.1 hxy]
    apply Array.ext'
    rw [e]
  rw [hsz] at hp hfin
  obtain ⟨L, hL⟩ : ∃ L, lenL.getD l.length 0 = L := ⟨_, rfl⟩
  rw [hL] at hb hlk
  have HP := Lib.hid (hp L hlk)
  clear hp
  have HB := Lib.hid hb
  have HFIN := Lib.hid hfin
  have H := Lib.hid h
  clear hb hfin h
  generalize l.length = n at *
  refine d_calls (n := 11) Try.func32 rfl rfl (by simp) [(0, .slice (some ⟨g, 0, none⟩) n c)] (by simp) ?_
  repeat first
    | apply d_seq
    | with_reducible apply kt_normal
    | apply l_nil
    | apply d_region
    | (apply l_off; (focus rfl); (focus rfl))
    | (apply l_val; (focus rfl); (focus rfl); (focus rfl); (focus (go_simp; (try simp (disch := omega) only [wrap_in, wrap_in', wrap_u16, wrap_u8, wrap_u32, wrap_u64, rem_in, quo_in]); first | done | with_reducible rfl | (constructor <;> with_reducible rfl))))
    | (apply l_store; (focus rfl); (focus rfl); (focus rfl); (focus (go_simp; (try simp (disch := omega) only [wrap_in, wrap_in', wrap_u16, wrap_u8, wrap_u32, wrap_u64, rem_in, quo_in]); first | done | with_reducible rfl | (constructor <;> with_reducible rfl))))
    | apply d_block
    | (apply d_true; (focus rfl); (focus rfl))
    | (apply d_false; (focus rfl); (focus rfl))
    | apply d_skip
    | apply d_exit
    | apply d_ret
    | with_reducible apply kt_ret
    | with_reducible apply kt_exit
    | with_reducible apply kb_normal
    | with_reducible apply kb_ret
    | with_reducible apply kb_here
    | with_reducible apply kl_ret
    | with_reducible apply kl_exit
    | with_reducible apply kc_ret
    | with_reducible apply kc_exit
    | (with_reducible apply kb_there; (focus rfl))
  refine l_call rfl rfl rfl (by first | (go_simp; done) | (go_simp; rfl)) (HB.out _) ?_
  rintro e w' ⟨rfl, rfl⟩
  refine ⟨_, rfl, ?_⟩
  repeat first
    | apply d_seq
    | with_reducible apply kt_normal
    | apply l_nil
    | apply d_region
    | (apply l_off; (focus rfl); (focus rfl))
    | (apply l_val; (focus rfl); (focus rfl); (focus rfl); (focus (go_simp; (try simp (disch := omega) only [wrap_in, wrap_in', wrap_u16, wrap_u8, wrap_u32, wrap_u64, rem_in, quo_in]); first | done | with_reducible rfl | (constructor <;> with_reducible rfl))))
    | (apply l_store; (focus rfl); (focus rfl); (focus rfl); (focus (go_simp; (try simp (disch := omega) only [wrap_in, wrap_in', wrap_u16, wrap_u8, wrap_u32, wrap_u64, rem_in, quo_in]); first | done | with_reducible rfl | (constructor <;> with_reducible rfl))))
    | apply d_block
    | (apply d_true; (focus rfl); (focus rfl))
    | (apply d_false; (focus rfl); (focus rfl))
    | apply d_skip
    | apply d_exit
    | apply d_ret
    | with_reducible apply kt_ret
    | with_reducible apply kt_exit
    | with_reducible apply kb_normal
    | with_reducible apply kb_ret
    | with_reducible apply kb_here
    | with_reducible apply kl_ret
    | with_reducible apply kl_exit
    | with_reducible apply kc_ret
    | with_reducible apply kc_exit
    | (with_reducible apply kb_there; (focus rfl))
  refine l_call rfl rfl rfl (by first | (go_simp; done) | (go_simp; rfl)) (HP.out) ?_
  rintro e w' ⟨R, rfl, hk1, hk2, hk3, hk4⟩
  have e := HFIN.out R hk3 hk4
  subst e
  refine ⟨_, rfl, ?_⟩
  repeat first
    | apply d_seq
    | with_reducible apply kt_normal
    | apply l_nil
    | apply d_region
    | (apply l_off; (focus rfl); (focus rfl))
    | (apply l_val; (focus rfl); (focus rfl); (focus rfl); (focus (go_simp; (try simp (disch := omega) only [wrap_in, wrap_in', wrap_u16, wrap_u8, wrap_u32, wrap_u64, rem_in, quo_in]); first | done | with_reducible rfl | (constructor <;> with_reducible rfl))))
    | (apply l_store; (focus rfl); (focus rfl); (focus rfl); (focus (go_simp; (try simp (disch := omega) only [wrap_in, wrap_in', wrap_u16, wrap_u8, wrap_u32, wrap_u64, rem_in, quo_in]); first | done | with_reducible rfl | (constructor <;> with_reducible rfl))))
    | apply d_block
    | (apply d_true; (focus rfl); (focus rfl))
    | (apply d_false; (focus rfl); (focus rfl))
    | apply d_skip
    | apply d_exit
    | apply d_ret
    | with_reducible apply kt_ret
    | with_reducible apply kt_exit
    | with_reducible apply kb_normal
    | with_reducible apply kb_ret
    | with_reducible apply kb_here
    | with_reducible apply kl_ret
    | with_reducible apply kl_exit
    | with_reducible apply kc_ret
    | with_reducible apply kc_exit
    | (with_reducible apply kb_there; (focus rfl))
  refine ⟨rfl, _, (by first | (simp [resultsG, resOne, Try.results32, rho, List.lookup]; done) | (simp [resultsG, resOne, Try.results32, rho, List.lookup]; rfl)), ?_⟩
  exact ⟨rfl, hk1, hk2⟩
end Go.Proofs.Ytbcjmgocdplfnaa
