import Derived.Test.YtbcjmgocdplfnaaPlc6
namespace Go.Proofs.Ytbcjmgocdplfnaa
set_option linter.unusedVariables false
set_option linter.unusedSimpArgs false
attribute [local go_sem] rho_const rho_func rho_hit rho_miss
open Go.RowKit
theorem PS.of_some {s : PS} (h : s.ok) {loc a : Int} (hm : (loc, a) ∈ s.by_) : s.of? a = some loc := by
  unfold PS.of?
  rw [find_addr s.by_ h.addrs (loc, a) hm]
  rfl
theorem PRep.next {w w' : World} {F : Nat → Prop} {p : Nat} {s : PS} (h : PRep w F p s) (hk : Keep none_ w w') : PRep w' F p s := h.move (fun k hf hl => ⟨hf, hk.block k hl (fun c => c)⟩)
set_option maxRecDepth 100000 in
set_option maxHeartbeats 4000000 in
theorem fail_any (p : Nat) (s : PS) (a : Int) (F : Nat → Prop) (w : World) (h : PRep w F p s) :
    Calls Try.prog 14 #[.pointer (some ⟨p, 0, none⟩), .int .u8 a] w fun e w' => e = .returned (.tuple #[.int .u8 (s.fail a).2.1, .int .i64 (s.fail a).2.2]) ∧ Keep F w w' ∧ PRep w' F p (s.fail a).1 := by
  have hsp := spares_any p s F w h
  have hi : ∀ w1, Keep none_ w w1 → PRep w1 F p s ∧ Calls Try.prog 27 #[.pointer (some ⟨p, 0, none⟩), .int .u8 a] w1 fun e w' => e = .returned (.int .i64 (s.is a)) ∧ w' = w1 := fun w1 hk => ⟨h.next hk, is_any p s a F w1 (h.next hk)⟩
  have hok := PS.ok_fail h.2.1 a
  have hs0 := h.2.1
  have hmb : ∃ mb, w.cell? ⟨p, 32, none⟩ = some (.map (some mb)) ∧ mb < w.heap.size := by obtain ⟨-, -, mb, es, clock, -, -, h5, h6, -⟩ := h; exact ⟨mb, pcell_map h5, lt_of_block h6⟩
  have HMB := Lib.hid hmb
  clear hmb
  have hbw : p < w.heap.size := by obtain ⟨-, -, mb, es, clock, -, -, h5, -⟩ := h; exact lt_of_block h5
  unfold PS.fail at *
  by_cases h0 : s.is a = 0
  · rw [if_pos h0] at hok ⊢
    rw [h0] at hi
    have HI := Lib.hid hi
    have H := Lib.hid h
    have HOK := Lib.hid hok
    have HSP := Lib.hid hsp
    clear hi h hok hsp
    clear h0
    refine d_calls (n := 69) Try.func14 rfl rfl (by simp) [(0, .pointer (some ⟨p, 0, none⟩)), (1, .int .u8 a)] (by simp) ?_
    repeat first
      | apply d_seq
      | with_reducible apply kt_normal
      | apply l_nil
      | apply d_region
      | (apply l_off; (focus rfl); (focus rfl))
      | (apply l_val; (focus rfl); (focus rfl); (focus rfl); (focus (go_simp; (try simp (disch := omega) only [wrap_in, wrap_in', wrap_u16, wrap_u8, wrap_u32, wrap_u64, rem_in, quo_in]); first | done | with_reducible rfl | (constructor <;> with_reducible rfl))))
      | (apply l_store; (focus rfl); (focus rfl); (focus rfl); (focus (go_simp; (try simp (disch := omega) only [wrap_in, wrap_in', wrap_u16, wrap_u8, wrap_u32, wrap_u64, rem_in, quo_in]); first | done | with_reducible rfl | (constructor <;> with_reducible rfl))))
      | apply d_block
      | (apply d_true; (focus rfl); (focus rfl))
      | (apply d_false; (focus rfl); (focus rfl))
      | apply d_skip
      | apply d_exit
      | apply d_ret
      | with_reducible apply kt_ret
      | with_reducible apply kt_exit
      | with_reducible apply kb_normal
      | with_reducible apply kb_ret
      | with_reducible apply kb_here
      | with_reducible apply kl_ret
      | with_reducible apply kl_exit
      | with_reducible apply kc_ret
      | with_reducible apply kc_exit
      | (with_reducible apply kb_there; (focus rfl))
    refine l_call rfl rfl rfl (by first | (go_simp; done) | (go_simp; rfl)) (HSP.out) ?_
    rintro e w1 ⟨v, rfl, hk1, ho⟩
    have HK1 := Lib.hid hk1
    clear hk1 ho
    refine ⟨_, rfl, ?_⟩
    repeat first
      | apply d_seq
      | with_reducible apply kt_normal
      | apply l_nil
      | apply d_region
      | (apply l_off; (focus rfl); (focus rfl))
      | (apply l_val; (focus rfl); (focus rfl); (focus rfl); (focus (go_simp; (try simp (disch := omega) only [wrap_in, wrap_in', wrap_u16, wrap_u8, wrap_u32, wrap_u64, rem_in, quo_in]); first | done | with_reducible rfl | (constructor <;> with_reducible rfl))))
      | (apply l_store; (focus rfl); (focus rfl); (focus rfl); (focus (go_simp; (try simp (disch := omega) only [wrap_in, wrap_in', wrap_u16, wrap_u8, wrap_u32, wrap_u64, rem_in, quo_in]); first | done | with_reducible rfl | (constructor <;> with_reducible rfl))))
      | apply d_block
      | (apply d_true; (focus rfl); (focus rfl))
      | (apply d_false; (focus rfl); (focus rfl))
      | apply d_skip
      | apply d_exit
      | apply d_ret
      | with_reducible apply kt_ret
      | with_reducible apply kt_exit
      | with_reducible apply kb_normal
      | with_reducible apply kb_ret
      | with_reducible apply kb_here
      | with_reducible apply kl_ret
      | with_reducible apply kl_exit
      | with_reducible apply kc_ret
      | with_reducible apply kc_exit
      | (with_reducible apply kb_there; (focus rfl))
    refine l_call rfl rfl rfl (by first | (go_simp; done) | (go_simp; rfl)) ((HI.out _ HK1.out).2) ?_
    rintro e w' ⟨rfl, rfl⟩
    refine ⟨_, rfl, ?_⟩
    repeat first
      | apply d_seq
      | with_reducible apply kt_normal
      | apply l_nil
      | apply d_region
      | (apply l_off; (focus rfl); (focus rfl))
      | (apply l_val; (focus rfl); (focus rfl); (focus rfl); (focus (go_simp; (try simp (disch := omega) only [wrap_in, wrap_in', wrap_u16, wrap_u8, wrap_u32, wrap_u64, rem_in, quo_in]); first | done | with_reducible rfl | (constructor <;> with_reducible rfl))))
      | (apply l_store; (focus rfl); (focus rfl); (focus rfl); (focus (go_simp; (try simp (disch := omega) only [wrap_in, wrap_in', wrap_u16, wrap_u8, wrap_u32, wrap_u64, rem_in, quo_in]); first | done | with_reducible rfl | (constructor <;> with_reducible rfl))))
      | apply d_block
      | (apply d_true; (focus rfl); (focus rfl))
      | (apply d_false; (focus rfl); (focus rfl))
      | apply d_skip
      | apply d_exit
      | apply d_ret
      | with_reducible apply kt_ret
      | with_reducible apply kt_exit
      | with_reducible apply kb_normal
      | with_reducible apply kb_ret
      | with_reducible apply kb_here
      | with_reducible apply kl_ret
      | with_reducible apply kl_exit
      | with_reducible apply kc_ret
      | with_reducible apply kc_exit
      | (with_reducible apply kb_there; (focus rfl))
    refine ⟨rfl, _, (by first | (simp [resultsG, resOne, Try.results14, rho, List.lookup]; done) | (simp [resultsG, resOne, Try.results14, rho, List.lookup]; rfl)), ?_⟩
    exact ⟨rfl, HK1.out.none, (HI.out _ HK1.out).1⟩
  · rw [if_neg h0] at hok ⊢
    have hp := PS.is_pos h0
    have q0 : (s.is a == 0) = false := by simpa using h0
    by_cases h2 : s.is a = 2
    · rw [if_pos h2] at hok ⊢
      rw [h2] at hi
      have HI := Lib.hid hi
      have H := Lib.hid h
      have HOK := Lib.hid hok
      have HSP := Lib.hid hsp
      clear hi h hok hsp
      clear h0 h2 q0
      refine d_calls (n := 69) Try.func14 rfl rfl (by simp) [(0, .pointer (some ⟨p, 0, none⟩)), (1, .int .u8 a)] (by simp) ?_
      repeat first
        | apply d_seq
        | with_reducible apply kt_normal
        | apply l_nil
        | apply d_region
        | (apply l_off; (focus rfl); (focus rfl))
        | (apply l_val; (focus rfl); (focus rfl); (focus rfl); (focus (go_simp; (try simp (disch := omega) only [wrap_in, wrap_in', wrap_u16, wrap_u8, wrap_u32, wrap_u64, rem_in, quo_in]); first | done | with_reducible rfl | (constructor <;> with_reducible rfl))))
        | (apply l_store; (focus rfl); (focus rfl); (focus rfl); (focus (go_simp; (try simp (disch := omega) only [wrap_in, wrap_in', wrap_u16, wrap_u8, wrap_u32, wrap_u64, rem_in, quo_in]); first | done | with_reducible rfl | (constructor <;> with_reducible rfl))))
        | apply d_block
        | (apply d_true; (focus rfl); (focus rfl))
        | (apply d_false; (focus rfl); (focus rfl))
        | apply d_skip
        | apply d_exit
        | apply d_ret
        | with_reducible apply kt_ret
        | with_reducible apply kt_exit
        | with_reducible apply kb_normal
        | with_reducible apply kb_ret
        | with_reducible apply kb_here
        | with_reducible apply kl_ret
        | with_reducible apply kl_exit
        | with_reducible apply kc_ret
        | with_reducible apply kc_exit
        | (with_reducible apply kb_there; (focus rfl))
      refine l_call rfl rfl rfl (by first | (go_simp; done) | (go_simp; rfl)) (HSP.out) ?_
      rintro e w1 ⟨v, rfl, hk1, ho⟩
      have HK1 := Lib.hid hk1
      clear hk1 ho
      refine ⟨_, rfl, ?_⟩
      repeat first
        | apply d_seq
        | with_reducible apply kt_normal
        | apply l_nil
        | apply d_region
        | (apply l_off; (focus rfl); (focus rfl))
        | (apply l_val; (focus rfl); (focus rfl); (focus rfl); (focus (go_simp; (try simp (disch := omega) only [wrap_in, wrap_in', wrap_u16, wrap_u8, wrap_u32, wrap_u64, rem_in, quo_in]); first | done | with_reducible rfl | (constructor <;> with_reducible rfl))))
        | (apply l_store; (focus rfl); (focus rfl); (focus rfl); (focus (go_simp; (try simp (disch := omega) only [wrap_in, wrap_in', wrap_u16, wrap_u8, wrap_u32, wrap_u64, rem_in, quo_in]); first | done | with_reducible rfl | (constructor <;> with_reducible rfl))))
        | apply d_block
        | (apply d_true; (focus rfl); (focus rfl))
        | (apply d_false; (focus rfl); (focus rfl))
        | apply d_skip
        | apply d_exit
        | apply d_ret
        | with_reducible apply kt_ret
        | with_reducible apply kt_exit
        | with_reducible apply kb_normal
        | with_reducible apply kb_ret
        | with_reducible apply kb_here
        | with_reducible apply kl_ret
        | with_reducible apply kl_exit
        | with_reducible apply kc_ret
        | with_reducible apply kc_exit
        | (with_reducible apply kb_there; (focus rfl))
      refine l_call rfl rfl rfl (by first | (go_simp; done) | (go_simp; rfl)) ((HI.out _ HK1.out).2) ?_
      rintro e w' ⟨rfl, rfl⟩
      refine ⟨_, rfl, ?_⟩
      repeat first
        | apply d_seq
        | with_reducible apply kt_normal
        | apply l_nil
        | apply d_region
        | (apply l_off; (focus rfl); (focus rfl))
        | (apply l_val; (focus rfl); (focus rfl); (focus rfl); (focus (go_simp; (try simp (disch := omega) only [wrap_in, wrap_in', wrap_u16, wrap_u8, wrap_u32, wrap_u64, rem_in, quo_in]); first | done | with_reducible rfl | (constructor <;> with_reducible rfl))))
        | (apply l_store; (focus rfl); (focus rfl); (focus rfl); (focus (go_simp; (try simp (disch := omega) only [wrap_in, wrap_in', wrap_u16, wrap_u8, wrap_u32, wrap_u64, rem_in, quo_in]); first | done | with_reducible rfl | (constructor <;> with_reducible rfl))))
        | apply d_block
        | (apply d_true; (focus rfl); (focus rfl))
        | (apply d_false; (focus rfl); (focus rfl))
        | apply d_skip
        | apply d_exit
        | apply d_ret
        | with_reducible apply kt_ret
        | with_reducible apply kt_exit
        | with_reducible apply kb_normal
        | with_reducible apply kb_ret
        | with_reducible apply kb_here
        | with_reducible apply kl_ret
        | with_reducible apply kl_exit
        | with_reducible apply kc_ret
        | with_reducible apply kc_exit
        | (with_reducible apply kb_there; (focus rfl))
      refine ⟨rfl, _, (by first | (simp [resultsG, resOne, Try.results14, rho, List.lookup]; done) | (simp [resultsG, resOne, Try.results14, rho, List.lookup]; rfl)), ?_⟩
      exact ⟨rfl, HK1.out.none, (HI.out _ HK1.out).1⟩
    · rw [if_neg h2] at hok ⊢
      have q2 : (s.is a == 2) = false := by simpa using h2
      obtain ⟨ha, hof⟩ := hp
      obtain ⟨n, rfl⟩ : ∃ n : Nat, a = n := ⟨a.toNat, by omega⟩
      rw [Int.toNat_natCast] at hok hof ⊢
      have hn : n < 32 := by omega
      have hn' : (n : Int) < 32 := by omega
      by_cases h1 : s.is n = 1
      · rw [if_pos h1] at hok ⊢
        rw [h1] at hi
        have hfw : ∀ w1, Keep none_ w w1 → w1.cell? ⟨p, n, none⟩ = some (.int .i64 (s.of n)) ∧ w1.frozen? ⟨p, n, none⟩ = false := fun w1 hk => by
          obtain ⟨-, -, mb, es, clock, -, -, h5, -⟩ := h.next hk
          exact ⟨pcell h5 hn, pfrozen h5 n⟩
        have HI := Lib.hid hi
        have H := Lib.hid h
        have HOK := Lib.hid hok
        have HSP := Lib.hid hsp
        have HFW := Lib.hid hfw
        clear hi h hok hsp hfw
        clear h0 h2 q0 q2 h1 ha hof
        refine d_calls (n := 69) Try.func14 rfl rfl (by simp) [(0, .pointer (some ⟨p, 0, none⟩)), (1, .int .u8 n)] (by simp) ?_
        repeat first
          | apply d_seq
          | with_reducible apply kt_normal
          | apply l_nil
          | apply d_region
          | (apply l_off; (focus rfl); (focus rfl))
          | (apply l_val; (focus rfl); (focus rfl); (focus rfl); (focus (go_simp; (try simp (disch := omega) only [wrap_in, wrap_in', wrap_u16, wrap_u8, wrap_u32, wrap_u64, rem_in, quo_in]); first | done | with_reducible rfl | (constructor <;> with_reducible rfl))))
          | (apply l_store; (focus rfl); (focus rfl); (focus rfl); (focus (go_simp; (try simp (disch := omega) only [wrap_in, wrap_in', wrap_u16, wrap_u8, wrap_u32, wrap_u64, rem_in, quo_in]); first | done | with_reducible rfl | (constructor <;> with_reducible rfl))))
          | apply d_block
          | (apply d_true; (focus rfl); (focus rfl))
          | (apply d_false; (focus rfl); (focus rfl))
          | apply d_skip
          | apply d_exit
          | apply d_ret
          | with_reducible apply kt_ret
          | with_reducible apply kt_exit
          | with_reducible apply kb_normal
          | with_reducible apply kb_ret
          | with_reducible apply kb_here
          | with_reducible apply kl_ret
          | with_reducible apply kl_exit
          | with_reducible apply kc_ret
          | with_reducible apply kc_exit
          | (with_reducible apply kb_there; (focus rfl))
        refine l_call rfl rfl rfl (by first | (go_simp; done) | (go_simp; rfl)) (HSP.out) ?_
        rintro e w1 ⟨v, rfl, hk1, ho⟩
        have HK1 := Lib.hid hk1
        clear hk1 ho
        refine ⟨_, rfl, ?_⟩
        repeat first
          | apply d_seq
          | with_reducible apply kt_normal
          | apply l_nil
          | apply d_region
          | (apply l_off; (focus rfl); (focus rfl))
          | (apply l_val; (focus rfl); (focus rfl); (focus rfl); (focus (go_simp; (try simp (disch := omega) only [wrap_in, wrap_in', wrap_u16, wrap_u8, wrap_u32, wrap_u64, rem_in, quo_in]); first | done | with_reducible rfl | (constructor <;> with_reducible rfl))))
          | (apply l_store; (focus rfl); (focus rfl); (focus rfl); (focus (go_simp; (try simp (disch := omega) only [wrap_in, wrap_in', wrap_u16, wrap_u8, wrap_u32, wrap_u64, rem_in, quo_in]); first | done | with_reducible rfl | (constructor <;> with_reducible rfl))))
          | apply d_block
          | (apply d_true; (focus rfl); (focus rfl))
          | (apply d_false; (focus rfl); (focus rfl))
          | apply d_skip
          | apply d_exit
          | apply d_ret
          | with_reducible apply kt_ret
          | with_reducible apply kt_exit
          | with_reducible apply kb_normal
          | with_reducible apply kb_ret
          | with_reducible apply kb_here
          | with_reducible apply kl_ret
          | with_reducible apply kl_exit
          | with_reducible apply kc_ret
          | with_reducible apply kc_exit
          | (with_reducible apply kb_there; (focus rfl))
        refine l_call rfl rfl rfl (by first | (go_simp; done) | (go_simp; rfl)) ((HI.out _ HK1.out).2) ?_
        rintro e w' ⟨rfl, rfl⟩
        obtain ⟨c0, f0⟩ := HFW.out _ HK1.out
        refine ⟨_, rfl, ?_⟩
        repeat first
          | apply d_seq
          | with_reducible apply kt_normal
          | apply l_nil
          | apply d_region
          | (apply l_off; (focus rfl); (focus rfl))
          | (apply l_val; (focus rfl); (focus rfl); (focus rfl); (focus (go_simp; (try simp (disch := omega) only [wrap_in, wrap_in', wrap_u16, wrap_u8, wrap_u32, wrap_u64, rem_in, quo_in]); first | done | with_reducible rfl | (constructor <;> with_reducible rfl))))
          | (apply l_store; (focus rfl); (focus rfl); (focus rfl); (focus (go_simp; (try simp (disch := omega) only [wrap_in, wrap_in', wrap_u16, wrap_u8, wrap_u32, wrap_u64, rem_in, quo_in]); first | done | with_reducible rfl | (constructor <;> with_reducible rfl))))
          | apply d_block
          | (apply d_true; (focus rfl); (focus rfl))
          | (apply d_false; (focus rfl); (focus rfl))
          | apply d_skip
          | apply d_exit
          | apply d_ret
          | with_reducible apply kt_ret
          | with_reducible apply kt_exit
          | with_reducible apply kb_normal
          | with_reducible apply kb_ret
          | with_reducible apply kb_here
          | with_reducible apply kl_ret
          | with_reducible apply kl_exit
          | with_reducible apply kc_ret
          | with_reducible apply kc_exit
          | (with_reducible apply kb_there; (focus rfl))
        refine ⟨rfl, _, (by first | (simp [resultsG, resOne, Try.results14, rho, List.lookup]; done) | (simp [resultsG, resOne, Try.results14, rho, List.lookup]; rfl)), ?_⟩
        exact ⟨rfl, HK1.out.none.trans ((Keep.refl _ _).setCell (.inr (.inl H.out.1)) _), (H.out.next HK1.out).store hn 2 HOK.out⟩
      · rw [if_neg h1] at hok ⊢
        have q1 : (s.is n == 1) = false := by simpa using h1
        have h3 : s.of n = 3 := by have := hs0.kind n; omega
        obtain ⟨l, hl⟩ : ∃ l, s.spares = l := ⟨_, rfl⟩
        rw [hl] at hok hsp ⊢
        have hmem := @PS.mem_spares s hs0
        rw [hl] at hmem
        clear hl
        cases l with
        | nil =>
          generalize s.is n = x at *
          have HI := Lib.hid hi
          have H := Lib.hid h
          have HOK := Lib.hid hok
          have HSP := Lib.hid hsp
          clear hi h hok hsp
          clear h0 h2 h1 ha hof hmem
          refine d_calls (n := 69) Try.func14 rfl rfl (by simp) [(0, .pointer (some ⟨p, 0, none⟩)), (1, .int .u8 n)] (by simp) ?_
          repeat first
            | apply d_seq
            | with_reducible apply kt_normal
            | apply l_nil
            | apply d_region
            | (apply l_off; (focus rfl); (focus rfl))
            | (apply l_val; (focus rfl); (focus rfl); (focus rfl); (focus (go_simp; (try simp (disch := omega) only [wrap_in, wrap_in', wrap_u16, wrap_u8, wrap_u32, wrap_u64, rem_in, quo_in]); first | done | with_reducible rfl | (constructor <;> with_reducible rfl))))
            | (apply l_store; (focus rfl); (focus rfl); (focus rfl); (focus (go_simp; (try simp (disch := omega) only [wrap_in, wrap_in', wrap_u16, wrap_u8, wrap_u32, wrap_u64, rem_in, quo_in]); first | done | with_reducible rfl | (constructor <;> with_reducible rfl))))
            | apply d_block
            | (apply d_true; (focus rfl); (focus rfl))
            | (apply d_false; (focus rfl); (focus rfl))
            | apply d_skip
            | apply d_exit
            | apply d_ret
            | with_reducible apply kt_ret
            | with_reducible apply kt_exit
            | with_reducible apply kb_normal
            | with_reducible apply kb_ret
            | with_reducible apply kb_here
            | with_reducible apply kl_ret
            | with_reducible apply kl_exit
            | with_reducible apply kc_ret
            | with_reducible apply kc_exit
            | (with_reducible apply kb_there; (focus rfl))
          refine l_call rfl rfl rfl (by first | (go_simp; done) | (go_simp; rfl)) (HSP.out) ?_
          rintro e w1 ⟨v, rfl, hk1, ho⟩
          obtain ⟨A, cp, rfl, -, -⟩ := ho.len
          have HK1 := Lib.hid hk1
          clear hk1 ho
          refine ⟨_, rfl, ?_⟩
          repeat first
            | apply d_seq
            | with_reducible apply kt_normal
            | apply l_nil
            | apply d_region
            | (apply l_off; (focus rfl); (focus rfl))
            | (apply l_val; (focus rfl); (focus rfl); (focus rfl); (focus (go_simp; (try simp (disch := omega) only [wrap_in, wrap_in', wrap_u16, wrap_u8, wrap_u32, wrap_u64, rem_in, quo_in]); first | done | with_reducible rfl | (constructor <;> with_reducible rfl))))
            | (apply l_store; (focus rfl); (focus rfl); (focus rfl); (focus (go_simp; (try simp (disch := omega) only [wrap_in, wrap_in', wrap_u16, wrap_u8, wrap_u32, wrap_u64, rem_in, quo_in]); first | done | with_reducible rfl | (constructor <;> with_reducible rfl))))
            | apply d_block
            | (apply d_true; (focus rfl); (focus rfl))
            | (apply d_false; (focus rfl); (focus rfl))
            | apply d_skip
            | apply d_exit
            | apply d_ret
            | with_reducible apply kt_ret
            | with_reducible apply kt_exit
            | with_reducible apply kb_normal
            | with_reducible apply kb_ret
            | with_reducible apply kb_here
            | with_reducible apply kl_ret
            | with_reducible apply kl_exit
            | with_reducible apply kc_ret
            | with_reducible apply kc_exit
            | (with_reducible apply kb_there; (focus rfl))
          refine l_call rfl rfl rfl (by first | (go_simp; done) | (go_simp; rfl)) ((HI.out _ HK1.out).2) ?_
          rintro e w' ⟨rfl, rfl⟩
          refine ⟨_, rfl, ?_⟩
          repeat first
            | apply d_seq
            | with_reducible apply kt_normal
            | apply l_nil
            | apply d_region
            | (apply l_off; (focus rfl); (focus rfl))
            | (apply l_val; (focus rfl); (focus rfl); (focus rfl); (focus (go_simp; (try simp (disch := omega) only [wrap_in, wrap_in', wrap_u16, wrap_u8, wrap_u32, wrap_u64, rem_in, quo_in]); first | done | with_reducible rfl | (constructor <;> with_reducible rfl))))
            | (apply l_store; (focus rfl); (focus rfl); (focus rfl); (focus (go_simp; (try simp (disch := omega) only [wrap_in, wrap_in', wrap_u16, wrap_u8, wrap_u32, wrap_u64, rem_in, quo_in]); first | done | with_reducible rfl | (constructor <;> with_reducible rfl))))
            | apply d_block
            | (apply d_true; (focus rfl); (focus rfl))
            | (apply d_false; (focus rfl); (focus rfl))
            | apply d_skip
            | apply d_exit
            | apply d_ret
            | with_reducible apply kt_ret
            | with_reducible apply kt_exit
            | with_reducible apply kb_normal
            | with_reducible apply kb_ret
            | with_reducible apply kb_here
            | with_reducible apply kl_ret
            | with_reducible apply kl_exit
            | with_reducible apply kc_ret
            | with_reducible apply kc_exit
            | (with_reducible apply kb_there; (focus rfl))
          refine ⟨rfl, _, (by first | (simp [resultsG, resOne, Try.results14, rho, List.lookup]; done) | (simp [resultsG, resOne, Try.results14, rho, List.lookup]; rfl)), ?_⟩
          exact ⟨rfl, HK1.out.none, (HI.out _ HK1.out).1⟩
        | cons l0 ls =>
          obtain ⟨hl0, hl1⟩ := hmem.1 (List.mem_cons_self .. : l0 ∈ l0 :: ls)
          obtain ⟨m, rfl⟩ : ∃ m : Nat, l0 = m := ⟨l0.toNat, by omega⟩
          rw [Int.toNat_natCast] at hl1
          simp only [Int.toNat_natCast] at hok ⊢
          have hm : m < 32 := by omega
          have hm' : (m : Int) < 32 := by omega
          have hloc : ∃ loc, ((loc, (n : Int)) : Int × Int) ∈ s.by_ := by obtain ⟨q, hq, e⟩ := hs0.back n h3; exact ⟨q.1, by rw [← e]; exact hq⟩
          obtain ⟨loc, hloc⟩ := hloc
          have hofa : ∀ w1, Keep none_ w w1 → Calls Try.prog 20 #[.pointer (some ⟨p, 32, none⟩), .int .u8 n] w1 fun e w' => e = .returned (.tuple #[.int .u16 loc, .bool true]) ∧ Keep none_ w1 w' := fun w1 hk => by
            have := of_any p s n F w1 (h.next hk)
            rw [PS.of_some hs0 hloc] at this
            exact this
          have hvp := vput_old s.by_ loc n m hs0.keys hs0.addrs hloc
          obtain ⟨N, hN⟩ : ∃ N, (((m : Int) :: ls).length) = N := ⟨_, rfl⟩
          have hN0 : 0 < N := by rw [← hN]; simp
          rw [hN] at hsp
          have hNi : (0 : Int) < N := by omega
          have qN : ((N : Int) == 0) = false := by simp; omega
          generalize s.is n = x at *
          have HI := Lib.hid hi
          have H := Lib.hid h
          have HOK := Lib.hid hok
          have HSP := Lib.hid hsp
          have HOFA := Lib.hid hofa
          have HVP := Lib.hid hvp
          have HS0 := Lib.hid hs0
          clear hi h hok hsp hofa hvp hs0
          clear h0 h2 h1 ha hof hmem hN hloc hl0 hl1 h3
          refine d_calls (n := 69) Try.func14 rfl rfl (by simp) [(0, .pointer (some ⟨p, 0, none⟩)), (1, .int .u8 n)] (by simp) ?_
          repeat first
            | apply d_seq
            | with_reducible apply kt_normal
            | apply l_nil
            | apply d_region
            | (apply l_off; (focus rfl); (focus rfl))
            | (apply l_val; (focus rfl); (focus rfl); (focus rfl); (focus (go_simp; (try simp (disch := omega) only [wrap_in, wrap_in', wrap_u16, wrap_u8, wrap_u32, wrap_u64, rem_in, quo_in]); first | done | with_reducible rfl | (constructor <;> with_reducible rfl))))
            | (apply l_store; (focus rfl); (focus rfl); (focus rfl); (focus (go_simp; (try simp (disch := omega) only [wrap_in, wrap_in', wrap_u16, wrap_u8, wrap_u32, wrap_u64, rem_in, quo_in]); first | done | with_reducible rfl | (constructor <;> with_reducible rfl))))
            | apply d_block
            | (apply d_true; (focus rfl); (focus rfl))
            | (apply d_false; (focus rfl); (focus rfl))
            | apply d_skip
            | apply d_exit
            | apply d_ret
            | with_reducible apply kt_ret
            | with_reducible apply kt_exit
            | with_reducible apply kb_normal
            | with_reducible apply kb_ret
            | with_reducible apply kb_here
            | with_reducible apply kl_ret
            | with_reducible apply kl_exit
            | with_reducible apply kc_ret
            | with_reducible apply kc_exit
            | (with_reducible apply kb_there; (focus rfl))
          refine l_call rfl rfl rfl (by first | (go_simp; done) | (go_simp; rfl)) (HSP.out) ?_
          rintro e w1 ⟨v, rfl, hk1, ho⟩
          obtain ⟨g, cp, rfl, hg, hgl, hcell⟩ : ∃ g cp, v = .slice (some ⟨g, 0, none⟩) N cp ∧ w.heap.size ≤ g ∧ g < w1.heap.size ∧ w1.cell? ⟨g, 0, none⟩ = some (.int .u8 m) := by
            obtain ⟨g, c, e, hF, hgl, h2, h3⟩ := ho.form hN0
            subst e
            rcases hF with c1 | c1
            · exact c1.elim
            · refine ⟨g, c, rfl, c1.1, hgl, ?_⟩
              have h0 : (ints .u8 ((m : Int) :: ls))[0]? = some (.int .u8 m) := rfl
              exact (ho.1.cellAt 0 (by omega)).trans h0
          have HK1 := Lib.hid hk1
          have HCELL := Lib.hid hcell
          clear hcell
          clear hk1 ho
          refine ⟨_, rfl, ?_⟩
          repeat first
            | apply d_seq
            | with_reducible apply kt_normal
            | apply l_nil
            | apply d_region
            | (apply l_off; (focus rfl); (focus rfl))
            | (apply l_val; (focus rfl); (focus rfl); (focus rfl); (focus (go_simp; (try simp (disch := omega) only [wrap_in, wrap_in', wrap_u16, wrap_u8, wrap_u32, wrap_u64, rem_in, quo_in]); first | done | with_reducible rfl | (constructor <;> with_reducible rfl))))
            | (apply l_store; (focus rfl); (focus rfl); (focus rfl); (focus (go_simp; (try simp (disch := omega) only [wrap_in, wrap_in', wrap_u16, wrap_u8, wrap_u32, wrap_u64, rem_in, quo_in]); first | done | with_reducible rfl | (constructor <;> with_reducible rfl))))
            | apply d_block
            | (apply d_true; (focus rfl); (focus rfl))
            | (apply d_false; (focus rfl); (focus rfl))
            | apply d_skip
            | apply d_exit
            | apply d_ret
            | with_reducible apply kt_ret
            | with_reducible apply kt_exit
            | with_reducible apply kb_normal
            | with_reducible apply kb_ret
            | with_reducible apply kb_here
            | with_reducible apply kl_ret
            | with_reducible apply kl_exit
            | with_reducible apply kc_ret
            | with_reducible apply kc_exit
            | (with_reducible apply kb_there; (focus rfl))
          refine l_call rfl rfl rfl (by first | (go_simp; done) | (go_simp; rfl)) ((HI.out _ HK1.out).2) ?_
          rintro e w' ⟨rfl, rfl⟩
          refine ⟨_, rfl, ?_⟩
          repeat first
            | apply d_seq
            | with_reducible apply kt_normal
            | apply l_nil
            | apply d_region
            | (apply l_off; (focus rfl); (focus rfl))
            | (apply l_val; (focus rfl); (focus rfl); (focus rfl); (focus (go_simp; (try simp (disch := omega) only [wrap_in, wrap_in', wrap_u16, wrap_u8, wrap_u32, wrap_u64, rem_in, quo_in]); first | done | with_reducible rfl | (constructor <;> with_reducible rfl))))
            | (apply l_store; (focus rfl); (focus rfl); (focus rfl); (focus (go_simp; (try simp (disch := omega) only [wrap_in, wrap_in', wrap_u16, wrap_u8, wrap_u32, wrap_u64, rem_in, quo_in]); first | done | with_reducible rfl | (constructor <;> with_reducible rfl))))
            | apply d_block
            | (apply d_true; (focus rfl); (focus rfl))
            | (apply d_false; (focus rfl); (focus rfl))
            | apply d_skip
            | apply d_exit
            | apply d_ret
            | with_reducible apply kt_ret
            | with_reducible apply kt_exit
            | with_reducible apply kb_normal
            | with_reducible apply kb_ret
            | with_reducible apply kb_here
            | with_reducible apply kl_ret
            | with_reducible apply kl_exit
            | with_reducible apply kc_ret
            | with_reducible apply kc_exit
            | (with_reducible apply kb_there; (focus rfl))
          refine l_call rfl rfl rfl (by first | (go_simp; done) | (go_simp; rfl)) (HOFA.out _ HK1.out) ?_
          rintro e w2 ⟨rfl, hk2⟩
          have hk12 := HK1.out.next hk2
          have hcell := (hk2.cell (p := ⟨g, 0, none⟩) hgl (fun c => c)).trans HCELL.out
          have hcell' : w2.drew.cell? ⟨g, 0, none⟩ = some (.int .u8 m) := hcell
          clear hcell
          obtain ⟨mbw, hmbw⟩ := HMB.out
          obtain ⟨h1, -, mb, es, clock, h3, h4, h5, h6, h7, h8⟩ := (H.out.next hk12).move (w' := w2.drew) (G := F) (fun k hk hl => ⟨hk, rfl⟩)
          have hmbe : mb < w.heap.size := by
            have := pcell_map h5
            rw [show w2.drew.cell? ⟨p, 32, none⟩ = w.cell? ⟨p, 32, none⟩ from World.cell?_of_block (hk12.block p hbw (fun c => c)), hmbw.1] at this
            simp only [Option.some.injEq, Value.map.injEq] at this
            rw [← this]
            exact hmbw.2
          have c1 := pcell_map h5
          have c0 := pcell h5 hn
          have f0 := pfrozen h5 n
          have p1 := pstore h5 hn 2
          have c2 : (w2.setCell ⟨p, n, none⟩ (.int .i64 2)).cell? ⟨p, m, none⟩ = some (.int .i64 (upd s.of n 2 m)) := pcell p1 hm
          have f2 : (w2.setCell ⟨p, n, none⟩ (.int .i64 2)).frozen? ⟨p, m, none⟩ = false := pfrozen p1 m
          have p2 := pstore p1 hm 3
          have hpmb : mb ≠ p := fun e => h4 e.symm
          have hm1 : ((w2.drew.setCell ⟨p, n, none⟩ (.int .i64 2)).setCell ⟨p, m, none⟩ (.int .i64 3)).heap[mb]? = some (.map (ents .u16 es) clock) := by
            rw [← h6]
            exact (Below.heap_setCell _ _ _ _ hpmb).trans (Below.heap_setCell _ _ _ _ hpmb)
          obtain ⟨v0, st, o1, he, hst⟩ := run_entry (key := loc) Try.underlying42 Try.underlying29 _ zeroU8' hm1 h7
          have hs2 := hst (putObj ((w2.drew.setCell ⟨p, n, none⟩ (.int .i64 2)).setCell ⟨p, m, none⟩ (.int .i64 3)) mb o1) (.int .u8 m) (putObj_here _ _ _ _ hm1)
          have hr := (show PRep w2.drew F p s from ⟨h1, HS0.out, mb, es, clock, h3, h4, h5, h6, h7, h8⟩).entry HOK.out h3 h4 h6 h7 _ p2 hm1 o1 loc m (by rw [eput_vals, h8, vals_enc]; exact HVP.out)
          have hkk : Keep F w2 (putObj (putObj ((w2.drew.setCell ⟨p, n, none⟩ (.int .i64 2)).setCell ⟨p, m, none⟩ (.int .i64 3)) mb o1) mb (.map (ents .u16 (eput es clock loc (.int .u8 m)).1) (eput es clock loc (.int .u8 m)).2)) :=
            ((((Keep.refl F w2).drew.setCell (.inr h1) _).setCell (.inr h1) _).putObj (.inr h3) _).putObj (.inr h3) _
          have hkk2 := hk12.none.trans (F := F) (hkk.mono (fun k hk => .inl hk))
          have hlast : (putObj (putObj ((w2.drew.setCell ⟨p, n, none⟩ (.int .i64 2)).setCell ⟨p, m, none⟩ (.int .i64 3)) mb o1) mb (.map (ents .u16 (eput es clock loc (.int .u8 m)).1) (eput es clock loc (.int .u8 m)).2)).cell? ⟨g, 0, none⟩ = some (.int .u8 m) := by
            have hgp : g ≠ p := by omega
            have hgm : g ≠ mb := by omega
            refine Eq.trans ?_ hcell'
            apply World.cell?_of_block
            rw [putObj_there _ _ _ _ hgm, putObj_there _ _ _ _ hgm]
            exact (Below.heap_setCell _ _ _ _ hgp).trans (Below.heap_setCell _ _ _ _ hgp)
          have hlast1 : (putObj (putObj ((w2.setCell ⟨p, n, none⟩ (.int .i64 2)).setCell ⟨p, m, none⟩ (.int .i64 3)).drew mb o1) mb (.map (ents .u16 (eput es clock loc (.int .u8 m)).1) (eput es clock loc (.int .u8 m)).2)).cell? ⟨g, 0, none⟩ = some (.int .u8 m) := hlast
          clear hlast
          have HK2 := Lib.hid hk2
          have HK12 := Lib.hid hk12
          have HE := Lib.hid he
          have HS2 := Lib.hid hs2
          have HR := Lib.hid hr
          have HKK := Lib.hid hkk
          have HKK2 := Lib.hid hkk2
          have HLAST1 := Lib.hid hlast1
          clear hk2 hk12 he hs2 hr hkk hkk2 hlast1
          clear h1 h3 h4 h5 h6 h7 h8 p1 p2 hm1 hst hpmb
          refine ⟨_, rfl, ?_⟩
          repeat first
            | apply d_seq
            | with_reducible apply kt_normal
            | apply l_nil
            | apply d_region
            | (apply l_off; (focus rfl); (focus rfl))
            | (apply l_val; (focus rfl); (focus rfl); (focus rfl); (focus (go_simp; (try simp (disch := omega) only [wrap_in, wrap_in', wrap_u16, wrap_u8, wrap_u32, wrap_u64, rem_in, quo_in]); first | done | with_reducible rfl | (constructor <;> with_reducible rfl))))
            | (apply l_store; (focus rfl); (focus rfl); (focus rfl); (focus (go_simp; (try simp (disch := omega) only [wrap_in, wrap_in', wrap_u16, wrap_u8, wrap_u32, wrap_u64, rem_in, quo_in]); first | done | with_reducible rfl | (constructor <;> with_reducible rfl))))
            | apply d_block
            | (apply d_true; (focus rfl); (focus rfl))
            | (apply d_false; (focus rfl); (focus rfl))
            | apply d_skip
            | apply d_exit
            | apply d_ret
            | with_reducible apply kt_ret
            | with_reducible apply kt_exit
            | with_reducible apply kb_normal
            | with_reducible apply kb_ret
            | with_reducible apply kb_here
            | with_reducible apply kl_ret
            | with_reducible apply kl_exit
            | with_reducible apply kc_ret
            | with_reducible apply kc_exit
            | (with_reducible apply kb_there; (focus rfl))
          refine d_drawt (true, [([], []), ([], []), ([], []), ([], []), ([3], [3]), ([4], [4]), ([], []), ([6], [6]), ([7], [7]), ([8], [8]), ([9], [9]), ([], []), ([], []), ([12], [12]), ([13], [13]), ([0], [0]), ([15], [15]), ([16], [16]), ([17, 1, 0, 1, 5, 10, 14], [1, 17]), ([18, 0, 1, 5, 10, 14], [18]), ([2], [2]), ([20], [20]), ([21], [21]), ([22, 5, 0, 1, 2, 3, 4, 5, 10, 14, 15, 16, 17, 18, 19], [5, 22]), ([23, 19, 0, 1, 2, 3, 4, 5, 10, 14, 15, 16, 17, 18, 19], [23]), ([10, 11, 24, 0, 1, 2, 3, 4, 5, 10, 14, 15, 16, 17, 18, 19, 20, 21, 22, 23, 24], [10, 11]), ([25], [25]), ([10, 26, 14, 25, 0, 1, 2, 3, 4, 5, 6, 7, 8, 9, 10, 11, 12, 13, 14, 15, 16, 17, 18, 19, 20, 21, 22, 23, 24, 25], [10, 14, 26])]) [(0, 0), (0, 1), (0, 3), (0, 4), (0, 5), (0, 6), (0, 7), (0, 8), (0, 9), (0, 10), (0, 12), (0, 13), (0, 14), (0, 15), (0, 16), (0, 17), (0, 18), (3, 2), (3, 11), (3, 20), (3, 21), (3, 22), (2, 19), (2, 23), (2, 24), (2, 25), (2, 26), (2, 27)] [19, 23, 24, 25, 26, 27] (fun W => W.cell? ⟨p, 32, none⟩ = some (.map (some mb)) ∧ W.cell? ⟨g, 0, none⟩ = some (.int .u8 m)) (by kernel_rfl) (by kernel_rfl) (by kernel_rfl) (by kernel_rfl) ⟨c1, hcell'⟩ ?_
          iterate 17
            first | (apply t_off; (focus rfl); (focus rfl); (focus rfl)) | (apply t_yield; (focus rfl); (focus rfl); (focus rfl); (focus rfl); (focus (intro W hS; obtain ⟨hS1, hS2⟩ := hS; go_simp; (try simp (disch := omega) only [wrap_in, wrap_in', wrap_u16, wrap_u8, wrap_u32, wrap_u64, rem_in, quo_in]); first | done | with_reducible rfl | (constructor <;> with_reducible rfl))))
          iterate 5
            first | (apply t_anyoff; (focus rfl); (focus rfl); (focus rfl)) | (apply t_any; (focus rfl); (focus rfl); (focus rfl); (focus rfl); (focus (intro W; go_simp; (try simp (disch := omega) only [wrap_in, wrap_in', wrap_u16, wrap_u8, wrap_u32, wrap_u64, rem_in, quo_in]); first | done | with_reducible rfl | (constructor <;> with_reducible rfl))))
          first | (apply t_last; (focus rfl); (focus rfl); (focus rfl); (focus rfl); (focus (go_simp; (try simp (disch := omega) only [wrap_in, wrap_in', wrap_u16, wrap_u8, wrap_u32, wrap_u64, rem_in, quo_in]); first | done | with_reducible rfl | (constructor <;> with_reducible rfl)))) | (apply t_laststore; (focus rfl); (focus rfl); (focus rfl); (focus rfl); (focus (go_simp; (try simp (disch := omega) only [wrap_in, wrap_in', wrap_u16, wrap_u8, wrap_u32, wrap_u64, rem_in, quo_in]); first | done | with_reducible rfl | (constructor <;> with_reducible rfl))))
          first | (apply t_last; (focus rfl); (focus rfl); (focus rfl); (focus rfl); (focus (go_simp; (try simp (disch := omega) only [wrap_in, wrap_in', wrap_u16, wrap_u8, wrap_u32, wrap_u64, rem_in, quo_in]); first | done | with_reducible rfl | (constructor <;> with_reducible rfl)))) | (apply t_laststore; (focus rfl); (focus rfl); (focus rfl); (focus rfl); (focus (go_simp; (try simp (disch := omega) only [wrap_in, wrap_in', wrap_u16, wrap_u8, wrap_u32, wrap_u64, rem_in, quo_in]); first | done | with_reducible rfl | (constructor <;> with_reducible rfl))))
          first | (apply t_last; (focus rfl); (focus rfl); (focus rfl); (focus rfl); (focus (go_simp; (try simp (disch := omega) only [wrap_in, wrap_in', wrap_u16, wrap_u8, wrap_u32, wrap_u64, rem_in, quo_in]); first | done | with_reducible rfl | (constructor <;> with_reducible rfl)))) | (apply t_laststore; (focus rfl); (focus rfl); (focus rfl); (focus rfl); (focus (go_simp; (try simp (disch := omega) only [wrap_in, wrap_in', wrap_u16, wrap_u8, wrap_u32, wrap_u64, rem_in, quo_in]); first | done | with_reducible rfl | (constructor <;> with_reducible rfl))))
          refine t_last rfl rfl rfl rfl (exec_mapEntry (.tmp 51) (.tmp 52) rfl _ _ rfl rfl HE.out) ?_
          first | (apply t_last; (focus rfl); (focus rfl); (focus rfl); (focus rfl); (focus (go_simp; (try simp (disch := omega) only [wrap_in, wrap_in', wrap_u16, wrap_u8, wrap_u32, wrap_u64, rem_in, quo_in]); first | done | with_reducible rfl | (constructor <;> with_reducible rfl)))) | (apply t_laststore; (focus rfl); (focus rfl); (focus rfl); (focus rfl); (focus (go_simp; (try simp (disch := omega) only [wrap_in, wrap_in', wrap_u16, wrap_u8, wrap_u32, wrap_u64, rem_in, quo_in]); first | done | with_reducible rfl | (constructor <;> with_reducible rfl))))
          refine t_laststore rfl rfl rfl rfl (exec_entryStore (.tmp 51) (.tmp 65) (.tmp 55) rfl _ _ _ rfl rfl rfl HS2.out) ?_
          refine t_done ?_
          have hlast := HLAST1.out
          repeat first
            | apply d_seq
            | with_reducible apply kt_normal
            | apply l_nil
            | apply d_region
            | (apply l_off; (focus rfl); (focus rfl))
            | (apply l_val; (focus rfl); (focus rfl); (focus rfl); (focus (go_simp; (try simp (disch := omega) only [wrap_in, wrap_in', wrap_u16, wrap_u8, wrap_u32, wrap_u64, rem_in, quo_in]); first | done | with_reducible rfl | (constructor <;> with_reducible rfl))))
            | (apply l_store; (focus rfl); (focus rfl); (focus rfl); (focus (go_simp; (try simp (disch := omega) only [wrap_in, wrap_in', wrap_u16, wrap_u8, wrap_u32, wrap_u64, rem_in, quo_in]); first | done | with_reducible rfl | (constructor <;> with_reducible rfl))))
            | apply d_block
            | (apply d_true; (focus rfl); (focus rfl))
            | (apply d_false; (focus rfl); (focus rfl))
            | apply d_skip
            | apply d_exit
            | apply d_ret
            | with_reducible apply kt_ret
            | with_reducible apply kt_exit
            | with_reducible apply kb_normal
            | with_reducible apply kb_ret
            | with_reducible apply kb_here
            | with_reducible apply kl_ret
            | with_reducible apply kl_exit
            | with_reducible apply kc_ret
            | with_reducible apply kc_exit
            | (with_reducible apply kb_there; (focus rfl))
          refine ⟨rfl, _, (by first | (simp [resultsG, resOne, Try.results14, rho, List.lookup]; done) | (simp [resultsG, resOne, Try.results14, rho, List.lookup]; rfl)), ?_⟩
          exact ⟨rfl, HKK2.out, HR.out⟩
end Go.Proofs.Ytbcjmgocdplfnaa
