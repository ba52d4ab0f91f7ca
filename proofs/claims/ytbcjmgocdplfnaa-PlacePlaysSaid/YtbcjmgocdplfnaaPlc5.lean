import Derived.Test.YtbcjmgocdplfnaaPlc4
namespace Go.Proofs.Ytbcjmgocdplfnaa
set_option linter.unusedVariables false
set_option linter.unusedSimpArgs false
attribute [local go_sem] rho_const rho_func rho_hit rho_miss
open Go.RowKit
theorem vals_enc (bs : List (Int × Int)) : (bs.map fun q => (q.1, Value.int .u8 q.2)) = bs.map enc8 := rfl
/-- A kind stored. -/
theorem PRep.store {w : World} {F : Nat → Prop} {p : Nat} {s : PS} (h : PRep w F p s) {k : Nat} (hk : k < 32) (v : Int) (hok : PS.ok ⟨upd s.of k v, s.by_⟩) : PRep (w.setCell ⟨p, k, none⟩ (.int .i64 v)) F p ⟨upd s.of k v, s.by_⟩ := by
  obtain ⟨h1, h2, mb, es, clock, h3, h4, h5, h6, h7, h8⟩ := h
  refine ⟨h1, hok, mb, es, clock, h3, h4, pstore h5 hk v, ?_, h7, h8⟩
  rw [← h6]
  exact Below.heap_setCell w _ _ _ (fun e => h4 e.symm)
theorem PRep.keep {w : World} {F : Nat → Prop} {p : Nat} {s : PS} (h : PRep w F p s) (k : Nat) (v : Value) : Keep F w (w.setCell ⟨p, k, none⟩ v) := (Keep.refl F w).setCell (.inr h.1) v
set_option maxHeartbeats 2000000 in
theorem bring_any (p : Nat) (s : PS) (a : Int) (F : Nat → Prop) (w : World) (h : PRep w F p s) :
    Calls Try.prog 16 #[.pointer (some ⟨p, 0, none⟩), .int .u8 a] w fun e w' => e = .returned (.int .i64 (s.bring a).2) ∧ Keep F w w' ∧ PRep w' F p (s.bring a).1 := by
  have hi := is_any p s a F w h
  have hk := Keep.refl F w
  have hok := PS.ok_bring h.2.1 a
  unfold PS.bring at *
  by_cases h0 : s.is a = 0
  · rw [if_pos h0] at hok ⊢
    rw [h0] at hi
    have HI := Lib.hid hi
    have H := Lib.hid h
    have HK := Lib.hid hk
    have HOK := Lib.hid hok
    clear hi h hk hok
    refine d_calls (n := 20) Try.func16 rfl rfl (by simp) [(0, .pointer (some ⟨p, 0, none⟩)), (1, .int .u8 a)] (by simp) ?_
    repeat first
      | apply d_seq
      | with_reducible apply kt_normal
      | apply l_nil
      | apply d_region
      | (apply l_off; (focus rfl); (focus rfl))
      | (apply l_val; (focus rfl); (focus rfl); (focus rfl); (focus (go_simp; (try simp (disch := omega) only [wrap_in, wrap_in', wrap_u16, wrap_u8, wrap_u32, wrap_u64, rem_in, quo_in]); first | done | with_reducible rfl | (constructor <;> with_reducible rfl))))
      | (apply l_store; (focus rfl); (focus rfl); (focus rfl); (focus (go_simp; (try simp (disch := omega) only [wrap_in, wrap_in', wrap_u16, wrap_u8, wrap_u32, wrap_u64, rem_in, quo_in]); first | done | with_reducible rfl | (constructor <;> with_reducible rfl))))
      | apply d_block
      | (apply d_true; (focus rfl); (focus rfl))
      | (apply d_false; (focus rfl); (focus rfl))
      | apply d_skip
      | apply d_exit
      | apply d_ret
      | with_reducible apply kt_ret
      | with_reducible apply kt_exit
      | with_reducible apply kb_normal
      | with_reducible apply kb_ret
      | with_reducible apply kb_here
      | with_reducible apply kl_ret
      | with_reducible apply kl_exit
      | with_reducible apply kc_ret
      | with_reducible apply kc_exit
      | (with_reducible apply kb_there; (focus rfl))
    refine l_call rfl rfl rfl (by first | (go_simp; done) | (go_simp; rfl)) (HI.out) ?_
    rintro e w' ⟨rfl, rfl⟩
    refine ⟨_, rfl, ?_⟩
    repeat first
      | apply d_seq
      | with_reducible apply kt_normal
      | apply l_nil
      | apply d_region
      | (apply l_off; (focus rfl); (focus rfl))
      | (apply l_val; (focus rfl); (focus rfl); (focus rfl); (focus (go_simp; (try simp (disch := omega) only [wrap_in, wrap_in', wrap_u16, wrap_u8, wrap_u32, wrap_u64, rem_in, quo_in]); first | done | with_reducible rfl | (constructor <;> with_reducible rfl))))
      | (apply l_store; (focus rfl); (focus rfl); (focus rfl); (focus (go_simp; (try simp (disch := omega) only [wrap_in, wrap_in', wrap_u16, wrap_u8, wrap_u32, wrap_u64, rem_in, quo_in]); first | done | with_reducible rfl | (constructor <;> with_reducible rfl))))
      | apply d_block
      | (apply d_true; (focus rfl); (focus rfl))
      | (apply d_false; (focus rfl); (focus rfl))
      | apply d_skip
      | apply d_exit
      | apply d_ret
      | with_reducible apply kt_ret
      | with_reducible apply kt_exit
      | with_reducible apply kb_normal
      | with_reducible apply kb_ret
      | with_reducible apply kb_here
      | with_reducible apply kl_ret
      | with_reducible apply kl_exit
      | with_reducible apply kc_ret
      | with_reducible apply kc_exit
      | (with_reducible apply kb_there; (focus rfl))
    refine ⟨rfl, _, (by first | (simp [resultsG, resOne, Try.results16, rho, List.lookup]; done) | (simp [resultsG, resOne, Try.results16, rho, List.lookup]; rfl)), ?_⟩
    exact ⟨rfl, HK.out, H.out⟩
  · rw [if_neg h0] at hok ⊢
    by_cases h2 : s.is a = 2
    · rw [if_pos h2] at hok ⊢
      obtain ⟨ha, -⟩ := PS.is_pos h0
      rw [h2] at hi
      obtain ⟨n, rfl⟩ : ∃ n : Nat, a = n := ⟨a.toNat, by omega⟩
      rw [Int.toNat_natCast] at hok ⊢
      have hn : n < 32 := by omega
      have hn' : (n : Int) < 32 := by omega
      have c0 := pcell h.2.2.choose_spec.choose_spec.choose_spec.2.2.1 hn
      have f0 := pfrozen h.2.2.choose_spec.choose_spec.choose_spec.2.2.1 n
      have hr := h.store hn 1 hok
      have hkk := h.keep n (.int .i64 1)
      have HI := Lib.hid hi
      have H := Lib.hid h
      have HK := Lib.hid hk
      have HOK := Lib.hid hok
      have HR := Lib.hid hr
      have HKK := Lib.hid hkk
      clear hi h hk hok hr hkk
      clear ha h0 h2
      refine d_calls (n := 20) Try.func16 rfl rfl (by simp) [(0, .pointer (some ⟨p, 0, none⟩)), (1, .int .u8 n)] (by simp) ?_
      repeat first
        | apply d_seq
        | with_reducible apply kt_normal
        | apply l_nil
        | apply d_region
        | (apply l_off; (focus rfl); (focus rfl))
        | (apply l_val; (focus rfl); (focus rfl); (focus rfl); (focus (go_simp; (try simp (disch := omega) only [wrap_in, wrap_in', wrap_u16, wrap_u8, wrap_u32, wrap_u64, rem_in, quo_in]); first | done | with_reducible rfl | (constructor <;> with_reducible rfl))))
        | (apply l_store; (focus rfl); (focus rfl); (focus rfl); (focus (go_simp; (try simp (disch := omega) only [wrap_in, wrap_in', wrap_u16, wrap_u8, wrap_u32, wrap_u64, rem_in, quo_in]); first | done | with_reducible rfl | (constructor <;> with_reducible rfl))))
        | apply d_block
        | (apply d_true; (focus rfl); (focus rfl))
        | (apply d_false; (focus rfl); (focus rfl))
        | apply d_skip
        | apply d_exit
        | apply d_ret
        | with_reducible apply kt_ret
        | with_reducible apply kt_exit
        | with_reducible apply kb_normal
        | with_reducible apply kb_ret
        | with_reducible apply kb_here
        | with_reducible apply kl_ret
        | with_reducible apply kl_exit
        | with_reducible apply kc_ret
        | with_reducible apply kc_exit
        | (with_reducible apply kb_there; (focus rfl))
      refine l_call rfl rfl rfl (by first | (go_simp; done) | (go_simp; rfl)) (HI.out) ?_
      rintro e w' ⟨rfl, rfl⟩
      refine ⟨_, rfl, ?_⟩
      repeat first
        | apply d_seq
        | with_reducible apply kt_normal
        | apply l_nil
        | apply d_region
        | (apply l_off; (focus rfl); (focus rfl))
        | (apply l_val; (focus rfl); (focus rfl); (focus rfl); (focus (go_simp; (try simp (disch := omega) only [wrap_in, wrap_in', wrap_u16, wrap_u8, wrap_u32, wrap_u64, rem_in, quo_in]); first | done | with_reducible rfl | (constructor <;> with_reducible rfl))))
        | (apply l_store; (focus rfl); (focus rfl); (focus rfl); (focus (go_simp; (try simp (disch := omega) only [wrap_in, wrap_in', wrap_u16, wrap_u8, wrap_u32, wrap_u64, rem_in, quo_in]); first | done | with_reducible rfl | (constructor <;> with_reducible rfl))))
        | apply d_block
        | (apply d_true; (focus rfl); (focus rfl))
        | (apply d_false; (focus rfl); (focus rfl))
        | apply d_skip
        | apply d_exit
        | apply d_ret
        | with_reducible apply kt_ret
        | with_reducible apply kt_exit
        | with_reducible apply kb_normal
        | with_reducible apply kb_ret
        | with_reducible apply kb_here
        | with_reducible apply kl_ret
        | with_reducible apply kl_exit
        | with_reducible apply kc_ret
        | with_reducible apply kc_exit
        | (with_reducible apply kb_there; (focus rfl))
      refine ⟨rfl, _, (by first | (simp [resultsG, resOne, Try.results16, rho, List.lookup]; done) | (simp [resultsG, resOne, Try.results16, rho, List.lookup]; rfl)), ?_⟩
      exact ⟨rfl, HKK.out, HR.out⟩
    · rw [if_neg h2] at hok ⊢
      have q0 : (s.is a == 0) = false := by simpa using h0
      have q2 : (s.is a == 2) = false := by simpa using h2
      generalize s.is a = x at *
      have HI := Lib.hid hi
      have H := Lib.hid h
      have HK := Lib.hid hk
      have HOK := Lib.hid hok
      clear hi h hk hok
      clear h0 h2
      refine d_calls (n := 20) Try.func16 rfl rfl (by simp) [(0, .pointer (some ⟨p, 0, none⟩)), (1, .int .u8 a)] (by simp) ?_
      repeat first
        | apply d_seq
        | with_reducible apply kt_normal
        | apply l_nil
        | apply d_region
        | (apply l_off; (focus rfl); (focus rfl))
        | (apply l_val; (focus rfl); (focus rfl); (focus rfl); (focus (go_simp; (try simp (disch := omega) only [wrap_in, wrap_in', wrap_u16, wrap_u8, wrap_u32, wrap_u64, rem_in, quo_in]); first | done | with_reducible rfl | (constructor <;> with_reducible rfl))))
        | (apply l_store; (focus rfl); (focus rfl); (focus rfl); (focus (go_simp; (try simp (disch := omega) only [wrap_in, wrap_in', wrap_u16, wrap_u8, wrap_u32, wrap_u64, rem_in, quo_in]); first | done | with_reducible rfl | (constructor <;> with_reducible rfl))))
        | apply d_block
        | (apply d_true; (focus rfl); (focus rfl))
        | (apply d_false; (focus rfl); (focus rfl))
        | apply d_skip
        | apply d_exit
        | apply d_ret
        | with_reducible apply kt_ret
        | with_reducible apply kt_exit
        | with_reducible apply kb_normal
        | with_reducible apply kb_ret
        | with_reducible apply kb_here
        | with_reducible apply kl_ret
        | with_reducible apply kl_exit
        | with_reducible apply kc_ret
        | with_reducible apply kc_exit
        | (with_reducible apply kb_there; (focus rfl))
      refine l_call rfl rfl rfl (by first | (go_simp; done) | (go_simp; rfl)) (HI.out) ?_
      rintro e w' ⟨rfl, rfl⟩
      refine ⟨_, rfl, ?_⟩
      repeat first
        | apply d_seq
        | with_reducible apply kt_normal
        | apply l_nil
        | apply d_region
        | (apply l_off; (focus rfl); (focus rfl))
        | (apply l_val; (focus rfl); (focus rfl); (focus rfl); (focus (go_simp; (try simp (disch := omega) only [wrap_in, wrap_in', wrap_u16, wrap_u8, wrap_u32, wrap_u64, rem_in, quo_in]); first | done | with_reducible rfl | (constructor <;> with_reducible rfl))))
        | (apply l_store; (focus rfl); (focus rfl); (focus rfl); (focus (go_simp; (try simp (disch := omega) only [wrap_in, wrap_in', wrap_u16, wrap_u8, wrap_u32, wrap_u64, rem_in, quo_in]); first | done | with_reducible rfl | (constructor <;> with_reducible rfl))))
        | apply d_block
        | (apply d_true; (focus rfl); (focus rfl))
        | (apply d_false; (focus rfl); (focus rfl))
        | apply d_skip
        | apply d_exit
        | apply d_ret
        | with_reducible apply kt_ret
        | with_reducible apply kt_exit
        | with_reducible apply kb_normal
        | with_reducible apply kb_ret
        | with_reducible apply kb_here
        | with_reducible apply kl_ret
        | with_reducible apply kl_exit
        | with_reducible apply kc_ret
        | with_reducible apply kc_exit
        | (with_reducible apply kb_there; (focus rfl))
      refine ⟨rfl, _, (by first | (simp [resultsG, resOne, Try.results16, rho, List.lookup]; done) | (simp [resultsG, resOne, Try.results16, rho, List.lookup]; rfl)), ?_⟩
      exact ⟨rfl, HK.out, H.out⟩
end Go.Proofs.Ytbcjmgocdplfnaa
