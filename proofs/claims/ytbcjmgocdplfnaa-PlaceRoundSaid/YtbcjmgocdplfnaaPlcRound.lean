import Derived.Test.YtbcjmgocdplfnaaPlcT
import Derived.Test.YtbcjmgocdplfnaaPick
import Derived.Test.YtbcjmgocdplfnaaPlcArgs2
namespace Go.Proofs.Ytbcjmgocdplfnaa
set_option linter.unusedVariables false
set_option linter.unusedSimpArgs false
attribute [local go_sem] rho_const rho_func rho_hit rho_miss
open Go.RowKit
attribute [local go_sem] min2_mn min_two' max2_mx max_two'
set_option maxRecDepth 100000 in
set_option maxHeartbeats 8000000 in
theorem placeRound_any {w : World} {A1 A0 : Option Addr} {n1 c1 n0 cq0 : Nat} {l1 : List Int} {l0 : List Bool} (h1 : SeesIn w (fun k => k < w.heap.size) 1 (.slice A1 n1 c1) l1.length (ints .u8 l1) ∧ ∀ x ∈ l1, 0 ≤ x ∧ x ≤ 255)
    (h0 : SeesIn w (fun k => k < w.heap.size) 1 (.slice A0 n0 cq0) l0.length (l0.flatMap (fun y => [Value.bool y])) ∧ ∀ x ∈ l0, True) :
    Calls Try.prog 7 #[.slice A1 n1 c1, .slice A0 n0 cq0] w fun e w' => e = .returned (.bool true) ∧ Keep none_ w w' := by
  obtain ⟨hs0, -⟩ := h0
  obtain ⟨hs1, -⟩ := h1
  obtain ⟨rfl, b0, b0'⟩ := hs0.form'
  obtain ⟨rfl, b1, b1'⟩ := hs1.form'
  obtain ⟨m1, hm1, hm2, hm3, hs2⟩ := cut_u8s 30 hs1
  generalize l1.take m1 = sp at *
  simp only [Int.cast_ofNat_Int] at hm1
  have HX := Lib.hid (Has.nil (Keep.refl none_ w))
  have HS0 := Lib.hid hs0
  have HS2 := Lib.hid hs2
  clear hs0 hs2
  clear hs1
  refine d_calls (n := 137) Try.func7 rfl rfl (by simp) [(0, .slice A1 l1.length c1), (1, .slice A0 l0.length cq0)] (by simp) ?_
  repeat first
    | apply d_seq
    | with_reducible apply kt_normal
    | apply l_nil
    | apply d_region
    | (apply l_off; (focus rfl); (focus rfl))
    | (apply l_val; (focus rfl); (focus rfl); (focus rfl); (focus (go_simp; (try simp (disch := omega) only [wrap_in, wrap_in', wrap_u16, wrap_u8, wrap_u32, wrap_u64, rem_in, quo_in]); first | done | with_reducible rfl | (constructor <;> with_reducible rfl))))
    | (apply l_store; (focus rfl); (focus rfl); (focus rfl); (focus (go_simp; (try simp (disch := omega) only [wrap_in, wrap_in', wrap_u16, wrap_u8, wrap_u32, wrap_u64, rem_in, quo_in]); first | done | with_reducible rfl | (constructor <;> with_reducible rfl))))
    | apply d_block
    | (apply d_true; (focus rfl); (focus rfl))
    | (apply d_false; (focus rfl); (focus rfl))
    | apply d_skip
    | apply d_exit
    | apply d_ret
    | with_reducible apply kt_ret
    | with_reducible apply kt_exit
    | with_reducible apply kb_normal
    | with_reducible apply kb_ret
    | with_reducible apply kb_here
    | with_reducible apply kl_ret
    | with_reducible apply kl_exit
    | with_reducible apply kc_ret
    | with_reducible apply kc_exit
    | (with_reducible apply kb_there; (focus rfl))
  refine l_call rfl rfl rfl (by first | (go_simp; done) | (go_simp; rfl)) (shown_has HX.out) ?_
  rintro e w' ⟨rfl, hx⟩
  clear HX
  try simp only [List.nil_append, List.cons_append, List.set_cons_zero, List.set_cons_succ] at hx
  have HX := Lib.hid hx
  clear hx
  refine ⟨_, rfl, ?_⟩
  repeat first
    | apply d_seq
    | with_reducible apply kt_normal
    | apply l_nil
    | apply d_region
    | (apply l_off; (focus rfl); (focus rfl))
    | (apply l_val; (focus rfl); (focus rfl); (focus rfl); (focus (go_simp; (try simp (disch := omega) only [wrap_in, wrap_in', wrap_u16, wrap_u8, wrap_u32, wrap_u64, rem_in, quo_in]); first | done | with_reducible rfl | (constructor <;> with_reducible rfl))))
    | (apply l_store; (focus rfl); (focus rfl); (focus rfl); (focus (go_simp; (try simp (disch := omega) only [wrap_in, wrap_in', wrap_u16, wrap_u8, wrap_u32, wrap_u64, rem_in, quo_in]); first | done | with_reducible rfl | (constructor <;> with_reducible rfl))))
    | apply d_block
    | (apply d_true; (focus rfl); (focus rfl))
    | (apply d_false; (focus rfl); (focus rfl))
    | apply d_skip
    | apply d_exit
    | apply d_ret
    | with_reducible apply kt_ret
    | with_reducible apply kt_exit
    | with_reducible apply kb_normal
    | with_reducible apply kb_ret
    | with_reducible apply kb_here
    | with_reducible apply kl_ret
    | with_reducible apply kl_exit
    | with_reducible apply kc_ret
    | with_reducible apply kc_exit
    | (with_reducible apply kb_there; (focus rfl))
  have hs3 := HS2.out.move HX.out.size (fun k hk hl => ⟨hk, HX.out.old.block k hl (fun c => c)⟩)
  have HS3 := Lib.hid hs3
  clear hs3
  refine l_call rfl rfl rfl (by first | (go_simp; done) | (go_simp; rfl)) (new_has HX.out _ _ _ _ _ HS3.out) ?_
  rintro e w1 ⟨a, rfl, hx⟩
  clear HX
  try simp only [List.nil_append, List.cons_append, List.set_cons_zero, List.set_cons_succ] at hx
  have HX := Lib.hid hx
  clear hx
  refine ⟨_, rfl, ?_⟩
  repeat first
    | apply d_seq
    | with_reducible apply kt_normal
    | apply l_nil
    | apply d_region
    | (apply l_off; (focus rfl); (focus rfl))
    | (apply l_val; (focus rfl); (focus rfl); (focus rfl); (focus (go_simp; (try simp (disch := omega) only [wrap_in, wrap_in', wrap_u16, wrap_u8, wrap_u32, wrap_u64, rem_in, quo_in]); first | done | with_reducible rfl | (constructor <;> with_reducible rfl))))
    | (apply l_store; (focus rfl); (focus rfl); (focus rfl); (focus (go_simp; (try simp (disch := omega) only [wrap_in, wrap_in', wrap_u16, wrap_u8, wrap_u32, wrap_u64, rem_in, quo_in]); first | done | with_reducible rfl | (constructor <;> with_reducible rfl))))
    | ((fail_if_success (with_reducible apply d_block (id := 0))); apply d_block)
    | (apply d_true; (focus rfl); (focus rfl))
    | (apply d_false; (focus rfl); (focus rfl))
    | apply d_skip
    | apply d_exit
    | apply d_ret
    | with_reducible apply kt_ret
    | with_reducible apply kt_exit
    | with_reducible apply kb_normal
    | with_reducible apply kb_ret
    | with_reducible apply kb_here
    | with_reducible apply kl_ret
    | with_reducible apply kl_exit
    | with_reducible apply kc_ret
    | with_reducible apply kc_exit
    | (with_reducible apply kb_there; (focus rfl))
  have hall := spare_all sp
  have hnz : ∀ x : Nat, (PS.new sp).of x ≠ 3 := fun x => by have := (kinds0_val sp x).1; show kinds0 sp x ≠ 3; omega
  have hok0 := HX.out.okP (i := 0) rfl
  have hby0 : (PS.new sp).by_ = [] := rfl
  have hx := HX.out
  clear HX
  have HX := Lib.hid (show Has w w1 [PlcA w.heap.size a (PS.new sp)] from hx)
  clear hx
  generalize PS.new sp = s0 at *
  have hat0 : s0.at? 9 = none := by unfold PS.at?; rw [hby0]; rfl
  have hmap : ∀ x : Nat, 1 ≤ x → x ≤ 31 → (s0.of x = 0 → s0.map 9 x = (⟨upd s0.of x 3, [(9, (x : Int))]⟩, 0)) ∧ (s0.of x ≠ 0 → s0.map 9 x = (s0, 8)) := fun x h1 h2 => by
    have hk : known (x : Int) = true := known_iff.2 (by omega)
    have his : s0.is (x : Int) = s0.of x := by unfold PS.is; rw [if_pos hk]; simp
    constructor
    · intro h0
      unfold PS.map
      rw [if_neg (by rw [hk]; simp), if_neg (by rw [hat0, his, h0]; simp), hby0]
      simp
    · intro h0
      unfold PS.map
      rw [if_neg (by rw [hk]; simp), if_pos (.inr (by rw [his]; exact h0))]
  have HALL := Lib.hid hall
  have HMAP := Lib.hid hmap
  have HOK0 := Lib.hid hok0
  clear hall hmap hok0
  clear hnz hby0 hat0
  refine d_join (fun D wr => ∃ (f : Nat) (s : PS), D = [(1, .slice A0 l0.length cq0), (5, .bool true), (6, .pointer (some ⟨a, 0, none⟩)), (7, .int .u8 f)] ∧ Hid (Has w wr [PlcA w.heap.size a s]) ∧ ((f = 0 ∧ s.spares.length = 31) ∨ ((f == 0) = false ∧ ¬ f = 0 ∧ ∃ c, s.by_ = [(9, c)]))) ?_ (fun D wr hcut => ?_)
  · repeat first
      | apply d_seq
      | with_reducible apply kt_normal
      | apply l_nil
      | apply d_region
      | (apply l_off; (focus rfl); (focus rfl))
      | (apply l_val; (focus rfl); (focus rfl); (focus rfl); (focus (go_simp; (try simp (disch := omega) only [wrap_in, wrap_in', wrap_u16, wrap_u8, wrap_u32, wrap_u64, rem_in, quo_in]); first | done | with_reducible rfl | (constructor <;> with_reducible rfl))))
      | (apply l_store; (focus rfl); (focus rfl); (focus rfl); (focus (go_simp; (try simp (disch := omega) only [wrap_in, wrap_in', wrap_u16, wrap_u8, wrap_u32, wrap_u64, rem_in, quo_in]); first | done | with_reducible rfl | (constructor <;> with_reducible rfl))))
      | apply d_block
      | (apply d_true; (focus rfl); (focus rfl))
      | (apply d_false; (focus rfl); (focus rfl))
      | apply d_skip
      | apply d_exit
      | apply d_ret
      | with_reducible apply kt_ret
      | with_reducible apply kt_exit
      | with_reducible apply kb_normal
      | with_reducible apply kb_ret
      | with_reducible apply kb_here
      | with_reducible apply kl_ret
      | with_reducible apply kl_exit
      | with_reducible apply kc_ret
      | with_reducible apply kc_exit
      | (with_reducible apply kb_there; (focus rfl))
    refine d_loop (fun m D wr => ∃ (k f : Nat) (s : PS), m = 40 - k ∧ 1 ≤ k ∧ k ≤ 33 ∧ D = [(1, .slice A0 l0.length cq0), (5, .bool true), (6, .pointer (some ⟨a, 0, none⟩)), (7, .int .u8 f), (8, .int .u8 k)] ∧ Hid (Has w wr [PlcA w.heap.size a s]) ∧ ((f = 0 ∧ k ≤ 32 ∧ s = s0 ∧ ∀ x : Nat, 1 ≤ x → x < k → s0.of x ≠ 0) ∨ ((f == 0) = false ∧ ¬ f = 0 ∧ ∃ c, s.by_ = [(9, c)]))) (39) _ (Subl.cons (t := 1) (by decide) rfl (Subl.cons (t := 5) (by decide) rfl (Subl.cons (t := 6) (by decide) rfl (Subl.cons (t := 7) (by decide) rfl (Subl.cons (t := 8) (by decide) rfl (Subl.nil _ _)))))) ?_ (fun m D wr hrel => ?_)
    · exact ⟨1, 0, s0, rfl, by omega, by omega, rfl, HX, .inl ⟨rfl, by omega, rfl, fun x h1 h2 => by omega⟩⟩
    · clear HX HS2 HS3
      obtain ⟨k, f, s, rfl, hk1, hk2, rfl, HX, hf⟩ := hrel
      rcases hf with ⟨rfl, hk3, rfl, hno⟩ | ⟨hf1, hf2, hf3⟩
      · by_cases hk : k < 32
        · have hk' : (k : Int) < 32 := by omega
          obtain ⟨hm0, hm1⟩ := HMAP.out k hk1 (by omega)
          have hc := map_has HX.out 0 a s rfl 9 k (by omega)
          by_cases h0 : s.of k = 0
          · rw [hm0 h0] at hc
            have hkz : (k == 0) = false := by have : k ≠ 0 := by omega
                                              simpa using this
            have hkz' : ¬ k = 0 := by omega
            have HNO := Lib.hid (And.intro hkz hkz')
            clear hkz hkz' hno hm0 hm1 h0
            have HC := Lib.hid hc
            clear hc
            repeat first
              | apply d_seq
              | with_reducible apply kt_normal
              | apply l_nil
              | apply d_region
              | (apply l_off; (focus rfl); (focus rfl))
              | (apply l_val; (focus rfl); (focus rfl); (focus rfl); (focus (go_simp; (try simp (disch := omega) only [wrap_in, wrap_in', wrap_u16, wrap_u8, wrap_u32, wrap_u64, rem_in, quo_in]); first | done | with_reducible rfl | (constructor <;> with_reducible rfl))))
              | (apply l_store; (focus rfl); (focus rfl); (focus rfl); (focus (go_simp; (try simp (disch := omega) only [wrap_in, wrap_in', wrap_u16, wrap_u8, wrap_u32, wrap_u64, rem_in, quo_in]); first | done | with_reducible rfl | (constructor <;> with_reducible rfl))))
              | apply d_block
              | (apply d_true; (focus rfl); (focus rfl))
              | (apply d_false; (focus rfl); (focus rfl))
              | apply d_skip
              | apply d_exit
              | apply d_ret
              | with_reducible apply kt_ret
              | with_reducible apply kt_exit
              | with_reducible apply kb_normal
              | with_reducible apply kb_ret
              | with_reducible apply kb_here
              | with_reducible apply kl_ret
              | with_reducible apply kl_exit
              | with_reducible apply kc_ret
              | with_reducible apply kc_exit
              | (with_reducible apply kb_there; (focus rfl))
            refine l_call rfl rfl rfl (by first | (go_simp; done) | (go_simp; rfl)) (HC.out) ?_
            rintro e w' ⟨rfl, hx⟩
            clear HX
            try simp only [List.nil_append, List.cons_append, List.set_cons_zero, List.set_cons_succ] at hx
            have HX := Lib.hid hx
            clear hx
            refine ⟨_, rfl, ?_⟩
            repeat first
              | apply d_seq
              | with_reducible apply kt_normal
              | apply l_nil
              | apply d_region
              | (apply l_off; (focus rfl); (focus rfl))
              | (apply l_val; (focus rfl); (focus rfl); (focus rfl); (focus (go_simp; (try simp (disch := omega) only [wrap_in, wrap_in', wrap_u16, wrap_u8, wrap_u32, wrap_u64, rem_in, quo_in]); first | done | with_reducible rfl | (constructor <;> with_reducible rfl))))
              | (apply l_store; (focus rfl); (focus rfl); (focus rfl); (focus (go_simp; (try simp (disch := omega) only [wrap_in, wrap_in', wrap_u16, wrap_u8, wrap_u32, wrap_u64, rem_in, quo_in]); first | done | with_reducible rfl | (constructor <;> with_reducible rfl))))
              | apply d_block
              | (apply d_true; (focus rfl); (focus rfl))
              | (apply d_false; (focus rfl); (focus rfl))
              | apply d_skip
              | apply d_exit
              | apply d_ret
              | with_reducible apply kt_ret
              | with_reducible apply kt_exit
              | with_reducible apply kb_normal
              | with_reducible apply kb_ret
              | with_reducible apply kb_here
              | with_reducible apply kl_ret
              | with_reducible apply kl_exit
              | with_reducible apply kc_ret
              | with_reducible apply kc_exit
              | (with_reducible apply kb_there; (focus rfl))
            refine kl_normal (40 - (k + 1)) _ (by omega) (Subl.cons (t := 1) (by decide) rfl (Subl.cons (t := 5) (by decide) rfl (Subl.cons (t := 6) (by decide) rfl (Subl.cons (t := 7) (by decide) rfl (Subl.cons (t := 8) (by decide) rfl (Subl.nil _ _)))))) ?_
            exact ⟨k + 1, k, _, rfl, by omega, by omega, rfl, HX, .inr ⟨HNO.out.1, HNO.out.2, _, rfl⟩⟩
          · rw [hm1 h0] at hc
            have HNO := Lib.hid hno
            have H0 := Lib.hid h0
            clear hno hm0 hm1 h0
            have HC := Lib.hid hc
            clear hc
            repeat first
              | apply d_seq
              | with_reducible apply kt_normal
              | apply l_nil
              | apply d_region
              | (apply l_off; (focus rfl); (focus rfl))
              | (apply l_val; (focus rfl); (focus rfl); (focus rfl); (focus (go_simp; (try simp (disch := omega) only [wrap_in, wrap_in', wrap_u16, wrap_u8, wrap_u32, wrap_u64, rem_in, quo_in]); first | done | with_reducible rfl | (constructor <;> with_reducible rfl))))
              | (apply l_store; (focus rfl); (focus rfl); (focus rfl); (focus (go_simp; (try simp (disch := omega) only [wrap_in, wrap_in', wrap_u16, wrap_u8, wrap_u32, wrap_u64, rem_in, quo_in]); first | done | with_reducible rfl | (constructor <;> with_reducible rfl))))
              | apply d_block
              | (apply d_true; (focus rfl); (focus rfl))
              | (apply d_false; (focus rfl); (focus rfl))
              | apply d_skip
              | apply d_exit
              | apply d_ret
              | with_reducible apply kt_ret
              | with_reducible apply kt_exit
              | with_reducible apply kb_normal
              | with_reducible apply kb_ret
              | with_reducible apply kb_here
              | with_reducible apply kl_ret
              | with_reducible apply kl_exit
              | with_reducible apply kc_ret
              | with_reducible apply kc_exit
              | (with_reducible apply kb_there; (focus rfl))
            refine l_call rfl rfl rfl (by first | (go_simp; done) | (go_simp; rfl)) (HC.out) ?_
            rintro e w' ⟨rfl, hx⟩
            clear HX
            try simp only [List.nil_append, List.cons_append, List.set_cons_zero, List.set_cons_succ] at hx
            have HX := Lib.hid hx
            clear hx
            refine ⟨_, rfl, ?_⟩
            repeat first
              | apply d_seq
              | with_reducible apply kt_normal
              | apply l_nil
              | apply d_region
              | (apply l_off; (focus rfl); (focus rfl))
              | (apply l_val; (focus rfl); (focus rfl); (focus rfl); (focus (go_simp; (try simp (disch := omega) only [wrap_in, wrap_in', wrap_u16, wrap_u8, wrap_u32, wrap_u64, rem_in, quo_in]); first | done | with_reducible rfl | (constructor <;> with_reducible rfl))))
              | (apply l_store; (focus rfl); (focus rfl); (focus rfl); (focus (go_simp; (try simp (disch := omega) only [wrap_in, wrap_in', wrap_u16, wrap_u8, wrap_u32, wrap_u64, rem_in, quo_in]); first | done | with_reducible rfl | (constructor <;> with_reducible rfl))))
              | apply d_block
              | (apply d_true; (focus rfl); (focus rfl))
              | (apply d_false; (focus rfl); (focus rfl))
              | apply d_skip
              | apply d_exit
              | apply d_ret
              | with_reducible apply kt_ret
              | with_reducible apply kt_exit
              | with_reducible apply kb_normal
              | with_reducible apply kb_ret
              | with_reducible apply kb_here
              | with_reducible apply kl_ret
              | with_reducible apply kl_exit
              | with_reducible apply kc_ret
              | with_reducible apply kc_exit
              | (with_reducible apply kb_there; (focus rfl))
            refine kl_normal (40 - (k + 1)) _ (by omega) (Subl.cons (t := 1) (by decide) rfl (Subl.cons (t := 5) (by decide) rfl (Subl.cons (t := 6) (by decide) rfl (Subl.cons (t := 7) (by decide) rfl (Subl.cons (t := 8) (by decide) rfl (Subl.nil _ _)))))) ?_
            refine ⟨k + 1, 0, _, rfl, by omega, by omega, rfl, HX, .inl ⟨rfl, by omega, rfl, fun x h1 h2 => ?_⟩⟩
            by_cases e : x = k
            · subst e; exact H0.out
            · exact HNO.out x h1 (by omega)
        · obtain rfl : k = 32 := by omega
          have hl := HALL.out (fun x h1 h2 => hno x h1 (by omega))
          have HL := Lib.hid hl
          clear hl
          clear hno
          repeat first
            | apply d_seq
            | with_reducible apply kt_normal
            | apply l_nil
            | apply d_region
            | (apply l_off; (focus rfl); (focus rfl))
            | (apply l_val; (focus rfl); (focus rfl); (focus rfl); (focus (go_simp; (try simp (disch := omega) only [wrap_in, wrap_in', wrap_u16, wrap_u8, wrap_u32, wrap_u64, rem_in, quo_in]); first | done | with_reducible rfl | (constructor <;> with_reducible rfl))))
            | (apply l_store; (focus rfl); (focus rfl); (focus rfl); (focus (go_simp; (try simp (disch := omega) only [wrap_in, wrap_in', wrap_u16, wrap_u8, wrap_u32, wrap_u64, rem_in, quo_in]); first | done | with_reducible rfl | (constructor <;> with_reducible rfl))))
            | apply d_block
            | (apply d_true; (focus rfl); (focus rfl))
            | (apply d_false; (focus rfl); (focus rfl))
            | apply d_skip
            | apply d_exit
            | apply d_ret
            | with_reducible apply kt_ret
            | with_reducible apply kt_exit
            | with_reducible apply kb_normal
            | with_reducible apply kb_ret
            | with_reducible apply kb_here
            | with_reducible apply kl_ret
            | with_reducible apply kl_exit
            | with_reducible apply kc_ret
            | with_reducible apply kc_exit
            | (with_reducible apply kb_there; (focus rfl))
          refine kc_normal _ (Subl.cons (t := 1) (by decide) rfl (Subl.cons (t := 5) (by decide) rfl (Subl.cons (t := 6) (by decide) rfl (Subl.cons (t := 7) (by decide) rfl (Subl.nil _ _))))) ?_
          exact ⟨0, s, rfl, HX, .inl ⟨rfl, HL.out⟩⟩
      · obtain ⟨b, hb⟩ : ∃ b, decide ((k : Int) < 32) = b := ⟨_, rfl⟩
        have HF := Lib.hid (And.intro hf1 (And.intro hf2 hf3))
        have qf : ((f : Int) == 0) = false := by simpa using hf2
        clear hf3
        cases b with
        | false =>
          repeat first
            | apply d_seq
            | with_reducible apply kt_normal
            | apply l_nil
            | apply d_region
            | (apply l_off; (focus rfl); (focus rfl))
            | (apply l_val; (focus rfl); (focus rfl); (focus rfl); (focus (go_simp; (try simp (disch := omega) only [wrap_in, wrap_in', wrap_u16, wrap_u8, wrap_u32, wrap_u64, rem_in, quo_in]); first | done | with_reducible rfl | (constructor <;> with_reducible rfl))))
            | (apply l_store; (focus rfl); (focus rfl); (focus rfl); (focus (go_simp; (try simp (disch := omega) only [wrap_in, wrap_in', wrap_u16, wrap_u8, wrap_u32, wrap_u64, rem_in, quo_in]); first | done | with_reducible rfl | (constructor <;> with_reducible rfl))))
            | apply d_block
            | (apply d_true; (focus rfl); (focus rfl))
            | (apply d_false; (focus rfl); (focus rfl))
            | apply d_skip
            | apply d_exit
            | apply d_ret
            | with_reducible apply kt_ret
            | with_reducible apply kt_exit
            | with_reducible apply kb_normal
            | with_reducible apply kb_ret
            | with_reducible apply kb_here
            | with_reducible apply kl_ret
            | with_reducible apply kl_exit
            | with_reducible apply kc_ret
            | with_reducible apply kc_exit
            | (with_reducible apply kb_there; (focus rfl))
          refine kc_normal _ (Subl.cons (t := 1) (by decide) rfl (Subl.cons (t := 5) (by decide) rfl (Subl.cons (t := 6) (by decide) rfl (Subl.cons (t := 7) (by decide) rfl (Subl.nil _ _))))) ?_
          exact ⟨f, s, rfl, HX, .inr HF.out⟩
        | true =>
          repeat first
            | apply d_seq
            | with_reducible apply kt_normal
            | apply l_nil
            | apply d_region
            | (apply l_off; (focus rfl); (focus rfl))
            | (apply l_val; (focus rfl); (focus rfl); (focus rfl); (focus (go_simp; (try simp (disch := omega) only [wrap_in, wrap_in', wrap_u16, wrap_u8, wrap_u32, wrap_u64, rem_in, quo_in]); first | done | with_reducible rfl | (constructor <;> with_reducible rfl))))
            | (apply l_store; (focus rfl); (focus rfl); (focus rfl); (focus (go_simp; (try simp (disch := omega) only [wrap_in, wrap_in', wrap_u16, wrap_u8, wrap_u32, wrap_u64, rem_in, quo_in]); first | done | with_reducible rfl | (constructor <;> with_reducible rfl))))
            | apply d_block
            | (apply d_true; (focus rfl); (focus rfl))
            | (apply d_false; (focus rfl); (focus rfl))
            | apply d_skip
            | apply d_exit
            | apply d_ret
            | with_reducible apply kt_ret
            | with_reducible apply kt_exit
            | with_reducible apply kb_normal
            | with_reducible apply kb_ret
            | with_reducible apply kb_here
            | with_reducible apply kl_ret
            | with_reducible apply kl_exit
            | with_reducible apply kc_ret
            | with_reducible apply kc_exit
            | (with_reducible apply kb_there; (focus rfl))
          refine kc_normal _ (Subl.cons (t := 1) (by decide) rfl (Subl.cons (t := 5) (by decide) rfl (Subl.cons (t := 6) (by decide) rfl (Subl.cons (t := 7) (by decide) rfl (Subl.nil _ _))))) ?_
          exact ⟨f, s, rfl, HX, .inr HF.out⟩
  · clear HX HS2 HS3 HALL HMAP HOK0
    obtain ⟨f, s, rfl, HX, hf⟩ := hcut
    rcases hf with ⟨rfl, hl⟩ | ⟨hf1, hf2, hf3⟩
    · have hc := spares_has HX.out 0 a s rfl
      rw [hl] at hc
      have HC := Lib.hid hc
      have HL := Lib.hid hl
      clear hc hl
      repeat first
        | apply d_seq
        | with_reducible apply kt_normal
        | apply l_nil
        | apply d_region
        | (apply l_off; (focus rfl); (focus rfl))
        | (apply l_val; (focus rfl); (focus rfl); (focus rfl); (focus (go_simp; (try simp (disch := omega) only [wrap_in, wrap_in', wrap_u16, wrap_u8, wrap_u32, wrap_u64, rem_in, quo_in]); first | done | with_reducible rfl | (constructor <;> with_reducible rfl))))
        | (apply l_store; (focus rfl); (focus rfl); (focus rfl); (focus (go_simp; (try simp (disch := omega) only [wrap_in, wrap_in', wrap_u16, wrap_u8, wrap_u32, wrap_u64, rem_in, quo_in]); first | done | with_reducible rfl | (constructor <;> with_reducible rfl))))
        | apply d_block
        | (apply d_true; (focus rfl); (focus rfl))
        | (apply d_false; (focus rfl); (focus rfl))
        | apply d_skip
        | apply d_exit
        | apply d_ret
        | with_reducible apply kt_ret
        | with_reducible apply kt_exit
        | with_reducible apply kb_normal
        | with_reducible apply kb_ret
        | with_reducible apply kb_here
        | with_reducible apply kl_ret
        | with_reducible apply kl_exit
        | with_reducible apply kc_ret
        | with_reducible apply kc_exit
        | (with_reducible apply kb_there; (focus rfl))
      refine l_call rfl rfl rfl (by first | (go_simp; done) | (go_simp; rfl)) (HC.out) ?_
      rintro e w' ⟨A2, d2, rfl, hr1, hr2, hx⟩
      clear HX
      try simp only [List.nil_append, List.cons_append, List.set_cons_zero, List.set_cons_succ] at hx
      have HX := Lib.hid hx
      clear hx
      refine ⟨_, rfl, ?_⟩
      repeat first
        | apply d_seq
        | with_reducible apply kt_normal
        | apply l_nil
        | apply d_region
        | (apply l_off; (focus rfl); (focus rfl))
        | (apply l_val; (focus rfl); (focus rfl); (focus rfl); (focus (go_simp; (try simp (disch := omega) only [wrap_in, wrap_in', wrap_u16, wrap_u8, wrap_u32, wrap_u64, rem_in, quo_in]); first | done | with_reducible rfl | (constructor <;> with_reducible rfl))))
        | (apply l_store; (focus rfl); (focus rfl); (focus rfl); (focus (go_simp; (try simp (disch := omega) only [wrap_in, wrap_in', wrap_u16, wrap_u8, wrap_u32, wrap_u64, rem_in, quo_in]); first | done | with_reducible rfl | (constructor <;> with_reducible rfl))))
        | apply d_block
        | (apply d_true; (focus rfl); (focus rfl))
        | (apply d_false; (focus rfl); (focus rfl))
        | apply d_skip
        | apply d_exit
        | apply d_ret
        | with_reducible apply kt_ret
        | with_reducible apply kt_exit
        | with_reducible apply kb_normal
        | with_reducible apply kb_ret
        | with_reducible apply kb_here
        | with_reducible apply kl_ret
        | with_reducible apply kl_exit
        | with_reducible apply kc_ret
        | with_reducible apply kc_exit
        | (with_reducible apply kb_there; (focus rfl))
      refine ⟨rfl, _, (by first | (simp [resultsG, resOne, Try.results7, rho, List.lookup]; done) | (simp [resultsG, resOne, Try.results7, rho, List.lookup]; rfl)), ?_⟩
      exact ⟨rfl, HX.out.old⟩
    · have qf : ((f : Int) == 0) = false := by simpa using hf2
      have HQ := Lib.hid hf3
      clear hf3
      repeat first
        | apply d_seq
        | with_reducible apply kt_normal
        | apply l_nil
        | apply d_region
        | (apply l_off; (focus rfl); (focus rfl))
        | (apply l_val; (focus rfl); (focus rfl); (focus rfl); (focus (go_simp; (try simp (disch := omega) only [wrap_in, wrap_in', wrap_u16, wrap_u8, wrap_u32, wrap_u64, rem_in, quo_in]); first | done | with_reducible rfl | (constructor <;> with_reducible rfl))))
        | (apply l_store; (focus rfl); (focus rfl); (focus rfl); (focus (go_simp; (try simp (disch := omega) only [wrap_in, wrap_in', wrap_u16, wrap_u8, wrap_u32, wrap_u64, rem_in, quo_in]); first | done | with_reducible rfl | (constructor <;> with_reducible rfl))))
        | apply d_block
        | (apply d_true; (focus rfl); (focus rfl))
        | (apply d_false; (focus rfl); (focus rfl))
        | apply d_skip
        | apply d_exit
        | apply d_ret
        | with_reducible apply kt_ret
        | with_reducible apply kt_exit
        | with_reducible apply kb_normal
        | with_reducible apply kb_ret
        | with_reducible apply kb_here
        | with_reducible apply kl_ret
        | with_reducible apply kl_exit
        | with_reducible apply kc_ret
        | with_reducible apply kc_exit
        | (with_reducible apply kb_there; (focus rfl))
      refine d_loop (fun m D wr => ∃ (k : Nat) (s : PS), m = l0.length - k ∧ k ≤ l0.length ∧ D = [(1, .slice A0 l0.length cq0), (5, .bool true), (6, .pointer (some ⟨a, 0, none⟩)), (9, .int .i64 k)] ∧ Hid (Has w wr [PlcA w.heap.size a s]) ∧ Hid (∃ c, s.by_ = [(9, c)])) (l0.length) _ (Subl.cons (t := 1) (by decide) rfl (Subl.cons (t := 5) (by decide) rfl (Subl.cons (t := 6) (by decide) rfl (Subl.cons (t := 9) (by decide) rfl (Subl.nil _ _))))) ?_ (fun m D wr hrel => ?_)
      · exact ⟨0, s, rfl, Nat.zero_le _, rfl, HX, HQ⟩
      · clear HX HQ qf hf1 hf2
        obtain ⟨k, s, rfl, hk, rfl, HX, HQ⟩ := hrel
        obtain ⟨c, hb⟩ := HQ.out
        have hsok := HX.out.okP (i := 0) rfl
        by_cases hlt : k < l0.length
        · by_cases h40 : (k : Int) < 40
          · obtain ⟨y, hy⟩ : ∃ y, l0[k]? = some y := ⟨_, List.getElem?_eq_getElem hlt⟩
            obtain ⟨g, o, cp, e1, -, -, -, -, hcc⟩ := sees_get (enc := fun y : Bool => [Value.bool y]) (sz := 1) (fun _ => rfl) HS0.out rfl hy
            simp only [Value.slice.injEq, true_and] at e1
            obtain ⟨rfl, rfl⟩ := e1
            have d0 := hcc 0 _ rfl
            rw [Nat.mul_one, Nat.add_zero] at d0
            have hat := round_at hb
            have hof := round_of hsok hb
            clear hcc hy
            have hc := at_has HX.out 0 a s rfl 9
            rw [hat] at hc
            simp only [ansV] at hc
            have D0 := Lib.hid d0
            have HC := Lib.hid hc
            have HSOK := Lib.hid hsok
            have HB := Lib.hid hb
            have HAT := Lib.hid hat
            have HOF := Lib.hid hof
            clear d0 hc hsok hb hat hof
            repeat first
              | apply d_seq
              | with_reducible apply kt_normal
              | apply l_nil
              | apply d_region
              | (apply l_off; (focus rfl); (focus rfl))
              | (apply l_val; (focus rfl); (focus rfl); (focus rfl); (focus (go_simp; (try simp (disch := omega) only [wrap_in, wrap_in', wrap_u16, wrap_u8, wrap_u32, wrap_u64, rem_in, quo_in]); first | done | with_reducible rfl | (constructor <;> with_reducible rfl))))
              | (apply l_store; (focus rfl); (focus rfl); (focus rfl); (focus (go_simp; (try simp (disch := omega) only [wrap_in, wrap_in', wrap_u16, wrap_u8, wrap_u32, wrap_u64, rem_in, quo_in]); first | done | with_reducible rfl | (constructor <;> with_reducible rfl))))
              | apply d_block
              | (apply d_true; (focus rfl); (focus rfl))
              | (apply d_false; (focus rfl); (focus rfl))
              | apply d_skip
              | apply d_exit
              | apply d_ret
              | with_reducible apply kt_ret
              | with_reducible apply kt_exit
              | with_reducible apply kb_normal
              | with_reducible apply kb_ret
              | with_reducible apply kb_here
              | with_reducible apply kl_ret
              | with_reducible apply kl_exit
              | with_reducible apply kc_ret
              | with_reducible apply kc_exit
              | (with_reducible apply kb_there; (focus rfl))
            refine l_call rfl rfl rfl (by first | (go_simp; done) | (go_simp; rfl)) (HC.out) ?_
            rintro e w' ⟨rfl, hx⟩
            clear HX
            try simp only [List.nil_append, List.cons_append, List.set_cons_zero, List.set_cons_succ] at hx
            have HX := Lib.hid hx
            clear hx
            refine ⟨_, rfl, ?_⟩
            repeat first
              | apply d_seq
              | with_reducible apply kt_normal
              | apply l_nil
              | apply d_region
              | (apply l_off; (focus rfl); (focus rfl))
              | (apply l_val; (focus rfl); (focus rfl); (focus rfl); (focus (go_simp; (try simp (disch := omega) only [wrap_in, wrap_in', wrap_u16, wrap_u8, wrap_u32, wrap_u64, rem_in, quo_in]); first | done | with_reducible rfl | (constructor <;> with_reducible rfl))))
              | (apply l_store; (focus rfl); (focus rfl); (focus rfl); (focus (go_simp; (try simp (disch := omega) only [wrap_in, wrap_in', wrap_u16, wrap_u8, wrap_u32, wrap_u64, rem_in, quo_in]); first | done | with_reducible rfl | (constructor <;> with_reducible rfl))))
              | apply d_block
              | (apply d_true; (focus rfl); (focus rfl))
              | (apply d_false; (focus rfl); (focus rfl))
              | apply d_skip
              | apply d_exit
              | apply d_ret
              | with_reducible apply kt_ret
              | with_reducible apply kt_exit
              | with_reducible apply kb_normal
              | with_reducible apply kb_ret
              | with_reducible apply kb_here
              | with_reducible apply kl_ret
              | with_reducible apply kl_exit
              | with_reducible apply kc_ret
              | with_reducible apply kc_exit
              | (with_reducible apply kb_there; (focus rfl))
            clear HC
            obtain ⟨sp2, hsp⟩ : ∃ sp2, s.spares = sp2 := ⟨_, rfl⟩
            cases sp2 with
            | nil =>
              have hfl := fail_full HSOK.out HOF.out hsp
              have hc := spares_has HX.out 0 a s rfl
              rw [hsp, show ([] : List Int).length = 0 from rfl] at hc
              have HC := Lib.hid hc
              have HSP := Lib.hid hsp
              have HFL := Lib.hid hfl
              clear hc hsp hfl
              refine l_call rfl rfl rfl (by first | (go_simp; done) | (go_simp; rfl)) (HC.out) ?_
              rintro e w' ⟨A2, d2, rfl, hr1, hr2, hx⟩
              clear HX
              try simp only [List.nil_append, List.cons_append, List.set_cons_zero, List.set_cons_succ] at hx
              have HX := Lib.hid hx
              clear hx
              refine ⟨_, rfl, ?_⟩
              repeat first
                | apply d_seq
                | with_reducible apply kt_normal
                | apply l_nil
                | apply d_region
                | (apply l_off; (focus rfl); (focus rfl))
                | (apply l_val; (focus rfl); (focus rfl); (focus rfl); (focus (go_simp; (try simp (disch := omega) only [wrap_in, wrap_in', wrap_u16, wrap_u8, wrap_u32, wrap_u64, rem_in, quo_in]); first | done | with_reducible rfl | (constructor <;> with_reducible rfl))))
                | (apply l_store; (focus rfl); (focus rfl); (focus rfl); (focus (go_simp; (try simp (disch := omega) only [wrap_in, wrap_in', wrap_u16, wrap_u8, wrap_u32, wrap_u64, rem_in, quo_in]); first | done | with_reducible rfl | (constructor <;> with_reducible rfl))))
                | apply d_block
                | (apply d_true; (focus rfl); (focus rfl))
                | (apply d_false; (focus rfl); (focus rfl))
                | apply d_skip
                | apply d_exit
                | apply d_ret
                | with_reducible apply kt_ret
                | with_reducible apply kt_exit
                | with_reducible apply kb_normal
                | with_reducible apply kb_ret
                | with_reducible apply kb_here
                | with_reducible apply kl_ret
                | with_reducible apply kl_exit
                | with_reducible apply kc_ret
                | with_reducible apply kc_exit
                | (with_reducible apply kb_there; (focus rfl))
              clear HC
              have hc := fail_has HX.out 0 a s rfl c
              rw [HFL.out] at hc
              have HC := Lib.hid hc
              clear hc
              refine l_call rfl rfl rfl (by first | (go_simp; done) | (go_simp; rfl)) (HC.out) ?_
              rintro e w' ⟨rfl, hx⟩
              clear HX
              try simp only [List.nil_append, List.cons_append, List.set_cons_zero, List.set_cons_succ] at hx
              have HX := Lib.hid hx
              clear hx
              refine ⟨_, rfl, ?_⟩
              repeat first
                | apply d_seq
                | with_reducible apply kt_normal
                | apply l_nil
                | apply d_region
                | (apply l_off; (focus rfl); (focus rfl))
                | (apply l_val; (focus rfl); (focus rfl); (focus rfl); (focus (go_simp; (try simp (disch := omega) only [wrap_in, wrap_in', wrap_u16, wrap_u8, wrap_u32, wrap_u64, rem_in, quo_in]); first | done | with_reducible rfl | (constructor <;> with_reducible rfl))))
                | (apply l_store; (focus rfl); (focus rfl); (focus rfl); (focus (go_simp; (try simp (disch := omega) only [wrap_in, wrap_in', wrap_u16, wrap_u8, wrap_u32, wrap_u64, rem_in, quo_in]); first | done | with_reducible rfl | (constructor <;> with_reducible rfl))))
                | apply d_block
                | (apply d_true; (focus rfl); (focus rfl))
                | (apply d_false; (focus rfl); (focus rfl))
                | apply d_skip
                | apply d_exit
                | apply d_ret
                | with_reducible apply kt_ret
                | with_reducible apply kt_exit
                | with_reducible apply kb_normal
                | with_reducible apply kb_ret
                | with_reducible apply kb_here
                | with_reducible apply kl_ret
                | with_reducible apply kl_exit
                | with_reducible apply kc_ret
                | with_reducible apply kc_exit
                | (with_reducible apply kb_there; (focus rfl))
              clear HC
              have hc := at_has HX.out 0 a s rfl 9
              rw [HAT.out] at hc
              simp only [ansV] at hc
              have HC := Lib.hid hc
              clear hc
              refine l_call rfl rfl rfl (by first | (go_simp; done) | (go_simp; rfl)) (HC.out) ?_
              rintro e w' ⟨rfl, hx⟩
              clear HX
              try simp only [List.nil_append, List.cons_append, List.set_cons_zero, List.set_cons_succ] at hx
              have HX := Lib.hid hx
              clear hx
              refine ⟨_, rfl, ?_⟩
              repeat first
                | apply d_seq
                | with_reducible apply kt_normal
                | apply l_nil
                | apply d_region
                | (apply l_off; (focus rfl); (focus rfl))
                | (apply l_val; (focus rfl); (focus rfl); (focus rfl); (focus (go_simp; (try simp (disch := omega) only [wrap_in, wrap_in', wrap_u16, wrap_u8, wrap_u32, wrap_u64, rem_in, quo_in]); first | done | with_reducible rfl | (constructor <;> with_reducible rfl))))
                | (apply l_store; (focus rfl); (focus rfl); (focus rfl); (focus (go_simp; (try simp (disch := omega) only [wrap_in, wrap_in', wrap_u16, wrap_u8, wrap_u32, wrap_u64, rem_in, quo_in]); first | done | with_reducible rfl | (constructor <;> with_reducible rfl))))
                | apply d_block
                | (apply d_true; (focus rfl); (focus rfl))
                | (apply d_false; (focus rfl); (focus rfl))
                | apply d_skip
                | apply d_exit
                | apply d_ret
                | with_reducible apply kt_ret
                | with_reducible apply kt_exit
                | with_reducible apply kb_normal
                | with_reducible apply kb_ret
                | with_reducible apply kb_here
                | with_reducible apply kl_ret
                | with_reducible apply kl_exit
                | with_reducible apply kc_ret
                | with_reducible apply kc_exit
                | (with_reducible apply kb_there; (focus rfl))
              refine kl_normal (l0.length - (k + 1)) _ (by omega) (Subl.cons (t := 1) (by decide) rfl (Subl.cons (t := 5) (by decide) rfl (Subl.cons (t := 6) (by decide) rfl (Subl.cons (t := 9) (by decide) rfl (Subl.nil _ _))))) ?_
              exact ⟨k + 1, s, rfl, by omega, rfl, Lib.hid (HX.out.take 1), HQ⟩
            | cons z ls =>
              obtain ⟨hb2, hf2⟩ := round_fail HSOK.out HB.out hsp
              have hbo := bring_ok HSOK.out (a := c) (by rw [hf2])
              have hbb := bring_by (s.fail c).1 c
              rw [hb2] at hbb
              have hat2 := round_at hb2
              have hc := spares_has HX.out 0 a s rfl
              rw [hsp] at hc
              obtain ⟨N, hN⟩ : ∃ N, (z :: ls).length = N := ⟨_, rfl⟩
              have hN0 : 0 < N := by rw [← hN]; simp
              have hNz : ((N : Int) == 0) = false := by have : (N : Int) ≠ 0 := by omega
                                                        simpa using this
              have hNz' : ¬ N = 0 := by omega
              rw [hN] at hc
              obtain ⟨s2, hs2⟩ : ∃ s2, (s.fail c).1 = s2 := ⟨_, rfl⟩
              rw [hs2] at hb2 hbo hbb hat2
              have HC := Lib.hid hc
              have HSP := Lib.hid hsp
              have HB2 := Lib.hid hb2
              have HF2 := Lib.hid hf2
              have HBO := Lib.hid hbo
              have HBB := Lib.hid hbb
              have HAT2 := Lib.hid hat2
              have HN := Lib.hid hN
              have HS2 := Lib.hid hs2
              clear hc hsp hb2 hf2 hbo hbb hat2 hN hs2
              refine l_call rfl rfl rfl (by first | (go_simp; done) | (go_simp; rfl)) (HC.out) ?_
              rintro e w' ⟨A2, d2, rfl, hr1, hr2, hx⟩
              clear HX
              try simp only [List.nil_append, List.cons_append, List.set_cons_zero, List.set_cons_succ] at hx
              have HX := Lib.hid hx
              clear hx
              refine ⟨_, rfl, ?_⟩
              repeat first
                | apply d_seq
                | with_reducible apply kt_normal
                | apply l_nil
                | apply d_region
                | (apply l_off; (focus rfl); (focus rfl))
                | (apply l_val; (focus rfl); (focus rfl); (focus rfl); (focus (go_simp; (try simp (disch := omega) only [wrap_in, wrap_in', wrap_u16, wrap_u8, wrap_u32, wrap_u64, rem_in, quo_in]); first | done | with_reducible rfl | (constructor <;> with_reducible rfl))))
                | (apply l_store; (focus rfl); (focus rfl); (focus rfl); (focus (go_simp; (try simp (disch := omega) only [wrap_in, wrap_in', wrap_u16, wrap_u8, wrap_u32, wrap_u64, rem_in, quo_in]); first | done | with_reducible rfl | (constructor <;> with_reducible rfl))))
                | apply d_block
                | (apply d_true; (focus rfl); (focus rfl))
                | (apply d_false; (focus rfl); (focus rfl))
                | apply d_skip
                | apply d_exit
                | apply d_ret
                | with_reducible apply kt_ret
                | with_reducible apply kt_exit
                | with_reducible apply kb_normal
                | with_reducible apply kb_ret
                | with_reducible apply kb_here
                | with_reducible apply kl_ret
                | with_reducible apply kl_exit
                | with_reducible apply kc_ret
                | with_reducible apply kc_exit
                | (with_reducible apply kb_there; (focus rfl))
              clear HC
              have hc := fail_has HX.out 0 a s rfl c
              rw [HF2.out, HS2.out] at hc
              have HC := Lib.hid hc
              clear hc
              refine l_call rfl rfl rfl (by first | (go_simp; done) | (go_simp; rfl)) (HC.out) ?_
              rintro e w' ⟨rfl, hx⟩
              clear HX
              try simp only [List.nil_append, List.cons_append, List.set_cons_zero, List.set_cons_succ] at hx
              have HX := Lib.hid hx
              clear hx
              refine ⟨_, rfl, ?_⟩
              repeat first
                | apply d_seq
                | with_reducible apply kt_normal
                | apply l_nil
                | apply d_region
                | (apply l_off; (focus rfl); (focus rfl))
                | (apply l_val; (focus rfl); (focus rfl); (focus rfl); (focus (go_simp; (try simp (disch := omega) only [wrap_in, wrap_in', wrap_u16, wrap_u8, wrap_u32, wrap_u64, rem_in, quo_in]); first | done | with_reducible rfl | (constructor <;> with_reducible rfl))))
                | (apply l_store; (focus rfl); (focus rfl); (focus rfl); (focus (go_simp; (try simp (disch := omega) only [wrap_in, wrap_in', wrap_u16, wrap_u8, wrap_u32, wrap_u64, rem_in, quo_in]); first | done | with_reducible rfl | (constructor <;> with_reducible rfl))))
                | apply d_block
                | (apply d_true; (focus rfl); (focus rfl))
                | (apply d_false; (focus rfl); (focus rfl))
                | apply d_skip
                | apply d_exit
                | apply d_ret
                | with_reducible apply kt_ret
                | with_reducible apply kt_exit
                | with_reducible apply kb_normal
                | with_reducible apply kb_ret
                | with_reducible apply kb_here
                | with_reducible apply kl_ret
                | with_reducible apply kl_exit
                | with_reducible apply kc_ret
                | with_reducible apply kc_exit
                | (with_reducible apply kb_there; (focus rfl))
              clear HC
              have hc := at_has HX.out 0 a s2 rfl 9
              rw [HAT2.out] at hc
              simp only [ansV] at hc
              have HC := Lib.hid hc
              clear hc
              refine l_call rfl rfl rfl (by first | (go_simp; done) | (go_simp; rfl)) (HC.out) ?_
              rintro e w6 ⟨rfl, hx⟩
              obtain ⟨g5, d5, e5, -, -, c0⟩ := hx.numK (i := 1) (k := 0) rfl HN.out.symm rfl
              simp only [Value.slice.injEq, true_and] at e5
              obtain ⟨rfl, rfl⟩ := e5
              have d0 := hx.cell0 D0.out
              clear HX HC
              have HX := Lib.hid hx
              clear hx
              refine ⟨_, rfl, ?_⟩
              cases y with
              | false =>
                repeat first
                  | apply d_seq
                  | with_reducible apply kt_normal
                  | apply l_nil
                  | apply d_region
                  | (apply l_off; (focus rfl); (focus rfl))
                  | (apply l_val; (focus rfl); (focus rfl); (focus rfl); (focus (go_simp; (try simp (disch := omega) only [wrap_in, wrap_in', wrap_u16, wrap_u8, wrap_u32, wrap_u64, rem_in, quo_in]); first | done | with_reducible rfl | (constructor <;> with_reducible rfl))))
                  | (apply l_store; (focus rfl); (focus rfl); (focus rfl); (focus (go_simp; (try simp (disch := omega) only [wrap_in, wrap_in', wrap_u16, wrap_u8, wrap_u32, wrap_u64, rem_in, quo_in]); first | done | with_reducible rfl | (constructor <;> with_reducible rfl))))
                  | apply d_block
                  | (apply d_true; (focus rfl); (focus rfl))
                  | (apply d_false; (focus rfl); (focus rfl))
                  | apply d_skip
                  | apply d_exit
                  | apply d_ret
                  | with_reducible apply kt_ret
                  | with_reducible apply kt_exit
                  | with_reducible apply kb_normal
                  | with_reducible apply kb_ret
                  | with_reducible apply kb_here
                  | with_reducible apply kl_ret
                  | with_reducible apply kl_exit
                  | with_reducible apply kc_ret
                  | with_reducible apply kc_exit
                  | (with_reducible apply kb_there; (focus rfl))
                refine kl_normal (l0.length - (k + 1)) _ (by omega) (Subl.cons (t := 1) (by decide) rfl (Subl.cons (t := 5) (by decide) rfl (Subl.cons (t := 6) (by decide) rfl (Subl.cons (t := 9) (by decide) rfl (Subl.nil _ _))))) ?_
                exact ⟨k + 1, s2, rfl, by omega, rfl, Lib.hid (HX.out.take 1), Lib.hid ⟨_, HB2.out⟩⟩
              | true =>
                have hc := bring_has HX.out 0 a s2 rfl c
                rw [HBO.out] at hc
                have HC := Lib.hid hc
                clear hc
                repeat first
                  | apply d_seq
                  | with_reducible apply kt_normal
                  | apply l_nil
                  | apply d_region
                  | (apply l_off; (focus rfl); (focus rfl))
                  | (apply l_val; (focus rfl); (focus rfl); (focus rfl); (focus (go_simp; (try simp (disch := omega) only [wrap_in, wrap_in', wrap_u16, wrap_u8, wrap_u32, wrap_u64, rem_in, quo_in]); first | done | with_reducible rfl | (constructor <;> with_reducible rfl))))
                  | (apply l_store; (focus rfl); (focus rfl); (focus rfl); (focus (go_simp; (try simp (disch := omega) only [wrap_in, wrap_in', wrap_u16, wrap_u8, wrap_u32, wrap_u64, rem_in, quo_in]); first | done | with_reducible rfl | (constructor <;> with_reducible rfl))))
                  | apply d_block
                  | (apply d_true; (focus rfl); (focus rfl))
                  | (apply d_false; (focus rfl); (focus rfl))
                  | apply d_skip
                  | apply d_exit
                  | apply d_ret
                  | with_reducible apply kt_ret
                  | with_reducible apply kt_exit
                  | with_reducible apply kb_normal
                  | with_reducible apply kb_ret
                  | with_reducible apply kb_here
                  | with_reducible apply kl_ret
                  | with_reducible apply kl_exit
                  | with_reducible apply kc_ret
                  | with_reducible apply kc_exit
                  | (with_reducible apply kb_there; (focus rfl))
                refine l_call rfl rfl rfl (by first | (go_simp; done) | (go_simp; rfl)) (HC.out) ?_
                rintro e w' ⟨rfl, hx⟩
                clear HX
                try simp only [List.nil_append, List.cons_append, List.set_cons_zero, List.set_cons_succ] at hx
                have HX := Lib.hid hx
                clear hx
                refine ⟨_, rfl, ?_⟩
                repeat first
                  | apply d_seq
                  | with_reducible apply kt_normal
                  | apply l_nil
                  | apply d_region
                  | (apply l_off; (focus rfl); (focus rfl))
                  | (apply l_val; (focus rfl); (focus rfl); (focus rfl); (focus (go_simp; (try simp (disch := omega) only [wrap_in, wrap_in', wrap_u16, wrap_u8, wrap_u32, wrap_u64, rem_in, quo_in]); first | done | with_reducible rfl | (constructor <;> with_reducible rfl))))
                  | (apply l_store; (focus rfl); (focus rfl); (focus rfl); (focus (go_simp; (try simp (disch := omega) only [wrap_in, wrap_in', wrap_u16, wrap_u8, wrap_u32, wrap_u64, rem_in, quo_in]); first | done | with_reducible rfl | (constructor <;> with_reducible rfl))))
                  | apply d_block
                  | (apply d_true; (focus rfl); (focus rfl))
                  | (apply d_false; (focus rfl); (focus rfl))
                  | apply d_skip
                  | apply d_exit
                  | apply d_ret
                  | with_reducible apply kt_ret
                  | with_reducible apply kt_exit
                  | with_reducible apply kb_normal
                  | with_reducible apply kb_ret
                  | with_reducible apply kb_here
                  | with_reducible apply kl_ret
                  | with_reducible apply kl_exit
                  | with_reducible apply kc_ret
                  | with_reducible apply kc_exit
                  | (with_reducible apply kb_there; (focus rfl))
                refine kl_normal (l0.length - (k + 1)) _ (by omega) (Subl.cons (t := 1) (by decide) rfl (Subl.cons (t := 5) (by decide) rfl (Subl.cons (t := 6) (by decide) rfl (Subl.cons (t := 9) (by decide) rfl (Subl.nil _ _))))) ?_
                exact ⟨k + 1, _, rfl, by omega, rfl, Lib.hid (HX.out.take 1), Lib.hid ⟨_, HBB.out⟩⟩
          · repeat first
              | apply d_seq
              | with_reducible apply kt_normal
              | apply l_nil
              | apply d_region
              | (apply l_off; (focus rfl); (focus rfl))
              | (apply l_val; (focus rfl); (focus rfl); (focus rfl); (focus (go_simp; (try simp (disch := omega) only [wrap_in, wrap_in', wrap_u16, wrap_u8, wrap_u32, wrap_u64, rem_in, quo_in]); first | done | with_reducible rfl | (constructor <;> with_reducible rfl))))
              | (apply l_store; (focus rfl); (focus rfl); (focus rfl); (focus (go_simp; (try simp (disch := omega) only [wrap_in, wrap_in', wrap_u16, wrap_u8, wrap_u32, wrap_u64, rem_in, quo_in]); first | done | with_reducible rfl | (constructor <;> with_reducible rfl))))
              | apply d_block
              | (apply d_true; (focus rfl); (focus rfl))
              | (apply d_false; (focus rfl); (focus rfl))
              | apply d_skip
              | apply d_exit
              | apply d_ret
              | with_reducible apply kt_ret
              | with_reducible apply kt_exit
              | with_reducible apply kb_normal
              | with_reducible apply kb_ret
              | with_reducible apply kb_here
              | with_reducible apply kl_ret
              | with_reducible apply kl_exit
              | with_reducible apply kc_ret
              | with_reducible apply kc_exit
              | (with_reducible apply kb_there; (focus rfl))
            have hll := round_len hb
            have hc := locs_has HX.out 0 a s rfl
            rw [hll] at hc
            have HC := Lib.hid hc
            clear hc
            refine l_call rfl rfl rfl (by first | (go_simp; done) | (go_simp; rfl)) (HC.out) ?_
            rintro e w' ⟨A3, d3, rfl, hr3, hr4, hx⟩
            clear HX
            try simp only [List.nil_append, List.cons_append, List.set_cons_zero, List.set_cons_succ] at hx
            have HX := Lib.hid hx
            clear hx
            refine ⟨_, rfl, ?_⟩
            repeat first
              | apply d_seq
              | with_reducible apply kt_normal
              | apply l_nil
              | apply d_region
              | (apply l_off; (focus rfl); (focus rfl))
              | (apply l_val; (focus rfl); (focus rfl); (focus rfl); (focus (go_simp; (try simp (disch := omega) only [wrap_in, wrap_in', wrap_u16, wrap_u8, wrap_u32, wrap_u64, rem_in, quo_in]); first | done | with_reducible rfl | (constructor <;> with_reducible rfl))))
              | (apply l_store; (focus rfl); (focus rfl); (focus rfl); (focus (go_simp; (try simp (disch := omega) only [wrap_in, wrap_in', wrap_u16, wrap_u8, wrap_u32, wrap_u64, rem_in, quo_in]); first | done | with_reducible rfl | (constructor <;> with_reducible rfl))))
              | apply d_block
              | (apply d_true; (focus rfl); (focus rfl))
              | (apply d_false; (focus rfl); (focus rfl))
              | apply d_skip
              | apply d_exit
              | apply d_ret
              | with_reducible apply kt_ret
              | with_reducible apply kt_exit
              | with_reducible apply kb_normal
              | with_reducible apply kb_ret
              | with_reducible apply kb_here
              | with_reducible apply kl_ret
              | with_reducible apply kl_exit
              | with_reducible apply kc_ret
              | with_reducible apply kc_exit
              | (with_reducible apply kb_there; (focus rfl))
            refine ⟨rfl, _, (by first | (simp [resultsG, resOne, Try.results7, rho, List.lookup]; done) | (simp [resultsG, resOne, Try.results7, rho, List.lookup]; rfl)), ?_⟩
            exact ⟨rfl, HX.out.old⟩
        · repeat first
            | apply d_seq
            | with_reducible apply kt_normal
            | apply l_nil
            | apply d_region
            | (apply l_off; (focus rfl); (focus rfl))
            | (apply l_val; (focus rfl); (focus rfl); (focus rfl); (focus (go_simp; (try simp (disch := omega) only [wrap_in, wrap_in', wrap_u16, wrap_u8, wrap_u32, wrap_u64, rem_in, quo_in]); first | done | with_reducible rfl | (constructor <;> with_reducible rfl))))
            | (apply l_store; (focus rfl); (focus rfl); (focus rfl); (focus (go_simp; (try simp (disch := omega) only [wrap_in, wrap_in', wrap_u16, wrap_u8, wrap_u32, wrap_u64, rem_in, quo_in]); first | done | with_reducible rfl | (constructor <;> with_reducible rfl))))
            | apply d_block
            | (apply d_true; (focus rfl); (focus rfl))
            | (apply d_false; (focus rfl); (focus rfl))
            | apply d_skip
            | apply d_exit
            | apply d_ret
            | with_reducible apply kt_ret
            | with_reducible apply kt_exit
            | with_reducible apply kb_normal
            | with_reducible apply kb_ret
            | with_reducible apply kb_here
            | with_reducible apply kl_ret
            | with_reducible apply kl_exit
            | with_reducible apply kc_ret
            | with_reducible apply kc_exit
            | (with_reducible apply kb_there; (focus rfl))
          have hll := round_len hb
          have hc := locs_has HX.out 0 a s rfl
          rw [hll] at hc
          have HC := Lib.hid hc
          clear hc
          refine l_call rfl rfl rfl (by first | (go_simp; done) | (go_simp; rfl)) (HC.out) ?_
          rintro e w' ⟨A3, d3, rfl, hr3, hr4, hx⟩
          clear HX
          try simp only [List.nil_append, List.cons_append, List.set_cons_zero, List.set_cons_succ] at hx
          have HX := Lib.hid hx
          clear hx
          refine ⟨_, rfl, ?_⟩
          repeat first
            | apply d_seq
            | with_reducible apply kt_normal
            | apply l_nil
            | apply d_region
            | (apply l_off; (focus rfl); (focus rfl))
            | (apply l_val; (focus rfl); (focus rfl); (focus rfl); (focus (go_simp; (try simp (disch := omega) only [wrap_in, wrap_in', wrap_u16, wrap_u8, wrap_u32, wrap_u64, rem_in, quo_in]); first | done | with_reducible rfl | (constructor <;> with_reducible rfl))))
            | (apply l_store; (focus rfl); (focus rfl); (focus rfl); (focus (go_simp; (try simp (disch := omega) only [wrap_in, wrap_in', wrap_u16, wrap_u8, wrap_u32, wrap_u64, rem_in, quo_in]); first | done | with_reducible rfl | (constructor <;> with_reducible rfl))))
            | apply d_block
            | (apply d_true; (focus rfl); (focus rfl))
            | (apply d_false; (focus rfl); (focus rfl))
            | apply d_skip
            | apply d_exit
            | apply d_ret
            | with_reducible apply kt_ret
            | with_reducible apply kt_exit
            | with_reducible apply kb_normal
            | with_reducible apply kb_ret
            | with_reducible apply kb_here
            | with_reducible apply kl_ret
            | with_reducible apply kl_exit
            | with_reducible apply kc_ret
            | with_reducible apply kc_exit
            | (with_reducible apply kb_there; (focus rfl))
          refine ⟨rfl, _, (by first | (simp [resultsG, resOne, Try.results7, rho, List.lookup]; done) | (simp [resultsG, resOne, Try.results7, rho, List.lookup]; rfl)), ?_⟩
          exact ⟨rfl, HX.out.old⟩
end Go.Proofs.Ytbcjmgocdplfnaa
