import Derived.Test.YtienodnkfohakaaWalD
import Derived.Deep.WholeRow
namespace Go.Proofs.Ytienodnkfohakaa
set_option linter.unusedVariables false
set_option linter.unusedSimpArgs false
attribute [local go_sem] rho_const rho_func rho_hit rho_miss
open Go.RowKit
attribute [local go_sem] min2_mn min_two' max2_mx max_two'
theorem WSee.at {w : World} {p g : Nat} {s : WS} {xs : List CbV} (h : WSee w p g s xs) {n : Int} {c : Cb} (hat : s.at n = some c) : ∃ v, xs[n.toNat]? = some ⟨c, v⟩ ∧ n.toNat < xs.length := by
  obtain ⟨h0, h1, h2⟩ := at_in hat
  obtain ⟨x, h3, h4⟩ := h.x (show n.toNat < xs.length by rw [h.len]; exact (List.getElem?_eq_some_iff.1 h1).1)
  obtain rfl : x.c = c := Option.some.inj (h4.symm.trans h1)
  exact ⟨x.v, h3, (List.getElem?_eq_some_iff.1 h3).1⟩
/-- The last thing in the place of another one. -/
theorem HasF.swapIn {F : Nat → Prop} {w0 w : World} {l : List (Asrt 0)} {P : Asrt 0} (H : HasF F w0 w (l ++ [P])) {i : Nat} (hi : i < l.length) : HasF F w0 w (l.set i P) := by
  obtain ⟨h0, G, h1, h2, h3⟩ := H
  refine ⟨h0, fun j k => if j = i then G l.length k else (j < l.length ∧ G j k), ?_, ?_, fun j Q hj => ?_⟩
  · intro j k h
    split at h
    · exact h1 _ k h
    · exact h1 _ k h.2
  · intro a b k h h'
    split at h <;> split at h'
    · omega
    · have := h2 _ _ k h h'.2; omega
    · have := h2 _ _ k h.2 h'; omega
    · exact h2 _ _ k h.2 h'.2
  · by_cases e : j = i
    · subst e
      rw [List.getElem?_set_self hi] at hj
      obtain rfl := Option.some.inj hj
      simp only [if_true]
      exact h3 l.length P (by simp)
    · rw [List.getElem?_set_ne (fun c => e c.symm)] at hj
      have hl := (List.getElem?_eq_some_iff.1 hj).1
      simp only [if_neg e]
      exact Q.loc (h3 j Q (by rw [List.getElem?_append_left hl]; exact hj)) (Nat.le_refl _) (fun k hg _ => ⟨⟨hl, hg⟩, rfl⟩) (fun k hn hl => by omega)
set_option maxHeartbeats 4000000 in
/-- Release. -/
theorem release_any (p g : Nat) (n : Int) (s : WS) (F : Nat → Prop) (w : World) (h : WRep w F p g s) :
    Calls Try.prog 17 #[.pointer (some ⟨p, 0, none⟩), .int .i64 n] w fun e w' => e = .returned (.tuple #[.int .u32 (s.release n).2.1, .int .i64 (s.release n).2.2]) ∧ Keep F w w' ∧ WRep w' (fresh F w w') p g (s.release n).1 := by
  have ha := full_any p g n s F w h
  cases hf : s.full n with
  | false =>
    have e : s.release n = (s, 0, 7) := by
      unfold WS.release
      cases s.at n with
      | none => rfl
      | some c => dsimp only; rw [hf]; rfl
    rw [hf] at ha
    rw [e]
    have HA := Lib.hid ha
    have H := Lib.hid h
    clear ha h
    clear hf e
    refine d_calls (n := 27) Try.func17 rfl rfl (by simp) [(0, .pointer (some ⟨p, 0, none⟩)), (1, .int .i64 n)] (by simp) ?_
    repeat first
      | apply d_seq
      | with_reducible apply kt_normal
      | apply l_nil
      | apply d_region
      | (apply l_off; (focus rfl); (focus rfl))
      | (apply l_val; (focus rfl); (focus rfl); (focus rfl); (focus (go_simp; (try simp (disch := omega) only [wrap_in, wrap_in', wrap_u16, wrap_u8, wrap_u32, wrap_u64, rem_in, quo_in]); first | done | with_reducible rfl | (constructor <;> with_reducible rfl))))
      | (apply l_store; (focus rfl); (focus rfl); (focus rfl); (focus (go_simp; (try simp (disch := omega) only [wrap_in, wrap_in', wrap_u16, wrap_u8, wrap_u32, wrap_u64, rem_in, quo_in]); first | done | with_reducible rfl | (constructor <;> with_reducible rfl))))
      | apply d_block
      | (apply d_true; (focus rfl); (focus rfl))
      | (apply d_false; (focus rfl); (focus rfl))
      | apply d_skip
      | apply d_exit
      | apply d_ret
      | with_reducible apply kt_ret
      | with_reducible apply kt_exit
      | with_reducible apply kb_normal
      | with_reducible apply kb_ret
      | with_reducible apply kb_here
      | with_reducible apply kl_ret
      | with_reducible apply kl_exit
      | with_reducible apply kc_ret
      | with_reducible apply kc_exit
      | (with_reducible apply kb_there; (focus rfl))
    refine l_call rfl rfl rfl (by first | (go_simp; done) | (go_simp; rfl)) (HA.out) ?_
    rintro e w' ⟨rfl, rfl⟩
    refine ⟨_, rfl, ?_⟩
    repeat first
      | apply d_seq
      | with_reducible apply kt_normal
      | apply l_nil
      | apply d_region
      | (apply l_off; (focus rfl); (focus rfl))
      | (apply l_val; (focus rfl); (focus rfl); (focus rfl); (focus (go_simp; (try simp (disch := omega) only [wrap_in, wrap_in', wrap_u16, wrap_u8, wrap_u32, wrap_u64, rem_in, quo_in]); first | done | with_reducible rfl | (constructor <;> with_reducible rfl))))
      | (apply l_store; (focus rfl); (focus rfl); (focus rfl); (focus (go_simp; (try simp (disch := omega) only [wrap_in, wrap_in', wrap_u16, wrap_u8, wrap_u32, wrap_u64, rem_in, quo_in]); first | done | with_reducible rfl | (constructor <;> with_reducible rfl))))
      | apply d_block
      | (apply d_true; (focus rfl); (focus rfl))
      | (apply d_false; (focus rfl); (focus rfl))
      | apply d_skip
      | apply d_exit
      | apply d_ret
      | with_reducible apply kt_ret
      | with_reducible apply kt_exit
      | with_reducible apply kb_normal
      | with_reducible apply kb_ret
      | with_reducible apply kb_here
      | with_reducible apply kl_ret
      | with_reducible apply kl_exit
      | with_reducible apply kc_ret
      | with_reducible apply kc_exit
      | (with_reducible apply kb_there; (focus rfl))
    refine ⟨rfl, _, (by first | (simp [resultsG, resOne, Try.results17, rho, List.lookup]; done) | (simp [resultsG, resOne, Try.results17, rho, List.lookup]; rfl)), ?_⟩
    exact ⟨rfl, Keep.refl _ _, H.out.grow (Keep.refl _ _)⟩
  | true =>
    rw [hf] at ha
    obtain ⟨c, hat⟩ : ∃ c, s.at n = some c := by
      cases hat : s.at n with
      | none => unfold WS.full at hf; rw [hat] at hf; simp at hf
      | some c => exact ⟨c, rfl⟩
    have e : s.release n = (s.upd n.toNat Cb.zero, c.order, 0) := by
      unfold WS.release
      rw [hat]
      dsimp only
      rw [hf]
      rfl
    rw [e]
    have hg := h.1
    have hgood2 : (s.upd n.toNat Cb.zero).good := hg.upd _ Cb.zero_good
    obtain ⟨h0, h1, h2⟩ := at_in hat
    obtain ⟨-, xs, hcs, hparts⟩ := h
    have hxk : ∃ v, xs[n.toNat]? = some ⟨c, v⟩ := by
      rw [← hcs, List.getElem?_map] at h1
      obtain ⟨x, h1, h2⟩ := Option.map_eq_some_iff.1 h1
      exact ⟨x.v, by rw [h1, ← h2]⟩
    obtain ⟨v, hy⟩ := hxk
    have hkl := (List.getElem?_eq_some_iff.1 hy).1
    have H0 := HasF.start hparts
    have h16 : xs.length ≤ 16 := by have := hg.n16; rw [← hcs, List.length_map] at this; exact this
    have c0 := wparts_p H0
    obtain ⟨d0, d1, d2⟩ := wparts_at H0 hy
    have f0 := wparts_fr H0 (n.toNat * 3)
    have f1 := wparts_fr H0 (n.toNat * 3 + 1)
    have f2 := wparts_fr H0 (n.toNat * 3 + 2)
    dsimp only at d0 d1 d2
    obtain ⟨A1, hown, hA1, hback⟩ := H0.call (wparts_row p g hy)
    have H1 := hback w (OwnA 0 35 3 (.slice none 0 0) ([] : List Ln).length (lns [])) (Keep.refl _ _) (Own.nil _ _ _ _)
    have H2 := ((H1.put (i := 1) rfl (n.toNat * 3) (.bool false)).put (i := 1) rfl (n.toNat * 3 + 1) (.int .u32 0)).put (i := 1) rfl (n.toNat * 3 + 2) (.slice none 0 0)
    rw [List.set_set, List.set_set] at H2
    have hall := wparts_all p g hy ⟨Cb.zero, .slice none 0 0⟩
    dsimp only [Cb.zero] at hall
    rw [hall] at H2
    have HR := Lib.hid (WRep.of hg hcs hgood2 H2)
    have HO := Lib.hid H2.old
    have hn : n = ((n.toNat : Nat) : Int) := by omega
    have D2 := Lib.hid d2
    have HA := Lib.hid ha
    clear ha
    clear H0 H1 H2 hback hown hA1 hall hy hparts hcs h1 hgood2 hg hat hf e d2
    generalize n.toNat = k at *
    subst hn
    have q1 : (0 : Int) ≤ ((k : Nat) : Int) := by omega
    have q2 : ((k : Nat) : Int) < ((xs.length : Nat) : Int) := by omega
    have d2 := D2.out
    refine d_calls (n := 27) Try.func17 rfl rfl (by simp) [(0, .pointer (some ⟨p, 0, none⟩)), (1, .int .i64 k)] (by simp) ?_
    repeat first
      | apply d_seq
      | with_reducible apply kt_normal
      | apply l_nil
      | apply d_region
      | (apply l_off; (focus rfl); (focus rfl))
      | (apply l_val; (focus rfl); (focus rfl); (focus rfl); (focus (go_simp; (try simp (disch := omega) only [wrap_in, wrap_in', wrap_u16, wrap_u8, wrap_u32, wrap_u64, rem_in, quo_in]); first | done | with_reducible rfl | (constructor <;> with_reducible rfl))))
      | (apply l_store; (focus rfl); (focus rfl); (focus rfl); (focus (go_simp; (try simp (disch := omega) only [wrap_in, wrap_in', wrap_u16, wrap_u8, wrap_u32, wrap_u64, rem_in, quo_in]); first | done | with_reducible rfl | (constructor <;> with_reducible rfl))))
      | apply d_block
      | (apply d_true; (focus rfl); (focus rfl))
      | (apply d_false; (focus rfl); (focus rfl))
      | apply d_skip
      | apply d_exit
      | apply d_ret
      | with_reducible apply kt_ret
      | with_reducible apply kt_exit
      | with_reducible apply kb_normal
      | with_reducible apply kb_ret
      | with_reducible apply kb_here
      | with_reducible apply kl_ret
      | with_reducible apply kl_exit
      | with_reducible apply kc_ret
      | with_reducible apply kc_exit
      | (with_reducible apply kb_there; (focus rfl))
    refine l_call rfl rfl rfl (by first | (go_simp; done) | (go_simp; rfl)) (HA.out) ?_
    rintro e w' ⟨rfl, rfl⟩
    refine ⟨_, rfl, ?_⟩
    repeat first
      | apply d_seq
      | with_reducible apply kt_normal
      | apply l_nil
      | apply d_region
      | (apply l_off; (focus rfl); (focus rfl))
      | (apply l_val; (focus rfl); (focus rfl); (focus rfl); (focus (go_simp; (try simp (disch := omega) only [wrap_in, wrap_in', wrap_u16, wrap_u8, wrap_u32, wrap_u64, rem_in, quo_in]); first | done | with_reducible rfl | (constructor <;> with_reducible rfl))))
      | (apply l_store; (focus rfl); (focus rfl); (focus rfl); (focus (go_simp; (try simp (disch := omega) only [wrap_in, wrap_in', wrap_u16, wrap_u8, wrap_u32, wrap_u64, rem_in, quo_in]); first | done | with_reducible rfl | (constructor <;> with_reducible rfl))))
      | apply d_block
      | (apply d_true; (focus rfl); (focus rfl))
      | (apply d_false; (focus rfl); (focus rfl))
      | apply d_skip
      | apply d_exit
      | apply d_ret
      | with_reducible apply kt_ret
      | with_reducible apply kt_exit
      | with_reducible apply kb_normal
      | with_reducible apply kb_ret
      | with_reducible apply kb_here
      | with_reducible apply kl_ret
      | with_reducible apply kl_exit
      | with_reducible apply kc_ret
      | with_reducible apply kc_exit
      | (with_reducible apply kb_there; (focus rfl))
    refine ⟨rfl, _, (by first | (simp [resultsG, resOne, Try.results17, rho, List.lookup]; done) | (simp [resultsG, resOne, Try.results17, rho, List.lookup]; rfl)), ?_⟩
    exact ⟨rfl, HO.out, HR.out⟩
set_option maxHeartbeats 4000000 in
/-- Assign. -/
theorem assign_any (p g : Nat) (id : Int) (ls : List Ln) (A : Option Addr) (m cp : Nat) (G : Nat → Prop) (s : WS) (F : Nat → Prop) (w : World) (h : WRep w F p g s) (hs : SeesIn w G 3 (.slice A m cp) m (lns ls)) (hm : m = ls.length) (hl : m ≤ 12) (hq : ∀ x ∈ ls, x.qty ≤ 9223372036854775807) :
    Calls Try.prog 13 #[.pointer (some ⟨p, 0, none⟩), .int .u32 id, .slice A m cp] w fun e w' => e = .returned (.tuple #[.int .i64 (s.assign id ls).2.1, .int .i64 (s.assign id ls).2.2]) ∧ Keep F w w' ∧ WRep w' (fresh F w w') p g (s.assign id ls).1 := by
  subst hm
  have hgood2 : (s.assign id ls).1.good := h.1.assign id hl hq
  have h1 := cubby_any p g id s F w h
  have h2 := fun W (hk : Keep none_ w W) => sortedW_any ls A ls.length cp G W (hs.keep hk) rfl hl
  have h3 := fun W (hk : Keep none_ w W) => firstFree_any p g s F W (h.keep hk)
  have H := Lib.hid h
  have H1 := Lib.hid h1
  have H2 := Lib.hid h2
  have H3 := Lib.hid h3
  have HGOOD2 := Lib.hid hgood2
  clear h1 h2 h3 hgood2
  clear h hs
  refine d_calls (n := 44) Try.func13 rfl rfl (by simp) [(0, .pointer (some ⟨p, 0, none⟩)), (1, .int .u32 id), (2, .slice A ls.length cp)] (by simp) ?_
  repeat first
    | apply d_seq
    | with_reducible apply kt_normal
    | apply l_nil
    | apply d_region
    | (apply l_off; (focus rfl); (focus rfl))
    | (apply l_val; (focus rfl); (focus rfl); (focus rfl); (focus (go_simp; (try simp (disch := omega) only [wrap_in, wrap_in', wrap_u16, wrap_u8, wrap_u32, wrap_u64, rem_in, quo_in]); first | done | with_reducible rfl | (constructor <;> with_reducible rfl))))
    | (apply l_store; (focus rfl); (focus rfl); (focus rfl); (focus (go_simp; (try simp (disch := omega) only [wrap_in, wrap_in', wrap_u16, wrap_u8, wrap_u32, wrap_u64, rem_in, quo_in]); first | done | with_reducible rfl | (constructor <;> with_reducible rfl))))
    | apply d_block
    | (apply d_true; (focus rfl); (focus rfl))
    | (apply d_false; (focus rfl); (focus rfl))
    | apply d_skip
    | apply d_exit
    | apply d_ret
    | with_reducible apply kt_ret
    | with_reducible apply kt_exit
    | with_reducible apply kb_normal
    | with_reducible apply kb_ret
    | with_reducible apply kb_here
    | with_reducible apply kl_ret
    | with_reducible apply kl_exit
    | with_reducible apply kc_ret
    | with_reducible apply kc_exit
    | (with_reducible apply kb_there; (focus rfl))
  refine l_call rfl rfl rfl (by first | (go_simp; done) | (go_simp; rfl)) (H1.out) ?_
  rintro e w1 ⟨rfl, hk1⟩
  have HK1 := Lib.hid hk1
  clear hk1
  refine ⟨_, rfl, ?_⟩
  repeat first
    | apply d_seq
    | with_reducible apply kt_normal
    | apply l_nil
    | apply d_region
    | (apply l_off; (focus rfl); (focus rfl))
    | (apply l_val; (focus rfl); (focus rfl); (focus rfl); (focus (go_simp; (try simp (disch := omega) only [wrap_in, wrap_in', wrap_u16, wrap_u8, wrap_u32, wrap_u64, rem_in, quo_in]); first | done | with_reducible rfl | (constructor <;> with_reducible rfl))))
    | (apply l_store; (focus rfl); (focus rfl); (focus rfl); (focus (go_simp; (try simp (disch := omega) only [wrap_in, wrap_in', wrap_u16, wrap_u8, wrap_u32, wrap_u64, rem_in, quo_in]); first | done | with_reducible rfl | (constructor <;> with_reducible rfl))))
    | apply d_block
    | (apply d_true; (focus rfl); (focus rfl))
    | (apply d_false; (focus rfl); (focus rfl))
    | apply d_skip
    | apply d_exit
    | apply d_ret
    | with_reducible apply kt_ret
    | with_reducible apply kt_exit
    | with_reducible apply kb_normal
    | with_reducible apply kb_ret
    | with_reducible apply kb_here
    | with_reducible apply kl_ret
    | with_reducible apply kl_exit
    | with_reducible apply kc_ret
    | with_reducible apply kc_exit
    | (with_reducible apply kb_there; (focus rfl))
  refine l_call rfl rfl rfl (by first | (go_simp; done) | (go_simp; rfl)) (H2.out w1 HK1.out) ?_
  rintro e w2 ⟨v, rfl, hk2, hv1, hv2⟩
  have HK2 := Lib.hid (HK1.out.next hk2)
  have HV1 := Lib.hid hv1
  have HV2 := Lib.hid (fun hb => (hv2 hb).move (G := fresh none_ w w2) (fun q hq hl => ⟨hq.elim .inl (fun c => .inr ⟨Nat.le_trans HK1.out.size c.1, c.2⟩), rfl⟩))
  clear hk2 hv1 hv2
  refine ⟨_, rfl, ?_⟩
  repeat first
    | apply d_seq
    | with_reducible apply kt_normal
    | apply l_nil
    | apply d_region
    | (apply l_off; (focus rfl); (focus rfl))
    | (apply l_val; (focus rfl); (focus rfl); (focus rfl); (focus (go_simp; (try simp (disch := omega) only [wrap_in, wrap_in', wrap_u16, wrap_u8, wrap_u32, wrap_u64, rem_in, quo_in]); first | done | with_reducible rfl | (constructor <;> with_reducible rfl))))
    | (apply l_store; (focus rfl); (focus rfl); (focus rfl); (focus (go_simp; (try simp (disch := omega) only [wrap_in, wrap_in', wrap_u16, wrap_u8, wrap_u32, wrap_u64, rem_in, quo_in]); first | done | with_reducible rfl | (constructor <;> with_reducible rfl))))
    | apply d_block
    | (apply d_true; (focus rfl); (focus rfl))
    | (apply d_false; (focus rfl); (focus rfl))
    | apply d_skip
    | apply d_exit
    | apply d_ret
    | with_reducible apply kt_ret
    | with_reducible apply kt_exit
    | with_reducible apply kb_normal
    | with_reducible apply kb_ret
    | with_reducible apply kb_here
    | with_reducible apply kl_ret
    | with_reducible apply kl_exit
    | with_reducible apply kc_ret
    | with_reducible apply kc_exit
    | (with_reducible apply kb_there; (focus rfl))
  refine l_call rfl rfl rfl (by first | (go_simp; done) | (go_simp; rfl)) (H3.out w2 HK2.out) ?_
  rintro e w3 ⟨rfl, hk3⟩
  have HK3 := Lib.hid (HK2.out.next hk3)
  have HK23 := Lib.hid hk3
  clear hk3
  have E : s.assign id ls = if 0 ≤ s.of id then (s, 0, 8) else if badL (sortL ls) then (s, 0, 1) else if s.free1 < 0 then (s, 0, 5) else (s.upd s.free1.toNat ⟨true, id, sortL ls⟩, s.free1, 0) := rfl
  by_cases c1 : 0 ≤ s.of id
  · rw [if_pos c1] at E
    have q1 : decide (0 ≤ s.of id) = true := decide_eq_true c1
    have HE := Lib.hid E
    clear E c1
    refine ⟨_, rfl, ?_⟩
    repeat first
      | apply d_seq
      | with_reducible apply kt_normal
      | apply l_nil
      | apply d_region
      | (apply l_off; (focus rfl); (focus rfl))
      | (apply l_val; (focus rfl); (focus rfl); (focus rfl); (focus (go_simp; (try simp (disch := omega) only [wrap_in, wrap_in', wrap_u16, wrap_u8, wrap_u32, wrap_u64, rem_in, quo_in]); first | done | with_reducible rfl | (constructor <;> with_reducible rfl))))
      | (apply l_store; (focus rfl); (focus rfl); (focus rfl); (focus (go_simp; (try simp (disch := omega) only [wrap_in, wrap_in', wrap_u16, wrap_u8, wrap_u32, wrap_u64, rem_in, quo_in]); first | done | with_reducible rfl | (constructor <;> with_reducible rfl))))
      | apply d_block
      | (apply d_true; (focus rfl); (focus rfl))
      | (apply d_false; (focus rfl); (focus rfl))
      | apply d_skip
      | apply d_exit
      | apply d_ret
      | with_reducible apply kt_ret
      | with_reducible apply kt_exit
      | with_reducible apply kb_normal
      | with_reducible apply kb_ret
      | with_reducible apply kb_here
      | with_reducible apply kl_ret
      | with_reducible apply kl_exit
      | with_reducible apply kc_ret
      | with_reducible apply kc_exit
      | (with_reducible apply kb_there; (focus rfl))
    refine ⟨rfl, _, (by first | (simp [resultsG, resOne, Try.results13, rho, List.lookup]; done) | (simp [resultsG, resOne, Try.results13, rho, List.lookup]; rfl)), ?_⟩
    rw [HE.out]
    exact ⟨rfl, HK3.out.none, H.out.grow HK3.out⟩
  · rw [if_neg c1] at E
    have q1 : decide (0 ≤ s.of id) = false := decide_eq_false c1
    cases c2 : badL (sortL ls) with
    | true =>
      rw [c2, if_pos rfl] at E
      have HE := Lib.hid E
      clear E c1
      refine ⟨_, rfl, ?_⟩
      repeat first
        | apply d_seq
        | with_reducible apply kt_normal
        | apply l_nil
        | apply d_region
        | (apply l_off; (focus rfl); (focus rfl))
        | (apply l_val; (focus rfl); (focus rfl); (focus rfl); (focus (go_simp; (try simp (disch := omega) only [wrap_in, wrap_in', wrap_u16, wrap_u8, wrap_u32, wrap_u64, rem_in, quo_in]); first | done | with_reducible rfl | (constructor <;> with_reducible rfl))))
        | (apply l_store; (focus rfl); (focus rfl); (focus rfl); (focus (go_simp; (try simp (disch := omega) only [wrap_in, wrap_in', wrap_u16, wrap_u8, wrap_u32, wrap_u64, rem_in, quo_in]); first | done | with_reducible rfl | (constructor <;> with_reducible rfl))))
        | apply d_block
        | (apply d_true; (focus rfl); (focus rfl))
        | (apply d_false; (focus rfl); (focus rfl))
        | apply d_skip
        | apply d_exit
        | apply d_ret
        | with_reducible apply kt_ret
        | with_reducible apply kt_exit
        | with_reducible apply kb_normal
        | with_reducible apply kb_ret
        | with_reducible apply kb_here
        | with_reducible apply kl_ret
        | with_reducible apply kl_exit
        | with_reducible apply kc_ret
        | with_reducible apply kc_exit
        | (with_reducible apply kb_there; (focus rfl))
      refine ⟨rfl, _, (by first | (simp [resultsG, resOne, Try.results13, rho, List.lookup]; done) | (simp [resultsG, resOne, Try.results13, rho, List.lookup]; rfl)), ?_⟩
      rw [HE.out]
      exact ⟨rfl, HK3.out.none, H.out.grow HK3.out⟩
    | false =>
      rw [c2, if_neg (by simp)] at E
      have hv := HV2.out c2
      by_cases c3 : s.free1 < 0
      · rw [if_pos c3] at E
        have q3 : decide (s.free1 < 0) = true := decide_eq_true c3
        have HE := Lib.hid E
        clear E c1 hv c3
        refine ⟨_, rfl, ?_⟩
        repeat first
          | apply d_seq
          | with_reducible apply kt_normal
          | apply l_nil
          | apply d_region
          | (apply l_off; (focus rfl); (focus rfl))
          | (apply l_val; (focus rfl); (focus rfl); (focus rfl); (focus (go_simp; (try simp (disch := omega) only [wrap_in, wrap_in', wrap_u16, wrap_u8, wrap_u32, wrap_u64, rem_in, quo_in]); first | done | with_reducible rfl | (constructor <;> with_reducible rfl))))
          | (apply l_store; (focus rfl); (focus rfl); (focus rfl); (focus (go_simp; (try simp (disch := omega) only [wrap_in, wrap_in', wrap_u16, wrap_u8, wrap_u32, wrap_u64, rem_in, quo_in]); first | done | with_reducible rfl | (constructor <;> with_reducible rfl))))
          | apply d_block
          | (apply d_true; (focus rfl); (focus rfl))
          | (apply d_false; (focus rfl); (focus rfl))
          | apply d_skip
          | apply d_exit
          | apply d_ret
          | with_reducible apply kt_ret
          | with_reducible apply kt_exit
          | with_reducible apply kb_normal
          | with_reducible apply kb_ret
          | with_reducible apply kb_here
          | with_reducible apply kl_ret
          | with_reducible apply kl_exit
          | with_reducible apply kc_ret
          | with_reducible apply kc_exit
          | (with_reducible apply kb_there; (focus rfl))
        refine ⟨rfl, _, (by first | (simp [resultsG, resOne, Try.results13, rho, List.lookup]; done) | (simp [resultsG, resOne, Try.results13, rho, List.lookup]; rfl)), ?_⟩
        rw [HE.out]
        exact ⟨rfl, HK3.out.none, H.out.grow HK3.out⟩
      · rw [if_neg c3] at E
        have q3 : decide (s.free1 < 0) = false := decide_eq_false c3
        have hgood := HGOOD2.out
        rw [E] at hgood
        dsimp only at hgood
        have hg := H.out.1
        obtain ⟨-, xs, hcs, hparts⟩ := H.out
        have hkx : ∃ (k : Nat) (y : CbV), s.free1 = (k : Int) ∧ xs[k]? = some y := by
          have hf : s.free1 = pidx xs fun x => !x.c.held := by unfold WS.free1; rw [← hcs, pidx_map]
          rw [hf] at c3 ⊢
          unfold pidx at c3 ⊢
          cases hfi : xs.findIdx? (fun x => !x.c.held) with
          | none => rw [hfi] at c3; simp at c3
          | some k =>
            rw [List.findIdx?_eq_some_iff_getElem] at hfi
            obtain ⟨hk, -⟩ := hfi
            exact ⟨k, xs[k], rfl, List.getElem?_eq_getElem hk⟩
        obtain ⟨k, y, hk, hy⟩ := hkx
        have hkl := (List.getElem?_eq_some_iff.1 hy).1
        have h16 : xs.length ≤ 16 := by have := hg.n16; rw [← hcs, List.length_map] at this; exact this
        have H0 := (HasF.start hparts).keep HK3.out
        have hv3 : Own w3 (fresh none_ w w3) 35 3 v ls.length (lns (sortL ls)) := hv.move (fun q hq hl => ⟨hq.elim .inl (fun c => .inr ⟨c.1, Nat.lt_of_lt_of_le c.2 HK23.out.size⟩), HK23.out.block q hl (fun c => c)⟩)
        rw [hk] at E hgood q3
        rw [Int.toNat_natCast] at E hgood
        have c0 := wparts_p H0
        obtain ⟨d0, d1, d2⟩ := wparts_at H0 hy
        have f0 := wparts_fr H0 (k * 3)
        have f1 := wparts_fr H0 (k * 3 + 1)
        have f2 := wparts_fr H0 (k * 3 + 2)
        obtain ⟨A2, c2', rfl, -, -⟩ := hv3.len
        have hvs : Own w3 (fresh none_ w w3) 35 3 (.slice A2 ls.length c2') (sortL ls).length (lns (sortL ls)) := by rw [(sortL_facts ls).1]; exact hv3
        have H1 := ((HasF.start hparts).new HK3.out (P := OwnA 0 35 3 (.slice A2 ls.length c2') (sortL ls).length (lns (sortL ls))) hvs).swapIn (i := k + 2) (by unfold wparts; simp; omega)
        have H2 := ((H1.put (i := 1) rfl (k * 3) (.bool true)).put (i := 1) rfl (k * 3 + 1) (.int .u32 id)).put (i := 1) rfl (k * 3 + 2) (.slice A2 ls.length c2')
        rw [List.set_set, List.set_set] at H2
        have hall := wparts_all p g hy ⟨⟨true, id, sortL ls⟩, .slice A2 ls.length c2'⟩
        dsimp only at hall
        rw [hall] at H2
        have HR := Lib.hid (WRep.of hg hcs hgood H2)
        have HO := Lib.hid H2.old
        obtain ⟨A3, n3, c3', ey⟩ : ∃ A n c, y.v = .slice A n c := by obtain ⟨G3, A3, c3, e3, -⟩ := wparts_sees H0 hy; exact ⟨_, _, _, e3⟩
        rw [ey] at d2
        have HE := Lib.hid E
        have HNK := Lib.hid hk
        rw [hk]
        have q5 : (0 : Int) ≤ ((k : Nat) : Int) := by omega
        have q6 : ((k : Nat) : Int) < ((xs.length : Nat) : Int) := by omega
        clear H0 H1 H2 hall hy hparts hcs hgood hg E hk hvs hv3 hv c1 c3 ey HV1 HV2
        have c4 := c2
        have HC2 := Lib.hid c2
        clear c2
        refine ⟨_, rfl, ?_⟩
        repeat first
          | apply d_seq
          | with_reducible apply kt_normal
          | apply l_nil
          | apply d_region
          | (apply l_off; (focus rfl); (focus rfl))
          | (apply l_val; (focus rfl); (focus rfl); (focus rfl); (focus (go_simp; (try simp (disch := omega) only [wrap_in, wrap_in', wrap_u16, wrap_u8, wrap_u32, wrap_u64, rem_in, quo_in]); first | done | with_reducible rfl | (constructor <;> with_reducible rfl))))
          | (apply l_store; (focus rfl); (focus rfl); (focus rfl); (focus (go_simp; (try simp (disch := omega) only [wrap_in, wrap_in', wrap_u16, wrap_u8, wrap_u32, wrap_u64, rem_in, quo_in]); first | done | with_reducible rfl | (constructor <;> with_reducible rfl))))
          | apply d_block
          | (apply d_true; (focus rfl); (focus rfl))
          | (apply d_false; (focus rfl); (focus rfl))
          | apply d_skip
          | apply d_exit
          | apply d_ret
          | with_reducible apply kt_ret
          | with_reducible apply kt_exit
          | with_reducible apply kb_normal
          | with_reducible apply kb_ret
          | with_reducible apply kb_here
          | with_reducible apply kl_ret
          | with_reducible apply kl_exit
          | with_reducible apply kc_ret
          | with_reducible apply kc_exit
          | (with_reducible apply kb_there; (focus rfl))
        refine ⟨rfl, _, (by first | (simp [resultsG, resOne, Try.results13, rho, List.lookup]; done) | (simp [resultsG, resOne, Try.results13, rho, List.lookup]; rfl)), ?_⟩
        rw [HE.out]
        exact ⟨rfl, HO.out, HR.out⟩
/-- The zero cubbies. -/
def zcubs (n : Nat) : List CbV := List.replicate n ⟨Cb.zero, .slice none 0 0⟩
theorem zcubs_fl (n : Nat) : (zcubs n).flatMap CbV.cs = (List.replicate n [Value.bool false, .int .u32 0, .slice none 0 0]).flatten := by
  induction n with
  | zero => rfl
  | succ n ih => unfold zcubs at *; rw [List.replicate_succ, List.flatMap_cons, ih, List.replicate_succ, List.flatten_cons]; rfl
theorem zcubs_made (k : Nat) : madeCells #[.bool false, .int .u32 0, .slice none 0 0] (k * 3) = cubArr (zcubs k) := by
  apply Array.ext'
  unfold cubArr
  rw [zcubs_fl]
  show (Builtin.zeroCells #[.bool false, .int .u32 0, .slice none 0 0] k).toList = _
  apply List.ext_getElem?
  intro i
  simp only [Builtin.zeroCells, List.size_toArray, List.length_cons, List.length_nil, Array.toList_map, Array.toList_range, List.getElem?_map]
  by_cases h : i < k * 3
  · rw [List.getElem?_range h, ← zcubs_fl]
    have e : ((zcubs k).flatMap CbV.cs)[i]? = (CbV.cs ⟨Cb.zero, .slice none 0 0⟩)[i % 3]? := by
      have := fl_get (enc := CbV.cs) CbV.three (zcubs k) (i / 3) ⟨Cb.zero, .slice none 0 0⟩ (by unfold zcubs; rw [List.getElem?_replicate, if_pos (by omega)]) (i % 3) (by omega)
      rw [show i / 3 * 3 + i % 3 = i by omega] at this
      exact this
    rw [e]
    rcases (by omega : i % 3 = 0 ∨ i % 3 = 1 ∨ i % 3 = 2) with h | h | h <;> simp [h, CbV.cs, Cb.zero]
  · rw [List.getElem?_eq_none (by simpa using h), List.getElem?_eq_none (by simp; omega)]; rfl
theorem exec_make {P : Program} {w w' : World} {ρ : Operand → Value} {o : Oper} {v av bv : Value} (t : TypeId) (a b : Operand) (ho : o.op = .makeSlice t a b) (ha : ρ a = av) (hb : ρ b = bv) (hr : (Instr.makeSlice t av bv).run P w = .ok v w') : (execOp ρ o).run P w = .ok (.value v) w' := by
  simp [execOp, ho, ha, hb, hr, Result.andThen]
theorem Try.infoCub : (Try.prog.info? 74).map (fun i => (i.zero, i.size, i.bytes)) = some (some (.agg #[.bool false, .int .u32 0, .slice none 0 0]), 3, 32) := by kernel_rfl
theorem run_makeC (w : World) (n : Nat) (hn : n ≤ 16) : (Instr.makeSlice 66 (.int .i64 n) (.int .i64 n)).run Try.prog w = .ok (.slice (some ⟨w.heap.size, 0, none⟩) n n) (w.alloc (.cells (cubArr (zcubs n)) 74)) := by
  obtain ⟨i0, hi, hz0, hz1, hz2⟩ := info_parts Try.infoCub
  have := run_makeSlice (P := Try.prog) (w := w) 66 74 i0 _ Try.underlying66 hi hz0 .i64 .i64 n n (by omega) (by omega) (by rw [hz1]; simp; omega) (by rw [hz2]; omega) (by omega)
  rw [this, hz1]
  simp only [Int.toNat_natCast, Value.cells]
  rw [zcubs_made]
theorem HasF.swapTwo {F : Nat → Prop} {w0 w : World} {P Q : Asrt 0} {l : List (Asrt 0)} (H : HasF F w0 w (P :: Q :: l)) : HasF F w0 w (Q :: P :: l) := by
  obtain ⟨h0, G, h1, h2, h3⟩ := H
  refine ⟨h0, fun j k => G (if j = 0 then 1 else if j = 1 then 0 else j) k, fun j k h => h1 _ k h, fun a b k h h' => ?_, fun j R hj => ?_⟩
  · have := h2 _ _ k h h'
    split at this <;> split at this <;> (try split at this) <;> (try split at this) <;> omega
  · match j with
    | 0 => exact h3 1 R (by simpa using hj)
    | 1 => exact h3 0 R (by simpa using hj)
    | j + 2 =>
      have := h3 (j + 2) R (by simpa using hj)
      simpa using this
/-- New. -/
def WS.new (n : Nat) : WS := ⟨List.replicate n Cb.zero⟩
theorem zcubs_rows (n : Nat) : (zcubs n).map rowA = List.replicate n (OwnA 0 35 3 (.slice none 0 0) 0 []) := by unfold zcubs; rw [List.map_replicate]; rfl
theorem HasF.nils {F : Nat → Prop} {w0 w : World} {l : List (Asrt 0)} (H : HasF F w0 w l) : ∀ n, HasF F w0 w (l ++ List.replicate n (OwnA 0 35 3 (.slice none 0 0) 0 [])) := by
  intro n
  induction n with
  | zero => simpa using H
  | succ n ih =>
    have := ih.nilRow 35 3
    rw [List.append_assoc, ← List.replicate_succ'] at this
    exact this
set_option maxRecDepth 100000 in
theorem new_any (c : Int) (n : Nat) (hn : mn (mx c 1) 16 = n) (h1 : 1 ≤ n) (h16 : n ≤ 16) (w : World) :
    Calls Try.prog 11 #[.int .i64 c] w fun e w' => e = .returned (.pointer (some ⟨w.heap.size + 1, 0, none⟩)) ∧ Keep none_ w w' ∧ WRep w' (fresh none_ w w') (w.heap.size + 1) w.heap.size (WS.new n) := by
  have hm := run_makeC w n h16
  have hs : (w.alloc (.cells (cubArr (zcubs n)) 74)).heap.size = w.heap.size + 1 := by simp
  have hx := (((HasF.nil (Keep.refl none_ w)).box (cubArr (zcubs n)) 74).box #[.slice (some ⟨w.heap.size, 0, none⟩) n n] 68).nils n
  rw [hs] at hx
  have hl : (zcubs n).length = n := by simp [zcubs]
  have hx2 := hx.swapTwo
  have HR : Hid (WRep ((w.alloc (.cells (cubArr (zcubs n)) 74)).alloc (.cells #[.slice (some ⟨w.heap.size, 0, none⟩) n n] 68)) (fresh none_ w ((w.alloc (.cells (cubArr (zcubs n)) 74)).alloc (.cells #[.slice (some ⟨w.heap.size, 0, none⟩) n n] 68))) (w.heap.size + 1) w.heap.size (WS.new n)) := by
    refine Lib.hid ⟨⟨by simpa [WS.new] using h1, by simpa [WS.new] using h16, fun c hc => ?_⟩, zcubs n, by simp [zcubs, WS.new], ?_⟩
    · obtain rfl : c = Cb.zero := by simpa [WS.new] using (List.mem_replicate.1 hc).2
      exact Cb.zero_good
    · have := hx2.parts
      unfold wparts
      rw [zcubs_rows, hl]
      exact this
  have HO := Lib.hid hx.old
  have HM := Lib.hid hm
  clear hm
  clear hx hx2
  refine d_calls (n := 9) Try.func11 rfl rfl (by simp) [(0, .int .i64 c)] (by simp) ?_
  repeat first
    | apply d_seq
    | with_reducible apply kt_normal
    | apply l_nil
    | apply d_region
    | (apply l_off; (focus rfl); (focus rfl))
    | (apply l_val; (focus rfl); (focus rfl); (focus rfl); (focus (go_simp; (try simp (disch := omega) only [wrap_in, wrap_in', wrap_u16, wrap_u8, wrap_u32, wrap_u64, rem_in, quo_in]); first | done | with_reducible rfl | (constructor <;> with_reducible rfl))))
    | (apply l_store; (focus rfl); (focus rfl); (focus rfl); (focus (go_simp; (try simp (disch := omega) only [wrap_in, wrap_in', wrap_u16, wrap_u8, wrap_u32, wrap_u64, rem_in, quo_in]); first | done | with_reducible rfl | (constructor <;> with_reducible rfl))))
    | apply d_block
    | (apply d_true; (focus rfl); (focus rfl))
    | (apply d_false; (focus rfl); (focus rfl))
    | apply d_skip
    | apply d_exit
    | apply d_ret
    | with_reducible apply kt_ret
    | with_reducible apply kt_exit
    | with_reducible apply kb_normal
    | with_reducible apply kb_ret
    | with_reducible apply kb_here
    | with_reducible apply kl_ret
    | with_reducible apply kl_exit
    | with_reducible apply kc_ret
    | with_reducible apply kc_exit
    | (with_reducible apply kb_there; (focus rfl))
  refine l_val rfl rfl rfl (exec_make 66 (.tmp 5) (.tmp 5) rfl rfl rfl HM.out) ?_
  repeat first
    | apply d_seq
    | with_reducible apply kt_normal
    | apply l_nil
    | apply d_region
    | (apply l_off; (focus rfl); (focus rfl))
    | (apply l_val; (focus rfl); (focus rfl); (focus rfl); (focus (go_simp; (try simp (disch := omega) only [wrap_in, wrap_in', wrap_u16, wrap_u8, wrap_u32, wrap_u64, rem_in, quo_in]); first | done | with_reducible rfl | (constructor <;> with_reducible rfl))))
    | (apply l_store; (focus rfl); (focus rfl); (focus rfl); (focus (go_simp; (try simp (disch := omega) only [wrap_in, wrap_in', wrap_u16, wrap_u8, wrap_u32, wrap_u64, rem_in, quo_in]); first | done | with_reducible rfl | (constructor <;> with_reducible rfl))))
    | apply d_block
    | (apply d_true; (focus rfl); (focus rfl))
    | (apply d_false; (focus rfl); (focus rfl))
    | apply d_skip
    | apply d_exit
    | apply d_ret
    | with_reducible apply kt_ret
    | with_reducible apply kt_exit
    | with_reducible apply kb_normal
    | with_reducible apply kb_ret
    | with_reducible apply kb_here
    | with_reducible apply kl_ret
    | with_reducible apply kl_exit
    | with_reducible apply kc_ret
    | with_reducible apply kc_exit
    | (with_reducible apply kb_there; (focus rfl))
  refine ⟨rfl, _, (by first | (simp [resultsG, resOne, Try.results11, rho, List.lookup]; done) | (simp [resultsG, resOne, Try.results11, rho, List.lookup]; rfl)), ?_⟩
  exact ⟨rfl, HO.out, HR.out⟩
end Go.Proofs.Ytienodnkfohakaa
