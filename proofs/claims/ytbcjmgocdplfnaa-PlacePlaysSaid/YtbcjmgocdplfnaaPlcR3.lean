import Derived.Test.YtbcjmgocdplfnaaPlcR2
namespace Go.Proofs.Ytbcjmgocdplfnaa
set_option linter.unusedVariables false
set_option linter.unusedSimpArgs false
attribute [local go_sem] rho_const rho_func rho_hit rho_miss
open Go.RowKit
attribute [local go_sem] min2_mn min_two' max2_mx max_two'
theorem Try.infoSh : (Try.prog.info? 56).map (fun i => (i.zero, i.size, i.bytes)) = some (some (.agg #[.int .u16 0, .int .u8 0]), 2, 4) := by kernel_rfl
theorem appF_sh {F : Nat → Prop} {w0 w : World} {L : List (Asrt 0)} (H : HasF F w0 w L) {k n m : Nat} {v x : Value} {xs ys : List (Int × Int)} (hi : L[k]? = some (OwnA 0 56 2 v n (xs.flatMap shc))) {G : Nat → Prop} (hx : SeesIn w G 2 x m (ys.flatMap shc)) (hm : n + m ≤ 1000) :
    ∃ A cap w', (Builtin.append_ #[52, 52] 52 #[v, x]).run Try.prog w = .ok (.slice A (n + m) cap) w' ∧ n + m ≤ cap ∧ cap ≤ 9223372036854775807 ∧
      HasF F w0 w' (L.set k (OwnA 0 56 2 (.slice A (n + m) cap) (n + m) ((xs ++ ys).flatMap shc))) := by
  obtain ⟨i0, hi0, hz0, hz1, hz2⟩ := info_parts Try.infoSh
  have := H.app (P := Try.prog) hi hx 52 i0 _ 4 Try.underlying52 hi0 hz0 hz1 hz2 rfl (by decide) (by unfold maxLen; omega) (by omega) 52
  rw [List.flatMap_append]
  exact this
theorem run_s0 (w : World) : (Instr.buildSlice 52 0 #[]).run Try.prog w = .ok (.slice (some ⟨w.heap.size, 0, none⟩) 0 0) (w.alloc (.cells #[] 56)) := by kernel_rfl
theorem run_s1 (w : World) (x y : Int) : (Instr.buildSlice 52 1 #[(0, .agg #[.int .u16 x, .int .u8 y])]).run Try.prog w = .ok (.slice (some ⟨w.heap.size, 0, none⟩) 1 1) (w.alloc (.cells #[.int .u16 x, .int .u8 y] 56)) := by kernel_rfl
theorem pwth_at {l : List (Int × Int)} {q : Int × Int} {k : Nat} (h1 : ∀ x ∈ l.take k, x.1 < q.1) (h2 : ∀ x, l[k]? = some x → ¬ x.1 < q.1) : pwth l q = l.take k ++ q :: l.drop k := by
  unfold pwth
  have key : l.takeWhile (fun x => decide (x.1 < q.1)) = l.take k ∧ l.dropWhile (fun x => decide (x.1 < q.1)) = l.drop k := by
    induction l generalizing k with
    | nil => simp
    | cons y l ih =>
      cases k with
      | zero =>
        have := h2 y rfl
        rw [List.takeWhile_cons_of_neg (by simpa using this), List.dropWhile_cons_of_neg (by simpa using this)]
        simp
      | succ k =>
        have hy := h1 y (by simp)
        obtain ⟨e1, e2⟩ := ih (k := k) (fun x hx => h1 x (List.mem_cons_of_mem _ hx)) (fun x hx => h2 x (by simpa using hx))
        rw [List.takeWhile_cons_of_pos (by simpa using hy), List.dropWhile_cons_of_pos (by simpa using hy), e1, e2]
        simp
  rw [key.1, key.2]
theorem RPRep.back {w : World} {F : Nat → Prop} {w0 : World} {p : Nat} {s : PS} (hs : s.ok) {Lv Sv Bv : Value} (H : HasF F w0 w (rparts p s Lv Sv Bv)) : Keep F w0 w ∧ RPRep w (fresh F w0 w) p s := ⟨H.old, hs, Lv, Sv, Bv, H.parts⟩
theorem PS.pairs_short {s : PS} (h : s.ok) : s.pairs.length ≤ 31 := by rw [PS.pairs_len, PS.locs_len]; exact s.len h
theorem ansV_is (k : IntKind) (o : Option Int) : ∃ x, ansV k o = .tuple #[.int k x, .bool o.isSome] := by cases o <;> exact ⟨_, rfl⟩
set_option maxRecDepth 100000 in
set_option maxHeartbeats 4000000 in
theorem rMap_any (p : Nat) (s : PS) (loc a : Int) (F : Nat → Prop) (w : World) (h : RPRep w F p s) (hl : 0 ≤ loc) :
    Calls Try.prog 13 #[.pointer (some ⟨p, 0, none⟩), .int .u16 loc, .int .u8 a] w fun e w' => e = .returned (.int .i64 (s.map loc a).2) ∧ Keep F w w' ∧ RPRep w' (fresh F w w') p (s.map loc a).1 := by
  have hrep := h
  obtain ⟨hok, Lv, Sv, Bv, hp⟩ := h
  have same : ∀ w', Keep none_ w w' → Keep F w w' ∧ RPRep w' (fresh F w w') p s := fun w' hk => ⟨hk.none, hrep.move hk.size (fun k hF hl => ⟨.inl hF, hk.block k hl (fun c => c)⟩)⟩
  by_cases h64 : 64 ≤ loc
  · have e : s.map loc a = (s, 1) := by unfold PS.map; rw [if_pos (.inl h64)]
    have q1 : decide (loc ≥ 64) = true := decide_eq_true h64
    have q2 : decide (64 ≤ loc) = true := decide_eq_true h64
    rw [e]
    have SAME := Lib.hid same
    clear same
    clear hp hrep hok e
    refine d_calls (n := 102) Try.func13 rfl rfl (by simp) [(0, .pointer (some ⟨p, 0, none⟩)), (1, .int .u16 loc), (2, .int .u8 a)] (by simp) ?_
    repeat first
      | apply d_seq
      | with_reducible apply kt_normal
      | apply l_nil
      | apply d_region
      | (apply l_off; (focus rfl); (focus rfl))
      | (apply l_val; (focus rfl); (focus rfl); (focus rfl); (focus (go_simp; (try simp (disch := omega) only [wrap_in, wrap_in', wrap_u16, wrap_u8, wrap_u32, wrap_u64, rem_in, quo_in]); first | done | with_reducible rfl | (constructor <;> with_reducible rfl))))
      | (apply l_store; (focus rfl); (focus rfl); (focus rfl); (focus (go_simp; (try simp (disch := omega) only [wrap_in, wrap_in', wrap_u16, wrap_u8, wrap_u32, wrap_u64, rem_in, quo_in]); first | done | with_reducible rfl | (constructor <;> with_reducible rfl))))
      | apply d_block
      | (apply d_true; (focus rfl); (focus rfl))
      | (apply d_false; (focus rfl); (focus rfl))
      | apply d_skip
      | apply d_exit
      | apply d_ret
      | with_reducible apply kt_ret
      | with_reducible apply kt_exit
      | with_reducible apply kb_normal
      | with_reducible apply kb_ret
      | with_reducible apply kb_here
      | with_reducible apply kl_ret
      | with_reducible apply kl_exit
      | with_reducible apply kc_ret
      | with_reducible apply kc_exit
      | (with_reducible apply kb_there; (focus rfl))
    refine ⟨rfl, _, (by first | (simp [resultsG, resOne, Try.results13, rho, List.lookup]; done) | (simp [resultsG, resOne, Try.results13, rho, List.lookup]; rfl)), ?_⟩
    exact ⟨rfl, SAME.out w (Keep.refl _ _)⟩
  have q1 : decide (loc ≥ 64) = false := decide_eq_false h64
  have q2 : decide (64 ≤ loc) = false := decide_eq_false h64
  by_cases hk : known a = true
  rotate_left
  · have hk' : known a = false := by simpa using hk
    have e : s.map loc a = (s, 1) := by unfold PS.map; rw [if_pos (.inr hk')]
    have hr : ¬ (1 ≤ a ∧ a ≤ 31) := fun c => hk (known_iff.2 c)
    rw [e]
    have SAME := Lib.hid same
    clear same
    clear hp hrep hok e hk hk'
    by_cases h1 : a < 1
    · have q3 : decide (a < 1) = true := decide_eq_true h1
      clear hr
      refine d_calls (n := 102) Try.func13 rfl rfl (by simp) [(0, .pointer (some ⟨p, 0, none⟩)), (1, .int .u16 loc), (2, .int .u8 a)] (by simp) ?_
      repeat first
        | apply d_seq
        | with_reducible apply kt_normal
        | apply l_nil
        | apply d_region
        | (apply l_off; (focus rfl); (focus rfl))
        | (apply l_val; (focus rfl); (focus rfl); (focus rfl); (focus (go_simp; (try simp (disch := omega) only [wrap_in, wrap_in', wrap_u16, wrap_u8, wrap_u32, wrap_u64, rem_in, quo_in]); first | done | with_reducible rfl | (constructor <;> with_reducible rfl))))
        | (apply l_store; (focus rfl); (focus rfl); (focus rfl); (focus (go_simp; (try simp (disch := omega) only [wrap_in, wrap_in', wrap_u16, wrap_u8, wrap_u32, wrap_u64, rem_in, quo_in]); first | done | with_reducible rfl | (constructor <;> with_reducible rfl))))
        | apply d_block
        | (apply d_true; (focus rfl); (focus rfl))
        | (apply d_false; (focus rfl); (focus rfl))
        | apply d_skip
        | apply d_exit
        | apply d_ret
        | with_reducible apply kt_ret
        | with_reducible apply kt_exit
        | with_reducible apply kb_normal
        | with_reducible apply kb_ret
        | with_reducible apply kb_here
        | with_reducible apply kl_ret
        | with_reducible apply kl_exit
        | with_reducible apply kc_ret
        | with_reducible apply kc_exit
        | (with_reducible apply kb_there; (focus rfl))
      refine ⟨rfl, _, (by first | (simp [resultsG, resOne, Try.results13, rho, List.lookup]; done) | (simp [resultsG, resOne, Try.results13, rho, List.lookup]; rfl)), ?_⟩
      exact ⟨rfl, SAME.out w (Keep.refl _ _)⟩
    · have q3 : decide (a < 1) = false := decide_eq_false h1
      have q4 : decide (a > 31) = true := decide_eq_true (by omega)
      have q5 : decide (31 < a) = true := decide_eq_true (by omega)
      clear hr
      refine d_calls (n := 102) Try.func13 rfl rfl (by simp) [(0, .pointer (some ⟨p, 0, none⟩)), (1, .int .u16 loc), (2, .int .u8 a)] (by simp) ?_
      repeat first
        | apply d_seq
        | with_reducible apply kt_normal
        | apply l_nil
        | apply d_region
        | (apply l_off; (focus rfl); (focus rfl))
        | (apply l_val; (focus rfl); (focus rfl); (focus rfl); (focus (go_simp; (try simp (disch := omega) only [wrap_in, wrap_in', wrap_u16, wrap_u8, wrap_u32, wrap_u64, rem_in, quo_in]); first | done | with_reducible rfl | (constructor <;> with_reducible rfl))))
        | (apply l_store; (focus rfl); (focus rfl); (focus rfl); (focus (go_simp; (try simp (disch := omega) only [wrap_in, wrap_in', wrap_u16, wrap_u8, wrap_u32, wrap_u64, rem_in, quo_in]); first | done | with_reducible rfl | (constructor <;> with_reducible rfl))))
        | apply d_block
        | (apply d_true; (focus rfl); (focus rfl))
        | (apply d_false; (focus rfl); (focus rfl))
        | apply d_skip
        | apply d_exit
        | apply d_ret
        | with_reducible apply kt_ret
        | with_reducible apply kt_exit
        | with_reducible apply kb_normal
        | with_reducible apply kb_ret
        | with_reducible apply kb_here
        | with_reducible apply kl_ret
        | with_reducible apply kl_exit
        | with_reducible apply kc_ret
        | with_reducible apply kc_exit
        | (with_reducible apply kb_there; (focus rfl))
      refine ⟨rfl, _, (by first | (simp [resultsG, resOne, Try.results13, rho, List.lookup]; done) | (simp [resultsG, resOne, Try.results13, rho, List.lookup]; rfl)), ?_⟩
      exact ⟨rfl, SAME.out w (Keep.refl _ _)⟩
  have ha := known_iff.1 hk
  have q3 : decide (a < 1) = false := decide_eq_false (by omega)
  have q4 : decide (a > 31) = false := decide_eq_false (by omega)
  have q5 : decide (31 < a) = false := decide_eq_false (by omega)
  have hcA := rAt_any p s loc F w hrep
  have hcO := rOf_any p s a F w hrep
  obtain ⟨x1, hx1⟩ := ansV_is .u8 (s.at? loc)
  obtain ⟨x2, hx2⟩ := ansV_is .u16 (s.of? a)
  rw [is_shows hok] at hx2
  rw [hx1] at hcA
  rw [hx2] at hcO
  have hs0 := HasF.start hp
  obtain ⟨c0, c1, c2, f0, f1, f2⟩ := blk3 (hs0.blk (i := 0) rfl)
  obtain ⟨G1, hs1, A1, d1, rfl, hb1, hb1'⟩ := hs0.own (i := 1) rfl
  obtain ⟨G2, hs2, A2, d2, rfl, hb2, hb2'⟩ := hs0.sees (i := 2) rfl
  obtain ⟨G3, hs3, A3, d3, rfl, hb3, hb3'⟩ := hs0.sees (i := 3) rfl
  have hc3 := rHas_any w G2 A2 _ d2 s.spares a hs2 rfl (by have := spares_short s; omega)
  rw [is_spare hok] at hc3
  have hmap : (s.at? loc).isSome = true ∨ s.is a ≠ 0 → s.map loc a = (s, 8) := fun c => by
    unfold PS.map
    rw [if_neg (by rw [hk]; simp; omega), if_pos c]
  have hnew := fun (c1 : s.at? loc = none) (c2 : s.is a = 0) => map_new hok h64 hl hk c1 c2
  have hok' := PS.ok_map hok loc a hl
  have hir := PS.is_range hok a
  have hb := brok_short s
  have hps := PS.pairs_short hok
  have hisb := is_brok hok a
  have HS0 := Lib.hid hs0
  obtain ⟨b1, hb1e⟩ : ∃ b, (s.at? loc).isSome = b := ⟨_, rfl⟩
  rw [hb1e] at hcA
  have SAME := Lib.hid same
  have HCA := Lib.hid hcA
  have HCO := Lib.hid hcO
  have HC3 := Lib.hid hc3
  have HMAP := Lib.hid hmap
  have HNEW := Lib.hid hnew
  have HOK' := Lib.hid hok'
  have HIR := Lib.hid hir
  have HISB := Lib.hid hisb
  have HS1 := Lib.hid hs1
  have HS2 := Lib.hid hs2
  have HS3 := Lib.hid hs3
  have HB1E := Lib.hid hb1e
  clear same hcA hcO hc3 hmap hnew hok' hir hisb hs1 hs2 hs3 hb1e
  clear hp hrep hs0 hx1 hx2 q3 q4 q5
  have hir := HIR.out
  have q3 : decide (a < 1) = false := decide_eq_false (by omega)
  have q4 : decide (a > 31) = false := decide_eq_false (by omega)
  have q5 : decide (31 < a) = false := decide_eq_false (by omega)
  clear HIR ha
  obtain ⟨i, hi⟩ : ∃ i, s.is a = i := ⟨_, rfl⟩
  rw [hi] at hir
  cases b1 with
  | true =>
    rw [HMAP.out (.inl HB1E.out)]
    have hcO := HCO.out
    have hc3 := HC3.out
    have hisb := HISB.out
    obtain ⟨bO, hbO⟩ : ∃ b, decide (s.is a = 3) = b := ⟨_, rfl⟩
    obtain ⟨bS, hbS⟩ : ∃ b, decide (s.is a = 1) = b := ⟨_, rfl⟩
    obtain ⟨bB, hbB⟩ : ∃ b, decide (s.is a = 2) = b := ⟨_, rfl⟩
    rw [hbO] at hcO
    rw [hbS] at hc3
    rw [hbB] at hisb
    clear hbO hbS hbB HCO HC3 HISB hi hir
    have HCO := Lib.hid hcO
    have HC3 := Lib.hid hc3
    have HISB := Lib.hid hisb
    clear hcO hc3 hisb
    refine d_calls (n := 102) Try.func13 rfl rfl (by simp) [(0, .pointer (some ⟨p, 0, none⟩)), (1, .int .u16 loc), (2, .int .u8 a)] (by simp) ?_
    repeat first
      | apply d_seq
      | with_reducible apply kt_normal
      | apply l_nil
      | apply d_region
      | (apply l_off; (focus rfl); (focus rfl))
      | (apply l_val; (focus rfl); (focus rfl); (focus rfl); (focus (go_simp; (try simp (disch := omega) only [wrap_in, wrap_in', wrap_u16, wrap_u8, wrap_u32, wrap_u64, rem_in, quo_in]); first | done | with_reducible rfl | (constructor <;> with_reducible rfl))))
      | (apply l_store; (focus rfl); (focus rfl); (focus rfl); (focus (go_simp; (try simp (disch := omega) only [wrap_in, wrap_in', wrap_u16, wrap_u8, wrap_u32, wrap_u64, rem_in, quo_in]); first | done | with_reducible rfl | (constructor <;> with_reducible rfl))))
      | apply d_block
      | (apply d_true; (focus rfl); (focus rfl))
      | (apply d_false; (focus rfl); (focus rfl))
      | apply d_skip
      | apply d_exit
      | apply d_ret
      | with_reducible apply kt_ret
      | with_reducible apply kt_exit
      | with_reducible apply kb_normal
      | with_reducible apply kb_ret
      | with_reducible apply kb_here
      | with_reducible apply kl_ret
      | with_reducible apply kl_exit
      | with_reducible apply kc_ret
      | with_reducible apply kc_exit
      | (with_reducible apply kb_there; (focus rfl))
    refine l_call rfl rfl rfl (by first | (go_simp; done) | (go_simp; rfl)) (HCA.out) ?_
    rintro e w' ⟨rfl, rfl⟩
    refine ⟨_, rfl, ?_⟩
    repeat first
      | apply d_seq
      | with_reducible apply kt_normal
      | apply l_nil
      | apply d_region
      | (apply l_off; (focus rfl); (focus rfl))
      | (apply l_val; (focus rfl); (focus rfl); (focus rfl); (focus (go_simp; (try simp (disch := omega) only [wrap_in, wrap_in', wrap_u16, wrap_u8, wrap_u32, wrap_u64, rem_in, quo_in]); first | done | with_reducible rfl | (constructor <;> with_reducible rfl))))
      | (apply l_store; (focus rfl); (focus rfl); (focus rfl); (focus (go_simp; (try simp (disch := omega) only [wrap_in, wrap_in', wrap_u16, wrap_u8, wrap_u32, wrap_u64, rem_in, quo_in]); first | done | with_reducible rfl | (constructor <;> with_reducible rfl))))
      | apply d_block
      | (apply d_true; (focus rfl); (focus rfl))
      | (apply d_false; (focus rfl); (focus rfl))
      | apply d_skip
      | apply d_exit
      | apply d_ret
      | with_reducible apply kt_ret
      | with_reducible apply kt_exit
      | with_reducible apply kb_normal
      | with_reducible apply kb_ret
      | with_reducible apply kb_here
      | with_reducible apply kl_ret
      | with_reducible apply kl_exit
      | with_reducible apply kc_ret
      | with_reducible apply kc_exit
      | (with_reducible apply kb_there; (focus rfl))
    refine l_call rfl rfl rfl (by first | (go_simp; done) | (go_simp; rfl)) (HCO.out) ?_
    rintro e w' ⟨rfl, rfl⟩
    refine ⟨_, rfl, ?_⟩
    repeat first
      | apply d_seq
      | with_reducible apply kt_normal
      | apply l_nil
      | apply d_region
      | (apply l_off; (focus rfl); (focus rfl))
      | (apply l_val; (focus rfl); (focus rfl); (focus rfl); (focus (go_simp; (try simp (disch := omega) only [wrap_in, wrap_in', wrap_u16, wrap_u8, wrap_u32, wrap_u64, rem_in, quo_in]); first | done | with_reducible rfl | (constructor <;> with_reducible rfl))))
      | (apply l_store; (focus rfl); (focus rfl); (focus rfl); (focus (go_simp; (try simp (disch := omega) only [wrap_in, wrap_in', wrap_u16, wrap_u8, wrap_u32, wrap_u64, rem_in, quo_in]); first | done | with_reducible rfl | (constructor <;> with_reducible rfl))))
      | apply d_block
      | (apply d_true; (focus rfl); (focus rfl))
      | (apply d_false; (focus rfl); (focus rfl))
      | apply d_skip
      | apply d_exit
      | apply d_ret
      | with_reducible apply kt_ret
      | with_reducible apply kt_exit
      | with_reducible apply kb_normal
      | with_reducible apply kb_ret
      | with_reducible apply kb_here
      | with_reducible apply kl_ret
      | with_reducible apply kl_exit
      | with_reducible apply kc_ret
      | with_reducible apply kc_exit
      | (with_reducible apply kb_there; (focus rfl))
    refine l_call rfl rfl rfl (by first | (go_simp; done) | (go_simp; rfl)) (HC3.out) ?_
    rintro e w3 ⟨rfl, hk3⟩
    have hx3 := HS0.out.keep hk3
    obtain ⟨c0, c1, c2, f0, f1, f2⟩ := blk3 (hx3.blk (i := 0) rfl)
    have hc4 := rHas_any w3 G3 A3 _ d3 s.brok a (HS3.out.keep hk3) rfl (by omega)
    rw [HISB.out] at hc4
    have HK3 := Lib.hid hk3
    have HC4 := Lib.hid hc4
    clear hk3 hc4
    clear hx3
    refine ⟨_, rfl, ?_⟩
    repeat first
      | apply d_seq
      | with_reducible apply kt_normal
      | apply l_nil
      | apply d_region
      | (apply l_off; (focus rfl); (focus rfl))
      | (apply l_val; (focus rfl); (focus rfl); (focus rfl); (focus (go_simp; (try simp (disch := omega) only [wrap_in, wrap_in', wrap_u16, wrap_u8, wrap_u32, wrap_u64, rem_in, quo_in]); first | done | with_reducible rfl | (constructor <;> with_reducible rfl))))
      | (apply l_store; (focus rfl); (focus rfl); (focus rfl); (focus (go_simp; (try simp (disch := omega) only [wrap_in, wrap_in', wrap_u16, wrap_u8, wrap_u32, wrap_u64, rem_in, quo_in]); first | done | with_reducible rfl | (constructor <;> with_reducible rfl))))
      | apply d_block
      | (apply d_true; (focus rfl); (focus rfl))
      | (apply d_false; (focus rfl); (focus rfl))
      | apply d_skip
      | apply d_exit
      | apply d_ret
      | with_reducible apply kt_ret
      | with_reducible apply kt_exit
      | with_reducible apply kb_normal
      | with_reducible apply kb_ret
      | with_reducible apply kb_here
      | with_reducible apply kl_ret
      | with_reducible apply kl_exit
      | with_reducible apply kc_ret
      | with_reducible apply kc_exit
      | (with_reducible apply kb_there; (focus rfl))
    refine l_call rfl rfl rfl (by first | (go_simp; done) | (go_simp; rfl)) (HC4.out) ?_
    rintro e w4 ⟨rfl, hk4⟩
    have hk4 := HK3.out.next hk4
    have hx4 := HS0.out.keep hk4
    obtain ⟨c0, c1, c2, f0, f1, f2⟩ := blk3 (hx4.blk (i := 0) rfl)
    clear HK3 HC4
    have HK4 := Lib.hid hk4
    have HX4 := Lib.hid hx4
    clear hk4 hx4
    refine ⟨_, rfl, ?_⟩
    repeat first
      | apply d_seq
      | with_reducible apply kt_normal
      | apply l_nil
      | apply d_region
      | (apply l_off; (focus rfl); (focus rfl))
      | (apply l_val; (focus rfl); (focus rfl); (focus rfl); (focus (go_simp; (try simp (disch := omega) only [wrap_in, wrap_in', wrap_u16, wrap_u8, wrap_u32, wrap_u64, rem_in, quo_in]); first | done | with_reducible rfl | (constructor <;> with_reducible rfl))))
      | (apply l_store; (focus rfl); (focus rfl); (focus rfl); (focus (go_simp; (try simp (disch := omega) only [wrap_in, wrap_in', wrap_u16, wrap_u8, wrap_u32, wrap_u64, rem_in, quo_in]); first | done | with_reducible rfl | (constructor <;> with_reducible rfl))))
      | apply d_block
      | (apply d_true; (focus rfl); (focus rfl))
      | (apply d_false; (focus rfl); (focus rfl))
      | apply d_skip
      | apply d_exit
      | apply d_ret
      | with_reducible apply kt_ret
      | with_reducible apply kt_exit
      | with_reducible apply kb_normal
      | with_reducible apply kb_ret
      | with_reducible apply kb_here
      | with_reducible apply kl_ret
      | with_reducible apply kl_exit
      | with_reducible apply kc_ret
      | with_reducible apply kc_exit
      | (with_reducible apply kb_there; (focus rfl))
    refine ⟨rfl, _, (by first | (simp [resultsG, resOne, Try.results13, rho, List.lookup]; done) | (simp [resultsG, resOne, Try.results13, rho, List.lookup]; rfl)), ?_⟩
    exact ⟨rfl, SAME.out _ HK4.out⟩
  | false =>
    rcases (by omega : i = 0 ∨ i = 1 ∨ i = 2 ∨ i = 3) with e | e | e | e
    · subst e
      have hcO := HCO.out
      have hc3 := HC3.out
      have hisb := HISB.out
      rw [hi, show (decide ((0 : Int) = 3)) = false from rfl] at hcO
      rw [hi, show (decide ((0 : Int) = 1)) = false from rfl] at hc3
      rw [hi, show (decide ((0 : Int) = 2)) = false from rfl] at hisb
      clear HCO HC3 HISB
      have HI := Lib.hid hi
      clear hi hir
      have HCO := Lib.hid hcO
      have HC3 := Lib.hid hc3
      have HISB := Lib.hid hisb
      clear hcO hc3 hisb
      refine d_calls (n := 102) Try.func13 rfl rfl (by simp) [(0, .pointer (some ⟨p, 0, none⟩)), (1, .int .u16 loc), (2, .int .u8 a)] (by simp) ?_
      repeat first
        | apply d_seq
        | with_reducible apply kt_normal
        | apply l_nil
        | apply d_region
        | (apply l_off; (focus rfl); (focus rfl))
        | (apply l_val; (focus rfl); (focus rfl); (focus rfl); (focus (go_simp; (try simp (disch := omega) only [wrap_in, wrap_in', wrap_u16, wrap_u8, wrap_u32, wrap_u64, rem_in, quo_in]); first | done | with_reducible rfl | (constructor <;> with_reducible rfl))))
        | (apply l_store; (focus rfl); (focus rfl); (focus rfl); (focus (go_simp; (try simp (disch := omega) only [wrap_in, wrap_in', wrap_u16, wrap_u8, wrap_u32, wrap_u64, rem_in, quo_in]); first | done | with_reducible rfl | (constructor <;> with_reducible rfl))))
        | apply d_block
        | (apply d_true; (focus rfl); (focus rfl))
        | (apply d_false; (focus rfl); (focus rfl))
        | apply d_skip
        | apply d_exit
        | apply d_ret
        | with_reducible apply kt_ret
        | with_reducible apply kt_exit
        | with_reducible apply kb_normal
        | with_reducible apply kb_ret
        | with_reducible apply kb_here
        | with_reducible apply kl_ret
        | with_reducible apply kl_exit
        | with_reducible apply kc_ret
        | with_reducible apply kc_exit
        | (with_reducible apply kb_there; (focus rfl))
      refine l_call rfl rfl rfl (by first | (go_simp; done) | (go_simp; rfl)) (HCA.out) ?_
      rintro e w' ⟨rfl, rfl⟩
      refine ⟨_, rfl, ?_⟩
      repeat first
        | apply d_seq
        | with_reducible apply kt_normal
        | apply l_nil
        | apply d_region
        | (apply l_off; (focus rfl); (focus rfl))
        | (apply l_val; (focus rfl); (focus rfl); (focus rfl); (focus (go_simp; (try simp (disch := omega) only [wrap_in, wrap_in', wrap_u16, wrap_u8, wrap_u32, wrap_u64, rem_in, quo_in]); first | done | with_reducible rfl | (constructor <;> with_reducible rfl))))
        | (apply l_store; (focus rfl); (focus rfl); (focus rfl); (focus (go_simp; (try simp (disch := omega) only [wrap_in, wrap_in', wrap_u16, wrap_u8, wrap_u32, wrap_u64, rem_in, quo_in]); first | done | with_reducible rfl | (constructor <;> with_reducible rfl))))
        | apply d_block
        | (apply d_true; (focus rfl); (focus rfl))
        | (apply d_false; (focus rfl); (focus rfl))
        | apply d_skip
        | apply d_exit
        | apply d_ret
        | with_reducible apply kt_ret
        | with_reducible apply kt_exit
        | with_reducible apply kb_normal
        | with_reducible apply kb_ret
        | with_reducible apply kb_here
        | with_reducible apply kl_ret
        | with_reducible apply kl_exit
        | with_reducible apply kc_ret
        | with_reducible apply kc_exit
        | (with_reducible apply kb_there; (focus rfl))
      refine l_call rfl rfl rfl (by first | (go_simp; done) | (go_simp; rfl)) (HCO.out) ?_
      rintro e w' ⟨rfl, rfl⟩
      refine ⟨_, rfl, ?_⟩
      repeat first
        | apply d_seq
        | with_reducible apply kt_normal
        | apply l_nil
        | apply d_region
        | (apply l_off; (focus rfl); (focus rfl))
        | (apply l_val; (focus rfl); (focus rfl); (focus rfl); (focus (go_simp; (try simp (disch := omega) only [wrap_in, wrap_in', wrap_u16, wrap_u8, wrap_u32, wrap_u64, rem_in, quo_in]); first | done | with_reducible rfl | (constructor <;> with_reducible rfl))))
        | (apply l_store; (focus rfl); (focus rfl); (focus rfl); (focus (go_simp; (try simp (disch := omega) only [wrap_in, wrap_in', wrap_u16, wrap_u8, wrap_u32, wrap_u64, rem_in, quo_in]); first | done | with_reducible rfl | (constructor <;> with_reducible rfl))))
        | apply d_block
        | (apply d_true; (focus rfl); (focus rfl))
        | (apply d_false; (focus rfl); (focus rfl))
        | apply d_skip
        | apply d_exit
        | apply d_ret
        | with_reducible apply kt_ret
        | with_reducible apply kt_exit
        | with_reducible apply kb_normal
        | with_reducible apply kb_ret
        | with_reducible apply kb_here
        | with_reducible apply kl_ret
        | with_reducible apply kl_exit
        | with_reducible apply kc_ret
        | with_reducible apply kc_exit
        | (with_reducible apply kb_there; (focus rfl))
      refine l_call rfl rfl rfl (by first | (go_simp; done) | (go_simp; rfl)) (HC3.out) ?_
      rintro e w3 ⟨rfl, hk3⟩
      have hx3 := HS0.out.keep hk3
      obtain ⟨c0, c1, c2, f0, f1, f2⟩ := blk3 (hx3.blk (i := 0) rfl)
      have hc4 := rHas_any w3 G3 A3 _ d3 s.brok a (HS3.out.keep hk3) rfl (by omega)
      rw [HISB.out] at hc4
      have HK3 := Lib.hid hk3
      have HC4 := Lib.hid hc4
      clear hk3 hc4
      clear hx3
      refine ⟨_, rfl, ?_⟩
      repeat first
        | apply d_seq
        | with_reducible apply kt_normal
        | apply l_nil
        | apply d_region
        | (apply l_off; (focus rfl); (focus rfl))
        | (apply l_val; (focus rfl); (focus rfl); (focus rfl); (focus (go_simp; (try simp (disch := omega) only [wrap_in, wrap_in', wrap_u16, wrap_u8, wrap_u32, wrap_u64, rem_in, quo_in]); first | done | with_reducible rfl | (constructor <;> with_reducible rfl))))
        | (apply l_store; (focus rfl); (focus rfl); (focus rfl); (focus (go_simp; (try simp (disch := omega) only [wrap_in, wrap_in', wrap_u16, wrap_u8, wrap_u32, wrap_u64, rem_in, quo_in]); first | done | with_reducible rfl | (constructor <;> with_reducible rfl))))
        | apply d_block
        | (apply d_true; (focus rfl); (focus rfl))
        | (apply d_false; (focus rfl); (focus rfl))
        | apply d_skip
        | apply d_exit
        | apply d_ret
        | with_reducible apply kt_ret
        | with_reducible apply kt_exit
        | with_reducible apply kb_normal
        | with_reducible apply kb_ret
        | with_reducible apply kb_here
        | with_reducible apply kl_ret
        | with_reducible apply kl_exit
        | with_reducible apply kc_ret
        | with_reducible apply kc_exit
        | (with_reducible apply kb_there; (focus rfl))
      refine l_call rfl rfl rfl (by first | (go_simp; done) | (go_simp; rfl)) (HC4.out) ?_
      rintro e w4 ⟨rfl, hk4⟩
      have hk4 := HK3.out.next hk4
      have hx4 := HS0.out.keep hk4
      obtain ⟨c0, c1, c2, f0, f1, f2⟩ := blk3 (hx4.blk (i := 0) rfl)
      clear HK3 HC4
      have HK4 := Lib.hid hk4
      have HX4 := Lib.hid hx4
      clear hk4 hx4
      refine ⟨_, rfl, ?_⟩

      have hnone : s.at? loc = none := by have := HB1E.out; cases e : s.at? loc with | none => rfl | some x => rw [e] at this; cases this
      obtain ⟨n1, n2, n3, n4⟩ := HNEW.out hnone HI.out
      clear hnone HNEW HMAP SAME HCA HI
      rw [n1]
      have N1 := Lib.hid n1
      have N2 := Lib.hid n2
      have N3 := Lib.hid n3
      have N4 := Lib.hid n4
      clear n1 n2 n3 n4
      repeat first
        | apply d_seq
        | with_reducible apply kt_normal
        | apply l_nil
        | apply d_region
        | (apply l_off; (focus rfl); (focus rfl))
        | (apply l_val; (focus rfl); (focus rfl); (focus rfl); (focus (go_simp; (try simp (disch := omega) only [wrap_in, wrap_in', wrap_u16, wrap_u8, wrap_u32, wrap_u64, rem_in, quo_in]); first | done | with_reducible rfl | (constructor <;> with_reducible rfl))))
        | (apply l_store; (focus rfl); (focus rfl); (focus rfl); (focus (go_simp; (try simp (disch := omega) only [wrap_in, wrap_in', wrap_u16, wrap_u8, wrap_u32, wrap_u64, rem_in, quo_in]); first | done | with_reducible rfl | (constructor <;> with_reducible rfl))))
        | ((fail_if_success (with_reducible apply d_block (id := 0))); apply d_block)
        | (apply d_true; (focus rfl); (focus rfl))
        | (apply d_false; (focus rfl); (focus rfl))
        | apply d_skip
        | apply d_exit
        | apply d_ret
        | with_reducible apply kt_ret
        | with_reducible apply kt_exit
        | with_reducible apply kb_normal
        | with_reducible apply kb_ret
        | with_reducible apply kb_here
        | with_reducible apply kl_ret
        | with_reducible apply kl_exit
        | with_reducible apply kc_ret
        | with_reducible apply kc_exit
        | (with_reducible apply kb_there; (focus rfl))
      refine d_join (fun D wr => ∃ (k : Nat), k ≤ s.pairs.length ∧ D = [(0, .pointer (some ⟨p, 0, none⟩)), (1, .int .u16 loc), (2, .int .u8 a), (13, .int .i64 k)] ∧ wr = w4 ∧ Hid (pwth s.pairs (loc, a) = s.pairs.take k ++ (loc, a) :: s.pairs.drop k)) ?_ (fun D wr hcut => ?_)
      · repeat first
          | apply d_seq
          | with_reducible apply kt_normal
          | apply l_nil
          | apply d_region
          | (apply l_off; (focus rfl); (focus rfl))
          | (apply l_val; (focus rfl); (focus rfl); (focus rfl); (focus (go_simp; (try simp (disch := omega) only [wrap_in, wrap_in', wrap_u16, wrap_u8, wrap_u32, wrap_u64, rem_in, quo_in]); first | done | with_reducible rfl | (constructor <;> with_reducible rfl))))
          | (apply l_store; (focus rfl); (focus rfl); (focus rfl); (focus (go_simp; (try simp (disch := omega) only [wrap_in, wrap_in', wrap_u16, wrap_u8, wrap_u32, wrap_u64, rem_in, quo_in]); first | done | with_reducible rfl | (constructor <;> with_reducible rfl))))
          | apply d_block
          | (apply d_true; (focus rfl); (focus rfl))
          | (apply d_false; (focus rfl); (focus rfl))
          | apply d_skip
          | apply d_exit
          | apply d_ret
          | with_reducible apply kt_ret
          | with_reducible apply kt_exit
          | with_reducible apply kb_normal
          | with_reducible apply kb_ret
          | with_reducible apply kb_here
          | with_reducible apply kl_ret
          | with_reducible apply kl_exit
          | with_reducible apply kc_ret
          | with_reducible apply kc_exit
          | (with_reducible apply kb_there; (focus rfl))
        refine d_loop (fun m D wr => ∃ (k : Nat), m = s.pairs.length - k ∧ k ≤ s.pairs.length ∧ D = [(0, .pointer (some ⟨p, 0, none⟩)), (1, .int .u16 loc), (2, .int .u8 a), (13, .int .i64 k)] ∧ wr = w4 ∧ Hid (∀ x ∈ s.pairs.take k, x.1 < loc)) (s.pairs.length) _ (Subl.cons (t := 0) (by decide) rfl (Subl.cons (t := 1) (by decide) rfl (Subl.cons (t := 2) (by decide) rfl (Subl.cons (t := 13) (by decide) rfl (Subl.nil _ _))))) ?_ (fun m D wr hrel => ?_)
        · exact ⟨0, rfl, Nat.zero_le _, rfl, rfl, Lib.hid (by simp)⟩
        · obtain ⟨k, rfl, hk, rfl, rfl, HK⟩ := hrel
          by_cases hlt : k < s.pairs.length
          · obtain ⟨y, hy⟩ : ∃ y, s.pairs[k]? = some y := ⟨_, List.getElem?_eq_getElem hlt⟩
            obtain ⟨g, o, rfl, -, -, d0, e0⟩ := sees_sh (HS1.out.keep HK4.out) rfl hy
            obtain ⟨b, hb⟩ : ∃ b, decide (y.1 < loc) = b := ⟨_, rfl⟩
            have HY := Lib.hid hy
            have HB := Lib.hid hb
            clear hy
            cases b with
            | false =>
              repeat first
                | apply d_seq
                | with_reducible apply kt_normal
                | apply l_nil
                | apply d_region
                | (apply l_off; (focus rfl); (focus rfl))
                | (apply l_val; (focus rfl); (focus rfl); (focus rfl); (focus (go_simp; (try simp (disch := omega) only [wrap_in, wrap_in', wrap_u16, wrap_u8, wrap_u32, wrap_u64, rem_in, quo_in]); first | done | with_reducible rfl | (constructor <;> with_reducible rfl))))
                | (apply l_store; (focus rfl); (focus rfl); (focus rfl); (focus (go_simp; (try simp (disch := omega) only [wrap_in, wrap_in', wrap_u16, wrap_u8, wrap_u32, wrap_u64, rem_in, quo_in]); first | done | with_reducible rfl | (constructor <;> with_reducible rfl))))
                | apply d_block
                | (apply d_true; (focus rfl); (focus rfl))
                | (apply d_false; (focus rfl); (focus rfl))
                | apply d_skip
                | apply d_exit
                | apply d_ret
                | with_reducible apply kt_ret
                | with_reducible apply kt_exit
                | with_reducible apply kb_normal
                | with_reducible apply kb_ret
                | with_reducible apply kb_here
                | with_reducible apply kl_ret
                | with_reducible apply kl_exit
                | with_reducible apply kc_ret
                | with_reducible apply kc_exit
                | (with_reducible apply kb_there; (focus rfl))
              refine kc_normal _ (Subl.cons (t := 0) (by decide) rfl (Subl.cons (t := 1) (by decide) rfl (Subl.cons (t := 2) (by decide) rfl (Subl.cons (t := 13) (by decide) rfl (Subl.nil _ _))))) ?_
              exact ⟨k, hk, rfl, rfl, Lib.hid (pwth_at HK.out (fun x hx => by rw [HY.out] at hx; obtain rfl := Option.some.inj hx; exact of_decide_eq_false HB.out))⟩
            | true =>
              repeat first
                | apply d_seq
                | with_reducible apply kt_normal
                | apply l_nil
                | apply d_region
                | (apply l_off; (focus rfl); (focus rfl))
                | (apply l_val; (focus rfl); (focus rfl); (focus rfl); (focus (go_simp; (try simp (disch := omega) only [wrap_in, wrap_in', wrap_u16, wrap_u8, wrap_u32, wrap_u64, rem_in, quo_in]); first | done | with_reducible rfl | (constructor <;> with_reducible rfl))))
                | (apply l_store; (focus rfl); (focus rfl); (focus rfl); (focus (go_simp; (try simp (disch := omega) only [wrap_in, wrap_in', wrap_u16, wrap_u8, wrap_u32, wrap_u64, rem_in, quo_in]); first | done | with_reducible rfl | (constructor <;> with_reducible rfl))))
                | apply d_block
                | (apply d_true; (focus rfl); (focus rfl))
                | (apply d_false; (focus rfl); (focus rfl))
                | apply d_skip
                | apply d_exit
                | apply d_ret
                | with_reducible apply kt_ret
                | with_reducible apply kt_exit
                | with_reducible apply kb_normal
                | with_reducible apply kb_ret
                | with_reducible apply kb_here
                | with_reducible apply kl_ret
                | with_reducible apply kl_exit
                | with_reducible apply kc_ret
                | with_reducible apply kc_exit
                | (with_reducible apply kb_there; (focus rfl))
              refine kl_normal (s.pairs.length - (k + 1)) _ (by omega) (Subl.cons (t := 0) (by decide) rfl (Subl.cons (t := 1) (by decide) rfl (Subl.cons (t := 2) (by decide) rfl (Subl.cons (t := 13) (by decide) rfl (Subl.nil _ _))))) ?_
              refine ⟨k + 1, rfl, by omega, rfl, rfl, Lib.hid (fun x hx => ?_)⟩
              rw [List.take_add_one, HY.out] at hx
              rcases List.mem_append.1 hx with hx | hx
              · exact HK.out x hx
              · simp only [Option.toList_some, List.mem_singleton] at hx
                subst hx
                exact of_decide_eq_true HB.out
          · repeat first
              | apply d_seq
              | with_reducible apply kt_normal
              | apply l_nil
              | apply d_region
              | (apply l_off; (focus rfl); (focus rfl))
              | (apply l_val; (focus rfl); (focus rfl); (focus rfl); (focus (go_simp; (try simp (disch := omega) only [wrap_in, wrap_in', wrap_u16, wrap_u8, wrap_u32, wrap_u64, rem_in, quo_in]); first | done | with_reducible rfl | (constructor <;> with_reducible rfl))))
              | (apply l_store; (focus rfl); (focus rfl); (focus rfl); (focus (go_simp; (try simp (disch := omega) only [wrap_in, wrap_in', wrap_u16, wrap_u8, wrap_u32, wrap_u64, rem_in, quo_in]); first | done | with_reducible rfl | (constructor <;> with_reducible rfl))))
              | apply d_block
              | (apply d_true; (focus rfl); (focus rfl))
              | (apply d_false; (focus rfl); (focus rfl))
              | apply d_skip
              | apply d_exit
              | apply d_ret
              | with_reducible apply kt_ret
              | with_reducible apply kt_exit
              | with_reducible apply kb_normal
              | with_reducible apply kb_ret
              | with_reducible apply kb_here
              | with_reducible apply kl_ret
              | with_reducible apply kl_exit
              | with_reducible apply kc_ret
              | with_reducible apply kc_exit
              | (with_reducible apply kb_there; (focus rfl))
            refine kc_normal _ (Subl.cons (t := 0) (by decide) rfl (Subl.cons (t := 1) (by decide) rfl (Subl.cons (t := 2) (by decide) rfl (Subl.cons (t := 13) (by decide) rfl (Subl.nil _ _))))) ?_
            exact ⟨k, hk, rfl, rfl, Lib.hid (pwth_at HK.out (fun x hx => absurd (List.getElem?_eq_some_iff.1 hx).1 hlt))⟩
      · obtain ⟨k, hk, rfl, rfl, HW⟩ := hcut
        have hkc : (k : Int) ≤ d1 := by omega
        have hs1 := HS1.out.keep HK4.out
        obtain ⟨A5, hrest, -⟩ := hs1.rest (P := Try.prog) Try.underlying52 Try.sizeOf56 k hk
        clear hs1
        have HX := Lib.hid (HX4.out.drew)
        have e1 : wr.drew.cell? ⟨p, 0, none⟩ = some (.slice A1 s.pairs.length d1) := c0
        have np := N2.out
        rw [HW.out] at np
        have hlen : (s.pairs.take k ++ (loc, a) :: s.pairs.drop k).length = k + 1 + (s.pairs.length - k) := by simp; omega
        have HLEN := Lib.hid hlen
        have NP := Lib.hid np
        clear hlen np
        clear HS1 HS2 HS3 HW N2 HX4 c0 c1 c2 f0 f1 f2
        repeat first
          | apply d_seq
          | with_reducible apply kt_normal
          | apply l_nil
          | apply d_region
          | (apply l_off; (focus rfl); (focus rfl))
          | (apply l_val; (focus rfl); (focus rfl); (focus rfl); (focus (go_simp; (try simp (disch := omega) only [wrap_in, wrap_in', wrap_u16, wrap_u8, wrap_u32, wrap_u64, rem_in, quo_in]); first | done | with_reducible rfl | (constructor <;> with_reducible rfl))))
          | (apply l_store; (focus rfl); (focus rfl); (focus rfl); (focus (go_simp; (try simp (disch := omega) only [wrap_in, wrap_in', wrap_u16, wrap_u8, wrap_u32, wrap_u64, rem_in, quo_in]); first | done | with_reducible rfl | (constructor <;> with_reducible rfl))))
          | apply d_block
          | (apply d_true; (focus rfl); (focus rfl))
          | (apply d_false; (focus rfl); (focus rfl))
          | apply d_skip
          | apply d_exit
          | apply d_ret
          | with_reducible apply kt_ret
          | with_reducible apply kt_exit
          | with_reducible apply kb_normal
          | with_reducible apply kb_ret
          | with_reducible apply kb_here
          | with_reducible apply kl_ret
          | with_reducible apply kl_exit
          | with_reducible apply kc_ret
          | with_reducible apply kc_exit
          | (with_reducible apply kb_there; (focus rfl))
        refine d_drawb (true, [([], []), ([], []), ([], []), ([2], [2]), ([3], [3]), ([4], [4]), ([], []), ([5, 6], [5, 6]), ([1, 7], [1, 7]), ([], []), ([], []), ([9, 10], [9, 10]), ([11], [11]), ([8, 12, 8], [8, 12]), ([], []), ([14], [14]), ([15], [15]), ([16], [16]), ([], []), ([17, 18], [17, 18]), ([13, 19, 13], [13, 19]), ([0, 0, 1, 2, 3, 4, 5, 6, 7, 8, 9, 10, 11, 12, 13, 14, 15, 16, 17, 18, 19, 20], [0]), ([21, 0, 1, 2, 3, 4, 5, 6, 7, 8, 9, 10, 11, 12, 13, 14, 15, 16, 17, 18, 19, 20], [21]), ([22, 20, 20, 0, 1, 2, 3, 4, 5, 6, 7, 8, 9, 10, 11, 12, 13, 14, 15, 16, 17, 18, 19, 20], [20, 22])]) 24 [23] (fun W => W.cell? ⟨p, 0, none⟩ = some (.slice A1 s.pairs.length d1)) (by kernel_rfl) (by kernel_rfl) (by kernel_rfl) e1 ?_
        first | (apply b_off (i := 0); (focus rfl); (focus rfl); (focus rfl); (focus kernel_rfl)) | (apply b_yield (i := 0); (focus rfl); (focus rfl); (focus rfl); (focus rfl); (focus kernel_rfl); (focus (intro W hS; go_simp; (try simp (disch := omega) only [wrap_in, wrap_in', wrap_u16, wrap_u8, wrap_u32, wrap_u64, rem_in, quo_in]); first | done | with_reducible rfl | (constructor <;> with_reducible rfl))))
        first | (apply b_off (i := 2); (focus rfl); (focus rfl); (focus rfl); (focus kernel_rfl)) | (apply b_yield (i := 2); (focus rfl); (focus rfl); (focus rfl); (focus rfl); (focus kernel_rfl); (focus (intro W hS; go_simp; (try simp (disch := omega) only [wrap_in, wrap_in', wrap_u16, wrap_u8, wrap_u32, wrap_u64, rem_in, quo_in]); first | done | with_reducible rfl | (constructor <;> with_reducible rfl))))
        first | (apply b_off (i := 3); (focus rfl); (focus rfl); (focus rfl); (focus kernel_rfl)) | (apply b_yield (i := 3); (focus rfl); (focus rfl); (focus rfl); (focus rfl); (focus kernel_rfl); (focus (intro W hS; go_simp; (try simp (disch := omega) only [wrap_in, wrap_in', wrap_u16, wrap_u8, wrap_u32, wrap_u64, rem_in, quo_in]); first | done | with_reducible rfl | (constructor <;> with_reducible rfl))))
        first | (apply b_off (i := 4); (focus rfl); (focus rfl); (focus rfl); (focus kernel_rfl)) | (apply b_yield (i := 4); (focus rfl); (focus rfl); (focus rfl); (focus rfl); (focus kernel_rfl); (focus (intro W hS; go_simp; (try simp (disch := omega) only [wrap_in, wrap_in', wrap_u16, wrap_u8, wrap_u32, wrap_u64, rem_in, quo_in]); first | done | with_reducible rfl | (constructor <;> with_reducible rfl))))
        first | (apply b_off (i := 5); (focus rfl); (focus rfl); (focus rfl); (focus kernel_rfl)) | (apply b_yield (i := 5); (focus rfl); (focus rfl); (focus rfl); (focus rfl); (focus kernel_rfl); (focus (intro W hS; go_simp; (try simp (disch := omega) only [wrap_in, wrap_in', wrap_u16, wrap_u8, wrap_u32, wrap_u64, rem_in, quo_in]); first | done | with_reducible rfl | (constructor <;> with_reducible rfl))))
        first | (apply b_off (i := 6); (focus rfl); (focus rfl); (focus rfl); (focus kernel_rfl)) | (apply b_yield (i := 6); (focus rfl); (focus rfl); (focus rfl); (focus rfl); (focus kernel_rfl); (focus (intro W hS; go_simp; (try simp (disch := omega) only [wrap_in, wrap_in', wrap_u16, wrap_u8, wrap_u32, wrap_u64, rem_in, quo_in]); first | done | with_reducible rfl | (constructor <;> with_reducible rfl))))
        first | (apply b_off (i := 7); (focus rfl); (focus rfl); (focus rfl); (focus kernel_rfl)) | (apply b_yield (i := 7); (focus rfl); (focus rfl); (focus rfl); (focus rfl); (focus kernel_rfl); (focus (intro W hS; go_simp; (try simp (disch := omega) only [wrap_in, wrap_in', wrap_u16, wrap_u8, wrap_u32, wrap_u64, rem_in, quo_in]); first | done | with_reducible rfl | (constructor <;> with_reducible rfl))))
        first | (apply b_off (i := 9); (focus rfl); (focus rfl); (focus rfl); (focus kernel_rfl)) | (apply b_yield (i := 9); (focus rfl); (focus rfl); (focus rfl); (focus rfl); (focus kernel_rfl); (focus (intro W hS; go_simp; (try simp (disch := omega) only [wrap_in, wrap_in', wrap_u16, wrap_u8, wrap_u32, wrap_u64, rem_in, quo_in]); first | done | with_reducible rfl | (constructor <;> with_reducible rfl))))
        first | (apply b_off (i := 10); (focus rfl); (focus rfl); (focus rfl); (focus kernel_rfl)) | (apply b_yield (i := 10); (focus rfl); (focus rfl); (focus rfl); (focus rfl); (focus kernel_rfl); (focus (intro W hS; go_simp; (try simp (disch := omega) only [wrap_in, wrap_in', wrap_u16, wrap_u8, wrap_u32, wrap_u64, rem_in, quo_in]); first | done | with_reducible rfl | (constructor <;> with_reducible rfl))))
        first | (apply b_off (i := 11); (focus rfl); (focus rfl); (focus rfl); (focus kernel_rfl)) | (apply b_yield (i := 11); (focus rfl); (focus rfl); (focus rfl); (focus rfl); (focus kernel_rfl); (focus (intro W hS; go_simp; (try simp (disch := omega) only [wrap_in, wrap_in', wrap_u16, wrap_u8, wrap_u32, wrap_u64, rem_in, quo_in]); first | done | with_reducible rfl | (constructor <;> with_reducible rfl))))
        first | (apply b_off (i := 14); (focus rfl); (focus rfl); (focus rfl); (focus kernel_rfl)) | (apply b_yield (i := 14); (focus rfl); (focus rfl); (focus rfl); (focus rfl); (focus kernel_rfl); (focus (intro W hS; go_simp; (try simp (disch := omega) only [wrap_in, wrap_in', wrap_u16, wrap_u8, wrap_u32, wrap_u64, rem_in, quo_in]); first | done | with_reducible rfl | (constructor <;> with_reducible rfl))))
        first | (apply b_off (i := 15); (focus rfl); (focus rfl); (focus rfl); (focus kernel_rfl)) | (apply b_yield (i := 15); (focus rfl); (focus rfl); (focus rfl); (focus rfl); (focus kernel_rfl); (focus (intro W hS; go_simp; (try simp (disch := omega) only [wrap_in, wrap_in', wrap_u16, wrap_u8, wrap_u32, wrap_u64, rem_in, quo_in]); first | done | with_reducible rfl | (constructor <;> with_reducible rfl))))
        first | (apply b_off (i := 16); (focus rfl); (focus rfl); (focus rfl); (focus kernel_rfl)) | (apply b_yield (i := 16); (focus rfl); (focus rfl); (focus rfl); (focus rfl); (focus kernel_rfl); (focus (intro W hS; go_simp; (try simp (disch := omega) only [wrap_in, wrap_in', wrap_u16, wrap_u8, wrap_u32, wrap_u64, rem_in, quo_in]); first | done | with_reducible rfl | (constructor <;> with_reducible rfl))))
        first | (apply b_off (i := 17); (focus rfl); (focus rfl); (focus rfl); (focus kernel_rfl)) | (apply b_yield (i := 17); (focus rfl); (focus rfl); (focus rfl); (focus rfl); (focus kernel_rfl); (focus (intro W hS; go_simp; (try simp (disch := omega) only [wrap_in, wrap_in', wrap_u16, wrap_u8, wrap_u32, wrap_u64, rem_in, quo_in]); first | done | with_reducible rfl | (constructor <;> with_reducible rfl))))
        first | (apply b_off (i := 18); (focus rfl); (focus rfl); (focus rfl); (focus kernel_rfl)) | (apply b_yield (i := 18); (focus rfl); (focus rfl); (focus rfl); (focus rfl); (focus kernel_rfl); (focus (intro W hS; go_simp; (try simp (disch := omega) only [wrap_in, wrap_in', wrap_u16, wrap_u8, wrap_u32, wrap_u64, rem_in, quo_in]); first | done | with_reducible rfl | (constructor <;> with_reducible rfl))))
        first | (apply b_off (i := 19); (focus rfl); (focus rfl); (focus rfl); (focus kernel_rfl)) | (apply b_yield (i := 19); (focus rfl); (focus rfl); (focus rfl); (focus rfl); (focus kernel_rfl); (focus (intro W hS; go_simp; (try simp (disch := omega) only [wrap_in, wrap_in', wrap_u16, wrap_u8, wrap_u32, wrap_u64, rem_in, quo_in]); first | done | with_reducible rfl | (constructor <;> with_reducible rfl))))
        refine b_two (i := 1) (j := 12) (by kernel_rfl) ?_ ?_
        · have hx := HX.out.newRow 56 2
          unfold rparts at hx
          simp only [List.nil_append, List.cons_append] at hx
          skip
          refine st_op rfl rfl rfl rfl (exec_build 52 #[] rfl rfl (run_s0 _)) (blk3 (hx.blk (i := 0) rfl)).1 ?_
          clear HX
          have HX := Lib.hid hx
          clear hx
          refine b_two (i := 8) (j := 12) (by kernel_rfl) ?_ ?_
          · obtain ⟨G8, hs8, -⟩ := HX.out.own (i := 1) rfl
            have hs8 := hs8.take k hk
            rw [fl_take shc_len] at hs8
            obtain ⟨B8, d8, w8, hr, r1, r2, hx⟩ := appF_sh HX.out (k := 4) (xs := []) rfl hs8 (by omega)
            simp only [List.set_cons_zero, List.set_cons_succ, List.nil_append] at hx
            refine st_op rfl rfl rfl rfl (exec_append (.tmp 80) (.tmp 86) 52 rfl _ _ rfl rfl hr) (blk3 (hx.blk (i := 0) rfl)).1 ?_
            clear HX hr hs8
            have HX := Lib.hid hx
            clear hx
            refine b_one (i := 12) (by kernel_rfl) ?_
            have hx := HX.out.litRow #[.int .u16 loc, .int .u8 a] 56 2 1 rfl (by simp [Value.oneCell']) (by decide)
            unfold rparts at hx
            simp only [List.nil_append, List.cons_append] at hx
            refine st_op rfl rfl rfl rfl (exec_build 52 #[(0, .agg #[.int .u16 loc, .int .u8 a])] rfl rfl (run_s1 _ loc a)) (blk3 (hx.blk (i := 0) rfl)).1 ?_
            clear HX
            have HX := Lib.hid hx
            clear hx
            refine b_one (i := 13) (by kernel_rfl) ?_
            obtain ⟨G9, hs9, -⟩ := HX.out.sees (i := 5) rfl
            obtain ⟨B9, d9, w9, hr, r3, r4, hx⟩ := appF_sh HX.out (k := 4) (ys := [(loc, a)]) rfl hs9 (by omega)
            simp only [List.set_cons_zero, List.set_cons_succ] at hx
            refine st_op rfl rfl rfl rfl (exec_append (.tmp 87) (.tmp 91) 52 rfl _ _ rfl rfl hr) (blk3 (hx.blk (i := 0) rfl)).1 ?_
            clear HX hr hs9
            have HX := Lib.hid hx
            clear hx
            refine b_one (i := 20) (by kernel_rfl) ?_
            obtain ⟨G10, hs10, -⟩ := HX.out.own (i := 1) rfl
            have hs10 := hs10.restAt (P := Try.prog) Try.underlying52 Try.sizeOf56 k hk (hrest wr)
            rw [fl_drop shc_len] at hs10
            obtain ⟨B10, d10, w10, hr, r5, r6, hx⟩ := appF_sh HX.out (k := 4) rfl hs10 (by omega)
            simp only [List.set_cons_zero, List.set_cons_succ] at hx
            refine st_op rfl rfl rfl rfl (exec_append (.tmp 92) (.tmp 98) 52 rfl _ _ rfl rfl hr) (blk3 (hx.blk (i := 0) rfl)).1 ?_
            clear HX hr hs10
            have HX := Lib.hid hx
            clear hx
            obtain ⟨c0, c1, c2, f0, f1, f2⟩ := blk3 (HX.out.blk (i := 0) rfl)
            first | (apply b_off (i := 21); (focus rfl); (focus rfl); (focus rfl); (focus kernel_rfl)) | (apply b_yield (i := 21); (focus rfl); (focus rfl); (focus rfl); (focus rfl); (focus kernel_rfl); (focus (intro W hS; go_simp; (try simp (disch := omega) only [wrap_in, wrap_in', wrap_u16, wrap_u8, wrap_u32, wrap_u64, rem_in, quo_in]); first | done | with_reducible rfl | (constructor <;> with_reducible rfl))))
            first | (apply b_off (i := 22); (focus rfl); (focus rfl); (focus rfl); (focus kernel_rfl)) | (apply b_yield (i := 22); (focus rfl); (focus rfl); (focus rfl); (focus rfl); (focus kernel_rfl); (focus (intro W hS; go_simp; (try simp (disch := omega) only [wrap_in, wrap_in', wrap_u16, wrap_u8, wrap_u32, wrap_u64, rem_in, quo_in]); first | done | with_reducible rfl | (constructor <;> with_reducible rfl))))
            first | (apply b_last (i := 23); (focus rfl); (focus rfl); (focus kernel_rfl); (focus rfl); (focus rfl); (focus (go_simp; (try simp (disch := omega) only [wrap_in, wrap_in', wrap_u16, wrap_u8, wrap_u32, wrap_u64, rem_in, quo_in]); first | done | with_reducible rfl | (constructor <;> with_reducible rfl)))) | (apply b_laststore (i := 23); (focus rfl); (focus rfl); (focus kernel_rfl); (focus rfl); (focus rfl); (focus (go_simp; (try simp (disch := omega) only [wrap_in, wrap_in', wrap_u16, wrap_u8, wrap_u32, wrap_u64, rem_in, quo_in]); first | done | with_reducible rfl | (constructor <;> with_reducible rfl))))
            refine b_done (by kernel_rfl) ?_
            have hput := HX.out.put (i := 0) rfl 0 (.slice B10 (0 + k + 1 + (s.pairs.length - k)) d10)
            simp only [List.set_cons_zero] at hput
            have hput := (hput).sel [0, 4, 2, 3] (by decide)
            simp only [List.map_cons, List.map_nil, List.getElem?_cons_zero, List.getElem?_cons_succ, Option.getD_some] at hput
            have HY := Lib.hid hput
            clear HX hput c0 c1 c2 f0 f1 f2
            repeat first
              | apply d_seq
              | with_reducible apply kt_normal
              | apply l_nil
              | apply d_region
              | (apply l_off; (focus rfl); (focus rfl))
              | (apply l_val; (focus rfl); (focus rfl); (focus rfl); (focus (go_simp; (try simp (disch := omega) only [wrap_in, wrap_in', wrap_u16, wrap_u8, wrap_u32, wrap_u64, rem_in, quo_in]); first | done | with_reducible rfl | (constructor <;> with_reducible rfl))))
              | (apply l_store; (focus rfl); (focus rfl); (focus rfl); (focus (go_simp; (try simp (disch := omega) only [wrap_in, wrap_in', wrap_u16, wrap_u8, wrap_u32, wrap_u64, rem_in, quo_in]); first | done | with_reducible rfl | (constructor <;> with_reducible rfl))))
              | apply d_block
              | (apply d_true; (focus rfl); (focus rfl))
              | (apply d_false; (focus rfl); (focus rfl))
              | apply d_skip
              | apply d_exit
              | apply d_ret
              | with_reducible apply kt_ret
              | with_reducible apply kt_exit
              | with_reducible apply kb_normal
              | with_reducible apply kb_ret
              | with_reducible apply kb_here
              | with_reducible apply kl_ret
              | with_reducible apply kl_exit
              | with_reducible apply kc_ret
              | with_reducible apply kc_exit
              | (with_reducible apply kb_there; (focus rfl))
            refine ⟨rfl, _, (by first | (simp [resultsG, resOne, Try.results13, rho, List.lookup]; done) | (simp [resultsG, resOne, Try.results13, rho, List.lookup]; rfl)), ?_⟩
            refine ⟨rfl, RPRep.back HOK'.out (Lv := .slice B10 (k + 1 + (s.pairs.length - k)) d10) (Sv := .slice A2 s.spares.length d2) (Bv := .slice A3 s.brok.length d3) ?_⟩
            unfold rparts
            rw [NP.out, N3.out, N4.out, HLEN.out]
            have hy := HY.out
            rw [Nat.zero_add, List.append_assoc] at hy
            exact hy
          · have hx := HX.out.litRow #[.int .u16 loc, .int .u8 a] 56 2 1 rfl (by simp [Value.oneCell']) (by decide)
            unfold rparts at hx
            simp only [List.nil_append, List.cons_append] at hx
            refine st_op rfl rfl rfl rfl (exec_build 52 #[(0, .agg #[.int .u16 loc, .int .u8 a])] rfl rfl (run_s1 _ loc a)) (blk3 (hx.blk (i := 0) rfl)).1 ?_
            clear HX
            have HX := Lib.hid hx
            clear hx
            refine b_one (i := 8) (by kernel_rfl) ?_
            obtain ⟨G8, hs8, -⟩ := HX.out.own (i := 1) rfl
            have hs8 := hs8.take k hk
            rw [fl_take shc_len] at hs8
            obtain ⟨B8, d8, w8, hr, r1, r2, hx⟩ := appF_sh HX.out (k := 4) (xs := []) rfl hs8 (by omega)
            simp only [List.set_cons_zero, List.set_cons_succ, List.nil_append] at hx
            refine st_op rfl rfl rfl rfl (exec_append (.tmp 80) (.tmp 86) 52 rfl _ _ rfl rfl hr) (blk3 (hx.blk (i := 0) rfl)).1 ?_
            clear HX hr hs8
            have HX := Lib.hid hx
            clear hx
            refine b_one (i := 13) (by kernel_rfl) ?_
            obtain ⟨G9, hs9, -⟩ := HX.out.sees (i := 5) rfl
            obtain ⟨B9, d9, w9, hr, r3, r4, hx⟩ := appF_sh HX.out (k := 4) (ys := [(loc, a)]) rfl hs9 (by omega)
            simp only [List.set_cons_zero, List.set_cons_succ] at hx
            refine st_op rfl rfl rfl rfl (exec_append (.tmp 87) (.tmp 91) 52 rfl _ _ rfl rfl hr) (blk3 (hx.blk (i := 0) rfl)).1 ?_
            clear HX hr hs9
            have HX := Lib.hid hx
            clear hx
            refine b_one (i := 20) (by kernel_rfl) ?_
            obtain ⟨G10, hs10, -⟩ := HX.out.own (i := 1) rfl
            have hs10 := hs10.restAt (P := Try.prog) Try.underlying52 Try.sizeOf56 k hk (hrest wr)
            rw [fl_drop shc_len] at hs10
            obtain ⟨B10, d10, w10, hr, r5, r6, hx⟩ := appF_sh HX.out (k := 4) rfl hs10 (by omega)
            simp only [List.set_cons_zero, List.set_cons_succ] at hx
            refine st_op rfl rfl rfl rfl (exec_append (.tmp 92) (.tmp 98) 52 rfl _ _ rfl rfl hr) (blk3 (hx.blk (i := 0) rfl)).1 ?_
            clear HX hr hs10
            have HX := Lib.hid hx
            clear hx
            obtain ⟨c0, c1, c2, f0, f1, f2⟩ := blk3 (HX.out.blk (i := 0) rfl)
            first | (apply b_off (i := 21); (focus rfl); (focus rfl); (focus rfl); (focus kernel_rfl)) | (apply b_yield (i := 21); (focus rfl); (focus rfl); (focus rfl); (focus rfl); (focus kernel_rfl); (focus (intro W hS; go_simp; (try simp (disch := omega) only [wrap_in, wrap_in', wrap_u16, wrap_u8, wrap_u32, wrap_u64, rem_in, quo_in]); first | done | with_reducible rfl | (constructor <;> with_reducible rfl))))
            first | (apply b_off (i := 22); (focus rfl); (focus rfl); (focus rfl); (focus kernel_rfl)) | (apply b_yield (i := 22); (focus rfl); (focus rfl); (focus rfl); (focus rfl); (focus kernel_rfl); (focus (intro W hS; go_simp; (try simp (disch := omega) only [wrap_in, wrap_in', wrap_u16, wrap_u8, wrap_u32, wrap_u64, rem_in, quo_in]); first | done | with_reducible rfl | (constructor <;> with_reducible rfl))))
            first | (apply b_last (i := 23); (focus rfl); (focus rfl); (focus kernel_rfl); (focus rfl); (focus rfl); (focus (go_simp; (try simp (disch := omega) only [wrap_in, wrap_in', wrap_u16, wrap_u8, wrap_u32, wrap_u64, rem_in, quo_in]); first | done | with_reducible rfl | (constructor <;> with_reducible rfl)))) | (apply b_laststore (i := 23); (focus rfl); (focus rfl); (focus kernel_rfl); (focus rfl); (focus rfl); (focus (go_simp; (try simp (disch := omega) only [wrap_in, wrap_in', wrap_u16, wrap_u8, wrap_u32, wrap_u64, rem_in, quo_in]); first | done | with_reducible rfl | (constructor <;> with_reducible rfl))))
            refine b_done (by kernel_rfl) ?_
            have hput := HX.out.put (i := 0) rfl 0 (.slice B10 (0 + k + 1 + (s.pairs.length - k)) d10)
            simp only [List.set_cons_zero] at hput
            have hput := (hput).sel [0, 4, 2, 3] (by decide)
            simp only [List.map_cons, List.map_nil, List.getElem?_cons_zero, List.getElem?_cons_succ, Option.getD_some] at hput
            have HY := Lib.hid hput
            clear HX hput c0 c1 c2 f0 f1 f2
            repeat first
              | apply d_seq
              | with_reducible apply kt_normal
              | apply l_nil
              | apply d_region
              | (apply l_off; (focus rfl); (focus rfl))
              | (apply l_val; (focus rfl); (focus rfl); (focus rfl); (focus (go_simp; (try simp (disch := omega) only [wrap_in, wrap_in', wrap_u16, wrap_u8, wrap_u32, wrap_u64, rem_in, quo_in]); first | done | with_reducible rfl | (constructor <;> with_reducible rfl))))
              | (apply l_store; (focus rfl); (focus rfl); (focus rfl); (focus (go_simp; (try simp (disch := omega) only [wrap_in, wrap_in', wrap_u16, wrap_u8, wrap_u32, wrap_u64, rem_in, quo_in]); first | done | with_reducible rfl | (constructor <;> with_reducible rfl))))
              | apply d_block
              | (apply d_true; (focus rfl); (focus rfl))
              | (apply d_false; (focus rfl); (focus rfl))
              | apply d_skip
              | apply d_exit
              | apply d_ret
              | with_reducible apply kt_ret
              | with_reducible apply kt_exit
              | with_reducible apply kb_normal
              | with_reducible apply kb_ret
              | with_reducible apply kb_here
              | with_reducible apply kl_ret
              | with_reducible apply kl_exit
              | with_reducible apply kc_ret
              | with_reducible apply kc_exit
              | (with_reducible apply kb_there; (focus rfl))
            refine ⟨rfl, _, (by first | (simp [resultsG, resOne, Try.results13, rho, List.lookup]; done) | (simp [resultsG, resOne, Try.results13, rho, List.lookup]; rfl)), ?_⟩
            refine ⟨rfl, RPRep.back HOK'.out (Lv := .slice B10 (k + 1 + (s.pairs.length - k)) d10) (Sv := .slice A2 s.spares.length d2) (Bv := .slice A3 s.brok.length d3) ?_⟩
            unfold rparts
            rw [NP.out, N3.out, N4.out, HLEN.out]
            have hy := HY.out
            rw [Nat.zero_add, List.append_assoc] at hy
            exact hy
        · have hx := HX.out.litRow #[.int .u16 loc, .int .u8 a] 56 2 1 rfl (by simp [Value.oneCell']) (by decide)
          unfold rparts at hx
          simp only [List.nil_append, List.cons_append] at hx
          refine st_op rfl rfl rfl rfl (exec_build 52 #[(0, .agg #[.int .u16 loc, .int .u8 a])] rfl rfl (run_s1 _ loc a)) (blk3 (hx.blk (i := 0) rfl)).1 ?_
          clear HX
          have HX := Lib.hid hx
          clear hx
          refine b_one (i := 1) (by kernel_rfl) ?_
          have hx := HX.out.newRow 56 2
          unfold rparts at hx
          simp only [List.nil_append, List.cons_append] at hx
          have hx := (hx).sel [0, 1, 2, 3, 5, 4] (by decide)
          simp only [List.map_cons, List.map_nil, List.getElem?_cons_zero, List.getElem?_cons_succ, Option.getD_some] at hx
          refine st_op rfl rfl rfl rfl (exec_build 52 #[] rfl rfl (run_s0 _)) (blk3 (hx.blk (i := 0) rfl)).1 ?_
          clear HX
          have HX := Lib.hid hx
          clear hx
          refine b_one (i := 8) (by kernel_rfl) ?_
          obtain ⟨G8, hs8, -⟩ := HX.out.own (i := 1) rfl
          have hs8 := hs8.take k hk
          rw [fl_take shc_len] at hs8
          obtain ⟨B8, d8, w8, hr, r1, r2, hx⟩ := appF_sh HX.out (k := 4) (xs := []) rfl hs8 (by omega)
          simp only [List.set_cons_zero, List.set_cons_succ, List.nil_append] at hx
          refine st_op rfl rfl rfl rfl (exec_append (.tmp 80) (.tmp 86) 52 rfl _ _ rfl rfl hr) (blk3 (hx.blk (i := 0) rfl)).1 ?_
          clear HX hr hs8
          have HX := Lib.hid hx
          clear hx
          refine b_one (i := 13) (by kernel_rfl) ?_
          obtain ⟨G9, hs9, -⟩ := HX.out.sees (i := 5) rfl
          obtain ⟨B9, d9, w9, hr, r3, r4, hx⟩ := appF_sh HX.out (k := 4) (ys := [(loc, a)]) rfl hs9 (by omega)
          simp only [List.set_cons_zero, List.set_cons_succ] at hx
          refine st_op rfl rfl rfl rfl (exec_append (.tmp 87) (.tmp 91) 52 rfl _ _ rfl rfl hr) (blk3 (hx.blk (i := 0) rfl)).1 ?_
          clear HX hr hs9
          have HX := Lib.hid hx
          clear hx
          refine b_one (i := 20) (by kernel_rfl) ?_
          obtain ⟨G10, hs10, -⟩ := HX.out.own (i := 1) rfl
          have hs10 := hs10.restAt (P := Try.prog) Try.underlying52 Try.sizeOf56 k hk (hrest wr)
          rw [fl_drop shc_len] at hs10
          obtain ⟨B10, d10, w10, hr, r5, r6, hx⟩ := appF_sh HX.out (k := 4) rfl hs10 (by omega)
          simp only [List.set_cons_zero, List.set_cons_succ] at hx
          refine st_op rfl rfl rfl rfl (exec_append (.tmp 92) (.tmp 98) 52 rfl _ _ rfl rfl hr) (blk3 (hx.blk (i := 0) rfl)).1 ?_
          clear HX hr hs10
          have HX := Lib.hid hx
          clear hx
          obtain ⟨c0, c1, c2, f0, f1, f2⟩ := blk3 (HX.out.blk (i := 0) rfl)
          first | (apply b_off (i := 21); (focus rfl); (focus rfl); (focus rfl); (focus kernel_rfl)) | (apply b_yield (i := 21); (focus rfl); (focus rfl); (focus rfl); (focus rfl); (focus kernel_rfl); (focus (intro W hS; go_simp; (try simp (disch := omega) only [wrap_in, wrap_in', wrap_u16, wrap_u8, wrap_u32, wrap_u64, rem_in, quo_in]); first | done | with_reducible rfl | (constructor <;> with_reducible rfl))))
          first | (apply b_off (i := 22); (focus rfl); (focus rfl); (focus rfl); (focus kernel_rfl)) | (apply b_yield (i := 22); (focus rfl); (focus rfl); (focus rfl); (focus rfl); (focus kernel_rfl); (focus (intro W hS; go_simp; (try simp (disch := omega) only [wrap_in, wrap_in', wrap_u16, wrap_u8, wrap_u32, wrap_u64, rem_in, quo_in]); first | done | with_reducible rfl | (constructor <;> with_reducible rfl))))
          first | (apply b_last (i := 23); (focus rfl); (focus rfl); (focus kernel_rfl); (focus rfl); (focus rfl); (focus (go_simp; (try simp (disch := omega) only [wrap_in, wrap_in', wrap_u16, wrap_u8, wrap_u32, wrap_u64, rem_in, quo_in]); first | done | with_reducible rfl | (constructor <;> with_reducible rfl)))) | (apply b_laststore (i := 23); (focus rfl); (focus rfl); (focus kernel_rfl); (focus rfl); (focus rfl); (focus (go_simp; (try simp (disch := omega) only [wrap_in, wrap_in', wrap_u16, wrap_u8, wrap_u32, wrap_u64, rem_in, quo_in]); first | done | with_reducible rfl | (constructor <;> with_reducible rfl))))
          refine b_done (by kernel_rfl) ?_
          have hput := HX.out.put (i := 0) rfl 0 (.slice B10 (0 + k + 1 + (s.pairs.length - k)) d10)
          simp only [List.set_cons_zero] at hput
          have hput := (hput).sel [0, 4, 2, 3] (by decide)
          simp only [List.map_cons, List.map_nil, List.getElem?_cons_zero, List.getElem?_cons_succ, Option.getD_some] at hput
          have HY := Lib.hid hput
          clear HX hput c0 c1 c2 f0 f1 f2
          repeat first
            | apply d_seq
            | with_reducible apply kt_normal
            | apply l_nil
            | apply d_region
            | (apply l_off; (focus rfl); (focus rfl))
            | (apply l_val; (focus rfl); (focus rfl); (focus rfl); (focus (go_simp; (try simp (disch := omega) only [wrap_in, wrap_in', wrap_u16, wrap_u8, wrap_u32, wrap_u64, rem_in, quo_in]); first | done | with_reducible rfl | (constructor <;> with_reducible rfl))))
            | (apply l_store; (focus rfl); (focus rfl); (focus rfl); (focus (go_simp; (try simp (disch := omega) only [wrap_in, wrap_in', wrap_u16, wrap_u8, wrap_u32, wrap_u64, rem_in, quo_in]); first | done | with_reducible rfl | (constructor <;> with_reducible rfl))))
            | apply d_block
            | (apply d_true; (focus rfl); (focus rfl))
            | (apply d_false; (focus rfl); (focus rfl))
            | apply d_skip
            | apply d_exit
            | apply d_ret
            | with_reducible apply kt_ret
            | with_reducible apply kt_exit
            | with_reducible apply kb_normal
            | with_reducible apply kb_ret
            | with_reducible apply kb_here
            | with_reducible apply kl_ret
            | with_reducible apply kl_exit
            | with_reducible apply kc_ret
            | with_reducible apply kc_exit
            | (with_reducible apply kb_there; (focus rfl))
          refine ⟨rfl, _, (by first | (simp [resultsG, resOne, Try.results13, rho, List.lookup]; done) | (simp [resultsG, resOne, Try.results13, rho, List.lookup]; rfl)), ?_⟩
          refine ⟨rfl, RPRep.back HOK'.out (Lv := .slice B10 (k + 1 + (s.pairs.length - k)) d10) (Sv := .slice A2 s.spares.length d2) (Bv := .slice A3 s.brok.length d3) ?_⟩
          unfold rparts
          rw [NP.out, N3.out, N4.out, HLEN.out]
          have hy := HY.out
          rw [Nat.zero_add, List.append_assoc] at hy
          exact hy
    · subst e
      have hcO := HCO.out
      have hc3 := HC3.out
      have hisb := HISB.out
      rw [hi, show (decide ((1 : Int) = 3)) = false from rfl] at hcO
      rw [hi, show (decide ((1 : Int) = 1)) = true from rfl] at hc3
      rw [hi, show (decide ((1 : Int) = 2)) = false from rfl] at hisb
      clear HCO HC3 HISB
      rw [HMAP.out (.inr (by omega))]
      have HI := Lib.hid hi
      clear hi hir
      have HCO := Lib.hid hcO
      have HC3 := Lib.hid hc3
      have HISB := Lib.hid hisb
      clear hcO hc3 hisb
      refine d_calls (n := 102) Try.func13 rfl rfl (by simp) [(0, .pointer (some ⟨p, 0, none⟩)), (1, .int .u16 loc), (2, .int .u8 a)] (by simp) ?_
      repeat first
        | apply d_seq
        | with_reducible apply kt_normal
        | apply l_nil
        | apply d_region
        | (apply l_off; (focus rfl); (focus rfl))
        | (apply l_val; (focus rfl); (focus rfl); (focus rfl); (focus (go_simp; (try simp (disch := omega) only [wrap_in, wrap_in', wrap_u16, wrap_u8, wrap_u32, wrap_u64, rem_in, quo_in]); first | done | with_reducible rfl | (constructor <;> with_reducible rfl))))
        | (apply l_store; (focus rfl); (focus rfl); (focus rfl); (focus (go_simp; (try simp (disch := omega) only [wrap_in, wrap_in', wrap_u16, wrap_u8, wrap_u32, wrap_u64, rem_in, quo_in]); first | done | with_reducible rfl | (constructor <;> with_reducible rfl))))
        | apply d_block
        | (apply d_true; (focus rfl); (focus rfl))
        | (apply d_false; (focus rfl); (focus rfl))
        | apply d_skip
        | apply d_exit
        | apply d_ret
        | with_reducible apply kt_ret
        | with_reducible apply kt_exit
        | with_reducible apply kb_normal
        | with_reducible apply kb_ret
        | with_reducible apply kb_here
        | with_reducible apply kl_ret
        | with_reducible apply kl_exit
        | with_reducible apply kc_ret
        | with_reducible apply kc_exit
        | (with_reducible apply kb_there; (focus rfl))
      refine l_call rfl rfl rfl (by first | (go_simp; done) | (go_simp; rfl)) (HCA.out) ?_
      rintro e w' ⟨rfl, rfl⟩
      refine ⟨_, rfl, ?_⟩
      repeat first
        | apply d_seq
        | with_reducible apply kt_normal
        | apply l_nil
        | apply d_region
        | (apply l_off; (focus rfl); (focus rfl))
        | (apply l_val; (focus rfl); (focus rfl); (focus rfl); (focus (go_simp; (try simp (disch := omega) only [wrap_in, wrap_in', wrap_u16, wrap_u8, wrap_u32, wrap_u64, rem_in, quo_in]); first | done | with_reducible rfl | (constructor <;> with_reducible rfl))))
        | (apply l_store; (focus rfl); (focus rfl); (focus rfl); (focus (go_simp; (try simp (disch := omega) only [wrap_in, wrap_in', wrap_u16, wrap_u8, wrap_u32, wrap_u64, rem_in, quo_in]); first | done | with_reducible rfl | (constructor <;> with_reducible rfl))))
        | apply d_block
        | (apply d_true; (focus rfl); (focus rfl))
        | (apply d_false; (focus rfl); (focus rfl))
        | apply d_skip
        | apply d_exit
        | apply d_ret
        | with_reducible apply kt_ret
        | with_reducible apply kt_exit
        | with_reducible apply kb_normal
        | with_reducible apply kb_ret
        | with_reducible apply kb_here
        | with_reducible apply kl_ret
        | with_reducible apply kl_exit
        | with_reducible apply kc_ret
        | with_reducible apply kc_exit
        | (with_reducible apply kb_there; (focus rfl))
      refine l_call rfl rfl rfl (by first | (go_simp; done) | (go_simp; rfl)) (HCO.out) ?_
      rintro e w' ⟨rfl, rfl⟩
      refine ⟨_, rfl, ?_⟩
      repeat first
        | apply d_seq
        | with_reducible apply kt_normal
        | apply l_nil
        | apply d_region
        | (apply l_off; (focus rfl); (focus rfl))
        | (apply l_val; (focus rfl); (focus rfl); (focus rfl); (focus (go_simp; (try simp (disch := omega) only [wrap_in, wrap_in', wrap_u16, wrap_u8, wrap_u32, wrap_u64, rem_in, quo_in]); first | done | with_reducible rfl | (constructor <;> with_reducible rfl))))
        | (apply l_store; (focus rfl); (focus rfl); (focus rfl); (focus (go_simp; (try simp (disch := omega) only [wrap_in, wrap_in', wrap_u16, wrap_u8, wrap_u32, wrap_u64, rem_in, quo_in]); first | done | with_reducible rfl | (constructor <;> with_reducible rfl))))
        | apply d_block
        | (apply d_true; (focus rfl); (focus rfl))
        | (apply d_false; (focus rfl); (focus rfl))
        | apply d_skip
        | apply d_exit
        | apply d_ret
        | with_reducible apply kt_ret
        | with_reducible apply kt_exit
        | with_reducible apply kb_normal
        | with_reducible apply kb_ret
        | with_reducible apply kb_here
        | with_reducible apply kl_ret
        | with_reducible apply kl_exit
        | with_reducible apply kc_ret
        | with_reducible apply kc_exit
        | (with_reducible apply kb_there; (focus rfl))
      refine l_call rfl rfl rfl (by first | (go_simp; done) | (go_simp; rfl)) (HC3.out) ?_
      rintro e w3 ⟨rfl, hk3⟩
      have hx3 := HS0.out.keep hk3
      obtain ⟨c0, c1, c2, f0, f1, f2⟩ := blk3 (hx3.blk (i := 0) rfl)
      have hc4 := rHas_any w3 G3 A3 _ d3 s.brok a (HS3.out.keep hk3) rfl (by omega)
      rw [HISB.out] at hc4
      have HK3 := Lib.hid hk3
      have HC4 := Lib.hid hc4
      clear hk3 hc4
      clear hx3
      refine ⟨_, rfl, ?_⟩
      repeat first
        | apply d_seq
        | with_reducible apply kt_normal
        | apply l_nil
        | apply d_region
        | (apply l_off; (focus rfl); (focus rfl))
        | (apply l_val; (focus rfl); (focus rfl); (focus rfl); (focus (go_simp; (try simp (disch := omega) only [wrap_in, wrap_in', wrap_u16, wrap_u8, wrap_u32, wrap_u64, rem_in, quo_in]); first | done | with_reducible rfl | (constructor <;> with_reducible rfl))))
        | (apply l_store; (focus rfl); (focus rfl); (focus rfl); (focus (go_simp; (try simp (disch := omega) only [wrap_in, wrap_in', wrap_u16, wrap_u8, wrap_u32, wrap_u64, rem_in, quo_in]); first | done | with_reducible rfl | (constructor <;> with_reducible rfl))))
        | apply d_block
        | (apply d_true; (focus rfl); (focus rfl))
        | (apply d_false; (focus rfl); (focus rfl))
        | apply d_skip
        | apply d_exit
        | apply d_ret
        | with_reducible apply kt_ret
        | with_reducible apply kt_exit
        | with_reducible apply kb_normal
        | with_reducible apply kb_ret
        | with_reducible apply kb_here
        | with_reducible apply kl_ret
        | with_reducible apply kl_exit
        | with_reducible apply kc_ret
        | with_reducible apply kc_exit
        | (with_reducible apply kb_there; (focus rfl))
      refine l_call rfl rfl rfl (by first | (go_simp; done) | (go_simp; rfl)) (HC4.out) ?_
      rintro e w4 ⟨rfl, hk4⟩
      have hk4 := HK3.out.next hk4
      have hx4 := HS0.out.keep hk4
      obtain ⟨c0, c1, c2, f0, f1, f2⟩ := blk3 (hx4.blk (i := 0) rfl)
      clear HK3 HC4
      have HK4 := Lib.hid hk4
      have HX4 := Lib.hid hx4
      clear hk4 hx4
      refine ⟨_, rfl, ?_⟩

      repeat first
        | apply d_seq
        | with_reducible apply kt_normal
        | apply l_nil
        | apply d_region
        | (apply l_off; (focus rfl); (focus rfl))
        | (apply l_val; (focus rfl); (focus rfl); (focus rfl); (focus (go_simp; (try simp (disch := omega) only [wrap_in, wrap_in', wrap_u16, wrap_u8, wrap_u32, wrap_u64, rem_in, quo_in]); first | done | with_reducible rfl | (constructor <;> with_reducible rfl))))
        | (apply l_store; (focus rfl); (focus rfl); (focus rfl); (focus (go_simp; (try simp (disch := omega) only [wrap_in, wrap_in', wrap_u16, wrap_u8, wrap_u32, wrap_u64, rem_in, quo_in]); first | done | with_reducible rfl | (constructor <;> with_reducible rfl))))
        | apply d_block
        | (apply d_true; (focus rfl); (focus rfl))
        | (apply d_false; (focus rfl); (focus rfl))
        | apply d_skip
        | apply d_exit
        | apply d_ret
        | with_reducible apply kt_ret
        | with_reducible apply kt_exit
        | with_reducible apply kb_normal
        | with_reducible apply kb_ret
        | with_reducible apply kb_here
        | with_reducible apply kl_ret
        | with_reducible apply kl_exit
        | with_reducible apply kc_ret
        | with_reducible apply kc_exit
        | (with_reducible apply kb_there; (focus rfl))
      refine ⟨rfl, _, (by first | (simp [resultsG, resOne, Try.results13, rho, List.lookup]; done) | (simp [resultsG, resOne, Try.results13, rho, List.lookup]; rfl)), ?_⟩
      exact ⟨rfl, SAME.out _ HK4.out⟩
    · subst e
      have hcO := HCO.out
      have hc3 := HC3.out
      have hisb := HISB.out
      rw [hi, show (decide ((2 : Int) = 3)) = false from rfl] at hcO
      rw [hi, show (decide ((2 : Int) = 1)) = false from rfl] at hc3
      rw [hi, show (decide ((2 : Int) = 2)) = true from rfl] at hisb
      clear HCO HC3 HISB
      rw [HMAP.out (.inr (by omega))]
      have HI := Lib.hid hi
      clear hi hir
      have HCO := Lib.hid hcO
      have HC3 := Lib.hid hc3
      have HISB := Lib.hid hisb
      clear hcO hc3 hisb
      refine d_calls (n := 102) Try.func13 rfl rfl (by simp) [(0, .pointer (some ⟨p, 0, none⟩)), (1, .int .u16 loc), (2, .int .u8 a)] (by simp) ?_
      repeat first
        | apply d_seq
        | with_reducible apply kt_normal
        | apply l_nil
        | apply d_region
        | (apply l_off; (focus rfl); (focus rfl))
        | (apply l_val; (focus rfl); (focus rfl); (focus rfl); (focus (go_simp; (try simp (disch := omega) only [wrap_in, wrap_in', wrap_u16, wrap_u8, wrap_u32, wrap_u64, rem_in, quo_in]); first | done | with_reducible rfl | (constructor <;> with_reducible rfl))))
        | (apply l_store; (focus rfl); (focus rfl); (focus rfl); (focus (go_simp; (try simp (disch := omega) only [wrap_in, wrap_in', wrap_u16, wrap_u8, wrap_u32, wrap_u64, rem_in, quo_in]); first | done | with_reducible rfl | (constructor <;> with_reducible rfl))))
        | apply d_block
        | (apply d_true; (focus rfl); (focus rfl))
        | (apply d_false; (focus rfl); (focus rfl))
        | apply d_skip
        | apply d_exit
        | apply d_ret
        | with_reducible apply kt_ret
        | with_reducible apply kt_exit
        | with_reducible apply kb_normal
        | with_reducible apply kb_ret
        | with_reducible apply kb_here
        | with_reducible apply kl_ret
        | with_reducible apply kl_exit
        | with_reducible apply kc_ret
        | with_reducible apply kc_exit
        | (with_reducible apply kb_there; (focus rfl))
      refine l_call rfl rfl rfl (by first | (go_simp; done) | (go_simp; rfl)) (HCA.out) ?_
      rintro e w' ⟨rfl, rfl⟩
      refine ⟨_, rfl, ?_⟩
      repeat first
        | apply d_seq
        | with_reducible apply kt_normal
        | apply l_nil
        | apply d_region
        | (apply l_off; (focus rfl); (focus rfl))
        | (apply l_val; (focus rfl); (focus rfl); (focus rfl); (focus (go_simp; (try simp (disch := omega) only [wrap_in, wrap_in', wrap_u16, wrap_u8, wrap_u32, wrap_u64, rem_in, quo_in]); first | done | with_reducible rfl | (constructor <;> with_reducible rfl))))
        | (apply l_store; (focus rfl); (focus rfl); (focus rfl); (focus (go_simp; (try simp (disch := omega) only [wrap_in, wrap_in', wrap_u16, wrap_u8, wrap_u32, wrap_u64, rem_in, quo_in]); first | done | with_reducible rfl | (constructor <;> with_reducible rfl))))
        | apply d_block
        | (apply d_true; (focus rfl); (focus rfl))
        | (apply d_false; (focus rfl); (focus rfl))
        | apply d_skip
        | apply d_exit
        | apply d_ret
        | with_reducible apply kt_ret
        | with_reducible apply kt_exit
        | with_reducible apply kb_normal
        | with_reducible apply kb_ret
        | with_reducible apply kb_here
        | with_reducible apply kl_ret
        | with_reducible apply kl_exit
        | with_reducible apply kc_ret
        | with_reducible apply kc_exit
        | (with_reducible apply kb_there; (focus rfl))
      refine l_call rfl rfl rfl (by first | (go_simp; done) | (go_simp; rfl)) (HCO.out) ?_
      rintro e w' ⟨rfl, rfl⟩
      refine ⟨_, rfl, ?_⟩
      repeat first
        | apply d_seq
        | with_reducible apply kt_normal
        | apply l_nil
        | apply d_region
        | (apply l_off; (focus rfl); (focus rfl))
        | (apply l_val; (focus rfl); (focus rfl); (focus rfl); (focus (go_simp; (try simp (disch := omega) only [wrap_in, wrap_in', wrap_u16, wrap_u8, wrap_u32, wrap_u64, rem_in, quo_in]); first | done | with_reducible rfl | (constructor <;> with_reducible rfl))))
        | (apply l_store; (focus rfl); (focus rfl); (focus rfl); (focus (go_simp; (try simp (disch := omega) only [wrap_in, wrap_in', wrap_u16, wrap_u8, wrap_u32, wrap_u64, rem_in, quo_in]); first | done | with_reducible rfl | (constructor <;> with_reducible rfl))))
        | apply d_block
        | (apply d_true; (focus rfl); (focus rfl))
        | (apply d_false; (focus rfl); (focus rfl))
        | apply d_skip
        | apply d_exit
        | apply d_ret
        | with_reducible apply kt_ret
        | with_reducible apply kt_exit
        | with_reducible apply kb_normal
        | with_reducible apply kb_ret
        | with_reducible apply kb_here
        | with_reducible apply kl_ret
        | with_reducible apply kl_exit
        | with_reducible apply kc_ret
        | with_reducible apply kc_exit
        | (with_reducible apply kb_there; (focus rfl))
      refine l_call rfl rfl rfl (by first | (go_simp; done) | (go_simp; rfl)) (HC3.out) ?_
      rintro e w3 ⟨rfl, hk3⟩
      have hx3 := HS0.out.keep hk3
      obtain ⟨c0, c1, c2, f0, f1, f2⟩ := blk3 (hx3.blk (i := 0) rfl)
      have hc4 := rHas_any w3 G3 A3 _ d3 s.brok a (HS3.out.keep hk3) rfl (by omega)
      rw [HISB.out] at hc4
      have HK3 := Lib.hid hk3
      have HC4 := Lib.hid hc4
      clear hk3 hc4
      clear hx3
      refine ⟨_, rfl, ?_⟩
      repeat first
        | apply d_seq
        | with_reducible apply kt_normal
        | apply l_nil
        | apply d_region
        | (apply l_off; (focus rfl); (focus rfl))
        | (apply l_val; (focus rfl); (focus rfl); (focus rfl); (focus (go_simp; (try simp (disch := omega) only [wrap_in, wrap_in', wrap_u16, wrap_u8, wrap_u32, wrap_u64, rem_in, quo_in]); first | done | with_reducible rfl | (constructor <;> with_reducible rfl))))
        | (apply l_store; (focus rfl); (focus rfl); (focus rfl); (focus (go_simp; (try simp (disch := omega) only [wrap_in, wrap_in', wrap_u16, wrap_u8, wrap_u32, wrap_u64, rem_in, quo_in]); first | done | with_reducible rfl | (constructor <;> with_reducible rfl))))
        | apply d_block
        | (apply d_true; (focus rfl); (focus rfl))
        | (apply d_false; (focus rfl); (focus rfl))
        | apply d_skip
        | apply d_exit
        | apply d_ret
        | with_reducible apply kt_ret
        | with_reducible apply kt_exit
        | with_reducible apply kb_normal
        | with_reducible apply kb_ret
        | with_reducible apply kb_here
        | with_reducible apply kl_ret
        | with_reducible apply kl_exit
        | with_reducible apply kc_ret
        | with_reducible apply kc_exit
        | (with_reducible apply kb_there; (focus rfl))
      refine l_call rfl rfl rfl (by first | (go_simp; done) | (go_simp; rfl)) (HC4.out) ?_
      rintro e w4 ⟨rfl, hk4⟩
      have hk4 := HK3.out.next hk4
      have hx4 := HS0.out.keep hk4
      obtain ⟨c0, c1, c2, f0, f1, f2⟩ := blk3 (hx4.blk (i := 0) rfl)
      clear HK3 HC4
      have HK4 := Lib.hid hk4
      have HX4 := Lib.hid hx4
      clear hk4 hx4
      refine ⟨_, rfl, ?_⟩

      repeat first
        | apply d_seq
        | with_reducible apply kt_normal
        | apply l_nil
        | apply d_region
        | (apply l_off; (focus rfl); (focus rfl))
        | (apply l_val; (focus rfl); (focus rfl); (focus rfl); (focus (go_simp; (try simp (disch := omega) only [wrap_in, wrap_in', wrap_u16, wrap_u8, wrap_u32, wrap_u64, rem_in, quo_in]); first | done | with_reducible rfl | (constructor <;> with_reducible rfl))))
        | (apply l_store; (focus rfl); (focus rfl); (focus rfl); (focus (go_simp; (try simp (disch := omega) only [wrap_in, wrap_in', wrap_u16, wrap_u8, wrap_u32, wrap_u64, rem_in, quo_in]); first | done | with_reducible rfl | (constructor <;> with_reducible rfl))))
        | apply d_block
        | (apply d_true; (focus rfl); (focus rfl))
        | (apply d_false; (focus rfl); (focus rfl))
        | apply d_skip
        | apply d_exit
        | apply d_ret
        | with_reducible apply kt_ret
        | with_reducible apply kt_exit
        | with_reducible apply kb_normal
        | with_reducible apply kb_ret
        | with_reducible apply kb_here
        | with_reducible apply kl_ret
        | with_reducible apply kl_exit
        | with_reducible apply kc_ret
        | with_reducible apply kc_exit
        | (with_reducible apply kb_there; (focus rfl))
      refine ⟨rfl, _, (by first | (simp [resultsG, resOne, Try.results13, rho, List.lookup]; done) | (simp [resultsG, resOne, Try.results13, rho, List.lookup]; rfl)), ?_⟩
      exact ⟨rfl, SAME.out _ HK4.out⟩
    · subst e
      have hcO := HCO.out
      have hc3 := HC3.out
      have hisb := HISB.out
      rw [hi, show (decide ((3 : Int) = 3)) = true from rfl] at hcO
      rw [hi, show (decide ((3 : Int) = 1)) = false from rfl] at hc3
      rw [hi, show (decide ((3 : Int) = 2)) = false from rfl] at hisb
      clear HCO HC3 HISB
      rw [HMAP.out (.inr (by omega))]
      have HI := Lib.hid hi
      clear hi hir
      have HCO := Lib.hid hcO
      have HC3 := Lib.hid hc3
      have HISB := Lib.hid hisb
      clear hcO hc3 hisb
      refine d_calls (n := 102) Try.func13 rfl rfl (by simp) [(0, .pointer (some ⟨p, 0, none⟩)), (1, .int .u16 loc), (2, .int .u8 a)] (by simp) ?_
      repeat first
        | apply d_seq
        | with_reducible apply kt_normal
        | apply l_nil
        | apply d_region
        | (apply l_off; (focus rfl); (focus rfl))
        | (apply l_val; (focus rfl); (focus rfl); (focus rfl); (focus (go_simp; (try simp (disch := omega) only [wrap_in, wrap_in', wrap_u16, wrap_u8, wrap_u32, wrap_u64, rem_in, quo_in]); first | done | with_reducible rfl | (constructor <;> with_reducible rfl))))
        | (apply l_store; (focus rfl); (focus rfl); (focus rfl); (focus (go_simp; (try simp (disch := omega) only [wrap_in, wrap_in', wrap_u16, wrap_u8, wrap_u32, wrap_u64, rem_in, quo_in]); first | done | with_reducible rfl | (constructor <;> with_reducible rfl))))
        | apply d_block
        | (apply d_true; (focus rfl); (focus rfl))
        | (apply d_false; (focus rfl); (focus rfl))
        | apply d_skip
        | apply d_exit
        | apply d_ret
        | with_reducible apply kt_ret
        | with_reducible apply kt_exit
        | with_reducible apply kb_normal
        | with_reducible apply kb_ret
        | with_reducible apply kb_here
        | with_reducible apply kl_ret
        | with_reducible apply kl_exit
        | with_reducible apply kc_ret
        | with_reducible apply kc_exit
        | (with_reducible apply kb_there; (focus rfl))
      refine l_call rfl rfl rfl (by first | (go_simp; done) | (go_simp; rfl)) (HCA.out) ?_
      rintro e w' ⟨rfl, rfl⟩
      refine ⟨_, rfl, ?_⟩
      repeat first
        | apply d_seq
        | with_reducible apply kt_normal
        | apply l_nil
        | apply d_region
        | (apply l_off; (focus rfl); (focus rfl))
        | (apply l_val; (focus rfl); (focus rfl); (focus rfl); (focus (go_simp; (try simp (disch := omega) only [wrap_in, wrap_in', wrap_u16, wrap_u8, wrap_u32, wrap_u64, rem_in, quo_in]); first | done | with_reducible rfl | (constructor <;> with_reducible rfl))))
        | (apply l_store; (focus rfl); (focus rfl); (focus rfl); (focus (go_simp; (try simp (disch := omega) only [wrap_in, wrap_in', wrap_u16, wrap_u8, wrap_u32, wrap_u64, rem_in, quo_in]); first | done | with_reducible rfl | (constructor <;> with_reducible rfl))))
        | apply d_block
        | (apply d_true; (focus rfl); (focus rfl))
        | (apply d_false; (focus rfl); (focus rfl))
        | apply d_skip
        | apply d_exit
        | apply d_ret
        | with_reducible apply kt_ret
        | with_reducible apply kt_exit
        | with_reducible apply kb_normal
        | with_reducible apply kb_ret
        | with_reducible apply kb_here
        | with_reducible apply kl_ret
        | with_reducible apply kl_exit
        | with_reducible apply kc_ret
        | with_reducible apply kc_exit
        | (with_reducible apply kb_there; (focus rfl))
      refine l_call rfl rfl rfl (by first | (go_simp; done) | (go_simp; rfl)) (HCO.out) ?_
      rintro e w' ⟨rfl, rfl⟩
      refine ⟨_, rfl, ?_⟩
      repeat first
        | apply d_seq
        | with_reducible apply kt_normal
        | apply l_nil
        | apply d_region
        | (apply l_off; (focus rfl); (focus rfl))
        | (apply l_val; (focus rfl); (focus rfl); (focus rfl); (focus (go_simp; (try simp (disch := omega) only [wrap_in, wrap_in', wrap_u16, wrap_u8, wrap_u32, wrap_u64, rem_in, quo_in]); first | done | with_reducible rfl | (constructor <;> with_reducible rfl))))
        | (apply l_store; (focus rfl); (focus rfl); (focus rfl); (focus (go_simp; (try simp (disch := omega) only [wrap_in, wrap_in', wrap_u16, wrap_u8, wrap_u32, wrap_u64, rem_in, quo_in]); first | done | with_reducible rfl | (constructor <;> with_reducible rfl))))
        | apply d_block
        | (apply d_true; (focus rfl); (focus rfl))
        | (apply d_false; (focus rfl); (focus rfl))
        | apply d_skip
        | apply d_exit
        | apply d_ret
        | with_reducible apply kt_ret
        | with_reducible apply kt_exit
        | with_reducible apply kb_normal
        | with_reducible apply kb_ret
        | with_reducible apply kb_here
        | with_reducible apply kl_ret
        | with_reducible apply kl_exit
        | with_reducible apply kc_ret
        | with_reducible apply kc_exit
        | (with_reducible apply kb_there; (focus rfl))
      refine l_call rfl rfl rfl (by first | (go_simp; done) | (go_simp; rfl)) (HC3.out) ?_
      rintro e w3 ⟨rfl, hk3⟩
      have hx3 := HS0.out.keep hk3
      obtain ⟨c0, c1, c2, f0, f1, f2⟩ := blk3 (hx3.blk (i := 0) rfl)
      have hc4 := rHas_any w3 G3 A3 _ d3 s.brok a (HS3.out.keep hk3) rfl (by omega)
      rw [HISB.out] at hc4
      have HK3 := Lib.hid hk3
      have HC4 := Lib.hid hc4
      clear hk3 hc4
      clear hx3
      refine ⟨_, rfl, ?_⟩
      repeat first
        | apply d_seq
        | with_reducible apply kt_normal
        | apply l_nil
        | apply d_region
        | (apply l_off; (focus rfl); (focus rfl))
        | (apply l_val; (focus rfl); (focus rfl); (focus rfl); (focus (go_simp; (try simp (disch := omega) only [wrap_in, wrap_in', wrap_u16, wrap_u8, wrap_u32, wrap_u64, rem_in, quo_in]); first | done | with_reducible rfl | (constructor <;> with_reducible rfl))))
        | (apply l_store; (focus rfl); (focus rfl); (focus rfl); (focus (go_simp; (try simp (disch := omega) only [wrap_in, wrap_in', wrap_u16, wrap_u8, wrap_u32, wrap_u64, rem_in, quo_in]); first | done | with_reducible rfl | (constructor <;> with_reducible rfl))))
        | apply d_block
        | (apply d_true; (focus rfl); (focus rfl))
        | (apply d_false; (focus rfl); (focus rfl))
        | apply d_skip
        | apply d_exit
        | apply d_ret
        | with_reducible apply kt_ret
        | with_reducible apply kt_exit
        | with_reducible apply kb_normal
        | with_reducible apply kb_ret
        | with_reducible apply kb_here
        | with_reducible apply kl_ret
        | with_reducible apply kl_exit
        | with_reducible apply kc_ret
        | with_reducible apply kc_exit
        | (with_reducible apply kb_there; (focus rfl))
      refine l_call rfl rfl rfl (by first | (go_simp; done) | (go_simp; rfl)) (HC4.out) ?_
      rintro e w4 ⟨rfl, hk4⟩
      have hk4 := HK3.out.next hk4
      have hx4 := HS0.out.keep hk4
      obtain ⟨c0, c1, c2, f0, f1, f2⟩ := blk3 (hx4.blk (i := 0) rfl)
      clear HK3 HC4
      have HK4 := Lib.hid hk4
      have HX4 := Lib.hid hx4
      clear hk4 hx4
      refine ⟨_, rfl, ?_⟩

      repeat first
        | apply d_seq
        | with_reducible apply kt_normal
        | apply l_nil
        | apply d_region
        | (apply l_off; (focus rfl); (focus rfl))
        | (apply l_val; (focus rfl); (focus rfl); (focus rfl); (focus (go_simp; (try simp (disch := omega) only [wrap_in, wrap_in', wrap_u16, wrap_u8, wrap_u32, wrap_u64, rem_in, quo_in]); first | done | with_reducible rfl | (constructor <;> with_reducible rfl))))
        | (apply l_store; (focus rfl); (focus rfl); (focus rfl); (focus (go_simp; (try simp (disch := omega) only [wrap_in, wrap_in', wrap_u16, wrap_u8, wrap_u32, wrap_u64, rem_in, quo_in]); first | done | with_reducible rfl | (constructor <;> with_reducible rfl))))
        | apply d_block
        | (apply d_true; (focus rfl); (focus rfl))
        | (apply d_false; (focus rfl); (focus rfl))
        | apply d_skip
        | apply d_exit
        | apply d_ret
        | with_reducible apply kt_ret
        | with_reducible apply kt_exit
        | with_reducible apply kb_normal
        | with_reducible apply kb_ret
        | with_reducible apply kb_here
        | with_reducible apply kl_ret
        | with_reducible apply kl_exit
        | with_reducible apply kc_ret
        | with_reducible apply kc_exit
        | (with_reducible apply kb_there; (focus rfl))
      refine ⟨rfl, _, (by first | (simp [resultsG, resOne, Try.results13, rho, List.lookup]; done) | (simp [resultsG, resOne, Try.results13, rho, List.lookup]; rfl)), ?_⟩
      exact ⟨rfl, SAME.out _ HK4.out⟩
set_option maxRecDepth 100000 in
set_option maxHeartbeats 4000000 in
theorem rBring_any (p : Nat) (s : PS) (a : Int) (F : Nat → Prop) (w : World) (h : RPRep w F p s) :
    Calls Try.prog 17 #[.pointer (some ⟨p, 0, none⟩), .int .u8 a] w fun e w' => e = .returned (.int .i64 (s.bring a).2) ∧ Keep F w w' ∧ RPRep w' (fresh F w w') p (s.bring a).1 := by
  have hrep := h
  obtain ⟨hok, Lv, Sv, Bv, hp⟩ := h
  have same : ∀ w', Keep none_ w w' → Keep F w w' ∧ RPRep w' (fresh F w w') p s := fun w' hk => ⟨hk.none, hrep.move hk.size (fun k hF hl => ⟨.inl hF, hk.block k hl (fun c => c)⟩)⟩
  have hs0 := HasF.start hp
  obtain ⟨c0, c1, c2, f0, f1, f2⟩ := blk3 (hs0.blk (i := 0) rfl)
  obtain ⟨G1, hs1, A1, d1, rfl, hb1, hb1'⟩ := hs0.own (i := 1) rfl
  obtain ⟨G2, hs2, A2, d2, rfl, hb2, hb2'⟩ := hs0.sees (i := 2) rfl
  obtain ⟨G3, hs3, A3, d3, rfl, hb3, hb3'⟩ := hs0.sees (i := 3) rfl
  have hsh1 := spares_short s
  have hsh2 := brok_short s
  have hc3 := rHas_any w G3 A3 _ d3 s.brok a hs3 rfl (by omega)
  rw [is_brok hok] at hc3
  have hok' := PS.ok_bring hok a
  have hir := PS.is_range hok a
  have HS0 := Lib.hid hs0
  have SAME := Lib.hid same
  have HS2 := Lib.hid hs2
  have HS3 := Lib.hid hs3
  have HOK' := Lib.hid hok'
  clear same hs2 hs3 hok'
  clear hp hs0 hs1
  by_cases h2 : s.is a = 2
  · obtain ⟨n1, n2, n3, n4⟩ := bring_broken hok h2
    rw [decide_eq_true h2] at hc3
    rw [n1]
    have HC3 := Lib.hid hc3
    have N1 := Lib.hid n1
    have N2 := Lib.hid n2
    have N3 := Lib.hid n3
    have N4 := Lib.hid n4
    clear hc3 n1 n2 n3 n4
    clear hir h2 hrep
    refine d_calls (n := 50) Try.func17 rfl rfl (by simp) [(0, .pointer (some ⟨p, 0, none⟩)), (1, .int .u8 a)] (by simp) ?_
    repeat first
      | apply d_seq
      | with_reducible apply kt_normal
      | apply l_nil
      | apply d_region
      | (apply l_off; (focus rfl); (focus rfl))
      | (apply l_val; (focus rfl); (focus rfl); (focus rfl); (focus (go_simp; (try simp (disch := omega) only [wrap_in, wrap_in', wrap_u16, wrap_u8, wrap_u32, wrap_u64, rem_in, quo_in]); first | done | with_reducible rfl | (constructor <;> with_reducible rfl))))
      | (apply l_store; (focus rfl); (focus rfl); (focus rfl); (focus (go_simp; (try simp (disch := omega) only [wrap_in, wrap_in', wrap_u16, wrap_u8, wrap_u32, wrap_u64, rem_in, quo_in]); first | done | with_reducible rfl | (constructor <;> with_reducible rfl))))
      | apply d_block
      | (apply d_true; (focus rfl); (focus rfl))
      | (apply d_false; (focus rfl); (focus rfl))
      | apply d_skip
      | apply d_exit
      | apply d_ret
      | with_reducible apply kt_ret
      | with_reducible apply kt_exit
      | with_reducible apply kb_normal
      | with_reducible apply kb_ret
      | with_reducible apply kb_here
      | with_reducible apply kl_ret
      | with_reducible apply kl_exit
      | with_reducible apply kc_ret
      | with_reducible apply kc_exit
      | (with_reducible apply kb_there; (focus rfl))
    refine l_call rfl rfl rfl (by first | (go_simp; done) | (go_simp; rfl)) (HC3.out) ?_
    rintro e w3 ⟨rfl, hk3⟩
    have hx3 := HS0.out.keep hk3
    obtain ⟨c0, c1, c2, f0, f1, f2⟩ := blk3 (hx3.blk (i := 0) rfl)
    obtain ⟨G4, hs4, -⟩ := hx3.sees (i := 3) rfl
    have hc4 := rWithout_any w3 G4 A3 _ d3 s.brok a hs4 rfl (by omega)
    have HC4 := Lib.hid hc4
    clear hc4
    have HX := Lib.hid hx3
    clear hx3 hs4 HS0
    refine ⟨_, rfl, ?_⟩
    repeat first
      | apply d_seq
      | with_reducible apply kt_normal
      | apply l_nil
      | apply d_region
      | (apply l_off; (focus rfl); (focus rfl))
      | (apply l_val; (focus rfl); (focus rfl); (focus rfl); (focus (go_simp; (try simp (disch := omega) only [wrap_in, wrap_in', wrap_u16, wrap_u8, wrap_u32, wrap_u64, rem_in, quo_in]); first | done | with_reducible rfl | (constructor <;> with_reducible rfl))))
      | (apply l_store; (focus rfl); (focus rfl); (focus rfl); (focus (go_simp; (try simp (disch := omega) only [wrap_in, wrap_in', wrap_u16, wrap_u8, wrap_u32, wrap_u64, rem_in, quo_in]); first | done | with_reducible rfl | (constructor <;> with_reducible rfl))))
      | apply d_block
      | (apply d_true; (focus rfl); (focus rfl))
      | (apply d_false; (focus rfl); (focus rfl))
      | apply d_skip
      | apply d_exit
      | apply d_ret
      | with_reducible apply kt_ret
      | with_reducible apply kt_exit
      | with_reducible apply kb_normal
      | with_reducible apply kb_ret
      | with_reducible apply kb_here
      | with_reducible apply kl_ret
      | with_reducible apply kl_exit
      | with_reducible apply kc_ret
      | with_reducible apply kc_exit
      | (with_reducible apply kb_there; (focus rfl))
    clear c0 c1 c2 f0 f1 f2
    refine l_call rfl rfl rfl (by first | (go_simp; done) | (go_simp; rfl)) (HC4.out) ?_
    rintro e w5 ⟨B5, d5, rfl, hb5, hb5', hy⟩
    have hx5 := HX.out.more hy
    obtain ⟨c0, c1, c2, f0, f1, f2⟩ := blk3 (hx5.blk (i := 0) rfl)
    have hput := hx5.put (i := 0) rfl 2 (.slice B5 (wout s.brok a).length d5)
    unfold rparts at hput
    simp only [List.set_cons_zero, List.cons_append, List.nil_append] at hput
    have hput := (hput).sel [0, 1, 2, 4] (by decide)
    simp only [List.map_cons, List.map_nil, List.getElem?_cons_zero, List.getElem?_cons_succ, Option.getD_some] at hput
    have hput := hput.read (i := 3) rfl
    simp only [List.set_cons_zero, List.set_cons_succ] at hput
    clear HX hx5
    have HX := Lib.hid hput
    clear hput
    refine ⟨_, rfl, ?_⟩
    repeat first
      | apply d_seq
      | with_reducible apply kt_normal
      | apply l_nil
      | apply d_region
      | (apply l_off; (focus rfl); (focus rfl))
      | (apply l_val; (focus rfl); (focus rfl); (focus rfl); (focus (go_simp; (try simp (disch := omega) only [wrap_in, wrap_in', wrap_u16, wrap_u8, wrap_u32, wrap_u64, rem_in, quo_in]); first | done | with_reducible rfl | (constructor <;> with_reducible rfl))))
      | (apply l_store; (focus rfl); (focus rfl); (focus rfl); (focus (go_simp; (try simp (disch := omega) only [wrap_in, wrap_in', wrap_u16, wrap_u8, wrap_u32, wrap_u64, rem_in, quo_in]); first | done | with_reducible rfl | (constructor <;> with_reducible rfl))))
      | apply d_block
      | (apply d_true; (focus rfl); (focus rfl))
      | (apply d_false; (focus rfl); (focus rfl))
      | apply d_skip
      | apply d_exit
      | apply d_ret
      | with_reducible apply kt_ret
      | with_reducible apply kt_exit
      | with_reducible apply kb_normal
      | with_reducible apply kb_ret
      | with_reducible apply kb_here
      | with_reducible apply kl_ret
      | with_reducible apply kl_exit
      | with_reducible apply kc_ret
      | with_reducible apply kc_exit
      | (with_reducible apply kb_there; (focus rfl))
    clear c0 c1 c2 f0 f1 f2
    generalize w5.setCell ⟨p, 2, none⟩ (.slice B5 (wout s.brok a).length d5) = w6 at *
    have hz := HX.out
    clear HX
    have HX := Lib.hid (show HasF F w w6 [BlkA 0 p #[.slice A1 s.pairs.length d1, .slice A2 s.spares.length d2, .slice B5 (wout s.brok a).length d5] 54, OwnA 0 56 2 (.slice A1 s.pairs.length d1) s.pairs.length (s.pairs.flatMap shc), SeesA 0 1 (.slice A2 s.spares.length d2) s.spares.length (ints .u8 s.spares), SeesA 0 1 (.slice B5 (wout s.brok a).length d5) (wout s.brok a).length (ints .u8 (wout s.brok a))] from hz)
    obtain ⟨G6, hs6, -⟩ := HX.out.sees (i := 2) rfl
    have hc6 := rWith_any w6 G6 A2 _ d2 s.spares a hs6 rfl (by omega)
    have HC6 := Lib.hid hc6
    clear hc6
    clear hs6 hy hz
    refine l_call rfl rfl rfl (by first | (go_simp; done) | (go_simp; rfl)) (HC6.out) ?_
    rintro e w7 ⟨B7, d7, rfl, hb7, hb7', hy⟩
    have hx7 := HX.out.more hy
    obtain ⟨c0, c1, c2, f0, f1, f2⟩ := blk3 (hx7.blk (i := 0) rfl)
    have hput := hx7.put (i := 0) rfl 1 (.slice B7 (wth s.spares a).length d7)
    simp only [List.set_cons_zero, List.cons_append, List.nil_append] at hput
    have hput := (hput).sel [0, 1, 4, 3] (by decide)
    simp only [List.map_cons, List.map_nil, List.getElem?_cons_zero, List.getElem?_cons_succ, Option.getD_some] at hput
    have hput := hput.read (i := 2) rfl
    simp only [List.set_cons_zero, List.set_cons_succ] at hput
    clear hx7
    have HY := Lib.hid hput
    clear hput
    refine ⟨_, rfl, ?_⟩
    repeat first
      | apply d_seq
      | with_reducible apply kt_normal
      | apply l_nil
      | apply d_region
      | (apply l_off; (focus rfl); (focus rfl))
      | (apply l_val; (focus rfl); (focus rfl); (focus rfl); (focus (go_simp; (try simp (disch := omega) only [wrap_in, wrap_in', wrap_u16, wrap_u8, wrap_u32, wrap_u64, rem_in, quo_in]); first | done | with_reducible rfl | (constructor <;> with_reducible rfl))))
      | (apply l_store; (focus rfl); (focus rfl); (focus rfl); (focus (go_simp; (try simp (disch := omega) only [wrap_in, wrap_in', wrap_u16, wrap_u8, wrap_u32, wrap_u64, rem_in, quo_in]); first | done | with_reducible rfl | (constructor <;> with_reducible rfl))))
      | apply d_block
      | (apply d_true; (focus rfl); (focus rfl))
      | (apply d_false; (focus rfl); (focus rfl))
      | apply d_skip
      | apply d_exit
      | apply d_ret
      | with_reducible apply kt_ret
      | with_reducible apply kt_exit
      | with_reducible apply kb_normal
      | with_reducible apply kb_ret
      | with_reducible apply kb_here
      | with_reducible apply kl_ret
      | with_reducible apply kl_exit
      | with_reducible apply kc_ret
      | with_reducible apply kc_exit
      | (with_reducible apply kb_there; (focus rfl))
    refine ⟨rfl, _, (by first | (simp [resultsG, resOne, Try.results17, rho, List.lookup]; done) | (simp [resultsG, resOne, Try.results17, rho, List.lookup]; rfl)), ?_⟩
    refine ⟨rfl, RPRep.back HOK'.out (Lv := .slice A1 s.pairs.length d1) (Sv := .slice B7 (wth s.spares a).length d7) (Bv := .slice B5 (wout s.brok a).length d5) ?_⟩
    unfold rparts
    rw [N2.out, N3.out, N4.out]
    exact HY.out
  · have e : s.bring a = (s, if s.is a = 0 then 6 else 7) := by
      unfold PS.bring
      split
      · rfl
      · first | rfl | rw [if_neg h2]
    rw [e]
    rw [decide_eq_false h2] at hc3
    have hcO := fun w' (hk : Keep none_ w w') => rOf_any p s a F w' (hrep.move hk.size (fun k hF hl => ⟨hF, hk.block k hl (fun c => c)⟩))
    obtain ⟨x2, hx2⟩ := ansV_is .u16 (s.of? a)
    rw [is_shows hok] at hx2
    rw [hx2] at hcO
    have hs := fun w' G h => rHas_any w' G A2 _ d2 s.spares a h rfl (by omega)
    rw [is_spare hok] at hs
    rcases (by omega : s.is a = 0 ∨ s.is a = 1 ∨ s.is a = 3) with c | c | c
    · have hcO2 : ∀ w', Keep none_ w w' → _ := hcO
      rw [c, show (decide ((0 : Int) = 3)) = false from rfl] at hcO
      rw [c, show (decide ((0 : Int) = 1)) = false from rfl] at hs
      have he : (if s.is a = 0 then (6 : Int) else 7) = 6 := by rw [c]; rfl
      rw [he]
      clear hcO2 hx2 hir h2 hrep he c e
      have HCO := Lib.hid hcO
      have HS := Lib.hid hs
      have HC3 := Lib.hid hc3
      clear hcO hs hc3
      refine d_calls (n := 50) Try.func17 rfl rfl (by simp) [(0, .pointer (some ⟨p, 0, none⟩)), (1, .int .u8 a)] (by simp) ?_
      repeat first
        | apply d_seq
        | with_reducible apply kt_normal
        | apply l_nil
        | apply d_region
        | (apply l_off; (focus rfl); (focus rfl))
        | (apply l_val; (focus rfl); (focus rfl); (focus rfl); (focus (go_simp; (try simp (disch := omega) only [wrap_in, wrap_in', wrap_u16, wrap_u8, wrap_u32, wrap_u64, rem_in, quo_in]); first | done | with_reducible rfl | (constructor <;> with_reducible rfl))))
        | (apply l_store; (focus rfl); (focus rfl); (focus rfl); (focus (go_simp; (try simp (disch := omega) only [wrap_in, wrap_in', wrap_u16, wrap_u8, wrap_u32, wrap_u64, rem_in, quo_in]); first | done | with_reducible rfl | (constructor <;> with_reducible rfl))))
        | apply d_block
        | (apply d_true; (focus rfl); (focus rfl))
        | (apply d_false; (focus rfl); (focus rfl))
        | apply d_skip
        | apply d_exit
        | apply d_ret
        | with_reducible apply kt_ret
        | with_reducible apply kt_exit
        | with_reducible apply kb_normal
        | with_reducible apply kb_ret
        | with_reducible apply kb_here
        | with_reducible apply kl_ret
        | with_reducible apply kl_exit
        | with_reducible apply kc_ret
        | with_reducible apply kc_exit
        | (with_reducible apply kb_there; (focus rfl))
      refine l_call rfl rfl rfl (by first | (go_simp; done) | (go_simp; rfl)) (HC3.out) ?_
      rintro e w3 ⟨rfl, hk3⟩
      have hcO := HCO.out w3 hk3
      have hx3 := HS0.out.keep hk3
      obtain ⟨c0, c1, c2, f0, f1, f2⟩ := blk3 (hx3.blk (i := 0) rfl)
      obtain ⟨G4, hs4, -⟩ := hx3.sees (i := 2) rfl
      have hc5 := HS.out w3 G4 hs4
      clear HCO HS hx3 hs4
      have HK3 := Lib.hid hk3
      have HCO := Lib.hid hcO
      have HC5 := Lib.hid hc5
      clear hk3 hcO hc5
      refine ⟨_, rfl, ?_⟩
      repeat first
        | apply d_seq
        | with_reducible apply kt_normal
        | apply l_nil
        | apply d_region
        | (apply l_off; (focus rfl); (focus rfl))
        | (apply l_val; (focus rfl); (focus rfl); (focus rfl); (focus (go_simp; (try simp (disch := omega) only [wrap_in, wrap_in', wrap_u16, wrap_u8, wrap_u32, wrap_u64, rem_in, quo_in]); first | done | with_reducible rfl | (constructor <;> with_reducible rfl))))
        | (apply l_store; (focus rfl); (focus rfl); (focus rfl); (focus (go_simp; (try simp (disch := omega) only [wrap_in, wrap_in', wrap_u16, wrap_u8, wrap_u32, wrap_u64, rem_in, quo_in]); first | done | with_reducible rfl | (constructor <;> with_reducible rfl))))
        | apply d_block
        | (apply d_true; (focus rfl); (focus rfl))
        | (apply d_false; (focus rfl); (focus rfl))
        | apply d_skip
        | apply d_exit
        | apply d_ret
        | with_reducible apply kt_ret
        | with_reducible apply kt_exit
        | with_reducible apply kb_normal
        | with_reducible apply kb_ret
        | with_reducible apply kb_here
        | with_reducible apply kl_ret
        | with_reducible apply kl_exit
        | with_reducible apply kc_ret
        | with_reducible apply kc_exit
        | (with_reducible apply kb_there; (focus rfl))
      refine l_call rfl rfl rfl (by first | (go_simp; done) | (go_simp; rfl)) (HCO.out) ?_
      rintro e w' ⟨rfl, rfl⟩
      refine ⟨_, rfl, ?_⟩
      repeat first
        | apply d_seq
        | with_reducible apply kt_normal
        | apply l_nil
        | apply d_region
        | (apply l_off; (focus rfl); (focus rfl))
        | (apply l_val; (focus rfl); (focus rfl); (focus rfl); (focus (go_simp; (try simp (disch := omega) only [wrap_in, wrap_in', wrap_u16, wrap_u8, wrap_u32, wrap_u64, rem_in, quo_in]); first | done | with_reducible rfl | (constructor <;> with_reducible rfl))))
        | (apply l_store; (focus rfl); (focus rfl); (focus rfl); (focus (go_simp; (try simp (disch := omega) only [wrap_in, wrap_in', wrap_u16, wrap_u8, wrap_u32, wrap_u64, rem_in, quo_in]); first | done | with_reducible rfl | (constructor <;> with_reducible rfl))))
        | apply d_block
        | (apply d_true; (focus rfl); (focus rfl))
        | (apply d_false; (focus rfl); (focus rfl))
        | apply d_skip
        | apply d_exit
        | apply d_ret
        | with_reducible apply kt_ret
        | with_reducible apply kt_exit
        | with_reducible apply kb_normal
        | with_reducible apply kb_ret
        | with_reducible apply kb_here
        | with_reducible apply kl_ret
        | with_reducible apply kl_exit
        | with_reducible apply kc_ret
        | with_reducible apply kc_exit
        | (with_reducible apply kb_there; (focus rfl))
      refine l_call rfl rfl rfl (by first | (go_simp; done) | (go_simp; rfl)) (HC5.out) ?_
      rintro e w5 ⟨rfl, hk5⟩
      have hk5 := HK3.out.next hk5
      have HK5 := Lib.hid hk5
      clear hk5
      refine ⟨_, rfl, ?_⟩
      repeat first
        | apply d_seq
        | with_reducible apply kt_normal
        | apply l_nil
        | apply d_region
        | (apply l_off; (focus rfl); (focus rfl))
        | (apply l_val; (focus rfl); (focus rfl); (focus rfl); (focus (go_simp; (try simp (disch := omega) only [wrap_in, wrap_in', wrap_u16, wrap_u8, wrap_u32, wrap_u64, rem_in, quo_in]); first | done | with_reducible rfl | (constructor <;> with_reducible rfl))))
        | (apply l_store; (focus rfl); (focus rfl); (focus rfl); (focus (go_simp; (try simp (disch := omega) only [wrap_in, wrap_in', wrap_u16, wrap_u8, wrap_u32, wrap_u64, rem_in, quo_in]); first | done | with_reducible rfl | (constructor <;> with_reducible rfl))))
        | apply d_block
        | (apply d_true; (focus rfl); (focus rfl))
        | (apply d_false; (focus rfl); (focus rfl))
        | apply d_skip
        | apply d_exit
        | apply d_ret
        | with_reducible apply kt_ret
        | with_reducible apply kt_exit
        | with_reducible apply kb_normal
        | with_reducible apply kb_ret
        | with_reducible apply kb_here
        | with_reducible apply kl_ret
        | with_reducible apply kl_exit
        | with_reducible apply kc_ret
        | with_reducible apply kc_exit
        | (with_reducible apply kb_there; (focus rfl))
      refine ⟨rfl, _, (by first | (simp [resultsG, resOne, Try.results17, rho, List.lookup]; done) | (simp [resultsG, resOne, Try.results17, rho, List.lookup]; rfl)), ?_⟩
      exact ⟨rfl, SAME.out _ HK5.out⟩
    · have hcO2 : ∀ w', Keep none_ w w' → _ := hcO
      rw [c, show (decide ((1 : Int) = 3)) = false from rfl] at hcO
      rw [c, show (decide ((1 : Int) = 1)) = true from rfl] at hs
      have he : (if s.is a = 0 then (6 : Int) else 7) = 7 := by rw [c]; rfl
      rw [he]
      clear hcO2 hx2 hir h2 hrep he c e
      have HCO := Lib.hid hcO
      have HS := Lib.hid hs
      have HC3 := Lib.hid hc3
      clear hcO hs hc3
      refine d_calls (n := 50) Try.func17 rfl rfl (by simp) [(0, .pointer (some ⟨p, 0, none⟩)), (1, .int .u8 a)] (by simp) ?_
      repeat first
        | apply d_seq
        | with_reducible apply kt_normal
        | apply l_nil
        | apply d_region
        | (apply l_off; (focus rfl); (focus rfl))
        | (apply l_val; (focus rfl); (focus rfl); (focus rfl); (focus (go_simp; (try simp (disch := omega) only [wrap_in, wrap_in', wrap_u16, wrap_u8, wrap_u32, wrap_u64, rem_in, quo_in]); first | done | with_reducible rfl | (constructor <;> with_reducible rfl))))
        | (apply l_store; (focus rfl); (focus rfl); (focus rfl); (focus (go_simp; (try simp (disch := omega) only [wrap_in, wrap_in', wrap_u16, wrap_u8, wrap_u32, wrap_u64, rem_in, quo_in]); first | done | with_reducible rfl | (constructor <;> with_reducible rfl))))
        | apply d_block
        | (apply d_true; (focus rfl); (focus rfl))
        | (apply d_false; (focus rfl); (focus rfl))
        | apply d_skip
        | apply d_exit
        | apply d_ret
        | with_reducible apply kt_ret
        | with_reducible apply kt_exit
        | with_reducible apply kb_normal
        | with_reducible apply kb_ret
        | with_reducible apply kb_here
        | with_reducible apply kl_ret
        | with_reducible apply kl_exit
        | with_reducible apply kc_ret
        | with_reducible apply kc_exit
        | (with_reducible apply kb_there; (focus rfl))
      refine l_call rfl rfl rfl (by first | (go_simp; done) | (go_simp; rfl)) (HC3.out) ?_
      rintro e w3 ⟨rfl, hk3⟩
      have hcO := HCO.out w3 hk3
      have hx3 := HS0.out.keep hk3
      obtain ⟨c0, c1, c2, f0, f1, f2⟩ := blk3 (hx3.blk (i := 0) rfl)
      obtain ⟨G4, hs4, -⟩ := hx3.sees (i := 2) rfl
      have hc5 := HS.out w3 G4 hs4
      clear HCO HS hx3 hs4
      have HK3 := Lib.hid hk3
      have HCO := Lib.hid hcO
      have HC5 := Lib.hid hc5
      clear hk3 hcO hc5
      refine ⟨_, rfl, ?_⟩
      repeat first
        | apply d_seq
        | with_reducible apply kt_normal
        | apply l_nil
        | apply d_region
        | (apply l_off; (focus rfl); (focus rfl))
        | (apply l_val; (focus rfl); (focus rfl); (focus rfl); (focus (go_simp; (try simp (disch := omega) only [wrap_in, wrap_in', wrap_u16, wrap_u8, wrap_u32, wrap_u64, rem_in, quo_in]); first | done | with_reducible rfl | (constructor <;> with_reducible rfl))))
        | (apply l_store; (focus rfl); (focus rfl); (focus rfl); (focus (go_simp; (try simp (disch := omega) only [wrap_in, wrap_in', wrap_u16, wrap_u8, wrap_u32, wrap_u64, rem_in, quo_in]); first | done | with_reducible rfl | (constructor <;> with_reducible rfl))))
        | apply d_block
        | (apply d_true; (focus rfl); (focus rfl))
        | (apply d_false; (focus rfl); (focus rfl))
        | apply d_skip
        | apply d_exit
        | apply d_ret
        | with_reducible apply kt_ret
        | with_reducible apply kt_exit
        | with_reducible apply kb_normal
        | with_reducible apply kb_ret
        | with_reducible apply kb_here
        | with_reducible apply kl_ret
        | with_reducible apply kl_exit
        | with_reducible apply kc_ret
        | with_reducible apply kc_exit
        | (with_reducible apply kb_there; (focus rfl))
      refine l_call rfl rfl rfl (by first | (go_simp; done) | (go_simp; rfl)) (HCO.out) ?_
      rintro e w' ⟨rfl, rfl⟩
      refine ⟨_, rfl, ?_⟩
      repeat first
        | apply d_seq
        | with_reducible apply kt_normal
        | apply l_nil
        | apply d_region
        | (apply l_off; (focus rfl); (focus rfl))
        | (apply l_val; (focus rfl); (focus rfl); (focus rfl); (focus (go_simp; (try simp (disch := omega) only [wrap_in, wrap_in', wrap_u16, wrap_u8, wrap_u32, wrap_u64, rem_in, quo_in]); first | done | with_reducible rfl | (constructor <;> with_reducible rfl))))
        | (apply l_store; (focus rfl); (focus rfl); (focus rfl); (focus (go_simp; (try simp (disch := omega) only [wrap_in, wrap_in', wrap_u16, wrap_u8, wrap_u32, wrap_u64, rem_in, quo_in]); first | done | with_reducible rfl | (constructor <;> with_reducible rfl))))
        | apply d_block
        | (apply d_true; (focus rfl); (focus rfl))
        | (apply d_false; (focus rfl); (focus rfl))
        | apply d_skip
        | apply d_exit
        | apply d_ret
        | with_reducible apply kt_ret
        | with_reducible apply kt_exit
        | with_reducible apply kb_normal
        | with_reducible apply kb_ret
        | with_reducible apply kb_here
        | with_reducible apply kl_ret
        | with_reducible apply kl_exit
        | with_reducible apply kc_ret
        | with_reducible apply kc_exit
        | (with_reducible apply kb_there; (focus rfl))
      refine l_call rfl rfl rfl (by first | (go_simp; done) | (go_simp; rfl)) (HC5.out) ?_
      rintro e w5 ⟨rfl, hk5⟩
      have hk5 := HK3.out.next hk5
      have HK5 := Lib.hid hk5
      clear hk5
      refine ⟨_, rfl, ?_⟩
      repeat first
        | apply d_seq
        | with_reducible apply kt_normal
        | apply l_nil
        | apply d_region
        | (apply l_off; (focus rfl); (focus rfl))
        | (apply l_val; (focus rfl); (focus rfl); (focus rfl); (focus (go_simp; (try simp (disch := omega) only [wrap_in, wrap_in', wrap_u16, wrap_u8, wrap_u32, wrap_u64, rem_in, quo_in]); first | done | with_reducible rfl | (constructor <;> with_reducible rfl))))
        | (apply l_store; (focus rfl); (focus rfl); (focus rfl); (focus (go_simp; (try simp (disch := omega) only [wrap_in, wrap_in', wrap_u16, wrap_u8, wrap_u32, wrap_u64, rem_in, quo_in]); first | done | with_reducible rfl | (constructor <;> with_reducible rfl))))
        | apply d_block
        | (apply d_true; (focus rfl); (focus rfl))
        | (apply d_false; (focus rfl); (focus rfl))
        | apply d_skip
        | apply d_exit
        | apply d_ret
        | with_reducible apply kt_ret
        | with_reducible apply kt_exit
        | with_reducible apply kb_normal
        | with_reducible apply kb_ret
        | with_reducible apply kb_here
        | with_reducible apply kl_ret
        | with_reducible apply kl_exit
        | with_reducible apply kc_ret
        | with_reducible apply kc_exit
        | (with_reducible apply kb_there; (focus rfl))
      refine ⟨rfl, _, (by first | (simp [resultsG, resOne, Try.results17, rho, List.lookup]; done) | (simp [resultsG, resOne, Try.results17, rho, List.lookup]; rfl)), ?_⟩
      exact ⟨rfl, SAME.out _ HK5.out⟩
    · have hcO2 : ∀ w', Keep none_ w w' → _ := hcO
      rw [c, show (decide ((3 : Int) = 3)) = true from rfl] at hcO
      rw [c, show (decide ((3 : Int) = 1)) = false from rfl] at hs
      have he : (if s.is a = 0 then (6 : Int) else 7) = 7 := by rw [c]; rfl
      rw [he]
      clear hcO2 hx2 hir h2 hrep he c e
      have HCO := Lib.hid hcO
      have HS := Lib.hid hs
      have HC3 := Lib.hid hc3
      clear hcO hs hc3
      refine d_calls (n := 50) Try.func17 rfl rfl (by simp) [(0, .pointer (some ⟨p, 0, none⟩)), (1, .int .u8 a)] (by simp) ?_
      repeat first
        | apply d_seq
        | with_reducible apply kt_normal
        | apply l_nil
        | apply d_region
        | (apply l_off; (focus rfl); (focus rfl))
        | (apply l_val; (focus rfl); (focus rfl); (focus rfl); (focus (go_simp; (try simp (disch := omega) only [wrap_in, wrap_in', wrap_u16, wrap_u8, wrap_u32, wrap_u64, rem_in, quo_in]); first | done | with_reducible rfl | (constructor <;> with_reducible rfl))))
        | (apply l_store; (focus rfl); (focus rfl); (focus rfl); (focus (go_simp; (try simp (disch := omega) only [wrap_in, wrap_in', wrap_u16, wrap_u8, wrap_u32, wrap_u64, rem_in, quo_in]); first | done | with_reducible rfl | (constructor <;> with_reducible rfl))))
        | apply d_block
        | (apply d_true; (focus rfl); (focus rfl))
        | (apply d_false; (focus rfl); (focus rfl))
        | apply d_skip
        | apply d_exit
        | apply d_ret
        | with_reducible apply kt_ret
        | with_reducible apply kt_exit
        | with_reducible apply kb_normal
        | with_reducible apply kb_ret
        | with_reducible apply kb_here
        | with_reducible apply kl_ret
        | with_reducible apply kl_exit
        | with_reducible apply kc_ret
        | with_reducible apply kc_exit
        | (with_reducible apply kb_there; (focus rfl))
      refine l_call rfl rfl rfl (by first | (go_simp; done) | (go_simp; rfl)) (HC3.out) ?_
      rintro e w3 ⟨rfl, hk3⟩
      have hcO := HCO.out w3 hk3
      have hx3 := HS0.out.keep hk3
      obtain ⟨c0, c1, c2, f0, f1, f2⟩ := blk3 (hx3.blk (i := 0) rfl)
      obtain ⟨G4, hs4, -⟩ := hx3.sees (i := 2) rfl
      have hc5 := HS.out w3 G4 hs4
      clear HCO HS hx3 hs4
      have HK3 := Lib.hid hk3
      have HCO := Lib.hid hcO
      have HC5 := Lib.hid hc5
      clear hk3 hcO hc5
      refine ⟨_, rfl, ?_⟩
      repeat first
        | apply d_seq
        | with_reducible apply kt_normal
        | apply l_nil
        | apply d_region
        | (apply l_off; (focus rfl); (focus rfl))
        | (apply l_val; (focus rfl); (focus rfl); (focus rfl); (focus (go_simp; (try simp (disch := omega) only [wrap_in, wrap_in', wrap_u16, wrap_u8, wrap_u32, wrap_u64, rem_in, quo_in]); first | done | with_reducible rfl | (constructor <;> with_reducible rfl))))
        | (apply l_store; (focus rfl); (focus rfl); (focus rfl); (focus (go_simp; (try simp (disch := omega) only [wrap_in, wrap_in', wrap_u16, wrap_u8, wrap_u32, wrap_u64, rem_in, quo_in]); first | done | with_reducible rfl | (constructor <;> with_reducible rfl))))
        | apply d_block
        | (apply d_true; (focus rfl); (focus rfl))
        | (apply d_false; (focus rfl); (focus rfl))
        | apply d_skip
        | apply d_exit
        | apply d_ret
        | with_reducible apply kt_ret
        | with_reducible apply kt_exit
        | with_reducible apply kb_normal
        | with_reducible apply kb_ret
        | with_reducible apply kb_here
        | with_reducible apply kl_ret
        | with_reducible apply kl_exit
        | with_reducible apply kc_ret
        | with_reducible apply kc_exit
        | (with_reducible apply kb_there; (focus rfl))
      refine l_call rfl rfl rfl (by first | (go_simp; done) | (go_simp; rfl)) (HCO.out) ?_
      rintro e w' ⟨rfl, rfl⟩
      refine ⟨_, rfl, ?_⟩
      repeat first
        | apply d_seq
        | with_reducible apply kt_normal
        | apply l_nil
        | apply d_region
        | (apply l_off; (focus rfl); (focus rfl))
        | (apply l_val; (focus rfl); (focus rfl); (focus rfl); (focus (go_simp; (try simp (disch := omega) only [wrap_in, wrap_in', wrap_u16, wrap_u8, wrap_u32, wrap_u64, rem_in, quo_in]); first | done | with_reducible rfl | (constructor <;> with_reducible rfl))))
        | (apply l_store; (focus rfl); (focus rfl); (focus rfl); (focus (go_simp; (try simp (disch := omega) only [wrap_in, wrap_in', wrap_u16, wrap_u8, wrap_u32, wrap_u64, rem_in, quo_in]); first | done | with_reducible rfl | (constructor <;> with_reducible rfl))))
        | apply d_block
        | (apply d_true; (focus rfl); (focus rfl))
        | (apply d_false; (focus rfl); (focus rfl))
        | apply d_skip
        | apply d_exit
        | apply d_ret
        | with_reducible apply kt_ret
        | with_reducible apply kt_exit
        | with_reducible apply kb_normal
        | with_reducible apply kb_ret
        | with_reducible apply kb_here
        | with_reducible apply kl_ret
        | with_reducible apply kl_exit
        | with_reducible apply kc_ret
        | with_reducible apply kc_exit
        | (with_reducible apply kb_there; (focus rfl))
      refine l_call rfl rfl rfl (by first | (go_simp; done) | (go_simp; rfl)) (HC5.out) ?_
      rintro e w5 ⟨rfl, hk5⟩
      have hk5 := HK3.out.next hk5
      have HK5 := Lib.hid hk5
      clear hk5
      refine ⟨_, rfl, ?_⟩
      repeat first
        | apply d_seq
        | with_reducible apply kt_normal
        | apply l_nil
        | apply d_region
        | (apply l_off; (focus rfl); (focus rfl))
        | (apply l_val; (focus rfl); (focus rfl); (focus rfl); (focus (go_simp; (try simp (disch := omega) only [wrap_in, wrap_in', wrap_u16, wrap_u8, wrap_u32, wrap_u64, rem_in, quo_in]); first | done | with_reducible rfl | (constructor <;> with_reducible rfl))))
        | (apply l_store; (focus rfl); (focus rfl); (focus rfl); (focus (go_simp; (try simp (disch := omega) only [wrap_in, wrap_in', wrap_u16, wrap_u8, wrap_u32, wrap_u64, rem_in, quo_in]); first | done | with_reducible rfl | (constructor <;> with_reducible rfl))))
        | apply d_block
        | (apply d_true; (focus rfl); (focus rfl))
        | (apply d_false; (focus rfl); (focus rfl))
        | apply d_skip
        | apply d_exit
        | apply d_ret
        | with_reducible apply kt_ret
        | with_reducible apply kt_exit
        | with_reducible apply kb_normal
        | with_reducible apply kb_ret
        | with_reducible apply kb_here
        | with_reducible apply kl_ret
        | with_reducible apply kl_exit
        | with_reducible apply kc_ret
        | with_reducible apply kc_exit
        | (with_reducible apply kb_there; (focus rfl))
      refine ⟨rfl, _, (by first | (simp [resultsG, resOne, Try.results17, rho, List.lookup]; done) | (simp [resultsG, resOne, Try.results17, rho, List.lookup]; rfl)), ?_⟩
      exact ⟨rfl, SAME.out _ HK5.out⟩
theorem shc_set {l : List (Int × Int)} : ∀ {k : Nat} {x y : Int} (z : Int), l[k]? = some (x, y) → (l.flatMap shc).set (k * 2 + 1) (.int .u8 z) = (l.set k (x, z)).flatMap shc := by
  induction l with
  | nil => intro k x y z h; simp at h
  | cons q l ih =>
    intro k x y z h
    cases k with
    | zero =>
      simp only [List.getElem?_cons_zero, Option.some.injEq] at h
      subst h
      rfl
    | succ k =>
      rw [List.getElem?_cons_succ] at h
      rw [List.set_cons_succ, List.flatMap_cons, List.flatMap_cons, ← ih z h]
      show (Value.int .u16 q.1 :: Value.int .u8 q.2 :: l.flatMap shc).set ((k + 1) * 2 + 1) (.int .u8 z) = _
      rw [show (k + 1) * 2 + 1 = (k * 2 + 1) + 1 + 1 by omega, List.set_cons_succ, List.set_cons_succ]
      rfl
theorem shc_get {l : List (Int × Int)} {k : Nat} {q : Int × Int} (h : l[k]? = some q) : (l.flatMap shc)[k * 2 + 1]? = some (.int .u8 q.2) := fl_get shc_len l k q h 1 (by omega)
set_option maxRecDepth 100000 in
set_option maxHeartbeats 4000000 in
theorem rFail_any (p : Nat) (s : PS) (a : Int) (F : Nat → Prop) (w : World) (h : RPRep w F p s) :
    Calls Try.prog 15 #[.pointer (some ⟨p, 0, none⟩), .int .u8 a] w fun e w' => e = .returned (.tuple #[.int .u8 (s.fail a).2.1, .int .i64 (s.fail a).2.2]) ∧ Keep F w w' ∧ RPRep w' (fresh F w w') p (s.fail a).1 := by
  have hrep := h
  obtain ⟨hok, Lv, Sv, Bv, hp⟩ := h
  have same : ∀ w', Keep none_ w w' → Keep F w w' ∧ RPRep w' (fresh F w w') p s := fun w' hk => ⟨hk.none, hrep.move hk.size (fun k hF hl => ⟨.inl hF, hk.block k hl (fun c => c)⟩)⟩
  have hs0 := HasF.start hp
  obtain ⟨c0, c1, c2, f0, f1, f2⟩ := blk3 (hs0.blk (i := 0) rfl)
  obtain ⟨G1, hs1, A1, d1, rfl, hb1, hb1'⟩ := hs0.own (i := 1) rfl
  obtain ⟨G2, hs2, A2, d2, rfl, hb2, hb2'⟩ := hs0.sees (i := 2) rfl
  obtain ⟨G3, hs3, A3, d3, rfl, hb3, hb3'⟩ := hs0.sees (i := 3) rfl
  have hsh1 := spares_short s
  have hsh2 := brok_short s
  have hc3 := rHas_any w G3 A3 _ d3 s.brok a hs3 rfl (by omega)
  rw [is_brok hok] at hc3
  have hok' := PS.ok_fail hok a
  have hir := PS.is_range hok a
  have HS0 := Lib.hid hs0
  have HOK := Lib.hid hok
  have SAME := Lib.hid same
  have HOK' := Lib.hid hok'
  clear same hok'
  clear hp hs0 hs1 hs2 hs3 hrep
  by_cases h2 : s.is a = 2
  · have e : s.fail a = (s, 0, 7) := by unfold PS.fail; rw [if_neg (by omega), if_pos h2]
    rw [e]
    rw [decide_eq_true h2] at hc3
    clear e h2 hir
    have HC3 := Lib.hid hc3
    clear hc3
    refine d_calls (n := 104) Try.func15 rfl rfl (by simp) [(0, .pointer (some ⟨p, 0, none⟩)), (1, .int .u8 a)] (by simp) ?_
    repeat first
      | apply d_seq
      | with_reducible apply kt_normal
      | apply l_nil
      | apply d_region
      | (apply l_off; (focus rfl); (focus rfl))
      | (apply l_val; (focus rfl); (focus rfl); (focus rfl); (focus (go_simp; (try simp (disch := omega) only [wrap_in, wrap_in', wrap_u16, wrap_u8, wrap_u32, wrap_u64, rem_in, quo_in]); first | done | with_reducible rfl | (constructor <;> with_reducible rfl))))
      | (apply l_store; (focus rfl); (focus rfl); (focus rfl); (focus (go_simp; (try simp (disch := omega) only [wrap_in, wrap_in', wrap_u16, wrap_u8, wrap_u32, wrap_u64, rem_in, quo_in]); first | done | with_reducible rfl | (constructor <;> with_reducible rfl))))
      | apply d_block
      | (apply d_true; (focus rfl); (focus rfl))
      | (apply d_false; (focus rfl); (focus rfl))
      | apply d_skip
      | apply d_exit
      | apply d_ret
      | with_reducible apply kt_ret
      | with_reducible apply kt_exit
      | with_reducible apply kb_normal
      | with_reducible apply kb_ret
      | with_reducible apply kb_here
      | with_reducible apply kl_ret
      | with_reducible apply kl_exit
      | with_reducible apply kc_ret
      | with_reducible apply kc_exit
      | (with_reducible apply kb_there; (focus rfl))
    refine l_call rfl rfl rfl (by first | (go_simp; done) | (go_simp; rfl)) (HC3.out) ?_
    rintro e w3 ⟨rfl, hk3⟩
    have HK3 := Lib.hid hk3
    refine ⟨_, rfl, ?_⟩
    repeat first
      | apply d_seq
      | with_reducible apply kt_normal
      | apply l_nil
      | apply d_region
      | (apply l_off; (focus rfl); (focus rfl))
      | (apply l_val; (focus rfl); (focus rfl); (focus rfl); (focus (go_simp; (try simp (disch := omega) only [wrap_in, wrap_in', wrap_u16, wrap_u8, wrap_u32, wrap_u64, rem_in, quo_in]); first | done | with_reducible rfl | (constructor <;> with_reducible rfl))))
      | (apply l_store; (focus rfl); (focus rfl); (focus rfl); (focus (go_simp; (try simp (disch := omega) only [wrap_in, wrap_in', wrap_u16, wrap_u8, wrap_u32, wrap_u64, rem_in, quo_in]); first | done | with_reducible rfl | (constructor <;> with_reducible rfl))))
      | apply d_block
      | (apply d_true; (focus rfl); (focus rfl))
      | (apply d_false; (focus rfl); (focus rfl))
      | apply d_skip
      | apply d_exit
      | apply d_ret
      | with_reducible apply kt_ret
      | with_reducible apply kt_exit
      | with_reducible apply kb_normal
      | with_reducible apply kb_ret
      | with_reducible apply kb_here
      | with_reducible apply kl_ret
      | with_reducible apply kl_exit
      | with_reducible apply kc_ret
      | with_reducible apply kc_exit
      | (with_reducible apply kb_there; (focus rfl))
    refine ⟨rfl, _, (by first | (simp [resultsG, resOne, Try.results15, rho, List.lookup]; done) | (simp [resultsG, resOne, Try.results15, rho, List.lookup]; rfl)), ?_⟩
    exact ⟨rfl, SAME.out _ HK3.out⟩
  rw [decide_eq_false h2] at hc3
  have HC3 := Lib.hid hc3
  clear hc3
  by_cases h1 : s.is a = 1
  · obtain ⟨n1, n2, n3, n4⟩ := fail_spare hok h1
    have hS := is_spare hok a
    rw [decide_eq_true h1] at hS
    rw [n1]
    clear hir h2 h1 hok
    have N1 := Lib.hid n1
    have N2 := Lib.hid n2
    have N3 := Lib.hid n3
    have N4 := Lib.hid n4
    clear n1 n2 n3 n4
    have HHS := Lib.hid hS
    clear hS
    refine d_calls (n := 104) Try.func15 rfl rfl (by simp) [(0, .pointer (some ⟨p, 0, none⟩)), (1, .int .u8 a)] (by simp) ?_
    repeat first
      | apply d_seq
      | with_reducible apply kt_normal
      | apply l_nil
      | apply d_region
      | (apply l_off; (focus rfl); (focus rfl))
      | (apply l_val; (focus rfl); (focus rfl); (focus rfl); (focus (go_simp; (try simp (disch := omega) only [wrap_in, wrap_in', wrap_u16, wrap_u8, wrap_u32, wrap_u64, rem_in, quo_in]); first | done | with_reducible rfl | (constructor <;> with_reducible rfl))))
      | (apply l_store; (focus rfl); (focus rfl); (focus rfl); (focus (go_simp; (try simp (disch := omega) only [wrap_in, wrap_in', wrap_u16, wrap_u8, wrap_u32, wrap_u64, rem_in, quo_in]); first | done | with_reducible rfl | (constructor <;> with_reducible rfl))))
      | apply d_block
      | (apply d_true; (focus rfl); (focus rfl))
      | (apply d_false; (focus rfl); (focus rfl))
      | apply d_skip
      | apply d_exit
      | apply d_ret
      | with_reducible apply kt_ret
      | with_reducible apply kt_exit
      | with_reducible apply kb_normal
      | with_reducible apply kb_ret
      | with_reducible apply kb_here
      | with_reducible apply kl_ret
      | with_reducible apply kl_exit
      | with_reducible apply kc_ret
      | with_reducible apply kc_exit
      | (with_reducible apply kb_there; (focus rfl))
    refine l_call rfl rfl rfl (by first | (go_simp; done) | (go_simp; rfl)) (HC3.out) ?_
    rintro e w3 ⟨rfl, hk3⟩
    have hx3 := HS0.out.keep hk3
    obtain ⟨c0, c1, c2, f0, f1, f2⟩ := blk3 (hx3.blk (i := 0) rfl)
    obtain ⟨G4, hs4, -⟩ := hx3.sees (i := 2) rfl
    have hc4 := rHas_any w3 G4 A2 _ d2 s.spares a hs4 rfl (by omega)
    rw [HHS.out] at hc4
    have HC4 := Lib.hid hc4
    clear hc4
    have HX := Lib.hid hx3
    clear hx3 hs4 HS0 HC3
    refine ⟨_, rfl, ?_⟩
    repeat first
      | apply d_seq
      | with_reducible apply kt_normal
      | apply l_nil
      | apply d_region
      | (apply l_off; (focus rfl); (focus rfl))
      | (apply l_val; (focus rfl); (focus rfl); (focus rfl); (focus (go_simp; (try simp (disch := omega) only [wrap_in, wrap_in', wrap_u16, wrap_u8, wrap_u32, wrap_u64, rem_in, quo_in]); first | done | with_reducible rfl | (constructor <;> with_reducible rfl))))
      | (apply l_store; (focus rfl); (focus rfl); (focus rfl); (focus (go_simp; (try simp (disch := omega) only [wrap_in, wrap_in', wrap_u16, wrap_u8, wrap_u32, wrap_u64, rem_in, quo_in]); first | done | with_reducible rfl | (constructor <;> with_reducible rfl))))
      | apply d_block
      | (apply d_true; (focus rfl); (focus rfl))
      | (apply d_false; (focus rfl); (focus rfl))
      | apply d_skip
      | apply d_exit
      | apply d_ret
      | with_reducible apply kt_ret
      | with_reducible apply kt_exit
      | with_reducible apply kb_normal
      | with_reducible apply kb_ret
      | with_reducible apply kb_here
      | with_reducible apply kl_ret
      | with_reducible apply kl_exit
      | with_reducible apply kc_ret
      | with_reducible apply kc_exit
      | (with_reducible apply kb_there; (focus rfl))
    refine l_call rfl rfl rfl (by first | (go_simp; done) | (go_simp; rfl)) (HC4.out) ?_
    rintro e w4 ⟨rfl, hk4⟩
    have hx4 := HX.out.keep hk4
    clear c0 c1 c2 f0 f1 f2 HX HC4
    obtain ⟨c0, c1, c2, f0, f1, f2⟩ := blk3 (hx4.blk (i := 0) rfl)
    obtain ⟨G5, hs5, -⟩ := hx4.sees (i := 2) rfl
    have hc5 := rWithout_any w4 G5 A2 _ d2 s.spares a hs5 rfl (by omega)
    have HC5 := Lib.hid hc5
    clear hc5
    have HX := Lib.hid hx4
    clear hx4 hs5
    refine ⟨_, rfl, ?_⟩
    repeat first
      | apply d_seq
      | with_reducible apply kt_normal
      | apply l_nil
      | apply d_region
      | (apply l_off; (focus rfl); (focus rfl))
      | (apply l_val; (focus rfl); (focus rfl); (focus rfl); (focus (go_simp; (try simp (disch := omega) only [wrap_in, wrap_in', wrap_u16, wrap_u8, wrap_u32, wrap_u64, rem_in, quo_in]); first | done | with_reducible rfl | (constructor <;> with_reducible rfl))))
      | (apply l_store; (focus rfl); (focus rfl); (focus rfl); (focus (go_simp; (try simp (disch := omega) only [wrap_in, wrap_in', wrap_u16, wrap_u8, wrap_u32, wrap_u64, rem_in, quo_in]); first | done | with_reducible rfl | (constructor <;> with_reducible rfl))))
      | apply d_block
      | (apply d_true; (focus rfl); (focus rfl))
      | (apply d_false; (focus rfl); (focus rfl))
      | apply d_skip
      | apply d_exit
      | apply d_ret
      | with_reducible apply kt_ret
      | with_reducible apply kt_exit
      | with_reducible apply kb_normal
      | with_reducible apply kb_ret
      | with_reducible apply kb_here
      | with_reducible apply kl_ret
      | with_reducible apply kl_exit
      | with_reducible apply kc_ret
      | with_reducible apply kc_exit
      | (with_reducible apply kb_there; (focus rfl))
    refine l_call rfl rfl rfl (by first | (go_simp; done) | (go_simp; rfl)) (HC5.out) ?_
    rintro e w5 ⟨B5, d5, rfl, hb5, hb5', hy⟩
    have hx5 := HX.out.more hy
    clear c0 c1 c2 f0 f1 f2 HX HC5
    obtain ⟨c0, c1, c2, f0, f1, f2⟩ := blk3 (hx5.blk (i := 0) rfl)
    have hput := hx5.put (i := 0) rfl 1 (.slice B5 (wout s.spares a).length d5)
    unfold rparts at hput
    simp only [List.set_cons_zero, List.cons_append, List.nil_append] at hput
    have hput := (hput).sel [0, 1, 4, 3] (by decide)
    simp only [List.map_cons, List.map_nil, List.getElem?_cons_zero, List.getElem?_cons_succ, Option.getD_some] at hput
    have hput := hput.read (i := 2) rfl
    simp only [List.set_cons_zero, List.set_cons_succ] at hput
    have HXX := Lib.hid hput
    clear hx5 hput
    refine ⟨_, rfl, ?_⟩
    repeat first
      | apply d_seq
      | with_reducible apply kt_normal
      | apply l_nil
      | apply d_region
      | (apply l_off; (focus rfl); (focus rfl))
      | (apply l_val; (focus rfl); (focus rfl); (focus rfl); (focus (go_simp; (try simp (disch := omega) only [wrap_in, wrap_in', wrap_u16, wrap_u8, wrap_u32, wrap_u64, rem_in, quo_in]); first | done | with_reducible rfl | (constructor <;> with_reducible rfl))))
      | (apply l_store; (focus rfl); (focus rfl); (focus rfl); (focus (go_simp; (try simp (disch := omega) only [wrap_in, wrap_in', wrap_u16, wrap_u8, wrap_u32, wrap_u64, rem_in, quo_in]); first | done | with_reducible rfl | (constructor <;> with_reducible rfl))))
      | apply d_block
      | (apply d_true; (focus rfl); (focus rfl))
      | (apply d_false; (focus rfl); (focus rfl))
      | apply d_skip
      | apply d_exit
      | apply d_ret
      | with_reducible apply kt_ret
      | with_reducible apply kt_exit
      | with_reducible apply kb_normal
      | with_reducible apply kb_ret
      | with_reducible apply kb_here
      | with_reducible apply kl_ret
      | with_reducible apply kl_exit
      | with_reducible apply kc_ret
      | with_reducible apply kc_exit
      | (with_reducible apply kb_there; (focus rfl))
    clear c0 c1 c2 f0 f1 f2
    generalize w5.setCell ⟨p, 1, none⟩ (.slice B5 (wout s.spares a).length d5) = w6 at *
    have HX := Lib.hid (show HasF F w w6 [BlkA 0 p #[.slice A1 s.pairs.length d1, .slice B5 (wout s.spares a).length d5, .slice A3 s.brok.length d3] 54, OwnA 0 56 2 (.slice A1 s.pairs.length d1) s.pairs.length (s.pairs.flatMap shc), SeesA 0 1 (.slice B5 (wout s.spares a).length d5) (wout s.spares a).length (ints .u8 (wout s.spares a)), SeesA 0 1 (.slice A3 s.brok.length d3) s.brok.length (ints .u8 s.brok)] from HXX.out)
    clear HXX
    obtain ⟨G6, hs6, -⟩ := HX.out.sees (i := 3) rfl
    have hc6 := rWith_any w6 G6 A3 _ d3 s.brok a hs6 rfl (by omega)
    have HC6 := Lib.hid hc6
    clear hc6
    clear hs6 hy
    refine l_call rfl rfl rfl (by first | (go_simp; done) | (go_simp; rfl)) (HC6.out) ?_
    rintro e w7 ⟨B7, d7, rfl, hb7, hb7', hy⟩
    have hx7 := HX.out.more hy
    obtain ⟨c0, c1, c2, f0, f1, f2⟩ := blk3 (hx7.blk (i := 0) rfl)
    have hput := hx7.put (i := 0) rfl 2 (.slice B7 (wth s.brok a).length d7)
    simp only [List.set_cons_zero, List.cons_append, List.nil_append] at hput
    have hput := (hput).sel [0, 1, 2, 4] (by decide)
    simp only [List.map_cons, List.map_nil, List.getElem?_cons_zero, List.getElem?_cons_succ, Option.getD_some] at hput
    have hput := hput.read (i := 3) rfl
    simp only [List.set_cons_zero, List.set_cons_succ] at hput
    clear hx7
    have HY := Lib.hid hput
    clear hput
    refine ⟨_, rfl, ?_⟩
    repeat first
      | apply d_seq
      | with_reducible apply kt_normal
      | apply l_nil
      | apply d_region
      | (apply l_off; (focus rfl); (focus rfl))
      | (apply l_val; (focus rfl); (focus rfl); (focus rfl); (focus (go_simp; (try simp (disch := omega) only [wrap_in, wrap_in', wrap_u16, wrap_u8, wrap_u32, wrap_u64, rem_in, quo_in]); first | done | with_reducible rfl | (constructor <;> with_reducible rfl))))
      | (apply l_store; (focus rfl); (focus rfl); (focus rfl); (focus (go_simp; (try simp (disch := omega) only [wrap_in, wrap_in', wrap_u16, wrap_u8, wrap_u32, wrap_u64, rem_in, quo_in]); first | done | with_reducible rfl | (constructor <;> with_reducible rfl))))
      | apply d_block
      | (apply d_true; (focus rfl); (focus rfl))
      | (apply d_false; (focus rfl); (focus rfl))
      | apply d_skip
      | apply d_exit
      | apply d_ret
      | with_reducible apply kt_ret
      | with_reducible apply kt_exit
      | with_reducible apply kb_normal
      | with_reducible apply kb_ret
      | with_reducible apply kb_here
      | with_reducible apply kl_ret
      | with_reducible apply kl_exit
      | with_reducible apply kc_ret
      | with_reducible apply kc_exit
      | (with_reducible apply kb_there; (focus rfl))
    refine ⟨rfl, _, (by first | (simp [resultsG, resOne, Try.results15, rho, List.lookup]; done) | (simp [resultsG, resOne, Try.results15, rho, List.lookup]; rfl)), ?_⟩
    refine ⟨rfl, RPRep.back HOK'.out (Lv := .slice A1 s.pairs.length d1) (Sv := .slice B5 (wout s.spares a).length d5) (Bv := .slice B7 (wth s.brok a).length d7) ?_⟩
    unfold rparts
    rw [N2.out, N3.out, N4.out]
    exact HY.out
  have hS := is_spare hok a
  rw [decide_eq_false h1] at hS
  have HHS := Lib.hid hS
  have HIS := Lib.hid (And.intro h1 (And.intro h2 hir))
  clear hS h1 h2 hir hok
  refine d_calls (n := 104) Try.func15 rfl rfl (by simp) [(0, .pointer (some ⟨p, 0, none⟩)), (1, .int .u8 a)] (by simp) ?_
  repeat first
    | apply d_seq
    | with_reducible apply kt_normal
    | apply l_nil
    | apply d_region
    | (apply l_off; (focus rfl); (focus rfl))
    | (apply l_val; (focus rfl); (focus rfl); (focus rfl); (focus (go_simp; (try simp (disch := omega) only [wrap_in, wrap_in', wrap_u16, wrap_u8, wrap_u32, wrap_u64, rem_in, quo_in]); first | done | with_reducible rfl | (constructor <;> with_reducible rfl))))
    | (apply l_store; (focus rfl); (focus rfl); (focus rfl); (focus (go_simp; (try simp (disch := omega) only [wrap_in, wrap_in', wrap_u16, wrap_u8, wrap_u32, wrap_u64, rem_in, quo_in]); first | done | with_reducible rfl | (constructor <;> with_reducible rfl))))
    | apply d_block
    | (apply d_true; (focus rfl); (focus rfl))
    | (apply d_false; (focus rfl); (focus rfl))
    | apply d_skip
    | apply d_exit
    | apply d_ret
    | with_reducible apply kt_ret
    | with_reducible apply kt_exit
    | with_reducible apply kb_normal
    | with_reducible apply kb_ret
    | with_reducible apply kb_here
    | with_reducible apply kl_ret
    | with_reducible apply kl_exit
    | with_reducible apply kc_ret
    | with_reducible apply kc_exit
    | (with_reducible apply kb_there; (focus rfl))
  refine l_call rfl rfl rfl (by first | (go_simp; done) | (go_simp; rfl)) (HC3.out) ?_
  rintro e w3 ⟨rfl, hk3⟩
  have hx3 := HS0.out.keep hk3
  obtain ⟨c0, c1, c2, f0, f1, f2⟩ := blk3 (hx3.blk (i := 0) rfl)
  obtain ⟨G4, hs4, -⟩ := hx3.sees (i := 2) rfl
  have hc4 := rHas_any w3 G4 A2 _ d2 s.spares a hs4 rfl (by omega)
  rw [HHS.out] at hc4
  have HC4 := Lib.hid hc4
  have HK3 := Lib.hid hk3
  clear hc4 hk3
  clear hx3 hs4 HC3
  refine ⟨_, rfl, ?_⟩
  repeat first
    | apply d_seq
    | with_reducible apply kt_normal
    | apply l_nil
    | apply d_region
    | (apply l_off; (focus rfl); (focus rfl))
    | (apply l_val; (focus rfl); (focus rfl); (focus rfl); (focus (go_simp; (try simp (disch := omega) only [wrap_in, wrap_in', wrap_u16, wrap_u8, wrap_u32, wrap_u64, rem_in, quo_in]); first | done | with_reducible rfl | (constructor <;> with_reducible rfl))))
    | (apply l_store; (focus rfl); (focus rfl); (focus rfl); (focus (go_simp; (try simp (disch := omega) only [wrap_in, wrap_in', wrap_u16, wrap_u8, wrap_u32, wrap_u64, rem_in, quo_in]); first | done | with_reducible rfl | (constructor <;> with_reducible rfl))))
    | apply d_block
    | (apply d_true; (focus rfl); (focus rfl))
    | (apply d_false; (focus rfl); (focus rfl))
    | apply d_skip
    | apply d_exit
    | apply d_ret
    | with_reducible apply kt_ret
    | with_reducible apply kt_exit
    | with_reducible apply kb_normal
    | with_reducible apply kb_ret
    | with_reducible apply kb_here
    | with_reducible apply kl_ret
    | with_reducible apply kl_exit
    | with_reducible apply kc_ret
    | with_reducible apply kc_exit
    | (with_reducible apply kb_there; (focus rfl))
  refine l_call rfl rfl rfl (by first | (go_simp; done) | (go_simp; rfl)) (HC4.out) ?_
  rintro e w4 ⟨rfl, hk4⟩
  have hk4 := HK3.out.next hk4
  have hx4 := HS0.out.keep hk4
  clear c0 c1 c2 f0 f1 f2 HC4 HS0 HK3
  obtain ⟨c0, c1, c2, f0, f1, f2⟩ := blk3 (hx4.blk (i := 0) rfl)
  obtain ⟨G5, hs5, -⟩ := hx4.own (i := 1) rfl
  have HX := Lib.hid hx4
  have HK4 := Lib.hid hk4
  have HS5 := Lib.hid hs5
  clear hk4 hs5
  clear hx4
  refine ⟨_, rfl, ?_⟩
  repeat first
    | apply d_seq
    | with_reducible apply kt_normal
    | apply l_nil
    | apply d_region
    | (apply l_off; (focus rfl); (focus rfl))
    | (apply l_val; (focus rfl); (focus rfl); (focus rfl); (focus (go_simp; (try simp (disch := omega) only [wrap_in, wrap_in', wrap_u16, wrap_u8, wrap_u32, wrap_u64, rem_in, quo_in]); first | done | with_reducible rfl | (constructor <;> with_reducible rfl))))
    | (apply l_store; (focus rfl); (focus rfl); (focus rfl); (focus (go_simp; (try simp (disch := omega) only [wrap_in, wrap_in', wrap_u16, wrap_u8, wrap_u32, wrap_u64, rem_in, quo_in]); first | done | with_reducible rfl | (constructor <;> with_reducible rfl))))
    | apply d_block
    | (apply d_true; (focus rfl); (focus rfl))
    | (apply d_false; (focus rfl); (focus rfl))
    | apply d_skip
    | apply d_exit
    | apply d_ret
    | with_reducible apply kt_ret
    | with_reducible apply kt_exit
    | with_reducible apply kb_normal
    | with_reducible apply kb_ret
    | with_reducible apply kb_here
    | with_reducible apply kl_ret
    | with_reducible apply kl_exit
    | with_reducible apply kc_ret
    | with_reducible apply kc_exit
    | (with_reducible apply kb_there; (focus rfl))
  refine d_loop (fun m D wr => ∃ (k : Nat), m = s.pairs.length - k ∧ k ≤ s.pairs.length ∧ D = [(0, .pointer (some ⟨p, 0, none⟩)), (1, .int .u8 a), (8, .int .i64 k)] ∧ wr = w4 ∧ Hid (∀ z ∈ s.pairs.take k, (z.2 == a) = false)) (s.pairs.length) _ (Subl.cons (t := 0) (by decide) rfl (Subl.cons (t := 1) (by decide) rfl (Subl.cons (t := 8) (by decide) rfl (Subl.nil _ _)))) ?_ (fun m D wr hrel => ?_)
  · exact ⟨0, rfl, Nat.zero_le _, rfl, rfl, Lib.hid (by simp)⟩
  · obtain ⟨k, rfl, hk, rfl, rfl, HK⟩ := hrel
    by_cases hlt : k < s.pairs.length
    · obtain ⟨y, hy⟩ : ∃ y, s.pairs[k]? = some y := ⟨_, List.getElem?_eq_getElem hlt⟩
      obtain ⟨g, o, rfl, -, -, d0, e0⟩ := sees_sh HS5.out rfl hy
      by_cases hya : y.2 = a
      · have q1 : (y.2 != a) = false := by simpa using hya
        have hof : s.of? a = some y.1 := by
          rw [← pairs_of HOK.out, find_first hy (by simpa using hya) HK.out]
          rfl
        have hy2 : s.pairs[k]? = some (y.1, a) := by rw [hy, ← hya]
        cases hsp : s.spares with
        | nil =>
          have hfl := fail_full HOK.out hof hsp
          have hl0 : s.spares.length = 0 := by rw [hsp]; rfl
          rw [hfl]
          have HFL := Lib.hid hfl
          have HOF := Lib.hid hof
          have HY := Lib.hid hy
          have HY2 := Lib.hid hy2
          have HSP := Lib.hid hsp
          clear hfl hof hy hy2 hsp
          repeat first
            | apply d_seq
            | with_reducible apply kt_normal
            | apply l_nil
            | apply d_region
            | (apply l_off; (focus rfl); (focus rfl))
            | (apply l_val; (focus rfl); (focus rfl); (focus rfl); (focus (go_simp; (try simp (disch := omega) only [wrap_in, wrap_in', wrap_u16, wrap_u8, wrap_u32, wrap_u64, rem_in, quo_in]); first | done | with_reducible rfl | (constructor <;> with_reducible rfl))))
            | (apply l_store; (focus rfl); (focus rfl); (focus rfl); (focus (go_simp; (try simp (disch := omega) only [wrap_in, wrap_in', wrap_u16, wrap_u8, wrap_u32, wrap_u64, rem_in, quo_in]); first | done | with_reducible rfl | (constructor <;> with_reducible rfl))))
            | apply d_block
            | (apply d_true; (focus rfl); (focus rfl))
            | (apply d_false; (focus rfl); (focus rfl))
            | apply d_skip
            | apply d_exit
            | apply d_ret
            | with_reducible apply kt_ret
            | with_reducible apply kt_exit
            | with_reducible apply kb_normal
            | with_reducible apply kb_ret
            | with_reducible apply kb_here
            | with_reducible apply kl_ret
            | with_reducible apply kl_exit
            | with_reducible apply kc_ret
            | with_reducible apply kc_exit
            | (with_reducible apply kb_there; (focus rfl))
          refine ⟨rfl, _, (by first | (simp [resultsG, resOne, Try.results15, rho, List.lookup]; done) | (simp [resultsG, resOne, Try.results15, rho, List.lookup]; rfl)), ?_⟩
          exact ⟨rfl, SAME.out _ HK4.out⟩
        | cons l0 ls =>
          obtain ⟨n1, n2, n3, n4⟩ := fail_shown HOK.out hof hsp hy2
          have hget := shc_get hy
          have hset := shc_set l0 hy2
          obtain ⟨N, hN⟩ : ∃ N, s.spares.length = N := ⟨_, rfl⟩
          have hN1 : N = ls.length + 1 := by rw [← hN, hsp]; rfl
          have hNz : ((N : Int) == 0) = false := by have : (N : Int) ≠ 0 := by omega
                                                    simpa using this
          have hNz' : ¬ N = 0 := by omega
          have hN0 : 0 < N := by omega
          have hN0' : (0 : Int) < N := by omega
          have hz := HX.out
          unfold rparts at hz
          rw [hsp] at hz
          rw [show (l0 :: ls).length = N by rw [← hsp, hN]] at hz
          rw [hN] at c1 hb2
          obtain ⟨G6, hs6, -⟩ := hz.sees (i := 2) rfl
          obtain ⟨g6, o6, rfl, -, -, d6⟩ := sees_u8 (l := l0 :: ls) (k := 0) hs6 (by rw [hN1]; rfl) rfl
          obtain ⟨A7, hrest, hs7⟩ := hs6.rest (P := Try.prog) Try.underlying22 Try.sizeOf5 1 (by omega)
          rw [n1]
          obtain ⟨g1, c1', e1, -, -, r0, rf, hback⟩ := hz.row (i := 1) rfl hget
          simp only [Value.slice.injEq, Option.some.injEq, Addr.mk.injEq, and_true, true_and] at e1
          obtain ⟨⟨rfl, rfl⟩, rfl⟩ := e1
          have hx8 := (hback (.int .u8 l0) rfl).drew
          rw [hset] at hx8
          simp only [List.set_cons_zero, List.set_cons_succ] at hx8
          simp only [Nat.zero_add] at d0 e0
          rw [Nat.add_zero] at d6
          have hrest1 : ∀ W : World, (Instr.slice 22 (.slice (some ⟨g6, o6, none⟩) N d2) (some (.int .i64 1)) none none).run Try.prog W = .ok (.slice A7 (N - 1) (d2 - 1)) W := hrest
          have hls : ls.length = N - 1 := by omega
          rw [show ((1 : Nat) * 1) = 1 from rfl, show (ints .u8 (l0 :: ls)).drop 1 = ints .u8 ls from rfl] at hs7
          obtain ⟨k0, k1, k2, -⟩ := blk3 (hz.drew.blk (i := 0) rfl)
          have hd6 : wr.drew.cell? ⟨g6, o6, none⟩ = some (.int .u8 l0) := d6
          have HX8 := Lib.hid hx8
          have HLS := Lib.hid (And.intro hls hN1)
          clear hls hN1
          have HOF := Lib.hid hof
          have HY := Lib.hid hy
          have HY2 := Lib.hid hy2
          have HSP := Lib.hid hsp
          have N1 := Lib.hid n1
          have N2 := Lib.hid n2
          have N3 := Lib.hid n3
          have N4 := Lib.hid n4
          have HN := Lib.hid hN
          have HSET := Lib.hid hset
          have HREST1 := Lib.hid hrest1
          have K0 := Lib.hid k0
          have K1 := Lib.hid k1
          have K2 := Lib.hid k2
          clear hof hy hy2 hsp n1 n2 n3 n4 hN hset hrest1 k0 k1 k2
          clear hback hx8 hz hget hs7 hs6 hrest d6
          repeat first
            | apply d_seq
            | with_reducible apply kt_normal
            | apply l_nil
            | apply d_region
            | (apply l_off; (focus rfl); (focus rfl))
            | (apply l_val; (focus rfl); (focus rfl); (focus rfl); (focus (go_simp; (try simp (disch := omega) only [wrap_in, wrap_in', wrap_u16, wrap_u8, wrap_u32, wrap_u64, rem_in, quo_in]); first | done | with_reducible rfl | (constructor <;> with_reducible rfl))))
            | (apply l_store; (focus rfl); (focus rfl); (focus rfl); (focus (go_simp; (try simp (disch := omega) only [wrap_in, wrap_in', wrap_u16, wrap_u8, wrap_u32, wrap_u64, rem_in, quo_in]); first | done | with_reducible rfl | (constructor <;> with_reducible rfl))))
            | apply d_block
            | (apply d_true; (focus rfl); (focus rfl))
            | (apply d_false; (focus rfl); (focus rfl))
            | apply d_skip
            | apply d_exit
            | apply d_ret
            | with_reducible apply kt_ret
            | with_reducible apply kt_exit
            | with_reducible apply kb_normal
            | with_reducible apply kb_ret
            | with_reducible apply kb_here
            | with_reducible apply kl_ret
            | with_reducible apply kl_exit
            | with_reducible apply kc_ret
            | with_reducible apply kc_exit
            | (with_reducible apply kb_there; (focus rfl))
          clear c0 c1 c2 f0 f1 f2 d0 e0
          refine d_draw (true, [([], []), ([0], [0]), ([1], [1]), ([2], [2]), ([], []), ([], []), ([5], [5]), ([6], [6]), ([7], [7]), ([8], [8]), ([9], [9]), ([3, 4, 0, 1, 2, 3, 4, 5, 6, 7, 8, 9, 10], [3, 4]), ([11, 0, 1, 2, 3, 4, 5, 6, 7, 8, 9, 10], [11]), ([12, 10, 0, 1, 2, 3, 4, 5, 6, 7, 8, 9, 10], [10, 12])]) [(0, 0), (0, 1), (0, 2), (0, 3), (0, 4), (0, 5), (0, 6), (0, 7), (0, 8), (0, 9), (0, 10), (0, 11), (0, 12), (2, 13)] [13] (fun W => W.cell? ⟨p, 0, none⟩ = some (.slice (some ⟨g, 0, none⟩) s.pairs.length d1) ∧ W.cell? ⟨p, 1, none⟩ = some (.slice (some ⟨g6, o6, none⟩) N d2) ∧ W.cell? ⟨g6, o6, none⟩ = some (.int .u8 l0)) (by kernel_rfl) (by kernel_rfl) (by kernel_rfl) (by kernel_rfl) ⟨K0.out, K1.out, hd6⟩ ?_
          iterate 13
            first | (apply s_off; (focus rfl); (focus rfl); (focus rfl)) | (apply s_yield; (focus rfl); (focus rfl); (focus rfl); (focus rfl); (focus (intro W hS; obtain ⟨hS1, hS2, hS3⟩ := hS; go_simp; (try simp (disch := omega) only [wrap_in, wrap_in', wrap_u16, wrap_u8, wrap_u32, wrap_u64, rem_in, quo_in]); first | done | with_reducible rfl | (constructor <;> with_reducible rfl))))
          first | (apply s_last; (focus rfl); (focus rfl); (focus rfl); (focus rfl); (focus (go_simp; (try simp (disch := omega) only [wrap_in, wrap_in', wrap_u16, wrap_u8, wrap_u32, wrap_u64, rem_in, quo_in]); first | done | with_reducible rfl | (constructor <;> with_reducible rfl)))) | (apply s_laststore; (focus rfl); (focus rfl); (focus rfl); (focus rfl); (focus (go_simp; (try simp (disch := omega) only [wrap_in, wrap_in', wrap_u16, wrap_u8, wrap_u32, wrap_u64, rem_in, quo_in]); first | done | with_reducible rfl | (constructor <;> with_reducible rfl))))
          refine s_done ?_
          clear r0 rf hd6 K0 K1 K2
          generalize (wr.setCell ⟨g, k * 2 + 1, none⟩ (.int .u8 l0)).drew = w8 at *
          have hx := HX8.out
          obtain ⟨c0, c1, c2, f0, f1, f2⟩ := blk3 (hx.blk (i := 0) rfl)
          obtain ⟨G9, hs9, -⟩ := hx.sees (i := 2) rfl
          have hs9 := hs9.restAt (P := Try.prog) Try.underlying22 Try.sizeOf5 1 (by omega) (HREST1.out wr)
          rw [show ((1 : Nat) * 1) = 1 from rfl, show (ints .u8 (l0 :: ls)).drop 1 = ints .u8 ls from rfl] at hs9
          have hput := hx.restIn (i := 2) rfl Try.underlying22 Try.sizeOf5 1 (by omega) (HREST1.out wr)
          rw [show ((1 : Nat) * 1) = 1 from rfl, show (ints .u8 (l0 :: ls)).drop 1 = ints .u8 ls from rfl] at hput
          simp only [List.set_cons_zero, List.set_cons_succ] at hput
          have hput := hput.put (i := 0) rfl 1 (.slice A7 (N - 1) (d2 - 1))
          simp only [List.set_cons_zero, List.set_cons_succ] at hput
          have HY := Lib.hid hput
          have hrest1 := HREST1.out
          clear hput hx hs9 HX HX8 HREST1
          repeat first
            | apply d_seq
            | with_reducible apply kt_normal
            | apply l_nil
            | apply d_region
            | (apply l_off; (focus rfl); (focus rfl))
            | (apply l_val; (focus rfl); (focus rfl); (focus rfl); (focus (go_simp; (try simp (disch := omega) only [wrap_in, wrap_in', wrap_u16, wrap_u8, wrap_u32, wrap_u64, rem_in, quo_in]); first | done | with_reducible rfl | (constructor <;> with_reducible rfl))))
            | (apply l_store; (focus rfl); (focus rfl); (focus rfl); (focus (go_simp; (try simp (disch := omega) only [wrap_in, wrap_in', wrap_u16, wrap_u8, wrap_u32, wrap_u64, rem_in, quo_in]); first | done | with_reducible rfl | (constructor <;> with_reducible rfl))))
            | apply d_block
            | (apply d_true; (focus rfl); (focus rfl))
            | (apply d_false; (focus rfl); (focus rfl))
            | apply d_skip
            | apply d_exit
            | apply d_ret
            | with_reducible apply kt_ret
            | with_reducible apply kt_exit
            | with_reducible apply kb_normal
            | with_reducible apply kb_ret
            | with_reducible apply kb_here
            | with_reducible apply kl_ret
            | with_reducible apply kl_exit
            | with_reducible apply kc_ret
            | with_reducible apply kc_exit
            | (with_reducible apply kb_there; (focus rfl))
          clear c0 c1 c2 f0 f1 f2 hrest1
          generalize w8.setCell ⟨p, 1, none⟩ (.slice A7 (N - 1) (d2 - 1)) = w9 at *
          have HX := Lib.hid (show HasF F w w9 [BlkA 0 p #[.slice (some ⟨g, 0, none⟩) s.pairs.length d1, .slice A7 (N - 1) (d2 - 1), .slice A3 s.brok.length d3] 54, OwnA 0 56 2 (.slice (some ⟨g, 0, none⟩) s.pairs.length d1) s.pairs.length ((s.pairs.set k (y.1, l0)).flatMap shc), SeesA 0 1 (.slice A7 (N - 1) (d2 - 1)) (N - 1) (ints .u8 ls), SeesA 0 1 (.slice A3 s.brok.length d3) s.brok.length (ints .u8 s.brok)] from HY.out)
          clear HY
          obtain ⟨G6, hs6, -⟩ := HX.out.sees (i := 3) rfl
          have hc6 := rWith_any w9 G6 A3 _ d3 s.brok a hs6 rfl (by omega)
          have HC6 := Lib.hid hc6
          clear hc6
          clear hs6
          refine l_call rfl rfl rfl (by first | (go_simp; done) | (go_simp; rfl)) (HC6.out) ?_
          rintro e w10 ⟨B7, d7, rfl, hb7, hb7', hy⟩
          have hx7 := HX.out.more hy
          obtain ⟨c0, c1, c2, f0, f1, f2⟩ := blk3 (hx7.blk (i := 0) rfl)
          have hput := hx7.put (i := 0) rfl 2 (.slice B7 (wth s.brok a).length d7)
          simp only [List.set_cons_zero, List.cons_append, List.nil_append] at hput
          have hput := (hput).sel [0, 1, 2, 4] (by decide)
          simp only [List.map_cons, List.map_nil, List.getElem?_cons_zero, List.getElem?_cons_succ, Option.getD_some] at hput
          have hput := hput.read (i := 3) rfl
          simp only [List.set_cons_zero, List.set_cons_succ] at hput
          have HY := Lib.hid hput
          clear hx7 hput hy HX HC6
          refine ⟨_, rfl, ?_⟩
          repeat first
            | ((fail_if_success (with_reducible refine d_at_region (id := 18) ?_)); apply d_seq)
            | with_reducible apply kt_normal
            | apply l_nil
            | apply d_region
            | (apply l_off; (focus rfl); (focus rfl))
            | (apply l_val; (focus rfl); (focus rfl); (focus rfl); (focus (go_simp; (try simp (disch := omega) only [wrap_in, wrap_in', wrap_u16, wrap_u8, wrap_u32, wrap_u64, rem_in, quo_in]); first | done | with_reducible rfl | (constructor <;> with_reducible rfl))))
            | (apply l_store; (focus rfl); (focus rfl); (focus rfl); (focus (go_simp; (try simp (disch := omega) only [wrap_in, wrap_in', wrap_u16, wrap_u8, wrap_u32, wrap_u64, rem_in, quo_in]); first | done | with_reducible rfl | (constructor <;> with_reducible rfl))))
            | apply d_block
            | (apply d_true; (focus rfl); (focus rfl))
            | (apply d_false; (focus rfl); (focus rfl))
            | apply d_skip
            | apply d_exit
            | apply d_ret
            | with_reducible apply kt_ret
            | with_reducible apply kt_exit
            | with_reducible apply kb_normal
            | with_reducible apply kb_ret
            | with_reducible apply kb_here
            | with_reducible apply kl_ret
            | with_reducible apply kl_exit
            | with_reducible apply kc_ret
            | with_reducible apply kc_exit
            | (with_reducible apply kb_there; (focus rfl))
          clear c0 c1 c2 f0 f1 f2
          generalize w10.setCell ⟨p, 2, none⟩ (.slice B7 (wth s.brok a).length d7) = w11 at *
          have HX := Lib.hid (show HasF F w w11 [BlkA 0 p #[.slice (some ⟨g, 0, none⟩) s.pairs.length d1, .slice A7 (N - 1) (d2 - 1), .slice B7 (wth s.brok a).length d7] 54, OwnA 0 56 2 (.slice (some ⟨g, 0, none⟩) s.pairs.length d1) s.pairs.length ((s.pairs.set k (y.1, l0)).flatMap shc), SeesA 0 1 (.slice A7 (N - 1) (d2 - 1)) (N - 1) (ints .u8 ls), SeesA 0 1 (.slice B7 (wth s.brok a).length d7) (wth s.brok a).length (ints .u8 (wth s.brok a))] from HY.out)
          clear HY
          obtain ⟨c0, c1, c2, -⟩ := blk3 (HX.out.blk (i := 0) rfl)
          obtain ⟨g', c', e', -, -, d0, -, -⟩ := HX.out.row (i := 1) rfl (shc_get (l := s.pairs.set k (y.1, l0)) (k := k) (List.getElem?_set_self hlt))
          simp only [Value.slice.injEq, Option.some.injEq, Addr.mk.injEq, and_true, true_and] at e'
          obtain ⟨rfl, rfl⟩ := e'
          repeat first
            | apply d_seq
            | with_reducible apply kt_normal
            | apply l_nil
            | apply d_region
            | (apply l_off; (focus rfl); (focus rfl))
            | (apply l_val; (focus rfl); (focus rfl); (focus rfl); (focus (go_simp; (try simp (disch := omega) only [wrap_in, wrap_in', wrap_u16, wrap_u8, wrap_u32, wrap_u64, rem_in, quo_in]); first | done | with_reducible rfl | (constructor <;> with_reducible rfl))))
            | (apply l_store; (focus rfl); (focus rfl); (focus rfl); (focus (go_simp; (try simp (disch := omega) only [wrap_in, wrap_in', wrap_u16, wrap_u8, wrap_u32, wrap_u64, rem_in, quo_in]); first | done | with_reducible rfl | (constructor <;> with_reducible rfl))))
            | apply d_block
            | (apply d_true; (focus rfl); (focus rfl))
            | (apply d_false; (focus rfl); (focus rfl))
            | apply d_skip
            | apply d_exit
            | apply d_ret
            | with_reducible apply kt_ret
            | with_reducible apply kt_exit
            | with_reducible apply kb_normal
            | with_reducible apply kb_ret
            | with_reducible apply kb_here
            | with_reducible apply kl_ret
            | with_reducible apply kl_exit
            | with_reducible apply kc_ret
            | with_reducible apply kc_exit
            | (with_reducible apply kb_there; (focus rfl))
          refine ⟨rfl, _, (by first | (simp [resultsG, resOne, Try.results15, rho, List.lookup]; done) | (simp [resultsG, resOne, Try.results15, rho, List.lookup]; rfl)), ?_⟩
          refine ⟨rfl, RPRep.back HOK'.out (Lv := .slice (some ⟨g, 0, none⟩) s.pairs.length d1) (Sv := .slice A7 (N - 1) (d2 - 1)) (Bv := .slice B7 (wth s.brok a).length d7) ?_⟩
          unfold rparts
          rw [N2.out, N3.out, N4.out, List.length_set, HLS.out.1]
          exact HX.out
      · have q1 : (y.2 != a) = true := by simpa using hya
        have hya' : (y.2 == a) = false := by simpa using hya
        have HY := Lib.hid hy
        clear hy
        have HB := Lib.hid hya'
        repeat first
          | apply d_seq
          | with_reducible apply kt_normal
          | apply l_nil
          | apply d_region
          | (apply l_off; (focus rfl); (focus rfl))
          | (apply l_val; (focus rfl); (focus rfl); (focus rfl); (focus (go_simp; (try simp (disch := omega) only [wrap_in, wrap_in', wrap_u16, wrap_u8, wrap_u32, wrap_u64, rem_in, quo_in]); first | done | with_reducible rfl | (constructor <;> with_reducible rfl))))
          | (apply l_store; (focus rfl); (focus rfl); (focus rfl); (focus (go_simp; (try simp (disch := omega) only [wrap_in, wrap_in', wrap_u16, wrap_u8, wrap_u32, wrap_u64, rem_in, quo_in]); first | done | with_reducible rfl | (constructor <;> with_reducible rfl))))
          | apply d_block
          | (apply d_true; (focus rfl); (focus rfl))
          | (apply d_false; (focus rfl); (focus rfl))
          | apply d_skip
          | apply d_exit
          | apply d_ret
          | with_reducible apply kt_ret
          | with_reducible apply kt_exit
          | with_reducible apply kb_normal
          | with_reducible apply kb_ret
          | with_reducible apply kb_here
          | with_reducible apply kl_ret
          | with_reducible apply kl_exit
          | with_reducible apply kc_ret
          | with_reducible apply kc_exit
          | (with_reducible apply kb_there; (focus rfl))
        refine kl_normal (s.pairs.length - (k + 1)) _ (by omega) (Subl.cons (t := 0) (by decide) rfl (Subl.cons (t := 1) (by decide) rfl (Subl.cons (t := 8) (by decide) rfl (Subl.nil _ _)))) ?_
        exact ⟨k + 1, rfl, by omega, rfl, rfl, Lib.hid (take_snoc_all HY.out HB.out HK.out)⟩
    · have hk' : k = s.pairs.length := by omega
      have hno : s.of? a = none := by
        have := HK.out
        rw [hk', List.take_length] at this
        rw [← pairs_of HOK.out, List.find?_eq_none.2 (fun z hz => by simpa using this z hz)]
        rfl
      have h0 : s.is a = 0 := by
        have := PS.of_isnt HOK.out hno
        have := HIS.out
        omega
      have e : s.fail a = (s, 0, 6) := by unfold PS.fail; rw [if_pos h0]
      rw [e]
      clear e hno h0
      repeat first
        | apply d_seq
        | with_reducible apply kt_normal
        | apply l_nil
        | apply d_region
        | (apply l_off; (focus rfl); (focus rfl))
        | (apply l_val; (focus rfl); (focus rfl); (focus rfl); (focus (go_simp; (try simp (disch := omega) only [wrap_in, wrap_in', wrap_u16, wrap_u8, wrap_u32, wrap_u64, rem_in, quo_in]); first | done | with_reducible rfl | (constructor <;> with_reducible rfl))))
        | (apply l_store; (focus rfl); (focus rfl); (focus rfl); (focus (go_simp; (try simp (disch := omega) only [wrap_in, wrap_in', wrap_u16, wrap_u8, wrap_u32, wrap_u64, rem_in, quo_in]); first | done | with_reducible rfl | (constructor <;> with_reducible rfl))))
        | apply d_block
        | (apply d_true; (focus rfl); (focus rfl))
        | (apply d_false; (focus rfl); (focus rfl))
        | apply d_skip
        | apply d_exit
        | apply d_ret
        | with_reducible apply kt_ret
        | with_reducible apply kt_exit
        | with_reducible apply kb_normal
        | with_reducible apply kb_ret
        | with_reducible apply kb_here
        | with_reducible apply kl_ret
        | with_reducible apply kl_exit
        | with_reducible apply kc_ret
        | with_reducible apply kc_exit
        | (with_reducible apply kb_there; (focus rfl))
      refine ⟨rfl, _, (by first | (simp [resultsG, resOne, Try.results15, rho, List.lookup]; done) | (simp [resultsG, resOne, Try.results15, rho, List.lookup]; rfl)), ?_⟩
      exact ⟨rfl, SAME.out _ HK4.out⟩
end Go.Proofs.Ytbcjmgocdplfnaa
