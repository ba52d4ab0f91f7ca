import Derived.Test.YtkjcmnhhgnlaeaaLedR3
namespace Go.Proofs.Ytkjcmnhhgnlaeaa
set_option linter.unusedVariables false
set_option linter.unusedSimpArgs false
attribute [local go_sem] rho_const rho_func rho_hit rho_miss
open Go.RowKit
/-! Do. -/
theorem Try.infoDd : (Try.prog.info? 73).map (fun i => (i.zero, i.size, i.bytes)) = some (some (.agg #[.int .i64 0, .int .u32 0, .int .u16 0, .int .i64 0]), 4, 24) := by kernel_rfl
theorem appF_dd {F : Nat → Prop} {w0 w : World} {L : List (Asrt 0)} (H : HasF F w0 w L) {k n m : Nat} {v x : Value} {xs ys : List Dd} (hi : L[k]? = some (OwnA 0 73 4 v n (xs.flatMap Dd.cs))) {G : Nat → Prop} (hx : SeesIn w G 4 x m (ys.flatMap Dd.cs)) (hm : n + m ≤ 1000) :
    ∃ A cap w', (Builtin.append_ #[28, 28] 28 #[v, x]).run Try.prog w = .ok (.slice A (n + m) cap) w' ∧ n + m ≤ cap ∧ cap ≤ 9223372036854775807 ∧
      HasF F w0 w' (L.set k (OwnA 0 73 4 (.slice A (n + m) cap) (n + m) ((xs ++ ys).flatMap Dd.cs))) := by
  obtain ⟨i0, hi0, hz0, hz1, hz2⟩ := info_parts Try.infoDd
  have := H.app (P := Try.prog) hi hx 28 i0 _ 24 Try.underlying28 hi0 hz0 hz1 hz2 rfl (by decide) (by unfold maxLen; omega) (by omega) 28
  rw [List.flatMap_append]
  exact this
theorem run_d0 (w : World) : (Instr.buildSlice 28 0 #[]).run Try.prog w = .ok (.slice (some ⟨w.heap.size, 0, none⟩) 0 0) (w.alloc (.cells #[] 73)) := by kernel_rfl
theorem run_d1 (w : World) (a b c d : Int) : (Instr.buildSlice 28 1 #[(0, .agg #[.int .i64 a, .int .u32 b, .int .u16 c, .int .i64 d])]).run Try.prog w = .ok (.slice (some ⟨w.heap.size, 0, none⟩) 1 1) (w.alloc (.cells #[.int .i64 a, .int .u32 b, .int .u16 c, .int .i64 d] 73)) := by kernel_rfl
theorem RLRep.back {w : World} {F : Nat → Prop} {w0 : World} {p : Nat} {d : RL} {xs : List (Int × Value × List Ln)} {ds : List Dd} (hd : d.okay) {lv dv : Value} (hxs : xs.map (fun x => (x.1, x.2.2)) = d.os) (hds : ds = d.ds) (H : HasF F w0 w (rlparts p xs ds lv dv)) : Keep F w0 w ∧ RLRep w (fresh F w0 w) p d := ⟨H.old, hd, xs, lv, dv, hxs, by subst hds; exact H.parts⟩
set_option maxRecDepth 100000 in
set_option maxHeartbeats 4000000 in
theorem rDo_any (p : Nat) (d : RL) (kk : Nat) (id it q : Int) (F : Nat → Prop) (w : World) (h : RLRep w F p d) (hkk : kk ≤ 2) (hl : d.ds.length ≤ 190) (hd' : (d.deed kk id it q).1.okay) :
    Calls Try.prog 16 #[.pointer (some ⟨p, 0, none⟩), .int .i64 kk, .int .u32 id, .int .u16 it, .int .i64 q] w fun e w' => e = .returned (.int .i64 (d.deed kk id it q).2) ∧ Keep F w w' ∧ RLRep w' (fresh F w w') p (d.deed kk id it q).1 := by
  have hc := rRows_any p d id F w h (by omega)
  have hbd : ∀ (k : Nat) (r : Rw), (d.rows id)[k]? = some r → (1 ≤ r.wanted ∧ r.wanted ≤ 9999) ∧ (0 ≤ r.picked ∧ r.picked ≤ 1999800) ∧ (0 ≤ r.short ∧ r.short ≤ 1999800) ∧ (0 ≤ r.put ∧ r.put ≤ 1999800) := fun k r hr => row_bound h.1 (by omega) (List.mem_of_getElem? hr)
  have same : ∀ w', Keep none_ w w' → Keep F w w' ∧ RLRep w' (fresh F w w') p d := fun w' hk => ⟨hk.none, h.move hk.size (fun k hF hl => ⟨.inl hF, hk.block k hl (fun c => c)⟩)⟩
  have HH := Lib.hid h
  cases hg : d.ls.get id with
  | none =>
    have e : d.deed kk id it q = (d, 6) := by unfold RL.deed; rw [hg]
    rw [e]
    rw [hg] at hc
    have HC := Lib.hid hc
    have SAME := Lib.hid same
    clear hc same
    clear hbd h hd' e
    refine d_calls (n := 84) Try.func16 rfl rfl (by simp) [(0, .pointer (some ⟨p, 0, none⟩)), (1, .int .i64 kk), (2, .int .u32 id), (3, .int .u16 it), (4, .int .i64 q)] (by simp) ?_
    repeat first
      | apply d_seq
      | with_reducible apply kt_normal
      | apply l_nil
      | apply d_region
      | (apply l_off; (focus rfl); (focus rfl))
      | (apply l_val; (focus rfl); (focus rfl); (focus rfl); (focus (go_simp; (try simp (disch := omega) only [wrap_in, wrap_in', wrap_u16, wrap_u8, wrap_u32, wrap_u64, rem_in, quo_in]); first | done | with_reducible rfl | (constructor <;> with_reducible rfl))))
      | (apply l_store; (focus rfl); (focus rfl); (focus rfl); (focus (go_simp; (try simp (disch := omega) only [wrap_in, wrap_in', wrap_u16, wrap_u8, wrap_u32, wrap_u64, rem_in, quo_in]); first | done | with_reducible rfl | (constructor <;> with_reducible rfl))))
      | apply d_block
      | (apply d_true; (focus rfl); (focus rfl))
      | (apply d_false; (focus rfl); (focus rfl))
      | apply d_skip
      | apply d_exit
      | apply d_ret
      | with_reducible apply kt_ret
      | with_reducible apply kt_exit
      | with_reducible apply kb_normal
      | with_reducible apply kb_ret
      | with_reducible apply kb_here
      | with_reducible apply kl_ret
      | with_reducible apply kl_exit
      | with_reducible apply kc_ret
      | with_reducible apply kc_exit
      | (with_reducible apply kb_there; (focus rfl))
    refine l_call rfl rfl rfl (by first | (go_simp; done) | (go_simp; rfl)) (HC.out) ?_
    rintro e w2 ⟨A, c, rfl, h1, h2, hx⟩
    have HX := Lib.hid hx
    clear hx
    refine ⟨_, rfl, ?_⟩
    repeat first
      | apply d_seq
      | with_reducible apply kt_normal
      | apply l_nil
      | apply d_region
      | (apply l_off; (focus rfl); (focus rfl))
      | (apply l_val; (focus rfl); (focus rfl); (focus rfl); (focus (go_simp; (try simp (disch := omega) only [wrap_in, wrap_in', wrap_u16, wrap_u8, wrap_u32, wrap_u64, rem_in, quo_in]); first | done | with_reducible rfl | (constructor <;> with_reducible rfl))))
      | (apply l_store; (focus rfl); (focus rfl); (focus rfl); (focus (go_simp; (try simp (disch := omega) only [wrap_in, wrap_in', wrap_u16, wrap_u8, wrap_u32, wrap_u64, rem_in, quo_in]); first | done | with_reducible rfl | (constructor <;> with_reducible rfl))))
      | apply d_block
      | (apply d_true; (focus rfl); (focus rfl))
      | (apply d_false; (focus rfl); (focus rfl))
      | apply d_skip
      | apply d_exit
      | apply d_ret
      | with_reducible apply kt_ret
      | with_reducible apply kt_exit
      | with_reducible apply kb_normal
      | with_reducible apply kb_ret
      | with_reducible apply kb_here
      | with_reducible apply kl_ret
      | with_reducible apply kl_exit
      | with_reducible apply kc_ret
      | with_reducible apply kc_exit
      | (with_reducible apply kb_there; (focus rfl))
    refine ⟨rfl, _, (by first | (simp [resultsG, resOne, Try.results16, rho, List.lookup]; done) | (simp [resultsG, resOne, Try.results16, rho, List.lookup]; rfl)), ?_⟩
    exact ⟨rfl, SAME.out _ HX.out.old⟩
  | some rs =>
    have hrs : d.rows id = rs := by unfold RL.rows; rw [hg]; rfl
    rw [hrs] at hc hbd
    rw [hg] at hc
    have hde : d.deed kk id it q = match rs.find? (fun r => r.item == it) with
      | none => (d, 11)
      | some r => if noRoom kk r q = true then (d, 10) else (⟨d.os, d.ds ++ [⟨kk, id, it, q⟩]⟩, 0) := by unfold RL.deed; rw [hg]; rfl
    have HC := Lib.hid hc
    have HBD := Lib.hid hbd
    have SAME := Lib.hid same
    have HDE := Lib.hid hde
    have HD' := Lib.hid hd'
    clear hc hbd same hde hd'
    clear h hg hrs
    refine d_calls (n := 84) Try.func16 rfl rfl (by simp) [(0, .pointer (some ⟨p, 0, none⟩)), (1, .int .i64 kk), (2, .int .u32 id), (3, .int .u16 it), (4, .int .i64 q)] (by simp) ?_
    repeat first
      | apply d_seq
      | with_reducible apply kt_normal
      | apply l_nil
      | apply d_region
      | (apply l_off; (focus rfl); (focus rfl))
      | (apply l_val; (focus rfl); (focus rfl); (focus rfl); (focus (go_simp; (try simp (disch := omega) only [wrap_in, wrap_in', wrap_u16, wrap_u8, wrap_u32, wrap_u64, rem_in, quo_in]); first | done | with_reducible rfl | (constructor <;> with_reducible rfl))))
      | (apply l_store; (focus rfl); (focus rfl); (focus rfl); (focus (go_simp; (try simp (disch := omega) only [wrap_in, wrap_in', wrap_u16, wrap_u8, wrap_u32, wrap_u64, rem_in, quo_in]); first | done | with_reducible rfl | (constructor <;> with_reducible rfl))))
      | apply d_block
      | (apply d_true; (focus rfl); (focus rfl))
      | (apply d_false; (focus rfl); (focus rfl))
      | apply d_skip
      | apply d_exit
      | apply d_ret
      | with_reducible apply kt_ret
      | with_reducible apply kt_exit
      | with_reducible apply kb_normal
      | with_reducible apply kb_ret
      | with_reducible apply kb_here
      | with_reducible apply kl_ret
      | with_reducible apply kl_exit
      | with_reducible apply kc_ret
      | with_reducible apply kc_exit
      | (with_reducible apply kb_there; (focus rfl))
    refine l_call rfl rfl rfl (by first | (go_simp; done) | (go_simp; rfl)) (HC.out) ?_
    rintro e w2 ⟨A, c, rfl, h1, h2, hx⟩
    have HX := Lib.hid hx
    clear hx
    refine ⟨_, rfl, ?_⟩
    repeat first
      | apply d_seq
      | with_reducible apply kt_normal
      | apply l_nil
      | apply d_region
      | (apply l_off; (focus rfl); (focus rfl))
      | (apply l_val; (focus rfl); (focus rfl); (focus rfl); (focus (go_simp; (try simp (disch := omega) only [wrap_in, wrap_in', wrap_u16, wrap_u8, wrap_u32, wrap_u64, rem_in, quo_in]); first | done | with_reducible rfl | (constructor <;> with_reducible rfl))))
      | (apply l_store; (focus rfl); (focus rfl); (focus rfl); (focus (go_simp; (try simp (disch := omega) only [wrap_in, wrap_in', wrap_u16, wrap_u8, wrap_u32, wrap_u64, rem_in, quo_in]); first | done | with_reducible rfl | (constructor <;> with_reducible rfl))))
      | apply d_block
      | (apply d_true; (focus rfl); (focus rfl))
      | (apply d_false; (focus rfl); (focus rfl))
      | apply d_skip
      | apply d_exit
      | apply d_ret
      | with_reducible apply kt_ret
      | with_reducible apply kt_exit
      | with_reducible apply kb_normal
      | with_reducible apply kb_ret
      | with_reducible apply kb_here
      | with_reducible apply kl_ret
      | with_reducible apply kl_exit
      | with_reducible apply kc_ret
      | with_reducible apply kc_exit
      | (with_reducible apply kb_there; (focus rfl))
    refine d_loop (fun m D wr => ∃ (k : Nat), m = rs.length - k ∧ k ≤ rs.length ∧ D = [(0, .pointer (some ⟨p, 0, none⟩)), (1, .int .i64 kk), (2, .int .u32 id), (3, .int .u16 it), (4, .int .i64 q), (11, .slice A rs.length c), (13, .int .i64 k)] ∧ Hid (Keep none_ w2 wr) ∧ Hid (∀ z ∈ rs.take k, (z.item == it) = false)) (rs.length) _ (Subl.cons (t := 0) (by decide) rfl (Subl.cons (t := 1) (by decide) rfl (Subl.cons (t := 2) (by decide) rfl (Subl.cons (t := 3) (by decide) rfl (Subl.cons (t := 4) (by decide) rfl (Subl.cons (t := 11) (by decide) rfl (Subl.cons (t := 13) (by decide) rfl (Subl.nil _ _)))))))) ?_ (fun m D wr hrel => ?_)
    · exact ⟨0, rfl, Nat.zero_le _, rfl, Lib.hid (Keep.refl _ _), Lib.hid (by simp)⟩
    · obtain ⟨k, rfl, hk, rfl, HK, HF⟩ := hrel
      by_cases hlt : k < rs.length
      · obtain ⟨r, hr⟩ : ∃ r, rs[k]? = some r := ⟨_, List.getElem?_eq_getElem hlt⟩
        obtain ⟨G, hs, -⟩ := (HX.out.keep HK.out).own (i := 0) rfl
        obtain ⟨g, o, rfl, -, -, d0, d1, d2, d3, d4⟩ := sees_rw hs rfl hr
        have hbr := HBD.out k r hr
        have hy := (HasF.nil HK.out).box #[.int .u16 r.item, .int .i64 r.wanted, .int .i64 r.picked, .int .i64 r.short, .int .i64 r.put] 53
        obtain ⟨x0, x1, x2, x3, x4, -⟩ := blk5 (hy.blk (i := 0) rfl)
        have hk2 := hy.old
        have HK2 := Lib.hid hk2
        clear hk2
        clear hs hy
        by_cases hit : it = r.item
        · subst hit
          have hq0 : (r.item != r.item) = false := by simp
          have hf := find_first' hr (show (r.item == r.item) = true by simp) HF.out
          have hde : d.deed kk id r.item q = if noRoom kk r q = true then (d, 10) else (⟨d.os, d.ds ++ [⟨kk, id, r.item, q⟩]⟩, 0) := by rw [HDE.out, hf]
          have hnr : noRoom kk r q = (decide (q < 1) || ((decide ((kk : Int) < 2) && decide (r.wanted - r.picked - r.short < q)) || ((kk : Int) == 2 && decide (r.picked - r.put < q)))) := rfl
          have hd' := HD'.out
          rw [hde] at hd' ⊢
          clear hf hde
          have HR := Lib.hid hr
          clear hr
          repeat first
            | ((fail_if_success (with_reducible refine d_at_region (id := 9) ?_)); apply d_seq)
            | with_reducible apply kt_normal
            | apply l_nil
            | apply d_region
            | (apply l_off; (focus rfl); (focus rfl))
            | (apply l_val; (focus rfl); (focus rfl); (focus rfl); (focus (go_simp; (try simp (disch := omega) only [wrap_in, wrap_in', wrap_u16, wrap_u8, wrap_u32, wrap_u64, rem_in, quo_in]); first | done | with_reducible rfl | (constructor <;> with_reducible rfl))))
            | (apply l_store; (focus rfl); (focus rfl); (focus rfl); (focus (go_simp; (try simp (disch := omega) only [wrap_in, wrap_in', wrap_u16, wrap_u8, wrap_u32, wrap_u64, rem_in, quo_in]); first | done | with_reducible rfl | (constructor <;> with_reducible rfl))))
            | apply d_block
            | (apply d_true; (focus rfl); (focus rfl))
            | (apply d_false; (focus rfl); (focus rfl))
            | apply d_skip
            | apply d_exit
            | apply d_ret
            | with_reducible apply kt_ret
            | with_reducible apply kt_exit
            | with_reducible apply kb_normal
            | with_reducible apply kb_ret
            | with_reducible apply kb_here
            | with_reducible apply kl_ret
            | with_reducible apply kl_exit
            | with_reducible apply kc_ret
            | with_reducible apply kc_exit
            | (with_reducible apply kb_there; (focus rfl))
          clear d0 d1 d2 d3 d4 x0
          generalize wr.alloc (.cells #[.int .u16 r.item, .int .i64 r.wanted, .int .i64 r.picked, .int .i64 r.short, .int .i64 r.put] 53) = wy at *
          generalize wr.heap.size = xb at *
          obtain ⟨n0, hn0⟩ : ∃ n0, noRoom kk r q = n0 := ⟨_, rfl⟩
          rw [hn0] at hnr hd' ⊢
          have hd' : n0 = false → RL.okay ⟨d.os, d.ds ++ [⟨kk, id, r.item, q⟩]⟩ := fun c => by rw [c] at hd'; simpa using hd'
          have HD' := Lib.hid hd'
          clear hd'
          refine d_join (fun D wr => D = [(0, .pointer (some ⟨p, 0, none⟩)), (1, .int .i64 kk), (2, .int .u32 id), (3, .int .u16 r.item), (4, .int .i64 q)] ∧ wr = wy ∧ n0 = false) ?_ (fun D wr hcut => ?_)
          · obtain ⟨b1, hb1⟩ : ∃ b, decide (q < 1) = b := ⟨_, rfl⟩
            rw [hb1] at hnr
            cases b1 with
            | true =>
              rw [Bool.true_or] at hnr
              subst hnr
              repeat first
                | apply d_seq
                | with_reducible apply kt_normal
                | apply l_nil
                | apply d_region
                | (apply l_off; (focus rfl); (focus rfl))
                | (apply l_val; (focus rfl); (focus rfl); (focus rfl); (focus (go_simp; (try simp (disch := omega) only [wrap_in, wrap_in', wrap_u16, wrap_u8, wrap_u32, wrap_u64, rem_in, quo_in]); first | done | with_reducible rfl | (constructor <;> with_reducible rfl))))
                | (apply l_store; (focus rfl); (focus rfl); (focus rfl); (focus (go_simp; (try simp (disch := omega) only [wrap_in, wrap_in', wrap_u16, wrap_u8, wrap_u32, wrap_u64, rem_in, quo_in]); first | done | with_reducible rfl | (constructor <;> with_reducible rfl))))
                | apply d_block
                | (apply d_true; (focus rfl); (focus rfl))
                | (apply d_false; (focus rfl); (focus rfl))
                | apply d_skip
                | apply d_exit
                | apply d_ret
                | with_reducible apply kt_ret
                | with_reducible apply kt_exit
                | with_reducible apply kb_normal
                | with_reducible apply kb_ret
                | with_reducible apply kb_here
                | with_reducible apply kl_ret
                | with_reducible apply kl_exit
                | with_reducible apply kc_ret
                | with_reducible apply kc_exit
                | (with_reducible apply kb_there; (focus rfl))
              refine ⟨rfl, _, (by first | (simp [resultsG, resOne, Try.results16, rho, List.lookup]; done) | (simp [resultsG, resOne, Try.results16, rho, List.lookup]; rfl)), ?_⟩
              exact ⟨rfl, SAME.out _ (HX.out.old.next HK2.out)⟩
            | false =>
              rw [Bool.false_or] at hnr
              rcases (by omega : kk = 0 ∨ kk = 1 ∨ kk = 2) with e | e | e
              · subst e
                obtain ⟨b3, hb3⟩ : ∃ b, decide (r.wanted - r.picked - r.short < q) = b := ⟨_, rfl⟩
                have hb3' : decide (q > r.wanted - r.picked - r.short) = b3 := hb3
                rw [show (decide (((0 : Nat) : Int) < 2)) = true from rfl, show (((0 : Nat) : Int) == 2) = false from rfl, hb3] at hnr
                simp only [Bool.true_and, Bool.false_and, Bool.or_false] at hnr
                cases b3 with
                | true =>
                  subst hnr
                  repeat first
                    | apply d_seq
                    | with_reducible apply kt_normal
                    | apply l_nil
                    | apply d_region
                    | (apply l_off; (focus rfl); (focus rfl))
                    | (apply l_val; (focus rfl); (focus rfl); (focus rfl); (focus (go_simp; (try simp (disch := omega) only [wrap_in, wrap_in', wrap_u16, wrap_u8, wrap_u32, wrap_u64, rem_in, quo_in]); first | done | with_reducible rfl | (constructor <;> with_reducible rfl))))
                    | (apply l_store; (focus rfl); (focus rfl); (focus rfl); (focus (go_simp; (try simp (disch := omega) only [wrap_in, wrap_in', wrap_u16, wrap_u8, wrap_u32, wrap_u64, rem_in, quo_in]); first | done | with_reducible rfl | (constructor <;> with_reducible rfl))))
                    | apply d_block
                    | (apply d_true; (focus rfl); (focus rfl))
                    | (apply d_false; (focus rfl); (focus rfl))
                    | apply d_skip
                    | apply d_exit
                    | apply d_ret
                    | with_reducible apply kt_ret
                    | with_reducible apply kt_exit
                    | with_reducible apply kb_normal
                    | with_reducible apply kb_ret
                    | with_reducible apply kb_here
                    | with_reducible apply kl_ret
                    | with_reducible apply kl_exit
                    | with_reducible apply kc_ret
                    | with_reducible apply kc_exit
                    | (with_reducible apply kb_there; (focus rfl))
                  refine ⟨rfl, _, (by first | (simp [resultsG, resOne, Try.results16, rho, List.lookup]; done) | (simp [resultsG, resOne, Try.results16, rho, List.lookup]; rfl)), ?_⟩
                  exact ⟨rfl, SAME.out _ (HX.out.old.next HK2.out)⟩
                | false =>
                  repeat first
                    | apply d_seq
                    | with_reducible apply kt_normal
                    | apply l_nil
                    | apply d_region
                    | (apply l_off; (focus rfl); (focus rfl))
                    | (apply l_val; (focus rfl); (focus rfl); (focus rfl); (focus (go_simp; (try simp (disch := omega) only [wrap_in, wrap_in', wrap_u16, wrap_u8, wrap_u32, wrap_u64, rem_in, quo_in]); first | done | with_reducible rfl | (constructor <;> with_reducible rfl))))
                    | (apply l_store; (focus rfl); (focus rfl); (focus rfl); (focus (go_simp; (try simp (disch := omega) only [wrap_in, wrap_in', wrap_u16, wrap_u8, wrap_u32, wrap_u64, rem_in, quo_in]); first | done | with_reducible rfl | (constructor <;> with_reducible rfl))))
                    | apply d_block
                    | (apply d_true; (focus rfl); (focus rfl))
                    | (apply d_false; (focus rfl); (focus rfl))
                    | apply d_skip
                    | apply d_exit
                    | apply d_ret
                    | with_reducible apply kt_ret
                    | with_reducible apply kt_exit
                    | with_reducible apply kb_normal
                    | with_reducible apply kb_ret
                    | with_reducible apply kb_here
                    | with_reducible apply kl_ret
                    | with_reducible apply kl_exit
                    | with_reducible apply kc_ret
                    | with_reducible apply kc_exit
                    | (with_reducible apply kb_there; (focus rfl))
                  refine kc_normal _ (Subl.cons (t := 0) (by decide) rfl (Subl.cons (t := 1) (by decide) rfl (Subl.cons (t := 2) (by decide) rfl (Subl.cons (t := 3) (by decide) rfl (Subl.cons (t := 4) (by decide) rfl (Subl.nil _ _)))))) ?_
                  exact ⟨rfl, rfl, hnr⟩
              · subst e
                obtain ⟨b3, hb3⟩ : ∃ b, decide (r.wanted - r.picked - r.short < q) = b := ⟨_, rfl⟩
                have hb3' : decide (q > r.wanted - r.picked - r.short) = b3 := hb3
                rw [show (decide (((1 : Nat) : Int) < 2)) = true from rfl, show (((1 : Nat) : Int) == 2) = false from rfl, hb3] at hnr
                simp only [Bool.true_and, Bool.false_and, Bool.or_false] at hnr
                cases b3 with
                | true =>
                  subst hnr
                  repeat first
                    | apply d_seq
                    | with_reducible apply kt_normal
                    | apply l_nil
                    | apply d_region
                    | (apply l_off; (focus rfl); (focus rfl))
                    | (apply l_val; (focus rfl); (focus rfl); (focus rfl); (focus (go_simp; (try simp (disch := omega) only [wrap_in, wrap_in', wrap_u16, wrap_u8, wrap_u32, wrap_u64, rem_in, quo_in]); first | done | with_reducible rfl | (constructor <;> with_reducible rfl))))
                    | (apply l_store; (focus rfl); (focus rfl); (focus rfl); (focus (go_simp; (try simp (disch := omega) only [wrap_in, wrap_in', wrap_u16, wrap_u8, wrap_u32, wrap_u64, rem_in, quo_in]); first | done | with_reducible rfl | (constructor <;> with_reducible rfl))))
                    | apply d_block
                    | (apply d_true; (focus rfl); (focus rfl))
                    | (apply d_false; (focus rfl); (focus rfl))
                    | apply d_skip
                    | apply d_exit
                    | apply d_ret
                    | with_reducible apply kt_ret
                    | with_reducible apply kt_exit
                    | with_reducible apply kb_normal
                    | with_reducible apply kb_ret
                    | with_reducible apply kb_here
                    | with_reducible apply kl_ret
                    | with_reducible apply kl_exit
                    | with_reducible apply kc_ret
                    | with_reducible apply kc_exit
                    | (with_reducible apply kb_there; (focus rfl))
                  refine ⟨rfl, _, (by first | (simp [resultsG, resOne, Try.results16, rho, List.lookup]; done) | (simp [resultsG, resOne, Try.results16, rho, List.lookup]; rfl)), ?_⟩
                  exact ⟨rfl, SAME.out _ (HX.out.old.next HK2.out)⟩
                | false =>
                  repeat first
                    | apply d_seq
                    | with_reducible apply kt_normal
                    | apply l_nil
                    | apply d_region
                    | (apply l_off; (focus rfl); (focus rfl))
                    | (apply l_val; (focus rfl); (focus rfl); (focus rfl); (focus (go_simp; (try simp (disch := omega) only [wrap_in, wrap_in', wrap_u16, wrap_u8, wrap_u32, wrap_u64, rem_in, quo_in]); first | done | with_reducible rfl | (constructor <;> with_reducible rfl))))
                    | (apply l_store; (focus rfl); (focus rfl); (focus rfl); (focus (go_simp; (try simp (disch := omega) only [wrap_in, wrap_in', wrap_u16, wrap_u8, wrap_u32, wrap_u64, rem_in, quo_in]); first | done | with_reducible rfl | (constructor <;> with_reducible rfl))))
                    | apply d_block
                    | (apply d_true; (focus rfl); (focus rfl))
                    | (apply d_false; (focus rfl); (focus rfl))
                    | apply d_skip
                    | apply d_exit
                    | apply d_ret
                    | with_reducible apply kt_ret
                    | with_reducible apply kt_exit
                    | with_reducible apply kb_normal
                    | with_reducible apply kb_ret
                    | with_reducible apply kb_here
                    | with_reducible apply kl_ret
                    | with_reducible apply kl_exit
                    | with_reducible apply kc_ret
                    | with_reducible apply kc_exit
                    | (with_reducible apply kb_there; (focus rfl))
                  refine kc_normal _ (Subl.cons (t := 0) (by decide) rfl (Subl.cons (t := 1) (by decide) rfl (Subl.cons (t := 2) (by decide) rfl (Subl.cons (t := 3) (by decide) rfl (Subl.cons (t := 4) (by decide) rfl (Subl.nil _ _)))))) ?_
                  exact ⟨rfl, rfl, hnr⟩
              · subst e
                obtain ⟨b3, hb3⟩ : ∃ b, decide (r.picked - r.put < q) = b := ⟨_, rfl⟩
                have hb3' : decide (q > r.picked - r.put) = b3 := hb3
                rw [show (decide (((2 : Nat) : Int) < 2)) = false from rfl, show (((2 : Nat) : Int) == 2) = true from rfl, hb3] at hnr
                simp only [Bool.true_and, Bool.false_and, Bool.false_or] at hnr
                cases b3 with
                | true =>
                  subst hnr
                  repeat first
                    | apply d_seq
                    | with_reducible apply kt_normal
                    | apply l_nil
                    | apply d_region
                    | (apply l_off; (focus rfl); (focus rfl))
                    | (apply l_val; (focus rfl); (focus rfl); (focus rfl); (focus (go_simp; (try simp (disch := omega) only [wrap_in, wrap_in', wrap_u16, wrap_u8, wrap_u32, wrap_u64, rem_in, quo_in]); first | done | with_reducible rfl | (constructor <;> with_reducible rfl))))
                    | (apply l_store; (focus rfl); (focus rfl); (focus rfl); (focus (go_simp; (try simp (disch := omega) only [wrap_in, wrap_in', wrap_u16, wrap_u8, wrap_u32, wrap_u64, rem_in, quo_in]); first | done | with_reducible rfl | (constructor <;> with_reducible rfl))))
                    | apply d_block
                    | (apply d_true; (focus rfl); (focus rfl))
                    | (apply d_false; (focus rfl); (focus rfl))
                    | apply d_skip
                    | apply d_exit
                    | apply d_ret
                    | with_reducible apply kt_ret
                    | with_reducible apply kt_exit
                    | with_reducible apply kb_normal
                    | with_reducible apply kb_ret
                    | with_reducible apply kb_here
                    | with_reducible apply kl_ret
                    | with_reducible apply kl_exit
                    | with_reducible apply kc_ret
                    | with_reducible apply kc_exit
                    | (with_reducible apply kb_there; (focus rfl))
                  refine ⟨rfl, _, (by first | (simp [resultsG, resOne, Try.results16, rho, List.lookup]; done) | (simp [resultsG, resOne, Try.results16, rho, List.lookup]; rfl)), ?_⟩
                  exact ⟨rfl, SAME.out _ (HX.out.old.next HK2.out)⟩
                | false =>
                  repeat first
                    | apply d_seq
                    | with_reducible apply kt_normal
                    | apply l_nil
                    | apply d_region
                    | (apply l_off; (focus rfl); (focus rfl))
                    | (apply l_val; (focus rfl); (focus rfl); (focus rfl); (focus (go_simp; (try simp (disch := omega) only [wrap_in, wrap_in', wrap_u16, wrap_u8, wrap_u32, wrap_u64, rem_in, quo_in]); first | done | with_reducible rfl | (constructor <;> with_reducible rfl))))
                    | (apply l_store; (focus rfl); (focus rfl); (focus rfl); (focus (go_simp; (try simp (disch := omega) only [wrap_in, wrap_in', wrap_u16, wrap_u8, wrap_u32, wrap_u64, rem_in, quo_in]); first | done | with_reducible rfl | (constructor <;> with_reducible rfl))))
                    | apply d_block
                    | (apply d_true; (focus rfl); (focus rfl))
                    | (apply d_false; (focus rfl); (focus rfl))
                    | apply d_skip
                    | apply d_exit
                    | apply d_ret
                    | with_reducible apply kt_ret
                    | with_reducible apply kt_exit
                    | with_reducible apply kb_normal
                    | with_reducible apply kb_ret
                    | with_reducible apply kb_here
                    | with_reducible apply kl_ret
                    | with_reducible apply kl_exit
                    | with_reducible apply kc_ret
                    | with_reducible apply kc_exit
                    | (with_reducible apply kb_there; (focus rfl))
                  refine kc_normal _ (Subl.cons (t := 0) (by decide) rfl (Subl.cons (t := 1) (by decide) rfl (Subl.cons (t := 2) (by decide) rfl (Subl.cons (t := 3) (by decide) rfl (Subl.cons (t := 4) (by decide) rfl (Subl.nil _ _)))))) ?_
                  exact ⟨rfl, rfl, hnr⟩
          · obtain ⟨rfl, rfl, rfl⟩ := hcut
            clear x1 x2 x3 x4 hnr hn0
            have hk3 := HX.out.old.next HK2.out
            obtain ⟨hok, xs, lv, dv, hxs, hp⟩ := (HH.out.kept hk3)
            have hz := HasF.start hp
            have HKK := Lib.hid hk3
            clear HX HK HK2 hp hk3
            obtain ⟨c0, c1, f0, f1⟩ := blk2 (hz.blk (i := 0) rfl)
            have c1a := cell_old (.cells #[] 73) c1
            obtain ⟨G2, hs2, A2, e2, rfl, hb3, hb4⟩ := hz.sees (i := 2) rfl
            have hz := hz.newRow 73 4
            obtain ⟨A3, e3, w3, hr3, q1, q2, hz⟩ := appF_dd hz (k := 4) (xs := []) rfl (hs2.keep ((Keep.refl _ _).alloc _)) (by omega)
            unfold rlparts at hz
            simp only [List.cons_append, List.nil_append, List.set_cons_zero, List.set_cons_succ] at hz
            have hz5 := hz.litRow #[.int .i64 kk, .int .u32 id, .int .u16 r.item, .int .i64 q] 73 4 1 rfl (by simp [Value.oneCell']) (by decide)
            simp only [List.cons_append, List.nil_append] at hz5
            obtain ⟨G5, hs5, -⟩ := hz5.sees (i := 5) rfl
            obtain ⟨A6, e6, w6, hr6, q3, q4, hz6⟩ := appF_dd hz5 (k := 4) (ys := [⟨kk, id, r.item, q⟩]) rfl hs5 (by omega)
            simp only [List.set_cons_zero, List.set_cons_succ] at hz6
            obtain ⟨k0, k1, j0, j1⟩ := blk2 (hz6.blk (i := 0) rfl)
            have hput := hz6.put (i := 0) rfl 1 (.slice A6 (0 + d.ds.length + 1) e6)
            simp only [List.set_cons_zero] at hput
            have hput := (hput).sel [0, 1, 4, 3] (by decide)
            simp only [List.map_cons, List.map_nil, List.getElem?_cons_zero, List.getElem?_cons_succ, Option.getD_some] at hput
            have hput := hput.read (i := 2) rfl
            simp only [List.set_cons_zero, List.set_cons_succ] at hput
            have HY := Lib.hid hput
            have HR3 := Lib.hid hr3
            have HR6 := Lib.hid hr6
            have HE := Lib.hid (And.intro hxs hok)
            clear hz hz5 hs5 hz6 hs2 hput hr3 hr6 hxs hok
            repeat first
              | apply d_seq
              | with_reducible apply kt_normal
              | apply l_nil
              | apply d_region
              | (apply l_off; (focus rfl); (focus rfl))
              | (apply l_val; (focus rfl); (focus rfl); (focus rfl); (focus (go_simp; (try simp (disch := omega) only [wrap_in, wrap_in', wrap_u16, wrap_u8, wrap_u32, wrap_u64, rem_in, quo_in]); first | done | with_reducible rfl | (constructor <;> with_reducible rfl))))
              | (apply l_store; (focus rfl); (focus rfl); (focus rfl); (focus (go_simp; (try simp (disch := omega) only [wrap_in, wrap_in', wrap_u16, wrap_u8, wrap_u32, wrap_u64, rem_in, quo_in]); first | done | with_reducible rfl | (constructor <;> with_reducible rfl))))
              | apply d_block
              | (apply d_true; (focus rfl); (focus rfl))
              | (apply d_false; (focus rfl); (focus rfl))
              | apply d_skip
              | apply d_exit
              | apply d_ret
              | with_reducible apply kt_ret
              | with_reducible apply kt_exit
              | with_reducible apply kb_normal
              | with_reducible apply kb_ret
              | with_reducible apply kb_here
              | with_reducible apply kl_ret
              | with_reducible apply kl_exit
              | with_reducible apply kc_ret
              | with_reducible apply kc_exit
              | (with_reducible apply kb_there; (focus rfl))
            refine l_val rfl rfl rfl (exec_append (.tmp 69) (.tmp 73) 28 rfl _ _ rfl rfl HR3.out) ?_
            clear c0 c1 c1a f0 f1
            repeat first
              | apply d_seq
              | with_reducible apply kt_normal
              | apply l_nil
              | apply d_region
              | (apply l_off; (focus rfl); (focus rfl))
              | (apply l_val; (focus rfl); (focus rfl); (focus rfl); (focus (go_simp; (try simp (disch := omega) only [wrap_in, wrap_in', wrap_u16, wrap_u8, wrap_u32, wrap_u64, rem_in, quo_in]); first | done | with_reducible rfl | (constructor <;> with_reducible rfl))))
              | (apply l_store; (focus rfl); (focus rfl); (focus rfl); (focus (go_simp; (try simp (disch := omega) only [wrap_in, wrap_in', wrap_u16, wrap_u8, wrap_u32, wrap_u64, rem_in, quo_in]); first | done | with_reducible rfl | (constructor <;> with_reducible rfl))))
              | apply d_block
              | (apply d_true; (focus rfl); (focus rfl))
              | (apply d_false; (focus rfl); (focus rfl))
              | apply d_skip
              | apply d_exit
              | apply d_ret
              | with_reducible apply kt_ret
              | with_reducible apply kt_exit
              | with_reducible apply kb_normal
              | with_reducible apply kb_ret
              | with_reducible apply kb_here
              | with_reducible apply kl_ret
              | with_reducible apply kl_exit
              | with_reducible apply kc_ret
              | with_reducible apply kc_exit
              | (with_reducible apply kb_there; (focus rfl))
            refine l_val rfl rfl rfl (exec_append (.tmp 74) (.tmp 80) 28 rfl _ _ rfl rfl HR6.out) ?_
            repeat first
              | apply d_seq
              | with_reducible apply kt_normal
              | apply l_nil
              | apply d_region
              | (apply l_off; (focus rfl); (focus rfl))
              | (apply l_val; (focus rfl); (focus rfl); (focus rfl); (focus (go_simp; (try simp (disch := omega) only [wrap_in, wrap_in', wrap_u16, wrap_u8, wrap_u32, wrap_u64, rem_in, quo_in]); first | done | with_reducible rfl | (constructor <;> with_reducible rfl))))
              | (apply l_store; (focus rfl); (focus rfl); (focus rfl); (focus (go_simp; (try simp (disch := omega) only [wrap_in, wrap_in', wrap_u16, wrap_u8, wrap_u32, wrap_u64, rem_in, quo_in]); first | done | with_reducible rfl | (constructor <;> with_reducible rfl))))
              | apply d_block
              | (apply d_true; (focus rfl); (focus rfl))
              | (apply d_false; (focus rfl); (focus rfl))
              | apply d_skip
              | apply d_exit
              | apply d_ret
              | with_reducible apply kt_ret
              | with_reducible apply kt_exit
              | with_reducible apply kb_normal
              | with_reducible apply kb_ret
              | with_reducible apply kb_here
              | with_reducible apply kl_ret
              | with_reducible apply kl_exit
              | with_reducible apply kc_ret
              | with_reducible apply kc_exit
              | (with_reducible apply kb_there; (focus rfl))
            refine ⟨rfl, _, (by first | (simp [resultsG, resOne, Try.results16, rho, List.lookup]; done) | (simp [resultsG, resOne, Try.results16, rho, List.lookup]; rfl)), ?_⟩
            refine ⟨rfl, ?_⟩
            have hb := RLRep.back (ds := d.ds ++ [⟨kk, id, r.item, q⟩]) (d := ⟨d.os, d.ds ++ [⟨kk, id, r.item, q⟩]⟩) (HD'.out rfl) (lv := lv) (dv := .slice A6 (d.ds.length + 1) e6) HE.out.1 rfl (by
              unfold rlparts
              have hy := HY.out
              rw [Nat.zero_add] at hy
              rw [List.length_append, List.length_singleton]
              exact hy)
            exact ⟨(HKK.out.none).trans (hb.1.mono (fun k hk => .inl hk)), RLRep.move hb.2 (Nat.le_refl _) (fun k hk hl => ⟨by rcases hk with c | c; exact .inl c; exact .inr ⟨Nat.le_trans HKK.out.size c.1, c.2⟩, rfl⟩)⟩
        · have hq0 : (r.item != it) = true := by simpa using fun c : r.item = it => hit c.symm
          have hq1 : (r.item == it) = false := by simpa using fun c : r.item = it => hit c.symm
          have HR := Lib.hid hr
          have HB := Lib.hid hq1
          clear hr
          repeat first
            | apply d_seq
            | with_reducible apply kt_normal
            | apply l_nil
            | apply d_region
            | (apply l_off; (focus rfl); (focus rfl))
            | (apply l_val; (focus rfl); (focus rfl); (focus rfl); (focus (go_simp; (try simp (disch := omega) only [wrap_in, wrap_in', wrap_u16, wrap_u8, wrap_u32, wrap_u64, rem_in, quo_in]); first | done | with_reducible rfl | (constructor <;> with_reducible rfl))))
            | (apply l_store; (focus rfl); (focus rfl); (focus rfl); (focus (go_simp; (try simp (disch := omega) only [wrap_in, wrap_in', wrap_u16, wrap_u8, wrap_u32, wrap_u64, rem_in, quo_in]); first | done | with_reducible rfl | (constructor <;> with_reducible rfl))))
            | apply d_block
            | (apply d_true; (focus rfl); (focus rfl))
            | (apply d_false; (focus rfl); (focus rfl))
            | apply d_skip
            | apply d_exit
            | apply d_ret
            | with_reducible apply kt_ret
            | with_reducible apply kt_exit
            | with_reducible apply kb_normal
            | with_reducible apply kb_ret
            | with_reducible apply kb_here
            | with_reducible apply kl_ret
            | with_reducible apply kl_exit
            | with_reducible apply kc_ret
            | with_reducible apply kc_exit
            | (with_reducible apply kb_there; (focus rfl))
          refine kl_normal (rs.length - (k + 1)) _ (by omega) (Subl.cons (t := 0) (by decide) rfl (Subl.cons (t := 1) (by decide) rfl (Subl.cons (t := 2) (by decide) rfl (Subl.cons (t := 3) (by decide) rfl (Subl.cons (t := 4) (by decide) rfl (Subl.cons (t := 11) (by decide) rfl (Subl.cons (t := 13) (by decide) rfl (Subl.nil _ _)))))))) ?_
          exact ⟨k + 1, rfl, by omega, rfl, HK2, Lib.hid (take_snoc_all HR.out HB.out HF.out)⟩
      · have hk' : k = rs.length := by omega
        subst hk'
        have hf := HF.out
        rw [List.take_length] at hf
        have hde := HDE.out
        rw [List.find?_eq_none.2 (fun z hz => by simpa using hf z hz)] at hde
        rw [hde]
        clear hde hf
        repeat first
          | apply d_seq
          | with_reducible apply kt_normal
          | apply l_nil
          | apply d_region
          | (apply l_off; (focus rfl); (focus rfl))
          | (apply l_val; (focus rfl); (focus rfl); (focus rfl); (focus (go_simp; (try simp (disch := omega) only [wrap_in, wrap_in', wrap_u16, wrap_u8, wrap_u32, wrap_u64, rem_in, quo_in]); first | done | with_reducible rfl | (constructor <;> with_reducible rfl))))
          | (apply l_store; (focus rfl); (focus rfl); (focus rfl); (focus (go_simp; (try simp (disch := omega) only [wrap_in, wrap_in', wrap_u16, wrap_u8, wrap_u32, wrap_u64, rem_in, quo_in]); first | done | with_reducible rfl | (constructor <;> with_reducible rfl))))
          | apply d_block
          | (apply d_true; (focus rfl); (focus rfl))
          | (apply d_false; (focus rfl); (focus rfl))
          | apply d_skip
          | apply d_exit
          | apply d_ret
          | with_reducible apply kt_ret
          | with_reducible apply kt_exit
          | with_reducible apply kb_normal
          | with_reducible apply kb_ret
          | with_reducible apply kb_here
          | with_reducible apply kl_ret
          | with_reducible apply kl_exit
          | with_reducible apply kc_ret
          | with_reducible apply kc_exit
          | (with_reducible apply kb_there; (focus rfl))
        refine ⟨rfl, _, (by first | (simp [resultsG, resOne, Try.results16, rho, List.lookup]; done) | (simp [resultsG, resOne, Try.results16, rho, List.lookup]; rfl)), ?_⟩
        exact ⟨rfl, SAME.out _ (HX.out.old.next HK.out)⟩
end Go.Proofs.Ytkjcmnhhgnlaeaa
