import Derived.Test.YtkjcmnhhgnlaeaaLedR5
import Derived.Test.YtkjcmnhhgnlaeaaLedR4
namespace Go.Proofs.Ytkjcmnhhgnlaeaa
set_option linter.unusedVariables false
set_option linter.unusedSimpArgs false
attribute [local go_sem] rho_const rho_func rho_hit rho_miss
open Go.RowKit
theorem HasF.ext {F G : Nat → Prop} {w0 w : World} {L : List (Asrt 0)} (H : HasF F w0 w L) {sz n : Nat} {v : Value} {xs : List Value} (h : SeesIn w0 G sz v n xs) (hG : ∀ k, G k → ¬ F k) : SeesIn w G sz v n xs :=
  h.move H.size (fun k hk hl => ⟨hk, H.off hl (hG k hk)⟩)
theorem Try.infoOc : (Try.prog.info? 34).map (fun i => (i.zero, i.size, i.bytes)) = some (some (.agg #[.int .u32 0, .slice none 0 0]), 2, 32) := by kernel_rfl
theorem appF_oc {F : Nat → Prop} {w0 w : World} {L : List (Asrt 0)} (H : HasF F w0 w L) {k n m : Nat} {v x : Value} {xs ys : List (Int × Value × List Ln)} (hi : L[k]? = some (OwnA 0 34 2 v n (xs.flatMap oc))) {G : Nat → Prop} (hx : SeesIn w G 2 x m (ys.flatMap oc)) (hm : n + m ≤ 1000) :
    ∃ A cap w', (Builtin.append_ #[27, 27] 27 #[v, x]).run Try.prog w = .ok (.slice A (n + m) cap) w' ∧ n + m ≤ cap ∧ cap ≤ 9223372036854775807 ∧
      HasF F w0 w' (L.set k (OwnA 0 34 2 (.slice A (n + m) cap) (n + m) ((xs ++ ys).flatMap oc))) := by
  obtain ⟨i0, hi0, hz0, hz1, hz2⟩ := info_parts Try.infoOc
  have := H.app (P := Try.prog) hi hx 27 i0 _ 32 Try.underlying27 hi0 hz0 hz1 hz2 rfl (by decide) (by unfold maxLen; omega) (by omega) 27
  rw [List.flatMap_append]
  exact this
theorem run_o0 (w : World) : (Instr.buildSlice 27 0 #[]).run Try.prog w = .ok (.slice (some ⟨w.heap.size, 0, none⟩) 0 0) (w.alloc (.cells #[] 34)) := by kernel_rfl
theorem run_o1 (w : World) (id : Int) (A : Option Addr) (n c : Nat) : (Instr.buildSlice 27 1 #[(0, .agg #[.int .u32 id, .slice A n c])]).run Try.prog w = .ok (.slice (some ⟨w.heap.size, 0, none⟩) 1 1) (w.alloc (.cells #[.int .u32 id, .slice A n c] 34)) := by kernel_rfl
theorem LnsA.join {G : Nat → Prop} {w : World} {xs : List (Int × Value × List Ln)} {e : TypeId} {v : Value} {ls : List Ln} (id : Int) (h : Parts G w [LnsA 0 xs, OwnA 0 e 3 v ls.length (lns ls)]) : (LnsA 0 (xs ++ [(id, v, ls)])).p G w := by
  obtain ⟨B, b1, b2, b3⟩ := h
  intro x hx
  rcases List.mem_append.1 hx with hx | hx
  · exact (show ∀ x ∈ xs, SeesIn w (B 0) 3 x.2.1 x.2.2.length (x.2.2.flatMap Ln.cs) from b3 0 _ rfl) x hx |>.mono (fun k hk => b1 0 k hk)
  · simp only [List.mem_singleton] at hx
    subst hx
    exact (show Own w (B 1) e 3 v ls.length (lns ls) from b3 1 _ rfl).sees.mono (fun k hk => b1 1 k hk)
set_option maxRecDepth 100000 in
set_option maxHeartbeats 4000000 in
theorem rOpen_any' (p : Nat) (d : RL) (id : Int) (v : Value) (ls : List Ln) (F G : Nat → Prop) (w : World) (h : RLRep w F p d) (hs : SeesIn w G 3 v ls.length (lns ls)) (hG : ∀ k, G k → ¬ F k) (hF : ∀ k, F k → k < w.heap.size) (hl : d.os.length ≤ 190) (hd' : (d.opened id ls).1.okay) :
    Calls Try.prog 14 #[.pointer (some ⟨p, 0, none⟩), .agg #[.int .u32 id, v]] w fun e w' => e = .returned (.int .i64 (d.opened id ls).2) ∧ Keep F w w' ∧ RLRep w' (fresh F w w') p (d.opened id ls).1 := by
  have same : ∀ w', Keep none_ w w' → Keep F w w' ∧ RLRep w' (fresh F w w') p d := fun w' hk => ⟨hk.none, h.move hk.size (fun k hF hl => ⟨.inl hF, hk.block k hl (fun c => c)⟩)⟩
  have HRt := Lib.hid (fun (w' : World) (hk : Keep none_ w w') => rRight_any id v ls G w' (hs.keep hk))
  have HFd := Lib.hid (fun (w' : World) (hk : Keep none_ w w') => rFind_any p d id F w' (h.kept hk))
  have hop : d.opened id ls = if rightE ls ≠ 0 then (d, rightE ls) else if (d.ls.get id).isSome = true then (d, 8) else (⟨d.os ++ [(id, ls)], d.ds⟩, 0) := rfl
  obtain ⟨A, c, rfl, h1, h2, -⟩ := hs.form
  have H := Lib.hid hs
  obtain ⟨er, her⟩ : ∃ er, rightE ls = er := ⟨_, rfl⟩
  have hln : rightE ls = 0 → ls.length ≤ 8 := fun c => (right_len c).2
  rw [her] at hop hln
  have hk0 := (Keep.refl none_ w).alloc (.cells #[.int .u32 id, .slice A ls.length c] 34)
  have hb0 : (w.alloc (.cells #[.int .u32 id, .slice A ls.length c] 34)).heap[w.heap.size]? = some (.cells #[.int .u32 id, .slice A ls.length c] 34 (0, 0)) := heap_alloc_new _ _
  have hc1 := HRt.out _ hk0
  rw [her] at hc1
  obtain ⟨bx0, bx1, -⟩ := blk2 hb0
  have HH := Lib.hid h
  have HK0 := Lib.hid hk0
  have HB0 := Lib.hid hb0
  have SAME := Lib.hid same
  have HOP := Lib.hid hop
  have HC1 := Lib.hid hc1
  have HD' := Lib.hid hd'
  have HLN := Lib.hid hln
  clear same hop hc1 hd' hln
  clear h hs her hk0 hb0
  refine d_calls (n := 29) Try.func14 rfl rfl (by simp) [(0, .pointer (some ⟨p, 0, none⟩)), (1, .agg #[.int .u32 id, .slice A ls.length c])] (by simp) ?_
  repeat first
    | apply d_seq
    | with_reducible apply kt_normal
    | apply l_nil
    | apply d_region
    | (apply l_off; (focus rfl); (focus rfl))
    | (apply l_val; (focus rfl); (focus rfl); (focus rfl); (focus (go_simp; (try simp (disch := omega) only [wrap_in, wrap_in', wrap_u16, wrap_u8, wrap_u32, wrap_u64, rem_in, quo_in]); first | done | with_reducible rfl | (constructor <;> with_reducible rfl))))
    | (apply l_store; (focus rfl); (focus rfl); (focus rfl); (focus (go_simp; (try simp (disch := omega) only [wrap_in, wrap_in', wrap_u16, wrap_u8, wrap_u32, wrap_u64, rem_in, quo_in]); first | done | with_reducible rfl | (constructor <;> with_reducible rfl))))
    | apply d_block
    | (apply d_true; (focus rfl); (focus rfl))
    | (apply d_false; (focus rfl); (focus rfl))
    | apply d_skip
    | apply d_exit
    | apply d_ret
    | with_reducible apply kt_ret
    | with_reducible apply kt_exit
    | with_reducible apply kb_normal
    | with_reducible apply kb_ret
    | with_reducible apply kb_here
    | with_reducible apply kl_ret
    | with_reducible apply kl_exit
    | with_reducible apply kc_ret
    | with_reducible apply kc_exit
    | (with_reducible apply kb_there; (focus rfl))
  refine l_call rfl rfl rfl (by first | (go_simp; done) | (go_simp; rfl)) (HC1.out) ?_
  rintro e w1 ⟨rfl, hkr⟩
  have hb1 := (hkr.block w.heap.size (by simp) (fun c => c)).trans HB0.out
  have hk1 := HK0.out.next hkr
  clear hkr
  generalize w.alloc (.cells #[.int .u32 id, .slice A ls.length c] 34) = wa at *
  clear bx0 bx1 HC1
  obtain ⟨ob, hob⟩ : ∃ ob, w.heap.size = ob := ⟨_, rfl⟩
  have hFo : ¬ F ob := fun c => by have := hF ob c; omega
  have hFo := Lib.hid hFo
  rw [hob] at hb1
  have HOB := Lib.hid hob
  obtain ⟨bx0, bx1, -⟩ := blk2 hb1
  have HK1 := Lib.hid hk1
  have HB1 := Lib.hid hb1
  clear hk1 hb1
  refine ⟨_, rfl, ?_⟩
  rw [hob]
  clear hob
  by_cases h0 : er = 0
  · subst h0
    have hop := HOP.out
    rw [if_neg (by simp)] at hop
    have hfd := HFd.out w1 HK1.out
    cases hj : sidx d.ls id with
    | some j =>
      obtain ⟨ls', e1, e2, e3⟩ := idx_in hj
      rw [e3, if_pos (show (some _).isSome = true from rfl)] at hop
      rw [hop]
      rw [sidx_ls] at hj
      have hpi : (pidx d.os fun q => q.1 == id) = (j : Int) := by unfold pidx; rw [hj]
      rw [hpi] at hfd
      have qj : decide ((j : Int) ≥ 0) = true := decide_eq_true (by omega)
      have qj' : decide (0 ≤ (j : Int)) = true := decide_eq_true (by omega)
      have HFD := Lib.hid hfd
      clear hfd
      clear hj hpi e1 e2 e3 hop
      repeat first
        | apply d_seq
        | with_reducible apply kt_normal
        | apply l_nil
        | apply d_region
        | (apply l_off; (focus rfl); (focus rfl))
        | (apply l_val; (focus rfl); (focus rfl); (focus rfl); (focus (go_simp; (try simp (disch := omega) only [wrap_in, wrap_in', wrap_u16, wrap_u8, wrap_u32, wrap_u64, rem_in, quo_in]); first | done | with_reducible rfl | (constructor <;> with_reducible rfl))))
        | (apply l_store; (focus rfl); (focus rfl); (focus rfl); (focus (go_simp; (try simp (disch := omega) only [wrap_in, wrap_in', wrap_u16, wrap_u8, wrap_u32, wrap_u64, rem_in, quo_in]); first | done | with_reducible rfl | (constructor <;> with_reducible rfl))))
        | apply d_block
        | (apply d_true; (focus rfl); (focus rfl))
        | (apply d_false; (focus rfl); (focus rfl))
        | apply d_skip
        | apply d_exit
        | apply d_ret
        | with_reducible apply kt_ret
        | with_reducible apply kt_exit
        | with_reducible apply kb_normal
        | with_reducible apply kb_ret
        | with_reducible apply kb_here
        | with_reducible apply kl_ret
        | with_reducible apply kl_exit
        | with_reducible apply kc_ret
        | with_reducible apply kc_exit
        | (with_reducible apply kb_there; (focus rfl))
      refine l_call rfl rfl rfl (by first | (go_simp; done) | (go_simp; rfl)) (HFD.out) ?_
      rintro e w' ⟨rfl, rfl⟩
      refine ⟨_, rfl, ?_⟩
      repeat first
        | apply d_seq
        | with_reducible apply kt_normal
        | apply l_nil
        | apply d_region
        | (apply l_off; (focus rfl); (focus rfl))
        | (apply l_val; (focus rfl); (focus rfl); (focus rfl); (focus (go_simp; (try simp (disch := omega) only [wrap_in, wrap_in', wrap_u16, wrap_u8, wrap_u32, wrap_u64, rem_in, quo_in]); first | done | with_reducible rfl | (constructor <;> with_reducible rfl))))
        | (apply l_store; (focus rfl); (focus rfl); (focus rfl); (focus (go_simp; (try simp (disch := omega) only [wrap_in, wrap_in', wrap_u16, wrap_u8, wrap_u32, wrap_u64, rem_in, quo_in]); first | done | with_reducible rfl | (constructor <;> with_reducible rfl))))
        | apply d_block
        | (apply d_true; (focus rfl); (focus rfl))
        | (apply d_false; (focus rfl); (focus rfl))
        | apply d_skip
        | apply d_exit
        | apply d_ret
        | with_reducible apply kt_ret
        | with_reducible apply kt_exit
        | with_reducible apply kb_normal
        | with_reducible apply kb_ret
        | with_reducible apply kb_here
        | with_reducible apply kl_ret
        | with_reducible apply kl_exit
        | with_reducible apply kc_ret
        | with_reducible apply kc_exit
        | (with_reducible apply kb_there; (focus rfl))
      refine ⟨rfl, _, (by first | (simp [resultsG, resOne, Try.results14, rho, List.lookup]; done) | (simp [resultsG, resOne, Try.results14, rho, List.lookup]; rfl)), ?_⟩
      exact ⟨rfl, SAME.out _ HK1.out⟩
    | none =>
      have e3 := get_none hj
      rw [e3, if_neg (by simp)] at hop
      have hd' := HD'.out
      rw [hop] at hd' ⊢
      rw [sidx_ls] at hj
      have hpi : (pidx d.os fun q => q.1 == id) = -1 := by unfold pidx; rw [hj]
      rw [hpi] at hfd
      have h8 := HLN.out rfl
      have HFD := Lib.hid hfd
      have HD' := Lib.hid hd'
      clear hfd hd'
      clear hj hpi e3 hop
      repeat first
        | apply d_seq
        | with_reducible apply kt_normal
        | apply l_nil
        | apply d_region
        | (apply l_off; (focus rfl); (focus rfl))
        | (apply l_val; (focus rfl); (focus rfl); (focus rfl); (focus (go_simp; (try simp (disch := omega) only [wrap_in, wrap_in', wrap_u16, wrap_u8, wrap_u32, wrap_u64, rem_in, quo_in]); first | done | with_reducible rfl | (constructor <;> with_reducible rfl))))
        | (apply l_store; (focus rfl); (focus rfl); (focus rfl); (focus (go_simp; (try simp (disch := omega) only [wrap_in, wrap_in', wrap_u16, wrap_u8, wrap_u32, wrap_u64, rem_in, quo_in]); first | done | with_reducible rfl | (constructor <;> with_reducible rfl))))
        | apply d_block
        | (apply d_true; (focus rfl); (focus rfl))
        | (apply d_false; (focus rfl); (focus rfl))
        | apply d_skip
        | apply d_exit
        | apply d_ret
        | with_reducible apply kt_ret
        | with_reducible apply kt_exit
        | with_reducible apply kb_normal
        | with_reducible apply kb_ret
        | with_reducible apply kb_here
        | with_reducible apply kl_ret
        | with_reducible apply kl_exit
        | with_reducible apply kc_ret
        | with_reducible apply kc_exit
        | (with_reducible apply kb_there; (focus rfl))
      refine l_call rfl rfl rfl (by first | (go_simp; done) | (go_simp; rfl)) (HFD.out) ?_
      rintro e w' ⟨rfl, rfl⟩
      obtain ⟨hok, xs, lv, dv, hxs, hp⟩ := HH.out.kept HK1.out
      have hz := HasF.start hp
      have hxl : xs.length ≤ 190 := by have := congrArg List.length hxs; rw [List.length_map] at this; omega
      obtain ⟨c0, c1, f0, f1⟩ := blk2 (hz.blk (i := 0) rfl)
      obtain ⟨G1, hs1, A1, e1, rfl, hb3, hb4⟩ := hz.sees (i := 1) rfl
      unfold rlparts at hz
      have hbl := lt_of_block HB1.out
      have HE := Lib.hid (And.intro hxs hok)
      have HZ := Lib.hid hz
      have HS1 := Lib.hid hs1
      clear hs1
      clear hz hp hxs hok
      refine ⟨_, rfl, ?_⟩
      repeat first
        | apply d_seq
        | with_reducible apply kt_normal
        | apply l_nil
        | apply d_region
        | (apply l_off; (focus rfl); (focus rfl))
        | (apply l_val; (focus rfl); (focus rfl); (focus rfl); (focus (go_simp; (try simp (disch := omega) only [wrap_in, wrap_in', wrap_u16, wrap_u8, wrap_u32, wrap_u64, rem_in, quo_in]); first | done | with_reducible rfl | (constructor <;> with_reducible rfl))))
        | (apply l_store; (focus rfl); (focus rfl); (focus rfl); (focus (go_simp; (try simp (disch := omega) only [wrap_in, wrap_in', wrap_u16, wrap_u8, wrap_u32, wrap_u64, rem_in, quo_in]); first | done | with_reducible rfl | (constructor <;> with_reducible rfl))))
        | apply d_block
        | (apply d_true; (focus rfl); (focus rfl))
        | (apply d_false; (focus rfl); (focus rfl))
        | apply d_skip
        | apply d_exit
        | apply d_ret
        | with_reducible apply kt_ret
        | with_reducible apply kt_exit
        | with_reducible apply kb_normal
        | with_reducible apply kb_ret
        | with_reducible apply kb_here
        | with_reducible apply kl_ret
        | with_reducible apply kl_exit
        | with_reducible apply kc_ret
        | with_reducible apply kc_exit
        | (with_reducible apply kb_there; (focus rfl))
      have e0 : w1.drew.cell? ⟨p, 0, none⟩ = some (.slice A1 xs.length e1) := c0
      have eb0 : w1.drew.cell? ⟨ob, 0, none⟩ = some (.int .u32 id) := bx0
      have eb1 : w1.drew.cell? ⟨ob, 1, none⟩ = some (.slice A ls.length c) := bx1
      clear c0 c1 f0 f1 bx0 bx1
      refine d_draw (true, [([], []), ([], []), ([], []), ([2], [2]), ([3], [3]), ([4], [4]), ([1, 5], [1, 5]), ([], []), ([7, 6], [7]), ([8], [8]), ([6, 9, 8], [6, 9]), ([0, 0, 1, 2, 3, 4, 5, 6, 7, 8, 9, 10], [0]), ([11, 0, 1, 2, 3, 4, 5, 6, 7, 8, 9, 10], [11]), ([12, 10, 10, 0, 1, 2, 3, 4, 5, 6, 7, 8, 9, 10], [10, 12])]) [(0, 0), (0, 2), (0, 3), (0, 4), (0, 5), (0, 7), (1, 1), (1, 6), (1, 8), (1, 9), (1, 10), (0, 11), (0, 12), (2, 13)] [13] (fun W => W.cell? ⟨p, 0, none⟩ = some (.slice A1 xs.length e1) ∧ W.cell? ⟨ob, 0, none⟩ = some (.int .u32 id) ∧ W.cell? ⟨ob, 1, none⟩ = some (.slice A ls.length c)) (by kernel_rfl) (by kernel_rfl) (by kernel_rfl) (by kernel_rfl) ⟨e0, eb0, eb1⟩ ?_
      iterate 6
        first | (apply s_off; (focus rfl); (focus rfl); (focus rfl)) | (apply s_yield; (focus rfl); (focus rfl); (focus rfl); (focus rfl); (focus (intro W hS; obtain ⟨hS1, hS2, hS3⟩ := hS; go_simp; (try simp (disch := omega) only [wrap_in, wrap_in', wrap_u16, wrap_u8, wrap_u32, wrap_u64, rem_in, quo_in]); first | done | with_reducible rfl | (constructor <;> with_reducible rfl))))
      refine s_op rfl rfl rfl rfl (exec_build 27 #[] rfl rfl (run_o0 _)) ⟨cell_old _ e0, cell_old _ eb0, cell_old _ eb1⟩ ?_
      have hz1 := HZ.out.drew.newRow 34 2
      simp only [List.cons_append, List.nil_append] at hz1
      obtain ⟨A3, c3, w3, hr, q1, q2, hz3⟩ := appF_oc hz1 (k := 4) (xs := []) rfl (HS1.out.keep (((Keep.refl none_ w1).drew).alloc (.cells #[] 34))) (by omega)
      simp only [List.set_cons_zero, List.set_cons_succ, List.nil_append] at hz3
      obtain ⟨y0, -, -⟩ := blk2 (hz3.blk (i := 0) rfl)
      obtain ⟨yb0, yb1, -⟩ := blk2 ((hz3.off hbl hFo.out).trans HB1.out)
      have hc8 := rOwn_any id (.slice A ls.length c) ls G w3 (hz3.ext (H.out.keep HK1.out) hG) (by omega)
      refine s_op rfl rfl rfl rfl (exec_append (.tmp 17) (.tmp 21) 27 rfl _ _ rfl rfl hr) ⟨y0, yb0, yb1⟩ ?_
      have HX := Lib.hid hz3
      have HC8 := Lib.hid hc8
      clear hc8
      clear hz1 hz3 hr y0 yb0 yb1 e0 eb0 eb1
      refine s_call rfl rfl rfl rfl (by first | (go_simp; done) | (go_simp; rfl)) (HC8.out) ?_
      rintro e w4 ⟨A2, c2, rfl, hy⟩
      have hz4 := HX.out.more hy
      simp only [List.cons_append, List.nil_append] at hz4
      obtain ⟨y0, -, -⟩ := blk2 (hz4.blk (i := 0) rfl)
      obtain ⟨yb0, yb1, -⟩ := blk2 ((hz4.off hbl hFo.out).trans HB1.out)
      have hz5 := hz4.litRow #[.int .u32 id, .slice A2 ls.length c2] 34 2 1 rfl (by simp [Value.oneCell']) (by decide)
      simp only [List.cons_append, List.nil_append] at hz5
      obtain ⟨G5, hs5, -⟩ := hz5.sees (i := 6) rfl
      obtain ⟨A6, c6, w6, hr, q3, q4, hz6⟩ := appF_oc hz5 (k := 4) (ys := [(id, Value.slice A2 ls.length c2, ls)]) rfl hs5 (by omega)
      simp only [List.set_cons_zero, List.set_cons_succ] at hz6
      have HR := Lib.hid hr
      clear HX HC8 hy hz4 hz5 hs5 hr
      refine ⟨_, rfl, ⟨y0, yb0, yb1⟩, ?_⟩
      refine s_op rfl rfl rfl rfl (exec_build 27 #[(0, .agg #[.int .u32 id, .slice A2 ls.length c2])] rfl rfl (run_o1 _ _ _ _ _)) ⟨cell_old _ y0, cell_old _ yb0, cell_old _ yb1⟩ ?_
      clear y0 yb0 yb1
      obtain ⟨y0, y1, f0, f1⟩ := blk2 (hz6.blk (i := 0) rfl)
      obtain ⟨yb0, yb1, -⟩ := blk2 ((hz6.off hbl hFo.out).trans HB1.out)
      refine s_op rfl rfl rfl rfl (exec_append (.tmp 22) (.tmp 25) 27 rfl _ _ rfl rfl HR.out) ⟨y0, yb0, yb1⟩ ?_
      have hput := hz6.put (i := 0) rfl 0 (.slice A6 (0 + xs.length + 1) c6)
      simp only [List.set_cons_zero] at hput
      have hput := (hput).sel [0, 4, 2, 3, 5] (by decide)
      simp only [List.map_cons, List.map_nil, List.getElem?_cons_zero, List.getElem?_cons_succ, Option.getD_some] at hput
      have hcl := HasF.close (l := [BlkA 0 p (#[.slice A1 xs.length e1, dv].setIfInBounds 0 (.slice A6 (0 + xs.length + 1) c6)) 30, OwnA 0 34 2 (.slice A6 (0 + xs.length + 1) c6) (0 + xs.length + 1) ((xs ++ [(id, Value.slice A2 ls.length c2, ls)]).flatMap oc), SeesA 0 4 dv d.ds.length (d.ds.flatMap Dd.cs)]) (ps := [LnsA 0 xs, OwnA 0 59 3 (.slice A2 ls.length c2) ls.length (lns ls)]) hput (LnsA 0 (xs ++ [(id, Value.slice A2 ls.length c2, ls)])) (fun G h => LnsA.join id h)
      simp only [List.cons_append, List.nil_append] at hcl
      have hcl := hcl.read (i := 1) rfl
      simp only [List.set_cons_zero, List.set_cons_succ] at hcl
      have HY := Lib.hid hcl
      clear hput hcl hz6
      iterate 2
        first | (apply s_off; (focus rfl); (focus rfl); (focus rfl)) | (apply s_yield; (focus rfl); (focus rfl); (focus rfl); (focus rfl); (focus (intro W hS; obtain ⟨hS1, hS2, hS3⟩ := hS; go_simp; (try simp (disch := omega) only [wrap_in, wrap_in', wrap_u16, wrap_u8, wrap_u32, wrap_u64, rem_in, quo_in]); first | done | with_reducible rfl | (constructor <;> with_reducible rfl))))
      first | (apply s_last; (focus rfl); (focus rfl); (focus rfl); (focus rfl); (focus (go_simp; (try simp (disch := omega) only [wrap_in, wrap_in', wrap_u16, wrap_u8, wrap_u32, wrap_u64, rem_in, quo_in]); first | done | with_reducible rfl | (constructor <;> with_reducible rfl)))) | (apply s_laststore; (focus rfl); (focus rfl); (focus rfl); (focus rfl); (focus (go_simp; (try simp (disch := omega) only [wrap_in, wrap_in', wrap_u16, wrap_u8, wrap_u32, wrap_u64, rem_in, quo_in]); first | done | with_reducible rfl | (constructor <;> with_reducible rfl))))
      refine s_done ?_
      clear y0 y1 f0 f1 yb0 yb1
      repeat first
        | apply d_seq
        | with_reducible apply kt_normal
        | apply l_nil
        | apply d_region
        | (apply l_off; (focus rfl); (focus rfl))
        | (apply l_val; (focus rfl); (focus rfl); (focus rfl); (focus (go_simp; (try simp (disch := omega) only [wrap_in, wrap_in', wrap_u16, wrap_u8, wrap_u32, wrap_u64, rem_in, quo_in]); first | done | with_reducible rfl | (constructor <;> with_reducible rfl))))
        | (apply l_store; (focus rfl); (focus rfl); (focus rfl); (focus (go_simp; (try simp (disch := omega) only [wrap_in, wrap_in', wrap_u16, wrap_u8, wrap_u32, wrap_u64, rem_in, quo_in]); first | done | with_reducible rfl | (constructor <;> with_reducible rfl))))
        | apply d_block
        | (apply d_true; (focus rfl); (focus rfl))
        | (apply d_false; (focus rfl); (focus rfl))
        | apply d_skip
        | apply d_exit
        | apply d_ret
        | with_reducible apply kt_ret
        | with_reducible apply kt_exit
        | with_reducible apply kb_normal
        | with_reducible apply kb_ret
        | with_reducible apply kb_here
        | with_reducible apply kl_ret
        | with_reducible apply kl_exit
        | with_reducible apply kc_ret
        | with_reducible apply kc_exit
        | (with_reducible apply kb_there; (focus rfl))
      refine ⟨rfl, _, (by first | (simp [resultsG, resOne, Try.results14, rho, List.lookup]; done) | (simp [resultsG, resOne, Try.results14, rho, List.lookup]; rfl)), ?_⟩
      refine ⟨rfl, ?_⟩
      have hb := RLRep.back (xs := xs ++ [(id, Value.slice A2 ls.length c2, ls)]) (ds := d.ds) (d := ⟨d.os ++ [(id, ls)], d.ds⟩) HD'.out (lv := .slice A6 (xs.length + 1) c6) (dv := dv) (by rw [List.map_append, HE.out.1]; rfl) rfl (by
        unfold rlparts
        have hy := HY.out
        rw [Nat.zero_add] at hy
        rw [List.length_append, List.length_singleton]
        exact hy)
      exact ⟨(HK1.out.none).trans (hb.1.mono (fun k hk => .inl hk)), RLRep.move hb.2 (Nat.le_refl _) (fun k hk hl => ⟨by rcases hk with c | c; exact .inl c; exact .inr ⟨Nat.le_trans HK1.out.size c.1, c.2⟩, rfl⟩)⟩
  · have hop := HOP.out
    rw [if_pos h0] at hop
    rw [hop]
    have q0 : (er != 0) = true := by simpa using h0
    clear h0 hop
    repeat first
      | apply d_seq
      | with_reducible apply kt_normal
      | apply l_nil
      | apply d_region
      | (apply l_off; (focus rfl); (focus rfl))
      | (apply l_val; (focus rfl); (focus rfl); (focus rfl); (focus (go_simp; (try simp (disch := omega) only [wrap_in, wrap_in', wrap_u16, wrap_u8, wrap_u32, wrap_u64, rem_in, quo_in]); first | done | with_reducible rfl | (constructor <;> with_reducible rfl))))
      | (apply l_store; (focus rfl); (focus rfl); (focus rfl); (focus (go_simp; (try simp (disch := omega) only [wrap_in, wrap_in', wrap_u16, wrap_u8, wrap_u32, wrap_u64, rem_in, quo_in]); first | done | with_reducible rfl | (constructor <;> with_reducible rfl))))
      | apply d_block
      | (apply d_true; (focus rfl); (focus rfl))
      | (apply d_false; (focus rfl); (focus rfl))
      | apply d_skip
      | apply d_exit
      | apply d_ret
      | with_reducible apply kt_ret
      | with_reducible apply kt_exit
      | with_reducible apply kb_normal
      | with_reducible apply kb_ret
      | with_reducible apply kb_here
      | with_reducible apply kl_ret
      | with_reducible apply kl_exit
      | with_reducible apply kc_ret
      | with_reducible apply kc_exit
      | (with_reducible apply kb_there; (focus rfl))
    refine ⟨rfl, _, (by first | (simp [resultsG, resOne, Try.results14, rho, List.lookup]; done) | (simp [resultsG, resOne, Try.results14, rho, List.lookup]; rfl)), ?_⟩
    exact ⟨rfl, SAME.out _ HK1.out⟩
theorem rOpen_any (p : Nat) (d : RL) (id : Int) (v : Value) (ls : List Ln) (F G : Nat → Prop) (w : World) (h : RLRep w F p d) (hs : SeesIn w G 3 v ls.length (lns ls)) (hG : ∀ k, G k → ¬ F k) (hl : d.os.length ≤ 190) (hd' : (d.opened id ls).1.okay) :
    Calls Try.prog 14 #[.pointer (some ⟨p, 0, none⟩), .agg #[.int .u32 id, v]] w fun e w' => e = .returned (.int .i64 (d.opened id ls).2) ∧ Keep F w w' ∧ RLRep w' (fresh F w w') p (d.opened id ls).1 := by
  refine (rOpen_any' p d id v ls (fun k => F k ∧ k < w.heap.size) G w (h.move (Nat.le_refl _) (fun k hk hl => ⟨⟨hk, hl⟩, rfl⟩)) hs (fun k hk c => hG k hk c.1) (fun k hk => hk.2) hl hd').mono ?_
  rintro e w' ⟨rfl, hk, hr⟩
  exact ⟨rfl, hk.mono (fun k c => c.1), hr.move (Nat.le_refl _) (fun k c _ => ⟨by rcases c with c | c; exact .inl c.1; exact .inr c, rfl⟩)⟩
/-! Drop. -/
theorem pushF_oc {F : Nat → Prop} {w0 w : World} {L : List (Asrt 0)} (H : HasF F w0 w L) {k m : Nat} {v : Value} {xs : List (Int × Value × List Ln)} (hi : L[k]? = some (OwnA 0 34 2 v m (xs.flatMap oc))) (hm : m ≤ 1000) (id : Int) (A : Option Addr) (n c : Nat) (ls : List Ln) :
    ∃ g cap w', (Builtin.append_ #[27, 27] 27 #[v, .slice (some ⟨w.heap.size, 0, none⟩) 1 1]).run Try.prog (w.alloc (.cells #[.int .u32 id, .slice A n c] 34)) = .ok (.slice (some ⟨g, 0, none⟩) (m + 1) cap) w' ∧ m + 1 ≤ cap ∧ cap ≤ 9223372036854775807 ∧
      HasF F w0 w' (L.set k (OwnA 0 34 2 (.slice (some ⟨g, 0, none⟩) (m + 1) cap) (m + 1) ((xs ++ [(id, Value.slice A n c, ls)]).flatMap oc))) := by
  obtain ⟨i0, hi0, hz0, hz1, hz2⟩ := info_parts Try.infoOc
  have := H.push (P := Try.prog) hi 27 i0 _ 32 Try.underlying27 hi0 hz0 hz1 hz2 rfl (by decide) #[.int .u32 id, .slice A n c] rfl (by simp [Value.oneCell']) (by unfold maxLen; omega) (by omega) 27
  rw [List.flatMap_append]
  exact this
theorem pushF_dd {F : Nat → Prop} {w0 w : World} {L : List (Asrt 0)} (H : HasF F w0 w L) {k m : Nat} {v : Value} {xs : List Dd} (hi : L[k]? = some (OwnA 0 73 4 v m (xs.flatMap Dd.cs))) (hm : m ≤ 1000) (y : Dd) :
    ∃ g cap w', (Builtin.append_ #[28, 28] 28 #[v, .slice (some ⟨w.heap.size, 0, none⟩) 1 1]).run Try.prog (w.alloc (.cells #[.int .i64 y.kind, .int .u32 y.id, .int .u16 y.item, .int .i64 y.qty] 73)) = .ok (.slice (some ⟨g, 0, none⟩) (m + 1) cap) w' ∧ m + 1 ≤ cap ∧ cap ≤ 9223372036854775807 ∧
      HasF F w0 w' (L.set k (OwnA 0 73 4 (.slice (some ⟨g, 0, none⟩) (m + 1) cap) (m + 1) ((xs ++ [y]).flatMap Dd.cs))) := by
  obtain ⟨i0, hi0, hz0, hz1, hz2⟩ := info_parts Try.infoDd
  have := H.push (P := Try.prog) hi 28 i0 _ 24 Try.underlying28 hi0 hz0 hz1 hz2 rfl (by decide) #[.int .i64 y.kind, .int .u32 y.id, .int .u16 y.item, .int .i64 y.qty] rfl (by simp [Value.oneCell']) (by unfold maxLen; omega) (by omega) 28
  rw [List.flatMap_append]
  exact this
theorem filt_at {α : Type} {l : List α} {k : Nat} {y : α} (hy : l[k]? = some y) (p : α → Bool) : (l.take (k + 1)).filter p = (l.take k).filter p ++ if p y = true then [y] else [] := by
  rw [List.take_add_one, hy, Option.toList_some, List.filter_append]
  by_cases h : p y = true <;> simp [h]
theorem filt_short {α : Type} (l : List α) (k : Nat) (p : α → Bool) : ((l.take k).filter p).length ≤ k := Nat.le_trans (List.length_filter_le _ _) (by rw [List.length_take]; omega)
set_option maxRecDepth 100000 in
set_option maxHeartbeats 4000000 in
theorem rDrop_any (p : Nat) (d : RL) (id : Int) (F : Nat → Prop) (w : World) (h : RLRep w F p d) (hl : d.os.length ≤ 190) (hl2 : d.ds.length ≤ 190) (hd' : (d.dropped id).1.okay) :
    Calls Try.prog 17 #[.pointer (some ⟨p, 0, none⟩), .int .u32 id] w fun e w' => e = .returned (.int .i64 (d.dropped id).2) ∧ Keep F w w' ∧ RLRep w' (fresh F w w') p (d.dropped id).1 := by
  have same : ∀ w', Keep none_ w w' → Keep F w w' ∧ RLRep w' (fresh F w w') p d := fun w' hk => ⟨hk.none, h.move hk.size (fun k hF hl => ⟨.inl hF, hk.block k hl (fun c => c)⟩)⟩
  have hfd := rFind_any p d id F w h
  have hdr : d.dropped id = if (d.ls.get id).isSome = true then (⟨d.os.filter fun p => p.1 != id, d.ds.filter fun x => x.id != id⟩, 0) else (d, 6) := rfl
  obtain ⟨hok, xs, lv, dv, hxs, hp⟩ := h
  have hz := HasF.start hp
  have hxl : xs.length ≤ 190 := by have := congrArg List.length hxs; rw [List.length_map] at this; omega
  cases hj : sidx d.ls id with
  | none =>
    rw [get_none hj, if_neg (by simp)] at hdr
    rw [hdr]
    rw [sidx_ls] at hj
    have hpi : (pidx d.os fun q => q.1 == id) = -1 := by unfold pidx; rw [hj]
    rw [hpi] at hfd
    have HFD := Lib.hid hfd
    have SAME := Lib.hid same
    clear hfd same
    clear hz hp hj hpi hdr hd'
    refine d_calls (n := 79) Try.func17 rfl rfl (by simp) [(0, .pointer (some ⟨p, 0, none⟩)), (1, .int .u32 id)] (by simp) ?_
    repeat first
      | apply d_seq
      | with_reducible apply kt_normal
      | apply l_nil
      | apply d_region
      | (apply l_off; (focus rfl); (focus rfl))
      | (apply l_val; (focus rfl); (focus rfl); (focus rfl); (focus (go_simp; (try simp (disch := omega) only [wrap_in, wrap_in', wrap_u16, wrap_u8, wrap_u32, wrap_u64, rem_in, quo_in]); first | done | with_reducible rfl | (constructor <;> with_reducible rfl))))
      | (apply l_store; (focus rfl); (focus rfl); (focus rfl); (focus (go_simp; (try simp (disch := omega) only [wrap_in, wrap_in', wrap_u16, wrap_u8, wrap_u32, wrap_u64, rem_in, quo_in]); first | done | with_reducible rfl | (constructor <;> with_reducible rfl))))
      | apply d_block
      | (apply d_true; (focus rfl); (focus rfl))
      | (apply d_false; (focus rfl); (focus rfl))
      | apply d_skip
      | apply d_exit
      | apply d_ret
      | with_reducible apply kt_ret
      | with_reducible apply kt_exit
      | with_reducible apply kb_normal
      | with_reducible apply kb_ret
      | with_reducible apply kb_here
      | with_reducible apply kl_ret
      | with_reducible apply kl_exit
      | with_reducible apply kc_ret
      | with_reducible apply kc_exit
      | (with_reducible apply kb_there; (focus rfl))
    refine l_call rfl rfl rfl (by first | (go_simp; done) | (go_simp; rfl)) (HFD.out) ?_
    rintro e w' ⟨rfl, rfl⟩
    refine ⟨_, rfl, ?_⟩
    repeat first
      | apply d_seq
      | with_reducible apply kt_normal
      | apply l_nil
      | apply d_region
      | (apply l_off; (focus rfl); (focus rfl))
      | (apply l_val; (focus rfl); (focus rfl); (focus rfl); (focus (go_simp; (try simp (disch := omega) only [wrap_in, wrap_in', wrap_u16, wrap_u8, wrap_u32, wrap_u64, rem_in, quo_in]); first | done | with_reducible rfl | (constructor <;> with_reducible rfl))))
      | (apply l_store; (focus rfl); (focus rfl); (focus rfl); (focus (go_simp; (try simp (disch := omega) only [wrap_in, wrap_in', wrap_u16, wrap_u8, wrap_u32, wrap_u64, rem_in, quo_in]); first | done | with_reducible rfl | (constructor <;> with_reducible rfl))))
      | apply d_block
      | (apply d_true; (focus rfl); (focus rfl))
      | (apply d_false; (focus rfl); (focus rfl))
      | apply d_skip
      | apply d_exit
      | apply d_ret
      | with_reducible apply kt_ret
      | with_reducible apply kt_exit
      | with_reducible apply kb_normal
      | with_reducible apply kb_ret
      | with_reducible apply kb_here
      | with_reducible apply kl_ret
      | with_reducible apply kl_exit
      | with_reducible apply kc_ret
      | with_reducible apply kc_exit
      | (with_reducible apply kb_there; (focus rfl))
    refine ⟨rfl, _, (by first | (simp [resultsG, resOne, Try.results17, rho, List.lookup]; done) | (simp [resultsG, resOne, Try.results17, rho, List.lookup]; rfl)), ?_⟩
    exact ⟨rfl, SAME.out _ (Keep.refl _ _)⟩
  | some j =>
    obtain ⟨ls', e1, e2, e3⟩ := idx_in hj
    rw [e3, if_pos (show (some _).isSome = true from rfl)] at hdr
    rw [hdr] at hd' ⊢
    rw [sidx_ls] at hj
    have hpi : (pidx d.os fun q => q.1 == id) = (j : Int) := by unfold pidx; rw [hj]
    rw [hpi] at hfd
    have qj : decide ((j : Int) < 0) = false := decide_eq_false (by omega)
    obtain ⟨c0, c1, f0, f1⟩ := blk2 (hz.blk (i := 0) rfl)
    obtain ⟨G1, hs1, A1, n1, rfl, hb3, hb4⟩ := hz.sees (i := 1) rfl
    obtain ⟨G2, hs2, A2, n2, rfl, hb5, hb6⟩ := hz.sees (i := 2) rfl
    have hz := hz.nilRow 34 2
    unfold rlparts at hz
    simp only [List.cons_append, List.nil_append] at hz
    have HZ := Lib.hid hz
    have HFD := Lib.hid hfd
    have HD' := Lib.hid hd'
    have HXS := Lib.hid hxs
    clear hfd hd' hxs
    clear hz hp hj hpi hdr e1 e2 e3 same hs1 hs2
    refine d_calls (n := 79) Try.func17 rfl rfl (by simp) [(0, .pointer (some ⟨p, 0, none⟩)), (1, .int .u32 id)] (by simp) ?_
    repeat first
      | apply d_seq
      | with_reducible apply kt_normal
      | apply l_nil
      | apply d_region
      | (apply l_off; (focus rfl); (focus rfl))
      | (apply l_val; (focus rfl); (focus rfl); (focus rfl); (focus (go_simp; (try simp (disch := omega) only [wrap_in, wrap_in', wrap_u16, wrap_u8, wrap_u32, wrap_u64, rem_in, quo_in]); first | done | with_reducible rfl | (constructor <;> with_reducible rfl))))
      | (apply l_store; (focus rfl); (focus rfl); (focus rfl); (focus (go_simp; (try simp (disch := omega) only [wrap_in, wrap_in', wrap_u16, wrap_u8, wrap_u32, wrap_u64, rem_in, quo_in]); first | done | with_reducible rfl | (constructor <;> with_reducible rfl))))
      | apply d_block
      | (apply d_true; (focus rfl); (focus rfl))
      | (apply d_false; (focus rfl); (focus rfl))
      | apply d_skip
      | apply d_exit
      | apply d_ret
      | with_reducible apply kt_ret
      | with_reducible apply kt_exit
      | with_reducible apply kb_normal
      | with_reducible apply kb_ret
      | with_reducible apply kb_here
      | with_reducible apply kl_ret
      | with_reducible apply kl_exit
      | with_reducible apply kc_ret
      | with_reducible apply kc_exit
      | (with_reducible apply kb_there; (focus rfl))
    refine l_call rfl rfl rfl (by first | (go_simp; done) | (go_simp; rfl)) (HFD.out) ?_
    rintro e w' ⟨rfl, rfl⟩
    refine ⟨_, rfl, ?_⟩
    repeat first
      | apply d_seq
      | with_reducible apply kt_normal
      | apply l_nil
      | apply d_region
      | (apply l_off; (focus rfl); (focus rfl))
      | (apply l_val; (focus rfl); (focus rfl); (focus rfl); (focus (go_simp; (try simp (disch := omega) only [wrap_in, wrap_in', wrap_u16, wrap_u8, wrap_u32, wrap_u64, rem_in, quo_in]); first | done | with_reducible rfl | (constructor <;> with_reducible rfl))))
      | (apply l_store; (focus rfl); (focus rfl); (focus rfl); (focus (go_simp; (try simp (disch := omega) only [wrap_in, wrap_in', wrap_u16, wrap_u8, wrap_u32, wrap_u64, rem_in, quo_in]); first | done | with_reducible rfl | (constructor <;> with_reducible rfl))))
      | ((fail_if_success (with_reducible apply d_block (id := 0))); apply d_block)
      | (apply d_true; (focus rfl); (focus rfl))
      | (apply d_false; (focus rfl); (focus rfl))
      | apply d_skip
      | apply d_exit
      | apply d_ret
      | with_reducible apply kt_ret
      | with_reducible apply kt_exit
      | with_reducible apply kb_normal
      | with_reducible apply kb_ret
      | with_reducible apply kb_here
      | with_reducible apply kl_ret
      | with_reducible apply kl_exit
      | with_reducible apply kc_ret
      | with_reducible apply kc_exit
      | (with_reducible apply kb_there; (focus rfl))
    refine d_join (fun D wr => ∃ (A5 : Option Addr) (n5 : Nat), D = [(0, .pointer (some ⟨p, 0, none⟩)), (1, .int .u32 id), (5, .slice A5 (xs.filter fun x => x.1 != id).length n5)] ∧ Hid (HasF F w wr [BlkA 0 p #[.slice A1 xs.length n1, .slice A2 d.ds.length n2] 30, SeesA 0 2 (.slice A1 xs.length n1) xs.length (xs.flatMap oc), SeesA 0 4 (.slice A2 d.ds.length n2) d.ds.length (d.ds.flatMap Dd.cs), LnsA 0 xs, OwnA 0 34 2 (.slice A5 (xs.filter fun x => x.1 != id).length n5) (xs.filter fun x => x.1 != id).length ((xs.filter fun x => x.1 != id).flatMap oc)])) ?_ (fun D wr hcut => ?_)
    · repeat first
        | apply d_seq
        | with_reducible apply kt_normal
        | apply l_nil
        | apply d_region
        | (apply l_off; (focus rfl); (focus rfl))
        | (apply l_val; (focus rfl); (focus rfl); (focus rfl); (focus (go_simp; (try simp (disch := omega) only [wrap_in, wrap_in', wrap_u16, wrap_u8, wrap_u32, wrap_u64, rem_in, quo_in]); first | done | with_reducible rfl | (constructor <;> with_reducible rfl))))
        | (apply l_store; (focus rfl); (focus rfl); (focus rfl); (focus (go_simp; (try simp (disch := omega) only [wrap_in, wrap_in', wrap_u16, wrap_u8, wrap_u32, wrap_u64, rem_in, quo_in]); first | done | with_reducible rfl | (constructor <;> with_reducible rfl))))
        | apply d_block
        | (apply d_true; (focus rfl); (focus rfl))
        | (apply d_false; (focus rfl); (focus rfl))
        | apply d_skip
        | apply d_exit
        | apply d_ret
        | with_reducible apply kt_ret
        | with_reducible apply kt_exit
        | with_reducible apply kb_normal
        | with_reducible apply kb_ret
        | with_reducible apply kb_here
        | with_reducible apply kl_ret
        | with_reducible apply kl_exit
        | with_reducible apply kc_ret
        | with_reducible apply kc_exit
        | (with_reducible apply kb_there; (focus rfl))
      clear c0 c1 f0 f1
      refine d_loop (fun m D wr => ∃ (k : Nat) (A5 : Option Addr) (n5 : Nat), m = xs.length - k ∧ k ≤ xs.length ∧ D = [(0, .pointer (some ⟨p, 0, none⟩)), (1, .int .u32 id), (5, .slice A5 ((xs.take k).filter fun x => x.1 != id).length n5), (6, .int .i64 k)] ∧ Hid (HasF F w wr [BlkA 0 p #[.slice A1 xs.length n1, .slice A2 d.ds.length n2] 30, SeesA 0 2 (.slice A1 xs.length n1) xs.length (xs.flatMap oc), SeesA 0 4 (.slice A2 d.ds.length n2) d.ds.length (d.ds.flatMap Dd.cs), LnsA 0 xs, OwnA 0 34 2 (.slice A5 ((xs.take k).filter fun x => x.1 != id).length n5) ((xs.take k).filter fun x => x.1 != id).length (((xs.take k).filter fun x => x.1 != id).flatMap oc)])) (xs.length) _ (Subl.cons (t := 0) (by decide) rfl (Subl.cons (t := 1) (by decide) rfl (Subl.cons (t := 5) (by decide) rfl (Subl.cons (t := 6) (by decide) rfl (Subl.nil _ _))))) ?_ (fun m D wr hrel => ?_)
      · exact ⟨0, none, 0, rfl, Nat.zero_le _, rfl, HZ⟩
      · clear HZ
        obtain ⟨k, A5, n5, rfl, hk, rfl, HX⟩ := hrel
        obtain ⟨c0, c1, -⟩ := blk2 (HX.out.blk (i := 0) rfl)
        by_cases hlt : k < xs.length
        · obtain ⟨y, hy⟩ : ∃ y, xs[k]? = some y := ⟨_, List.getElem?_eq_getElem hlt⟩
          obtain ⟨G3, hs3, -⟩ := HX.out.sees (i := 1) rfl
          obtain ⟨g, o, rfl, -, -, d0, d1⟩ := sees_oc hs3 rfl hy
          obtain ⟨G4, hall, -⟩ := HX.out.get (i := 3) rfl
          have hsl := (show ∀ x ∈ xs, SeesIn wr G4 3 x.2.1 x.2.2.length (x.2.2.flatMap Ln.cs) from hall) y (List.mem_of_getElem? hy)
          obtain ⟨B, cB, hB, -⟩ := hsl.form
          obtain ⟨yi, yv, yl⟩ := y
          simp only at hB d0 d1
          subst hB
          have hst := filt_at hy fun x => x.1 != id
          have hsh := filt_short xs k fun x => x.1 != id
          simp only at hst
          obtain ⟨u, hu⟩ : ∃ u, (yi != id) = u := ⟨_, rfl⟩
          rw [hu] at hst
          generalize (xs.take k).filter (fun x => x.1 != id) = ys at *
          have HYY := Lib.hid hy
          clear hs3 hall hsl hy
          cases u with
          | false =>
            rw [if_neg (by simp), List.append_nil] at hst
            have HST := Lib.hid hst
            clear hst
            repeat first
              | apply d_seq
              | with_reducible apply kt_normal
              | apply l_nil
              | apply d_region
              | (apply l_off; (focus rfl); (focus rfl))
              | (apply l_val; (focus rfl); (focus rfl); (focus rfl); (focus (go_simp; (try simp (disch := omega) only [wrap_in, wrap_in', wrap_u16, wrap_u8, wrap_u32, wrap_u64, rem_in, quo_in]); first | done | with_reducible rfl | (constructor <;> with_reducible rfl))))
              | (apply l_store; (focus rfl); (focus rfl); (focus rfl); (focus (go_simp; (try simp (disch := omega) only [wrap_in, wrap_in', wrap_u16, wrap_u8, wrap_u32, wrap_u64, rem_in, quo_in]); first | done | with_reducible rfl | (constructor <;> with_reducible rfl))))
              | apply d_block
              | (apply d_true; (focus rfl); (focus rfl))
              | (apply d_false; (focus rfl); (focus rfl))
              | apply d_skip
              | apply d_exit
              | apply d_ret
              | with_reducible apply kt_ret
              | with_reducible apply kt_exit
              | with_reducible apply kb_normal
              | with_reducible apply kb_ret
              | with_reducible apply kb_here
              | with_reducible apply kl_ret
              | with_reducible apply kl_exit
              | with_reducible apply kc_ret
              | with_reducible apply kc_exit
              | (with_reducible apply kb_there; (focus rfl))
            refine kl_normal (xs.length - (k + 1)) _ (by omega) (Subl.cons (t := 0) (by decide) rfl (Subl.cons (t := 1) (by decide) rfl (Subl.cons (t := 5) (by decide) rfl (Subl.cons (t := 6) (by decide) rfl (Subl.nil _ _))))) ?_
            exact ⟨k + 1, A5, n5, rfl, by omega, by rw [HST.out]; rfl, by rw [HST.out]; exact HX⟩
          | true =>
            rw [if_pos rfl] at hst
            obtain ⟨g2, cap, w5, hr, q1, q2, hz5⟩ := pushF_oc HX.out (k := 4) rfl (by omega) yi B yl.length cB yl
            simp only [List.set_cons_zero, List.set_cons_succ] at hz5
            have HST := Lib.hid hst
            have HR := Lib.hid hr
            clear hst hr
            repeat first
              | apply d_seq
              | with_reducible apply kt_normal
              | apply l_nil
              | apply d_region
              | (apply l_off; (focus rfl); (focus rfl))
              | (apply l_val; (focus rfl); (focus rfl); (focus rfl); (focus (go_simp; (try simp (disch := omega) only [wrap_in, wrap_in', wrap_u16, wrap_u8, wrap_u32, wrap_u64, rem_in, quo_in]); first | done | with_reducible rfl | (constructor <;> with_reducible rfl))))
              | (apply l_store; (focus rfl); (focus rfl); (focus rfl); (focus (go_simp; (try simp (disch := omega) only [wrap_in, wrap_in', wrap_u16, wrap_u8, wrap_u32, wrap_u64, rem_in, quo_in]); first | done | with_reducible rfl | (constructor <;> with_reducible rfl))))
              | apply d_block
              | (apply d_true; (focus rfl); (focus rfl))
              | (apply d_false; (focus rfl); (focus rfl))
              | apply d_skip
              | apply d_exit
              | apply d_ret
              | with_reducible apply kt_ret
              | with_reducible apply kt_exit
              | with_reducible apply kb_normal
              | with_reducible apply kb_ret
              | with_reducible apply kb_here
              | with_reducible apply kl_ret
              | with_reducible apply kl_exit
              | with_reducible apply kc_ret
              | with_reducible apply kc_exit
              | (with_reducible apply kb_there; (focus rfl))
            refine l_val rfl rfl rfl (exec_append (.tmp 32) (.tmp 40) 27 rfl _ _ rfl rfl HR.out) ?_
            clear HX c0 c1 d0 d1
            have HX := Lib.hid hz5
            clear hz5
            repeat first
              | apply d_seq
              | with_reducible apply kt_normal
              | apply l_nil
              | apply d_region
              | (apply l_off; (focus rfl); (focus rfl))
              | (apply l_val; (focus rfl); (focus rfl); (focus rfl); (focus (go_simp; (try simp (disch := omega) only [wrap_in, wrap_in', wrap_u16, wrap_u8, wrap_u32, wrap_u64, rem_in, quo_in]); first | done | with_reducible rfl | (constructor <;> with_reducible rfl))))
              | (apply l_store; (focus rfl); (focus rfl); (focus rfl); (focus (go_simp; (try simp (disch := omega) only [wrap_in, wrap_in', wrap_u16, wrap_u8, wrap_u32, wrap_u64, rem_in, quo_in]); first | done | with_reducible rfl | (constructor <;> with_reducible rfl))))
              | apply d_block
              | (apply d_true; (focus rfl); (focus rfl))
              | (apply d_false; (focus rfl); (focus rfl))
              | apply d_skip
              | apply d_exit
              | apply d_ret
              | with_reducible apply kt_ret
              | with_reducible apply kt_exit
              | with_reducible apply kb_normal
              | with_reducible apply kb_ret
              | with_reducible apply kb_here
              | with_reducible apply kl_ret
              | with_reducible apply kl_exit
              | with_reducible apply kc_ret
              | with_reducible apply kc_exit
              | (with_reducible apply kb_there; (focus rfl))
            refine kl_normal (xs.length - (k + 1)) _ (by omega) (Subl.cons (t := 0) (by decide) rfl (Subl.cons (t := 1) (by decide) rfl (Subl.cons (t := 5) (by decide) rfl (Subl.cons (t := 6) (by decide) rfl (Subl.nil _ _))))) ?_
            have e1 : (ys ++ [(yi, Value.slice B yl.length cB, yl)]).length = ys.length + 1 := by simp
            exact ⟨k + 1, _, cap, rfl, by omega, by rw [HST.out, e1]; rfl, by rw [HST.out, e1]; exact HX⟩
        · have hk' : k = xs.length := by omega
          subst hk'
          rw [List.take_length] at HX
          rw [List.take_length]
          repeat first
            | apply d_seq
            | with_reducible apply kt_normal
            | apply l_nil
            | apply d_region
            | (apply l_off; (focus rfl); (focus rfl))
            | (apply l_val; (focus rfl); (focus rfl); (focus rfl); (focus (go_simp; (try simp (disch := omega) only [wrap_in, wrap_in', wrap_u16, wrap_u8, wrap_u32, wrap_u64, rem_in, quo_in]); first | done | with_reducible rfl | (constructor <;> with_reducible rfl))))
            | (apply l_store; (focus rfl); (focus rfl); (focus rfl); (focus (go_simp; (try simp (disch := omega) only [wrap_in, wrap_in', wrap_u16, wrap_u8, wrap_u32, wrap_u64, rem_in, quo_in]); first | done | with_reducible rfl | (constructor <;> with_reducible rfl))))
            | apply d_block
            | (apply d_true; (focus rfl); (focus rfl))
            | (apply d_false; (focus rfl); (focus rfl))
            | apply d_skip
            | apply d_exit
            | apply d_ret
            | with_reducible apply kt_ret
            | with_reducible apply kt_exit
            | with_reducible apply kb_normal
            | with_reducible apply kb_ret
            | with_reducible apply kb_here
            | with_reducible apply kl_ret
            | with_reducible apply kl_exit
            | with_reducible apply kc_ret
            | with_reducible apply kc_exit
            | (with_reducible apply kb_there; (focus rfl))
          refine kc_normal _ (Subl.cons (t := 0) (by decide) rfl (Subl.cons (t := 1) (by decide) rfl (Subl.cons (t := 5) (by decide) rfl (Subl.nil _ _)))) ?_
          exact ⟨A5, n5, rfl, HX⟩
    · clear HZ c0 c1 f0 f1
      obtain ⟨A5, n5, rfl, HX⟩ := hcut
      repeat first
        | apply d_seq
        | with_reducible apply kt_normal
        | apply l_nil
        | apply d_region
        | (apply l_off; (focus rfl); (focus rfl))
        | (apply l_val; (focus rfl); (focus rfl); (focus rfl); (focus (go_simp; (try simp (disch := omega) only [wrap_in, wrap_in', wrap_u16, wrap_u8, wrap_u32, wrap_u64, rem_in, quo_in]); first | done | with_reducible rfl | (constructor <;> with_reducible rfl))))
        | (apply l_store; (focus rfl); (focus rfl); (focus rfl); (focus (go_simp; (try simp (disch := omega) only [wrap_in, wrap_in', wrap_u16, wrap_u8, wrap_u32, wrap_u64, rem_in, quo_in]); first | done | with_reducible rfl | (constructor <;> with_reducible rfl))))
        | apply d_block
        | (apply d_true; (focus rfl); (focus rfl))
        | (apply d_false; (focus rfl); (focus rfl))
        | apply d_skip
        | apply d_exit
        | apply d_ret
        | with_reducible apply kt_ret
        | with_reducible apply kt_exit
        | with_reducible apply kb_normal
        | with_reducible apply kb_ret
        | with_reducible apply kb_here
        | with_reducible apply kl_ret
        | with_reducible apply kl_exit
        | with_reducible apply kc_ret
        | with_reducible apply kc_exit
        | (with_reducible apply kb_there; (focus rfl))
      have hz := HX.out.nilRow 73 4
      simp only [List.cons_append, List.nil_append] at hz
      clear HX
      have HZ := Lib.hid hz
      clear hz
      generalize hxf : xs.filter (fun x => x.1 != id) = xf at *
      refine d_loop (fun m D wr => ∃ (k : Nat) (A7 : Option Addr) (n7 : Nat), m = d.ds.length - k ∧ k ≤ d.ds.length ∧ D = [(0, .pointer (some ⟨p, 0, none⟩)), (1, .int .u32 id), (5, .slice A5 xf.length n5), (7, .slice A7 ((d.ds.take k).filter fun x => x.id != id).length n7), (8, .int .i64 k)] ∧ Hid (HasF F w wr [BlkA 0 p #[.slice A1 xs.length n1, .slice A2 d.ds.length n2] 30, SeesA 0 2 (.slice A1 xs.length n1) xs.length (xs.flatMap oc), SeesA 0 4 (.slice A2 d.ds.length n2) d.ds.length (d.ds.flatMap Dd.cs), LnsA 0 xs, OwnA 0 34 2 (.slice A5 xf.length n5) xf.length (xf.flatMap oc), OwnA 0 73 4 (.slice A7 ((d.ds.take k).filter fun x => x.id != id).length n7) ((d.ds.take k).filter fun x => x.id != id).length (((d.ds.take k).filter fun x => x.id != id).flatMap Dd.cs)])) (d.ds.length) _ (Subl.cons (t := 0) (by decide) rfl (Subl.cons (t := 1) (by decide) rfl (Subl.cons (t := 5) (by decide) rfl (Subl.cons (t := 7) (by decide) rfl (Subl.cons (t := 8) (by decide) rfl (Subl.nil _ _)))))) ?_ (fun m D wr hrel => ?_)
      · exact ⟨0, none, 0, rfl, Nat.zero_le _, rfl, HZ⟩
      · clear HZ
        obtain ⟨k, A7, n7, rfl, hk, rfl, HX⟩ := hrel
        obtain ⟨c0, c1, f0, f1⟩ := blk2 (HX.out.blk (i := 0) rfl)
        by_cases hlt : k < d.ds.length
        · obtain ⟨y, hy⟩ : ∃ y, d.ds[k]? = some y := ⟨_, List.getElem?_eq_getElem hlt⟩
          obtain ⟨G3, hs3, -⟩ := HX.out.sees (i := 2) rfl
          obtain ⟨g, o, rfl, -, -, d0, d1, d2, d3⟩ := sees_dd hs3 rfl hy
          have hst := filt_at hy fun x => x.id != id
          have hsh := filt_short d.ds k fun x => x.id != id
          obtain ⟨u, hu⟩ : ∃ u, (y.id != id) = u := ⟨_, rfl⟩
          rw [hu] at hst
          generalize (d.ds.take k).filter (fun x => x.id != id) = ys at *
          have HYY := Lib.hid hy
          clear hs3 hy
          cases u with
          | false =>
            rw [if_neg (by simp), List.append_nil] at hst
            have HST := Lib.hid hst
            clear hst
            repeat first
              | apply d_seq
              | with_reducible apply kt_normal
              | apply l_nil
              | apply d_region
              | (apply l_off; (focus rfl); (focus rfl))
              | (apply l_val; (focus rfl); (focus rfl); (focus rfl); (focus (go_simp; (try simp (disch := omega) only [wrap_in, wrap_in', wrap_u16, wrap_u8, wrap_u32, wrap_u64, rem_in, quo_in]); first | done | with_reducible rfl | (constructor <;> with_reducible rfl))))
              | (apply l_store; (focus rfl); (focus rfl); (focus rfl); (focus (go_simp; (try simp (disch := omega) only [wrap_in, wrap_in', wrap_u16, wrap_u8, wrap_u32, wrap_u64, rem_in, quo_in]); first | done | with_reducible rfl | (constructor <;> with_reducible rfl))))
              | apply d_block
              | (apply d_true; (focus rfl); (focus rfl))
              | (apply d_false; (focus rfl); (focus rfl))
              | apply d_skip
              | apply d_exit
              | apply d_ret
              | with_reducible apply kt_ret
              | with_reducible apply kt_exit
              | with_reducible apply kb_normal
              | with_reducible apply kb_ret
              | with_reducible apply kb_here
              | with_reducible apply kl_ret
              | with_reducible apply kl_exit
              | with_reducible apply kc_ret
              | with_reducible apply kc_exit
              | (with_reducible apply kb_there; (focus rfl))
            refine kl_normal (d.ds.length - (k + 1)) _ (by omega) (Subl.cons (t := 0) (by decide) rfl (Subl.cons (t := 1) (by decide) rfl (Subl.cons (t := 5) (by decide) rfl (Subl.cons (t := 7) (by decide) rfl (Subl.cons (t := 8) (by decide) rfl (Subl.nil _ _)))))) ?_
            exact ⟨k + 1, A7, n7, rfl, by omega, by rw [HST.out]; rfl, by rw [HST.out]; exact HX⟩
          | true =>
            rw [if_pos rfl] at hst
            obtain ⟨g2, cap, w5, hr, q1, q2, hz5⟩ := pushF_dd HX.out (k := 5) rfl (by omega) y
            simp only [List.set_cons_zero, List.set_cons_succ] at hz5
            have HST := Lib.hid hst
            have HR := Lib.hid hr
            clear hst hr
            repeat first
              | apply d_seq
              | with_reducible apply kt_normal
              | apply l_nil
              | apply d_region
              | (apply l_off; (focus rfl); (focus rfl))
              | (apply l_val; (focus rfl); (focus rfl); (focus rfl); (focus (go_simp; (try simp (disch := omega) only [wrap_in, wrap_in', wrap_u16, wrap_u8, wrap_u32, wrap_u64, rem_in, quo_in]); first | done | with_reducible rfl | (constructor <;> with_reducible rfl))))
              | (apply l_store; (focus rfl); (focus rfl); (focus rfl); (focus (go_simp; (try simp (disch := omega) only [wrap_in, wrap_in', wrap_u16, wrap_u8, wrap_u32, wrap_u64, rem_in, quo_in]); first | done | with_reducible rfl | (constructor <;> with_reducible rfl))))
              | apply d_block
              | (apply d_true; (focus rfl); (focus rfl))
              | (apply d_false; (focus rfl); (focus rfl))
              | apply d_skip
              | apply d_exit
              | apply d_ret
              | with_reducible apply kt_ret
              | with_reducible apply kt_exit
              | with_reducible apply kb_normal
              | with_reducible apply kb_ret
              | with_reducible apply kb_here
              | with_reducible apply kl_ret
              | with_reducible apply kl_exit
              | with_reducible apply kc_ret
              | with_reducible apply kc_exit
              | (with_reducible apply kb_there; (focus rfl))
            refine l_val rfl rfl rfl (exec_append (.tmp 61) (.tmp 69) 28 rfl _ _ rfl rfl HR.out) ?_
            clear HX c0 c1 f0 f1 d0 d1 d2 d3
            have HX := Lib.hid hz5
            clear hz5
            repeat first
              | apply d_seq
              | with_reducible apply kt_normal
              | apply l_nil
              | apply d_region
              | (apply l_off; (focus rfl); (focus rfl))
              | (apply l_val; (focus rfl); (focus rfl); (focus rfl); (focus (go_simp; (try simp (disch := omega) only [wrap_in, wrap_in', wrap_u16, wrap_u8, wrap_u32, wrap_u64, rem_in, quo_in]); first | done | with_reducible rfl | (constructor <;> with_reducible rfl))))
              | (apply l_store; (focus rfl); (focus rfl); (focus rfl); (focus (go_simp; (try simp (disch := omega) only [wrap_in, wrap_in', wrap_u16, wrap_u8, wrap_u32, wrap_u64, rem_in, quo_in]); first | done | with_reducible rfl | (constructor <;> with_reducible rfl))))
              | apply d_block
              | (apply d_true; (focus rfl); (focus rfl))
              | (apply d_false; (focus rfl); (focus rfl))
              | apply d_skip
              | apply d_exit
              | apply d_ret
              | with_reducible apply kt_ret
              | with_reducible apply kt_exit
              | with_reducible apply kb_normal
              | with_reducible apply kb_ret
              | with_reducible apply kb_here
              | with_reducible apply kl_ret
              | with_reducible apply kl_exit
              | with_reducible apply kc_ret
              | with_reducible apply kc_exit
              | (with_reducible apply kb_there; (focus rfl))
            refine kl_normal (d.ds.length - (k + 1)) _ (by omega) (Subl.cons (t := 0) (by decide) rfl (Subl.cons (t := 1) (by decide) rfl (Subl.cons (t := 5) (by decide) rfl (Subl.cons (t := 7) (by decide) rfl (Subl.cons (t := 8) (by decide) rfl (Subl.nil _ _)))))) ?_
            have e1 : (ys ++ [y]).length = ys.length + 1 := by simp
            exact ⟨k + 1, _, cap, rfl, by omega, by rw [HST.out, e1]; rfl, by rw [HST.out, e1]; exact HX⟩
        · have hk' : k = d.ds.length := by omega
          subst hk'
          rw [List.take_length] at HX
          rw [List.take_length]
          have hz1 := (HX.out.put (i := 0) rfl 0 (.slice A5 xf.length n5)).put (i := 0) rfl 1 (.slice A7 (d.ds.filter fun x => x.id != id).length n7)
          simp only [List.set_cons_zero] at hz1
          have hz1 := (hz1).sel [0, 4, 5, 3] (by decide)
          simp only [List.map_cons, List.map_nil, List.getElem?_cons_zero, List.getElem?_cons_succ, Option.getD_some] at hz1
          have hz1 := (hz1.read (i := 1) rfl).read (i := 2) rfl
          have hz1 := hz1.imp (i := 3) (P' := LnsA 0 xf) rfl (fun G h => (show ∀ x ∈ xf, SeesIn _ G 3 x.2.1 x.2.2.length (x.2.2.flatMap Ln.cs) from fun x hx => (show ∀ x ∈ xs, SeesIn _ G 3 x.2.1 x.2.2.length (x.2.2.flatMap Ln.cs) from h) x (by rw [← hxf] at hx; exact (List.mem_filter.1 hx).1)))
          simp only [List.set_cons_zero, List.set_cons_succ] at hz1
          have HY := Lib.hid hz1
          have HXF := Lib.hid hxf
          clear hz1 hxf
          repeat first
            | apply d_seq
            | with_reducible apply kt_normal
            | apply l_nil
            | apply d_region
            | (apply l_off; (focus rfl); (focus rfl))
            | (apply l_val; (focus rfl); (focus rfl); (focus rfl); (focus (go_simp; (try simp (disch := omega) only [wrap_in, wrap_in', wrap_u16, wrap_u8, wrap_u32, wrap_u64, rem_in, quo_in]); first | done | with_reducible rfl | (constructor <;> with_reducible rfl))))
            | (apply l_store; (focus rfl); (focus rfl); (focus rfl); (focus (go_simp; (try simp (disch := omega) only [wrap_in, wrap_in', wrap_u16, wrap_u8, wrap_u32, wrap_u64, rem_in, quo_in]); first | done | with_reducible rfl | (constructor <;> with_reducible rfl))))
            | apply d_block
            | (apply d_true; (focus rfl); (focus rfl))
            | (apply d_false; (focus rfl); (focus rfl))
            | apply d_skip
            | apply d_exit
            | apply d_ret
            | with_reducible apply kt_ret
            | with_reducible apply kt_exit
            | with_reducible apply kb_normal
            | with_reducible apply kb_ret
            | with_reducible apply kb_here
            | with_reducible apply kl_ret
            | with_reducible apply kl_exit
            | with_reducible apply kc_ret
            | with_reducible apply kc_exit
            | (with_reducible apply kb_there; (focus rfl))
          refine ⟨rfl, _, (by first | (simp [resultsG, resOne, Try.results17, rho, List.lookup]; done) | (simp [resultsG, resOne, Try.results17, rho, List.lookup]; rfl)), ?_⟩
          refine ⟨rfl, RLRep.back (xs := xf) (ds := d.ds.filter fun x => x.id != id) HD'.out (lv := .slice A5 xf.length n5) (dv := .slice A7 (d.ds.filter fun x => x.id != id).length n7) ?_ rfl ?_⟩
          · show xf.map (fun x => (x.1, x.2.2)) = d.os.filter fun p => p.1 != id
            rw [← HXF.out, ← HXS.out, List.filter_map]
            rfl
          · unfold rlparts
            exact HY.out
end Go.Proofs.Ytkjcmnhhgnlaeaa
