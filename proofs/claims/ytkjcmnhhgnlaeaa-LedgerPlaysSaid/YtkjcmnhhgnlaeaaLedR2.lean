import Derived.Test.YtkjcmnhhgnlaeaaLedR1
namespace Go.Proofs.Ytkjcmnhhgnlaeaa
set_option linter.unusedVariables false
set_option linter.unusedSimpArgs false
attribute [local go_sem] rho_const rho_func rho_hit rho_miss
open Go.RowKit
theorem Try.infoRR : (Try.prog.info? 53).map (fun i => (i.zero, i.size, i.bytes)) = some (some (.agg #[.int .u16 0, .int .i64 0, .int .i64 0, .int .i64 0, .int .i64 0]), 5, 40) := by kernel_rfl
theorem pushF_rr {F : Nat → Prop} {w0 w : World} {L : List (Asrt 0)} (H : HasF F w0 w L) {k m : Nat} {v : Value} {xs : List Rw} (hi : L[k]? = some (OwnA 0 53 5 v m (rws xs))) (hm : m ≤ 1000) (r : Rw) :
    ∃ g cap w', (Builtin.append_ #[47, 47] 47 #[v, .slice (some ⟨w.heap.size, 0, none⟩) 1 1]).run Try.prog (w.alloc (.cells #[.int .u16 r.item, .int .i64 r.wanted, .int .i64 r.picked, .int .i64 r.short, .int .i64 r.put] 53)) = .ok (.slice (some ⟨g, 0, none⟩) (m + 1) cap) w' ∧ m + 1 ≤ cap ∧ cap ≤ 9223372036854775807 ∧
      HasF F w0 w' (L.set k (OwnA 0 53 5 (.slice (some ⟨g, 0, none⟩) (m + 1) cap) (m + 1) (rws (xs ++ [r])))) := by
  obtain ⟨i0, hi0, hz0, hz1, hz2⟩ := info_parts Try.infoRR
  have := H.push (P := Try.prog) hi 47 i0 _ 40 Try.underlying47 hi0 hz0 hz1 hz2 rfl (by decide) #[.int .u16 r.item, .int .i64 r.wanted, .int .i64 r.picked, .int .i64 r.short, .int .i64 r.put] rfl (by simp [Value.oneCell']) (by unfold maxLen; omega) (by omega) 47
  rw [rws_snoc]
  exact this
theorem sees_rw {w : World} {F : Nat → Prop} {A : Option Addr} {n c : Nat} {l : List Rw} (h : SeesIn w F 5 (.slice A n c) n (rws l)) (hn : n = l.length) {k : Nat} {y : Rw} (hy : l[k]? = some y) : ∃ g o, A = some ⟨g, o, none⟩ ∧ n ≤ c ∧ c ≤ 9223372036854775807 ∧
    (w.cell? ⟨g, o + k * 5, none⟩ = some (.int .u16 y.item) ∧ w.cell? ⟨g, o + k * 5 + 1, none⟩ = some (.int .i64 y.wanted) ∧ w.cell? ⟨g, o + k * 5 + 2, none⟩ = some (.int .i64 y.picked) ∧ w.cell? ⟨g, o + k * 5 + 3, none⟩ = some (.int .i64 y.short) ∧ w.cell? ⟨g, o + k * 5 + 4, none⟩ = some (.int .i64 y.put)) := by
  obtain ⟨g, o, c', e, h1, h2, hF, hg, hc⟩ := sees_get (enc := Rw.cs) Rw.five h hn hy
  simp only [Value.slice.injEq, true_and] at e
  obtain ⟨rfl, rfl⟩ := e
  exact ⟨g, o, rfl, h1, by unfold maxLen at h2; omega, hc 0 _ rfl, by rw [Nat.add_assoc]; exact hc 1 _ rfl, by rw [Nat.add_assoc]; exact hc 2 _ rfl, by rw [Nat.add_assoc]; exact hc 3 _ rfl, by rw [Nat.add_assoc]; exact hc 4 _ rfl⟩
def RL.rows (d : RL) (id : Int) : List Rw := (d.ls.get id).getD []
theorem rows_len {d : RL} (h : d.okay) (id : Int) : (d.rows id).length ≤ 8 := by
  unfold RL.rows
  cases hj : sidx d.ls id with
  | none => rw [get_none hj]; simp
  | some j =>
    obtain ⟨ls, h1, h2, h3⟩ := idx_in hj
    rw [h3]
    have : 0 < ls.length ∧ ls.length ≤ 8 := right_len (h.right _ (List.mem_of_getElem? h1))
    simp only [Option.getD_some, List.length_map]
    omega
theorem row_bound {d : RL} (h : d.okay) (hl : d.ds.length ≤ 200) {id : Int} {r : Rw} (hr : r ∈ d.rows id) : (1 ≤ r.wanted ∧ r.wanted ≤ 9999) ∧ (0 ≤ r.picked ∧ r.picked ≤ 1999800) ∧ (0 ≤ r.short ∧ r.short ≤ 1999800) ∧ (0 ≤ r.put ∧ r.put ≤ 1999800) := by
  unfold RL.rows at hr
  cases hj : sidx d.ls id with
  | none => rw [get_none hj] at hr; simp at hr
  | some j =>
    obtain ⟨ls, h1, h2, h3⟩ := idx_in hj
    rw [h3] at hr
    simp only [Option.getD_some, List.mem_map] at hr
    obtain ⟨x, hx, rfl⟩ := hr
    obtain ⟨i, hi⟩ := List.mem_iff_getElem?.1 hx
    have hln := lineE_ok (right_line (h.right _ (List.mem_of_getElem? h1)) hi)
    have b := fun kk => sum_bound h hl d.ds.length kk id x.item
    rw [List.take_length] at b
    exact ⟨⟨hln.2.1, hln.2.2.1⟩, b 0, b 1, b 2⟩
set_option maxRecDepth 100000 in
set_option maxHeartbeats 4000000 in
theorem rRows_any (p : Nat) (d : RL) (id : Int) (F : Nat → Prop) (w : World) (h : RLRep w F p d) (hl : d.ds.length ≤ 200) :
    Calls Try.prog 19 #[.pointer (some ⟨p, 0, none⟩), .int .u32 id] w fun e w' => ∃ A c, e = .returned (.tuple #[.slice A (d.rows id).length c, .bool (d.ls.get id).isSome]) ∧ (d.rows id).length ≤ c ∧ c ≤ 9223372036854775807 ∧ HasF none_ w w' [OwnA 0 53 5 (.slice A (d.rows id).length c) (d.rows id).length (rws (d.rows id))] := by
  have hfind := rFind_any p d id F w h
  have hrep := h
  obtain ⟨hok, xs, lv, dv, hxs, hp⟩ := h
  have hx := HasF.start hp
  obtain ⟨c0, c1, -⟩ := blk2 (hx.blk (i := 0) rfl)
  obtain ⟨G, hs, A, c, rfl, hb1, hb2⟩ := hx.sees (i := 1) rfl
  obtain ⟨G2, hall, -⟩ := hx.get (i := 3) rfl
  have hall : ∀ x ∈ xs, SeesIn w G2 3 x.2.1 x.2.2.length (x.2.2.flatMap Ln.cs) := hall
  cases hj : sidx d.ls id with
  | none =>
    have hg : d.ls.get id = none := get_none hj
    have hr : d.rows id = [] := by unfold RL.rows; rw [hg]; rfl
    rw [hr, hg]
    rw [sidx_ls] at hj
    have hpi : (pidx d.os fun q => q.1 == id) = -1 := by unfold pidx; rw [hj]
    rw [hpi] at hfind
    have HFIND := Lib.hid hfind
    clear hfind
    clear hx hp hall hs hrep
    refine d_calls (n := 64) Try.func19 rfl rfl (by simp) [(0, .pointer (some ⟨p, 0, none⟩)), (1, .int .u32 id)] (by simp) ?_
    repeat first
      | apply d_seq
      | with_reducible apply kt_normal
      | apply l_nil
      | apply d_region
      | (apply l_off; (focus rfl); (focus rfl))
      | (apply l_val; (focus rfl); (focus rfl); (focus rfl); (focus (go_simp; (try simp (disch := omega) only [wrap_in, wrap_in', wrap_u16, wrap_u8, wrap_u32, wrap_u64, rem_in, quo_in]); first | done | with_reducible rfl | (constructor <;> with_reducible rfl))))
      | (apply l_store; (focus rfl); (focus rfl); (focus rfl); (focus (go_simp; (try simp (disch := omega) only [wrap_in, wrap_in', wrap_u16, wrap_u8, wrap_u32, wrap_u64, rem_in, quo_in]); first | done | with_reducible rfl | (constructor <;> with_reducible rfl))))
      | apply d_block
      | (apply d_true; (focus rfl); (focus rfl))
      | (apply d_false; (focus rfl); (focus rfl))
      | apply d_skip
      | apply d_exit
      | apply d_ret
      | with_reducible apply kt_ret
      | with_reducible apply kt_exit
      | with_reducible apply kb_normal
      | with_reducible apply kb_ret
      | with_reducible apply kb_here
      | with_reducible apply kl_ret
      | with_reducible apply kl_exit
      | with_reducible apply kc_ret
      | with_reducible apply kc_exit
      | (with_reducible apply kb_there; (focus rfl))
    refine l_call rfl rfl rfl (by first | (go_simp; done) | (go_simp; rfl)) (HFIND.out) ?_
    rintro e w' ⟨rfl, rfl⟩
    refine ⟨_, rfl, ?_⟩
    repeat first
      | apply d_seq
      | with_reducible apply kt_normal
      | apply l_nil
      | apply d_region
      | (apply l_off; (focus rfl); (focus rfl))
      | (apply l_val; (focus rfl); (focus rfl); (focus rfl); (focus (go_simp; (try simp (disch := omega) only [wrap_in, wrap_in', wrap_u16, wrap_u8, wrap_u32, wrap_u64, rem_in, quo_in]); first | done | with_reducible rfl | (constructor <;> with_reducible rfl))))
      | (apply l_store; (focus rfl); (focus rfl); (focus rfl); (focus (go_simp; (try simp (disch := omega) only [wrap_in, wrap_in', wrap_u16, wrap_u8, wrap_u32, wrap_u64, rem_in, quo_in]); first | done | with_reducible rfl | (constructor <;> with_reducible rfl))))
      | apply d_block
      | (apply d_true; (focus rfl); (focus rfl))
      | (apply d_false; (focus rfl); (focus rfl))
      | apply d_skip
      | apply d_exit
      | apply d_ret
      | with_reducible apply kt_ret
      | with_reducible apply kt_exit
      | with_reducible apply kb_normal
      | with_reducible apply kb_ret
      | with_reducible apply kb_here
      | with_reducible apply kl_ret
      | with_reducible apply kl_exit
      | with_reducible apply kc_ret
      | with_reducible apply kc_exit
      | (with_reducible apply kb_there; (focus rfl))
    refine ⟨rfl, _, (by first | (simp [resultsG, resOne, Try.results19, rho, List.lookup]; done) | (simp [resultsG, resOne, Try.results19, rho, List.lookup]; rfl)), ?_⟩
    exact ⟨none, 0, rfl, by simp, by omega, (HasF.nil (Keep.refl none_ _)).nilRow _ _⟩
  | some j =>
    obtain ⟨ls, h1, h2, h3⟩ := idx_in hj
    have hr : d.rows id = ls.map (rowD d.ds id) := by unfold RL.rows; rw [h3]; rfl
    rw [hr, h3]
    have h8 : ls.length ≤ 8 := (right_len (hok.right _ (List.mem_of_getElem? h1))).2
    rw [sidx_ls] at hj
    have hpi : (pidx d.os fun q => q.1 == id) = (j : Int) := by unfold pidx; rw [hj]
    rw [hpi] at hfind
    have hxj : ∃ x, xs[j]? = some x ∧ x.1 = id ∧ x.2.2 = ls := by
      rw [← hxs, List.getElem?_map] at h1
      obtain ⟨x, hx1, hx2⟩ := Option.map_eq_some_iff.1 h1
      simp only [Prod.mk.injEq] at hx2
      exact ⟨x, hx1, hx2.1, hx2.2⟩
    obtain ⟨x, hx1, hx2, hx3⟩ := hxj
    have hjl : j < xs.length := (List.getElem?_eq_some_iff.1 hx1).1
    obtain ⟨g, o, rfl, -, -, -, d1⟩ := sees_oc hs rfl hx1
    have hsl := hall x (List.mem_of_getElem? hx1)
    rw [hx3] at hsl
    obtain ⟨B, e, hxv, hb3, hb4, -⟩ := hsl.form
    rw [hxv] at hsl d1
    have C0 := Lib.hid c0
    have D1 := Lib.hid d1
    have HSUM := Lib.hid (fun (W : World) (hk : Keep none_ w W) (kk it : Int) => rSum_any p d kk id it F W (hrep.move hk.size (fun q hF hq => ⟨hF, hk.block q hq (fun c => c)⟩)) hl)
    have HX := Lib.hid ((HasF.nil (Keep.refl none_ w)).newRow 53 5)
    have HFIND := Lib.hid hfind
    have HSL := Lib.hid hsl
    clear hfind hsl
    clear hx hp hall hs hrep hx1 hx2 hx3 hxv hok h1 h2 h3 hr hpi hj c1 d1
    have hj0 : ((j : Int) < 0) = False := by simp
    refine d_calls (n := 64) Try.func19 rfl rfl (by simp) [(0, .pointer (some ⟨p, 0, none⟩)), (1, .int .u32 id)] (by simp) ?_
    repeat first
      | apply d_seq
      | with_reducible apply kt_normal
      | apply l_nil
      | apply d_region
      | (apply l_off; (focus rfl); (focus rfl))
      | (apply l_val; (focus rfl); (focus rfl); (focus rfl); (focus (go_simp; (try simp (disch := omega) only [wrap_in, wrap_in', wrap_u16, wrap_u8, wrap_u32, wrap_u64, rem_in, quo_in]); first | done | with_reducible rfl | (constructor <;> with_reducible rfl))))
      | (apply l_store; (focus rfl); (focus rfl); (focus rfl); (focus (go_simp; (try simp (disch := omega) only [wrap_in, wrap_in', wrap_u16, wrap_u8, wrap_u32, wrap_u64, rem_in, quo_in]); first | done | with_reducible rfl | (constructor <;> with_reducible rfl))))
      | apply d_block
      | (apply d_true; (focus rfl); (focus rfl))
      | (apply d_false; (focus rfl); (focus rfl))
      | apply d_skip
      | apply d_exit
      | apply d_ret
      | with_reducible apply kt_ret
      | with_reducible apply kt_exit
      | with_reducible apply kb_normal
      | with_reducible apply kb_ret
      | with_reducible apply kb_here
      | with_reducible apply kl_ret
      | with_reducible apply kl_exit
      | with_reducible apply kc_ret
      | with_reducible apply kc_exit
      | (with_reducible apply kb_there; (focus rfl))
    refine l_call rfl rfl rfl (by first | (go_simp; done) | (go_simp; rfl)) (HFIND.out) ?_
    rintro e w' ⟨rfl, rfl⟩
    refine ⟨_, rfl, ?_⟩
    repeat first
      | apply d_seq
      | with_reducible apply kt_normal
      | apply l_nil
      | apply d_region
      | (apply l_off; (focus rfl); (focus rfl))
      | (apply l_val; (focus rfl); (focus rfl); (focus rfl); (focus (go_simp; (try simp (disch := omega) only [wrap_in, wrap_in', wrap_u16, wrap_u8, wrap_u32, wrap_u64, rem_in, quo_in]); first | done | with_reducible rfl | (constructor <;> with_reducible rfl))))
      | (apply l_store; (focus rfl); (focus rfl); (focus rfl); (focus (go_simp; (try simp (disch := omega) only [wrap_in, wrap_in', wrap_u16, wrap_u8, wrap_u32, wrap_u64, rem_in, quo_in]); first | done | with_reducible rfl | (constructor <;> with_reducible rfl))))
      | apply d_block
      | (apply d_true; (focus rfl); (focus rfl))
      | (apply d_false; (focus rfl); (focus rfl))
      | apply d_skip
      | apply d_exit
      | apply d_ret
      | with_reducible apply kt_ret
      | with_reducible apply kt_exit
      | with_reducible apply kb_normal
      | with_reducible apply kb_ret
      | with_reducible apply kb_here
      | with_reducible apply kl_ret
      | with_reducible apply kl_exit
      | with_reducible apply kc_ret
      | with_reducible apply kc_exit
      | (with_reducible apply kb_there; (focus rfl))
    clear c0
    refine d_loop (fun m D wr => ∃ (k : Nat) (B2 : Option Addr) (d2 : Nat), m = ls.length - k ∧ k ≤ ls.length ∧ k ≤ d2 ∧ d2 ≤ 9223372036854775807 ∧ D = [(0, .pointer (some ⟨p, 0, none⟩)), (1, .int .u32 id), (6, .int .i64 j), (7, .slice B2 k d2), (8, .int .i64 k)] ∧ Hid (HasF none_ w wr [OwnA 0 53 5 (.slice B2 k d2) k (rws ((ls.take k).map (rowD d.ds id)))])) (ls.length) _ (Subl.cons (t := 0) (by decide) rfl (Subl.cons (t := 1) (by decide) rfl (Subl.cons (t := 6) (by decide) rfl (Subl.cons (t := 7) (by decide) rfl (Subl.cons (t := 8) (by decide) rfl (Subl.nil _ _)))))) ?_ (fun m D wr hrel => ?_)
    · exact ⟨0, _, 0, rfl, Nat.zero_le _, Nat.le_refl _, by omega, rfl, HX⟩
    · clear HX
      obtain ⟨k, B2, d2, rfl, hk, hd1, hd2, rfl, HX⟩ := hrel
      have hold := HX.out.old
      have c0 := (hold.cell (World.block_lt_of_cell? _ _ C0.out) (fun c => c)).trans C0.out
      have d1 := (hold.cell (World.block_lt_of_cell? _ _ D1.out) (fun c => c)).trans D1.out
      by_cases hlt : k < ls.length
      · obtain ⟨y, hy⟩ : ∃ y, ls[k]? = some y := ⟨_, List.getElem?_eq_getElem hlt⟩
        obtain ⟨g3, o3, c3, e3, -, -, -, -, z0, z1, z2⟩ := sees_line (HSL.out.keep hold) rfl hy
        simp only [Value.slice.injEq, true_and] at e3
        obtain ⟨rfl, rfl⟩ := e3
        have hst : (ls.take (k + 1)).map (rowD d.ds id) = (ls.take k).map (rowD d.ds id) ++ [rowD d.ds id y] := by rw [List.take_add_one, hy]; simp
        have hx := HX.out.box #[.int .u16 y.item, .int .u16 y.loc, .int .i64 y.qty] 59
        simp only [List.nil_append, List.cons_append] at hx
        obtain ⟨x0, x1, x2, -⟩ := blk3 (hx.blk (i := 1) rfl)
        clear HX
        have HX := Lib.hid hx
        have HST := Lib.hid hst
        have HOLD := Lib.hid hold
        clear hst hold
        clear hx hy
        repeat first
          | apply d_seq
          | with_reducible apply kt_normal
          | apply l_nil
          | apply d_region
          | (apply l_off; (focus rfl); (focus rfl))
          | (apply l_val; (focus rfl); (focus rfl); (focus rfl); (focus (go_simp; (try simp (disch := omega) only [wrap_in, wrap_in', wrap_u16, wrap_u8, wrap_u32, wrap_u64, rem_in, quo_in]); first | done | with_reducible rfl | (constructor <;> with_reducible rfl))))
          | (apply l_store; (focus rfl); (focus rfl); (focus rfl); (focus (go_simp; (try simp (disch := omega) only [wrap_in, wrap_in', wrap_u16, wrap_u8, wrap_u32, wrap_u64, rem_in, quo_in]); first | done | with_reducible rfl | (constructor <;> with_reducible rfl))))
          | apply d_block
          | (apply d_true; (focus rfl); (focus rfl))
          | (apply d_false; (focus rfl); (focus rfl))
          | apply d_skip
          | apply d_exit
          | apply d_ret
          | with_reducible apply kt_ret
          | with_reducible apply kt_exit
          | with_reducible apply kb_normal
          | with_reducible apply kb_ret
          | with_reducible apply kb_here
          | with_reducible apply kl_ret
          | with_reducible apply kl_exit
          | with_reducible apply kc_ret
          | with_reducible apply kc_exit
          | (with_reducible apply kb_there; (focus rfl))
        clear c0 d1 z0 z1 z2
        generalize wr.alloc (.cells #[.int .u16 y.item, .int .u16 y.loc, .int .i64 y.qty] 59) = wy at *
        generalize wr.heap.size = xb at *
        have e0 : wy.drew.cell? ⟨xb, 0, none⟩ = some (.int .u16 y.item) := x0
        have e2 : wy.drew.cell? ⟨xb, 2, none⟩ = some (.int .i64 y.qty) := x2
        have hc1 := HSUM.out wy.drew HX.out.drew.old 0 y.item
        have HC1 := Lib.hid hc1
        clear hc1
        clear x0 x1 x2
        refine d_draw (true, [([], []), ([], []), ([1], [1]), ([], []), ([3], [3]), ([], []), ([], []), ([], []), ([7], [7]), ([5, 6, 8], [5, 6, 8]), ([], []), ([], []), ([], []), ([12], [12]), ([10, 11, 13, 9], [10, 11, 13]), ([], []), ([], []), ([], []), ([17], [17]), ([15, 16, 18, 14], [15, 16, 18]), ([2, 4, 9, 14, 19], [2, 4, 9, 14, 19]), ([20], [20]), ([0, 21, 19], [0, 21]), ([22, 22, 0, 1, 2, 3, 4, 5, 6, 7, 8, 9, 10, 11, 12, 13, 14, 15, 16, 17, 18, 19, 20, 21, 22], [0, 22])]) [(0, 0), (0, 1), (0, 2), (0, 3), (0, 4), (0, 5), (0, 6), (0, 7), (0, 8), (0, 10), (0, 11), (0, 12), (0, 13), (0, 15), (0, 16), (0, 17), (0, 18), (1, 9), (1, 14), (1, 19), (0, 20), (1, 21), (1, 22), (0, 23)] [999999] (fun W => W.cell? ⟨xb, 0, none⟩ = some (.int .u16 y.item) ∧ W.cell? ⟨xb, 2, none⟩ = some (.int .i64 y.qty)) (by kernel_rfl) (by kernel_rfl) (by kernel_rfl) (by kernel_rfl) ⟨e0, e2⟩ ?_
        iterate 17
          first | (apply s_off; (focus rfl); (focus rfl); (focus rfl)) | (apply s_yield; (focus rfl); (focus rfl); (focus rfl); (focus rfl); (focus (intro W hS; obtain ⟨hS1, hS2⟩ := hS; go_simp; (try simp (disch := omega) only [wrap_in, wrap_in', wrap_u16, wrap_u8, wrap_u32, wrap_u64, rem_in, quo_in]); first | done | with_reducible rfl | (constructor <;> with_reducible rfl))))
        refine s_call rfl rfl rfl rfl (by first | (go_simp; done) | (go_simp; rfl)) (HC1.out) ?_
        rintro e w2 ⟨rfl, hk2⟩
        have hx := HX.out.drew.keep hk2
        obtain ⟨x0, x1, x2, -⟩ := blk3 (hx.blk (i := 1) rfl)
        have hc2 := HSUM.out w2 hx.old 1 y.item
        clear HX HC1 hk2 e0 e2
        have HX := Lib.hid hx
        have HC2 := Lib.hid hc2
        clear hc2
        clear hx
        refine ⟨_, rfl, ⟨x0, x2⟩, ?_⟩
        refine s_call rfl rfl rfl rfl (by first | (go_simp; done) | (go_simp; rfl)) (HC2.out) ?_
        rintro e w3 ⟨rfl, hk2⟩
        have hx := HX.out.keep hk2
        clear x0 x1 x2
        obtain ⟨x0, x1, x2, -⟩ := blk3 (hx.blk (i := 1) rfl)
        have hc3 := HSUM.out w3 hx.old 2 y.item
        clear HX HC2 hk2
        have HX := Lib.hid hx
        have HC3 := Lib.hid hc3
        clear hc3
        clear hx
        refine ⟨_, rfl, ⟨x0, x2⟩, ?_⟩
        refine s_call rfl rfl rfl rfl (by first | (go_simp; done) | (go_simp; rfl)) (HC3.out) ?_
        rintro e w4 ⟨rfl, hk2⟩
        have hx := HX.out.keep hk2
        clear x0 x1 x2
        obtain ⟨x0, x1, x2, -⟩ := blk3 (hx.blk (i := 1) rfl)
        obtain ⟨g4, d4, w5, hr, q1, q2, hy⟩ := pushF_rr hx (k := 0) rfl (by omega) (rowD d.ds id y)
        simp only [List.set_cons_zero] at hy
        obtain ⟨y0, y1, y2, -⟩ := blk3 (hy.blk (i := 1) rfl)
        clear HX HC3 hk2 hx
        have HX := Lib.hid (hy.only (i := 0) rfl)
        have HR := Lib.hid hr
        clear hr
        clear hy
        refine ⟨_, rfl, ⟨x0, x2⟩, ?_⟩
        iterate 1
          first | (apply s_off; (focus rfl); (focus rfl); (focus rfl)) | (apply s_yield; (focus rfl); (focus rfl); (focus rfl); (focus rfl); (focus (intro W hS; obtain ⟨hS1, hS2⟩ := hS; go_simp; (try simp (disch := omega) only [wrap_in, wrap_in', wrap_u16, wrap_u8, wrap_u32, wrap_u64, rem_in, quo_in]); first | done | with_reducible rfl | (constructor <;> with_reducible rfl))))
        refine s_op (v := ?_) (w' := ?_) rfl rfl rfl rfl ?_ ?_ ?_
        rotate_left 2
        focus (go_simp; (try simp (disch := omega) only [wrap_in, wrap_in', wrap_u16, wrap_u8, wrap_u32, wrap_u64, rem_in, quo_in]); first | done | with_reducible rfl | (constructor <;> with_reducible rfl))
        · exact ⟨cell_old _ x0, cell_old _ x2⟩
        clear x0 x1 x2
        refine s_op rfl rfl rfl rfl (exec_append (.tmp 40) (.tmp 61) 47 rfl _ _ rfl rfl HR.out) ⟨y0, y2⟩ ?_
        iterate 1
          first | (apply s_off; (focus rfl); (focus rfl); (focus rfl)) | (apply s_yield; (focus rfl); (focus rfl); (focus rfl); (focus rfl); (focus (intro W hS; obtain ⟨hS1, hS2⟩ := hS; go_simp; (try simp (disch := omega) only [wrap_in, wrap_in', wrap_u16, wrap_u8, wrap_u32, wrap_u64, rem_in, quo_in]); first | done | with_reducible rfl | (constructor <;> with_reducible rfl))))
        refine s_done ?_
        clear y0 y1 y2
        repeat first
          | apply d_seq
          | with_reducible apply kt_normal
          | apply l_nil
          | apply d_region
          | (apply l_off; (focus rfl); (focus rfl))
          | (apply l_val; (focus rfl); (focus rfl); (focus rfl); (focus (go_simp; (try simp (disch := omega) only [wrap_in, wrap_in', wrap_u16, wrap_u8, wrap_u32, wrap_u64, rem_in, quo_in]); first | done | with_reducible rfl | (constructor <;> with_reducible rfl))))
          | (apply l_store; (focus rfl); (focus rfl); (focus rfl); (focus (go_simp; (try simp (disch := omega) only [wrap_in, wrap_in', wrap_u16, wrap_u8, wrap_u32, wrap_u64, rem_in, quo_in]); first | done | with_reducible rfl | (constructor <;> with_reducible rfl))))
          | apply d_block
          | (apply d_true; (focus rfl); (focus rfl))
          | (apply d_false; (focus rfl); (focus rfl))
          | apply d_skip
          | apply d_exit
          | apply d_ret
          | with_reducible apply kt_ret
          | with_reducible apply kt_exit
          | with_reducible apply kb_normal
          | with_reducible apply kb_ret
          | with_reducible apply kb_here
          | with_reducible apply kl_ret
          | with_reducible apply kl_exit
          | with_reducible apply kc_ret
          | with_reducible apply kc_exit
          | (with_reducible apply kb_there; (focus rfl))
        refine kl_normal (ls.length - (k + 1)) _ (by omega) (Subl.cons (t := 0) (by decide) rfl (Subl.cons (t := 1) (by decide) rfl (Subl.cons (t := 6) (by decide) rfl (Subl.cons (t := 7) (by decide) rfl (Subl.cons (t := 8) (by decide) rfl (Subl.nil _ _)))))) ?_
        exact ⟨k + 1, _, d4, rfl, by omega, q1, q2, rfl, by rw [HST.out]; exact HX⟩
      · have hk' : k = ls.length := by omega
        subst hk'
        rw [List.take_length] at HX
        rw [List.length_map]
        repeat first
          | apply d_seq
          | with_reducible apply kt_normal
          | apply l_nil
          | apply d_region
          | (apply l_off; (focus rfl); (focus rfl))
          | (apply l_val; (focus rfl); (focus rfl); (focus rfl); (focus (go_simp; (try simp (disch := omega) only [wrap_in, wrap_in', wrap_u16, wrap_u8, wrap_u32, wrap_u64, rem_in, quo_in]); first | done | with_reducible rfl | (constructor <;> with_reducible rfl))))
          | (apply l_store; (focus rfl); (focus rfl); (focus rfl); (focus (go_simp; (try simp (disch := omega) only [wrap_in, wrap_in', wrap_u16, wrap_u8, wrap_u32, wrap_u64, rem_in, quo_in]); first | done | with_reducible rfl | (constructor <;> with_reducible rfl))))
          | apply d_block
          | (apply d_true; (focus rfl); (focus rfl))
          | (apply d_false; (focus rfl); (focus rfl))
          | apply d_skip
          | apply d_exit
          | apply d_ret
          | with_reducible apply kt_ret
          | with_reducible apply kt_exit
          | with_reducible apply kb_normal
          | with_reducible apply kb_ret
          | with_reducible apply kb_here
          | with_reducible apply kl_ret
          | with_reducible apply kl_exit
          | with_reducible apply kc_ret
          | with_reducible apply kc_exit
          | (with_reducible apply kb_there; (focus rfl))
        refine ⟨rfl, _, (by first | (simp [resultsG, resOne, Try.results19, rho, List.lookup]; done) | (simp [resultsG, resOne, Try.results19, rho, List.lookup]; rfl)), ?_⟩
        exact ⟨B2, d2, rfl, hd1, hd2, HX.out⟩
end Go.Proofs.Ytkjcmnhhgnlaeaa
