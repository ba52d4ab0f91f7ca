import Derived.Test.YtienodnkfohakaaArrZ
import Derived.Test.YtienodnkfohakaaWalM
namespace Go.Proofs.Ytienodnkfohakaa
set_option linter.unusedVariables false
set_option linter.unusedSimpArgs false
attribute [local go_sem] rho_const rho_func rho_hit rho_miss
open Go.RowKit
attribute [local go_sem] min2_mn min_two' max2_mx max_two' u16_and31 i64_and1
set_option maxRecDepth 100000 in
set_option maxHeartbeats 8000000 in
theorem Try.infoA32 : (Try.prog.info? 32).map (fun i => (i.zero, i.size)) = some (some (.agg (arrv 32 fun _ => .int .i64 0)), 32) := by kernel_rfl
set_option maxRecDepth 100000 in
set_option maxHeartbeats 8000000 in
theorem wallWhole_any {w : World} {A0 A1 : Option Addr} {n0 cq0 n1 cq1 : Nat} {l1 : List Ln} {l0 : List St} (h2 : SeesIn w (fun k => k < w.heap.size) 3 (.slice A1 n1 cq1) l1.length (l1.flatMap Ln.cs) ∧ ∀ x ∈ l1, x.ok w) (h1 : SeesR w (fun k => k < w.heap.size) 6 (fun (y : St) cs => cs = y.cs ∧ y.ok w) (.slice A0 n0 cq0) l0) :
    Calls Try.prog 3 #[.slice A1 n1 cq1, .slice A0 n0 cq0] w fun e w' => e = .returned (.bool true) ∧ Keep none_ w w' := by
  obtain ⟨h2, hok⟩ := h2
  obtain ⟨rfl, b1, b1'⟩ := h1.form
  obtain ⟨rfl, b2, b2'⟩ := h2.form'
  have HX := Lib.hid (Has.nil (Keep.refl none_ w))
  have H1 := Lib.hid h1
  have H2 := Lib.hid h2
  clear h1 h2
  refine d_calls (n := 148) Try.func3 rfl rfl (by simp) [(0, .slice A1 l1.length cq1), (1, .slice A0 l0.length cq0)] (by simp) ?_
  repeat first
    | apply d_seq
    | with_reducible apply kt_normal
    | apply l_nil
    | apply d_region
    | (apply l_off; (focus rfl); (focus rfl))
    | (apply l_val; (focus rfl); (focus rfl); (focus rfl); (focus (go_simp; (try simp (disch := omega) only [wrap_in, wrap_in', wrap_u16, wrap_u8, wrap_u32, wrap_u64, rem_in, quo_in]); first | done | with_reducible rfl | (constructor <;> with_reducible rfl))))
    | (apply l_store; (focus rfl); (focus rfl); (focus rfl); (focus (go_simp; (try simp (disch := omega) only [wrap_in, wrap_in', wrap_u16, wrap_u8, wrap_u32, wrap_u64, rem_in, quo_in]); first | done | with_reducible rfl | (constructor <;> with_reducible rfl))))
    | apply d_block
    | (apply d_true; (focus rfl); (focus rfl))
    | (apply d_false; (focus rfl); (focus rfl))
    | apply d_skip
    | apply d_exit
    | apply d_ret
    | with_reducible apply kt_ret
    | with_reducible apply kt_exit
    | with_reducible apply kb_normal
    | with_reducible apply kb_ret
    | with_reducible apply kb_here
    | with_reducible apply kl_ret
    | with_reducible apply kl_exit
    | with_reducible apply kc_ret
    | with_reducible apply kc_exit
    | (with_reducible apply kb_there; (focus rfl))
  refine l_call rfl rfl rfl (by first | (go_simp; done) | (go_simp; rfl)) (shown_has HX.out) ?_
  rintro e w' ⟨rfl, hx⟩
  clear HX
  try simp only [List.nil_append, List.cons_append, List.set_cons_zero, List.set_cons_succ] at hx
  have HX := Lib.hid hx
  clear hx
  refine ⟨_, rfl, ?_⟩
  repeat first
    | apply d_seq
    | with_reducible apply kt_normal
    | apply l_nil
    | apply d_region
    | (apply l_off; (focus rfl); (focus rfl))
    | (apply l_val; (focus rfl); (focus rfl); (focus rfl); (focus (go_simp; (try simp (disch := omega) only [wrap_in, wrap_in', wrap_u16, wrap_u8, wrap_u32, wrap_u64, rem_in, quo_in]); first | done | with_reducible rfl | (constructor <;> with_reducible rfl))))
    | (apply l_store; (focus rfl); (focus rfl); (focus rfl); (focus (go_simp; (try simp (disch := omega) only [wrap_in, wrap_in', wrap_u16, wrap_u8, wrap_u32, wrap_u64, rem_in, quo_in]); first | done | with_reducible rfl | (constructor <;> with_reducible rfl))))
    | apply d_block
    | (apply d_true; (focus rfl); (focus rfl))
    | (apply d_false; (focus rfl); (focus rfl))
    | apply d_skip
    | apply d_exit
    | apply d_ret
    | with_reducible apply kt_ret
    | with_reducible apply kt_exit
    | with_reducible apply kb_normal
    | with_reducible apply kb_ret
    | with_reducible apply kb_here
    | with_reducible apply kl_ret
    | with_reducible apply kl_exit
    | with_reducible apply kc_ret
    | with_reducible apply kc_exit
    | (with_reducible apply kb_there; (focus rfl))
  refine l_call rfl rfl rfl (by first | (go_simp; done) | (go_simp; rfl)) (new_has HX.out 3 3 rfl (by decide) (by decide)) ?_
  rintro e w' ⟨p, g, rfl, hx⟩
  clear HX
  try simp only [List.nil_append, List.cons_append, List.set_cons_zero, List.set_cons_succ] at hx
  have HX := Lib.hid hx
  clear hx
  refine ⟨_, rfl, ?_⟩
  repeat first
    | apply d_seq
    | with_reducible apply kt_normal
    | apply l_nil
    | apply d_region
    | (apply l_off; (focus rfl); (focus rfl))
    | (apply l_val; (focus rfl); (focus rfl); (focus rfl); (focus (go_simp; (try simp (disch := omega) only [wrap_in, wrap_in', wrap_u16, wrap_u8, wrap_u32, wrap_u64, rem_in, quo_in]); first | done | with_reducible rfl | (constructor <;> with_reducible rfl))))
    | (apply l_store; (focus rfl); (focus rfl); (focus rfl); (focus (go_simp; (try simp (disch := omega) only [wrap_in, wrap_in', wrap_u16, wrap_u8, wrap_u32, wrap_u64, rem_in, quo_in]); first | done | with_reducible rfl | (constructor <;> with_reducible rfl))))
    | apply d_block
    | (apply d_true; (focus rfl); (focus rfl))
    | (apply d_false; (focus rfl); (focus rfl))
    | apply d_skip
    | apply d_exit
    | apply d_ret
    | with_reducible apply kt_ret
    | with_reducible apply kt_exit
    | with_reducible apply kb_normal
    | with_reducible apply kb_ret
    | with_reducible apply kb_here
    | with_reducible apply kl_ret
    | with_reducible apply kl_exit
    | with_reducible apply kc_ret
    | with_reducible apply kc_exit
    | (with_reducible apply kb_there; (focus rfl))
  have hc := small_has HX.out l1 A1 _ cq1 rfl H2.out
  have hm10 := smL_len l1
  have hsq := smL_qty hok
  have hsi := fun x (h : x ∈ smL l1) => smL_item h
  generalize smL l1 = ms at *
  have HC := Lib.hid hc
  have HSQ := Lib.hid hsq
  have HSI := Lib.hid hsi
  clear hc hsq hsi
  refine l_call rfl rfl rfl (by first | (go_simp; done) | (go_simp; rfl)) (HC.out) ?_
  rintro e w' ⟨B4, d4, rfl, hb41, hb42, hx⟩
  clear HX
  try simp only [List.nil_append, List.cons_append, List.set_cons_zero, List.set_cons_succ] at hx
  have HX := Lib.hid hx
  clear hx
  refine ⟨_, rfl, ?_⟩
  repeat first
    | apply d_seq
    | with_reducible apply kt_normal
    | apply l_nil
    | apply d_region
    | (apply l_off; (focus rfl); (focus rfl))
    | (apply l_val; (focus rfl); (focus rfl); (focus rfl); (focus (go_simp; (try simp (disch := omega) only [wrap_in, wrap_in', wrap_u16, wrap_u8, wrap_u32, wrap_u64, rem_in, quo_in]); first | done | with_reducible rfl | (constructor <;> with_reducible rfl))))
    | (apply l_store; (focus rfl); (focus rfl); (focus rfl); (focus (go_simp; (try simp (disch := omega) only [wrap_in, wrap_in', wrap_u16, wrap_u8, wrap_u32, wrap_u64, rem_in, quo_in]); first | done | with_reducible rfl | (constructor <;> with_reducible rfl))))
    | apply d_block
    | (apply d_true; (focus rfl); (focus rfl))
    | (apply d_false; (focus rfl); (focus rfl))
    | apply d_skip
    | apply d_exit
    | apply d_ret
    | with_reducible apply kt_ret
    | with_reducible apply kt_exit
    | with_reducible apply kb_normal
    | with_reducible apply kb_ret
    | with_reducible apply kb_here
    | with_reducible apply kl_ret
    | with_reducible apply kl_exit
    | with_reducible apply kc_ret
    | with_reducible apply kc_exit
    | (with_reducible apply kb_there; (focus rfl))
  have hc := assign_own HX.out 0 1 p g (WS.new 3) rfl 9 ms B4 _ d4 rfl rfl (by omega) HSQ.out
  rw [w3_assign] at hc
  clear HC
  cases hbad : badL (sortL ms) with
  | true =>
    rw [hbad, if_pos rfl] at hc
    dsimp only at hc
    have HC := Lib.hid hc
    have HBAD := Lib.hid hbad
    clear hc hbad
    refine l_call rfl rfl rfl (by first | (go_simp; done) | (go_simp; rfl)) (HC.out) ?_
    rintro e w' ⟨rfl, hx⟩
    clear HX
    try simp only [List.nil_append, List.cons_append, List.set_cons_zero, List.set_cons_succ] at hx
    have HX := Lib.hid hx
    clear hx
    refine ⟨_, rfl, ?_⟩
    repeat first
      | apply d_seq
      | with_reducible apply kt_normal
      | apply l_nil
      | apply d_region
      | (apply l_off; (focus rfl); (focus rfl))
      | (apply l_val; (focus rfl); (focus rfl); (focus rfl); (focus (go_simp; (try simp (disch := omega) only [wrap_in, wrap_in', wrap_u16, wrap_u8, wrap_u32, wrap_u64, rem_in, quo_in]); first | done | with_reducible rfl | (constructor <;> with_reducible rfl))))
      | (apply l_store; (focus rfl); (focus rfl); (focus rfl); (focus (go_simp; (try simp (disch := omega) only [wrap_in, wrap_in', wrap_u16, wrap_u8, wrap_u32, wrap_u64, rem_in, quo_in]); first | done | with_reducible rfl | (constructor <;> with_reducible rfl))))
      | apply d_block
      | (apply d_true; (focus rfl); (focus rfl))
      | (apply d_false; (focus rfl); (focus rfl))
      | apply d_skip
      | apply d_exit
      | apply d_ret
      | with_reducible apply kt_ret
      | with_reducible apply kt_exit
      | with_reducible apply kb_normal
      | with_reducible apply kb_ret
      | with_reducible apply kb_here
      | with_reducible apply kl_ret
      | with_reducible apply kl_exit
      | with_reducible apply kc_ret
      | with_reducible apply kc_exit
      | (with_reducible apply kb_there; (focus rfl))
    refine ⟨rfl, _, (by first | (simp [resultsG, resOne, Try.results3, rho, List.lookup]; done) | (simp [resultsG, resOne, Try.results3, rho, List.lookup]; rfl)), ?_⟩
    exact ⟨rfl, HX.out.old⟩
  | false =>
    rw [hbad, if_neg (by simp)] at hc
    dsimp only at hc
    obtain ⟨hneed, hpair, hndf, hlen⟩ := good_items (show ms.length ≤ 12 by omega) HSQ.out hbad
    generalize sortL ms = ls at *
    have HC := Lib.hid hc
    have HNEED := Lib.hid hneed
    have HPAIR := Lib.hid hpair
    have HNDF := Lib.hid hndf
    have HLEN := Lib.hid hlen
    clear hc hneed hpair hndf hlen
    clear hbad
    refine l_call rfl rfl rfl (by first | (go_simp; done) | (go_simp; rfl)) (HC.out) ?_
    rintro e w4 ⟨rfl, hx⟩
    clear HX HC
    simp only [List.nil_append, List.cons_append, List.set_cons_zero, List.set_cons_succ] at hx
    have HX := Lib.hid hx
    clear hx
    refine ⟨_, rfl, ?_⟩
    repeat first
      | ((fail_if_success (refine d_at_region (id := 9) ?_)); apply d_seq)
      | with_reducible apply kt_normal
      | apply l_nil
      | apply d_region
      | (apply l_off; (focus rfl); (focus rfl))
      | (apply l_val; (focus rfl); (focus rfl); (focus rfl); (focus (go_simp; (try simp (disch := omega) only [wrap_in, wrap_in', wrap_u16, wrap_u8, wrap_u32, wrap_u64, rem_in, quo_in]); first | done | with_reducible rfl | (constructor <;> with_reducible rfl))))
      | (apply l_store; (focus rfl); (focus rfl); (focus rfl); (focus (go_simp; (try simp (disch := omega) only [wrap_in, wrap_in', wrap_u16, wrap_u8, wrap_u32, wrap_u64, rem_in, quo_in]); first | done | with_reducible rfl | (constructor <;> with_reducible rfl))))
      | apply d_block
      | (apply d_true; (focus rfl); (focus rfl))
      | (apply d_false; (focus rfl); (focus rfl))
      | apply d_skip
      | apply d_exit
      | apply d_ret
      | with_reducible apply kt_ret
      | with_reducible apply kt_exit
      | with_reducible apply kb_normal
      | with_reducible apply kb_ret
      | with_reducible apply kb_here
      | with_reducible apply kl_ret
      | with_reducible apply kl_exit
      | with_reducible apply kc_ret
      | with_reducible apply kc_exit
      | (with_reducible apply kb_there; (focus rfl))
    apply d_seq
    apply d_region
    refine l_val rfl rfl rfl (exec_buildZ rfl Try.underlying32 Try.sizeOf3 Try.infoA32) ?_
    refine l_val rfl rfl rfl (exec_allocZ rfl Try.infoA32) ?_
    refine l_store rfl rfl rfl (exec_storeZ rfl rfl rfl rfl Try.infoA32 (arrv_size _ _) (arrv_one _ _ fun _ => rfl)) ?_
    have hx := HX.out.box (arrv 32 fun _ => .int .i64 0) 32
    simp only [List.nil_append, List.cons_append] at hx
    clear HX
    have HX := Lib.hid hx
    clear hx
    repeat first
      | apply d_seq
      | with_reducible apply kt_normal
      | apply l_nil
      | apply d_region
      | (apply l_off; (focus rfl); (focus rfl))
      | (apply l_val; (focus rfl); (focus rfl); (focus rfl); (focus (go_simp; (try simp (disch := omega) only [wrap_in, wrap_in', wrap_u16, wrap_u8, wrap_u32, wrap_u64, rem_in, quo_in]); first | done | with_reducible rfl | (constructor <;> with_reducible rfl))))
      | (apply l_store; (focus rfl); (focus rfl); (focus rfl); (focus (go_simp; (try simp (disch := omega) only [wrap_in, wrap_in', wrap_u16, wrap_u8, wrap_u32, wrap_u64, rem_in, quo_in]); first | done | with_reducible rfl | (constructor <;> with_reducible rfl))))
      | apply d_block
      | (apply d_true; (focus rfl); (focus rfl))
      | (apply d_false; (focus rfl); (focus rfl))
      | apply d_skip
      | apply d_exit
      | apply d_ret
      | with_reducible apply kt_ret
      | with_reducible apply kt_exit
      | with_reducible apply kb_normal
      | with_reducible apply kb_ret
      | with_reducible apply kb_here
      | with_reducible apply kl_ret
      | with_reducible apply kl_exit
      | with_reducible apply kc_ret
      | with_reducible apply kc_exit
      | (with_reducible apply kb_there; (focus rfl))
    refine d_loop (fun m D wr => ∃ (i ab : Nat), m = ms.length - i ∧ i ≤ ms.length ∧ D = [(0, .slice B4 ms.length d4), (1, .slice A0 l0.length cq0), (5, .bool true), (6, .pointer (some ⟨p, 0, none⟩)), (7, .int .i64 0), (9, .pointer (some ⟨ab, 0, none⟩)), (10, .int .i64 i), (11, .int .i64 i)] ∧ Hid (Has w wr [WA w.heap.size p g (W3 ls), OwnA w.heap.size 35 3 (.slice B4 ms.length d4) ms.length (lns ms), BlkA w.heap.size ab (arrv 32 fun j => .int .i64 (ndf (ms.take i) j)) 32])) (ms.length) _ (Subl.cons (t := 0) (by decide) rfl (Subl.cons (t := 1) (by decide) rfl (Subl.cons (t := 5) (by decide) rfl (Subl.cons (t := 6) (by decide) rfl (Subl.cons (t := 7) (by decide) rfl (Subl.cons (t := 9) (by decide) rfl (Subl.cons (t := 10) (by decide) rfl (Subl.cons (t := 11) (by decide) rfl (Subl.nil _ _))))))))) ?_ (fun m D wr hrel => ?_)
    · exact ⟨0, _, rfl, Nat.zero_le _, rfl, HX⟩
    · clear HX
      obtain ⟨i, ab, rfl, hi, rfl, HX⟩ := hrel
      by_cases hlt : i < ms.length
      · obtain ⟨y, hy⟩ : ∃ y, ms[i]? = some y := ⟨_, List.getElem?_eq_getElem hlt⟩
        obtain ⟨hy1, hy2⟩ := HSI.out y (List.mem_of_getElem? hy)
        obtain ⟨g4, rfl, -, -, ⟨u0, u1, u2⟩, -⟩ := HX.out.rowLn (i := 1) rfl hy hlt
        obtain ⟨v, hv⟩ : ∃ v : Nat, y.item = v := ⟨y.item.toNat, by omega⟩
        have hne : ∀ x ∈ ms.take i, x.item ≠ y.item := by
          intro x hx
          obtain ⟨j, hj, e⟩ := List.mem_take_iff_getElem.1 hx
          have := List.pairwise_iff_getElem.1 HPAIR.out j i (by omega) hlt (by omega)
          rw [e, (List.getElem?_eq_some_iff.1 hy).2] at this
          exact this
        have hsn := ndf_snoc hne hv
        have htk : ms.take (i + 1) = ms.take i ++ [y] := by rw [List.take_add_one, hy]; rfl
        obtain ⟨z0, f0⟩ := HX.out.arrv (i := 2) rfl (k := v) (by omega)
        have hput := HX.out.arrvPut (i := 2) rfl (k := v) (by omega) (.int .i64 y.qty)
        simp only [List.set_cons_zero, List.set_cons_succ] at hput
        rw [updI_v, ← hsn, ← htk] at hput
        rw [hv] at u0
        have r1 : (v : Int) < 32 := by omega
        have r2 : (0 : Int) ≤ (v : Int) := by omega
        have HPUT := Lib.hid hput
        clear hput
        clear hy hne hsn htk hv hy1 hy2
        repeat first
          | apply d_seq
          | with_reducible apply kt_normal
          | apply l_nil
          | apply d_region
          | (apply l_off; (focus rfl); (focus rfl))
          | (apply l_val; (focus rfl); (focus rfl); (focus rfl); (focus (go_simp; (try simp (disch := omega) only [wrap_in, wrap_in', wrap_u16, wrap_u8, wrap_u32, wrap_u64, rem_in, quo_in]); first | done | with_reducible rfl | (constructor <;> with_reducible rfl))))
          | (apply l_store; (focus rfl); (focus rfl); (focus rfl); (focus (go_simp; (try simp (disch := omega) only [wrap_in, wrap_in', wrap_u16, wrap_u8, wrap_u32, wrap_u64, rem_in, quo_in]); first | done | with_reducible rfl | (constructor <;> with_reducible rfl))))
          | apply d_block
          | (apply d_true; (focus rfl); (focus rfl))
          | (apply d_false; (focus rfl); (focus rfl))
          | apply d_skip
          | apply d_exit
          | apply d_ret
          | with_reducible apply kt_ret
          | with_reducible apply kt_exit
          | with_reducible apply kb_normal
          | with_reducible apply kb_ret
          | with_reducible apply kb_here
          | with_reducible apply kl_ret
          | with_reducible apply kl_exit
          | with_reducible apply kc_ret
          | with_reducible apply kc_exit
          | (with_reducible apply kb_there; (focus rfl))
        refine d_draw (true, [([], []), ([], []), ([0, 1], [0, 1]), ([2], [2]), ([3], [3]), ([], []), ([], []), ([5, 6], [5, 6]), ([7], [7]), ([8], [8]), ([4, 0, 1, 2, 3, 4, 5, 6, 7, 8, 9], [4]), ([10, 9, 0, 1, 2, 3, 4, 5, 6, 7, 8, 9], [9, 10])]) [(0, 0), (0, 1), (0, 2), (0, 3), (0, 4), (0, 5), (0, 6), (0, 7), (0, 8), (0, 9), (0, 10), (2, 11)] [11] (fun W => W.cell? ⟨g4, i * 3, none⟩ = some (.int .u16 v) ∧ W.cell? ⟨g4, i * 3 + 2, none⟩ = some (.int .i64 y.qty)) (by kernel_rfl) (by kernel_rfl) (by kernel_rfl) (by kernel_rfl) ⟨u0, u2⟩ ?_
        iterate 11
          first | (apply s_off; (focus rfl); (focus rfl); (focus rfl)) | (apply s_yield; (focus rfl); (focus rfl); (focus rfl); (focus rfl); (focus (intro W hS; obtain ⟨hS1, hS2⟩ := hS; go_simp; (try simp (disch := omega) only [wrap_in, wrap_in', wrap_u16, wrap_u8, wrap_u32, wrap_u64, rem_in, quo_in]); first | done | with_reducible rfl | (constructor <;> with_reducible rfl))))
        have z0d : wr.drew.cell? ⟨ab, v, none⟩ = some (.int .i64 (ndf (ms.take i) v)) := z0
        have f0d : wr.drew.frozen? ⟨ab, v, none⟩ = false := f0
        first | (apply s_last; (focus rfl); (focus rfl); (focus rfl); (focus rfl); (focus (go_simp; (try simp (disch := omega) only [wrap_in, wrap_in', wrap_u16, wrap_u8, wrap_u32, wrap_u64, rem_in, quo_in]); first | done | with_reducible rfl | (constructor <;> with_reducible rfl)))) | (apply s_laststore; (focus rfl); (focus rfl); (focus rfl); (focus rfl); (focus (go_simp; (try simp (disch := omega) only [wrap_in, wrap_in', wrap_u16, wrap_u8, wrap_u32, wrap_u64, rem_in, quo_in]); first | done | with_reducible rfl | (constructor <;> with_reducible rfl))))
        refine s_done ?_
        clear z0d f0d
        repeat first
          | apply d_seq
          | with_reducible apply kt_normal
          | apply l_nil
          | apply d_region
          | (apply l_off; (focus rfl); (focus rfl))
          | (apply l_val; (focus rfl); (focus rfl); (focus rfl); (focus (go_simp; (try simp (disch := omega) only [wrap_in, wrap_in', wrap_u16, wrap_u8, wrap_u32, wrap_u64, rem_in, quo_in]); first | done | with_reducible rfl | (constructor <;> with_reducible rfl))))
          | (apply l_store; (focus rfl); (focus rfl); (focus rfl); (focus (go_simp; (try simp (disch := omega) only [wrap_in, wrap_in', wrap_u16, wrap_u8, wrap_u32, wrap_u64, rem_in, quo_in]); first | done | with_reducible rfl | (constructor <;> with_reducible rfl))))
          | apply d_block
          | (apply d_true; (focus rfl); (focus rfl))
          | (apply d_false; (focus rfl); (focus rfl))
          | apply d_skip
          | apply d_exit
          | apply d_ret
          | with_reducible apply kt_ret
          | with_reducible apply kt_exit
          | with_reducible apply kb_normal
          | with_reducible apply kb_ret
          | with_reducible apply kb_here
          | with_reducible apply kl_ret
          | with_reducible apply kl_exit
          | with_reducible apply kc_ret
          | with_reducible apply kc_exit
          | (with_reducible apply kb_there; (focus rfl))
        refine kl_normal (ms.length - (i + 1)) _ (by omega) (Subl.cons (t := 0) (by decide) rfl (Subl.cons (t := 1) (by decide) rfl (Subl.cons (t := 5) (by decide) rfl (Subl.cons (t := 6) (by decide) rfl (Subl.cons (t := 7) (by decide) rfl (Subl.cons (t := 9) (by decide) rfl (Subl.cons (t := 10) (by decide) rfl (Subl.cons (t := 11) (by decide) rfl (Subl.nil _ _))))))))) ?_
        exact ⟨i + 1, ab, rfl, by omega, rfl, Lib.hid HPUT.out.drew⟩
      · obtain rfl : i = ms.length := by omega
        have hx := HX.out.pick [0, 2] (by decide) [WA w.heap.size p g (W3 ls), BlkA w.heap.size ab (arrv 32 fun j => .int .i64 (ndf ls j)) 32] (fun n R hn => by
          match n with
          | 0 => simp only [List.getElem?_cons_zero, Option.some.injEq] at hn; subst hn; exact ⟨0, rfl, rfl⟩
          | 1 => simp only [List.getElem?_cons_zero, List.getElem?_cons_succ, Option.some.injEq] at hn; subst hn; rw [HNDF.out]; exact ⟨2, rfl, by simp⟩
          | n + 2 => simp at hn)
        have hlen := HLEN.out
        clear HX
        have HX := Lib.hid hx
        clear hx HNDF HPAIR HLEN
        repeat first
          | apply d_seq
          | with_reducible apply kt_normal
          | apply l_nil
          | apply d_region
          | (apply l_off; (focus rfl); (focus rfl))
          | (apply l_val; (focus rfl); (focus rfl); (focus rfl); (focus (go_simp; (try simp (disch := omega) only [wrap_in, wrap_in', wrap_u16, wrap_u8, wrap_u32, wrap_u64, rem_in, quo_in]); first | done | with_reducible rfl | (constructor <;> with_reducible rfl))))
          | (apply l_store; (focus rfl); (focus rfl); (focus rfl); (focus (go_simp; (try simp (disch := omega) only [wrap_in, wrap_in', wrap_u16, wrap_u8, wrap_u32, wrap_u64, rem_in, quo_in]); first | done | with_reducible rfl | (constructor <;> with_reducible rfl))))
          | ((fail_if_success (with_reducible apply d_block (id := 2))); apply d_block)
          | (apply d_true; (focus rfl); (focus rfl))
          | (apply d_false; (focus rfl); (focus rfl))
          | apply d_skip
          | apply d_exit
          | apply d_ret
          | with_reducible apply kt_ret
          | with_reducible apply kt_exit
          | with_reducible apply kb_normal
          | with_reducible apply kb_ret
          | with_reducible apply kb_here
          | with_reducible apply kl_ret
          | with_reducible apply kl_exit
          | with_reducible apply kc_ret
          | with_reducible apply kc_exit
          | (with_reducible apply kb_there; (focus rfl))
        rw [← hlen]
        clear hlen hlt hi
        refine d_join (fun D wr => ∃ (l : List Ln) (ab : Nat), D = [(5, .bool true), (6, .pointer (some ⟨p, 0, none⟩)), (7, .int .i64 0), (10, .int .i64 l.length)] ∧ Hid (Has w wr [WA w.heap.size p g (W3 l), BlkA w.heap.size ab (arrv 32 fun j => .int .i64 (ndf l j)) 32]) ∧ Hid (Need l)) ?_ (fun D wr hcut => ?_)
        · repeat first
            | apply d_seq
            | with_reducible apply kt_normal
            | apply l_nil
            | apply d_region
            | (apply l_off; (focus rfl); (focus rfl))
            | (apply l_val; (focus rfl); (focus rfl); (focus rfl); (focus (go_simp; (try simp (disch := omega) only [wrap_in, wrap_in', wrap_u16, wrap_u8, wrap_u32, wrap_u64, rem_in, quo_in]); first | done | with_reducible rfl | (constructor <;> with_reducible rfl))))
            | (apply l_store; (focus rfl); (focus rfl); (focus rfl); (focus (go_simp; (try simp (disch := omega) only [wrap_in, wrap_in', wrap_u16, wrap_u8, wrap_u32, wrap_u64, rem_in, quo_in]); first | done | with_reducible rfl | (constructor <;> with_reducible rfl))))
            | apply d_block
            | (apply d_true; (focus rfl); (focus rfl))
            | (apply d_false; (focus rfl); (focus rfl))
            | apply d_skip
            | apply d_exit
            | apply d_ret
            | with_reducible apply kt_ret
            | with_reducible apply kt_exit
            | with_reducible apply kb_normal
            | with_reducible apply kb_ret
            | with_reducible apply kb_here
            | with_reducible apply kl_ret
            | with_reducible apply kl_exit
            | with_reducible apply kc_ret
            | with_reducible apply kc_exit
            | (with_reducible apply kb_there; (focus rfl))
          refine d_loop (fun m D wr => ∃ (k : Nat) (l : List Ln), m = l0.length - k ∧ k ≤ l0.length ∧ D = [(1, .slice A0 l0.length cq0), (5, .bool true), (6, .pointer (some ⟨p, 0, none⟩)), (7, .int .i64 0), (9, .pointer (some ⟨ab, 0, none⟩)), (10, .int .i64 l.length), (12, .int .i64 k)] ∧ Hid (Has w wr [WA w.heap.size p g (W3 l), BlkA w.heap.size ab (arrv 32 fun j => .int .i64 (ndf l j)) 32]) ∧ Hid (Need l)) (l0.length) _ (Subl.cons (t := 1) (by decide) rfl (Subl.cons (t := 5) (by decide) rfl (Subl.cons (t := 6) (by decide) rfl (Subl.cons (t := 7) (by decide) rfl (Subl.cons (t := 9) (by decide) rfl (Subl.cons (t := 10) (by decide) rfl (Subl.cons (t := 12) (by decide) rfl (Subl.nil _ _)))))))) ?_ (fun m D wr hrel => ?_)
          · exact ⟨0, ls, rfl, Nat.zero_le _, rfl, HX, HNEED⟩
          · clear HX HNEED
            obtain ⟨k, l, rfl, hk, rfl, HX, HNEED⟩ := hrel
            by_cases hlt : k < l0.length
            · by_cases h100 : (k : Int) < 150
              · obtain ⟨y, hy⟩ : ∃ y, l0[k]? = some y := ⟨_, List.getElem?_eq_getElem hlt⟩
                obtain ⟨g1, o1, cp1, e1, -, -, hq1, hq2, hyk, c0, c1, c2, c3, c4, c5⟩ := sees_Steps H1.out hy
                simp only [Value.slice.injEq, true_and] at e1
                obtain ⟨rfl, rfl⟩ := e1
                obtain ⟨A5, d5, hyv, hb51, hb52, -⟩ := hyk.l.form
                have hos := hyk.l
                rw [hyv] at c5 hos
                have hsq := smL_qty hyk.l_ok
                have hyid := hyk.id
                have hyq := hyk.qty
                have hyit := hyk.item
                have C0 := Lib.hid c0
                have C1 := Lib.hid c1
                have C2 := Lib.hid c2
                have C3 := Lib.hid c3
                have C4 := Lib.hid c4
                have C5 := Lib.hid c5
                have HOS := Lib.hid hos
                have HSQ := Lib.hid hsq
                clear c0 c1 c2 c3 c4 c5 hos hsq
                clear hy hyv hyk
                try clear c0
                have c0 := HX.out.cell0 C0.out
                try clear c1
                have c1 := HX.out.cell0 C1.out
                try clear c2
                have c2 := HX.out.cell0 C2.out
                try clear c3
                have c3 := HX.out.cell0 C3.out
                try clear c4
                have c4 := HX.out.cell0 C4.out
                try clear c5
                have c5 := HX.out.cell0 C5.out
                have hx := HX.out.box #[.int .i64 y.kind, .int .i64 y.cubby, .int .i64 y.qty, .int .u32 y.id, .int .u16 y.item, .slice A5 y.l.length d5] 37
                simp only [List.nil_append, List.cons_append] at hx
                obtain ⟨x0, x1, x2, x3, x4, x5, -⟩ := blk6 (hx.blk (i := 2) rfl)
                clear HX
                have HX := Lib.hid hx
                clear hx
                obtain ⟨v, hv⟩ : ∃ v : Nat, y.item % 32 = v := ⟨(y.item % 32).toNat, by omega⟩
                have r1 : (v : Int) < 32 := by omega
                have r2 : (0 : Int) ≤ (v : Int) := by omega
                have h12 := HNEED.out.len
                obtain ⟨l2, e, hle⟩ : ∃ l2 e, lput l v y.qty = (l2, e) := ⟨_, _, rfl⟩
                repeat first
                  | ((fail_if_success (refine d_at_region (id := 22) ?_)); apply d_seq)
                  | with_reducible apply kt_normal
                  | apply l_nil
                  | apply d_region
                  | (apply l_off; (focus rfl); (focus rfl))
                  | (apply l_val; (focus rfl); (focus rfl); (focus rfl); (focus (go_simp; (try simp (disch := omega) only [wrap_in, wrap_in', wrap_u16, wrap_u8, wrap_u32, wrap_u64, rem_in, quo_in]); first | done | with_reducible rfl | (constructor <;> with_reducible rfl))))
                  | (apply l_store; (focus rfl); (focus rfl); (focus rfl); (focus (go_simp; (try simp (disch := omega) only [wrap_in, wrap_in', wrap_u16, wrap_u8, wrap_u32, wrap_u64, rem_in, quo_in]); first | done | with_reducible rfl | (constructor <;> with_reducible rfl))))
                  | apply d_block
                  | (apply d_true; (focus rfl); (focus rfl))
                  | (apply d_false; (focus rfl); (focus rfl))
                  | apply d_skip
                  | apply d_exit
                  | apply d_ret
                  | with_reducible apply kt_ret
                  | with_reducible apply kt_exit
                  | with_reducible apply kb_normal
                  | with_reducible apply kb_ret
                  | with_reducible apply kb_here
                  | with_reducible apply kl_ret
                  | with_reducible apply kl_exit
                  | with_reducible apply kc_ret
                  | with_reducible apply kc_exit
                  | (with_reducible apply kb_there; (focus rfl))
                clear c0 c1 c2 c3 c4 c5 C0 C1 C2 C3 C4 C5
                generalize wr.alloc (.cells #[.int .i64 y.kind, .int .i64 y.cubby, .int .i64 y.qty, .int .u32 y.id, .int .u16 y.item, .slice A5 y.l.length d5] 37) = wy at *
                generalize wr.heap.size = xb at *
                refine d_join (fun D wr => D = [(1, .slice (some ⟨g1, o1, none⟩) l0.length cq0), (5, .bool true), (6, .pointer (some ⟨p, 0, none⟩)), (7, .int .i64 0), (9, .pointer (some ⟨ab, 0, none⟩)), (10, .int .i64 l.length), (12, .int .i64 k), (13, .pointer (some ⟨xb, 0, none⟩)), (14, .int .u16 v), (15, .int .i64 e)] ∧ Hid (Has w wr [WA w.heap.size p g (W3 l2), BlkA w.heap.size ab (arrv 32 fun j => .int .i64 (ndf l j)) 32, BlkA w.heap.size xb #[.int .i64 y.kind, .int .i64 y.cubby, .int .i64 y.qty, .int .u32 y.id, .int .u16 y.item, .slice A5 y.l.length d5] 37])) ?_ (fun D wr hcut => ?_)
                · rcases (by omega : y.kind % 2 = 1 ∨ y.kind % 2 = 0) with hk2 | hk2
                  · have hc := put_has HX.out 0 p g (W3 l) rfl 0 v y.qty
                    rw [w3_put, hle] at hc
                    dsimp only at hc
                    have HLE := Lib.hid hle
                    have HC := Lib.hid hc
                    clear hc
                    clear hle
                    repeat first
                      | apply d_seq
                      | with_reducible apply kt_normal
                      | apply l_nil
                      | apply d_region
                      | (apply l_off; (focus rfl); (focus rfl))
                      | (apply l_val; (focus rfl); (focus rfl); (focus rfl); (focus (go_simp; (try simp (disch := omega) only [wrap_in, wrap_in', wrap_u16, wrap_u8, wrap_u32, wrap_u64, rem_in, quo_in]); first | done | with_reducible rfl | (constructor <;> with_reducible rfl))))
                      | (apply l_store; (focus rfl); (focus rfl); (focus rfl); (focus (go_simp; (try simp (disch := omega) only [wrap_in, wrap_in', wrap_u16, wrap_u8, wrap_u32, wrap_u64, rem_in, quo_in]); first | done | with_reducible rfl | (constructor <;> with_reducible rfl))))
                      | apply d_block
                      | (apply d_true; (focus rfl); (focus rfl))
                      | (apply d_false; (focus rfl); (focus rfl))
                      | apply d_skip
                      | apply d_exit
                      | apply d_ret
                      | with_reducible apply kt_ret
                      | with_reducible apply kt_exit
                      | with_reducible apply kb_normal
                      | with_reducible apply kb_ret
                      | with_reducible apply kb_here
                      | with_reducible apply kl_ret
                      | with_reducible apply kl_exit
                      | with_reducible apply kc_ret
                      | with_reducible apply kc_exit
                      | (with_reducible apply kb_there; (focus rfl))
                    refine l_call rfl rfl rfl (by first | (go_simp; done) | (go_simp; rfl)) (HC.out) ?_
                    rintro e w' ⟨rfl, hx⟩
                    clear HX
                    try simp only [List.nil_append, List.cons_append, List.set_cons_zero, List.set_cons_succ] at hx
                    have HX := Lib.hid hx
                    clear hx
                    refine ⟨_, rfl, ?_⟩
                    repeat first
                      | apply d_seq
                      | with_reducible apply kt_normal
                      | apply l_nil
                      | apply d_region
                      | (apply l_off; (focus rfl); (focus rfl))
                      | (apply l_val; (focus rfl); (focus rfl); (focus rfl); (focus (go_simp; (try simp (disch := omega) only [wrap_in, wrap_in', wrap_u16, wrap_u8, wrap_u32, wrap_u64, rem_in, quo_in]); first | done | with_reducible rfl | (constructor <;> with_reducible rfl))))
                      | (apply l_store; (focus rfl); (focus rfl); (focus rfl); (focus (go_simp; (try simp (disch := omega) only [wrap_in, wrap_in', wrap_u16, wrap_u8, wrap_u32, wrap_u64, rem_in, quo_in]); first | done | with_reducible rfl | (constructor <;> with_reducible rfl))))
                      | apply d_block
                      | (apply d_true; (focus rfl); (focus rfl))
                      | (apply d_false; (focus rfl); (focus rfl))
                      | apply d_skip
                      | apply d_exit
                      | apply d_ret
                      | with_reducible apply kt_ret
                      | with_reducible apply kt_exit
                      | with_reducible apply kb_normal
                      | with_reducible apply kb_ret
                      | with_reducible apply kb_here
                      | with_reducible apply kl_ret
                      | with_reducible apply kl_exit
                      | with_reducible apply kc_ret
                      | with_reducible apply kc_exit
                      | (with_reducible apply kb_there; (focus rfl))
                    refine kc_normal _ (Subl.cons (t := 1) (by decide) rfl (Subl.cons (t := 5) (by decide) rfl (Subl.cons (t := 6) (by decide) rfl (Subl.cons (t := 7) (by decide) rfl (Subl.cons (t := 9) (by decide) rfl (Subl.cons (t := 10) (by decide) rfl (Subl.cons (t := 12) (by decide) rfl (Subl.cons (t := 13) (by decide) rfl (Subl.cons (t := 14) (by decide) rfl (Subl.cons (t := 15) (by decide) rfl (Subl.nil _ _))))))))))) ?_
                    exact ⟨rfl, HX⟩
                  · have hc := less_has HX.out 0 p g (W3 l) rfl 9 v y.qty
                    rw [w3_less, hle] at hc
                    dsimp only at hc
                    have HLE := Lib.hid hle
                    have HC := Lib.hid hc
                    clear hc
                    clear hle
                    repeat first
                      | apply d_seq
                      | with_reducible apply kt_normal
                      | apply l_nil
                      | apply d_region
                      | (apply l_off; (focus rfl); (focus rfl))
                      | (apply l_val; (focus rfl); (focus rfl); (focus rfl); (focus (go_simp; (try simp (disch := omega) only [wrap_in, wrap_in', wrap_u16, wrap_u8, wrap_u32, wrap_u64, rem_in, quo_in]); first | done | with_reducible rfl | (constructor <;> with_reducible rfl))))
                      | (apply l_store; (focus rfl); (focus rfl); (focus rfl); (focus (go_simp; (try simp (disch := omega) only [wrap_in, wrap_in', wrap_u16, wrap_u8, wrap_u32, wrap_u64, rem_in, quo_in]); first | done | with_reducible rfl | (constructor <;> with_reducible rfl))))
                      | apply d_block
                      | (apply d_true; (focus rfl); (focus rfl))
                      | (apply d_false; (focus rfl); (focus rfl))
                      | apply d_skip
                      | apply d_exit
                      | apply d_ret
                      | with_reducible apply kt_ret
                      | with_reducible apply kt_exit
                      | with_reducible apply kb_normal
                      | with_reducible apply kb_ret
                      | with_reducible apply kb_here
                      | with_reducible apply kl_ret
                      | with_reducible apply kl_exit
                      | with_reducible apply kc_ret
                      | with_reducible apply kc_exit
                      | (with_reducible apply kb_there; (focus rfl))
                    refine l_call rfl rfl rfl (by first | (go_simp; done) | (go_simp; rfl)) (HC.out) ?_
                    rintro e w' ⟨rfl, hx⟩
                    clear HX
                    try simp only [List.nil_append, List.cons_append, List.set_cons_zero, List.set_cons_succ] at hx
                    have HX := Lib.hid hx
                    clear hx
                    refine ⟨_, rfl, ?_⟩
                    repeat first
                      | apply d_seq
                      | with_reducible apply kt_normal
                      | apply l_nil
                      | apply d_region
                      | (apply l_off; (focus rfl); (focus rfl))
                      | (apply l_val; (focus rfl); (focus rfl); (focus rfl); (focus (go_simp; (try simp (disch := omega) only [wrap_in, wrap_in', wrap_u16, wrap_u8, wrap_u32, wrap_u64, rem_in, quo_in]); first | done | with_reducible rfl | (constructor <;> with_reducible rfl))))
                      | (apply l_store; (focus rfl); (focus rfl); (focus rfl); (focus (go_simp; (try simp (disch := omega) only [wrap_in, wrap_in', wrap_u16, wrap_u8, wrap_u32, wrap_u64, rem_in, quo_in]); first | done | with_reducible rfl | (constructor <;> with_reducible rfl))))
                      | apply d_block
                      | (apply d_true; (focus rfl); (focus rfl))
                      | (apply d_false; (focus rfl); (focus rfl))
                      | apply d_skip
                      | apply d_exit
                      | apply d_ret
                      | with_reducible apply kt_ret
                      | with_reducible apply kt_exit
                      | with_reducible apply kb_normal
                      | with_reducible apply kb_ret
                      | with_reducible apply kb_here
                      | with_reducible apply kl_ret
                      | with_reducible apply kl_exit
                      | with_reducible apply kc_ret
                      | with_reducible apply kc_exit
                      | (with_reducible apply kb_there; (focus rfl))
                    refine kc_normal _ (Subl.cons (t := 1) (by decide) rfl (Subl.cons (t := 5) (by decide) rfl (Subl.cons (t := 6) (by decide) rfl (Subl.cons (t := 7) (by decide) rfl (Subl.cons (t := 9) (by decide) rfl (Subl.cons (t := 10) (by decide) rfl (Subl.cons (t := 12) (by decide) rfl (Subl.cons (t := 13) (by decide) rfl (Subl.cons (t := 14) (by decide) rfl (Subl.cons (t := 15) (by decide) rfl (Subl.nil _ _))))))))))) ?_
                    exact ⟨rfl, HX⟩
                · clear HX x0 x1 x2 x3 x4 x5 hv
                  obtain ⟨rfl, HX⟩ := hcut
                  obtain ⟨-, -, x2, -⟩ := blk6 (HX.out.blk (i := 2) rfl)
                  obtain ⟨z0, f0⟩ := HX.out.arrv (i := 1) rfl (k := v) (by omega)
                  have HLE := Lib.hid hle
                  clear hle
                  by_cases hmay : 1 ≤ y.qty ∧ y.qty ≤ ndf l v
                  · obtain ⟨l3, e1, hneed3, hnd3, hpos, hmax, hlen3⟩ := may HNEED.out v y.qty hmay
                    rw [HLE.out] at e1
                    simp only [Prod.mk.injEq] at e1
                    obtain ⟨rfl, rfl⟩ := e1
                    have hl3 := hneed3.len
                    have hput := HX.out.arrvPut (i := 1) rfl (k := v) (by omega) (.int .i64 (ndf l v - y.qty))
                    simp only [List.set_cons_zero, List.set_cons_succ] at hput
                    rw [updI_v, ← hnd3] at hput
                    generalize ndf l v = z at *
                    have q1 : decide (y.qty ≥ 1) = true := decide_eq_true hmay.1
                    have q1' : decide (1 ≤ y.qty) = true := decide_eq_true hmay.1
                    have q2 : decide (y.qty ≤ z) = true := decide_eq_true hmay.2
                    have q3 : IntKind.wrap .i64 (z - y.qty) = z - y.qty := wrap_in (by omega) (by omega)
                    have HM := Lib.hid hmay
                    have HPUT := Lib.hid hput
                    have HND3 := Lib.hid hnd3
                    have HNEED3 := Lib.hid hneed3
                    clear hput hnd3 hneed3
                    clear hmay
                    repeat first
                      | apply d_seq
                      | with_reducible apply kt_normal
                      | apply l_nil
                      | apply d_region
                      | (apply l_off; (focus rfl); (focus rfl))
                      | (apply l_val; (focus rfl); (focus rfl); (focus rfl); (focus (go_simp; (try simp (disch := omega) only [wrap_in, wrap_in', wrap_u16, wrap_u8, wrap_u32, wrap_u64, rem_in, quo_in]); first | done | with_reducible rfl | (constructor <;> with_reducible rfl))))
                      | (apply l_store; (focus rfl); (focus rfl); (focus rfl); (focus (go_simp; (try simp (disch := omega) only [wrap_in, wrap_in', wrap_u16, wrap_u8, wrap_u32, wrap_u64, rem_in, quo_in]); first | done | with_reducible rfl | (constructor <;> with_reducible rfl))))
                      | apply d_block
                      | (apply d_true; (focus rfl); (focus rfl))
                      | (apply d_false; (focus rfl); (focus rfl))
                      | apply d_skip
                      | apply d_exit
                      | apply d_ret
                      | with_reducible apply kt_ret
                      | with_reducible apply kt_exit
                      | with_reducible apply kb_normal
                      | with_reducible apply kb_ret
                      | with_reducible apply kb_here
                      | with_reducible apply kl_ret
                      | with_reducible apply kl_exit
                      | with_reducible apply kc_ret
                      | with_reducible apply kc_exit
                      | (with_reducible apply kb_there; (focus rfl))
                    refine d_draw (true, [([], []), ([0], [0]), ([1], [1]), ([2], [2]), ([3], [3]), ([4, 3], [3, 4]), ([3], [3]), ([6, 3], [3, 6]), ([7, 3], [3, 7]), ([5, 8, 3], [3, 5, 8]), ([3, 9], [3, 9]), ([10, 3, 0, 1, 2, 3, 4, 5, 6, 7, 8, 9, 10], [10])]) [(0, 0), (0, 1), (0, 2), (0, 3), (0, 4), (0, 5), (0, 6), (0, 7), (0, 8), (0, 9), (0, 10), (0, 11)] [999999] (fun W => W.cell? ⟨xb, 2, none⟩ = some (.int .i64 y.qty) ∧ W.cell? ⟨ab, v, none⟩ = some (.int .i64 z)) (by kernel_rfl) (by kernel_rfl) (by kernel_rfl) (by kernel_rfl) ⟨x2, z0⟩ ?_
                    iterate 12
                      first | (apply s_off; (focus rfl); (focus rfl); (focus rfl)) | (apply s_yield; (focus rfl); (focus rfl); (focus rfl); (focus rfl); (focus (intro W hS; obtain ⟨hS1, hS2⟩ := hS; go_simp; (try simp (disch := omega) only [wrap_in, wrap_in', wrap_u16, wrap_u8, wrap_u32, wrap_u64, rem_in, quo_in]); first | done | with_reducible rfl | (constructor <;> with_reducible rfl))))
                    refine s_done ?_
                    have HX2 := Lib.hid HPUT.out.drew
                    have x2 : wr.drew.cell? ⟨xb, 2, none⟩ = some (.int .i64 y.qty) := x2
                    have z0 : wr.drew.cell? ⟨ab, v, none⟩ = some (.int .i64 z) := z0
                    have f0 : wr.drew.frozen? ⟨ab, v, none⟩ = false := f0
                    repeat first
                      | apply d_seq
                      | with_reducible apply kt_normal
                      | apply l_nil
                      | apply d_region
                      | (apply l_off; (focus rfl); (focus rfl))
                      | (apply l_val; (focus rfl); (focus rfl); (focus rfl); (focus (go_simp; (try simp (disch := omega) only [wrap_in, wrap_in', wrap_u16, wrap_u8, wrap_u32, wrap_u64, rem_in, quo_in]); first | done | with_reducible rfl | (constructor <;> with_reducible rfl))))
                      | (apply l_store; (focus rfl); (focus rfl); (focus rfl); (focus (go_simp; (try simp (disch := omega) only [wrap_in, wrap_in', wrap_u16, wrap_u8, wrap_u32, wrap_u64, rem_in, quo_in]); first | done | with_reducible rfl | (constructor <;> with_reducible rfl))))
                      | apply d_block
                      | (apply d_true; (focus rfl); (focus rfl))
                      | (apply d_false; (focus rfl); (focus rfl))
                      | apply d_skip
                      | apply d_exit
                      | apply d_ret
                      | with_reducible apply kt_ret
                      | with_reducible apply kt_exit
                      | with_reducible apply kb_normal
                      | with_reducible apply kb_ret
                      | with_reducible apply kb_here
                      | with_reducible apply kl_ret
                      | with_reducible apply kl_exit
                      | with_reducible apply kc_ret
                      | with_reducible apply kc_exit
                      | (with_reducible apply kb_there; (focus rfl))
                    refine d_draw (true, [([], []), ([], []), ([1], [1]), ([2], [2]), ([], []), ([4], [4]), ([3, 5], [3, 5]), ([0, 0, 1, 2, 3, 4, 5, 6], [0]), ([7, 6, 0, 1, 2, 3, 4, 5, 6], [6, 7])]) [(0, 0), (0, 1), (0, 2), (0, 3), (0, 4), (0, 5), (0, 6), (0, 7), (2, 8)] [8] (fun W => W.cell? ⟨ab, v, none⟩ = some (.int .i64 z) ∧ W.cell? ⟨xb, 2, none⟩ = some (.int .i64 y.qty)) (by kernel_rfl) (by kernel_rfl) (by kernel_rfl) (by kernel_rfl) ⟨z0, x2⟩ ?_
                    iterate 8
                      first | (apply s_off; (focus rfl); (focus rfl); (focus rfl)) | (apply s_yield; (focus rfl); (focus rfl); (focus rfl); (focus rfl); (focus (intro W hS; obtain ⟨hS1, hS2⟩ := hS; go_simp; (try simp (disch := omega) only [wrap_in, wrap_in', wrap_u16, wrap_u8, wrap_u32, wrap_u64, rem_in, quo_in]); first | done | with_reducible rfl | (constructor <;> with_reducible rfl))))
                    have z0d : wr.drew.drew.cell? ⟨ab, v, none⟩ = some (.int .i64 z) := z0
                    have f0d : wr.drew.drew.frozen? ⟨ab, v, none⟩ = false := f0
                    first | (apply s_last; (focus rfl); (focus rfl); (focus rfl); (focus rfl); (focus (go_simp; (try simp (disch := omega) only [wrap_in, wrap_in', wrap_u16, wrap_u8, wrap_u32, wrap_u64, rem_in, quo_in]); first | done | with_reducible rfl | (constructor <;> with_reducible rfl)))) | (apply s_laststore; (focus rfl); (focus rfl); (focus rfl); (focus rfl); (focus (go_simp; (try simp (disch := omega) only [wrap_in, wrap_in', wrap_u16, wrap_u8, wrap_u32, wrap_u64, rem_in, quo_in]); first | done | with_reducible rfl | (constructor <;> with_reducible rfl))))
                    refine s_done ?_
                    clear HX
                    have HX := Lib.hid HPUT.out.drew.drew
                    have z1 := (HX.out.arrv (i := 1) rfl (k := v) (by omega)).1
                    rw [HND3.out, show updI (ndf l) v (z - y.qty) v = z - y.qty by unfold updI; rw [if_pos rfl]] at z1
                    clear z0 f0 z0d f0d x2 HX2 HPUT
                    generalize (wr.setCell ⟨ab, v, none⟩ (.int .i64 (z - y.qty))).drew.drew = w9 at *
                    generalize z - y.qty = u at *
                    by_cases hu : u = 0
                    · subst hu
                      rw [if_pos rfl] at hlen3
                      obtain ⟨M, hM⟩ : ∃ M : Nat, l2.length = M := ⟨_, rfl⟩
                      have hlM : (l.length : Int) - 1 = (M : Int) := by omega
                      have hc := full_has HX.out 0 p g (W3 l2) rfl 0
                      rw [w3_full, hM] at hc
                      have HM2 := Lib.hid hM
                      have HL3 := Lib.hid hlen3
                      clear hM hlen3
                      by_cases hM0 : (M : Int) = 0
                      · have t1 : ((M : Int) == 0) = true := by simpa using hM0
                        rw [decide_eq_true hM0] at hc
                        have HC := Lib.hid hc
                        clear hc
                        clear hM0
                        repeat first
                          | apply d_seq
                          | with_reducible apply kt_normal
                          | apply l_nil
                          | apply d_region
                          | (apply l_off; (focus rfl); (focus rfl))
                          | (apply l_val; (focus rfl); (focus rfl); (focus rfl); (focus (go_simp; (try simp (disch := omega) only [wrap_in, wrap_in', wrap_u16, wrap_u8, wrap_u32, wrap_u64, rem_in, quo_in]); first | done | with_reducible rfl | (constructor <;> with_reducible rfl))))
                          | (apply l_store; (focus rfl); (focus rfl); (focus rfl); (focus (go_simp; (try simp (disch := omega) only [wrap_in, wrap_in', wrap_u16, wrap_u8, wrap_u32, wrap_u64, rem_in, quo_in]); first | done | with_reducible rfl | (constructor <;> with_reducible rfl))))
                          | apply d_block
                          | (apply d_true; (focus rfl); (focus rfl))
                          | (apply d_false; (focus rfl); (focus rfl))
                          | apply d_skip
                          | apply d_exit
                          | apply d_ret
                          | with_reducible apply kt_ret
                          | with_reducible apply kt_exit
                          | with_reducible apply kb_normal
                          | with_reducible apply kb_ret
                          | with_reducible apply kb_here
                          | with_reducible apply kl_ret
                          | with_reducible apply kl_exit
                          | with_reducible apply kc_ret
                          | with_reducible apply kc_exit
                          | (with_reducible apply kb_there; (focus rfl))
                        refine l_call rfl rfl rfl (by first | (go_simp; done) | (go_simp; rfl)) (HC.out) ?_
                        rintro e w' ⟨rfl, hx⟩
                        clear HX
                        try simp only [List.nil_append, List.cons_append, List.set_cons_zero, List.set_cons_succ] at hx
                        have HX := Lib.hid hx
                        clear hx
                        refine ⟨_, rfl, ?_⟩
                        repeat first
                          | apply d_seq
                          | with_reducible apply kt_normal
                          | apply l_nil
                          | apply d_region
                          | (apply l_off; (focus rfl); (focus rfl))
                          | (apply l_val; (focus rfl); (focus rfl); (focus rfl); (focus (go_simp; (try simp (disch := omega) only [wrap_in, wrap_in', wrap_u16, wrap_u8, wrap_u32, wrap_u64, rem_in, quo_in]); first | done | with_reducible rfl | (constructor <;> with_reducible rfl))))
                          | (apply l_store; (focus rfl); (focus rfl); (focus rfl); (focus (go_simp; (try simp (disch := omega) only [wrap_in, wrap_in', wrap_u16, wrap_u8, wrap_u32, wrap_u64, rem_in, quo_in]); first | done | with_reducible rfl | (constructor <;> with_reducible rfl))))
                          | apply d_block
                          | (apply d_true; (focus rfl); (focus rfl))
                          | (apply d_false; (focus rfl); (focus rfl))
                          | apply d_skip
                          | apply d_exit
                          | apply d_ret
                          | with_reducible apply kt_ret
                          | with_reducible apply kt_exit
                          | with_reducible apply kb_normal
                          | with_reducible apply kb_ret
                          | with_reducible apply kb_here
                          | with_reducible apply kl_ret
                          | with_reducible apply kl_exit
                          | with_reducible apply kc_ret
                          | with_reducible apply kc_exit
                          | (with_reducible apply kb_there; (focus rfl))
                        refine kl_normal (l0.length - (k + 1)) _ (by omega) (Subl.cons (t := 1) (by decide) rfl (Subl.cons (t := 5) (by decide) rfl (Subl.cons (t := 6) (by decide) rfl (Subl.cons (t := 7) (by decide) rfl (Subl.cons (t := 9) (by decide) rfl (Subl.cons (t := 10) (by decide) rfl (Subl.cons (t := 12) (by decide) rfl (Subl.nil _ _)))))))) ?_
                        exact ⟨k + 1, l2, rfl, by omega, by rw [HM2.out]; rfl, Lib.hid (HX.out.take 2), HNEED3⟩
                      · have t1 : ((M : Int) == 0) = false := by simpa using hM0
                        rw [decide_eq_false hM0] at hc
                        have HC := Lib.hid hc
                        clear hc
                        clear hM0
                        repeat first
                          | apply d_seq
                          | with_reducible apply kt_normal
                          | apply l_nil
                          | apply d_region
                          | (apply l_off; (focus rfl); (focus rfl))
                          | (apply l_val; (focus rfl); (focus rfl); (focus rfl); (focus (go_simp; (try simp (disch := omega) only [wrap_in, wrap_in', wrap_u16, wrap_u8, wrap_u32, wrap_u64, rem_in, quo_in]); first | done | with_reducible rfl | (constructor <;> with_reducible rfl))))
                          | (apply l_store; (focus rfl); (focus rfl); (focus rfl); (focus (go_simp; (try simp (disch := omega) only [wrap_in, wrap_in', wrap_u16, wrap_u8, wrap_u32, wrap_u64, rem_in, quo_in]); first | done | with_reducible rfl | (constructor <;> with_reducible rfl))))
                          | apply d_block
                          | (apply d_true; (focus rfl); (focus rfl))
                          | (apply d_false; (focus rfl); (focus rfl))
                          | apply d_skip
                          | apply d_exit
                          | apply d_ret
                          | with_reducible apply kt_ret
                          | with_reducible apply kt_exit
                          | with_reducible apply kb_normal
                          | with_reducible apply kb_ret
                          | with_reducible apply kb_here
                          | with_reducible apply kl_ret
                          | with_reducible apply kl_exit
                          | with_reducible apply kc_ret
                          | with_reducible apply kc_exit
                          | (with_reducible apply kb_there; (focus rfl))
                        refine l_call rfl rfl rfl (by first | (go_simp; done) | (go_simp; rfl)) (HC.out) ?_
                        rintro e w' ⟨rfl, hx⟩
                        clear HX
                        try simp only [List.nil_append, List.cons_append, List.set_cons_zero, List.set_cons_succ] at hx
                        have HX := Lib.hid hx
                        clear hx
                        refine ⟨_, rfl, ?_⟩
                        repeat first
                          | apply d_seq
                          | with_reducible apply kt_normal
                          | apply l_nil
                          | apply d_region
                          | (apply l_off; (focus rfl); (focus rfl))
                          | (apply l_val; (focus rfl); (focus rfl); (focus rfl); (focus (go_simp; (try simp (disch := omega) only [wrap_in, wrap_in', wrap_u16, wrap_u8, wrap_u32, wrap_u64, rem_in, quo_in]); first | done | with_reducible rfl | (constructor <;> with_reducible rfl))))
                          | (apply l_store; (focus rfl); (focus rfl); (focus rfl); (focus (go_simp; (try simp (disch := omega) only [wrap_in, wrap_in', wrap_u16, wrap_u8, wrap_u32, wrap_u64, rem_in, quo_in]); first | done | with_reducible rfl | (constructor <;> with_reducible rfl))))
                          | apply d_block
                          | (apply d_true; (focus rfl); (focus rfl))
                          | (apply d_false; (focus rfl); (focus rfl))
                          | apply d_skip
                          | apply d_exit
                          | apply d_ret
                          | with_reducible apply kt_ret
                          | with_reducible apply kt_exit
                          | with_reducible apply kb_normal
                          | with_reducible apply kb_ret
                          | with_reducible apply kb_here
                          | with_reducible apply kl_ret
                          | with_reducible apply kl_exit
                          | with_reducible apply kc_ret
                          | with_reducible apply kc_exit
                          | (with_reducible apply kb_there; (focus rfl))
                        refine kl_normal (l0.length - (k + 1)) _ (by omega) (Subl.cons (t := 1) (by decide) rfl (Subl.cons (t := 5) (by decide) rfl (Subl.cons (t := 6) (by decide) rfl (Subl.cons (t := 7) (by decide) rfl (Subl.cons (t := 9) (by decide) rfl (Subl.cons (t := 10) (by decide) rfl (Subl.cons (t := 12) (by decide) rfl (Subl.nil _ _)))))))) ?_
                        exact ⟨k + 1, l2, rfl, by omega, by rw [HM2.out]; rfl, Lib.hid (HX.out.take 2), HNEED3⟩
                    · rw [if_neg hu] at hlen3
                      have hu2 : (u == 0) = false := by simpa using hu
                      have hc := full_has HX.out 0 p g (W3 l2) rfl 0
                      rw [w3_full, hlen3, decide_eq_false (show ¬ (l.length : Int) = 0 by omega)] at hc
                      have t1 : ((l.length : Int) == 0) = false := by rw [beq_eq_false_iff_ne]; omega
                      have HL3 := Lib.hid hlen3
                      have HC := Lib.hid hc
                      clear hc
                      clear hlen3 hu
                      repeat first
                        | apply d_seq
                        | with_reducible apply kt_normal
                        | apply l_nil
                        | apply d_region
                        | (apply l_off; (focus rfl); (focus rfl))
                        | (apply l_val; (focus rfl); (focus rfl); (focus rfl); (focus (go_simp; (try simp (disch := omega) only [wrap_in, wrap_in', wrap_u16, wrap_u8, wrap_u32, wrap_u64, rem_in, quo_in]); first | done | with_reducible rfl | (constructor <;> with_reducible rfl))))
                        | (apply l_store; (focus rfl); (focus rfl); (focus rfl); (focus (go_simp; (try simp (disch := omega) only [wrap_in, wrap_in', wrap_u16, wrap_u8, wrap_u32, wrap_u64, rem_in, quo_in]); first | done | with_reducible rfl | (constructor <;> with_reducible rfl))))
                        | apply d_block
                        | (apply d_true; (focus rfl); (focus rfl))
                        | (apply d_false; (focus rfl); (focus rfl))
                        | apply d_skip
                        | apply d_exit
                        | apply d_ret
                        | with_reducible apply kt_ret
                        | with_reducible apply kt_exit
                        | with_reducible apply kb_normal
                        | with_reducible apply kb_ret
                        | with_reducible apply kb_here
                        | with_reducible apply kl_ret
                        | with_reducible apply kl_exit
                        | with_reducible apply kc_ret
                        | with_reducible apply kc_exit
                        | (with_reducible apply kb_there; (focus rfl))
                      refine l_call rfl rfl rfl (by first | (go_simp; done) | (go_simp; rfl)) (HC.out) ?_
                      rintro e w' ⟨rfl, hx⟩
                      clear HX
                      try simp only [List.nil_append, List.cons_append, List.set_cons_zero, List.set_cons_succ] at hx
                      have HX := Lib.hid hx
                      clear hx
                      refine ⟨_, rfl, ?_⟩
                      repeat first
                        | apply d_seq
                        | with_reducible apply kt_normal
                        | apply l_nil
                        | apply d_region
                        | (apply l_off; (focus rfl); (focus rfl))
                        | (apply l_val; (focus rfl); (focus rfl); (focus rfl); (focus (go_simp; (try simp (disch := omega) only [wrap_in, wrap_in', wrap_u16, wrap_u8, wrap_u32, wrap_u64, rem_in, quo_in]); first | done | with_reducible rfl | (constructor <;> with_reducible rfl))))
                        | (apply l_store; (focus rfl); (focus rfl); (focus rfl); (focus (go_simp; (try simp (disch := omega) only [wrap_in, wrap_in', wrap_u16, wrap_u8, wrap_u32, wrap_u64, rem_in, quo_in]); first | done | with_reducible rfl | (constructor <;> with_reducible rfl))))
                        | apply d_block
                        | (apply d_true; (focus rfl); (focus rfl))
                        | (apply d_false; (focus rfl); (focus rfl))
                        | apply d_skip
                        | apply d_exit
                        | apply d_ret
                        | with_reducible apply kt_ret
                        | with_reducible apply kt_exit
                        | with_reducible apply kb_normal
                        | with_reducible apply kb_ret
                        | with_reducible apply kb_here
                        | with_reducible apply kl_ret
                        | with_reducible apply kl_exit
                        | with_reducible apply kc_ret
                        | with_reducible apply kc_exit
                        | (with_reducible apply kb_there; (focus rfl))
                      refine kl_normal (l0.length - (k + 1)) _ (by omega) (Subl.cons (t := 1) (by decide) rfl (Subl.cons (t := 5) (by decide) rfl (Subl.cons (t := 6) (by decide) rfl (Subl.cons (t := 7) (by decide) rfl (Subl.cons (t := 9) (by decide) rfl (Subl.cons (t := 10) (by decide) rfl (Subl.cons (t := 12) (by decide) rfl (Subl.nil _ _)))))))) ?_
                      exact ⟨k + 1, l2, rfl, by omega, by rw [HL3.out]; rfl, Lib.hid (HX.out.take 2), HNEED3⟩
                  · obtain ⟨e1, he1, he2⟩ := not_may v y.qty hmay
                    rw [HLE.out] at he1
                    simp only [Prod.mk.injEq] at he1
                    obtain ⟨rfl, rfl⟩ := he1
                    have hc := full_has HX.out.drew 0 p g (W3 l2) rfl 0
                    rw [w3_full] at hc
                    obtain ⟨fb, hfb⟩ : ∃ fb, decide ((l2.length : Int) = 0) = fb := ⟨_, rfl⟩
                    have t1 : ((l2.length : Int) == 0) = fb := by rw [← hfb, Bool.eq_iff_iff]; simp
                    rw [hfb] at hc
                    have HC := Lib.hid hc
                    clear hc
                    generalize ndf l2 v = z at *
                    clear HLE hfb
                    by_cases hq1 : 1 ≤ y.qty
                    · have q1 : decide (y.qty ≥ 1) = true := decide_eq_true hq1
                      have q1' : decide (1 ≤ y.qty) = true := decide_eq_true hq1
                      have q2 : decide (y.qty ≤ z) = false := decide_eq_false (by omega)
                      clear hmay
                      repeat first
                        | apply d_seq
                        | with_reducible apply kt_normal
                        | apply l_nil
                        | apply d_region
                        | (apply l_off; (focus rfl); (focus rfl))
                        | (apply l_val; (focus rfl); (focus rfl); (focus rfl); (focus (go_simp; (try simp (disch := omega) only [wrap_in, wrap_in', wrap_u16, wrap_u8, wrap_u32, wrap_u64, rem_in, quo_in]); first | done | with_reducible rfl | (constructor <;> with_reducible rfl))))
                        | (apply l_store; (focus rfl); (focus rfl); (focus rfl); (focus (go_simp; (try simp (disch := omega) only [wrap_in, wrap_in', wrap_u16, wrap_u8, wrap_u32, wrap_u64, rem_in, quo_in]); first | done | with_reducible rfl | (constructor <;> with_reducible rfl))))
                        | apply d_block
                        | (apply d_true; (focus rfl); (focus rfl))
                        | (apply d_false; (focus rfl); (focus rfl))
                        | apply d_skip
                        | apply d_exit
                        | apply d_ret
                        | with_reducible apply kt_ret
                        | with_reducible apply kt_exit
                        | with_reducible apply kb_normal
                        | with_reducible apply kb_ret
                        | with_reducible apply kb_here
                        | with_reducible apply kl_ret
                        | with_reducible apply kl_exit
                        | with_reducible apply kc_ret
                        | with_reducible apply kc_exit
                        | (with_reducible apply kb_there; (focus rfl))
                      refine d_draw (true, [([], []), ([0], [0]), ([1], [1]), ([2], [2]), ([3], [3]), ([4, 3], [3, 4]), ([3], [3]), ([6, 3], [3, 6]), ([7, 3], [3, 7]), ([5, 8, 3], [3, 5, 8]), ([3, 9], [3, 9]), ([10, 3, 0, 1, 2, 3, 4, 5, 6, 7, 8, 9, 10], [10])]) [(0, 0), (0, 1), (0, 2), (0, 3), (0, 4), (0, 5), (0, 6), (0, 7), (0, 8), (0, 9), (0, 10), (0, 11)] [999999] (fun W => W.cell? ⟨xb, 2, none⟩ = some (.int .i64 y.qty) ∧ W.cell? ⟨ab, v, none⟩ = some (.int .i64 z)) (by kernel_rfl) (by kernel_rfl) (by kernel_rfl) (by kernel_rfl) ⟨x2, z0⟩ ?_
                      iterate 12
                        first | (apply s_off; (focus rfl); (focus rfl); (focus rfl)) | (apply s_yield; (focus rfl); (focus rfl); (focus rfl); (focus rfl); (focus (intro W hS; obtain ⟨hS1, hS2⟩ := hS; go_simp; (try simp (disch := omega) only [wrap_in, wrap_in', wrap_u16, wrap_u8, wrap_u32, wrap_u64, rem_in, quo_in]); first | done | with_reducible rfl | (constructor <;> with_reducible rfl))))
                      refine s_done ?_
                      cases fb with
                      | true =>
                        repeat first
                          | apply d_seq
                          | with_reducible apply kt_normal
                          | apply l_nil
                          | apply d_region
                          | (apply l_off; (focus rfl); (focus rfl))
                          | (apply l_val; (focus rfl); (focus rfl); (focus rfl); (focus (go_simp; (try simp (disch := omega) only [wrap_in, wrap_in', wrap_u16, wrap_u8, wrap_u32, wrap_u64, rem_in, quo_in]); first | done | with_reducible rfl | (constructor <;> with_reducible rfl))))
                          | (apply l_store; (focus rfl); (focus rfl); (focus rfl); (focus (go_simp; (try simp (disch := omega) only [wrap_in, wrap_in', wrap_u16, wrap_u8, wrap_u32, wrap_u64, rem_in, quo_in]); first | done | with_reducible rfl | (constructor <;> with_reducible rfl))))
                          | apply d_block
                          | (apply d_true; (focus rfl); (focus rfl))
                          | (apply d_false; (focus rfl); (focus rfl))
                          | apply d_skip
                          | apply d_exit
                          | apply d_ret
                          | with_reducible apply kt_ret
                          | with_reducible apply kt_exit
                          | with_reducible apply kb_normal
                          | with_reducible apply kb_ret
                          | with_reducible apply kb_here
                          | with_reducible apply kl_ret
                          | with_reducible apply kl_exit
                          | with_reducible apply kc_ret
                          | with_reducible apply kc_exit
                          | (with_reducible apply kb_there; (focus rfl))
                        refine l_call rfl rfl rfl (by first | (go_simp; done) | (go_simp; rfl)) (HC.out) ?_
                        rintro e w' ⟨rfl, hx⟩
                        clear HX
                        try simp only [List.nil_append, List.cons_append, List.set_cons_zero, List.set_cons_succ] at hx
                        have HX := Lib.hid hx
                        clear hx
                        refine ⟨_, rfl, ?_⟩
                        repeat first
                          | apply d_seq
                          | with_reducible apply kt_normal
                          | apply l_nil
                          | apply d_region
                          | (apply l_off; (focus rfl); (focus rfl))
                          | (apply l_val; (focus rfl); (focus rfl); (focus rfl); (focus (go_simp; (try simp (disch := omega) only [wrap_in, wrap_in', wrap_u16, wrap_u8, wrap_u32, wrap_u64, rem_in, quo_in]); first | done | with_reducible rfl | (constructor <;> with_reducible rfl))))
                          | (apply l_store; (focus rfl); (focus rfl); (focus rfl); (focus (go_simp; (try simp (disch := omega) only [wrap_in, wrap_in', wrap_u16, wrap_u8, wrap_u32, wrap_u64, rem_in, quo_in]); first | done | with_reducible rfl | (constructor <;> with_reducible rfl))))
                          | apply d_block
                          | (apply d_true; (focus rfl); (focus rfl))
                          | (apply d_false; (focus rfl); (focus rfl))
                          | apply d_skip
                          | apply d_exit
                          | apply d_ret
                          | with_reducible apply kt_ret
                          | with_reducible apply kt_exit
                          | with_reducible apply kb_normal
                          | with_reducible apply kb_ret
                          | with_reducible apply kb_here
                          | with_reducible apply kl_ret
                          | with_reducible apply kl_exit
                          | with_reducible apply kc_ret
                          | with_reducible apply kc_exit
                          | (with_reducible apply kb_there; (focus rfl))
                        refine kl_normal (l0.length - (k + 1)) _ (by omega) (Subl.cons (t := 1) (by decide) rfl (Subl.cons (t := 5) (by decide) rfl (Subl.cons (t := 6) (by decide) rfl (Subl.cons (t := 7) (by decide) rfl (Subl.cons (t := 9) (by decide) rfl (Subl.cons (t := 10) (by decide) rfl (Subl.cons (t := 12) (by decide) rfl (Subl.nil _ _)))))))) ?_
                        exact ⟨k + 1, l2, rfl, by omega, rfl, Lib.hid (HX.out.take 2), HNEED⟩
                      | false =>
                        repeat first
                          | apply d_seq
                          | with_reducible apply kt_normal
                          | apply l_nil
                          | apply d_region
                          | (apply l_off; (focus rfl); (focus rfl))
                          | (apply l_val; (focus rfl); (focus rfl); (focus rfl); (focus (go_simp; (try simp (disch := omega) only [wrap_in, wrap_in', wrap_u16, wrap_u8, wrap_u32, wrap_u64, rem_in, quo_in]); first | done | with_reducible rfl | (constructor <;> with_reducible rfl))))
                          | (apply l_store; (focus rfl); (focus rfl); (focus rfl); (focus (go_simp; (try simp (disch := omega) only [wrap_in, wrap_in', wrap_u16, wrap_u8, wrap_u32, wrap_u64, rem_in, quo_in]); first | done | with_reducible rfl | (constructor <;> with_reducible rfl))))
                          | apply d_block
                          | (apply d_true; (focus rfl); (focus rfl))
                          | (apply d_false; (focus rfl); (focus rfl))
                          | apply d_skip
                          | apply d_exit
                          | apply d_ret
                          | with_reducible apply kt_ret
                          | with_reducible apply kt_exit
                          | with_reducible apply kb_normal
                          | with_reducible apply kb_ret
                          | with_reducible apply kb_here
                          | with_reducible apply kl_ret
                          | with_reducible apply kl_exit
                          | with_reducible apply kc_ret
                          | with_reducible apply kc_exit
                          | (with_reducible apply kb_there; (focus rfl))
                        refine l_call rfl rfl rfl (by first | (go_simp; done) | (go_simp; rfl)) (HC.out) ?_
                        rintro e w' ⟨rfl, hx⟩
                        clear HX
                        try simp only [List.nil_append, List.cons_append, List.set_cons_zero, List.set_cons_succ] at hx
                        have HX := Lib.hid hx
                        clear hx
                        refine ⟨_, rfl, ?_⟩
                        repeat first
                          | apply d_seq
                          | with_reducible apply kt_normal
                          | apply l_nil
                          | apply d_region
                          | (apply l_off; (focus rfl); (focus rfl))
                          | (apply l_val; (focus rfl); (focus rfl); (focus rfl); (focus (go_simp; (try simp (disch := omega) only [wrap_in, wrap_in', wrap_u16, wrap_u8, wrap_u32, wrap_u64, rem_in, quo_in]); first | done | with_reducible rfl | (constructor <;> with_reducible rfl))))
                          | (apply l_store; (focus rfl); (focus rfl); (focus rfl); (focus (go_simp; (try simp (disch := omega) only [wrap_in, wrap_in', wrap_u16, wrap_u8, wrap_u32, wrap_u64, rem_in, quo_in]); first | done | with_reducible rfl | (constructor <;> with_reducible rfl))))
                          | apply d_block
                          | (apply d_true; (focus rfl); (focus rfl))
                          | (apply d_false; (focus rfl); (focus rfl))
                          | apply d_skip
                          | apply d_exit
                          | apply d_ret
                          | with_reducible apply kt_ret
                          | with_reducible apply kt_exit
                          | with_reducible apply kb_normal
                          | with_reducible apply kb_ret
                          | with_reducible apply kb_here
                          | with_reducible apply kl_ret
                          | with_reducible apply kl_exit
                          | with_reducible apply kc_ret
                          | with_reducible apply kc_exit
                          | (with_reducible apply kb_there; (focus rfl))
                        refine kl_normal (l0.length - (k + 1)) _ (by omega) (Subl.cons (t := 1) (by decide) rfl (Subl.cons (t := 5) (by decide) rfl (Subl.cons (t := 6) (by decide) rfl (Subl.cons (t := 7) (by decide) rfl (Subl.cons (t := 9) (by decide) rfl (Subl.cons (t := 10) (by decide) rfl (Subl.cons (t := 12) (by decide) rfl (Subl.nil _ _)))))))) ?_
                        exact ⟨k + 1, l2, rfl, by omega, rfl, Lib.hid (HX.out.take 2), HNEED⟩
                    · have q1 : decide (y.qty ≥ 1) = false := decide_eq_false hq1
                      have q1' : decide (1 ≤ y.qty) = false := decide_eq_false hq1
                      clear hmay
                      repeat first
                        | apply d_seq
                        | with_reducible apply kt_normal
                        | apply l_nil
                        | apply d_region
                        | (apply l_off; (focus rfl); (focus rfl))
                        | (apply l_val; (focus rfl); (focus rfl); (focus rfl); (focus (go_simp; (try simp (disch := omega) only [wrap_in, wrap_in', wrap_u16, wrap_u8, wrap_u32, wrap_u64, rem_in, quo_in]); first | done | with_reducible rfl | (constructor <;> with_reducible rfl))))
                        | (apply l_store; (focus rfl); (focus rfl); (focus rfl); (focus (go_simp; (try simp (disch := omega) only [wrap_in, wrap_in', wrap_u16, wrap_u8, wrap_u32, wrap_u64, rem_in, quo_in]); first | done | with_reducible rfl | (constructor <;> with_reducible rfl))))
                        | apply d_block
                        | (apply d_true; (focus rfl); (focus rfl))
                        | (apply d_false; (focus rfl); (focus rfl))
                        | apply d_skip
                        | apply d_exit
                        | apply d_ret
                        | with_reducible apply kt_ret
                        | with_reducible apply kt_exit
                        | with_reducible apply kb_normal
                        | with_reducible apply kb_ret
                        | with_reducible apply kb_here
                        | with_reducible apply kl_ret
                        | with_reducible apply kl_exit
                        | with_reducible apply kc_ret
                        | with_reducible apply kc_exit
                        | (with_reducible apply kb_there; (focus rfl))
                      refine d_draw (true, [([], []), ([0], [0]), ([1], [1]), ([2], [2]), ([3], [3]), ([4, 3], [3, 4]), ([3], [3]), ([6, 3], [3, 6]), ([7, 3], [3, 7]), ([5, 8, 3], [3, 5, 8]), ([3, 9], [3, 9]), ([10, 3, 0, 1, 2, 3, 4, 5, 6, 7, 8, 9, 10], [10])]) [(0, 0), (0, 1), (0, 2), (0, 3), (0, 4), (0, 5), (0, 6), (0, 7), (0, 8), (0, 9), (0, 10), (0, 11)] [999999] (fun W => W.cell? ⟨xb, 2, none⟩ = some (.int .i64 y.qty) ∧ W.cell? ⟨ab, v, none⟩ = some (.int .i64 z)) (by kernel_rfl) (by kernel_rfl) (by kernel_rfl) (by kernel_rfl) ⟨x2, z0⟩ ?_
                      iterate 12
                        first | (apply s_off; (focus rfl); (focus rfl); (focus rfl)) | (apply s_yield; (focus rfl); (focus rfl); (focus rfl); (focus rfl); (focus (intro W hS; obtain ⟨hS1, hS2⟩ := hS; go_simp; (try simp (disch := omega) only [wrap_in, wrap_in', wrap_u16, wrap_u8, wrap_u32, wrap_u64, rem_in, quo_in]); first | done | with_reducible rfl | (constructor <;> with_reducible rfl))))
                      refine s_done ?_
                      cases fb with
                      | true =>
                        repeat first
                          | apply d_seq
                          | with_reducible apply kt_normal
                          | apply l_nil
                          | apply d_region
                          | (apply l_off; (focus rfl); (focus rfl))
                          | (apply l_val; (focus rfl); (focus rfl); (focus rfl); (focus (go_simp; (try simp (disch := omega) only [wrap_in, wrap_in', wrap_u16, wrap_u8, wrap_u32, wrap_u64, rem_in, quo_in]); first | done | with_reducible rfl | (constructor <;> with_reducible rfl))))
                          | (apply l_store; (focus rfl); (focus rfl); (focus rfl); (focus (go_simp; (try simp (disch := omega) only [wrap_in, wrap_in', wrap_u16, wrap_u8, wrap_u32, wrap_u64, rem_in, quo_in]); first | done | with_reducible rfl | (constructor <;> with_reducible rfl))))
                          | apply d_block
                          | (apply d_true; (focus rfl); (focus rfl))
                          | (apply d_false; (focus rfl); (focus rfl))
                          | apply d_skip
                          | apply d_exit
                          | apply d_ret
                          | with_reducible apply kt_ret
                          | with_reducible apply kt_exit
                          | with_reducible apply kb_normal
                          | with_reducible apply kb_ret
                          | with_reducible apply kb_here
                          | with_reducible apply kl_ret
                          | with_reducible apply kl_exit
                          | with_reducible apply kc_ret
                          | with_reducible apply kc_exit
                          | (with_reducible apply kb_there; (focus rfl))
                        refine l_call rfl rfl rfl (by first | (go_simp; done) | (go_simp; rfl)) (HC.out) ?_
                        rintro e w' ⟨rfl, hx⟩
                        clear HX
                        try simp only [List.nil_append, List.cons_append, List.set_cons_zero, List.set_cons_succ] at hx
                        have HX := Lib.hid hx
                        clear hx
                        refine ⟨_, rfl, ?_⟩
                        repeat first
                          | apply d_seq
                          | with_reducible apply kt_normal
                          | apply l_nil
                          | apply d_region
                          | (apply l_off; (focus rfl); (focus rfl))
                          | (apply l_val; (focus rfl); (focus rfl); (focus rfl); (focus (go_simp; (try simp (disch := omega) only [wrap_in, wrap_in', wrap_u16, wrap_u8, wrap_u32, wrap_u64, rem_in, quo_in]); first | done | with_reducible rfl | (constructor <;> with_reducible rfl))))
                          | (apply l_store; (focus rfl); (focus rfl); (focus rfl); (focus (go_simp; (try simp (disch := omega) only [wrap_in, wrap_in', wrap_u16, wrap_u8, wrap_u32, wrap_u64, rem_in, quo_in]); first | done | with_reducible rfl | (constructor <;> with_reducible rfl))))
                          | apply d_block
                          | (apply d_true; (focus rfl); (focus rfl))
                          | (apply d_false; (focus rfl); (focus rfl))
                          | apply d_skip
                          | apply d_exit
                          | apply d_ret
                          | with_reducible apply kt_ret
                          | with_reducible apply kt_exit
                          | with_reducible apply kb_normal
                          | with_reducible apply kb_ret
                          | with_reducible apply kb_here
                          | with_reducible apply kl_ret
                          | with_reducible apply kl_exit
                          | with_reducible apply kc_ret
                          | with_reducible apply kc_exit
                          | (with_reducible apply kb_there; (focus rfl))
                        refine kl_normal (l0.length - (k + 1)) _ (by omega) (Subl.cons (t := 1) (by decide) rfl (Subl.cons (t := 5) (by decide) rfl (Subl.cons (t := 6) (by decide) rfl (Subl.cons (t := 7) (by decide) rfl (Subl.cons (t := 9) (by decide) rfl (Subl.cons (t := 10) (by decide) rfl (Subl.cons (t := 12) (by decide) rfl (Subl.nil _ _)))))))) ?_
                        exact ⟨k + 1, l2, rfl, by omega, rfl, Lib.hid (HX.out.take 2), HNEED⟩
                      | false =>
                        repeat first
                          | apply d_seq
                          | with_reducible apply kt_normal
                          | apply l_nil
                          | apply d_region
                          | (apply l_off; (focus rfl); (focus rfl))
                          | (apply l_val; (focus rfl); (focus rfl); (focus rfl); (focus (go_simp; (try simp (disch := omega) only [wrap_in, wrap_in', wrap_u16, wrap_u8, wrap_u32, wrap_u64, rem_in, quo_in]); first | done | with_reducible rfl | (constructor <;> with_reducible rfl))))
                          | (apply l_store; (focus rfl); (focus rfl); (focus rfl); (focus (go_simp; (try simp (disch := omega) only [wrap_in, wrap_in', wrap_u16, wrap_u8, wrap_u32, wrap_u64, rem_in, quo_in]); first | done | with_reducible rfl | (constructor <;> with_reducible rfl))))
                          | apply d_block
                          | (apply d_true; (focus rfl); (focus rfl))
                          | (apply d_false; (focus rfl); (focus rfl))
                          | apply d_skip
                          | apply d_exit
                          | apply d_ret
                          | with_reducible apply kt_ret
                          | with_reducible apply kt_exit
                          | with_reducible apply kb_normal
                          | with_reducible apply kb_ret
                          | with_reducible apply kb_here
                          | with_reducible apply kl_ret
                          | with_reducible apply kl_exit
                          | with_reducible apply kc_ret
                          | with_reducible apply kc_exit
                          | (with_reducible apply kb_there; (focus rfl))
                        refine l_call rfl rfl rfl (by first | (go_simp; done) | (go_simp; rfl)) (HC.out) ?_
                        rintro e w' ⟨rfl, hx⟩
                        clear HX
                        try simp only [List.nil_append, List.cons_append, List.set_cons_zero, List.set_cons_succ] at hx
                        have HX := Lib.hid hx
                        clear hx
                        refine ⟨_, rfl, ?_⟩
                        repeat first
                          | apply d_seq
                          | with_reducible apply kt_normal
                          | apply l_nil
                          | apply d_region
                          | (apply l_off; (focus rfl); (focus rfl))
                          | (apply l_val; (focus rfl); (focus rfl); (focus rfl); (focus (go_simp; (try simp (disch := omega) only [wrap_in, wrap_in', wrap_u16, wrap_u8, wrap_u32, wrap_u64, rem_in, quo_in]); first | done | with_reducible rfl | (constructor <;> with_reducible rfl))))
                          | (apply l_store; (focus rfl); (focus rfl); (focus rfl); (focus (go_simp; (try simp (disch := omega) only [wrap_in, wrap_in', wrap_u16, wrap_u8, wrap_u32, wrap_u64, rem_in, quo_in]); first | done | with_reducible rfl | (constructor <;> with_reducible rfl))))
                          | apply d_block
                          | (apply d_true; (focus rfl); (focus rfl))
                          | (apply d_false; (focus rfl); (focus rfl))
                          | apply d_skip
                          | apply d_exit
                          | apply d_ret
                          | with_reducible apply kt_ret
                          | with_reducible apply kt_exit
                          | with_reducible apply kb_normal
                          | with_reducible apply kb_ret
                          | with_reducible apply kb_here
                          | with_reducible apply kl_ret
                          | with_reducible apply kl_exit
                          | with_reducible apply kc_ret
                          | with_reducible apply kc_exit
                          | (with_reducible apply kb_there; (focus rfl))
                        refine kl_normal (l0.length - (k + 1)) _ (by omega) (Subl.cons (t := 1) (by decide) rfl (Subl.cons (t := 5) (by decide) rfl (Subl.cons (t := 6) (by decide) rfl (Subl.cons (t := 7) (by decide) rfl (Subl.cons (t := 9) (by decide) rfl (Subl.cons (t := 10) (by decide) rfl (Subl.cons (t := 12) (by decide) rfl (Subl.nil _ _)))))))) ?_
                        exact ⟨k + 1, l2, rfl, by omega, rfl, Lib.hid (HX.out.take 2), HNEED⟩
              · repeat first
                  | apply d_seq
                  | with_reducible apply kt_normal
                  | apply l_nil
                  | apply d_region
                  | (apply l_off; (focus rfl); (focus rfl))
                  | (apply l_val; (focus rfl); (focus rfl); (focus rfl); (focus (go_simp; (try simp (disch := omega) only [wrap_in, wrap_in', wrap_u16, wrap_u8, wrap_u32, wrap_u64, rem_in, quo_in]); first | done | with_reducible rfl | (constructor <;> with_reducible rfl))))
                  | (apply l_store; (focus rfl); (focus rfl); (focus rfl); (focus (go_simp; (try simp (disch := omega) only [wrap_in, wrap_in', wrap_u16, wrap_u8, wrap_u32, wrap_u64, rem_in, quo_in]); first | done | with_reducible rfl | (constructor <;> with_reducible rfl))))
                  | apply d_block
                  | (apply d_true; (focus rfl); (focus rfl))
                  | (apply d_false; (focus rfl); (focus rfl))
                  | apply d_skip
                  | apply d_exit
                  | apply d_ret
                  | with_reducible apply kt_ret
                  | with_reducible apply kt_exit
                  | with_reducible apply kb_normal
                  | with_reducible apply kb_ret
                  | with_reducible apply kb_here
                  | with_reducible apply kl_ret
                  | with_reducible apply kl_exit
                  | with_reducible apply kc_ret
                  | with_reducible apply kc_exit
                  | (with_reducible apply kb_there; (focus rfl))
                refine kc_normal _ (Subl.cons (t := 5) (by decide) rfl (Subl.cons (t := 6) (by decide) rfl (Subl.cons (t := 7) (by decide) rfl (Subl.cons (t := 10) (by decide) rfl (Subl.nil _ _))))) ?_
                exact ⟨l, ab, rfl, HX, HNEED⟩
            · repeat first
                | apply d_seq
                | with_reducible apply kt_normal
                | apply l_nil
                | apply d_region
                | (apply l_off; (focus rfl); (focus rfl))
                | (apply l_val; (focus rfl); (focus rfl); (focus rfl); (focus (go_simp; (try simp (disch := omega) only [wrap_in, wrap_in', wrap_u16, wrap_u8, wrap_u32, wrap_u64, rem_in, quo_in]); first | done | with_reducible rfl | (constructor <;> with_reducible rfl))))
                | (apply l_store; (focus rfl); (focus rfl); (focus rfl); (focus (go_simp; (try simp (disch := omega) only [wrap_in, wrap_in', wrap_u16, wrap_u8, wrap_u32, wrap_u64, rem_in, quo_in]); first | done | with_reducible rfl | (constructor <;> with_reducible rfl))))
                | apply d_block
                | (apply d_true; (focus rfl); (focus rfl))
                | (apply d_false; (focus rfl); (focus rfl))
                | apply d_skip
                | apply d_exit
                | apply d_ret
                | with_reducible apply kt_ret
                | with_reducible apply kt_exit
                | with_reducible apply kb_normal
                | with_reducible apply kb_ret
                | with_reducible apply kb_here
                | with_reducible apply kl_ret
                | with_reducible apply kl_exit
                | with_reducible apply kc_ret
                | with_reducible apply kc_exit
                | (with_reducible apply kb_there; (focus rfl))
              refine kc_normal _ (Subl.cons (t := 5) (by decide) rfl (Subl.cons (t := 6) (by decide) rfl (Subl.cons (t := 7) (by decide) rfl (Subl.cons (t := 10) (by decide) rfl (Subl.nil _ _))))) ?_
              exact ⟨l, ab, rfl, HX, HNEED⟩
        · clear HX HNEED
          obtain ⟨l, ab, rfl, HX, HNEED⟩ := hcut
          have hl12 := HNEED.out.len
          have hc := release_has HX.out 0 p g (W3 l) rfl 0
          rw [w3_release] at hc
          by_cases hl0 : (l.length : Int) = 0
          · rw [if_pos hl0] at hc
            dsimp only at hc
            have q1 : ((l.length : Int) == 0) = true := by simpa using hl0
            have HC := Lib.hid hc
            clear hc
            have HL0 := Lib.hid hl0
            clear hl0
            repeat first
              | apply d_seq
              | with_reducible apply kt_normal
              | apply l_nil
              | apply d_region
              | (apply l_off; (focus rfl); (focus rfl))
              | (apply l_val; (focus rfl); (focus rfl); (focus rfl); (focus (go_simp; (try simp (disch := omega) only [wrap_in, wrap_in', wrap_u16, wrap_u8, wrap_u32, wrap_u64, rem_in, quo_in]); first | done | with_reducible rfl | (constructor <;> with_reducible rfl))))
              | (apply l_store; (focus rfl); (focus rfl); (focus rfl); (focus (go_simp; (try simp (disch := omega) only [wrap_in, wrap_in', wrap_u16, wrap_u8, wrap_u32, wrap_u64, rem_in, quo_in]); first | done | with_reducible rfl | (constructor <;> with_reducible rfl))))
              | apply d_block
              | (apply d_true; (focus rfl); (focus rfl))
              | (apply d_false; (focus rfl); (focus rfl))
              | apply d_skip
              | apply d_exit
              | apply d_ret
              | with_reducible apply kt_ret
              | with_reducible apply kt_exit
              | with_reducible apply kb_normal
              | with_reducible apply kb_ret
              | with_reducible apply kb_here
              | with_reducible apply kl_ret
              | with_reducible apply kl_exit
              | with_reducible apply kc_ret
              | with_reducible apply kc_exit
              | (with_reducible apply kb_there; (focus rfl))
            refine l_call rfl rfl rfl (by first | (go_simp; done) | (go_simp; rfl)) (HC.out) ?_
            rintro e w' ⟨rfl, hx⟩
            clear HX
            try simp only [List.nil_append, List.cons_append, List.set_cons_zero, List.set_cons_succ] at hx
            have HX := Lib.hid hx
            clear hx
            refine ⟨_, rfl, ?_⟩
            repeat first
              | apply d_seq
              | with_reducible apply kt_normal
              | apply l_nil
              | apply d_region
              | (apply l_off; (focus rfl); (focus rfl))
              | (apply l_val; (focus rfl); (focus rfl); (focus rfl); (focus (go_simp; (try simp (disch := omega) only [wrap_in, wrap_in', wrap_u16, wrap_u8, wrap_u32, wrap_u64, rem_in, quo_in]); first | done | with_reducible rfl | (constructor <;> with_reducible rfl))))
              | (apply l_store; (focus rfl); (focus rfl); (focus rfl); (focus (go_simp; (try simp (disch := omega) only [wrap_in, wrap_in', wrap_u16, wrap_u8, wrap_u32, wrap_u64, rem_in, quo_in]); first | done | with_reducible rfl | (constructor <;> with_reducible rfl))))
              | apply d_block
              | (apply d_true; (focus rfl); (focus rfl))
              | (apply d_false; (focus rfl); (focus rfl))
              | apply d_skip
              | apply d_exit
              | apply d_ret
              | with_reducible apply kt_ret
              | with_reducible apply kt_exit
              | with_reducible apply kb_normal
              | with_reducible apply kb_ret
              | with_reducible apply kb_here
              | with_reducible apply kl_ret
              | with_reducible apply kl_exit
              | with_reducible apply kc_ret
              | with_reducible apply kc_exit
              | (with_reducible apply kb_there; (focus rfl))
            have hc := free_has HX.out 0 p g (WS.new 3) rfl
            rw [w3_new] at hc
            clear HC
            have HC := Lib.hid hc
            clear hc
            refine l_call rfl rfl rfl (by first | (go_simp; done) | (go_simp; rfl)) (HC.out) ?_
            rintro e w' ⟨rfl, hx⟩
            clear HX
            try simp only [List.nil_append, List.cons_append, List.set_cons_zero, List.set_cons_succ] at hx
            have HX := Lib.hid hx
            clear hx
            refine ⟨_, rfl, ?_⟩
            repeat first
              | apply d_seq
              | with_reducible apply kt_normal
              | apply l_nil
              | apply d_region
              | (apply l_off; (focus rfl); (focus rfl))
              | (apply l_val; (focus rfl); (focus rfl); (focus rfl); (focus (go_simp; (try simp (disch := omega) only [wrap_in, wrap_in', wrap_u16, wrap_u8, wrap_u32, wrap_u64, rem_in, quo_in]); first | done | with_reducible rfl | (constructor <;> with_reducible rfl))))
              | (apply l_store; (focus rfl); (focus rfl); (focus rfl); (focus (go_simp; (try simp (disch := omega) only [wrap_in, wrap_in', wrap_u16, wrap_u8, wrap_u32, wrap_u64, rem_in, quo_in]); first | done | with_reducible rfl | (constructor <;> with_reducible rfl))))
              | apply d_block
              | (apply d_true; (focus rfl); (focus rfl))
              | (apply d_false; (focus rfl); (focus rfl))
              | apply d_skip
              | apply d_exit
              | apply d_ret
              | with_reducible apply kt_ret
              | with_reducible apply kt_exit
              | with_reducible apply kb_normal
              | with_reducible apply kb_ret
              | with_reducible apply kb_here
              | with_reducible apply kl_ret
              | with_reducible apply kl_exit
              | with_reducible apply kc_ret
              | with_reducible apply kc_exit
              | (with_reducible apply kb_there; (focus rfl))
            refine ⟨rfl, _, (by first | (simp [resultsG, resOne, Try.results3, rho, List.lookup]; done) | (simp [resultsG, resOne, Try.results3, rho, List.lookup]; rfl)), ?_⟩
            exact ⟨rfl, HX.out.old⟩
          · rw [if_neg hl0] at hc
            dsimp only at hc
            have q1 : ((l.length : Int) == 0) = false := by simpa using hl0
            have HC := Lib.hid hc
            clear hc
            have HL0 := Lib.hid hl0
            clear hl0
            repeat first
              | apply d_seq
              | with_reducible apply kt_normal
              | apply l_nil
              | apply d_region
              | (apply l_off; (focus rfl); (focus rfl))
              | (apply l_val; (focus rfl); (focus rfl); (focus rfl); (focus (go_simp; (try simp (disch := omega) only [wrap_in, wrap_in', wrap_u16, wrap_u8, wrap_u32, wrap_u64, rem_in, quo_in]); first | done | with_reducible rfl | (constructor <;> with_reducible rfl))))
              | (apply l_store; (focus rfl); (focus rfl); (focus rfl); (focus (go_simp; (try simp (disch := omega) only [wrap_in, wrap_in', wrap_u16, wrap_u8, wrap_u32, wrap_u64, rem_in, quo_in]); first | done | with_reducible rfl | (constructor <;> with_reducible rfl))))
              | apply d_block
              | (apply d_true; (focus rfl); (focus rfl))
              | (apply d_false; (focus rfl); (focus rfl))
              | apply d_skip
              | apply d_exit
              | apply d_ret
              | with_reducible apply kt_ret
              | with_reducible apply kt_exit
              | with_reducible apply kb_normal
              | with_reducible apply kb_ret
              | with_reducible apply kb_here
              | with_reducible apply kl_ret
              | with_reducible apply kl_exit
              | with_reducible apply kc_ret
              | with_reducible apply kc_exit
              | (with_reducible apply kb_there; (focus rfl))
            refine l_call rfl rfl rfl (by first | (go_simp; done) | (go_simp; rfl)) (HC.out) ?_
            rintro e w' ⟨rfl, hx⟩
            clear HX
            try simp only [List.nil_append, List.cons_append, List.set_cons_zero, List.set_cons_succ] at hx
            have HX := Lib.hid hx
            clear hx
            refine ⟨_, rfl, ?_⟩
            repeat first
              | apply d_seq
              | with_reducible apply kt_normal
              | apply l_nil
              | apply d_region
              | (apply l_off; (focus rfl); (focus rfl))
              | (apply l_val; (focus rfl); (focus rfl); (focus rfl); (focus (go_simp; (try simp (disch := omega) only [wrap_in, wrap_in', wrap_u16, wrap_u8, wrap_u32, wrap_u64, rem_in, quo_in]); first | done | with_reducible rfl | (constructor <;> with_reducible rfl))))
              | (apply l_store; (focus rfl); (focus rfl); (focus rfl); (focus (go_simp; (try simp (disch := omega) only [wrap_in, wrap_in', wrap_u16, wrap_u8, wrap_u32, wrap_u64, rem_in, quo_in]); first | done | with_reducible rfl | (constructor <;> with_reducible rfl))))
              | apply d_block
              | (apply d_true; (focus rfl); (focus rfl))
              | (apply d_false; (focus rfl); (focus rfl))
              | apply d_skip
              | apply d_exit
              | apply d_ret
              | with_reducible apply kt_ret
              | with_reducible apply kt_exit
              | with_reducible apply kb_normal
              | with_reducible apply kb_ret
              | with_reducible apply kb_here
              | with_reducible apply kl_ret
              | with_reducible apply kl_exit
              | with_reducible apply kc_ret
              | with_reducible apply kc_exit
              | (with_reducible apply kb_there; (focus rfl))
            have hc := free_has HX.out 0 p g (W3 l) rfl
            rw [w3_free] at hc
            clear HC
            have HC := Lib.hid hc
            clear hc
            refine l_call rfl rfl rfl (by first | (go_simp; done) | (go_simp; rfl)) (HC.out) ?_
            rintro e w' ⟨rfl, hx⟩
            clear HX
            try simp only [List.nil_append, List.cons_append, List.set_cons_zero, List.set_cons_succ] at hx
            have HX := Lib.hid hx
            clear hx
            refine ⟨_, rfl, ?_⟩
            repeat first
              | apply d_seq
              | with_reducible apply kt_normal
              | apply l_nil
              | apply d_region
              | (apply l_off; (focus rfl); (focus rfl))
              | (apply l_val; (focus rfl); (focus rfl); (focus rfl); (focus (go_simp; (try simp (disch := omega) only [wrap_in, wrap_in', wrap_u16, wrap_u8, wrap_u32, wrap_u64, rem_in, quo_in]); first | done | with_reducible rfl | (constructor <;> with_reducible rfl))))
              | (apply l_store; (focus rfl); (focus rfl); (focus rfl); (focus (go_simp; (try simp (disch := omega) only [wrap_in, wrap_in', wrap_u16, wrap_u8, wrap_u32, wrap_u64, rem_in, quo_in]); first | done | with_reducible rfl | (constructor <;> with_reducible rfl))))
              | apply d_block
              | (apply d_true; (focus rfl); (focus rfl))
              | (apply d_false; (focus rfl); (focus rfl))
              | apply d_skip
              | apply d_exit
              | apply d_ret
              | with_reducible apply kt_ret
              | with_reducible apply kt_exit
              | with_reducible apply kb_normal
              | with_reducible apply kb_ret
              | with_reducible apply kb_here
              | with_reducible apply kl_ret
              | with_reducible apply kl_exit
              | with_reducible apply kc_ret
              | with_reducible apply kc_exit
              | (with_reducible apply kb_there; (focus rfl))
            refine ⟨rfl, _, (by first | (simp [resultsG, resOne, Try.results3, rho, List.lookup]; done) | (simp [resultsG, resOne, Try.results3, rho, List.lookup]; rfl)), ?_⟩
            exact ⟨rfl, HX.out.old⟩
end Go.Proofs.Ytienodnkfohakaa
