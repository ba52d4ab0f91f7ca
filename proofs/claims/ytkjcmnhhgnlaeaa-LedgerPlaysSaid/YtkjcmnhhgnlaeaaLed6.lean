import Derived.Test.YtkjcmnhhgnlaeaaLed5
namespace Go.Proofs.Ytkjcmnhhgnlaeaa
set_option linter.unusedVariables false
set_option linter.unusedSimpArgs false
attribute [local go_sem] rho_const rho_func rho_hit rho_miss
open Go.RowKit

theorem few_any (id : Int) (v : Value) (ls : List Ln) (F : Nat → Prop) (w : World) (h : SeesIn w F 3 v ls.length (lns ls)) :
    Calls Try.prog 15 #[.agg #[.int .u32 id, v]] w fun e w' => ∃ v', e = .returned (.agg #[.int .u32 id, v']) ∧ Keep none_ w w' ∧ Own w' (fresh none_ w w') 59 3 v' (ls.take 12).length (lns (ls.take 12)) := by
  obtain ⟨A, c, rfl, h1, h2, -⟩ := h.form
  obtain ⟨m, hm, hm1, hm2⟩ : ∃ m : Nat, (if (12 : Int) < (ls.length : Int) then (12 : Int) else (ls.length : Int)) = (m : Int) ∧ m = (ls.take 12).length ∧ m ≤ ls.length := ⟨min ls.length 12, by split <;> omega, by simp; omega, by omega⟩
  have htk : ls.take m = ls.take 12 := by rw [hm1]; simp
  have hmc : (m : Int) ≤ c := by omega
  have hcut := SeesIn.cut Ln.three h rfl m hm2
  rw [show (ls.take m).length = m by simp; omega] at hcut
  have hm3 : m ≤ 12 := by simp at hm1; omega
  have hb : m * 16 ≤ 140737488355328 := by omega
  obtain ⟨i0, hi, hz0, hz1, hz2⟩ := info_parts Try.infoLine
  obtain ⟨v', w2, hr, ho, hgr, -⟩ := clone_law (P := Try.prog) (((w.alloc (.cells #[.int .u32 id, .slice A ls.length c] 34)).alloc (.cells #[.int .u32 0, .slice none 0 0] 34)).alloc (.cells #[] 59)).drew 32 59 i0 _ 3 16 Try.underlying32 hi hz0 hz1 hz2 rfl (by decide) F (w.heap.size + 2)
    ((congrArg (fun k => (((w.alloc (.cells #[.int .u32 id, .slice A ls.length c] 34)).alloc (.cells #[.int .u32 0, .slice none 0 0] 34)).alloc (.cells #[] 59)).heap[k]?) (by simp)).trans (heap_alloc_new ((w.alloc (.cells #[.int .u32 id, .slice A ls.length c] 34)).alloc (.cells #[.int .u32 0, .slice none 0 0] 34)) (.cells #[] 59))) (.slice A m c) m (lns (ls.take m))
    (hcut.move (by simp; omega) (fun k hk hl => ⟨hk, ((Below.heap_alloc _ _ _ (by simp; omega)).trans (Below.heap_alloc _ _ _ (by simp; omega))).trans (Below.heap_alloc _ _ _ hl)⟩)) hb 32
  obtain ⟨A', c', rfl, -, -⟩ := ho.len
  have HO := Lib.hid ho
  have HGR := Lib.hid hgr
  have c0 : ((w.alloc (.cells #[.int .u32 id, .slice A ls.length c] 34)).alloc (.cells #[.int .u32 0, .slice none 0 0] 34)).drew.heap[w.heap.size]? = some (.cells #[.int .u32 id, .slice A ls.length c] 34 (0, 0)) := (Below.heap_alloc _ _ _ (by simp)).trans (heap_alloc_new _ _)
  obtain ⟨b0, b1, -⟩ := blk2 c0
  have HM1 := Lib.hid hm1
  have HTK := Lib.hid htk
  have hmc2 : m ≤ c := by omega
  clear h hm1 htk hcut hi hz0 hz1 hz2 ho hgr c0
  refine d_calls (n := 15) Try.func15 rfl rfl (by simp) [(0, .agg #[.int .u32 id, .slice A ls.length c])] (by simp) ?_
  repeat first
    | apply d_seq
    | with_reducible apply kt_normal
    | apply l_nil
    | apply d_region
    | (apply l_off; (focus rfl); (focus rfl))
    | (apply l_val; (focus rfl); (focus rfl); (focus rfl); (focus (go_simp; (try simp (disch := omega) only [wrap_in, wrap_in', wrap_u16, wrap_u8, wrap_u32, wrap_u64, rem_in, quo_in]); first | done | with_reducible rfl | (constructor <;> with_reducible rfl))))
    | (apply l_store; (focus rfl); (focus rfl); (focus rfl); (focus (go_simp; (try simp (disch := omega) only [wrap_in, wrap_in', wrap_u16, wrap_u8, wrap_u32, wrap_u64, rem_in, quo_in]); first | done | with_reducible rfl | (constructor <;> with_reducible rfl))))
    | apply d_block
    | (apply d_true; (focus rfl); (focus rfl))
    | (apply d_false; (focus rfl); (focus rfl))
    | apply d_skip
    | apply d_exit
    | apply d_ret
    | with_reducible apply kt_ret
    | with_reducible apply kt_exit
    | with_reducible apply kb_normal
    | with_reducible apply kb_ret
    | with_reducible apply kb_here
    | with_reducible apply kl_ret
    | with_reducible apply kl_exit
    | with_reducible apply kc_ret
    | with_reducible apply kc_exit
    | (with_reducible apply kb_there; (focus rfl))
  refine d_draw (true, [([], []), ([0], [0]), ([], []), ([], []), ([3], [3]), ([], []), ([5], [5]), ([6], [6]), ([7], [7]), ([4, 8], [4, 8]), ([2, 9], [2, 9]), ([1, 10], [1, 10]), ([11, 10, 0, 1, 2, 3, 4, 5, 6, 7, 8, 9, 10, 11], [11])]) [(0, 0), (0, 1), (0, 3), (0, 4), (0, 5), (0, 6), (0, 7), (0, 8), (0, 9), (1, 2), (1, 10), (0, 11), (2, 12)] [12] (fun W => W.cell? ⟨w.heap.size, 0, none⟩ = some (.int .u32 id) ∧ W.cell? ⟨w.heap.size, 1, none⟩ = some (.slice A ls.length c)) (by kernel_rfl) (by kernel_rfl) (by kernel_rfl) (by kernel_rfl) ⟨b0, b1⟩ ?_
  iterate 9
    first | (apply s_off; (focus rfl); (focus rfl); (focus rfl)) | (apply s_yield; (focus rfl); (focus rfl); (focus rfl); (focus rfl); (focus (intro W hS; obtain ⟨hS1, hS2⟩ := hS; go_simp; (try simp (disch := omega) only [wrap_in, wrap_in', wrap_u16, wrap_u8, wrap_u32, wrap_u64, rem_in, quo_in]); first | done | with_reducible rfl | (constructor <;> with_reducible rfl))))
  refine s_op (v := ?_) (w' := ?_) rfl rfl rfl rfl ?_ ?_ ?_
  rotate_left 2
  focus (go_simp; (try simp (disch := omega) only [wrap_in, wrap_in', wrap_u16, wrap_u8, wrap_u32, wrap_u64, rem_in, quo_in]); first | done | with_reducible rfl | (constructor <;> with_reducible rfl))
  · exact ⟨cell_old _ b0, cell_old _ b1⟩
  have hkg : Keep (fun q => q = w.heap.size + 2) (((w.alloc (.cells #[.int .u32 id, .slice A ls.length c] 34)).alloc (.cells #[.int .u32 0, .slice none 0 0] 34)).alloc (.cells #[] 59)).drew w2 := (Keep.refl _ _).grown HGR.out (fun k hk => .inr (by simpa using hk.symm))
  have b0' : w2.cell? ⟨w.heap.size, 0, none⟩ = some (.int .u32 id) := (hkg.cell (p := ⟨w.heap.size, 0, none⟩) (by simp; omega) (by simp)).trans (cell_old _ b0)
  have b1' : w2.cell? ⟨w.heap.size, 1, none⟩ = some (.slice A ls.length c) := (hkg.cell (p := ⟨w.heap.size, 1, none⟩) (by simp; omega) (by simp)).trans (cell_old _ b1)
  have hrb : w2.heap[w.heap.size + 1]? = some (.cells #[.int .u32 0, .slice none 0 0] 34 (0, 0)) := (hkg.block (w.heap.size + 1) (by simp) (by simp)).trans
    ((Below.heap_alloc _ _ _ (by simp)).trans ((congrArg (fun k => ((w.alloc (.cells #[.int .u32 id, .slice A ls.length c] 34)).alloc (.cells #[.int .u32 0, .slice none 0 0] 34)).heap[k]?) (by simp)).trans (heap_alloc_new (w.alloc (.cells #[.int .u32 id, .slice A ls.length c] 34)) (.cells #[.int .u32 0, .slice none 0 0] 34))))
  obtain ⟨r0, r1, f0, f1⟩ := blk2 hrb
  have HKG : Hid (Keep none_ w w2) := Lib.hid (((((Keep.refl none_ w).alloc _).alloc _).alloc _).drew.grown HGR.out (fun k hk => .inl (by simp at hk; omega)))
  have hsz : w.heap.size + 1 < w2.heap.size := lt_of_block hrb
  refine s_op rfl rfl rfl rfl (exec_append (.tmp 5) (.tmp 12) 32 rfl _ _ rfl rfl hr) ⟨b0', b1'⟩ ?_
  clear hr b0 b1 hkg hrb
  iterate 1
    first | (apply s_off; (focus rfl); (focus rfl); (focus rfl)) | (apply s_yield; (focus rfl); (focus rfl); (focus rfl); (focus rfl); (focus (intro W hS; obtain ⟨hS1, hS2⟩ := hS; go_simp; (try simp (disch := omega) only [wrap_in, wrap_in', wrap_u16, wrap_u8, wrap_u32, wrap_u64, rem_in, quo_in]); first | done | with_reducible rfl | (constructor <;> with_reducible rfl))))
  first | (apply s_last; (focus rfl); (focus rfl); (focus rfl); (focus rfl); (focus (go_simp; (try simp (disch := omega) only [wrap_in, wrap_in', wrap_u16, wrap_u8, wrap_u32, wrap_u64, rem_in, quo_in]); first | done | with_reducible rfl | (constructor <;> with_reducible rfl)))) | (apply s_laststore; (focus rfl); (focus rfl); (focus rfl); (focus rfl); (focus (go_simp; (try simp (disch := omega) only [wrap_in, wrap_in', wrap_u16, wrap_u8, wrap_u32, wrap_u64, rem_in, quo_in]); first | done | with_reducible rfl | (constructor <;> with_reducible rfl))))
  refine s_done ?_
  repeat first
    | apply d_seq
    | with_reducible apply kt_normal
    | apply l_nil
    | apply d_region
    | (apply l_off; (focus rfl); (focus rfl))
    | (apply l_val; (focus rfl); (focus rfl); (focus rfl); (focus (go_simp; (try simp (disch := omega) only [wrap_in, wrap_in', wrap_u16, wrap_u8, wrap_u32, wrap_u64, rem_in, quo_in]); first | done | with_reducible rfl | (constructor <;> with_reducible rfl))))
    | (apply l_store; (focus rfl); (focus rfl); (focus rfl); (focus (go_simp; (try simp (disch := omega) only [wrap_in, wrap_in', wrap_u16, wrap_u8, wrap_u32, wrap_u64, rem_in, quo_in]); first | done | with_reducible rfl | (constructor <;> with_reducible rfl))))
    | apply d_block
    | (apply d_true; (focus rfl); (focus rfl))
    | (apply d_false; (focus rfl); (focus rfl))
    | apply d_skip
    | apply d_exit
    | apply d_ret
    | with_reducible apply kt_ret
    | with_reducible apply kt_exit
    | with_reducible apply kb_normal
    | with_reducible apply kb_ret
    | with_reducible apply kb_here
    | with_reducible apply kl_ret
    | with_reducible apply kl_exit
    | with_reducible apply kc_ret
    | with_reducible apply kc_exit
    | (with_reducible apply kb_there; (focus rfl))
  refine ⟨rfl, .agg #[.int .u32 id, .slice A' m c'], ?_, ?_⟩
  · simp [resultsG, resOne, Try.results15, rho, List.lookup]
    go_simp
  · refine ⟨.slice A' m c', rfl, (HKG.out.setCell (.inl (by simp)) _).setCell (.inl (by simp)) _, ?_⟩
    have ho1 : Own w2 (fun k => w.heap.size + 2 ≤ k ∧ k < w2.heap.size) 59 3 (.slice A' m c') m (lns (ls.take m)) := HO.out.move (fun q hq hl => ⟨by simp at hq; omega, rfl⟩)
    rw [HTK.out] at ho1
    rw [← HM1.out]
    refine ho1.move (fun q hq hl => ⟨.inr ⟨by omega, by simpa using hq.2⟩, ?_⟩)
    exact (Below.heap_setCell _ _ _ _ (by simp; omega)).trans (Below.heap_setCell _ _ _ _ (by simp; omega))
end Go.Proofs.Ytkjcmnhhgnlaeaa
