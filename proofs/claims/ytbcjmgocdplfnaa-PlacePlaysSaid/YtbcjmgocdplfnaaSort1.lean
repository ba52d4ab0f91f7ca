import Derived.Test.YtbcjmgocdplfnaaSchT
import Derived.Sort.AssemblyPlain
namespace Go.Proofs.Ytbcjmgocdplfnaa
set_option linter.unusedVariables false
set_option linter.unusedSimpArgs false
attribute [local go_sem] rho_const rho_func rho_hit rho_miss
open Go.RowKit Go.Sort

/-! Rows of numbers that are sorted in place: g the block, t what stands behind them. -/
def RowB (w : World) (g : Nat) (t : List Value) (d : Array Int) : Prop := w.heap[g]? = some (.cells (d.toList.map (Value.int .u16) ++ t).toArray 29 (0, 0))
section
variable {w : World} {g : Nat} {t : List Value} {d : Array Int}
theorem at_get (d : Array Int) {i : Nat} (hi : i < d.size) : d.toList[i]? = some d[i]! := by
  rw [Array.getElem?_toList, Array.getElem?_eq_getElem hi, getElem!_pos d i hi]
theorem RowB.cell (h : RowB w g t d) {i : Nat} (hi : i < d.size) : w.cell? ⟨g, i, none⟩ = some (.int .u16 d[i]!) := by
  have h' := h
  unfold RowB at h'
  simp only [World.cell?, h']
  have e : (d.toList.map (Value.int .u16) ++ t)[i]? = some (.int .u16 d[i]!) := by
    rw [List.getElem?_append_left (by simpa using hi), List.getElem?_map, at_get d hi]; rfl
  simpa using e
theorem RowB.frozen (h : RowB w g t d) (i : Nat) : w.frozen? ⟨g, i, none⟩ = false := by
  unfold RowB at h
  simp [World.frozen?, h]
theorem RowB.set (h : RowB w g t d) {i : Nat} (hi : i < d.size) (x : Int) : RowB (w.setCell ⟨g, i, none⟩ (.int .u16 x)) g t (d.setIfInBounds i x) := by
  have := heap_setCell_same w g i _ _ (.int .u16 x) h
  unfold RowB
  rw [this]
  congr 2
  apply Array.ext'
  rw [Array.toList_setIfInBounds]
  simp only [List.toList_toArray, Array.toList_setIfInBounds, List.map_set]
  rw [List.set_append_left _ _ (by simpa using hi)]
theorem RowB.swp (h : RowB w g t d) {i j : Nat} (hi : i < d.size) (hj : j < d.size) : RowB ((w.setCell ⟨g, i, none⟩ (.int .u16 d[j]!)).setCell ⟨g, j, none⟩ (.int .u16 d[i]!)) g t (swp d i j) :=
  (h.set hi _).set (by simpa using hj) _
theorem RowB.drew (h : RowB w g t d) : RowB w.drew g t d := h
end
/-- A step of a sort: the row alone turns. -/
def SortK (w : World) (g : Nat) (w' : World) : Prop := Keep (fun z => z = g) w w'
theorem SortK.refl (w : World) (g : Nat) : SortK w g w := Keep.refl _ _
theorem SortK.drew {w w' : World} {g : Nat} (h : SortK w g w') : SortK w g w'.drew := Keep.drew h
theorem SortK.set {w w' : World} {g : Nat} (h : SortK w g w') (i : Nat) (v : Value) : SortK w g (w'.setCell ⟨g, i, none⟩ v) := Keep.setCell (p := ⟨g, i, none⟩) h (.inr rfl) _
theorem SortK.trans {w w1 w2 : World} {g : Nat} (h : SortK w g w1) (h2 : SortK w1 g w2) : SortK w g w2 := Keep.trans h (Keep.mono h2 (fun _ e => .inl e))
theorem lt_dec (x y : Int) : ltInt x y = decide (x < y) := rfl

set_option maxHeartbeats 1000000 in
theorem nan_any (x : Int) (w : World) : Calls Try.prog 53 #[.int .u16 x] w fun e w' => e = .returned (.bool false) ∧ w' = w := by
  have h : (x != x) = false := by simp
  refine d_calls (n := 6) Try.func53 rfl rfl (by simp) [(0, .int .u16 x)] (by simp) ?_
  repeat first
    | apply d_seq
    | with_reducible apply kt_normal
    | apply l_nil
    | apply d_region
    | (apply l_off; (focus rfl); (focus rfl))
    | (apply l_val; (focus rfl); (focus rfl); (focus rfl); (focus (go_simp; (try simp (disch := omega) only [wrap_in, wrap_in', wrap_u16, wrap_u8, wrap_u32, wrap_u64, rem_in, quo_in]); first | done | with_reducible rfl | (constructor <;> with_reducible rfl))))
    | (apply l_store; (focus rfl); (focus rfl); (focus rfl); (focus (go_simp; (try simp (disch := omega) only [wrap_in, wrap_in', wrap_u16, wrap_u8, wrap_u32, wrap_u64, rem_in, quo_in]); first | done | with_reducible rfl | (constructor <;> with_reducible rfl))))
    | apply d_block
    | (apply d_true; (focus rfl); (focus rfl))
    | (apply d_false; (focus rfl); (focus rfl))
    | apply d_skip
    | apply d_exit
    | apply d_ret
    | with_reducible apply kt_ret
    | with_reducible apply kt_exit
    | with_reducible apply kb_normal
    | with_reducible apply kb_ret
    | with_reducible apply kb_here
    | with_reducible apply kl_ret
    | with_reducible apply kl_exit
    | with_reducible apply kc_ret
    | with_reducible apply kc_exit
    | (with_reducible apply kb_there; (focus rfl))
  refine ⟨rfl, _, (by first | (simp [resultsG, resOne, Try.results53, rho, List.lookup]; done) | (simp [resultsG, resOne, Try.results53, rho, List.lookup]; rfl)), ?_⟩
  exact ⟨rfl, rfl⟩
set_option maxHeartbeats 1000000 in
theorem less_any (x y : Int) (w : World) : Calls Try.prog 43 #[.int .u16 x, .int .u16 y] w fun e w' => e = .returned (.bool (ltInt x y)) ∧ w' = w := by
  refine d_calls (n := 17) Try.func43 rfl rfl (by simp) [(0, .int .u16 x), (1, .int .u16 y)] (by simp) ?_
  repeat first
    | apply d_seq
    | with_reducible apply kt_normal
    | apply l_nil
    | apply d_region
    | (apply l_off; (focus rfl); (focus rfl))
    | (apply l_val; (focus rfl); (focus rfl); (focus rfl); (focus (go_simp; (try simp (disch := omega) only [wrap_in, wrap_in', wrap_u16, wrap_u8, wrap_u32, wrap_u64, rem_in, quo_in]); first | done | with_reducible rfl | (constructor <;> with_reducible rfl))))
    | (apply l_store; (focus rfl); (focus rfl); (focus rfl); (focus (go_simp; (try simp (disch := omega) only [wrap_in, wrap_in', wrap_u16, wrap_u8, wrap_u32, wrap_u64, rem_in, quo_in]); first | done | with_reducible rfl | (constructor <;> with_reducible rfl))))
    | apply d_block
    | (apply d_true; (focus rfl); (focus rfl))
    | (apply d_false; (focus rfl); (focus rfl))
    | apply d_skip
    | apply d_exit
    | apply d_ret
    | with_reducible apply kt_ret
    | with_reducible apply kt_exit
    | with_reducible apply kb_normal
    | with_reducible apply kb_ret
    | with_reducible apply kb_here
    | with_reducible apply kl_ret
    | with_reducible apply kl_exit
    | with_reducible apply kc_ret
    | with_reducible apply kc_exit
    | (with_reducible apply kb_there; (focus rfl))
  refine l_call rfl rfl rfl (by first | (go_simp; done) | (go_simp; rfl)) (nan_any x w) ?_
  rintro e w' ⟨rfl, rfl⟩
  refine ⟨_, rfl, ?_⟩
  repeat first
    | apply d_seq
    | with_reducible apply kt_normal
    | apply l_nil
    | apply d_region
    | (apply l_off; (focus rfl); (focus rfl))
    | (apply l_val; (focus rfl); (focus rfl); (focus rfl); (focus (go_simp; (try simp (disch := omega) only [wrap_in, wrap_in', wrap_u16, wrap_u8, wrap_u32, wrap_u64, rem_in, quo_in]); first | done | with_reducible rfl | (constructor <;> with_reducible rfl))))
    | (apply l_store; (focus rfl); (focus rfl); (focus rfl); (focus (go_simp; (try simp (disch := omega) only [wrap_in, wrap_in', wrap_u16, wrap_u8, wrap_u32, wrap_u64, rem_in, quo_in]); first | done | with_reducible rfl | (constructor <;> with_reducible rfl))))
    | apply d_block
    | (apply d_true; (focus rfl); (focus rfl))
    | (apply d_false; (focus rfl); (focus rfl))
    | apply d_skip
    | apply d_exit
    | apply d_ret
    | with_reducible apply kt_ret
    | with_reducible apply kt_exit
    | with_reducible apply kb_normal
    | with_reducible apply kb_ret
    | with_reducible apply kb_here
    | with_reducible apply kl_ret
    | with_reducible apply kl_exit
    | with_reducible apply kc_ret
    | with_reducible apply kc_exit
    | (with_reducible apply kb_there; (focus rfl))
  refine ⟨rfl, _, (by first | (simp [resultsG, resOne, Try.results43, rho, List.lookup]; done) | (simp [resultsG, resOne, Try.results43, rho, List.lookup]; rfl)), ?_⟩
  exact ⟨rfl, rfl⟩
set_option maxHeartbeats 2000000 in
theorem ins_any (g c : Nat) (t : List Value) (d : Array Int) (a b : Nat) (w : World) (h : RowB w g t d) (hc : d.size ≤ c) (hc' : c ≤ 9223372036854775807) (hz : d.size ≤ 4000000000000000000) (ha : a ≤ d.size) (hb : b ≤ d.size) :
    Calls Try.prog 37 #[.slice (some ⟨g, 0, none⟩) d.size c, .int .i64 a, .int .i64 b] w fun e w' => e = .returned (.tuple #[]) ∧ SortK w g w' ∧ RowB w' g t (insertionSort ltInt d a b) := by
  obtain ⟨n, hn⟩ : ∃ n, d.size = n := ⟨_, rfl⟩
  rw [hn] at hc ha hb hz ⊢
  have HX := Lib.hid (show SortK w g w ∧ RowB w g t d from ⟨.refl _ _, h⟩)
  have HN := Lib.hid hn
  clear h hn
  refine d_calls (n := 49) Try.func37 rfl rfl (by simp) [(0, .slice (some ⟨g, 0, none⟩) n c), (1, .int .i64 a), (2, .int .i64 b)] (by simp) ?_
  repeat first
    | apply d_seq
    | with_reducible apply kt_normal
    | apply l_nil
    | apply d_region
    | (apply l_off; (focus rfl); (focus rfl))
    | (apply l_val; (focus rfl); (focus rfl); (focus rfl); (focus (go_simp; (try simp (disch := omega) only [wrap_in, wrap_in', wrap_u16, wrap_u8, wrap_u32, wrap_u64, rem_in, quo_in]); first | done | with_reducible rfl | (constructor <;> with_reducible rfl))))
    | (apply l_store; (focus rfl); (focus rfl); (focus rfl); (focus (go_simp; (try simp (disch := omega) only [wrap_in, wrap_in', wrap_u16, wrap_u8, wrap_u32, wrap_u64, rem_in, quo_in]); first | done | with_reducible rfl | (constructor <;> with_reducible rfl))))
    | apply d_block
    | (apply d_true; (focus rfl); (focus rfl))
    | (apply d_false; (focus rfl); (focus rfl))
    | apply d_skip
    | apply d_exit
    | apply d_ret
    | with_reducible apply kt_ret
    | with_reducible apply kt_exit
    | with_reducible apply kb_normal
    | with_reducible apply kb_ret
    | with_reducible apply kb_here
    | with_reducible apply kl_ret
    | with_reducible apply kl_exit
    | with_reducible apply kc_ret
    | with_reducible apply kc_exit
    | (with_reducible apply kb_there; (focus rfl))
  refine d_loop (fun m D wr => ∃ (i : Nat) (d' : Array Int), m = b - i ∧ a + 1 ≤ i ∧ i ≤ n + 1 ∧ D = [(0, .slice (some ⟨g, 0, none⟩) n c), (1, .int .i64 a), (2, .int .i64 b), (6, .int .i64 i)] ∧ Hid (SortK w g wr ∧ RowB wr g t d' ∧ d'.size = n ∧ insertionSort ltInt d a b = insOuter ltInt a b i d')) (b - (a + 1)) _ (Subl.cons (t := 0) (by decide) rfl (Subl.cons (t := 1) (by decide) rfl (Subl.cons (t := 2) (by decide) rfl (Subl.cons (t := 6) (by decide) rfl (Subl.nil _ _))))) ?_ (fun m D wr hrel => ?_)
  · exact ⟨a + 1, d, rfl, Nat.le_refl _, by omega, rfl, Lib.hid ⟨HX.out.1, HX.out.2, HN.out, rfl⟩⟩
  · clear HX
    obtain ⟨i, d1, rfl, hi, hin, rfl, HX⟩ := hrel
    by_cases hlt : i < b
    · repeat first
        | apply d_seq
        | with_reducible apply kt_normal
        | apply l_nil
        | apply d_region
        | (apply l_off; (focus rfl); (focus rfl))
        | (apply l_val; (focus rfl); (focus rfl); (focus rfl); (focus (go_simp; (try simp (disch := omega) only [wrap_in, wrap_in', wrap_u16, wrap_u8, wrap_u32, wrap_u64, rem_in, quo_in]); first | done | with_reducible rfl | (constructor <;> with_reducible rfl))))
        | (apply l_store; (focus rfl); (focus rfl); (focus rfl); (focus (go_simp; (try simp (disch := omega) only [wrap_in, wrap_in', wrap_u16, wrap_u8, wrap_u32, wrap_u64, rem_in, quo_in]); first | done | with_reducible rfl | (constructor <;> with_reducible rfl))))
        | apply d_block
        | (apply d_true; (focus rfl); (focus rfl))
        | (apply d_false; (focus rfl); (focus rfl))
        | apply d_skip
        | apply d_exit
        | apply d_ret
        | with_reducible apply kt_ret
        | with_reducible apply kt_exit
        | with_reducible apply kb_normal
        | with_reducible apply kb_ret
        | with_reducible apply kb_here
        | with_reducible apply kl_ret
        | with_reducible apply kl_exit
        | with_reducible apply kc_ret
        | with_reducible apply kc_exit
        | (with_reducible apply kb_there; (focus rfl))
      refine d_loop (fun m D wr => ∃ (j : Nat) (d' : Array Int), m = j + 1 ∧ a ≤ j ∧ j ≤ i ∧ D = [(0, .slice (some ⟨g, 0, none⟩) n c), (1, .int .i64 a), (2, .int .i64 b), (6, .int .i64 i), (7, .int .i64 j)] ∧ Hid (SortK w g wr ∧ RowB wr g t d' ∧ d'.size = n ∧ insertionSort ltInt d a b = insOuter ltInt a b (i + 1) (insInner ltInt a j d'))) (i + 1) _ (Subl.cons (t := 0) (by decide) rfl (Subl.cons (t := 1) (by decide) rfl (Subl.cons (t := 2) (by decide) rfl (Subl.cons (t := 6) (by decide) rfl (Subl.cons (t := 7) (by decide) rfl (Subl.nil _ _)))))) ?_ (fun m D wr hrel => ?_)
      · refine ⟨i, d1, rfl, by omega, Nat.le_refl _, rfl, Lib.hid ⟨HX.out.1, HX.out.2.1, HX.out.2.2.1, ?_⟩⟩
        rw [HX.out.2.2.2, insOuter, if_pos hlt]
      · clear HX
        obtain ⟨j, d2, rfl, hj, hji, rfl, HX⟩ := hrel
        by_cases hja : a < j
        · obtain ⟨q, hq⟩ : ∃ q, j = q + 1 := ⟨j - 1, by omega⟩
          have hq1 : j < d2.size := by rw [HX.out.2.2.1]; omega
          have hq2 : q < d2.size := by omega
          have hj1 : j < n := by omega
          have hj2 : q < n := by omega
          have d1 := HX.out.2.1.cell hq1
          have d0 := HX.out.2.1.cell hq2
          have hq3 : ((j : Int) - 1) = q := by omega
          have q1 : decide ((a : Int) < (j : Int)) = true := decide_eq_true (by omega)
          have hsw := HX.out.2.1.swp hq1 hq2
          have f1 := HX.out.2.1.frozen j
          have f0 := HX.out.2.1.frozen q
          obtain ⟨bb, hb⟩ : ∃ bb, ltInt d2[j]! d2[q]! = bb := ⟨_, rfl⟩
          have hl := fun W => less_any d2[j]! d2[q]! W
          simp only [hb] at hl
          have he : ltInt d2[j]! d2[q]! = bb := hb
          have HQ := Lib.hid hq
          have HSW := Lib.hid hsw
          have HB := Lib.hid hb
          have HL := Lib.hid hl
          have HE := Lib.hid he
          clear hq hsw hb hl he
          generalize d2[j]! = x at d1 HL HSW
          generalize d2[q]! = y at d0 HL HSW
          repeat first
            | apply d_seq
            | with_reducible apply kt_normal
            | apply l_nil
            | apply d_region
            | (apply l_off; (focus rfl); (focus rfl))
            | (apply l_val; (focus rfl); (focus rfl); (focus rfl); (focus (go_simp; (try simp (disch := omega) only [wrap_in, wrap_in', wrap_u16, wrap_u8, wrap_u32, wrap_u64, rem_in, quo_in]); first | done | with_reducible rfl | (constructor <;> with_reducible rfl))))
            | (apply l_store; (focus rfl); (focus rfl); (focus rfl); (focus (go_simp; (try simp (disch := omega) only [wrap_in, wrap_in', wrap_u16, wrap_u8, wrap_u32, wrap_u64, rem_in, quo_in]); first | done | with_reducible rfl | (constructor <;> with_reducible rfl))))
            | apply d_block
            | (apply d_true; (focus rfl); (focus rfl))
            | (apply d_false; (focus rfl); (focus rfl))
            | apply d_skip
            | apply d_exit
            | apply d_ret
            | with_reducible apply kt_ret
            | with_reducible apply kt_exit
            | with_reducible apply kb_normal
            | with_reducible apply kb_ret
            | with_reducible apply kb_here
            | with_reducible apply kl_ret
            | with_reducible apply kl_exit
            | with_reducible apply kc_ret
            | with_reducible apply kc_exit
            | (with_reducible apply kb_there; (focus rfl))
          refine d_draw (true, [([], []), ([], []), ([0, 1], [0, 1]), ([2], [2]), ([3], [3]), ([3], [3]), ([4, 5, 3], [3, 4, 5]), ([6, 3], [3, 6]), ([3], [3]), ([3], [3]), ([9, 3], [3, 9]), ([8, 10, 3], [3, 8, 10]), ([11, 3], [3, 11]), ([7, 12, 3, 3], [3, 7, 12]), ([3, 13], [3, 13])]) [(0, 0), (0, 1), (0, 2), (0, 3), (0, 4), (0, 5), (0, 6), (0, 7), (0, 8), (0, 9), (0, 10), (0, 11), (0, 12), (1, 13), (0, 14)] [999999] (fun W => W.cell? ⟨g, j, none⟩ = some (.int .u16 x) ∧ W.cell? ⟨g, q, none⟩ = some (.int .u16 y)) (by kernel_rfl) (by kernel_rfl) (by kernel_rfl) (by kernel_rfl) ⟨d1, d0⟩ ?_
          iterate 13
            first | (apply s_off; (focus rfl); (focus rfl); (focus rfl)) | (apply s_yield; (focus rfl); (focus rfl); (focus rfl); (focus rfl); (focus (intro W hS; obtain ⟨hS1, hS2⟩ := hS; go_simp; (try simp (disch := omega) only [wrap_in, wrap_in', wrap_u16, wrap_u8, wrap_u32, wrap_u64, rem_in, quo_in]); first | done | with_reducible rfl | (constructor <;> with_reducible rfl))))
          refine s_call rfl rfl rfl rfl (by first | (go_simp; done) | (go_simp; rfl)) (HL.out _) ?_
          rintro e w' ⟨rfl, rfl⟩
          refine ⟨_, rfl, ⟨d1, d0⟩, ?_⟩
          iterate 1
            first | (apply s_off; (focus rfl); (focus rfl); (focus rfl)) | (apply s_yield; (focus rfl); (focus rfl); (focus rfl); (focus rfl); (focus (intro W hS; obtain ⟨hS1, hS2⟩ := hS; go_simp; (try simp (disch := omega) only [wrap_in, wrap_in', wrap_u16, wrap_u8, wrap_u32, wrap_u64, rem_in, quo_in]); first | done | with_reducible rfl | (constructor <;> with_reducible rfl))))
          refine s_done ?_
          cases bb
          · repeat first
              | apply d_seq
              | with_reducible apply kt_normal
              | apply l_nil
              | apply d_region
              | (apply l_off; (focus rfl); (focus rfl))
              | (apply l_val; (focus rfl); (focus rfl); (focus rfl); (focus (go_simp; (try simp (disch := omega) only [wrap_in, wrap_in', wrap_u16, wrap_u8, wrap_u32, wrap_u64, rem_in, quo_in]); first | done | with_reducible rfl | (constructor <;> with_reducible rfl))))
              | (apply l_store; (focus rfl); (focus rfl); (focus rfl); (focus (go_simp; (try simp (disch := omega) only [wrap_in, wrap_in', wrap_u16, wrap_u8, wrap_u32, wrap_u64, rem_in, quo_in]); first | done | with_reducible rfl | (constructor <;> with_reducible rfl))))
              | apply d_block
              | (apply d_true; (focus rfl); (focus rfl))
              | (apply d_false; (focus rfl); (focus rfl))
              | apply d_skip
              | apply d_exit
              | apply d_ret
              | with_reducible apply kt_ret
              | with_reducible apply kt_exit
              | with_reducible apply kb_normal
              | with_reducible apply kb_ret
              | with_reducible apply kb_here
              | with_reducible apply kl_ret
              | with_reducible apply kl_exit
              | with_reducible apply kc_ret
              | with_reducible apply kc_exit
              | (with_reducible apply kb_there; (focus rfl))
            refine kl_normal (b - (i + 1)) _ (by omega) (Subl.cons (t := 0) (by decide) rfl (Subl.cons (t := 1) (by decide) rfl (Subl.cons (t := 2) (by decide) rfl (Subl.cons (t := 6) (by decide) rfl (Subl.nil _ _))))) ?_
            refine ⟨i + 1, d2, rfl, by omega, by omega, rfl, Lib.hid ⟨HX.out.1.drew, HX.out.2.1, HX.out.2.2.1, ?_⟩⟩
            have e := HX.out.2.2.2
            rw [HQ.out, insInner, ← HQ.out, HE.out] at e
            simpa using e
          · repeat first
              | apply d_seq
              | with_reducible apply kt_normal
              | apply l_nil
              | apply d_region
              | (apply l_off; (focus rfl); (focus rfl))
              | (apply l_val; (focus rfl); (focus rfl); (focus rfl); (focus (go_simp; (try simp (disch := omega) only [wrap_in, wrap_in', wrap_u16, wrap_u8, wrap_u32, wrap_u64, rem_in, quo_in]); first | done | with_reducible rfl | (constructor <;> with_reducible rfl))))
              | (apply l_store; (focus rfl); (focus rfl); (focus rfl); (focus (go_simp; (try simp (disch := omega) only [wrap_in, wrap_in', wrap_u16, wrap_u8, wrap_u32, wrap_u64, rem_in, quo_in]); first | done | with_reducible rfl | (constructor <;> with_reducible rfl))))
              | apply d_block
              | (apply d_true; (focus rfl); (focus rfl))
              | (apply d_false; (focus rfl); (focus rfl))
              | apply d_skip
              | apply d_exit
              | apply d_ret
              | with_reducible apply kt_ret
              | with_reducible apply kt_exit
              | with_reducible apply kb_normal
              | with_reducible apply kb_ret
              | with_reducible apply kb_here
              | with_reducible apply kl_ret
              | with_reducible apply kl_exit
              | with_reducible apply kc_ret
              | with_reducible apply kc_exit
              | (with_reducible apply kb_there; (focus rfl))
            refine d_drawt (true, [([], []), ([], []), ([], []), ([], []), ([3], [3]), ([], []), ([], []), ([6], [6]), ([5, 7], [5, 7]), ([8], [8]), ([], []), ([], []), ([10, 11], [10, 11]), ([12], [12]), ([0, 1, 0, 1, 5, 6, 7, 8, 9, 13], [0, 1]), ([14, 9, 0, 1, 5, 6, 7, 8, 9, 13], [9, 14]), ([2, 4, 0, 1, 2, 3, 4, 5, 6, 7, 8, 9, 10, 11, 12, 13, 14, 15], [2, 4]), ([16, 13, 15, 0, 1, 2, 3, 4, 5, 6, 7, 8, 9, 10, 11, 12, 13, 14, 15], [13, 16])]) [(0, 0), (0, 1), (0, 5), (0, 6), (0, 7), (0, 8), (0, 9), (0, 10), (0, 11), (0, 12), (0, 13), (0, 14), (3, 2), (3, 3), (3, 4), (2, 15), (2, 16), (2, 17)] [15, 16, 17] (fun W => W.cell? ⟨g, j, none⟩ = some (.int .u16 x) ∧ W.cell? ⟨g, q, none⟩ = some (.int .u16 y)) (by kernel_rfl) (by kernel_rfl) (by kernel_rfl) (by kernel_rfl) ⟨d1, d0⟩ ?_
            iterate 12
              first | (apply t_off; (focus rfl); (focus rfl); (focus rfl)) | (apply t_yield; (focus rfl); (focus rfl); (focus rfl); (focus rfl); (focus (intro W hS; obtain ⟨hS1, hS2⟩ := hS; go_simp; (try simp (disch := omega) only [wrap_in, wrap_in', wrap_u16, wrap_u8, wrap_u32, wrap_u64, rem_in, quo_in]); first | done | with_reducible rfl | (constructor <;> with_reducible rfl))))
            iterate 3
              first | (apply t_anyoff; (focus rfl); (focus rfl); (focus rfl)) | (apply t_any; (focus rfl); (focus rfl); (focus rfl); (focus rfl); (focus (intro W; go_simp; (try simp (disch := omega) only [wrap_in, wrap_in', wrap_u16, wrap_u8, wrap_u32, wrap_u64, rem_in, quo_in]); first | done | with_reducible rfl | (constructor <;> with_reducible rfl))))
            first | (apply t_last; (focus rfl); (focus rfl); (focus rfl); (focus rfl); (focus (go_simp; (try simp (disch := omega) only [wrap_in, wrap_in', wrap_u16, wrap_u8, wrap_u32, wrap_u64, rem_in, quo_in]); first | done | with_reducible rfl | (constructor <;> with_reducible rfl)))) | (apply t_laststore; (focus rfl); (focus rfl); (focus rfl); (focus rfl); (focus (go_simp; (try simp (disch := omega) only [wrap_in, wrap_in', wrap_u16, wrap_u8, wrap_u32, wrap_u64, rem_in, quo_in]); first | done | with_reducible rfl | (constructor <;> with_reducible rfl))))
            first | (apply t_last; (focus rfl); (focus rfl); (focus rfl); (focus rfl); (focus (go_simp; (try simp (disch := omega) only [wrap_in, wrap_in', wrap_u16, wrap_u8, wrap_u32, wrap_u64, rem_in, quo_in]); first | done | with_reducible rfl | (constructor <;> with_reducible rfl)))) | (apply t_laststore; (focus rfl); (focus rfl); (focus rfl); (focus rfl); (focus (go_simp; (try simp (disch := omega) only [wrap_in, wrap_in', wrap_u16, wrap_u8, wrap_u32, wrap_u64, rem_in, quo_in]); first | done | with_reducible rfl | (constructor <;> with_reducible rfl))))
            first | (apply t_last; (focus rfl); (focus rfl); (focus rfl); (focus rfl); (focus (go_simp; (try simp (disch := omega) only [wrap_in, wrap_in', wrap_u16, wrap_u8, wrap_u32, wrap_u64, rem_in, quo_in]); first | done | with_reducible rfl | (constructor <;> with_reducible rfl)))) | (apply t_laststore; (focus rfl); (focus rfl); (focus rfl); (focus rfl); (focus (go_simp; (try simp (disch := omega) only [wrap_in, wrap_in', wrap_u16, wrap_u8, wrap_u32, wrap_u64, rem_in, quo_in]); first | done | with_reducible rfl | (constructor <;> with_reducible rfl))))
            refine t_done ?_
            repeat first
              | apply d_seq
              | with_reducible apply kt_normal
              | apply l_nil
              | apply d_region
              | (apply l_off; (focus rfl); (focus rfl))
              | (apply l_val; (focus rfl); (focus rfl); (focus rfl); (focus (go_simp; (try simp (disch := omega) only [wrap_in, wrap_in', wrap_u16, wrap_u8, wrap_u32, wrap_u64, rem_in, quo_in]); first | done | with_reducible rfl | (constructor <;> with_reducible rfl))))
              | (apply l_store; (focus rfl); (focus rfl); (focus rfl); (focus (go_simp; (try simp (disch := omega) only [wrap_in, wrap_in', wrap_u16, wrap_u8, wrap_u32, wrap_u64, rem_in, quo_in]); first | done | with_reducible rfl | (constructor <;> with_reducible rfl))))
              | apply d_block
              | (apply d_true; (focus rfl); (focus rfl))
              | (apply d_false; (focus rfl); (focus rfl))
              | apply d_skip
              | apply d_exit
              | apply d_ret
              | with_reducible apply kt_ret
              | with_reducible apply kt_exit
              | with_reducible apply kb_normal
              | with_reducible apply kb_ret
              | with_reducible apply kb_here
              | with_reducible apply kl_ret
              | with_reducible apply kl_exit
              | with_reducible apply kc_ret
              | with_reducible apply kc_exit
              | (with_reducible apply kb_there; (focus rfl))
            refine kl_normal (q + 1) _ (by omega) (Subl.cons (t := 0) (by decide) rfl (Subl.cons (t := 1) (by decide) rfl (Subl.cons (t := 2) (by decide) rfl (Subl.cons (t := 6) (by decide) rfl (Subl.cons (t := 7) (by decide) rfl (Subl.nil _ _)))))) ?_
            refine ⟨q, swp d2 j q, rfl, by omega, by omega, rfl, Lib.hid ⟨((HX.out.1.drew.drew).set _ _).set _ _, HSW.out, by rw [swp_size]; exact HX.out.2.2.1, ?_⟩⟩
            have e := HX.out.2.2.2
            rw [HQ.out, insInner, ← HQ.out, HE.out, if_pos (by simp; omega)] at e
            exact e
        · have q1 : decide ((a : Int) < (j : Int)) = false := decide_eq_false (by omega)
          repeat first
            | apply d_seq
            | with_reducible apply kt_normal
            | apply l_nil
            | apply d_region
            | (apply l_off; (focus rfl); (focus rfl))
            | (apply l_val; (focus rfl); (focus rfl); (focus rfl); (focus (go_simp; (try simp (disch := omega) only [wrap_in, wrap_in', wrap_u16, wrap_u8, wrap_u32, wrap_u64, rem_in, quo_in]); first | done | with_reducible rfl | (constructor <;> with_reducible rfl))))
            | (apply l_store; (focus rfl); (focus rfl); (focus rfl); (focus (go_simp; (try simp (disch := omega) only [wrap_in, wrap_in', wrap_u16, wrap_u8, wrap_u32, wrap_u64, rem_in, quo_in]); first | done | with_reducible rfl | (constructor <;> with_reducible rfl))))
            | apply d_block
            | (apply d_true; (focus rfl); (focus rfl))
            | (apply d_false; (focus rfl); (focus rfl))
            | apply d_skip
            | apply d_exit
            | apply d_ret
            | with_reducible apply kt_ret
            | with_reducible apply kt_exit
            | with_reducible apply kb_normal
            | with_reducible apply kb_ret
            | with_reducible apply kb_here
            | with_reducible apply kl_ret
            | with_reducible apply kl_exit
            | with_reducible apply kc_ret
            | with_reducible apply kc_exit
            | (with_reducible apply kb_there; (focus rfl))
          refine d_draw (true, [([], []), ([], []), ([0, 1], [0, 1]), ([2], [2]), ([3], [3]), ([3], [3]), ([4, 5, 3], [3, 4, 5]), ([6, 3], [3, 6]), ([3], [3]), ([3], [3]), ([9, 3], [3, 9]), ([8, 10, 3], [3, 8, 10]), ([11, 3], [3, 11]), ([7, 12, 3, 3], [3, 7, 12]), ([3, 13], [3, 13])]) [(0, 0), (0, 1), (0, 2), (0, 3), (0, 4), (0, 5), (0, 6), (0, 7), (0, 8), (0, 9), (0, 10), (0, 11), (0, 12), (1, 13), (0, 14)] [999999] (fun W => True) (by kernel_rfl) (by kernel_rfl) (by kernel_rfl) (by kernel_rfl) trivial ?_
          iterate 13
            first | (apply s_off; (focus rfl); (focus rfl); (focus rfl)) | (apply s_yield; (focus rfl); (focus rfl); (focus rfl); (focus rfl); (focus (intro W hS; go_simp; (try simp (disch := omega) only [wrap_in, wrap_in', wrap_u16, wrap_u8, wrap_u32, wrap_u64, rem_in, quo_in]); first | done | with_reducible rfl | (constructor <;> with_reducible rfl))))
          refine s_nocall rfl rfl rfl trivial ?_
          iterate 1
            first | (apply s_off; (focus rfl); (focus rfl); (focus rfl)) | (apply s_yield; (focus rfl); (focus rfl); (focus rfl); (focus rfl); (focus (intro W hS; go_simp; (try simp (disch := omega) only [wrap_in, wrap_in', wrap_u16, wrap_u8, wrap_u32, wrap_u64, rem_in, quo_in]); first | done | with_reducible rfl | (constructor <;> with_reducible rfl))))
          refine s_done ?_
          repeat first
            | apply d_seq
            | with_reducible apply kt_normal
            | apply l_nil
            | apply d_region
            | (apply l_off; (focus rfl); (focus rfl))
            | (apply l_val; (focus rfl); (focus rfl); (focus rfl); (focus (go_simp; (try simp (disch := omega) only [wrap_in, wrap_in', wrap_u16, wrap_u8, wrap_u32, wrap_u64, rem_in, quo_in]); first | done | with_reducible rfl | (constructor <;> with_reducible rfl))))
            | (apply l_store; (focus rfl); (focus rfl); (focus rfl); (focus (go_simp; (try simp (disch := omega) only [wrap_in, wrap_in', wrap_u16, wrap_u8, wrap_u32, wrap_u64, rem_in, quo_in]); first | done | with_reducible rfl | (constructor <;> with_reducible rfl))))
            | apply d_block
            | (apply d_true; (focus rfl); (focus rfl))
            | (apply d_false; (focus rfl); (focus rfl))
            | apply d_skip
            | apply d_exit
            | apply d_ret
            | with_reducible apply kt_ret
            | with_reducible apply kt_exit
            | with_reducible apply kb_normal
            | with_reducible apply kb_ret
            | with_reducible apply kb_here
            | with_reducible apply kl_ret
            | with_reducible apply kl_exit
            | with_reducible apply kc_ret
            | with_reducible apply kc_exit
            | (with_reducible apply kb_there; (focus rfl))
          refine kl_normal (b - (i + 1)) _ (by omega) (Subl.cons (t := 0) (by decide) rfl (Subl.cons (t := 1) (by decide) rfl (Subl.cons (t := 2) (by decide) rfl (Subl.cons (t := 6) (by decide) rfl (Subl.nil _ _))))) ?_
          refine ⟨i + 1, d2, rfl, by omega, by omega, rfl, Lib.hid ⟨HX.out.1.drew, HX.out.2.1, HX.out.2.2.1, ?_⟩⟩
          rw [HX.out.2.2.2]
          cases j with
          | zero => rfl
          | succ j => rw [insInner, if_neg (by simp; omega)]
    · repeat first
        | apply d_seq
        | with_reducible apply kt_normal
        | apply l_nil
        | apply d_region
        | (apply l_off; (focus rfl); (focus rfl))
        | (apply l_val; (focus rfl); (focus rfl); (focus rfl); (focus (go_simp; (try simp (disch := omega) only [wrap_in, wrap_in', wrap_u16, wrap_u8, wrap_u32, wrap_u64, rem_in, quo_in]); first | done | with_reducible rfl | (constructor <;> with_reducible rfl))))
        | (apply l_store; (focus rfl); (focus rfl); (focus rfl); (focus (go_simp; (try simp (disch := omega) only [wrap_in, wrap_in', wrap_u16, wrap_u8, wrap_u32, wrap_u64, rem_in, quo_in]); first | done | with_reducible rfl | (constructor <;> with_reducible rfl))))
        | apply d_block
        | (apply d_true; (focus rfl); (focus rfl))
        | (apply d_false; (focus rfl); (focus rfl))
        | apply d_skip
        | apply d_exit
        | apply d_ret
        | with_reducible apply kt_ret
        | with_reducible apply kt_exit
        | with_reducible apply kb_normal
        | with_reducible apply kb_ret
        | with_reducible apply kb_here
        | with_reducible apply kl_ret
        | with_reducible apply kl_exit
        | with_reducible apply kc_ret
        | with_reducible apply kc_exit
        | (with_reducible apply kb_there; (focus rfl))
      refine ⟨rfl, _, (by first | (simp [resultsG, resOne, Try.results37, rho, List.lookup]; done) | (simp [resultsG, resOne, Try.results37, rho, List.lookup]; rfl)), ?_⟩
      refine ⟨rfl, HX.out.1, ?_⟩
      rw [HX.out.2.2.2, insOuter, if_neg hlt]
      exact HX.out.2.1
end Go.Proofs.Ytbcjmgocdplfnaa
