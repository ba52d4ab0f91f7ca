import Derived.Test.YtienodnkfohakaaWal2
import Derived.Test.YtienodnkfohakaaBase2
import Derived.Sort.LotA
namespace Go.Proofs.Ytienodnkfohakaa
set_option linter.unusedVariables false
set_option linter.unusedSimpArgs false
attribute [local go_sem] rho_const rho_func rho_hit rho_miss
open Go.RowKit Go.Sort
instance : Inhabited Ln := ⟨⟨0, 0, 0⟩⟩
def ltLn (x y : Ln) : Bool := decide (x.item < y.item)
theorem lns_set (l : List Ln) : ∀ (k : Nat) (r : Ln), k < l.length → lns (l.set k r) = (((lns l).set (k * 3) (.int .u16 r.item)).set (k * 3 + 1) (.int .u16 r.loc)).set (k * 3 + 2) (.int .i64 r.qty) := by
  induction l with
  | nil => intro k r h; simp at h
  | cons y l ih =>
    intro k r h
    have e : ∀ z : Ln, ∀ m, lns (z :: m) = z.cs ++ lns m := fun z m => by simp [lns]
    cases k with
    | zero => rw [List.set_cons_zero, e, e]; simp [Ln.cs]
    | succ k =>
      rw [List.set_cons_succ, e, e, ih k r (by simpa using h)]
      have a : ∀ (xs : List Value) (j : Nat) (u : Value), (y.cs ++ xs).set ((k + 1) * 3 + j) u = y.cs ++ xs.set (k * 3 + j) u := fun xs j u => by
        rw [List.set_append_right _ _ (by rw [Ln.three]; omega), Ln.three, show (k + 1) * 3 + j - 3 = k * 3 + j by omega]
      have a0 := fun xs u => a xs 0 u
      simp only [Nat.add_zero] at a0
      rw [a0, a, a]
/-- A row of lines in block g. -/
def RowL (w : World) (g n c : Nat) (d : Array Ln) : Prop := Own w (fun q => q = g) 35 3 (.slice (some ⟨g, 0, none⟩) n c) n (lns d.toList) ∧ d.size = n
theorem RowL.cells {w : World} {g n c : Nat} {d : Array Ln} (h : RowL w g n c d) {i : Nat} (hi : i < n) : w.cell? ⟨g, i * 3, none⟩ = some (.int .u16 d[i]!.item) ∧ w.cell? ⟨g, i * 3 + 1, none⟩ = some (.int .u16 d[i]!.loc) ∧ w.cell? ⟨g, i * 3 + 2, none⟩ = some (.int .i64 d[i]!.qty) ∧
    w.frozen? ⟨g, i * 3, none⟩ = false ∧ w.frozen? ⟨g, i * 3 + 1, none⟩ = false ∧ w.frozen? ⟨g, i * 3 + 2, none⟩ = false ∧ g < w.heap.size := by
  obtain ⟨h, hs⟩ := h
  have hy : d.toList[i]? = some d[i]! := by rw [Array.getElem?_toList, getElem!_pos d i (by omega), Array.getElem?_eq_getElem (by omega)]
  obtain ⟨g', o, c', e, -, -, -, hg, hc⟩ := sees_get (enc := Ln.cs) Ln.three h.sees (by rw [Array.length_toList]; exact hs.symm) hy
  simp only [Value.slice.injEq, Option.some.injEq, Addr.mk.injEq, and_true, true_and] at e
  obtain ⟨⟨rfl, rfl⟩, rfl⟩ := e
  have c0 := hc 0 _ rfl
  have c1 := hc 1 _ rfl
  have c2 := hc 2 _ rfl
  simp only [Nat.zero_add, Nat.add_zero] at c0 c1 c2
  exact ⟨c0, c1, c2, (h.cell _ (by omega)).2, (h.cell _ (by omega)).2, (h.cell _ (by omega)).2, hg⟩
def set3 (w : World) (g k : Nat) (r : Ln) : World := ((w.setCell ⟨g, k, none⟩ (.int .u16 r.item)).setCell ⟨g, k + 1, none⟩ (.int .u16 r.loc)).setCell ⟨g, k + 2, none⟩ (.int .i64 r.qty)
theorem RowL.set {w : World} {g n c : Nat} {d : Array Ln} (h : RowL w g n c d) {i : Nat} (hi : i < n) (x : Ln) : RowL (set3 w g (i * 3) x) g n c (d.setIfInBounds i x) := by
  obtain ⟨h, hs⟩ := h
  refine ⟨?_, by simpa using hs⟩
  rw [Array.toList_setIfInBounds, lns_set _ _ _ (by rw [Array.length_toList]; omega)]
  exact ((h.store (i * 3) _ rfl).store (i * 3 + 1) _ rfl).store (i * 3 + 2) _ rfl
theorem RowL.swp {w : World} {g n c : Nat} {d : Array Ln} (h : RowL w g n c d) {i j : Nat} (hi : i < n) (hj : j < n) : RowL (set3 (set3 w g (i * 3) d[j]!) g (j * 3) d[i]!) g n c (swp d i j) := (h.set hi _).set hj _
theorem RowL.keep {w w' : World} {g n c : Nat} {d : Array Ln} (h : RowL w g n c d) (hk : Keep none_ w w') : RowL w' g n c d := ⟨h.1.keep hk (fun _ _ c => c), h.2⟩
theorem RowL.drew {w : World} {g n c : Nat} {d : Array Ln} (h : RowL w g n c d) : RowL w.drew g n c d := h.keep ((Keep.refl none_ w).drew)
def SortK (w : World) (g : Nat) (w' : World) : Prop := Keep (fun z => z = g) w w'
theorem SortK.drew {w a : World} {g : Nat} (h : SortK w g a) : SortK w g a.drew := Keep.drew h
theorem SortK.next {w a b : World} {g : Nat} (h : SortK w g a) (k : Keep none_ a b) : SortK w g b := Keep.trans h (k.mono fun _ c => c.elim)
theorem SortK.set3 {w a : World} {g : Nat} (h : SortK w g a) (k : Nat) (x : Ln) : SortK w g (set3 a g k x) :=
  ((Keep.setCell (p := ⟨g, k, none⟩) h (.inr rfl) _).setCell (p := ⟨g, k + 1, none⟩) (.inr rfl) _).setCell (p := ⟨g, k + 2, none⟩) (.inr rfl) _
set_option maxRecDepth 100000 in
set_option maxHeartbeats 4000000 in
theorem insF_any (g n c : Nat) (d : Array Ln) (a b : Nat) (w : World) (h : RowL w g n c d) (hc : n ≤ c) (hc' : c ≤ 9223372036854775807) (hz : n ≤ 1000) (ha : a ≤ n) (hb : b ≤ n) :
    Calls Try.prog 58 #[.slice (some ⟨g, 0, none⟩) n c, .int .i64 a, .int .i64 b, .func (.func 44) #[] #[]] w fun e w' => e = .returned (.tuple #[]) ∧ SortK w g w' ∧ RowL w' g n c (insertionSort ltLn d a b) := by
  have HX := Lib.hid (show SortK w g w ∧ RowL w g n c d from ⟨Keep.refl _ _, h⟩)
  clear h
  refine d_calls (n := 53) Try.func58 rfl rfl (by simp) [(0, .slice (some ⟨g, 0, none⟩) n c), (1, .int .i64 a), (2, .int .i64 b), (3, .func (.func 44) #[] #[])] (by simp) ?_
  repeat first
    | apply d_seq
    | with_reducible apply kt_normal
    | apply l_nil
    | apply d_region
    | (apply l_off; (focus rfl); (focus rfl))
    | (apply l_val; (focus rfl); (focus rfl); (focus rfl); (focus (go_simp; (try simp (disch := omega) only [wrap_in, wrap_in', wrap_u16, wrap_u8, wrap_u32, wrap_u64, rem_in, quo_in]); first | done | with_reducible rfl | (constructor <;> with_reducible rfl))))
    | (apply l_store; (focus rfl); (focus rfl); (focus rfl); (focus (go_simp; (try simp (disch := omega) only [wrap_in, wrap_in', wrap_u16, wrap_u8, wrap_u32, wrap_u64, rem_in, quo_in]); first | done | with_reducible rfl | (constructor <;> with_reducible rfl))))
    | apply d_block
    | (apply d_true; (focus rfl); (focus rfl))
    | (apply d_false; (focus rfl); (focus rfl))
    | apply d_skip
    | apply d_exit
    | apply d_ret
    | with_reducible apply kt_ret
    | with_reducible apply kt_exit
    | with_reducible apply kb_normal
    | with_reducible apply kb_ret
    | with_reducible apply kb_here
    | with_reducible apply kl_ret
    | with_reducible apply kl_exit
    | with_reducible apply kc_ret
    | with_reducible apply kc_exit
    | (with_reducible apply kb_there; (focus rfl))
  refine d_loop (fun m D wr => ∃ (i : Nat) (d' : Array Ln), m = b - i ∧ a + 1 ≤ i ∧ i ≤ n + 1 ∧ D = [(0, .slice (some ⟨g, 0, none⟩) n c), (1, .int .i64 a), (2, .int .i64 b), (3, .func (.func 44) #[] #[]), (8, .int .i64 i)] ∧ Hid (SortK w g wr ∧ RowL wr g n c d' ∧ insertionSort ltLn d a b = insOuter ltLn a b i d')) (b - (a + 1)) _ (Subl.cons (t := 0) (by decide) rfl (Subl.cons (t := 1) (by decide) rfl (Subl.cons (t := 2) (by decide) rfl (Subl.cons (t := 3) (by decide) rfl (Subl.cons (t := 8) (by decide) rfl (Subl.nil _ _)))))) ?_ (fun m D wr hrel => ?_)
  · exact ⟨a + 1, d, rfl, Nat.le_refl _, by omega, rfl, Lib.hid ⟨HX.out.1, HX.out.2, rfl⟩⟩
  · clear HX
    obtain ⟨i, d1, rfl, hi, hin, rfl, HX⟩ := hrel
    by_cases hlt : i < b
    · repeat first
        | apply d_seq
        | with_reducible apply kt_normal
        | apply l_nil
        | apply d_region
        | (apply l_off; (focus rfl); (focus rfl))
        | (apply l_val; (focus rfl); (focus rfl); (focus rfl); (focus (go_simp; (try simp (disch := omega) only [wrap_in, wrap_in', wrap_u16, wrap_u8, wrap_u32, wrap_u64, rem_in, quo_in]); first | done | with_reducible rfl | (constructor <;> with_reducible rfl))))
        | (apply l_store; (focus rfl); (focus rfl); (focus rfl); (focus (go_simp; (try simp (disch := omega) only [wrap_in, wrap_in', wrap_u16, wrap_u8, wrap_u32, wrap_u64, rem_in, quo_in]); first | done | with_reducible rfl | (constructor <;> with_reducible rfl))))
        | apply d_block
        | (apply d_true; (focus rfl); (focus rfl))
        | (apply d_false; (focus rfl); (focus rfl))
        | apply d_skip
        | apply d_exit
        | apply d_ret
        | with_reducible apply kt_ret
        | with_reducible apply kt_exit
        | with_reducible apply kb_normal
        | with_reducible apply kb_ret
        | with_reducible apply kb_here
        | with_reducible apply kl_ret
        | with_reducible apply kl_exit
        | with_reducible apply kc_ret
        | with_reducible apply kc_exit
        | (with_reducible apply kb_there; (focus rfl))
      refine d_loop (fun m D wr => ∃ (j : Nat) (d' : Array Ln), m = j + 1 ∧ a ≤ j ∧ j ≤ i ∧ D = [(0, .slice (some ⟨g, 0, none⟩) n c), (1, .int .i64 a), (2, .int .i64 b), (3, .func (.func 44) #[] #[]), (8, .int .i64 i), (9, .int .i64 j)] ∧ Hid (SortK w g wr ∧ RowL wr g n c d' ∧ insertionSort ltLn d a b = insOuter ltLn a b (i + 1) (insInner ltLn a j d'))) (i + 1) _ (Subl.cons (t := 0) (by decide) rfl (Subl.cons (t := 1) (by decide) rfl (Subl.cons (t := 2) (by decide) rfl (Subl.cons (t := 3) (by decide) rfl (Subl.cons (t := 8) (by decide) rfl (Subl.cons (t := 9) (by decide) rfl (Subl.nil _ _))))))) ?_ (fun m D wr hrel => ?_)
      · refine ⟨i, d1, rfl, by omega, Nat.le_refl _, rfl, Lib.hid ⟨HX.out.1, HX.out.2.1, ?_⟩⟩
        rw [HX.out.2.2, insOuter, if_pos hlt]
      · clear HX
        obtain ⟨j, d2, rfl, hj, hji, rfl, HX⟩ := hrel
        by_cases hja : a < j
        · obtain ⟨q, hq⟩ : ∃ q, j = q + 1 := ⟨j - 1, by omega⟩
          have hj1 : j < n := by omega
          have hj2 : q < n := by omega
          have hcx := fun W hk => RowL.cells (HX.out.2.1.keep (w' := W) hk) hj1
          have hcy := fun W hk => RowL.cells (HX.out.2.1.keep (w' := W) hk) hj2
          have hq3 : ((j : Int) - 1) = q := by omega
          have q1 : decide ((a : Int) < (j : Int)) = true := decide_eq_true (by omega)
          have hsw := fun W hk => RowL.swp (HX.out.2.1.keep (w' := W) hk) hj1 hj2
          obtain ⟨bb, hb⟩ : ∃ bb, ltLn d2[j]! d2[q]! = bb := ⟨_, rfl⟩
          have hl := fun W => sorted1_any d2[j]! d2[q]! W
          have hcm := cmp3_neg d2[j]!.item d2[q]!.item
          rw [show decide (d2[j]!.item < d2[q]!.item) = bb from hb] at hcm
          have he : ltLn d2[j]! d2[q]! = bb := hb
          have HQ := Lib.hid hq
          have HSW := Lib.hid hsw
          have HB := Lib.hid hb
          have HL := Lib.hid hl
          have HE := Lib.hid he
          have HCX := Lib.hid hcx
          have HCY := Lib.hid hcy
          clear hq hsw hb hl he hcx hcy
          generalize d2[j]! = x at HCX hcm HL HSW
          generalize d2[q]! = y at HCY hcm HL HSW
          obtain ⟨x0, x1, x2, -⟩ := HCX.out wr (Keep.refl _ _)
          obtain ⟨y0, y1, y2, -⟩ := HCY.out wr (Keep.refl _ _)
          repeat first
            | apply d_seq
            | with_reducible apply kt_normal
            | apply l_nil
            | apply d_region
            | (apply l_off; (focus rfl); (focus rfl))
            | (apply l_val; (focus rfl); (focus rfl); (focus rfl); (focus (go_simp; (try simp (disch := omega) only [wrap_in, wrap_in', wrap_u16, wrap_u8, wrap_u32, wrap_u64, rem_in, quo_in]); first | done | with_reducible rfl | (constructor <;> with_reducible rfl))))
            | (apply l_store; (focus rfl); (focus rfl); (focus rfl); (focus (go_simp; (try simp (disch := omega) only [wrap_in, wrap_in', wrap_u16, wrap_u8, wrap_u32, wrap_u64, rem_in, quo_in]); first | done | with_reducible rfl | (constructor <;> with_reducible rfl))))
            | apply d_block
            | (apply d_true; (focus rfl); (focus rfl))
            | (apply d_false; (focus rfl); (focus rfl))
            | apply d_skip
            | apply d_exit
            | apply d_ret
            | with_reducible apply kt_ret
            | with_reducible apply kt_exit
            | with_reducible apply kb_normal
            | with_reducible apply kb_ret
            | with_reducible apply kb_here
            | with_reducible apply kl_ret
            | with_reducible apply kl_exit
            | with_reducible apply kc_ret
            | with_reducible apply kc_exit
            | (with_reducible apply kb_there; (focus rfl))
          refine d_draw (true, [([], []), ([], []), ([0, 1], [0, 1]), ([2], [2]), ([3], [3]), ([3], [3]), ([3], [3]), ([5, 6, 3], [3, 5, 6]), ([7, 3], [3, 7]), ([3], [3]), ([3], [3]), ([10, 3], [3, 10]), ([9, 11, 3], [3, 9, 11]), ([12, 3], [3, 12]), ([4, 8, 13, 3, 3], [3, 4, 8, 13]), ([14, 3], [3, 14]), ([3, 15], [3, 15])]) [(0, 0), (0, 1), (0, 2), (0, 3), (0, 4), (0, 5), (0, 6), (0, 7), (0, 8), (0, 9), (0, 10), (0, 11), (0, 12), (0, 13), (1, 14), (0, 15), (0, 16)] [999999] (fun W => W.cell? ⟨g, j * 3, none⟩ = some (.int .u16 x.item) ∧ W.cell? ⟨g, j * 3 + 1, none⟩ = some (.int .u16 x.loc) ∧ W.cell? ⟨g, j * 3 + 2, none⟩ = some (.int .i64 x.qty) ∧ W.cell? ⟨g, q * 3, none⟩ = some (.int .u16 y.item) ∧ W.cell? ⟨g, q * 3 + 1, none⟩ = some (.int .u16 y.loc) ∧ W.cell? ⟨g, q * 3 + 2, none⟩ = some (.int .i64 y.qty)) (by kernel_rfl) (by kernel_rfl) (by kernel_rfl) (by kernel_rfl) ⟨x0, x1, x2, y0, y1, y2⟩ ?_
          iterate 14
            first | (apply s_off; (focus rfl); (focus rfl); (focus rfl)) | (apply s_yield; (focus rfl); (focus rfl); (focus rfl); (focus rfl); (focus (intro W hS; obtain ⟨hS1, hS2, hS3, hS4, hS5, hS6⟩ := hS; go_simp; (try simp (disch := omega) only [wrap_in, wrap_in', wrap_u16, wrap_u8, wrap_u32, wrap_u64, rem_in, quo_in]); first | done | with_reducible rfl | (constructor <;> with_reducible rfl))))
          refine s_call rfl rfl rfl rfl (by first | (go_simp; done) | (go_simp; rfl)) (HL.out _) ?_
          rintro e w2 ⟨rfl, hk⟩
          have HKW := Lib.hid (((Keep.refl none_ wr).drew).next hk)
          clear hk x0 x1 x2 y0 y1 y2
          obtain ⟨x0, x1, x2, e0, e1, e2, -⟩ := HCX.out w2 HKW.out
          obtain ⟨y0, y1, y2, f0, f1, f2, -⟩ := HCY.out w2 HKW.out
          refine ⟨_, rfl, ⟨x0, x1, x2, y0, y1, y2⟩, ?_⟩
          iterate 2
            first | (apply s_off; (focus rfl); (focus rfl); (focus rfl)) | (apply s_yield; (focus rfl); (focus rfl); (focus rfl); (focus rfl); (focus (intro W hS; obtain ⟨hS1, hS2, hS3, hS4, hS5, hS6⟩ := hS; go_simp; (try simp (disch := omega) only [wrap_in, wrap_in', wrap_u16, wrap_u8, wrap_u32, wrap_u64, rem_in, quo_in]); first | done | with_reducible rfl | (constructor <;> with_reducible rfl))))
          refine s_done ?_
          cases bb
          · repeat first
              | apply d_seq
              | with_reducible apply kt_normal
              | apply l_nil
              | apply d_region
              | (apply l_off; (focus rfl); (focus rfl))
              | (apply l_val; (focus rfl); (focus rfl); (focus rfl); (focus (go_simp; (try simp (disch := omega) only [wrap_in, wrap_in', wrap_u16, wrap_u8, wrap_u32, wrap_u64, rem_in, quo_in]); first | done | with_reducible rfl | (constructor <;> with_reducible rfl))))
              | (apply l_store; (focus rfl); (focus rfl); (focus rfl); (focus (go_simp; (try simp (disch := omega) only [wrap_in, wrap_in', wrap_u16, wrap_u8, wrap_u32, wrap_u64, rem_in, quo_in]); first | done | with_reducible rfl | (constructor <;> with_reducible rfl))))
              | apply d_block
              | (apply d_true; (focus rfl); (focus rfl))
              | (apply d_false; (focus rfl); (focus rfl))
              | apply d_skip
              | apply d_exit
              | apply d_ret
              | with_reducible apply kt_ret
              | with_reducible apply kt_exit
              | with_reducible apply kb_normal
              | with_reducible apply kb_ret
              | with_reducible apply kb_here
              | with_reducible apply kl_ret
              | with_reducible apply kl_exit
              | with_reducible apply kc_ret
              | with_reducible apply kc_exit
              | (with_reducible apply kb_there; (focus rfl))
            refine kl_normal (b - (i + 1)) _ (by omega) (Subl.cons (t := 0) (by decide) rfl (Subl.cons (t := 1) (by decide) rfl (Subl.cons (t := 2) (by decide) rfl (Subl.cons (t := 3) (by decide) rfl (Subl.cons (t := 8) (by decide) rfl (Subl.nil _ _)))))) ?_
            refine ⟨i + 1, d2, rfl, by omega, by omega, rfl, Lib.hid ⟨HX.out.1.next HKW.out, HX.out.2.1.keep HKW.out, ?_⟩⟩
            have e := HX.out.2.2
            rw [HQ.out, insInner, ← HQ.out, HE.out] at e
            simpa using e
          · repeat first
              | apply d_seq
              | with_reducible apply kt_normal
              | apply l_nil
              | apply d_region
              | (apply l_off; (focus rfl); (focus rfl))
              | (apply l_val; (focus rfl); (focus rfl); (focus rfl); (focus (go_simp; (try simp (disch := omega) only [wrap_in, wrap_in', wrap_u16, wrap_u8, wrap_u32, wrap_u64, rem_in, quo_in]); first | done | with_reducible rfl | (constructor <;> with_reducible rfl))))
              | (apply l_store; (focus rfl); (focus rfl); (focus rfl); (focus (go_simp; (try simp (disch := omega) only [wrap_in, wrap_in', wrap_u16, wrap_u8, wrap_u32, wrap_u64, rem_in, quo_in]); first | done | with_reducible rfl | (constructor <;> with_reducible rfl))))
              | apply d_block
              | (apply d_true; (focus rfl); (focus rfl))
              | (apply d_false; (focus rfl); (focus rfl))
              | apply d_skip
              | apply d_exit
              | apply d_ret
              | with_reducible apply kt_ret
              | with_reducible apply kt_exit
              | with_reducible apply kb_normal
              | with_reducible apply kb_ret
              | with_reducible apply kb_here
              | with_reducible apply kl_ret
              | with_reducible apply kl_exit
              | with_reducible apply kc_ret
              | with_reducible apply kc_exit
              | (with_reducible apply kb_there; (focus rfl))
            refine d_drawt (true, [([], []), ([], []), ([], []), ([], []), ([3], [3]), ([], []), ([], []), ([6], [6]), ([5, 7], [5, 7]), ([8], [8]), ([], []), ([], []), ([10, 11], [10, 11]), ([12], [12]), ([0, 1, 0, 1, 5, 6, 7, 8, 9, 13], [0, 1]), ([14, 9, 0, 1, 5, 6, 7, 8, 9, 13], [9, 14]), ([2, 4, 0, 1, 2, 3, 4, 5, 6, 7, 8, 9, 10, 11, 12, 13, 14, 15], [2, 4]), ([16, 13, 15, 0, 1, 2, 3, 4, 5, 6, 7, 8, 9, 10, 11, 12, 13, 14, 15], [13, 16])]) [(0, 0), (0, 1), (0, 5), (0, 6), (0, 7), (0, 8), (0, 9), (0, 10), (0, 11), (0, 12), (0, 13), (0, 14), (3, 2), (3, 3), (3, 4), (2, 15), (2, 16), (2, 17)] [15, 16, 17] (fun W => W.cell? ⟨g, j * 3, none⟩ = some (.int .u16 x.item) ∧ W.cell? ⟨g, j * 3 + 1, none⟩ = some (.int .u16 x.loc) ∧ W.cell? ⟨g, j * 3 + 2, none⟩ = some (.int .i64 x.qty) ∧ W.cell? ⟨g, q * 3, none⟩ = some (.int .u16 y.item) ∧ W.cell? ⟨g, q * 3 + 1, none⟩ = some (.int .u16 y.loc) ∧ W.cell? ⟨g, q * 3 + 2, none⟩ = some (.int .i64 y.qty)) (by kernel_rfl) (by kernel_rfl) (by kernel_rfl) (by kernel_rfl) ⟨x0, x1, x2, y0, y1, y2⟩ ?_
            iterate 12
              first | (apply t_off; (focus rfl); (focus rfl); (focus rfl)) | (apply t_yield; (focus rfl); (focus rfl); (focus rfl); (focus rfl); (focus (intro W hS; obtain ⟨hS1, hS2, hS3, hS4, hS5, hS6⟩ := hS; go_simp; (try simp (disch := omega) only [wrap_in, wrap_in', wrap_u16, wrap_u8, wrap_u32, wrap_u64, rem_in, quo_in]); first | done | with_reducible rfl | (constructor <;> with_reducible rfl))))
            iterate 3
              first | (apply t_anyoff; (focus rfl); (focus rfl); (focus rfl)) | (apply t_any; (focus rfl); (focus rfl); (focus rfl); (focus rfl); (focus (intro W; go_simp; (try simp (disch := omega) only [wrap_in, wrap_in', wrap_u16, wrap_u8, wrap_u32, wrap_u64, rem_in, quo_in]); first | done | with_reducible rfl | (constructor <;> with_reducible rfl))))
            first | (apply t_last; (focus rfl); (focus rfl); (focus rfl); (focus rfl); (focus (go_simp; (try simp (disch := omega) only [wrap_in, wrap_in', wrap_u16, wrap_u8, wrap_u32, wrap_u64, rem_in, quo_in]); first | done | with_reducible rfl | (constructor <;> with_reducible rfl)))) | (apply t_laststore; (focus rfl); (focus rfl); (focus rfl); (focus rfl); (focus (go_simp; (try simp (disch := omega) only [wrap_in, wrap_in', wrap_u16, wrap_u8, wrap_u32, wrap_u64, rem_in, quo_in]); first | done | with_reducible rfl | (constructor <;> with_reducible rfl))))
            first | (apply t_last; (focus rfl); (focus rfl); (focus rfl); (focus rfl); (focus (go_simp; (try simp (disch := omega) only [wrap_in, wrap_in', wrap_u16, wrap_u8, wrap_u32, wrap_u64, rem_in, quo_in]); first | done | with_reducible rfl | (constructor <;> with_reducible rfl)))) | (apply t_laststore; (focus rfl); (focus rfl); (focus rfl); (focus rfl); (focus (go_simp; (try simp (disch := omega) only [wrap_in, wrap_in', wrap_u16, wrap_u8, wrap_u32, wrap_u64, rem_in, quo_in]); first | done | with_reducible rfl | (constructor <;> with_reducible rfl))))
            first | (apply t_last; (focus rfl); (focus rfl); (focus rfl); (focus rfl); (focus (go_simp; (try simp (disch := omega) only [wrap_in, wrap_in', wrap_u16, wrap_u8, wrap_u32, wrap_u64, rem_in, quo_in]); first | done | with_reducible rfl | (constructor <;> with_reducible rfl)))) | (apply t_laststore; (focus rfl); (focus rfl); (focus rfl); (focus rfl); (focus (go_simp; (try simp (disch := omega) only [wrap_in, wrap_in', wrap_u16, wrap_u8, wrap_u32, wrap_u64, rem_in, quo_in]); first | done | with_reducible rfl | (constructor <;> with_reducible rfl))))
            refine t_done ?_
            repeat first
              | apply d_seq
              | with_reducible apply kt_normal
              | apply l_nil
              | apply d_region
              | (apply l_off; (focus rfl); (focus rfl))
              | (apply l_val; (focus rfl); (focus rfl); (focus rfl); (focus (go_simp; (try simp (disch := omega) only [wrap_in, wrap_in', wrap_u16, wrap_u8, wrap_u32, wrap_u64, rem_in, quo_in]); first | done | with_reducible rfl | (constructor <;> with_reducible rfl))))
              | (apply l_store; (focus rfl); (focus rfl); (focus rfl); (focus (go_simp; (try simp (disch := omega) only [wrap_in, wrap_in', wrap_u16, wrap_u8, wrap_u32, wrap_u64, rem_in, quo_in]); first | done | with_reducible rfl | (constructor <;> with_reducible rfl))))
              | apply d_block
              | (apply d_true; (focus rfl); (focus rfl))
              | (apply d_false; (focus rfl); (focus rfl))
              | apply d_skip
              | apply d_exit
              | apply d_ret
              | with_reducible apply kt_ret
              | with_reducible apply kt_exit
              | with_reducible apply kb_normal
              | with_reducible apply kb_ret
              | with_reducible apply kb_here
              | with_reducible apply kl_ret
              | with_reducible apply kl_exit
              | with_reducible apply kc_ret
              | with_reducible apply kc_exit
              | (with_reducible apply kb_there; (focus rfl))
            refine kl_normal (q + 1) _ (by omega) (Subl.cons (t := 0) (by decide) rfl (Subl.cons (t := 1) (by decide) rfl (Subl.cons (t := 2) (by decide) rfl (Subl.cons (t := 3) (by decide) rfl (Subl.cons (t := 8) (by decide) rfl (Subl.cons (t := 9) (by decide) rfl (Subl.nil _ _))))))) ?_
            refine ⟨q, swp d2 j q, rfl, by omega, by omega, rfl, Lib.hid ⟨SortK.drew (((HX.out.1.next HKW.out).set3 (j * 3) y).set3 (q * 3) x), RowL.drew (HSW.out w2 HKW.out), ?_⟩⟩
            have e := HX.out.2.2
            rw [HQ.out, insInner, ← HQ.out, HE.out, if_pos (by simp; omega)] at e
            exact e
        · have q1 : decide ((a : Int) < (j : Int)) = false := decide_eq_false (by omega)
          repeat first
            | apply d_seq
            | with_reducible apply kt_normal
            | apply l_nil
            | apply d_region
            | (apply l_off; (focus rfl); (focus rfl))
            | (apply l_val; (focus rfl); (focus rfl); (focus rfl); (focus (go_simp; (try simp (disch := omega) only [wrap_in, wrap_in', wrap_u16, wrap_u8, wrap_u32, wrap_u64, rem_in, quo_in]); first | done | with_reducible rfl | (constructor <;> with_reducible rfl))))
            | (apply l_store; (focus rfl); (focus rfl); (focus rfl); (focus (go_simp; (try simp (disch := omega) only [wrap_in, wrap_in', wrap_u16, wrap_u8, wrap_u32, wrap_u64, rem_in, quo_in]); first | done | with_reducible rfl | (constructor <;> with_reducible rfl))))
            | apply d_block
            | (apply d_true; (focus rfl); (focus rfl))
            | (apply d_false; (focus rfl); (focus rfl))
            | apply d_skip
            | apply d_exit
            | apply d_ret
            | with_reducible apply kt_ret
            | with_reducible apply kt_exit
            | with_reducible apply kb_normal
            | with_reducible apply kb_ret
            | with_reducible apply kb_here
            | with_reducible apply kl_ret
            | with_reducible apply kl_exit
            | with_reducible apply kc_ret
            | with_reducible apply kc_exit
            | (with_reducible apply kb_there; (focus rfl))
          refine d_draw (true, [([], []), ([], []), ([0, 1], [0, 1]), ([2], [2]), ([3], [3]), ([3], [3]), ([3], [3]), ([5, 6, 3], [3, 5, 6]), ([7, 3], [3, 7]), ([3], [3]), ([3], [3]), ([10, 3], [3, 10]), ([9, 11, 3], [3, 9, 11]), ([12, 3], [3, 12]), ([4, 8, 13, 3, 3], [3, 4, 8, 13]), ([14, 3], [3, 14]), ([3, 15], [3, 15])]) [(0, 0), (0, 1), (0, 2), (0, 3), (0, 4), (0, 5), (0, 6), (0, 7), (0, 8), (0, 9), (0, 10), (0, 11), (0, 12), (0, 13), (1, 14), (0, 15), (0, 16)] [999999] (fun W => True) (by kernel_rfl) (by kernel_rfl) (by kernel_rfl) (by kernel_rfl) trivial ?_
          iterate 14
            first | (apply s_off; (focus rfl); (focus rfl); (focus rfl)) | (apply s_yield; (focus rfl); (focus rfl); (focus rfl); (focus rfl); (focus (intro W hS; go_simp; (try simp (disch := omega) only [wrap_in, wrap_in', wrap_u16, wrap_u8, wrap_u32, wrap_u64, rem_in, quo_in]); first | done | with_reducible rfl | (constructor <;> with_reducible rfl))))
          refine s_nocall rfl rfl rfl trivial ?_
          iterate 2
            first | (apply s_off; (focus rfl); (focus rfl); (focus rfl)) | (apply s_yield; (focus rfl); (focus rfl); (focus rfl); (focus rfl); (focus (intro W hS; go_simp; (try simp (disch := omega) only [wrap_in, wrap_in', wrap_u16, wrap_u8, wrap_u32, wrap_u64, rem_in, quo_in]); first | done | with_reducible rfl | (constructor <;> with_reducible rfl))))
          refine s_done ?_
          repeat first
            | apply d_seq
            | with_reducible apply kt_normal
            | apply l_nil
            | apply d_region
            | (apply l_off; (focus rfl); (focus rfl))
            | (apply l_val; (focus rfl); (focus rfl); (focus rfl); (focus (go_simp; (try simp (disch := omega) only [wrap_in, wrap_in', wrap_u16, wrap_u8, wrap_u32, wrap_u64, rem_in, quo_in]); first | done | with_reducible rfl | (constructor <;> with_reducible rfl))))
            | (apply l_store; (focus rfl); (focus rfl); (focus rfl); (focus (go_simp; (try simp (disch := omega) only [wrap_in, wrap_in', wrap_u16, wrap_u8, wrap_u32, wrap_u64, rem_in, quo_in]); first | done | with_reducible rfl | (constructor <;> with_reducible rfl))))
            | apply d_block
            | (apply d_true; (focus rfl); (focus rfl))
            | (apply d_false; (focus rfl); (focus rfl))
            | apply d_skip
            | apply d_exit
            | apply d_ret
            | with_reducible apply kt_ret
            | with_reducible apply kt_exit
            | with_reducible apply kb_normal
            | with_reducible apply kb_ret
            | with_reducible apply kb_here
            | with_reducible apply kl_ret
            | with_reducible apply kl_exit
            | with_reducible apply kc_ret
            | with_reducible apply kc_exit
            | (with_reducible apply kb_there; (focus rfl))
          refine kl_normal (b - (i + 1)) _ (by omega) (Subl.cons (t := 0) (by decide) rfl (Subl.cons (t := 1) (by decide) rfl (Subl.cons (t := 2) (by decide) rfl (Subl.cons (t := 3) (by decide) rfl (Subl.cons (t := 8) (by decide) rfl (Subl.nil _ _)))))) ?_
          refine ⟨i + 1, d2, rfl, by omega, by omega, rfl, Lib.hid ⟨HX.out.1.drew, HX.out.2.1, ?_⟩⟩
          rw [HX.out.2.2]
          cases j with
          | zero => rfl
          | succ j => rw [insInner, if_neg (by simp; omega)]
    · repeat first
        | apply d_seq
        | with_reducible apply kt_normal
        | apply l_nil
        | apply d_region
        | (apply l_off; (focus rfl); (focus rfl))
        | (apply l_val; (focus rfl); (focus rfl); (focus rfl); (focus (go_simp; (try simp (disch := omega) only [wrap_in, wrap_in', wrap_u16, wrap_u8, wrap_u32, wrap_u64, rem_in, quo_in]); first | done | with_reducible rfl | (constructor <;> with_reducible rfl))))
        | (apply l_store; (focus rfl); (focus rfl); (focus rfl); (focus (go_simp; (try simp (disch := omega) only [wrap_in, wrap_in', wrap_u16, wrap_u8, wrap_u32, wrap_u64, rem_in, quo_in]); first | done | with_reducible rfl | (constructor <;> with_reducible rfl))))
        | apply d_block
        | (apply d_true; (focus rfl); (focus rfl))
        | (apply d_false; (focus rfl); (focus rfl))
        | apply d_skip
        | apply d_exit
        | apply d_ret
        | with_reducible apply kt_ret
        | with_reducible apply kt_exit
        | with_reducible apply kb_normal
        | with_reducible apply kb_ret
        | with_reducible apply kb_here
        | with_reducible apply kl_ret
        | with_reducible apply kl_exit
        | with_reducible apply kc_ret
        | with_reducible apply kc_exit
        | (with_reducible apply kb_there; (focus rfl))
      refine ⟨rfl, _, (by first | (simp [resultsG, resOne, Try.results58, rho, List.lookup]; done) | (simp [resultsG, resOne, Try.results58, rho, List.lookup]; rfl)), ?_⟩
      refine ⟨rfl, HX.out.1, ?_⟩
      rw [HX.out.2.2, insOuter, if_neg hlt]
      exact HX.out.2.1
end Go.Proofs.Ytienodnkfohakaa
