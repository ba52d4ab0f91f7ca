import Derived.Test.YtimaaaibpadlpaaZoneR2
import Derived.Test.YtimaaaibpadlpaaZone8
import Derived.Deep.DeepCutAuto
import Derived.Deep.CutBlock
namespace Go.Proofs.Ytimaaaibpadlpaa
set_option linter.unusedVariables false
set_option linter.unusedSimpArgs false
open Go.RowKit

/-- The result's block. -/
structure QAt (W : World) (r : Nat) (a0 a1 a2 a3 a4 : Value) : Prop where
  hb : W.heap[r]? = some (.cells #[a0, a1, a2, a3, a4] 51 (0, 0))
theorem QAt.cells {W : World} {r : Nat} {a0 a1 a2 a3 a4 : Value} (h : QAt W r a0 a1 a2 a3 a4) :
    W.cell? ⟨r, 0, none⟩ = some a0 ∧ W.cell? ⟨r, 1, none⟩ = some a1 ∧ W.cell? ⟨r, 2, none⟩ = some a2 ∧ W.cell? ⟨r, 3, none⟩ = some a3 ∧ W.cell? ⟨r, 4, none⟩ = some a4 ∧
    W.frozen? ⟨r, 0, none⟩ = false ∧ W.frozen? ⟨r, 1, none⟩ = false ∧ W.frozen? ⟨r, 2, none⟩ = false ∧ W.frozen? ⟨r, 3, none⟩ = false ∧ W.frozen? ⟨r, 4, none⟩ = false := by
  have hb := h.hb
  refine ⟨?_, ?_, ?_, ?_, ?_, ?_, ?_, ?_, ?_, ?_⟩ <;> simp [World.cell?, World.frozen?, hb]

/-- What Picked begins with: the result's block, then Find. -/
theorem rPicked_start (r : Nat) (s : RS) (loc : Int) (F A : Nat → Prop) (w : World) (h : RRep w F A r s) :
    RRep (w.alloc (.cells #[.int .u16 0, .int .u16 0, .int .u16 0, .int .i64 0, .int .i64 0] 51)) F A r s ∧ QAt (w.alloc (.cells #[.int .u16 0, .int .u16 0, .int .u16 0, .int .i64 0, .int .i64 0] 51)) w.heap.size (.int .u16 0) (.int .u16 0) (.int .u16 0) (.int .i64 0) (.int .i64 0) ∧
    (Calls Try.prog 27 #[.pointer (some ⟨r, 0, none⟩), .int .u16 loc] (w.alloc (.cells #[.int .u16 0, .int .u16 0, .int .u16 0, .int .i64 0, .int .i64 0] 51)) fun e w' => e = .returned (.int .i64 (lidx s.l loc)) ∧ (w.alloc (.cells #[.int .u16 0, .int .u16 0, .int .u16 0, .int .i64 0, .int .i64 0] 51)) = w') := by
  have h1 : RRep (w.alloc (.cells #[.int .u16 0, .int .u16 0, .int .u16 0, .int .i64 0, .int .i64 0] 51)) F A r s := h.move (by simp) (fun k hk hl => ⟨hk, Below.heap_alloc _ _ _ hl⟩) (fun k hk hl => ⟨hk, Below.heap_alloc _ _ _ hl⟩)
  exact ⟨h1, ⟨heap_alloc_new _ _⟩, rFind_any r loc F A s _ h1⟩

set_option maxHeartbeats 400000 in
theorem rPicked_none (r : Nat) (s : RS) (loc kind qty : Int) (hi : lidx s.l loc < 0) (F A : Nat → Prop) (w : World) (h : RRep w F A r s) :
    Calls Try.prog 17 #[.pointer (some ⟨r, 0, none⟩), .int .u16 loc, .int .u8 kind, .int .i64 qty] w fun e w' => e = .returned (pickNo 6) ∧ Keep none_ w w' := by
  obtain ⟨hr, hq, hf⟩ := rPicked_start r s loc F A w h
  have hk := (Keep.refl none_ w).alloc (.cells #[.int .u16 0, .int .u16 0, .int .u16 0, .int .i64 0, .int .i64 0] 51)
  have HF := Lib.hid hf
  have HQ := Lib.hid hq
  have HK := Lib.hid hk
  have hi1 : decide (lidx s.l loc < 0) = true := by simpa using hi
  clear h hf hq hk hr hi
  go_enter Try.func17, Try.ntmps17
  go_wp2_with (go_at_call 27; refine HF.out.mono ?_; rintro e w' ⟨rfl, rfl⟩)
  have hfin := HQ.out.hb
  have hk2 := HK.out
  generalize w.alloc (.cells #[.int .u16 0, .int .u16 0, .int .u16 0, .int .i64 0, .int .i64 0] 51) = W at hfin hk2 ⊢
  exact bodyPost_ret (v := pickNo 6) (by simp [results, Try.results17, go_sem, World.cell?, hfin, pickNo, pickV]) rfl ⟨rfl, hk2⟩

set_option maxHeartbeats 400000 in
theorem rPicked_kind (r : Nat) (s : RS) (loc kind qty : Int) (hi : 0 ≤ lidx s.l loc) (hk1 : kind ≠ 1) (hk2 : kind ≠ 2) (F A : Nat → Prop) (w : World) (h : RRep w F A r s) :
    Calls Try.prog 17 #[.pointer (some ⟨r, 0, none⟩), .int .u16 loc, .int .u8 kind, .int .i64 qty] w fun e w' => e = .returned (pickNo 1) ∧ Keep none_ w w' := by
  obtain ⟨hr, hq, hf⟩ := rPicked_start r s loc F A w h
  have hk := (Keep.refl none_ w).alloc (.cells #[.int .u16 0, .int .u16 0, .int .u16 0, .int .i64 0, .int .i64 0] 51)
  have HF := Lib.hid hf
  have HQ := Lib.hid hq
  have HK := Lib.hid hk
  have hi1 : decide (lidx s.l loc < 0) = false := by simpa using hi
  have b1 : (kind != 1) = true := by simpa using hk1
  have b2 : (kind != 2) = true := by simpa using hk2
  clear h hf hq hk hr hi hk1 hk2
  go_enter Try.func17, Try.ntmps17
  go_wp2_with (go_at_call 27; refine HF.out.mono ?_; rintro e w' ⟨rfl, rfl⟩)
  have hfin := HQ.out.hb
  have hk2 := HK.out
  generalize w.alloc (.cells #[.int .u16 0, .int .u16 0, .int .u16 0, .int .i64 0, .int .i64 0] 51) = W at hfin hk2 ⊢
  exact bodyPost_ret (v := pickNo 1) (by simp [results, Try.results17, go_sem, World.cell?, hfin, pickNo, pickV]) rfl ⟨rfl, hk2⟩

set_option maxHeartbeats 400000 in
theorem rPicked_low (r : Nat) (s : RS) (loc kind qty : Int) (hi : 0 ≤ lidx s.l loc) (hkd : (kind != 1) = false ∨ (kind != 1) = true ∧ (kind != 2) = false) (hq0 : qty < 0) (F A : Nat → Prop) (w : World) (h : RRep w F A r s) :
    Calls Try.prog 17 #[.pointer (some ⟨r, 0, none⟩), .int .u16 loc, .int .u8 kind, .int .i64 qty] w fun e w' => e = .returned (pickNo 10) ∧ Keep none_ w w' := by
  obtain ⟨hr, hq, hf⟩ := rPicked_start r s loc F A w h
  have hk := (Keep.refl none_ w).alloc (.cells #[.int .u16 0, .int .u16 0, .int .u16 0, .int .i64 0, .int .i64 0] 51)
  have HF := Lib.hid hf
  have HQ := Lib.hid hq
  have HK := Lib.hid hk
  have hi1 : decide (lidx s.l loc < 0) = false := by simpa using hi
  have b1 : decide (qty < 0) = true := by simpa using hq0
  clear h hf hq hk hr hi hq0
  rcases hkd with b2 | ⟨b2, b3⟩
  all_goals
    go_enter Try.func17, Try.ntmps17
    go_wp2_with (go_at_call 27; refine HF.out.mono ?_; rintro e w' ⟨rfl, rfl⟩)
    have hfin := HQ.out.hb
    have hk2 := HK.out
    generalize w.alloc (.cells #[.int .u16 0, .int .u16 0, .int .u16 0, .int .i64 0, .int .i64 0] 51) = W at hfin hk2 ⊢
    exact bodyPost_ret (v := pickNo 10) (by simp [results, Try.results17, go_sem, World.cell?, hfin, pickNo, pickV]) rfl ⟨rfl, hk2⟩

/-- What the loop has kept behind j lines: line k's quantity is q now; nothing is dropped. -/
def keptR (l : List Ln) (k : Nat) (x : Ln) (q : Int) (j : Nat) : List Ln := ((l.set k { x with qty := q }).take j).filter (fun y => decide (0 < y.qty))
theorem keptR_succ (l : List Ln) (k : Nat) (x : Ln) (q : Int) (j : Nat) (y : Ln) (h : (l.set k { x with qty := q })[j]? = some y) : keptR l k x q (j + 1) = if 0 < y.qty then keptR l k x q j ++ [y] else keptR l k x q j := by
  unfold keptR
  rw [List.take_add_one, h, List.filter_append]
  by_cases hq : 0 < y.qty
  · simp [hq]
  · simp [hq]
theorem keptR_len (l : List Ln) (k : Nat) (x : Ln) (q : Int) (j : Nat) : (keptR l k x q j).length ≤ j := by
  unfold keptR
  exact Nat.le_trans (List.length_filter_le ..) (List.length_take_le ..)

theorem rPicked_end {wc : World} {r qq : Nat} {a0 a1 a2 a3 b0 b1 b2 b3 b4 : Value} {T T' : TypeId} (sv c0 c1 c2 c3 c4 : Value) (hr : wc.heap[r]? = some (.cells #[a0, a1, a2, a3] T (0, 0))) (hq : wc.heap[qq]? = some (.cells #[b0, b1, b2, b3, b4] T' (0, 0))) (hne : qq ≠ r) :
    ∃ W : World, W = ((((((wc.setCell ⟨r, 3, none⟩ sv).setCell ⟨qq, 0, none⟩ c0).setCell ⟨qq, 1, none⟩ c1).setCell ⟨qq, 2, none⟩ c2).setCell ⟨qq, 3, none⟩ c3).setCell ⟨qq, 4, none⟩ c4) ∧ W.heap[r]? = some (.cells #[a0, a1, a2, sv] T (0, 0)) ∧ W.heap[qq]? = some (.cells #[c0, c1, c2, c3, c4] T' (0, 0)) ∧ Keep (fun k => k = r ∨ k = qq) wc W ∧ W.heap.size = wc.heap.size := by
  refine ⟨_, rfl, ?_, ?_, ?_, by simp⟩
  · have e := heap_setCell_same _ _ 3 _ _ sv hr
    exact (Below.heap_setCell _ ⟨qq, 4, none⟩ _ r hne.symm).trans ((Below.heap_setCell _ ⟨qq, 3, none⟩ _ r hne.symm).trans ((Below.heap_setCell _ ⟨qq, 2, none⟩ _ r hne.symm).trans ((Below.heap_setCell _ ⟨qq, 1, none⟩ _ r hne.symm).trans ((Below.heap_setCell _ ⟨qq, 0, none⟩ _ r hne.symm).trans e))))
  · have e0 : (wc.setCell ⟨r, 3, none⟩ sv).heap[qq]? = _ := (Below.heap_setCell wc ⟨r, 3, none⟩ sv qq hne).trans hq
    have e1 := heap_setCell_same _ _ 0 _ _ c0 e0
    have e2 := heap_setCell_same _ _ 1 _ _ c1 e1
    have e3 := heap_setCell_same _ _ 2 _ _ c2 e2
    have e4 := heap_setCell_same _ _ 3 _ _ c3 e3
    have e5 := heap_setCell_same _ _ 4 _ _ c4 e4
    rw [e5]; rfl
  · exact ((((((Keep.refl _ wc).setCell (p := ⟨r, 3, none⟩) (.inr (.inl rfl)) sv).setCell (p := ⟨qq, 0, none⟩) (.inr (.inr rfl)) c0).setCell (p := ⟨qq, 1, none⟩) (.inr (.inr rfl)) c1).setCell (p := ⟨qq, 2, none⟩) (.inr (.inr rfl)) c2).setCell (p := ⟨qq, 3, none⟩) (.inr (.inr rfl)) c3).setCell (p := ⟨qq, 4, none⟩) (.inr (.inr rfl)) c4

set_option maxHeartbeats 2000000 in
theorem rPicked_ok1 (r : Nat) (s : RS) (loc qty : Int) (k : Nat) (x : Ln) (hi : lidx s.l loc = k) (hx : s.l[k]? = some x) (hq0 : 0 ≤ qty) (hq1 : qty ≤ x.qty) (hq2 : x.qty ≤ 9223372036854775807) (hn : s.l.length ≤ 40)
    (F A : Nat → Prop) (w : World) (h : RRep w F A r s) (hA : ∀ q, A q → ¬ F q) (hFl : ∀ q, F q → q < w.heap.size) (hAl : ∀ q, A q → q < w.heap.size) :
    Calls Try.prog 17 #[.pointer (some ⟨r, 0, none⟩), .int .u16 loc, .int .u8 1, .int .i64 qty] w fun e w' => e = .returned (pickV s.tote loc x.item qty 0 0) ∧ Keep F w w' ∧ RRep w' (fresh F w w') A r { s with l := keptR s.l k x (x.qty - qty) s.l.length } := by
  obtain ⟨hr, hq, hf⟩ := rPicked_start r s loc F A w h
  rw [hi] at hf
  obtain ⟨locs, th, tt, l⟩ := s
  obtain ⟨hF, lv, wv, hb, h1, h2⟩ := hr
  simp only at hb h2 hx hn hi ⊢
  have hkl : k < l.length := (List.getElem?_eq_some_iff.1 hx).1
  obtain ⟨g, cp, rfl, hFg, hgw, hnc, hcm⟩ := h2.form (by omega)
  have a2 : (w.alloc (.cells #[.int .u16 0, .int .u16 0, .int .u16 0, .int .i64 0, .int .i64 0] 51)).cell? ⟨r, 2, none⟩ = some (.int .u16 tt) := by simp [World.cell?, hb]
  have a3 : (w.alloc (.cells #[.int .u16 0, .int .u16 0, .int .u16 0, .int .i64 0, .int .i64 0] 51)).cell? ⟨r, 3, none⟩ = some (.slice (some ⟨g, 0, none⟩) l.length cp) := by simp [World.cell?, hb]
  obtain ⟨e0, e1, e2⟩ := lns_get hx
  have c0 : (w.alloc (.cells #[.int .u16 0, .int .u16 0, .int .u16 0, .int .i64 0, .int .i64 0] 51)).cell? ⟨g, k * 3, none⟩ = some (.int .u16 x.item) := by rw [h2.1.cellAt _ (by omega)]; exact e0
  have c2 : (w.alloc (.cells #[.int .u16 0, .int .u16 0, .int .u16 0, .int .i64 0, .int .i64 0] 51)).cell? ⟨g, k * 3 + 2, none⟩ = some (.int .i64 x.qty) := by rw [h2.1.cellAt _ (by omega)]; exact e2
  have hkp := (Keep.refl F w).alloc (.cells #[.int .u16 0, .int .u16 0, .int .u16 0, .int .i64 0, .int .i64 0] 51)
  have HF := Lib.hid hf
  have HQ := Lib.hid hq
  have HB := Lib.hid hb
  have H1 := Lib.hid h1
  have H2 := Lib.hid h2
  have HK := Lib.hid hkp
  have HX := Lib.hid hx
  have HFL := Lib.hid hFl
  have HAL := Lib.hid hAl
  have HA := Lib.hid hA
  have hrw := lt_of_block hb
  unfold maxLen at hcm
  have hki : (k : Int) < l.length := by omega
  have hb1 : decide ((k : Int) < 0) = false := by simp
  have hb2 : decide (qty < 0) = false := by simpa using hq0
  have hb3 : decide (x.qty < qty) = false := by simp only [decide_eq_false_iff_not]; omega
  have hsub : IntKind.i64.wrap (x.qty - qty) = x.qty - qty := by rw [IntKind.wrap_i64]; omega
  have hs0 : 0 ≤ x.qty - qty := by omega
  have hs1 : x.qty - qty ≤ 9223372036854775807 := by omega
  have hrs : w.heap.size < (w.alloc (.cells #[.int .u16 0, .int .u16 0, .int .u16 0, .int .i64 0, .int .i64 0] 51)).heap.size := by simp
  clear h hf hq hb h1 h2 hkp hx hFl hAl hA e0 e1 e2 hi hsub
  go_enter Try.func17, Try.ntmps17
  go_wp2_with fail
  refine HF.out.mono ?_
  rintro e w' ⟨rfl, rfl⟩
  generalize w.alloc (.cells #[.int .u16 0, .int .u16 0, .int .u16 0, .int .i64 0, .int .i64 0] 51) = w0 at *
  clear HF
  go_wp2
  refine wp_sch [(0, 0), (0, 1), (0, 2), (0, 3), (0, 4), (0, 5), (0, 6), (0, 7), (0, 8), (0, 9), (0, 10), (0, 11), (0, 12), (0, 13), (0, 14), (1, 15), (2, 16)] [16] (fun W => W.cell? ⟨r, 2, none⟩ = some (.int .u16 tt) ∧ W.cell? ⟨r, 3, none⟩ = some (.slice (some ⟨g, 0, none⟩) l.length cp) ∧ W.cell? ⟨g, k * 3, none⟩ = some (.int .u16 x.item)) (by kernel_rfl) (by kernel_rfl) (by kernel_rfl) (fun _ _ d _ _ h => by cases d <;> exact h) ⟨a2, a3, c0⟩ ?_
  iterate 15
    refine sch_yield (v := ?_) rfl rfl (by rfl) ?_ ?_
    rotate_left
    · intro W hS
      obtain ⟨hS1, hS2, hS3⟩ := hS
      go_simp
      try with_reducible rfl
    simp only [Act.put, List.setIfInBounds_toArray, List.set_cons_zero, List.set_cons_succ]
  refine sch_run rfl (fun K hK => ?_)
  go_simp
  refine hK _ _ (by refine ⟨?_, ?_, ?_⟩ <;> go_keep) ?_
  clear hK K
  try simp only [Act.put, List.setIfInBounds_toArray, List.set_cons_zero, List.set_cons_succ]
  refine sch_store rfl (fun K hK => ?_)
  go_simp
  refine hK _ _ (sch_done ?_)
  clear hK K
  try simp only [Act.put, List.setIfInBounds_toArray, List.set_cons_zero, List.set_cons_succ]
  go_upto_block 0 with fail
  have hk1 := (HK.out.alloc (.cells #[.int .u16 tt, .int .u16 loc, .int .u16 x.item, .int .i64 qty, .int .i64 0] 51)).drew
  have hb1 : (w0.alloc (.cells #[.int .u16 tt, .int .u16 loc, .int .u16 x.item, .int .i64 qty, .int .i64 0] 51)).drew.heap[r]? = _ := (Below.heap_alloc w0 (.cells #[.int .u16 tt, .int .u16 loc, .int .u16 x.item, .int .i64 qty, .int .i64 0] 51) r hrw).trans HB.out
  have hp1 : QAt (w0.alloc (.cells #[.int .u16 tt, .int .u16 loc, .int .u16 x.item, .int .i64 qty, .int .i64 0] 51)).drew w0.heap.size (.int .u16 tt) (.int .u16 loc) (.int .u16 x.item) (.int .i64 qty) (.int .i64 0) := ⟨heap_alloc_new _ _⟩
  have hq1 : QAt (w0.alloc (.cells #[.int .u16 tt, .int .u16 loc, .int .u16 x.item, .int .i64 qty, .int .i64 0] 51)).drew w.heap.size (.int .u16 0) (.int .u16 0) (.int .u16 0) (.int .i64 0) (.int .i64 0) := ⟨(Below.heap_alloc w0 (.cells #[.int .u16 tt, .int .u16 loc, .int .u16 x.item, .int .i64 qty, .int .i64 0] 51) _ hrs).trans HQ.out.hb⟩
  have hl1 : SeesIn (w0.alloc (.cells #[.int .u16 tt, .int .u16 loc, .int .u16 x.item, .int .i64 qty, .int .i64 0] 51)).drew A 1 lv locs.length (ints .u16 locs) := H1.out.move (by simp) (fun q hq hl => ⟨hq, Below.heap_alloc _ _ _ hl⟩)
  have ho1 : Own (w0.alloc (.cells #[.int .u16 tt, .int .u16 loc, .int .u16 x.item, .int .i64 qty, .int .i64 0] 51)).drew F 27 3 (.slice (some ⟨g, 0, none⟩) l.length cp) l.length (lns l) := H2.out.move (fun q hq hl => ⟨hq, Below.heap_alloc _ _ _ hl⟩)
  have hs1 : (w0.alloc (.cells #[.int .u16 tt, .int .u16 loc, .int .u16 x.item, .int .i64 qty, .int .i64 0] 51)).drew.heap.size = w0.heap.size + 1 := by simp
  generalize (w0.alloc (.cells #[.int .u16 tt, .int .u16 loc, .int .u16 x.item, .int .i64 qty, .int .i64 0] 51)).drew = W1 at *
  generalize w0.heap.size = p at *
  have HK1 := Lib.hid hk1
  have HB1 := Lib.hid hb1
  have HP1 := Lib.hid hp1
  have HQ1 := Lib.hid hq1
  have HL1 := Lib.hid hl1
  have HO1 := Lib.hid ho1
  obtain ⟨i0, hi0, hz0, hz1, hz2⟩ := info_parts Try.infoLine
  clear hk1 hb1 hp1 hq1 hl1 ho1 HK HB HQ H1 H2 a2 a3 c0 c2
  generalize hlf : x.qty - qty = lf
  have HLF := Lib.hid hlf
  clear hlf
  go_cut [13] (fun v13 wx => Own wx (fun q => W1.heap.size ≤ q ∧ q < wx.heap.size) 27 3 v13 (keptR l k x lf l.length).length (lns (keptR l k x lf l.length)) ∧ Keep none_ W1 wx)
  case first =>
    go_wp2_with fail
    go_loopw [13, 14] (fun v13 i wr => ∃ j : Nat, j ≤ l.length ∧ i = .int .i64 j ∧ Own wr (fun q => W1.heap.size ≤ q ∧ q < wr.heap.size) 27 3 v13 (keptR l k x lf j).length (lns (keptR l k x lf j)) ∧ Keep none_ W1 wr) (fun _ i _ => l.length - (intOf i).toNat)
    case atStart => exact ⟨0, Nat.zero_le _, rfl, by simpa [keptR, lns] using Own.nil W1 _ _ _, Keep.refl _ _⟩
    case round =>
      obtain ⟨j, hj, rfl, ho, hkp⟩ := hrel
      have hb2 := (hkp.block r (lt_of_block HB1.out) (fun c => c)).trans HB1.out
      have a3 : wr.cell? ⟨r, 3, none⟩ = some (.slice (some ⟨g, 0, none⟩) l.length cp) := by simp [World.cell?, hb2]
      have hsz := hkp.size
      have HOO := Lib.hid ho
      have HKP := Lib.hid hkp
      clear hb2
      obtain ⟨sA, sc, rfl, hsn, hsm⟩ := ho.len
      by_cases hlt : j < l.length
      · obtain ⟨y, hy⟩ : ∃ y, l[j]? = some y := ⟨_, List.getElem?_eq_getElem hlt⟩
        obtain ⟨g', o, cp', e1, -, -, -, -, c0, c1, c2⟩ := sees_line (HO1.out.keep HKP.out (fun _ _ c => c)).sees hy
        simp only [Value.slice.injEq, Option.some.injEq, true_and] at e1
        obtain ⟨e1, rfl⟩ := e1
        injection e1 with e1 e2
        subst e1 e2
        simp only [Nat.zero_add] at c0 c1 c2
        have hki : (j : Int) < l.length := by omega
        have HY := Lib.hid hy
        clear hy ho hkp
        have hln := keptR_len l k x lf j
        have HM1 : Hid ((keptR l k x lf j).length + 1 ≤ maxLen) := by show _ ≤ _; unfold maxLen; omega
        have HM2 : Hid (((keptR l k x lf j).length + 1) * 16 ≤ 140737488355328) := by show _ ≤ _; omega
        clear hln
        by_cases hjk : j = k
        · have hbk : ((j : Int) == (k : Int)) = true := by simp [hjk]
          have hset : (l.set k { x with qty := lf })[j]? = some { y with qty := lf } := by
            subst hjk; have := HX.out.symm.trans HY.out; injection this with this; subst this; simp [hkl]
          have HK0 := Lib.hid (keptR_succ l k x lf j _ hset)
          clear hset hjk
          by_cases hp : 0 < lf
          · have hpb : decide (0 < lf) = true := by simpa using hp
            have HKS : Hid (keptR l k x lf (j + 1) = keptR l k x lf j ++ [{ y with qty := lf }]) := by show _ = _; rw [HK0.out, if_pos hp]
            clear hp
            go_wp2_with (at_builtin; refine wpList_push rfl (.tmp 97) (.tmp 99) 22 rfl 27 i0 _ 3 16 Try.underlying22 hi0 hz0 hz1 hz2 rfl (by decide) _ #[.int .u16 y.item, .int .u16 y.loc, .int .i64 lf] _ _ _ rfl (HOO.out.move (w' := wr.alloc (.cells #[.int .u16 y.item, .int .u16 y.loc, .int .i64 lf] 27)) (G := fun q => W1.heap.size ≤ q ∧ q < wr.heap.size) (fun q hq hl => ⟨hq, Below.heap_alloc _ _ _ hl⟩)) (by simp [Act.eval, Act.put]) rfl (by simp [Value.oneCell']) HM1.out HM2.out ?_; intro gg cap w5 ho5 hg5 hlt5; have HO5 := Lib.hid ho5; have HG5 := Lib.hid hg5; clear ho5 hg5)
            have hs5 := HG5.out.size
            simp at hs5
            refine ⟨⟨j + 1, by omega, by go_num, ?_, ?_⟩, by simp [intOf]; omega⟩
            · rw [HKS.out, List.length_append, lns_snoc]
              exact HO5.out.move (w' := w5) (fun q hq hl => ⟨⟨by rcases hq with h | h; exact (HOO.out.2.1 q h).1; simp at h; omega, hl⟩, rfl⟩)
            · exact ((HKP.out.alloc _).alloc _).grown HG5.out (fun q hq => .inl (HOO.out.2.1 q hq).1)
          · have hpb : decide (0 < lf) = false := by simpa using hp
            have HKS : Hid (keptR l k x lf (j + 1) = keptR l k x lf j) := by show _ = _; rw [HK0.out, if_neg hp]
            clear hp
            go_wp2_with fail
            refine ⟨⟨j + 1, by omega, by go_num, ?_, ?_⟩, by simp [intOf]; omega⟩
            · rw [HKS.out]
              exact HOO.out.move (fun q hq hl => ⟨⟨hq.1, by simp; omega⟩, Below.heap_alloc _ _ _ hl⟩)
            · exact HKP.out.alloc _
        · have hbk : ((j : Int) == (k : Int)) = false := by simp; omega
          have hset : (l.set k { x with qty := lf })[j]? = some y := by
            rw [List.getElem?_set_ne (fun e => hjk e.symm)]; exact HY.out
          have HK0 := Lib.hid (keptR_succ l k x lf j _ hset)
          clear hset hjk
          by_cases hp : 0 < y.qty
          · have hpb : decide (0 < y.qty) = true := by simpa using hp
            have HKS : Hid (keptR l k x lf (j + 1) = keptR l k x lf j ++ [y]) := by show _ = _; rw [HK0.out, if_pos hp]
            clear hp
            go_wp2_with (at_builtin; refine wpList_push rfl (.tmp 97) (.tmp 99) 22 rfl 27 i0 _ 3 16 Try.underlying22 hi0 hz0 hz1 hz2 rfl (by decide) _ #[.int .u16 y.item, .int .u16 y.loc, .int .i64 y.qty] _ _ _ rfl (HOO.out.move (w' := wr.alloc (.cells #[.int .u16 y.item, .int .u16 y.loc, .int .i64 y.qty] 27)) (G := fun q => W1.heap.size ≤ q ∧ q < wr.heap.size) (fun q hq hl => ⟨hq, Below.heap_alloc _ _ _ hl⟩)) (by simp [Act.eval, Act.put]) rfl (by simp [Value.oneCell']) HM1.out HM2.out ?_; intro gg cap w5 ho5 hg5 hlt5; have HO5 := Lib.hid ho5; have HG5 := Lib.hid hg5; clear ho5 hg5)
            have hs5 := HG5.out.size
            simp at hs5
            refine ⟨⟨j + 1, by omega, by go_num, ?_, ?_⟩, by simp [intOf]; omega⟩
            · rw [HKS.out, List.length_append, lns_snoc]
              exact HO5.out.move (w' := w5) (fun q hq hl => ⟨⟨by rcases hq with h | h; exact (HOO.out.2.1 q h).1; simp at h; omega, hl⟩, rfl⟩)
            · exact ((HKP.out.alloc _).alloc _).grown HG5.out (fun q hq => .inl (HOO.out.2.1 q hq).1)
          · have hpb : decide (0 < y.qty) = false := by simpa using hp
            have HKS : Hid (keptR l k x lf (j + 1) = keptR l k x lf j) := by show _ = _; rw [HK0.out, if_neg hp]
            clear hp
            go_wp2_with fail
            refine ⟨⟨j + 1, by omega, by go_num, ?_, ?_⟩, by simp [intOf]; omega⟩
            · rw [HKS.out]
              exact HOO.out.move (fun q hq hl => ⟨⟨hq.1, by simp; omega⟩, Below.heap_alloc _ _ _ hl⟩)
            · exact HKP.out.alloc _
      · have : j = l.length := by omega
        subst this
        go_wp2_with fail
        go_meet
        exact ⟨HOO.out, HKP.out⟩
  case rest =>
    obtain ⟨ho, hk⟩ := hcut
    have hb2 := (hk.block r (lt_of_block HB1.out) (fun c => c)).trans HB1.out
    have hw2 := hk.size
    have b2 := lt_of_block HB1.out
    have hp2 := (hk.block p (by omega) (fun c => c)).trans HP1.out.hb
    have hq2' := (hk.block w.heap.size (by omega) (fun c => c)).trans HQ1.out.hb
    have hwr : r < w.heap.size := HFL.out r hF
    have HL2 := Lib.hid (HL1.out.move (w' := wc) (G := A) hk.size (fun q hq hl => ⟨hq, hk.block q hl (fun c => c)⟩))
    have HK2 := Lib.hid (HK1.out.trans hk.none)
    have HO2 := Lib.hid ho
    have HB2 := Lib.hid hb2
    have HP2 := Lib.hid hp2
    have HQ2 := Lib.hid hq2'
    have f3 : wc.frozen? ⟨r, 3, none⟩ = false := by simp [World.frozen?, hb2]
    have a3 : wc.cell? ⟨r, 3, none⟩ = some (.slice (some ⟨g, 0, none⟩) l.length cp) := by simp [World.cell?, hb2]
    obtain ⟨sA, sc, rfl, hsn, hsm⟩ := ho.len
    have hne := ho.ne hb2 (by decide)
    have HNE := Lib.hid hne
    have hk1 := HK1.out.size
    have HK1' := Lib.hid hk
    obtain ⟨p0, p1, p2, p3, p4, -, -, -, -, -⟩ := QAt.cells ⟨hp2⟩
    obtain ⟨q0, q1, q2, q3, q4, z0, z1, z2, z3, z4⟩ := QAt.cells ⟨hq2'⟩
    clear ho hk hb2 hp2 hq2' hne
    generalize hqq : w.heap.size = qq at *
    have HQQ := Lib.hid hqq
    clear hqq
    have hrp : r ≠ p := by omega
    have hqr : qq ≠ r := by omega
    have hqp : qq ≠ p := by omega
    go_wp2_with fail
    obtain ⟨W, hW, w1, w2, w3, w4⟩ := rPicked_end (.slice sA (keptR l k x lf l.length).length sc) (.int .u16 tt) (.int .u16 loc) (.int .u16 x.item) (.int .i64 qty) (.int .i64 0) HB2.out HQ2.out hqr
    rw [← hW]
    clear hW
    have k3 : W.cell? ⟨qq, 0, none⟩ = some (.int .u16 tt) ∧ W.cell? ⟨qq, 1, none⟩ = some (.int .u16 loc) ∧ W.cell? ⟨qq, 2, none⟩ = some (.int .u16 x.item) ∧ W.cell? ⟨qq, 3, none⟩ = some (.int .i64 qty) ∧ W.cell? ⟨qq, 4, none⟩ = some (.int .i64 0) := by refine ⟨?_, ?_, ?_, ?_, ?_⟩ <;> simp [World.cell?, w2]
    obtain ⟨m0, m1, m2, m3, m4⟩ := k3
    refine bodyPost_ret (v := pickV tt loc x.item qty 0 0) (by simp [results, Try.results17, go_sem, m0, m1, m2, m3, m4, pickV]) rfl ⟨rfl, ?_, .inl hF, lv, _, w1, ?_, ?_⟩
    · exact HK2.out.trans (w3.mono (fun q hq => by rcases hq with h | h; exact Or.inl (h ▸ hF); exact Or.inr (by rw [HQQ.out, h]; exact Nat.le_refl _)))
    · exact HL2.out.move w3.size (fun q hq hl => ⟨hq, w3.block q hl (by rintro (rfl | rfl); exact HA.out _ hq hF; exact Nat.lt_irrefl _ (HAL.out _ hq))⟩)
    · rw [HLF.out]
      exact HO2.out.move (fun q hq hl => ⟨.inr ⟨by rw [HQQ.out]; omega, by rw [w4]; exact hq.2⟩, w3.block q hl (by rintro (rfl | rfl) <;> omega)⟩)
set_option maxHeartbeats 2000000 in
theorem rPicked_ok2 (r : Nat) (s : RS) (loc qty : Int) (k : Nat) (x : Ln) (hi : lidx s.l loc = k) (hx : s.l[k]? = some x) (hq0 : 0 ≤ qty) (hq1 : qty ≤ x.qty) (hq2 : x.qty ≤ 9223372036854775807) (hn : s.l.length ≤ 40)
    (F A : Nat → Prop) (w : World) (h : RRep w F A r s) (hA : ∀ q, A q → ¬ F q) (hFl : ∀ q, F q → q < w.heap.size) (hAl : ∀ q, A q → q < w.heap.size) :
    Calls Try.prog 17 #[.pointer (some ⟨r, 0, none⟩), .int .u16 loc, .int .u8 2, .int .i64 qty] w fun e w' => e = .returned (pickV s.tote loc x.item qty (x.qty - qty) 0) ∧ Keep F w w' ∧ RRep w' (fresh F w w') A r { s with l := keptR s.l k x 0 s.l.length } := by
  obtain ⟨hr, hq, hf⟩ := rPicked_start r s loc F A w h
  rw [hi] at hf
  obtain ⟨locs, th, tt, l⟩ := s
  obtain ⟨hF, lv, wv, hb, h1, h2⟩ := hr
  simp only at hb h2 hx hn hi ⊢
  have hkl : k < l.length := (List.getElem?_eq_some_iff.1 hx).1
  obtain ⟨g, cp, rfl, hFg, hgw, hnc, hcm⟩ := h2.form (by omega)
  have a2 : (w.alloc (.cells #[.int .u16 0, .int .u16 0, .int .u16 0, .int .i64 0, .int .i64 0] 51)).cell? ⟨r, 2, none⟩ = some (.int .u16 tt) := by simp [World.cell?, hb]
  have a3 : (w.alloc (.cells #[.int .u16 0, .int .u16 0, .int .u16 0, .int .i64 0, .int .i64 0] 51)).cell? ⟨r, 3, none⟩ = some (.slice (some ⟨g, 0, none⟩) l.length cp) := by simp [World.cell?, hb]
  obtain ⟨e0, e1, e2⟩ := lns_get hx
  have c0 : (w.alloc (.cells #[.int .u16 0, .int .u16 0, .int .u16 0, .int .i64 0, .int .i64 0] 51)).cell? ⟨g, k * 3, none⟩ = some (.int .u16 x.item) := by rw [h2.1.cellAt _ (by omega)]; exact e0
  have c2 : (w.alloc (.cells #[.int .u16 0, .int .u16 0, .int .u16 0, .int .i64 0, .int .i64 0] 51)).cell? ⟨g, k * 3 + 2, none⟩ = some (.int .i64 x.qty) := by rw [h2.1.cellAt _ (by omega)]; exact e2
  have hkp := (Keep.refl F w).alloc (.cells #[.int .u16 0, .int .u16 0, .int .u16 0, .int .i64 0, .int .i64 0] 51)
  have HF := Lib.hid hf
  have HQ := Lib.hid hq
  have HB := Lib.hid hb
  have H1 := Lib.hid h1
  have H2 := Lib.hid h2
  have HK := Lib.hid hkp
  have HX := Lib.hid hx
  have HFL := Lib.hid hFl
  have HAL := Lib.hid hAl
  have HA := Lib.hid hA
  have hrw := lt_of_block hb
  unfold maxLen at hcm
  have hki : (k : Int) < l.length := by omega
  have hb1 : decide ((k : Int) < 0) = false := by simp
  have hb2 : decide (qty < 0) = false := by simpa using hq0
  have hb3 : decide (x.qty < qty) = false := by simp only [decide_eq_false_iff_not]; omega
  have hsub : IntKind.i64.wrap (x.qty - qty) = x.qty - qty := by rw [IntKind.wrap_i64]; omega
  have hs0 : 0 ≤ x.qty - qty := by omega
  have hs1 : x.qty - qty ≤ 9223372036854775807 := by omega
  have hrs : w.heap.size < (w.alloc (.cells #[.int .u16 0, .int .u16 0, .int .u16 0, .int .i64 0, .int .i64 0] 51)).heap.size := by simp
  clear h hf hq hb h1 h2 hkp hx hFl hAl hA e0 e1 e2 hi hsub
  go_enter Try.func17, Try.ntmps17
  go_wp2_with fail
  refine HF.out.mono ?_
  rintro e w' ⟨rfl, rfl⟩
  generalize w.alloc (.cells #[.int .u16 0, .int .u16 0, .int .u16 0, .int .i64 0, .int .i64 0] 51) = w0 at *
  clear HF
  go_wp2
  refine wp_sch [(0, 0), (0, 1), (0, 2), (0, 3), (0, 4), (0, 5), (0, 6), (0, 7), (0, 8), (0, 9), (0, 10), (0, 11), (0, 12), (0, 13), (0, 14), (1, 15), (2, 16)] [16] (fun W => W.cell? ⟨r, 2, none⟩ = some (.int .u16 tt) ∧ W.cell? ⟨r, 3, none⟩ = some (.slice (some ⟨g, 0, none⟩) l.length cp) ∧ W.cell? ⟨g, k * 3, none⟩ = some (.int .u16 x.item)) (by kernel_rfl) (by kernel_rfl) (by kernel_rfl) (fun _ _ d _ _ h => by cases d <;> exact h) ⟨a2, a3, c0⟩ ?_
  iterate 15
    refine sch_yield (v := ?_) rfl rfl (by rfl) ?_ ?_
    rotate_left
    · intro W hS
      obtain ⟨hS1, hS2, hS3⟩ := hS
      go_simp
      try with_reducible rfl
    simp only [Act.put, List.setIfInBounds_toArray, List.set_cons_zero, List.set_cons_succ]
  refine sch_run rfl (fun K hK => ?_)
  go_simp
  refine hK _ _ (by refine ⟨?_, ?_, ?_⟩ <;> go_keep) ?_
  clear hK K
  try simp only [Act.put, List.setIfInBounds_toArray, List.set_cons_zero, List.set_cons_succ]
  refine sch_store rfl (fun K hK => ?_)
  go_simp
  refine hK _ _ (sch_done ?_)
  clear hK K
  try simp only [Act.put, List.setIfInBounds_toArray, List.set_cons_zero, List.set_cons_succ]
  go_upto_block 0 with fail
  have hk1 := (HK.out.alloc (.cells #[.int .u16 tt, .int .u16 loc, .int .u16 x.item, .int .i64 qty, .int .i64 (x.qty - qty)] 51)).drew
  have hb1 : (w0.alloc (.cells #[.int .u16 tt, .int .u16 loc, .int .u16 x.item, .int .i64 qty, .int .i64 (x.qty - qty)] 51)).drew.heap[r]? = _ := (Below.heap_alloc w0 (.cells #[.int .u16 tt, .int .u16 loc, .int .u16 x.item, .int .i64 qty, .int .i64 (x.qty - qty)] 51) r hrw).trans HB.out
  have hp1 : QAt (w0.alloc (.cells #[.int .u16 tt, .int .u16 loc, .int .u16 x.item, .int .i64 qty, .int .i64 (x.qty - qty)] 51)).drew w0.heap.size (.int .u16 tt) (.int .u16 loc) (.int .u16 x.item) (.int .i64 qty) (.int .i64 (x.qty - qty)) := ⟨heap_alloc_new _ _⟩
  have hq1 : QAt (w0.alloc (.cells #[.int .u16 tt, .int .u16 loc, .int .u16 x.item, .int .i64 qty, .int .i64 (x.qty - qty)] 51)).drew w.heap.size (.int .u16 0) (.int .u16 0) (.int .u16 0) (.int .i64 0) (.int .i64 0) := ⟨(Below.heap_alloc w0 (.cells #[.int .u16 tt, .int .u16 loc, .int .u16 x.item, .int .i64 qty, .int .i64 (x.qty - qty)] 51) _ hrs).trans HQ.out.hb⟩
  have hl1 : SeesIn (w0.alloc (.cells #[.int .u16 tt, .int .u16 loc, .int .u16 x.item, .int .i64 qty, .int .i64 (x.qty - qty)] 51)).drew A 1 lv locs.length (ints .u16 locs) := H1.out.move (by simp) (fun q hq hl => ⟨hq, Below.heap_alloc _ _ _ hl⟩)
  have ho1 : Own (w0.alloc (.cells #[.int .u16 tt, .int .u16 loc, .int .u16 x.item, .int .i64 qty, .int .i64 (x.qty - qty)] 51)).drew F 27 3 (.slice (some ⟨g, 0, none⟩) l.length cp) l.length (lns l) := H2.out.move (fun q hq hl => ⟨hq, Below.heap_alloc _ _ _ hl⟩)
  have hs1 : (w0.alloc (.cells #[.int .u16 tt, .int .u16 loc, .int .u16 x.item, .int .i64 qty, .int .i64 (x.qty - qty)] 51)).drew.heap.size = w0.heap.size + 1 := by simp
  generalize (w0.alloc (.cells #[.int .u16 tt, .int .u16 loc, .int .u16 x.item, .int .i64 qty, .int .i64 (x.qty - qty)] 51)).drew = W1 at *
  generalize w0.heap.size = p at *
  have HK1 := Lib.hid hk1
  have HB1 := Lib.hid hb1
  have HP1 := Lib.hid hp1
  have HQ1 := Lib.hid hq1
  have HL1 := Lib.hid hl1
  have HO1 := Lib.hid ho1
  obtain ⟨i0, hi0, hz0, hz1, hz2⟩ := info_parts Try.infoLine
  clear hk1 hb1 hp1 hq1 hl1 ho1 HK HB HQ H1 H2 a2 a3 c0 c2
  obtain ⟨lf, hlf⟩ : ∃ lf : Int, (0 : Int) = lf := ⟨0, rfl⟩
  have HLF := Lib.hid hlf
  clear hlf
  go_cut [13] (fun v13 wx => Own wx (fun q => W1.heap.size ≤ q ∧ q < wx.heap.size) 27 3 v13 (keptR l k x lf l.length).length (lns (keptR l k x lf l.length)) ∧ Keep none_ W1 wx)
  case first =>
    go_wp2_with fail
    go_loopw [13, 14] (fun v13 i wr => ∃ j : Nat, j ≤ l.length ∧ i = .int .i64 j ∧ Own wr (fun q => W1.heap.size ≤ q ∧ q < wr.heap.size) 27 3 v13 (keptR l k x lf j).length (lns (keptR l k x lf j)) ∧ Keep none_ W1 wr) (fun _ i _ => l.length - (intOf i).toNat)
    case atStart => exact ⟨0, Nat.zero_le _, rfl, by simpa [keptR, lns] using Own.nil W1 _ _ _, Keep.refl _ _⟩
    case round =>
      obtain ⟨j, hj, rfl, ho, hkp⟩ := hrel
      have hb2 := (hkp.block r (lt_of_block HB1.out) (fun c => c)).trans HB1.out
      have a3 : wr.cell? ⟨r, 3, none⟩ = some (.slice (some ⟨g, 0, none⟩) l.length cp) := by simp [World.cell?, hb2]
      have hsz := hkp.size
      have HOO := Lib.hid ho
      have HKP := Lib.hid hkp
      clear hb2
      obtain ⟨sA, sc, rfl, hsn, hsm⟩ := ho.len
      by_cases hlt : j < l.length
      · obtain ⟨y, hy⟩ : ∃ y, l[j]? = some y := ⟨_, List.getElem?_eq_getElem hlt⟩
        obtain ⟨g', o, cp', e1, -, -, -, -, c0, c1, c2⟩ := sees_line (HO1.out.keep HKP.out (fun _ _ c => c)).sees hy
        simp only [Value.slice.injEq, Option.some.injEq, true_and] at e1
        obtain ⟨e1, rfl⟩ := e1
        injection e1 with e1 e2
        subst e1 e2
        simp only [Nat.zero_add] at c0 c1 c2
        have hki : (j : Int) < l.length := by omega
        have HY := Lib.hid hy
        clear hy ho hkp
        have hln := keptR_len l k x lf j
        have HM1 : Hid ((keptR l k x lf j).length + 1 ≤ maxLen) := by show _ ≤ _; unfold maxLen; omega
        have HM2 : Hid (((keptR l k x lf j).length + 1) * 16 ≤ 140737488355328) := by show _ ≤ _; omega
        clear hln
        by_cases hjk : j = k
        · have hbk : ((j : Int) == (k : Int)) = true := by simp [hjk]
          have hset : (l.set k { x with qty := lf })[j]? = some { y with qty := lf } := by
            subst hjk; have := HX.out.symm.trans HY.out; injection this with this; subst this; simp [hkl]
          have HK0 := Lib.hid (keptR_succ l k x lf j _ hset)
          clear hset hjk
          by_cases hp : 0 < lf
          · exact absurd hp (by rw [← HLF.out]; decide)
          · have hpb : decide (0 < lf) = false := by simpa using hp
            have HKS : Hid (keptR l k x lf (j + 1) = keptR l k x lf j) := by show _ = _; rw [HK0.out, if_neg hp]
            clear hp
            go_wp2_with fail
            refine ⟨⟨j + 1, by omega, by go_num, ?_, ?_⟩, by simp [intOf]; omega⟩
            · rw [HKS.out]
              exact HOO.out.move (fun q hq hl => ⟨⟨hq.1, by simp; omega⟩, Below.heap_alloc _ _ _ hl⟩)
            · exact HKP.out.alloc _
        · have hbk : ((j : Int) == (k : Int)) = false := by simp; omega
          have hset : (l.set k { x with qty := lf })[j]? = some y := by
            rw [List.getElem?_set_ne (fun e => hjk e.symm)]; exact HY.out
          have HK0 := Lib.hid (keptR_succ l k x lf j _ hset)
          clear hset hjk
          by_cases hp : 0 < y.qty
          · have hpb : decide (0 < y.qty) = true := by simpa using hp
            have HKS : Hid (keptR l k x lf (j + 1) = keptR l k x lf j ++ [y]) := by show _ = _; rw [HK0.out, if_pos hp]
            clear hp
            go_wp2_with (at_builtin; refine wpList_push rfl (.tmp 97) (.tmp 99) 22 rfl 27 i0 _ 3 16 Try.underlying22 hi0 hz0 hz1 hz2 rfl (by decide) _ #[.int .u16 y.item, .int .u16 y.loc, .int .i64 y.qty] _ _ _ rfl (HOO.out.move (w' := wr.alloc (.cells #[.int .u16 y.item, .int .u16 y.loc, .int .i64 y.qty] 27)) (G := fun q => W1.heap.size ≤ q ∧ q < wr.heap.size) (fun q hq hl => ⟨hq, Below.heap_alloc _ _ _ hl⟩)) (by simp [Act.eval, Act.put]) rfl (by simp [Value.oneCell']) HM1.out HM2.out ?_; intro gg cap w5 ho5 hg5 hlt5; have HO5 := Lib.hid ho5; have HG5 := Lib.hid hg5; clear ho5 hg5)
            have hs5 := HG5.out.size
            simp at hs5
            refine ⟨⟨j + 1, by omega, by go_num, ?_, ?_⟩, by simp [intOf]; omega⟩
            · rw [HKS.out, List.length_append, lns_snoc]
              exact HO5.out.move (w' := w5) (fun q hq hl => ⟨⟨by rcases hq with h | h; exact (HOO.out.2.1 q h).1; simp at h; omega, hl⟩, rfl⟩)
            · exact ((HKP.out.alloc _).alloc _).grown HG5.out (fun q hq => .inl (HOO.out.2.1 q hq).1)
          · have hpb : decide (0 < y.qty) = false := by simpa using hp
            have HKS : Hid (keptR l k x lf (j + 1) = keptR l k x lf j) := by show _ = _; rw [HK0.out, if_neg hp]
            clear hp
            go_wp2_with fail
            refine ⟨⟨j + 1, by omega, by go_num, ?_, ?_⟩, by simp [intOf]; omega⟩
            · rw [HKS.out]
              exact HOO.out.move (fun q hq hl => ⟨⟨hq.1, by simp; omega⟩, Below.heap_alloc _ _ _ hl⟩)
            · exact HKP.out.alloc _
      · have : j = l.length := by omega
        subst this
        go_wp2_with fail
        go_meet
        exact ⟨HOO.out, HKP.out⟩
  case rest =>
    obtain ⟨ho, hk⟩ := hcut
    have hb2 := (hk.block r (lt_of_block HB1.out) (fun c => c)).trans HB1.out
    have hw2 := hk.size
    have b2 := lt_of_block HB1.out
    have hp2 := (hk.block p (by omega) (fun c => c)).trans HP1.out.hb
    have hq2' := (hk.block w.heap.size (by omega) (fun c => c)).trans HQ1.out.hb
    have hwr : r < w.heap.size := HFL.out r hF
    have HL2 := Lib.hid (HL1.out.move (w' := wc) (G := A) hk.size (fun q hq hl => ⟨hq, hk.block q hl (fun c => c)⟩))
    have HK2 := Lib.hid (HK1.out.trans hk.none)
    have HO2 := Lib.hid ho
    have HB2 := Lib.hid hb2
    have HP2 := Lib.hid hp2
    have HQ2 := Lib.hid hq2'
    have f3 : wc.frozen? ⟨r, 3, none⟩ = false := by simp [World.frozen?, hb2]
    have a3 : wc.cell? ⟨r, 3, none⟩ = some (.slice (some ⟨g, 0, none⟩) l.length cp) := by simp [World.cell?, hb2]
    obtain ⟨sA, sc, rfl, hsn, hsm⟩ := ho.len
    have hne := ho.ne hb2 (by decide)
    have HNE := Lib.hid hne
    have hk1 := HK1.out.size
    have HK1' := Lib.hid hk
    obtain ⟨p0, p1, p2, p3, p4, -, -, -, -, -⟩ := QAt.cells ⟨hp2⟩
    obtain ⟨q0, q1, q2, q3, q4, z0, z1, z2, z3, z4⟩ := QAt.cells ⟨hq2'⟩
    clear ho hk hb2 hp2 hq2' hne
    generalize hqq : w.heap.size = qq at *
    have HQQ := Lib.hid hqq
    clear hqq
    have hrp : r ≠ p := by omega
    have hqr : qq ≠ r := by omega
    have hqp : qq ≠ p := by omega
    go_wp2_with fail
    obtain ⟨W, hW, w1, w2, w3, w4⟩ := rPicked_end (.slice sA (keptR l k x lf l.length).length sc) (.int .u16 tt) (.int .u16 loc) (.int .u16 x.item) (.int .i64 qty) (.int .i64 (x.qty - qty)) HB2.out HQ2.out hqr
    rw [← hW]
    clear hW
    have k3 : W.cell? ⟨qq, 0, none⟩ = some (.int .u16 tt) ∧ W.cell? ⟨qq, 1, none⟩ = some (.int .u16 loc) ∧ W.cell? ⟨qq, 2, none⟩ = some (.int .u16 x.item) ∧ W.cell? ⟨qq, 3, none⟩ = some (.int .i64 qty) ∧ W.cell? ⟨qq, 4, none⟩ = some (.int .i64 (x.qty - qty)) := by refine ⟨?_, ?_, ?_, ?_, ?_⟩ <;> simp [World.cell?, w2]
    obtain ⟨m0, m1, m2, m3, m4⟩ := k3
    refine bodyPost_ret (v := pickV tt loc x.item qty (x.qty - qty) 0) (by simp [results, Try.results17, go_sem, m0, m1, m2, m3, m4, pickV]) rfl ⟨rfl, ?_, .inl hF, lv, _, w1, ?_, ?_⟩
    · exact HK2.out.trans (w3.mono (fun q hq => by rcases hq with h | h; exact Or.inl (h ▸ hF); exact Or.inr (by rw [HQQ.out, h]; exact Nat.le_refl _)))
    · exact HL2.out.move w3.size (fun q hq hl => ⟨hq, w3.block q hl (by rintro (rfl | rfl); exact HA.out _ hq hF; exact Nat.lt_irrefl _ (HAL.out _ hq))⟩)
    · rw [HLF.out]
      exact HO2.out.move (fun q hq hl => ⟨.inr ⟨by rw [HQQ.out]; omega, by rw [w4]; exact hq.2⟩, w3.block q hl (by rintro (rfl | rfl) <;> omega)⟩)
end Go.Proofs.Ytimaaaibpadlpaa
