import Derived.Test.YtimaaaibpadlpaaZone3
namespace Go.Proofs.Ytimaaaibpadlpaa
set_option linter.unusedVariables false
set_option linter.unusedSimpArgs false
open Go.RowKit

/-- a Pick, and an error -/
def pickV (t lc it q sh e : Int) : Value := .tuple #[.agg #[.int .u16 t, .int .u16 lc, .int .u16 it, .int .i64 q, .int .i64 sh], .int .i64 e]
def pickNo (e : Int) : Value := pickV 0 0 0 0 0 e

def put5 (w : World) (b : Nat) (a0 a1 a2 a3 a4 : Value) : World := ((((w.setCell ⟨b, 0, none⟩ a0).setCell ⟨b, 1, none⟩ a1).setCell ⟨b, 2, none⟩ a2).setCell ⟨b, 3, none⟩ a3).setCell ⟨b, 4, none⟩ a4
theorem put5_heap {w : World} {b : Nat} {x0 x1 x2 x3 x4 : Value} {T : TypeId} (h : w.heap[b]? = some (.cells #[x0, x1, x2, x3, x4] T (0, 0))) (a0 a1 a2 a3 a4 : Value) : (put5 w b a0 a1 a2 a3 a4).heap[b]? = some (.cells #[a0, a1, a2, a3, a4] T (0, 0)) := by
  have e0 := heap_setCell_same _ _ 0 _ _ a0 h
  have e1 := heap_setCell_same _ _ 1 _ _ a1 e0
  have e2 := heap_setCell_same _ _ 2 _ _ a2 e1
  have e3 := heap_setCell_same _ _ 3 _ _ a3 e2
  have e4 := heap_setCell_same _ _ 4 _ _ a4 e3
  exact e4
theorem put5_keep {F : Nat → Prop} {a w : World} {b : Nat} (h : Keep F a w) (hb : a.heap.size ≤ b ∨ F b) (a0 a1 a2 a3 a4 : Value) : Keep F a (put5 w b a0 a1 a2 a3 a4) :=
  ((((h.setCell (p := ⟨b, 0, none⟩) hb _).setCell (p := ⟨b, 1, none⟩) hb _).setCell (p := ⟨b, 2, none⟩) hb _).setCell (p := ⟨b, 3, none⟩) hb _).setCell (p := ⟨b, 4, none⟩) hb _

theorem picked_none (z : Nat) (s : ZS) (loc kind qty : Int) (F : Nat → Prop) (w : World) (h : ZRep w F z s) (hi : vidx s.visit loc < 0) :
    Calls Try.prog 14 #[.pointer (some ⟨z, 0, none⟩), .int .u16 loc, .int .u8 kind, .int .i64 qty] w fun e w' => e = .returned (pickNo 6) ∧ Keep none_ w w' := by
  obtain ⟨hF, V, lv, hb, h1, h2⟩ := h
  have hz := lt_of_block hb
  have c0 : (w.alloc (.cells #[.int .u16 0, .int .u16 0, .int .u16 0, .int .i64 0, .int .i64 0] 41)).cell? ⟨z, 0, none⟩ = some V := by
    rw [World.cell?_alloc_past _ _ _ hz]; simp only [World.cell?, hb]; rfl
  have HP := Lib.hid (place_any V s.visit loc F _ (h2.move (w' := w.alloc (.cells #[.int .u16 0, .int .u16 0, .int .u16 0, .int .i64 0, .int .i64 0] 41)) (fun k hk hl => ⟨hk, Below.heap_alloc _ _ _ hl⟩)))
  have hx1 : decide (vidx s.visit loc < 0) = true := by simpa using hi
  have HR : Hid (∀ w' : World, Keep none_ (w.alloc (.cells #[.int .u16 0, .int .u16 0, .int .u16 0, .int .i64 0, .int .i64 0] 41)) w' → w'.heap[w.heap.size]? = some (.cells #[.int .u16 0, .int .u16 0, .int .u16 0, .int .i64 0, .int .i64 0] 41 (0, 0))) := fun w' hk => (hk.block _ (by simp) (fun c => c)).trans (heap_alloc_new _ _)
  clear h1 h2 hb hF hi
  go_enter Try.func14, Try.ntmps14
  go_wp2_with (go_at_call 23; refine HP.out.mono ?_; rintro e w' ⟨rfl, hkp⟩; have hr := HR.out w' hkp; have r0 : w'.cell? ⟨w.heap.size, 0, none⟩ = some (.int .u16 0) := (by simp [World.cell?, hr]); have r1 : w'.cell? ⟨w.heap.size, 1, none⟩ = some (.int .u16 0) := (by simp [World.cell?, hr]); have r2 : w'.cell? ⟨w.heap.size, 2, none⟩ = some (.int .u16 0) := (by simp [World.cell?, hr]); have r3 : w'.cell? ⟨w.heap.size, 3, none⟩ = some (.int .i64 0) := (by simp [World.cell?, hr]); have r4 : w'.cell? ⟨w.heap.size, 4, none⟩ = some (.int .i64 0) := (by simp [World.cell?, hr]); have q0 : w'.frozen? ⟨w.heap.size, 0, none⟩ = false := (by simp [World.frozen?, hr]); have q1 : w'.frozen? ⟨w.heap.size, 1, none⟩ = false := (by simp [World.frozen?, hr]); have q2 : w'.frozen? ⟨w.heap.size, 2, none⟩ = false := (by simp [World.frozen?, hr]); have q3 : w'.frozen? ⟨w.heap.size, 3, none⟩ = false := (by simp [World.frozen?, hr]); have q4 : w'.frozen? ⟨w.heap.size, 4, none⟩ = false := (by simp [World.frozen?, hr]); have HRR := Lib.hid hr; clear hr)
  have hfin := put5_heap HRR.out (.int .u16 0) (.int .u16 0) (.int .u16 0) (.int .i64 0) (.int .i64 0)
  have hk2 := put5_keep ((Keep.refl none_ w).alloc _ |>.next hkp) (b := w.heap.size) (.inl (Nat.le_refl _)) (.int .u16 0) (.int .u16 0) (.int .u16 0) (.int .i64 0) (.int .i64 0)
  change bodyPost _ _ _ _ _ (put5 w' w.heap.size (.int .u16 0) (.int .u16 0) (.int .u16 0) (.int .i64 0) (.int .i64 0))
  generalize put5 w' w.heap.size (.int .u16 0) (.int .u16 0) (.int .u16 0) (.int .i64 0) (.int .i64 0) = W at hfin hk2 ⊢
  exact bodyPost_ret (v := pickNo 6) (by simp [results, Try.results14, go_sem, World.cell?, hfin, pickNo, pickV]) rfl ⟨rfl, hk2⟩

theorem idx_some {l : List Int} {x : Int} (h : 0 ≤ idx l x) : ∃ k : Nat, idx l x = k ∧ l[k]? = some x := by
  unfold idx at h ⊢
  cases hi : l.idxOf? x with
  | none => simp [hi] at h
  | some i =>
    refine ⟨i, rfl, ?_⟩
    rw [List.idxOf?, List.findIdx?_eq_some_iff_getElem] at hi
    obtain ⟨h1, h2, -⟩ := hi
    have : l[i] = x := by simpa using h2
    rw [List.getElem?_eq_getElem h1, this]
theorem lidx_some {l : List Ln} {loc : Int} (h : 0 ≤ lidx l loc) : ∃ (k : Nat) (x : Ln), lidx l loc = k ∧ l[k]? = some x ∧ x.loc = loc := by
  obtain ⟨k, h1, h2⟩ := idx_some h
  rw [List.getElem?_map] at h2
  cases hx : l[k]? with
  | none => rw [hx] at h2; simp at h2
  | some x => rw [hx] at h2; exact ⟨k, x, h1, hx, by simpa using h2⟩

/-- A zone with a tote that wants something, block by block. -/
structure ZAt (W : World) (F : Nat → Prop) (z v g cap : Nat) (t : Int) (l : List Ln) (locs : List Int) (lv : Value) : Prop where
  Fz : F z
  Fv : F v
  hz : W.heap[z]? = some (.cells #[.pointer (some ⟨v, 0, none⟩), lv] 36 (0, 0))
  hv : W.heap[v]? = some (.cells #[.int .u16 t, .slice (some ⟨g, 0, none⟩) l.length cap] 64 (0, 0))
  hl : Own W F 25 1 lv locs.length (ints .u16 locs)
  ho : Own W F 27 3 (.slice (some ⟨g, 0, none⟩) l.length cap) l.length (lns l)
theorem ZAt.move {W W' : World} {F G : Nat → Prop} {z v g cap : Nat} {t : Int} {l : List Ln} {locs : List Int} {lv : Value} (h : ZAt W F z v g cap t l locs lv) (hk : ∀ k, F k → k < W.heap.size → G k ∧ W'.heap[k]? = W.heap[k]?) : ZAt W' G z v g cap t l locs lv :=
  ⟨(hk z h.Fz (lt_of_block h.hz)).1, (hk v h.Fv (lt_of_block h.hv)).1, ((hk z h.Fz (lt_of_block h.hz)).2).trans h.hz, ((hk v h.Fv (lt_of_block h.hv)).2).trans h.hv, h.hl.move hk, h.ho.move hk⟩
theorem ZAt.rep {W : World} {F : Nat → Prop} {z v g cap : Nat} {t : Int} {l : List Ln} {locs : List Int} {lv : Value} (h : ZAt W F z v g cap t l locs lv) : ZRep W F z ⟨locs, some (t, l)⟩ :=
  ⟨h.Fz, _, lv, h.hz, h.hl, v, _, rfl, h.Fv, h.hv, h.ho⟩
theorem ZRep.at_ {W : World} {F : Nat → Prop} {z : Nat} {t : Int} {l : List Ln} {locs : List Int} (h : ZRep W F z ⟨locs, some (t, l)⟩) (hl : 0 < l.length) : ∃ v g cap lv, ZAt W F z v g cap t l locs lv := by
  obtain ⟨hF, V, lv, hb, h1, v, wv, rfl, hFv, hbv, ho⟩ := h
  obtain ⟨g, c, rfl, hg⟩ := ho.form hl
  exact ⟨v, g, c, lv, hF, hFv, hb, hbv, h1, ho⟩
/-- The cells that Picked looks at. -/
theorem ZAt.cells {W : World} {F : Nat → Prop} {z v g cap : Nat} {t : Int} {l : List Ln} {locs : List Int} {lv : Value} (h : ZAt W F z v g cap t l locs lv) {k : Nat} {x : Ln} (hx : l[k]? = some x) :
    W.cell? ⟨z, 0, none⟩ = some (.pointer (some ⟨v, 0, none⟩)) ∧ W.cell? ⟨v, 0, none⟩ = some (.int .u16 t) ∧ W.cell? ⟨v, 1, none⟩ = some (.slice (some ⟨g, 0, none⟩) l.length cap) ∧ W.frozen? ⟨v, 1, none⟩ = false ∧
    W.cell? ⟨g, k * 3, none⟩ = some (.int .u16 x.item) ∧ W.cell? ⟨g, k * 3 + 1, none⟩ = some (.int .u16 x.loc) ∧ W.cell? ⟨g, k * 3 + 2, none⟩ = some (.int .i64 x.qty) ∧ W.frozen? ⟨g, k * 3 + 2, none⟩ = false := by
  have hk : k < l.length := (List.getElem?_eq_some_iff.1 hx).1
  obtain ⟨e0, e1, e2⟩ := lns_get hx
  refine ⟨by simp [World.cell?, h.hz], by simp [World.cell?, h.hv], by simp [World.cell?, h.hv], by simp [World.frozen?, h.hv], ?_, ?_, ?_, h.ho.1.frozenAt _⟩
  · rw [h.ho.1.cellAt _ (by omega)]; exact e0
  · rw [h.ho.1.cellAt _ (by omega)]; exact e1
  · rw [h.ho.1.cellAt _ (by omega)]; exact e2
/-- The result's block. -/
structure RAt (W : World) (r : Nat) (a0 a1 a2 a3 a4 : Value) : Prop where
  hb : W.heap[r]? = some (.cells #[a0, a1, a2, a3, a4] 41 (0, 0))
theorem RAt.cells {W : World} {r : Nat} {a0 a1 a2 a3 a4 : Value} (h : RAt W r a0 a1 a2 a3 a4) :
    W.cell? ⟨r, 0, none⟩ = some a0 ∧ W.cell? ⟨r, 1, none⟩ = some a1 ∧ W.cell? ⟨r, 2, none⟩ = some a2 ∧ W.cell? ⟨r, 3, none⟩ = some a3 ∧ W.cell? ⟨r, 4, none⟩ = some a4 ∧
    W.frozen? ⟨r, 0, none⟩ = false ∧ W.frozen? ⟨r, 1, none⟩ = false ∧ W.frozen? ⟨r, 2, none⟩ = false ∧ W.frozen? ⟨r, 3, none⟩ = false ∧ W.frozen? ⟨r, 4, none⟩ = false := by
  have hb := h.hb
  refine ⟨?_, ?_, ?_, ?_, ?_, ?_, ?_, ?_, ?_, ?_⟩ <;> simp [World.cell?, World.frozen?, hb]

/-- What Picked begins with: the result's block, then place. -/
theorem picked_start (z : Nat) (t : Int) (l : List Ln) (locs : List Int) (loc : Int) (F : Nat → Prop) (w : World) (h : ZRep w F z ⟨locs, some (t, l)⟩) (hi : 0 ≤ lidx l loc) :
    ∃ (v g cap k : Nat) (lv : Value) (x : Ln), lidx l loc = k ∧ l[k]? = some x ∧ x.loc = loc ∧ ZAt w F z v g cap t l locs lv ∧
      (w.alloc (.cells #[.int .u16 0, .int .u16 0, .int .u16 0, .int .i64 0, .int .i64 0] 41)).cell? ⟨z, 0, none⟩ = some (.pointer (some ⟨v, 0, none⟩)) ∧
      (Calls Try.prog 23 #[.pointer (some ⟨v, 0, none⟩), .int .u16 loc] (w.alloc (.cells #[.int .u16 0, .int .u16 0, .int .u16 0, .int .i64 0, .int .i64 0] 41)) fun e w' => e = .returned (.int .i64 k) ∧ Keep none_ w w' ∧ w.heap.size < w'.heap.size ∧ ZAt w' F z v g cap t l locs lv ∧ RAt w' w.heap.size (.int .u16 0) (.int .u16 0) (.int .u16 0) (.int .i64 0) (.int .i64 0)) := by
  obtain ⟨k, x, hk, hx, hloc⟩ := lidx_some hi
  have hlt : k < l.length := (List.getElem?_eq_some_iff.1 hx).1
  obtain ⟨v, g, cap, lv, hat⟩ := h.at_ (by omega)
  have hat1 : ZAt (w.alloc (.cells #[.int .u16 0, .int .u16 0, .int .u16 0, .int .i64 0, .int .i64 0] 41)) F z v g cap t l locs lv := hat.move (fun q hq hl => ⟨hq, Below.heap_alloc _ _ _ hl⟩)
  refine ⟨v, g, cap, k, lv, x, hk, hx, hloc, hat, (hat1.cells hx).1, ?_⟩
  have hp := place_any (.pointer (some ⟨v, 0, none⟩)) (some (t, l)) loc F _ ⟨v, _, rfl, hat1.Fv, hat1.hv, hat1.ho⟩
  refine hp.mono ?_
  rintro e w' ⟨rfl, hkp⟩
  have hs := hkp.size
  simp only [World.size_alloc] at hs
  exact ⟨by show Ending.returned (.int .i64 (lidx l loc)) = _; rw [hk], ((Keep.refl none_ w).alloc _).next hkp, by omega, hat1.move (fun q hq hl => ⟨hq, hkp.block q hl (fun c => c)⟩), ⟨(hkp.block _ (by simp) (fun c => c)).trans (heap_alloc_new _ _)⟩⟩

set_option maxHeartbeats 400000 in
theorem picked_kind (z : Nat) (t : Int) (l : List Ln) (locs : List Int) (loc kind qty : Int) (F : Nat → Prop) (w : World) (h : ZRep w F z ⟨locs, some (t, l)⟩) (hi : 0 ≤ lidx l loc) (hk1 : kind ≠ 1) (hk2 : kind ≠ 2) :
    Calls Try.prog 14 #[.pointer (some ⟨z, 0, none⟩), .int .u16 loc, .int .u8 kind, .int .i64 qty] w fun e w' => e = .returned (pickNo 1) ∧ Keep none_ w w' := by
  obtain ⟨v, g, cap, k, lv, x, hk, hx, hloc, hat, c0, hp⟩ := picked_start z t l locs loc F w h hi
  have HP := Lib.hid hp
  have b1 : (kind != 1) = true := by simpa using hk1
  have b2 : (kind != 2) = true := by simpa using hk2
  clear h hi hk1 hk2 hk hx hloc hat hp
  go_enter Try.func14, Try.ntmps14
  go_wp2_with (go_at_call 23; refine HP.out.mono ?_; rintro e w' ⟨rfl, hkp, hsz, hza, hra⟩; obtain ⟨r0, r1, r2, r3, r4, q0, q1, q2, q3, q4⟩ := hra.cells; have HKP := Lib.hid hkp; have HZA := Lib.hid hza; have HRA := Lib.hid hra; clear hkp hza hra)
  have hfin := put5_heap HRA.out.hb (.int .u16 0) (.int .u16 0) (.int .u16 0) (.int .i64 0) (.int .i64 0)
  have hk2 := put5_keep HKP.out (b := w.heap.size) (.inl (Nat.le_refl _)) (.int .u16 0) (.int .u16 0) (.int .u16 0) (.int .i64 0) (.int .i64 0)
  change bodyPost _ _ _ _ _ (put5 w' w.heap.size (.int .u16 0) (.int .u16 0) (.int .u16 0) (.int .i64 0) (.int .i64 0))
  generalize put5 w' w.heap.size (.int .u16 0) (.int .u16 0) (.int .u16 0) (.int .i64 0) (.int .i64 0) = W at hfin hk2 ⊢
  exact bodyPost_ret (v := pickNo 1) (by simp [results, Try.results14, go_sem, World.cell?, hfin, pickNo, pickV]) rfl ⟨rfl, hk2⟩

set_option maxHeartbeats 400000 in
theorem picked_low (z : Nat) (t : Int) (l : List Ln) (locs : List Int) (loc kind qty : Int) (F : Nat → Prop) (w : World) (h : ZRep w F z ⟨locs, some (t, l)⟩) (hi : 0 ≤ lidx l loc) (hkind : kind = 1 ∨ kind = 2) (hq : qty < 0) :
    Calls Try.prog 14 #[.pointer (some ⟨z, 0, none⟩), .int .u16 loc, .int .u8 kind, .int .i64 qty] w fun e w' => e = .returned (pickNo 10) ∧ Keep none_ w w' := by
  obtain ⟨v, g, cap, k, lv, x, hk, hx, hloc, hat, c0, hp⟩ := picked_start z t l locs loc F w h hi
  have HP := Lib.hid hp
  have HX := Lib.hid hx
  have bq : decide (qty < 0) = true := by simpa using hq
  clear h hi hk hx hloc hat hp
  rcases hkind with rfl | rfl
  all_goals
    go_enter Try.func14, Try.ntmps14
    go_wp2_with (go_at_call 23; refine HP.out.mono ?_; rintro e w' ⟨rfl, hkp, hsz, hza, hra⟩; obtain ⟨r0, r1, r2, r3, r4, q0, q1, q2, q3, q4⟩ := hra.cells; obtain ⟨z0, v0, v1, vf, g0, g1, g2, gf⟩ := hza.cells HX.out; have HKP := Lib.hid hkp; have HZA := Lib.hid hza; have HRA := Lib.hid hra; clear hkp hza hra)
    have hfin := put5_heap HRA.out.hb (.int .u16 0) (.int .u16 0) (.int .u16 0) (.int .i64 0) (.int .i64 0)
    have hk2 := put5_keep HKP.out (b := w.heap.size) (.inl (Nat.le_refl _)) (.int .u16 0) (.int .u16 0) (.int .u16 0) (.int .i64 0) (.int .i64 0)
    change bodyPost _ _ _ _ _ (put5 w' w.heap.size (.int .u16 0) (.int .u16 0) (.int .u16 0) (.int .i64 0) (.int .i64 0))
    generalize put5 w' w.heap.size (.int .u16 0) (.int .u16 0) (.int .u16 0) (.int .i64 0) (.int .i64 0) = W at hfin hk2 ⊢
    exact bodyPost_ret (v := pickNo 10) (by simp [results, Try.results14, go_sem, World.cell?, hfin, pickNo, pickV]) rfl ⟨rfl, hk2⟩

set_option maxHeartbeats 400000 in
theorem picked_high (z : Nat) (t : Int) (l : List Ln) (locs : List Int) (loc kind qty : Int) (k0 : Nat) (x0 : Ln) (F : Nat → Prop) (w : World) (h : ZRep w F z ⟨locs, some (t, l)⟩) (hi : lidx l loc = k0) (hx0 : l[k0]? = some x0) (hkind : kind = 1 ∨ kind = 2) (hq0 : 0 ≤ qty) (hq : x0.qty < qty) :
    Calls Try.prog 14 #[.pointer (some ⟨z, 0, none⟩), .int .u16 loc, .int .u8 kind, .int .i64 qty] w fun e w' => e = .returned (pickNo 10) ∧ Keep none_ w w' := by
  obtain ⟨v, g, cap, k, lv, x, hk, hx, hloc, hat, c0, hp⟩ := picked_start z t l locs loc F w h (by omega)
  obtain rfl : k = k0 := by omega
  obtain rfl : x = x0 := by rw [hx] at hx0; exact Option.some.inj hx0
  have HP := Lib.hid hp
  have HX := Lib.hid hx
  have hkl : (k : Int) < l.length := by have := (List.getElem?_eq_some_iff.1 hx).1; omega
  have bq : decide (qty < 0) = false := by simpa using hq0
  have bx : decide (x.qty < qty) = true := by simpa using hq
  clear h hi hk hx hloc hat hp hx0 hq hq0
  rcases hkind with rfl | rfl
  all_goals
    go_enter Try.func14, Try.ntmps14
    go_wp2_with (go_at_call 23; refine HP.out.mono ?_; rintro e w' ⟨rfl, hkp, hsz, hza, hra⟩; obtain ⟨r0, r1, r2, r3, r4, q0, q1, q2, q3, q4⟩ := hra.cells; obtain ⟨z0, v0, v1, vf, g0, g1, g2, gf⟩ := hza.cells HX.out; have HKP := Lib.hid hkp; have HZA := Lib.hid hza; have HRA := Lib.hid hra; clear hkp hza hra)
    have hfin := put5_heap HRA.out.hb (.int .u16 0) (.int .u16 0) (.int .u16 0) (.int .i64 0) (.int .i64 0)
    have hk2 := put5_keep HKP.out (b := w.heap.size) (.inl (Nat.le_refl _)) (.int .u16 0) (.int .u16 0) (.int .u16 0) (.int .i64 0) (.int .i64 0)
    change bodyPost _ _ _ _ _ (put5 w' w.heap.size (.int .u16 0) (.int .u16 0) (.int .u16 0) (.int .i64 0) (.int .i64 0))
    generalize put5 w' w.heap.size (.int .u16 0) (.int .u16 0) (.int .u16 0) (.int .i64 0) (.int .i64 0) = W at hfin hk2 ⊢
    exact bodyPost_ret (v := pickNo 10) (by simp [results, Try.results14, go_sem, World.cell?, hfin, pickNo, pickV]) rfl ⟨rfl, hk2⟩
end Go.Proofs.Ytimaaaibpadlpaa
