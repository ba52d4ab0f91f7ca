import Derived.Test.YtimaaaibpadlpaaZone4
namespace Go.Proofs.Ytimaaaibpadlpaa
set_option linter.unusedVariables false
set_option linter.unusedSimpArgs false
open Go.RowKit

theorem lns_setQty (l : List Ln) : ∀ (k : Nat) (x : Ln) (q : Int), l[k]? = some x → lns (l.set k { x with qty := q }) = (lns l).set (k * 3 + 2) (.int .i64 q) := by
  induction l with
  | nil => intro k x q h; simp at h
  | cons y l ih =>
    intro k x q h
    cases k with
    | zero =>
      simp only [List.getElem?_cons_zero, Option.some.injEq] at h
      subst h
      simp [lns, Ln.cs]
    | succ k =>
      rw [List.getElem?_cons_succ] at h
      have := ih k x q h
      simp only [lns, List.set_cons_succ, List.flatMap_cons] at this ⊢
      rw [this, show (k + 1) * 3 + 2 = k * 3 + 2 + 3 by omega]
      rw [List.set_append_right _ _ (by simp [Ln.cs])]
      simp [Ln.cs]
theorem lns_erase (l : List Ln) : ∀ (k : Nat), lns (l.eraseIdx k) = (lns l).take (k * 3) ++ (lns l).drop ((k + 1) * 3) := by
  induction l with
  | nil => intro k; simp [lns]
  | cons y l ih =>
    intro k
    cases k with
    | zero => simp [lns, Ln.cs]
    | succ k =>
      have := ih k
      have e1 : lns (y :: l) = y.cs ++ lns l := by simp [lns]
      have e2 : lns (y :: l.eraseIdx k) = y.cs ++ lns (l.eraseIdx k) := by simp [lns]
      rw [List.eraseIdx_cons_succ, e2, this, e1, List.take_append, List.drop_append]
      have h3 : y.cs.length = 3 := rfl
      rw [h3, List.take_of_length_le (show y.cs.length ≤ (k + 1) * 3 by rw [h3]; omega), List.drop_eq_nil_of_le (show y.cs.length ≤ (k + 1 + 1) * 3 by rw [h3]; omega), List.nil_append, List.append_assoc, show (k + 1) * 3 - 3 = k * 3 by omega, show (k + 1 + 1) * 3 - 3 = (k + 1) * 3 by omega]

theorem ZAt.setQty {W : World} {F : Nat → Prop} {z v g cap : Nat} {t : Int} {l : List Ln} {locs : List Int} {lv : Value} (h : ZAt W F z v g cap t l locs lv) {k : Nat} {x : Ln} (hx : l[k]? = some x) (q : Int) :
    ZAt (W.setCell ⟨g, k * 3 + 2, none⟩ (.int .i64 q)) F z v g cap t (l.set k { x with qty := q }) locs lv := by
  have hg := h.ho.ne h.hz (by decide)
  have hgv := h.ho.ne h.hv (by decide)
  have e1 : z ≠ g := by simp only [Value.ownBlock, ne_eq, Option.some.injEq] at hg; omega
  have e2 : v ≠ g := by simp only [Value.ownBlock, ne_eq, Option.some.injEq] at hgv; omega
  have hs := h.ho.1.stored (k * 3 + 2) (.int .i64 q)
  refine ⟨h.Fz, h.Fv, by rw [Below.heap_setCell _ _ _ _ e1]; exact h.hz, by rw [Below.heap_setCell _ _ _ _ e2, List.length_set]; exact h.hv, h.hl.setCell (h.hl.apart h.ho (by decide) g rfl) _, ?_⟩
  rw [lns_setQty l k x q hx, List.length_set]
  exact ⟨hs.1, h.ho.2.1, fun u hu => by rcases List.mem_or_eq_of_mem_set hu with hu | rfl; exact h.ho.2.2 u hu; rfl⟩
theorem RAt.far {W : World} {r : Nat} {a0 a1 a2 a3 a4 : Value} (h : RAt W r a0 a1 a2 a3 a4) {a : Addr} (ha : r ≠ a.block) (u : Value) : RAt (W.setCell a u) r a0 a1 a2 a3 a4 := ⟨by rw [Below.heap_setCell _ _ _ _ ha]; exact h.hb⟩
theorem RAt.ne {W : World} {r : Nat} {a0 a1 a2 a3 a4 : Value} (h : RAt W r a0 a1 a2 a3 a4) {F : Nat → Prop} {z v g cap : Nat} {t : Int} {l : List Ln} {locs : List Int} {lv : Value} (hz : ZAt W F z v g cap t l locs lv) : r ≠ z ∧ r ≠ v ∧ r ≠ g := by
  refine ⟨?_, ?_, ?_⟩
  · rintro rfl; have := h.hb.symm.trans hz.hz; simp at this
  · rintro rfl; have := h.hb.symm.trans hz.hv; simp at this
  · have := hz.ho.ne h.hb (by decide); simp only [Value.ownBlock, ne_eq, Option.some.injEq] at this; omega

theorem put5_far (w : World) (b k : Nat) (h : k ≠ b) (a0 a1 a2 a3 a4 : Value) : (put5 w b a0 a1 a2 a3 a4).heap[k]? = w.heap[k]? := by
  unfold put5
  rw [Below.heap_setCell _ _ _ _ h, Below.heap_setCell _ _ _ _ h, Below.heap_setCell _ _ _ _ h, Below.heap_setCell _ _ _ _ h, Below.heap_setCell _ _ _ _ h]
theorem put5_size (w : World) (b : Nat) (a0 a1 a2 a3 a4 : Value) : (put5 w b a0 a1 a2 a3 a4).heap.size = w.heap.size := by simp [put5]

set_option maxHeartbeats 1000000 in
theorem picked_part (z : Nat) (t : Int) (l : List Ln) (locs : List Int) (loc qty : Int) (k : Nat) (x : Ln) (F : Nat → Prop) (w : World) (h : ZRep w F z ⟨locs, some (t, l)⟩) (hi : lidx l loc = k) (hx : l[k]? = some x) (hq0 : 0 ≤ qty) (hq : qty < x.qty) (hm : x.qty ≤ 9223372036854775807) (hFl : ∀ k, F k → k < w.heap.size) :
    Calls Try.prog 14 #[.pointer (some ⟨z, 0, none⟩), .int .u16 loc, .int .u8 1, .int .i64 qty] w fun e w' => e = .returned (pickV t loc x.item qty 0 0) ∧ Keep F w w' ∧ ZRep w' (fresh F w w') z ⟨locs, some (t, l.set k { x with qty := x.qty - qty })⟩ := by
  obtain ⟨v, g, cap, k', lv, x', hk', hx', hloc, hat, c0, hp⟩ := picked_start z t l locs loc F w h (by omega)
  obtain rfl : k = k' := by omega
  obtain rfl : x' = x := by rw [hx] at hx'; exact (Option.some.inj hx').symm
  have HP := Lib.hid hp
  have HX := Lib.hid hx
  have HFL := Lib.hid hFl
  have hkl : (k : Int) < l.length := by have := (List.getElem?_eq_some_iff.1 hx).1; omega
  have hFg : F g := hat.ho.2.1 g rfl
  have bq : decide (qty < 0) = false := by simpa using hq0
  have bx : decide (x'.qty < qty) = false := by simp only [decide_eq_false_iff_not]; omega
  have bz : (x'.qty - qty == 0) = false := by rw [beq_eq_false_iff_ne]; omega
  have hw1 : 0 ≤ x'.qty - qty := by omega
  have hw2 : x'.qty - qty ≤ 9223372036854775807 := by omega
  clear h hi hk' hx hloc hat hp hx' hFl
  go_enter Try.func14, Try.ntmps14
  go_wp2_with (go_at_call 23; refine HP.out.mono ?_; rintro e w' ⟨rfl, hkp, hsz, hza, hra⟩; obtain ⟨z0, v0, v1, vf, g0, g1, g2, gf⟩ := hza.cells HX.out; have HKP := Lib.hid hkp; have HZA := Lib.hid hza; have HRA := Lib.hid hra; clear hkp hza hra)
  have hrg := (HRA.out.ne HZA.out).2.2
  have hz3 := HZA.out.setQty HX.out (x'.qty - qty)
  have hr3 := HRA.out.far (a := ⟨g, k * 3 + 2, none⟩) hrg (.int .i64 (x'.qty - qty))
  have hk3 := (HKP.out.none (F := F)).setCell (p := ⟨g, k * 3 + 2, none⟩) (.inr hFg) (.int .i64 (x'.qty - qty))
  have hs3 : w.heap.size < (w'.setCell ⟨g, k * 3 + 2, none⟩ (.int .i64 (x'.qty - qty))).heap.size := by simpa using hsz
  clear z0 v0 v1 vf g0 g1 g2 gf hsz
  generalize w'.setCell ⟨g, k * 3 + 2, none⟩ (.int .i64 (x'.qty - qty)) = W3 at hz3 hr3 hk3 hs3 ⊢
  obtain ⟨r0, r1, r2, r3, r4, q0, q1, q2, q3, q4⟩ := hr3.cells
  obtain ⟨z0, v0, v1, vf, g0, g1, g2, gf⟩ := hz3.cells (x := { x' with qty := x'.qty - qty }) (by rw [List.getElem?_set_self (by omega)])
  have hgl : g < W3.heap.size := hz3.ho.lt rfl
  have hzl : z < W3.heap.size := lt_of_block hz3.hz
  have hvl : v < W3.heap.size := lt_of_block hz3.hv
  have HZ3 := Lib.hid hz3
  have HR3 := Lib.hid hr3
  have HK3 := Lib.hid hk3
  clear hz3 hr3 hk3
  simp only at g0 g1 g2
  go_region_held3 (fun W => W.cell? ⟨z, 0, none⟩ = some (.pointer (some ⟨v, 0, none⟩)) ∧ W.cell? ⟨v, 0, none⟩ = some (.int .u16 t) ∧ W.cell? ⟨g, k * 3, none⟩ = some (.int .u16 x'.item)) (first | go_keep) (fail)
  all_goals
    go_wp2
    have hfin := put5_heap HR3.out.hb (.int .u16 t) (.int .u16 loc) (.int .u16 x'.item) (.int .i64 qty) (.int .i64 0)
    have hkf := (((put5_keep HK3.out (b := w.heap.size) (.inl (Nat.le_refl _)) (.int .u16 t) (.int .u16 loc) (.int .u16 x'.item) (.int .i64 qty) (.int .i64 0)).alloc (.cells #[.int .u16 t, .int .u16 loc, .int .u16 x'.item, .int .i64 qty, .int .i64 0] 41)).drew)
    have hzf : ZAt ((put5 W3 w.heap.size (.int .u16 t) (.int .u16 loc) (.int .u16 x'.item) (.int .i64 qty) (.int .i64 0)).alloc (.cells #[.int .u16 t, .int .u16 loc, .int .u16 x'.item, .int .i64 qty, .int .i64 0] 41)).drew F z v g cap t _ locs lv :=
      HZ3.out.move (fun q hq hl => ⟨hq, (Below.heap_alloc _ _ _ (by rw [put5_size]; exact hl)).trans (put5_far _ _ _ (by have := HFL.out q hq; omega) _ _ _ _ _)⟩)
    have hff : (((put5 W3 w.heap.size (.int .u16 t) (.int .u16 loc) (.int .u16 x'.item) (.int .i64 qty) (.int .i64 0)).alloc (.cells #[.int .u16 t, .int .u16 loc, .int .u16 x'.item, .int .i64 qty, .int .i64 0] 41)).drew).heap[w.heap.size]? = some (.cells #[.int .u16 t, .int .u16 loc, .int .u16 x'.item, .int .i64 qty, .int .i64 0] 41 (0, 0)) :=
      (Below.heap_alloc _ _ _ (by rw [put5_size]; exact hs3)).trans hfin
    change bodyPost _ _ _ _ _ ((put5 W3 w.heap.size (.int .u16 t) (.int .u16 loc) (.int .u16 x'.item) (.int .i64 qty) (.int .i64 0)).alloc (.cells #[.int .u16 t, .int .u16 loc, .int .u16 x'.item, .int .i64 qty, .int .i64 0] 41)).drew
    generalize ((put5 W3 w.heap.size (.int .u16 t) (.int .u16 loc) (.int .u16 x'.item) (.int .i64 qty) (.int .i64 0)).alloc (.cells #[.int .u16 t, .int .u16 loc, .int .u16 x'.item, .int .i64 qty, .int .i64 0] 41)).drew = W at hff hkf hzf ⊢
    exact bodyPost_ret (v := pickV t loc x'.item qty 0 0) (by simp [results, Try.results14, go_sem, World.cell?, hff, pickV]) rfl ⟨rfl, hkf, hzf.rep.move (fun q hq _ => ⟨.inl hq, rfl⟩)⟩
end Go.Proofs.Ytimaaaibpadlpaa
