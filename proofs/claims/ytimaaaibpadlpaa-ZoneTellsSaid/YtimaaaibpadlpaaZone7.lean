import Derived.Test.YtimaaaibpadlpaaZone6
namespace Go.Proofs.Ytimaaaibpadlpaa
set_option linter.unusedVariables false
set_option linter.unusedSimpArgs false
open Go.RowKit

set_option maxHeartbeats 2000000 in
theorem picked_short (z : Nat) (t : Int) (l : List Ln) (locs : List Int) (loc qty : Int) (k : Nat) (x : Ln) (F : Nat → Prop) (w : World) (h : ZRep w F z ⟨locs, some (t, l)⟩) (hi : lidx l loc = k) (hx : l[k]? = some x) (hq0 : 0 ≤ qty) (hq : qty ≤ x.qty) (hm : x.qty ≤ 9223372036854775807) (hFl : ∀ k, F k → k < w.heap.size) :
    Calls Try.prog 14 #[.pointer (some ⟨z, 0, none⟩), .int .u16 loc, .int .u8 2, .int .i64 qty] w fun e w' => e = .returned (pickV t loc x.item qty (x.qty - qty) 0) ∧ Keep F w w' ∧ ZRep w' (fresh F w w') z ⟨locs, some (t, l.eraseIdx k)⟩ := by
  obtain ⟨v, g, cap, k', lv, x', hk', hx', hloc, hat, c0, hp⟩ := picked_start z t l locs loc F w h (by omega)
  obtain rfl : k = k' := by omega
  obtain rfl : x' = x := by rw [hx] at hx'; exact (Option.some.inj hx').symm
  have HP := Lib.hid hp
  have HX := Lib.hid hx
  have HFL := Lib.hid hFl
  have hkl : (k : Int) < l.length := by have := (List.getElem?_eq_some_iff.1 hx).1; omega
  have hFg : F g := hat.ho.2.1 g rfl
  have bq : decide (qty < 0) = false := by simpa using hq0
  have bx : decide (x'.qty < qty) = false := by simp only [decide_eq_false_iff_not]; omega
  have hw1 : 0 ≤ x'.qty - qty := by omega
  have hw2 : x'.qty - qty ≤ 9223372036854775807 := by omega
  have HQ := Lib.hid hq
  clear hq
  clear h hi hk' hx hloc hat hp hx' hFl
  go_enter Try.func14, Try.ntmps14
  go_wp2_with (go_at_call 23; refine HP.out.mono ?_; rintro e w' ⟨rfl, hkp, hsz, hza, hra⟩; obtain ⟨z0, v0, v1, vf, g0, g1, g2, gf⟩ := hza.cells HX.out; have HKP := Lib.hid hkp; have HZA := Lib.hid hza; have HRA := Lib.hid hra; clear hkp hza hra)
  have hrg := (HRA.out.ne HZA.out).2.2
  have hz3 := HZA.out.setQty HX.out (x'.qty - qty)
  have hr3 := HRA.out.far (a := ⟨g, k * 3 + 2, none⟩) hrg (.int .i64 (x'.qty - qty))
  have hk3 := (HKP.out.none (F := F)).setCell (p := ⟨g, k * 3 + 2, none⟩) (.inr hFg) (.int .i64 (x'.qty - qty))
  have hs3 : w.heap.size < (w'.setCell ⟨g, k * 3 + 2, none⟩ (.int .i64 (x'.qty - qty))).heap.size := by simpa using hsz
  clear z0 v0 v1 vf g0 g1 g2 gf hsz
  generalize w'.setCell ⟨g, k * 3 + 2, none⟩ (.int .i64 (x'.qty - qty)) = W3 at hz3 hr3 hk3 hs3 ⊢
  obtain ⟨r0, r1, r2, r3, r4, q0, q1, q2, q3, q4⟩ := hr3.cells
  obtain ⟨z0, v0, v1, vf, g0, g1, g2, gf⟩ := hz3.cells (x := { x' with qty := x'.qty - qty }) (by rw [List.getElem?_set_self (by omega)])
  have hgl : g < W3.heap.size := hz3.ho.lt rfl
  have hzl : z < W3.heap.size := lt_of_block hz3.hz
  have hvl : v < W3.heap.size := lt_of_block hz3.hv
  have HZ3 := Lib.hid hz3
  have HR3 := Lib.hid hr3
  have HK3 := Lib.hid hk3
  clear hz3 hr3 hk3
  simp only at g0 g1 g2
  go_region_held3 (fun W => W.cell? ⟨z, 0, none⟩ = some (.pointer (some ⟨v, 0, none⟩)) ∧ W.cell? ⟨v, 0, none⟩ = some (.int .u16 t) ∧ W.cell? ⟨g, k * 3, none⟩ = some (.int .u16 x'.item)) (first | go_keep) (fail)
  all_goals
    go_wp2
    have hz3b : ZAt (W3.setCell ⟨g, k * 3 + 2, none⟩ (.int .i64 0)) F z v g cap t (l.set k { x' with qty := 0 }) locs lv := by
      have := HZ3.out.setQty (k := k) (x := { x' with qty := x'.qty - qty }) (by rw [List.getElem?_set_self (by omega)]) 0
      simpa only [List.set_set] using this
    have hr3b : RAt (W3.setCell ⟨g, k * 3 + 2, none⟩ (.int .i64 0)) w.heap.size (.int .u16 0) (.int .u16 0) (.int .u16 0) (.int .i64 0) (.int .i64 0) := HR3.out.far (HR3.out.ne HZ3.out).2.2 _
    have hk3b : Keep F w (W3.setCell ⟨g, k * 3 + 2, none⟩ (.int .i64 0)) := HK3.out.setCell (.inr hFg) _
    have hz4 : ZAt ((W3.setCell ⟨g, k * 3 + 2, none⟩ (.int .i64 0)).alloc (.cells #[.int .u16 t, .int .u16 loc, .int .u16 x'.item, .int .i64 qty, .int .i64 (x'.qty - qty)] 41)).drew F z v g cap t _ locs lv := hz3b.move (fun q hq hl => ⟨hq, Below.heap_alloc _ _ _ hl⟩)
    have hr4 : RAt ((W3.setCell ⟨g, k * 3 + 2, none⟩ (.int .i64 0)).alloc (.cells #[.int .u16 t, .int .u16 loc, .int .u16 x'.item, .int .i64 qty, .int .i64 (x'.qty - qty)] 41)).drew w.heap.size (.int .u16 0) (.int .u16 0) (.int .u16 0) (.int .i64 0) (.int .i64 0) := ⟨(Below.heap_alloc _ _ _ (by simpa using hs3)).trans hr3b.hb⟩
    have hp4 : RAt ((W3.setCell ⟨g, k * 3 + 2, none⟩ (.int .i64 0)).alloc (.cells #[.int .u16 t, .int .u16 loc, .int .u16 x'.item, .int .i64 qty, .int .i64 (x'.qty - qty)] 41)).drew W3.heap.size (.int .u16 t) (.int .u16 loc) (.int .u16 x'.item) (.int .i64 qty) (.int .i64 (x'.qty - qty)) := ⟨by have := heap_alloc_new (W3.setCell ⟨g, k * 3 + 2, none⟩ (.int .i64 0)) (.cells #[.int .u16 t, .int .u16 loc, .int .u16 x'.item, .int .i64 qty, .int .i64 (x'.qty - qty)] 41); rw [show (W3.setCell ⟨g, k * 3 + 2, none⟩ (.int .i64 0)).heap.size = W3.heap.size by simp] at this; exact this⟩
    have hk4 : Keep F w ((W3.setCell ⟨g, k * 3 + 2, none⟩ (.int .i64 0)).alloc (.cells #[.int .u16 t, .int .u16 loc, .int .u16 x'.item, .int .i64 qty, .int .i64 (x'.qty - qty)] 41)).drew := (hk3b.alloc _).drew
    have hs4 : W3.heap.size < ((W3.setCell ⟨g, k * 3 + 2, none⟩ (.int .i64 0)).alloc (.cells #[.int .u16 t, .int .u16 loc, .int .u16 x'.item, .int .i64 qty, .int .i64 (x'.qty - qty)] 41)).drew.heap.size := by simp
    have hpw : w.heap.size ≠ W3.heap.size := by omega
    clear r0 r1 r2 r3 r4 q0 q1 q2 q3 q4 z0 v0 v1 vf g0 g1 g2 gf hz3b hr3b hk3b
    generalize ((W3.setCell ⟨g, k * 3 + 2, none⟩ (.int .i64 0)).alloc (.cells #[.int .u16 t, .int .u16 loc, .int .u16 x'.item, .int .i64 qty, .int .i64 (x'.qty - qty)] 41)).drew = W4 at hz4 hr4 hp4 hk4 hs4 ⊢
    generalize W3.heap.size = p at hpw hp4 hs3 hs4 ⊢
    obtain ⟨z0, v0, v1, vf, -, -, -, -⟩ := hz4.cells (x := { x' with qty := 0 }) (by rw [List.getElem?_set_self (by omega)])
    have HD : Hid (Own W4.drew F 27 3 (.slice (some ⟨g, 0, none⟩) l.length cap) l.length (lns (l.set k { x' with qty := 0 }))) := by
      have := hz4.ho
      rw [List.length_set] at this
      exact this.move (fun q hq _ => ⟨hq, rfl⟩)
    simp only [List.length_set] at v1
    have hzv : z ≠ v := by intro e; have := hz4.hz; rw [e, hz4.hv] at this; simp at this
    have hvg : some v ≠ some g := fun e => hz4.ho.ne hz4.hv (by decide) (by rw [e]; rfl)
    have hzg : some z ≠ some g := fun e => hz4.ho.ne hz4.hz (by decide) (by rw [e]; rfl)
    have hrg : some w.heap.size ≠ some g := fun e => hz4.ho.ne hr4.hb (by decide) (by rw [e]; rfl)
    have hpg : some p ≠ some g := fun e => hz4.ho.ne hp4.hb (by decide) (by rw [e]; rfl)
    have hrv : w.heap.size ≠ v := (hr4.ne hz4).2.1
    have hpv : p ≠ v := (hp4.ne hz4).2.1
    have hkm : (k : Int) + 1 ≤ 9223372036854775807 := by obtain ⟨_, _, h1, h2, _⟩ := hz4.ho.block; rw [List.length_set] at h1; unfold maxLen at h2; omega
    have hwr : IntKind.i64.wrap ((k : Int) + 1) = (k : Int) + 1 := by rw [IntKind.wrap_i64]; omega
    have hkn : k < l.length := by omega
    have HZ4 := Lib.hid hz4
    have HR4 := Lib.hid hr4
    have HP4 := Lib.hid hp4
    have HK4 := Lib.hid hk4
    have HNE := Lib.hid (And.intro hvg (And.intro hzg (And.intro hrg hpg)))
    clear hz4 hr4 hp4 hk4 hvg hzg hrg hpg
    refine wp_sch [(0, 0), (0, 1), (0, 2), (0, 3), (0, 4), (0, 5), (0, 6), (0, 7), (0, 8), (0, 9), (0, 10), (0, 11), (0, 12), (0, 13), (1, 14), (0, 15), (0, 16), (2, 17)] [17] (fun W => W.cell? ⟨z, 0, none⟩ = some (.pointer (some ⟨v, 0, none⟩)) ∧ W.cell? ⟨v, 1, none⟩ = some (.slice (some ⟨g, 0, none⟩) l.length cap)) (by kernel_rfl) (by kernel_rfl) (by kernel_rfl) (fun _ _ d _ _ h => by cases d <;> exact h) ⟨z0, v1⟩ ?_
    iterate 14
      refine sch_yield (v := ?_) rfl rfl (by rfl) ?_ ?_
      rotate_left
      · intro W hS
        obtain ⟨hS1, hS2⟩ := hS
        go_simp
        try with_reducible rfl
      simp only [Act.put, List.setIfInBounds_toArray, List.set_cons_zero, List.set_cons_succ]
    refine sch_run rfl (fun K hK => ?_)
    go_simp
    refine (deleteL g cap l.length k _ F _ HD.out hkn).mono ?_
    rintro e w5 ⟨rfl, ho5, hg5⟩
    have ev := (hg5.block v (lt_of_block HZ4.out.hv) HNE.out.1).trans HZ4.out.hv
    have ez := (hg5.block z (lt_of_block HZ4.out.hz) HNE.out.2.1).trans HZ4.out.hz
    have vv1 : w5.cell? ⟨v, 1, none⟩ = some (.slice (some ⟨g, 0, none⟩) l.length cap) := by simp [World.cell?, ev]
    have vvf : w5.frozen? ⟨v, 1, none⟩ = false := by simp [World.frozen?, ev]
    have zz0 : w5.cell? ⟨z, 0, none⟩ = some (.pointer (some ⟨v, 0, none⟩)) := by simp [World.cell?, ez]
    have EV := Lib.hid ev
    have EZ := Lib.hid ez
    have HO5 := Lib.hid ho5
    have HG5 := Lib.hid hg5
    clear ev ez ho5 hg5
    refine hK _ _ ⟨zz0, vv1⟩ ?_
    clear hK K
    try simp only [Act.put, List.setIfInBounds_toArray, List.set_cons_zero, List.set_cons_succ]
    iterate 2
      refine sch_yield (v := ?_) rfl rfl (by rfl) ?_ ?_
      rotate_left
      · intro W hS
        obtain ⟨hS1, hS2⟩ := hS
        go_simp
        try with_reducible rfl
      simp only [Act.put, List.setIfInBounds_toArray, List.set_cons_zero, List.set_cons_succ]
    refine sch_store rfl (fun K hK => ?_)
    go_simp
    refine hK _ _ (sch_done ?_)
    clear hK K
    try simp only [Act.put, List.setIfInBounds_toArray, List.set_cons_zero, List.set_cons_succ]
    have hlen : (l.eraseIdx k).length = l.length - 1 := List.length_eraseIdx_of_lt hkn
    have her : (l.set k { x' with qty := 0 }).eraseIdx k = l.eraseIdx k := List.eraseIdx_set_eq ..
    have hl5 : Own w5 F 25 1 lv locs.length (ints .u16 locs) := by
      have hl4 : Own W4.drew F 25 1 lv locs.length (ints .u16 locs) := HZ4.out.hl.move (fun q hq _ => ⟨hq, rfl⟩)
      exact hl4.grown HG5.out (hl4.apart HD.out (by decide))
    have hz6 : ZAt (w5.setCell ⟨v, 1, none⟩ (.slice (some ⟨g, 0, none⟩) (l.length - 1) cap)) F z v g cap t (l.eraseIdx k) locs lv := by
      refine ⟨HZ4.out.Fz, HZ4.out.Fv, by rw [Below.heap_setCell _ _ _ _ hzv]; exact EZ.out, by rw [heap_setCell_same _ _ _ _ _ _ EV.out, hlen]; rfl, hl5.setCell (hl5.ne EV.out (by decide)) _, ?_⟩
      have := HO5.out
      rw [← lns_erase, her] at this
      rw [hlen]
      exact this.setCell (this.ne EV.out (by decide)) _
    have hr6 : RAt (w5.setCell ⟨v, 1, none⟩ (.slice (some ⟨g, 0, none⟩) (l.length - 1) cap)) w.heap.size (.int .u16 0) (.int .u16 0) (.int .u16 0) (.int .i64 0) (.int .i64 0) := ⟨by rw [Below.heap_setCell _ _ _ _ hrv]; exact (HG5.out.block _ (lt_of_block HR4.out.hb) HNE.out.2.2.1).trans HR4.out.hb⟩
    have hp6 : RAt (w5.setCell ⟨v, 1, none⟩ (.slice (some ⟨g, 0, none⟩) (l.length - 1) cap)) p (.int .u16 t) (.int .u16 loc) (.int .u16 x'.item) (.int .i64 qty) (.int .i64 (x'.qty - qty)) := ⟨by rw [Below.heap_setCell _ _ _ _ hpv]; exact (HG5.out.block _ (lt_of_block HP4.out.hb) HNE.out.2.2.2).trans HP4.out.hb⟩
    have hk6 : Keep F w (w5.setCell ⟨v, 1, none⟩ (.slice (some ⟨g, 0, none⟩) (l.length - 1) cap)) := ((HK4.out.drew).grown HG5.out (fun q hq => .inr (by simp only [Option.some.injEq] at hq; rw [← hq]; exact HD.out.2.1 g rfl))).setCell (.inr HZ4.out.Fv) _
    clear z0 v0 v1 vf vv1 vvf zz0
    generalize w5.setCell ⟨v, 1, none⟩ (.slice (some ⟨g, 0, none⟩) (l.length - 1) cap) = W6 at hz6 hr6 hp6 hk6 ⊢
    obtain ⟨r0, r1, r2, r3, r4, q0, q1, q2, q3, q4⟩ := hr6.cells
    obtain ⟨p0, p1, p2, p3, p4, -, -, -, -, -⟩ := hp6.cells
    have HZ6 := Lib.hid hz6
    have HR6 := Lib.hid hr6
    have HK6 := Lib.hid hk6
    clear hz6 hr6 hp6 hk6
    go_wp2
    have hfin := put5_heap HR6.out.hb (.int .u16 t) (.int .u16 loc) (.int .u16 x'.item) (.int .i64 qty) (.int .i64 (x'.qty - qty))
    have hkf := (put5_keep HK6.out (b := w.heap.size) (.inl (Nat.le_refl _)) (.int .u16 t) (.int .u16 loc) (.int .u16 x'.item) (.int .i64 qty) (.int .i64 (x'.qty - qty)))
    have hzf : ZAt (put5 W6 w.heap.size (.int .u16 t) (.int .u16 loc) (.int .u16 x'.item) (.int .i64 qty) (.int .i64 (x'.qty - qty))) F z v g cap t _ locs lv :=
      HZ6.out.move (fun q hq hl => ⟨hq, put5_far _ _ _ (by have := HFL.out q hq; omega) _ _ _ _ _⟩)
    change bodyPost _ _ _ _ _ (put5 W6 w.heap.size (.int .u16 t) (.int .u16 loc) (.int .u16 x'.item) (.int .i64 qty) (.int .i64 (x'.qty - qty)))
    generalize put5 W6 w.heap.size (.int .u16 t) (.int .u16 loc) (.int .u16 x'.item) (.int .i64 qty) (.int .i64 (x'.qty - qty)) = W at hfin hkf hzf ⊢
    exact bodyPost_ret (v := pickV t loc x'.item qty (x'.qty - qty) 0) (by simp [results, Try.results14, go_sem, World.cell?, hfin, pickV]) rfl ⟨rfl, hkf, hzf.rep.move (fun q hq _ => ⟨.inl hq, rfl⟩)⟩
end Go.Proofs.Ytimaaaibpadlpaa
