import Derived.Test.YtimaaaibpadlpaaZoneS
import Derived.Test.YtimaaaibpadlpaaBase2
import Derived.Test.YtimaaaibpadlpaaZoneArgs
namespace Go.Proofs.Ytimaaaibpadlpaa
set_option linter.unusedVariables false
set_option linter.unusedSimpArgs false
open Go.RowKit

attribute [local go_sem] min2_mn min_two'

theorem wantsOf_mem (locs : List Int) (ls : List Ln) : ∀ x ∈ wantsOf locs ls, mem locs x.loc = true ∧ 0 < x.qty ∧ x ∈ ls := by
  have : ∀ (l acc : List Ln), (∀ x ∈ acc, mem locs x.loc = true ∧ 0 < x.qty ∧ x ∈ ls) → (∀ x ∈ l, x ∈ ls) → ∀ x ∈ l.foldl (addLine locs) acc, mem locs x.loc = true ∧ 0 < x.qty ∧ x ∈ ls := by
    intro l
    induction l with
    | nil => intro acc h _; simpa using h
    | cons y l ih =>
      intro acc h hl
      rw [List.foldl_cons]
      refine ih _ (fun x hx => ?_) (fun x hx => hl x (List.mem_cons_of_mem _ hx))
      unfold addLine at hx
      split at hx
      · rename_i hc
        rcases List.mem_append.1 hx with hx | hx
        · exact h x hx
        · obtain rfl : x = y := by simpa using hx
          exact ⟨hc.1, hc.2.1, hl x (List.mem_cons_self ..)⟩
      · exact h x hx
  exact this ls [] (by simp) (fun x hx => hx)
theorem come_none (locs : List Int) (t : Int) (ls : List Ln) : ZS.come ⟨locs, none⟩ t ls = (⟨locs, some (t, wantsOf locs ls)⟩, .tuple #[.int .i64 (wantsOf locs ls).length, .int .i64 0]) := rfl
/-- A new row of one's own out of a slice: 'append(T{}, x...)'. -/
theorem eqL_refl (l : List Ln) : eqL l l = true := by simp [eqL]

set_option maxHeartbeats 4000000 in
set_option maxRecDepth 100000 in
theorem zoneOwn_any {A : Option Addr} {n c : Nat} {l : List Ln} {w : World} (hl : SeesIn w (fun k => k < w.heap.size) 3 (.slice A n c) l.length (lns l) ∧ ∀ x ∈ l, x.ok) : Calls Try.prog 3 #[.slice A n c] w fun e w' => e = .returned (.bool true) ∧ Keep none_ w w' := by
  obtain ⟨hs, -⟩ := hl
  obtain ⟨A', c', e, hn1, hn2, -⟩ := id hs
  simp only [Value.slice.injEq, true_and] at e
  obtain ⟨rfl, rfl, rfl⟩ := e
  obtain ⟨m, hm, hm1, hm2, -⟩ := mn_nat l.length 40
  have hm3 : (m : Int) ≤ c := by omega
  simp only [Int.cast_ofNat_Int] at hm
  have HS := Lib.hid hs
  clear hs
  unfold maxLen at hn2
  go_enter Try.func3, Try.ntmps3
  obtain ⟨i0, hi0, hz0, hz1, hz2⟩ := info_parts Try.infoLine
  have HM := Lib.hid (HS.out.take m hm1)
  have hmb : m * 16 ≤ 140737488355328 := by omega
  go_wp2_with (first
    | (go_at_call 8; refine (shown_any _).mono ?_; rintro e w1 ⟨rfl, hk1⟩; have HK1 := Lib.hid hk1; clear hk1)
    | (at_builtin; refine wpList_clone rfl (.tmp 14) (.tmp 19) 22 rfl 27 i0 _ 3 16 Try.underlying22 hi0 hz0 hz1 hz2 rfl (by decide) (fun k => k < w.heap.size) w1.heap.size rfl (heap_alloc_new _ _) _ rfl m ((lns l).take (m * 3)) (HM.out.move (by have := HK1.out.size; simp; omega) (fun k hk hl => ⟨hk, ((Below.heap_alloc w1 _ _ (by have := HK1.out.size; omega)).trans (HK1.out.block k hk (fun c => c)))⟩)) hmb ?_; intro vo w2 ho2 hg2 hnn; have HO2 := Lib.hid ho2; have HG2 := Lib.hid hg2; clear ho2 hg2 hnn))
  have hL : (l.take m).length = m := by rw [List.length_take]; omega
  rw [lns_take] at HO2
  have HO2' : Hid (Own w2 (fun q => q < w2.heap.size ∧ w.heap.size ≤ q) 27 3 vo m (lns (l.take m))) := by
    have := HK1.out.size
    exact HO2.out.move (fun q hq hl => ⟨⟨hl, by simp at hq; omega⟩, rfl⟩)
  have HK2 : Hid (Keep none_ w w2) := Lib.hid ((HK1.out.alloc _).grown HG2.out (fun q hq => .inl (by simp only [Option.some.injEq] at hq; have := HK1.out.size; omega)))
  have HLL := Lib.hid hL
  clear HO2 HG2 HM hL
  generalize l.take m = L at *
  obtain ⟨j0, hj0, hy0, hy1, hy2⟩ := info_parts Try.infoU16
  go_loopw [5, 6] (fun v i wr => ∃ k : Nat, k ≤ m ∧ i = .int .i64 k ∧ Own wr (fun q => w2.heap.size ≤ q) 25 1 v k (ints .u16 ((L.take k).map Ln.loc)) ∧ Own wr (fun q => q < w2.heap.size ∧ w.heap.size ≤ q) 27 3 vo m (lns L) ∧ Keep none_ w wr ∧ w2.heap.size ≤ wr.heap.size) (fun _ i _ => m - (intOf i).toNat)
  case atStart => exact ⟨0, Nat.zero_le _, rfl, by simpa [ints] using Own.nil _ _ _ _, HO2'.out, HK2.out, Nat.le_refl _⟩
  case round =>
    obtain ⟨k, hk, rfl, hown, howo, hkp, hsz⟩ := hrel
    have HOL := Lib.hid hown
    have HOO := Lib.hid howo
    have HKP := Lib.hid hkp
    by_cases hlt : k < m
    · obtain ⟨y, hy⟩ : ∃ y, L[k]? = some y := ⟨_, List.getElem?_eq_getElem (by rw [HLL.out]; exact hlt)⟩
      obtain ⟨g, o, cp', rfl, -, -, hq1, hq2, c0, c1, c2⟩ := sees_line howo.sees hy
      obtain ⟨Ax, cx, rfl, -, -⟩ := hown.len
      have HY := Lib.hid hy
      unfold maxLen at hq2
      have hm1 : k + 1 ≤ maxLen := by unfold maxLen; omega
      have HM1 := Lib.hid hm1
      clear hy hown howo hkp hm1
      go_wp2_with (at_builtin; refine wpList_push rfl (.tmp 27) (.tmp 33) 24 rfl 25 j0 _ 1 2 Try.underlying24 hj0 hy0 hy1 hy2 rfl (by decide) _ #[.int .u16 y.loc] _ k _ rfl HOL.out rfl rfl (by simp [Value.oneCell']) HM1.out (by omega) ?_; intro gg cap w3 ho3 hg3 hlt3; have HO3 := Lib.hid ho3; have HG3 := Lib.hid hg3; clear ho3 hg3)
      refine ⟨⟨k + 1, by omega, by go_num, ?_, ?_, ?_, ?_⟩, by simp [intOf]; omega⟩
      · have e : (L.take (k + 1)).map Ln.loc = (L.take k).map Ln.loc ++ [y.loc] := by rw [List.take_add_one, HY.out]; simp
        rw [e, ints_snoc]
        exact HO3.out.move (fun q hq hl => ⟨by rcases hq with h | h; exact HOL.out.2.1 q h; omega, rfl⟩)
      · exact HOO.out.pushed HG3.out (HOO.out.apart HOL.out (by decide))
      · exact HKP.out.pushed HG3.out (fun q hq => .inl (by have h1 := HOL.out.2.1 q hq; have h2 := HK2.out.size; simp only at h1; omega))
      · have := HG3.out.size; simp at this; omega
    · -- behind the first loop
      obtain ⟨wo, rfl⟩ : ∃ wo : World, wo = wr := ⟨_, rfl⟩
      obtain rfl : k = m := by omega
      have e : L.take k = L := by rw [← HLL.out, List.take_length]
      rw [e] at hown
      have hlocs : Own wo (fun q => w2.heap.size ≤ q ∧ q < wo.heap.size) 25 1 u5 k (ints .u16 (L.map Ln.loc)) :=
        hown.move (fun q hq hl => ⟨⟨hq, hl⟩, rfl⟩)
      have HOLC := Lib.hid hlocs
      have HSEE : Hid (SeesIn wo (fun q => w2.heap.size ≤ q ∧ q < wo.heap.size) 1 u5 (L.map Ln.loc).length (ints .u16 (L.map Ln.loc))) := by
        rw [List.length_map, HLL.out]; exact hlocs.sees
      clear HOL hown hlocs
      have HMB : Hid ((L.map Ln.loc).length * 2 ≤ 140737488355328) := by show _ * 2 ≤ _; rw [List.length_map, HLL.out]; omega
      have HSEO : Hid (SeesIn wo (fun q => q < w2.heap.size ∧ w.heap.size ≤ q) 3 vo L.length (lns L)) := by
        rw [HLL.out]; exact howo.sees
      obtain ⟨Ax, cx, rfl, -, -⟩ := howo.len
      obtain ⟨Ay, cy, rfl, -, -⟩ := HOLC.out.len
      have HWN := Lib.hid (wantsOf_len (L.map Ln.loc) L)
      have HWM := Lib.hid (wantsOf_mem (L.map Ln.loc) L)
      have HCOME := Lib.hid (come_none (L.map Ln.loc) 1 L)
      clear howo hkp
      go_wp2_with fail
      refine (new_out [] wo.heap.size _ (L.map Ln.loc) _ _ HSEE.out HMB.out (Nat.le_refl _) (by simp)).mono ?_
      rintro e w3 ⟨z, rfl, hk3, hz3⟩
      have HK3 := Lib.hid hk3
      have HZ3 := Lib.hid hz3
      clear hk3 hz3
      go_wp2_with fail
      refine (visit_out [] wo.heap.size z _ _ _ 1 _ L (fun q => q < w2.heap.size ∧ w.heap.size ≤ q) _ HZ3.out HK3.out.size (by simp) (HSEO.out.move HK3.out.size (fun q hq hl => ⟨hq, HK3.out.block q hl (fun c => c)⟩)) (fun q hq => .inl (by omega)) (by rw [HLL.out]; omega) HCOME.out).mono ?_
      rintro e w4 ⟨rfl, hk4, hz4⟩
      have hk4' := hk4
      have HK4 : Hid (Keep none_ wo w4) := Lib.hid (HK3.out.out hk4)
      have HZ4 : Hid (ZRep w4 (fun q => wo.heap.size ≤ q ∧ q < w4.heap.size) z _) := Lib.hid (hz4.move (fun q hq hl => ⟨⟨hq.1, hl⟩, rfl⟩))
      clear hk4 hz4 hk4' HK3 HZ3 HCOME HSEE HSEO
      generalize wantsOf (L.map Ln.loc) L = S at *
      obtain ⟨V, hV, hVR⟩ := HZ4.out.field
      have HW := Lib.hid (wants_any V _ _ _ hVR (by show S.length * 16 ≤ _; have := HWN.out; rw [HLL.out] at this; omega))
      clear hVR
      go_wp2_with fail
      refine HW.out.mono ?_
      rintro e w5 ⟨va, rfl, hk5, ho5⟩
      have HO5 : Hid (Own w5 (fun q => w4.heap.size ≤ q ∧ q < w5.heap.size) 27 3 va S.length (lns S)) := ho5.move (fun q hq _ => ⟨by rcases hq with h | h; exact h.elim; exact h, rfl⟩)
      have HK5 := Lib.hid hk5
      obtain ⟨Aa, ca, rfl, -, -⟩ := ho5.len
      have hsb : (vlines (ZS.visit ⟨L.map Ln.loc, some (1, S)⟩)).length = S.length := rfl
      clear hk5 ho5 HW hV
      simp only [vlines]
      have HSB : Hid (S.length * 16 ≤ 140737488355328) := by show _ ≤ _; have := HWN.out; rw [HLL.out] at this; omega
      go_wp2_with (at_builtin; refine wpList_clone rfl (.tmp 47) (.tmp 48) 22 rfl 27 i0 _ 3 16 Try.underlying22 hi0 hz0 hz1 hz2 rfl (by decide) _ w5.heap.size rfl (heap_alloc_new _ _) _ rfl S.length (lns S) (HO5.out.sees.move (by simp) (fun k hk hl => ⟨hk, Below.heap_alloc _ _ _ hl⟩)) HSB.out ?_; intro vw w6 ho6 hg6 hnn; have HO6 := Lib.hid ho6; have HG6 := Lib.hid hg6; clear ho6 hg6 hnn)
      have hK46 : Keep none_ wo w6 := (HK4.out.next HK5.out).next ((((Keep.refl none_ w5).alloc _).grown HG6.out (fun q hq => .inl (by simp only [Option.some.injEq] at hq; omega))))
      have hkr := HKP.out.size
      have h4r := HK4.out.size
      have h5r := HK5.out.size
      have hown6 : Own w6 (fun q => q < w2.heap.size ∧ w.heap.size ≤ q) 27 3 (.slice Ax k cx) k (lns L) := HOO.out.move (fun q hq hl => ⟨hq, hK46.block q hl (fun c => c)⟩)
      have hloc6 : Own w6 (fun q => w2.heap.size ≤ q ∧ q < wo.heap.size) 25 1 (.slice Ay k cy) k (ints .u16 (L.map Ln.loc)) := HOLC.out.move (fun q hq hl => ⟨hq, hK46.block q hl (fun c => c)⟩)
      have hK45 : Keep none_ w4 w6 := HK5.out.next ((((Keep.refl none_ w5).alloc _).grown HG6.out (fun q hq => .inl (by simp only [Option.some.injEq] at hq; omega))))
      have hK56 : Keep none_ w5 w6 := ((((Keep.refl none_ w5).alloc _).grown HG6.out (fun q hq => .inl (by simp only [Option.some.injEq] at hq; omega))))
      have hz6 : ZRep w6 (fun q => wo.heap.size ≤ q ∧ q < w4.heap.size) z _ := HZ4.out.move (fun q hq hl => ⟨hq, hK45.block q hl (fun c => c)⟩)
      have ha6 : Own w6 (fun q => w4.heap.size ≤ q ∧ q < w5.heap.size) 27 3 (.slice Aa S.length ca) S.length (lns S) := HO5.out.move (fun q hq hl => ⟨hq, hK56.block q hl (fun c => c)⟩)
      have hw6 : Own w6 (fun q => w5.heap.size ≤ q) 27 3 vw S.length (lns S) := HO6.out.move (fun q hq hl => ⟨by simp at hq; omega, rfl⟩)
      have hk06 : Keep none_ w w6 := HKP.out.next hK46
      have h2r : w2.heap.size ≤ wo.heap.size := hsz
      have h02 := HK2.out.size
      have HOWN6 := Lib.hid hown6
      have HLOC6 := Lib.hid hloc6
      have HZ6 := Lib.hid hz6
      have HA6 := Lib.hid ha6
      have HW6 := Lib.hid hw6
      have HK06 := Lib.hid hk06
      have h56 := hK56.size
      clear hK46 hown6 hloc6 hK45 hK56 hz6 ha6 hw6 hk06 HO6 HG6 HO5 HZ4 HOO HOLC HK4 HK5
      go_loopw [10] (fun i wq => ∃ j : Nat, j ≤ k ∧ i = .int .i64 j ∧ (∃ xs, Own wq (fun q => q < w2.heap.size ∧ w.heap.size ≤ q) 27 3 (.slice Ax k cx) k xs) ∧ (∃ ys, Own wq (fun q => w2.heap.size ≤ q ∧ q < wo.heap.size) 25 1 (.slice Ay k cy) k ys) ∧ Keep (fun q => w.heap.size ≤ q ∧ q < wo.heap.size) w6 wq) (fun i _ => k - (intOf i).toNat)
      case atStart => exact ⟨0, Nat.zero_le _, rfl, ⟨_, HOWN6.out⟩, ⟨_, HLOC6.out⟩, Keep.refl _ _⟩
      case round =>
        obtain ⟨wq, rfl⟩ : ∃ wq : World, wq = wr := ⟨_, rfl⟩
        obtain ⟨j, hj, rfl, ⟨xs, hxs⟩, ⟨ys, hys⟩, hkq⟩ := hrel
        have HXS := Lib.hid hxs
        have HYS := Lib.hid hys
        have HKQ := Lib.hid hkq
        by_cases hjk : j < k
        · obtain ⟨go, co, e1, hFo, -, -, -⟩ := hxs.form (by omega)
          obtain ⟨gl, cl, e2, hFl, -, -, -⟩ := hys.form (by omega)
          simp only [Value.slice.injEq, true_and] at e1 e2
          obtain ⟨rfl, rfl⟩ := e1
          obtain ⟨rfl, rfl⟩ := e2
          obtain ⟨⟨p0, a0, -⟩, f0⟩ := hxs.cell (j * 3) (by omega)
          obtain ⟨⟨p1, a1, -⟩, f1⟩ := hxs.cell (j * 3 + 1) (by omega)
          obtain ⟨⟨p2, a2, -⟩, f2⟩ := hxs.cell (j * 3 + 2) (by omega)
          have hnl : (Value.slice (some ⟨gl, 0, none⟩) k cy).ownBlock ≠ some go := hys.apart hxs (by decide) go rfl
          have hno : (Value.slice (some ⟨go, 0, none⟩) k cx).ownBlock ≠ some gl := hxs.apart hys (by decide) gl rfl
          have hy1 : Own (((wq.setCell ⟨go, j * 3, none⟩ (.int .u16 0)).setCell ⟨go, j * 3 + 1, none⟩ (.int .u16 0)).setCell ⟨go, j * 3 + 2, none⟩ (.int .i64 0)) (fun q => w2.heap.size ≤ q ∧ q < wo.heap.size) 25 1 (.slice (some ⟨gl, 0, none⟩) k cy) k ys := ((hys.setCell (a := ⟨go, j * 3, none⟩) hnl _).setCell (a := ⟨go, j * 3 + 1, none⟩) hnl _).setCell (a := ⟨go, j * 3 + 2, none⟩) hnl _
          obtain ⟨⟨q0, b0, -⟩, g0⟩ := hy1.cell j (by omega)
          have hx1 : Own (((wq.setCell ⟨go, j * 3, none⟩ (.int .u16 0)).setCell ⟨go, j * 3 + 1, none⟩ (.int .u16 0)).setCell ⟨go, j * 3 + 2, none⟩ (.int .i64 0)) (fun q => q < w2.heap.size ∧ w.heap.size ≤ q) 27 3 (.slice (some ⟨go, 0, none⟩) k cx) k _ := ((hxs.store (j * 3) (.int .u16 0) rfl).store (j * 3 + 1) (.int .u16 0) rfl).store (j * 3 + 2) (.int .i64 0) rfl
          have HX1 := Lib.hid (hx1.setCell (a := ⟨gl, j, none⟩) hno (.int .u16 0))
          have HY1 := Lib.hid (hy1.store j (.int .u16 0) rfl)
          have HF : Hid ((w.heap.size ≤ go ∧ go < wo.heap.size) ∧ (w.heap.size ≤ gl ∧ gl < wo.heap.size)) := by
            show _ ∧ _
            try simp only at hFo hFl
            omega
          clear hnl hno hy1 hx1 hxs hys hkq
          go_wp2
          refine ⟨⟨j + 1, by omega, by go_num, ⟨_, HX1.out⟩, ⟨_, HY1.out⟩, ?_⟩, by simp [intOf]; omega⟩
          exact (((HKQ.out.setCell (p := ⟨go, j * 3, none⟩) (.inr HF.out.1) _).setCell (p := ⟨go, j * 3 + 1, none⟩) (.inr HF.out.1) _).setCell (p := ⟨go, j * 3 + 2, none⟩) (.inr HF.out.1) _).setCell (p := ⟨gl, j, none⟩) (.inr HF.out.2) _
        · -- behind the second loop
          clear hxs hys hkq
          have h67 := HKQ.out.size
          have hz7 : ZRep wq (fun q => wo.heap.size ≤ q ∧ q < w4.heap.size) z _ := HZ6.out.move (fun q hq hl => ⟨hq, HKQ.out.block q hl (by omega)⟩)
          have ha7 : Own wq (fun q => w4.heap.size ≤ q ∧ q < w5.heap.size) 27 3 (.slice Aa S.length ca) S.length (lns S) := HA6.out.move (fun q hq hl => ⟨hq, HKQ.out.block q hl (by omega)⟩)
          have hw7 : Own wq (fun q => w5.heap.size ≤ q) 27 3 vw S.length (lns S) := HW6.out.move (fun q hq hl => ⟨hq, HKQ.out.block q hl (by omega)⟩)
          have hk07 : Keep none_ w wq := HK06.out.trans (HKQ.out.mono (fun q h => .inr h.1))
          have HZ7 := Lib.hid hz7
          have HA7 := Lib.hid ha7
          have HW7 := Lib.hid hw7
          have HK07 := Lib.hid hk07
          clear hz7 ha7 hw7 hk07 HZ6 HA6 HW6 HK06 HKQ HXS HYS HOWN6 HLOC6
          generalize wq = w7 at *
          clear HKP
          obtain ⟨Aw, cw, rfl, -, -⟩ := HW7.out.len
          have hS0 : S.length ≤ 40 := by have := HWN.out; rw [HLL.out] at this; omega
          go_wp2
          go_loopw [11] (fun i wq => ∃ j : Nat, j ≤ S.length ∧ i = .int .i64 j ∧ (∃ xs, Own wq (fun q => w4.heap.size ≤ q ∧ q < w5.heap.size) 27 3 (.slice Aa S.length ca) S.length xs) ∧ Keep (fun q => w4.heap.size ≤ q ∧ q < w5.heap.size) w7 wq) (fun i _ => S.length - (intOf i).toNat)
          case atStart => exact ⟨0, Nat.zero_le _, rfl, ⟨_, HA7.out⟩, Keep.refl _ _⟩
          case round =>
            obtain ⟨wq, rfl⟩ : ∃ wq : World, wq = wr := ⟨_, rfl⟩
            obtain ⟨j, hj, rfl, ⟨xs, hxs⟩, hkq⟩ := hrel
            have HXS := Lib.hid hxs
            have HKQ := Lib.hid hkq
            by_cases hjk : j < S.length
            · obtain ⟨ga, co, e1, hFa, -, -, -⟩ := hxs.form (by omega)
              simp only [Value.slice.injEq, true_and] at e1
              obtain ⟨rfl, rfl⟩ := e1
              obtain ⟨⟨p0, a0, -⟩, f0⟩ := hxs.cell (j * 3) (by omega)
              obtain ⟨⟨p1, a1, -⟩, f1⟩ := hxs.cell (j * 3 + 1) (by omega)
              obtain ⟨⟨p2, a2, -⟩, f2⟩ := hxs.cell (j * 3 + 2) (by omega)
              have HX1 := Lib.hid (((hxs.store (j * 3) (.int .u16 0) rfl).store (j * 3 + 1) (.int .u16 0) rfl).store (j * 3 + 2) (.int .i64 7) rfl)
              have HF := Lib.hid hFa
              clear hxs hkq hFa
              go_wp2
              refine ⟨⟨j + 1, by omega, by go_num, ⟨_, HX1.out⟩, ?_⟩, by simp [intOf]; omega⟩
              exact ((HKQ.out.setCell (p := ⟨ga, j * 3, none⟩) (.inr HF.out) _).setCell (p := ⟨ga, j * 3 + 1, none⟩) (.inr HF.out) _).setCell (p := ⟨ga, j * 3 + 2, none⟩) (.inr HF.out) _
            · -- behind the third loop
              clear hxs hkq
              have h78 := HKQ.out.size
              have hz8 : ZRep wq (fun q => wo.heap.size ≤ q ∧ q < w4.heap.size) z _ := HZ7.out.move (fun q hq hl => ⟨hq, HKQ.out.block q hl (by omega)⟩)
              have hw8 : Own wq (fun q => w5.heap.size ≤ q) 27 3 (.slice Aw S.length cw) S.length (lns S) := HW7.out.move (fun q hq hl => ⟨hq, HKQ.out.block q hl (by omega)⟩)
              have hk08 : Keep none_ w wq := HK07.out.trans (HKQ.out.mono (fun q h => .inr (by omega)))
              have HZ8 := Lib.hid hz8
              have HW8 := Lib.hid hw8
              have HK08 := Lib.hid hk08
              clear hz8 hw8 hk08 HZ7 HA7 HW7 HK07 HKQ HXS
              generalize wq = w8 at *
              go_wp2
              go_loop [12] (fun i => ∃ j : Nat, j ≤ S.length ∧ i = .int .i64 j) (fun i => S.length - (intOf i).toNat)
              case atStart => exact ⟨0, Nat.zero_le _, rfl⟩
              case round =>
                obtain ⟨j, hj, rfl⟩ := hrel
                by_cases hjk : j < S.length
                · obtain ⟨y, hy⟩ : ∃ y, S[j]? = some y := ⟨_, List.getElem?_eq_getElem hjk⟩
                  obtain ⟨g, o, cp', e1, -, -, hq1, hq2, c0, c1, c2⟩ := sees_line HW8.out.sees hy
                  simp only [Value.slice.injEq, true_and] at e1
                  obtain ⟨rfl, rfl⟩ := e1
                  have hym := (HWM.out y (List.mem_of_getElem? hy)).1
                  have HH : Hid (Calls Try.prog 12 #[.pointer (some ⟨z, 0, none⟩), .int .u16 y.loc] w8 fun e w' => e = .returned (.bool true) ∧ w8 = w') := by
                    have := has_any z y.loc _ _ w8 HZ8.out
                    rw [show mem (ZS.locs ⟨L.map Ln.loc, some (1, S)⟩) y.loc = true from hym] at this
                    exact this
                  clear hy hym
                  go_wp2_with (go_at_call 12; refine HH.out.mono ?_; rintro e w9 ⟨rfl, rfl⟩)
                  go_round
                  case rel => exact ⟨j + 1, by omega, by go_num⟩
                  case measure => simp [intOf]; omega
                · obtain ⟨V, hV, hVR⟩ := HZ8.out.field
                  have HW := Lib.hid (wants_any V _ _ _ hVR HSB.out)
                  clear hVR
                  go_wp2_with fail
                  refine HW.out.mono ?_
                  rintro e w9 ⟨vb, rfl, hk9, ho9⟩
                  have HL := Lib.hid (lines_any vb _ S S _ _ w9 ho9.sees (HW8.out.sees.move hk9.size (fun q hq hl => ⟨hq, hk9.block q hl (fun c => c)⟩)))
                  have HK9 := Lib.hid (HK08.out.next hk9)
                  rw [eqL_refl] at HL
                  clear ho9 hk9 HW hV
                  go_wp2_with fail
                  refine HL.out.mono ?_
                  rintro e w10 ⟨rfl, nn, rfl⟩
                  go_wp2
                  go_ret
                  exact ⟨rfl, HK9.out.drewN _⟩
end Go.Proofs.Ytimaaaibpadlpaa
