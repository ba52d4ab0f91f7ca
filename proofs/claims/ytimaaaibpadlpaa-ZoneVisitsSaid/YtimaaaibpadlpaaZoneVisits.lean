import Derived.Test.YtimaaaibpadlpaaZoneOwn
import Derived.Test.YtimaaaibpadlpaaZoneVL
namespace Go.Proofs.Ytimaaaibpadlpaa
set_option linter.unusedVariables false
set_option linter.unusedSimpArgs false
open Go.RowKit

attribute [local go_sem] min2_mn min_two'

set_option maxHeartbeats 4000000 in
set_option maxRecDepth 100000 in
theorem zoneVisits_any {A0 A1 : Option Addr} {n0 c0 n1 c1 : Nat} {l0 : List Int} {l1 : List Ln} {w : World} (h0 : SeesIn w (fun k => k < w.heap.size) 1 (.slice A0 n0 c0) l0.length (ints .u16 l0) ∧ ∀ x ∈ l0, 0 ≤ x ∧ x < 65536)
    (h1 : SeesIn w (fun k => k < w.heap.size) 3 (.slice A1 n1 c1) l1.length (lns l1) ∧ ∀ x ∈ l1, x.ok) (tote : Int) :
    Calls Try.prog 7 #[.slice A0 n0 c0, .slice A1 n1 c1, .int .u16 tote] w fun e w' => e = .returned (.bool true) ∧ Keep none_ w w' := by
  obtain ⟨hs0, -⟩ := h0
  obtain ⟨hs1, -⟩ := h1
  obtain ⟨A', c', e, hn1, hn2, -⟩ := id hs0
  simp only [Value.slice.injEq, true_and] at e
  obtain ⟨rfl, rfl, rfl⟩ := e
  obtain ⟨A', c', e, hn3, hn4, -⟩ := id hs1
  simp only [Value.slice.injEq, true_and] at e
  obtain ⟨rfl, rfl, rfl⟩ := e
  obtain ⟨m0, hm0, hm1, hm2, -⟩ := mn_nat l0.length 40
  have hm3 : (m0 : Int) ≤ c0 := by omega
  simp only [Int.cast_ofNat_Int] at hm0
  obtain ⟨m1, hm4, hm5, hm6, -⟩ := mn_nat l1.length 40
  have hm7 : (m1 : Int) ≤ c1 := by omega
  simp only [Int.cast_ofNat_Int] at hm4
  have e0 : (l0.take m0).length = m0 := by rw [List.length_take]; omega
  have e1 : (l1.take m1).length = m1 := by rw [List.length_take]; omega
  have HS0 : Hid (SeesIn w (fun k => k < w.heap.size) 1 (.slice A0 m0 c0) (l0.take m0).length (ints .u16 (l0.take m0))) := by
    have := hs0.take m0 hm1
    rw [Nat.mul_one, show (ints .u16 l0).take m0 = ints .u16 (l0.take m0) from (List.map_take ..).symm] at this
    rw [e0]; exact this
  have HS1 : Hid (SeesIn w (fun k => k < w.heap.size) 3 (.slice A1 m1 c1) (l1.take m1).length (lns (l1.take m1))) := by
    have := hs1.take m1 hm5
    rw [lns_take] at this
    rw [e1]; exact this
  have HE0 := Lib.hid e0
  have HE1 := Lib.hid e1
  unfold maxLen at hn2 hn4
  clear hs0 hs1 e0 e1
  have HWN := Lib.hid (wantsOf_len (l0.take m0) (l1.take m1))
  have HWM := Lib.hid (wantsOf_mem (l0.take m0) (l1.take m1))
  have HCOME := Lib.hid (come_none (l0.take m0) tote (l1.take m1))
  go_enter Try.func7, Try.ntmps7
  go_wp2_with (go_at_call 8; refine (shown_any _).mono ?_; rintro e w1 ⟨rfl, hk1⟩; have HK1 := Lib.hid hk1; clear hk1)
  generalize l0.take m0 = L0 at *
  generalize l1.take m1 = L1 at *
  have hk1 := HK1.out.size
  refine (new_out [] w1.heap.size _ L0 _ _ (HS0.out.move hk1 (fun q hq hl => ⟨hq, HK1.out.block q hl (fun c => c)⟩)) (by rw [HE0.out]; omega) (Nat.le_refl _) (by simp)).mono ?_
  rintro e w2 ⟨z, rfl, hk2, hz2⟩
  have HK2 := Lib.hid (HK1.out.next hk2)
  have HZ2 := Lib.hid hz2
  obtain ⟨V, hV, hVR⟩ := hz2.field
  have HO := Lib.hid (over_any V _ _ _ hVR)
  have hk2' := hk2.size
  clear hk2 hz2 hVR
  have hov : overB (ZS.visit ⟨L0, none⟩) = false := rfl
  go_wp2_with fail
  refine HO.out.mono ?_
  rintro e w3 ⟨rfl, rfl⟩
  clear HO hV hov
  go_wp2_with fail
  refine (visit_out [] w1.heap.size z _ _ _ tote _ L1 (fun q => q < w.heap.size) _ HZ2.out hk2' (by simp) (HS1.out.move HK2.out.size (fun q hq hl => ⟨hq, HK2.out.block q hl (fun c => c)⟩)) (fun q hq => .inl (by omega)) (by rw [HE1.out]; omega) HCOME.out).mono ?_
  rintro e w4 ⟨rfl, hk4, hz4⟩
  have HK4 : Hid (Keep none_ w w4) := Lib.hid (HK2.out.trans (hk4.mono (fun q h => .inr (by have := h.1; omega))))
  have HZ4 := Lib.hid hz4
  obtain ⟨V, hV, hVR⟩ := hz4.field
  have HW := Lib.hid (wants_any V _ _ _ hVR (by show (wantsOf L0 L1).length * 16 ≤ _; have := HWN.out; rw [HE1.out] at this; omega))
  clear hk4 hz4 hVR
  go_wp2_with fail
  refine HW.out.mono ?_
  rintro e w5 ⟨va, rfl, hk5, ho5⟩
  obtain ⟨Aa, ca, rfl, -, -⟩ := ho5.len
  have HO5 : Hid (Own w5 (fresh none_ w4 w5) 27 3 (.slice Aa (wantsOf L0 L1).length ca) (wantsOf L0 L1).length (lns (wantsOf L0 L1))) := ho5
  have HK5 := Lib.hid (HK4.out.next hk5)
  have HZ5 : Hid (ZRep w5 (out [] w1.heap.size) z _) := Lib.hid (HZ4.out.move (fun q hq hl => ⟨hq, hk5.block q hl (fun c => c)⟩))
  obtain ⟨V, hV, hVR⟩ := HZ5.out.field
  have HO := Lib.hid (over_any V _ _ _ hVR)
  obtain ⟨b, hov⟩ : ∃ b, overB (ZS.visit ⟨L0, some (tote, wantsOf L0 L1)⟩) = b := ⟨_, rfl⟩
  have hbb : (((wantsOf L0 L1).length : Int) == 0) = b := by rw [← hov]; show _ = decide _; cases h : (((wantsOf L0 L1).length : Int) == 0) <;> simp_all
  simp only [vlines]
  clear hk5 ho5 HW hVR HK4 HZ4
  go_wp2_with fail
  refine HO.out.mono ?_
  rintro e w6 ⟨rfl, rfl⟩
  clear HO
  go_wp2
  clear hov hbb
  go_loopw [12, 13] (fun k i wr => ∃ j : Nat, j ≤ m1 ∧ i = .int .i64 j ∧ k = .int .i64 (wantsOf L0 (L1.take j)).length ∧ ∃ n, wr = w5.drewN n) (fun _ i _ => m1 - (intOf i).toNat)
  case atStart => exact ⟨0, Nat.zero_le _, rfl, rfl, 0, rfl⟩
  case round =>
    obtain ⟨j, hj, rfl, rfl, nn, rfl⟩ := hrel
    by_cases hjm : j < m1
    · obtain ⟨y, hy⟩ : ∃ y, L1[j]? = some y := ⟨_, List.getElem?_eq_getElem (by rw [HE1.out]; exact hjm)⟩
      obtain ⟨g, o, cp', e1, -, -, hq1, hq2, c0, c1, c2⟩ := sees_line (HS1.out.move HK5.out.size (fun q hq hl => ⟨hq, HK5.out.block q hl (fun c => c)⟩)) hy
      simp only [Value.slice.injEq, true_and] at e1
      obtain ⟨rfl, -, rfl⟩ := e1
      have HY := Lib.hid hy
      have hjm' : (j : Int) < m1 := by omega
      clear hy
      go_wp2
      go_loopw [14, 15] (fun own i wr => ∃ q : Nat, q ≤ m0 ∧ i = .int .i64 q ∧ own = .bool (mem (L0.take q) y.loc) ∧ ∃ n, wr = w5.drewN n) (fun _ i _ => m0 - (intOf i).toNat)
      case atStart => exact ⟨0, Nat.zero_le _, rfl, rfl, nn, rfl⟩
      case round =>
        obtain ⟨q, hq, rfl, rfl, n2, rfl⟩ := hrel
        by_cases hqm : q < m0
        · obtain ⟨x, hx⟩ : ∃ x, L0[q]? = some x := ⟨_, List.getElem?_eq_getElem (by rw [HE0.out]; exact hqm)⟩
          obtain ⟨gx, ox, cx, e2, -, -, -, -, d0⟩ := sees_int (HS0.out.move HK5.out.size (fun q hq hl => ⟨hq, HK5.out.block q hl (fun c => c)⟩)) hx
          simp only [Value.slice.injEq, true_and] at e2
          obtain ⟨rfl, -, rfl⟩ := e2
          have HMT := Lib.hid (mem_take L0 q x y.loc hx)
          have hqm' : (q : Int) < m0 := by omega
          clear hx
          cases hb : mem (L0.take q) y.loc with
          | true =>
            rw [hb] at HMT
            go_wp2
            go_quiet (fail)
            go_wp2
            refine ⟨⟨q + 1, by omega, by go_num, ?_, n2 + nq, by first | rfl | (rw [World.drewN_drewN])⟩, by simp [intOf]; omega⟩
            rw [HMT.out]
            rfl
          | false =>
            rw [hb] at HMT
            by_cases he : x = y.loc
            · have hbx : (x == y.loc) = true := by simp [he]
              rw [hbx] at HMT
              clear he
              go_wp2
              go_quiet (fail)
              go_wp2
              refine ⟨⟨q + 1, by omega, by go_num, ?_, n2 + nq, by first | rfl | (rw [World.drewN_drewN])⟩, by simp [intOf]; omega⟩
              rw [HMT.out]
              rfl
            · have hbx : (x == y.loc) = false := by simp [he]
              rw [hbx] at HMT
              clear he
              go_wp2
              go_quiet (fail)
              go_wp2
              refine ⟨⟨q + 1, by omega, by go_num, ?_, n2 + nq, by first | rfl | (rw [World.drewN_drewN])⟩, by simp [intOf]; omega⟩
              rw [HMT.out]
              rfl
        · obtain rfl : q = m0 := by omega
          have eL : L0.take q = L0 := by rw [← HE0.out, List.take_length]
          rw [eL]
          go_wp2
          obtain ⟨b0, hb0⟩ : ∃ b0, mem L0 y.loc = b0 := ⟨_, rfl⟩
          rw [hb0]
          have HB0 := Lib.hid hb0
          clear hb0
          go_loopw [14, 16] (fun own i wr => ∃ p : Nat, p ≤ j ∧ i = .int .i64 p ∧ own = .bool (b0 && !cov (L1.take p) y.loc) ∧ ∃ n, wr = w5.drewN n) (fun _ i _ => j - (intOf i).toNat)
          case atStart => exact ⟨0, Nat.zero_le _, rfl, by cases b0 <;> rfl, n2, rfl⟩
          case round =>
            obtain ⟨p, hp, rfl, rfl, n3, rfl⟩ := hrel
            by_cases hpj : p < j
            · obtain ⟨x, hx⟩ : ∃ x, L1[p]? = some x := ⟨_, List.getElem?_eq_getElem (by rw [HE1.out]; omega)⟩
              obtain ⟨gy, oy, cy, e3, -, -, -, -, k0, k1, k2⟩ := sees_line (HS1.out.move HK5.out.size (fun q hq hl => ⟨hq, HK5.out.block q hl (fun c => c)⟩)) hx
              simp only [Value.slice.injEq, Option.some.injEq, Addr.mk.injEq, true_and, and_true] at e3
              obtain ⟨⟨rfl, rfl⟩, -, -⟩ := e3
              have HCT := Lib.hid (cov_take L1 p x y.loc hx)
              have hpj' : (p : Int) < j := by omega
              have hpm' : (p : Int) < m1 := by omega
              clear hx
              cases hb : (b0 && !cov (L1.take p) y.loc) with
              | false =>
                have HBB := Lib.hid hb
                clear hb
                go_wp2
                go_quiet (fail)
                go_wp2
                refine ⟨⟨p + 1, by omega, by go_num, ?_, n3 + nq, by first | rfl | (rw [World.drewN_drewN])⟩, by simp [intOf]; omega⟩
                rw [HCT.out]
                have hbb := HBB.out
                cases b0 <;> cases hc : cov (L1.take p) y.loc <;> simp_all
              | true =>
                have HBB := Lib.hid hb
                clear hb
                by_cases he : x.loc = y.loc
                · have hbx : (x.loc != y.loc) = false := by simp [he]
                  have hby : (x.loc == y.loc) = true := by simp [he]
                  clear he
                  by_cases hq0 : x.qty ≤ 0
                  · have hqd : decide (x.qty ≤ 0) = true := by simpa using hq0
                    have hqe : decide (0 < x.qty) = false := by simpa using hq0
                    rw [hby, hqe] at HCT
                    clear hq0 hby hqe
                    go_wp2
                    go_quiet (fail)
                    go_wp2
                    refine ⟨⟨p + 1, by omega, by go_num, ?_, n3 + nq, by first | rfl | (rw [World.drewN_drewN])⟩, by simp [intOf]; omega⟩
                    rw [HCT.out]
                    have hbb := HBB.out
                    cases b0 <;> cases hc : cov (L1.take p) y.loc <;> simp_all
                  · have hqd : decide (x.qty ≤ 0) = false := by simpa using hq0
                    have hqe : decide (0 < x.qty) = true := by simpa using hq0
                    rw [hby, hqe] at HCT
                    clear hq0 hby hqe
                    go_wp2
                    go_quiet (fail)
                    go_wp2
                    refine ⟨⟨p + 1, by omega, by go_num, ?_, n3 + nq, by first | rfl | (rw [World.drewN_drewN])⟩, by simp [intOf]; omega⟩
                    rw [HCT.out]
                    have hbb := HBB.out
                    cases b0 <;> cases hc : cov (L1.take p) y.loc <;> simp_all
                · have hbx : (x.loc != y.loc) = true := by simp [he]
                  have hby : (x.loc == y.loc) = false := by simp [he]
                  rw [hby] at HCT
                  clear he hby
                  go_wp2
                  go_quiet (fail)
                  go_wp2
                  refine ⟨⟨p + 1, by omega, by go_num, ?_, n3 + nq, by first | rfl | (rw [World.drewN_drewN])⟩, by simp [intOf]; omega⟩
                  rw [HCT.out]
                  have hbb := HBB.out
                  cases b0 <;> cases hc : cov (L1.take p) y.loc <;> simp_all
            · obtain rfl : p = j := by omega
              obtain ⟨b1, hb1⟩ : ∃ b1, (b0 && !cov (L1.take p) y.loc) = b1 := ⟨_, rfl⟩
              rw [hb1]
              have HB1 := Lib.hid hb1
              clear hb1
              cases b1 with
              | false =>
                have HNX := Lib.hid (wants_not L0 L1 p y HY.out (by
                  rintro ⟨h1, h2, -⟩
                  have := HB1.out
                  rw [← HB0.out, h1, h2] at this
                  simp at this))
                go_wp2
                refine ⟨⟨p + 1, by omega, by go_num, by rw [HNX.out], n3, rfl⟩, by simp [intOf]; omega⟩
              | true =>
                have hb2 : mem L0 y.loc = true ∧ cov (L1.take p) y.loc = false := by
                  have := HB1.out
                  rw [← HB0.out] at this
                  cases h1 : mem L0 y.loc <;> cases h2 : cov (L1.take p) y.loc <;> simp_all
                by_cases hq0 : y.qty ≤ 0
                · have hqd : decide (y.qty ≤ 0) = true := by simpa using hq0
                  have HNX := Lib.hid (wants_not L0 L1 p y HY.out (by rintro ⟨-, -, h3⟩; omega))
                  clear hb2 hq0
                  go_wp2
                  refine ⟨⟨p + 1, by omega, by go_num, by rw [HNX.out], n3, rfl⟩, by simp [intOf]; omega⟩
                · have hqd : decide (y.qty ≤ 0) = false := by simpa using hq0
                  obtain ⟨hat, hnx⟩ := wants_at L0 L1 p y HY.out hb2.1 hb2.2 (by omega)
                  have hkl : (wantsOf L0 (L1.take p)).length < (wantsOf L0 L1).length := (List.getElem?_eq_some_iff.1 hat).1
                  obtain ⟨ga, oa, cya, e4, -, -, -, -, s0, s1, s2⟩ := sees_line HO5.out.sees hat
                  simp only [Value.slice.injEq, true_and] at e4
                  obtain ⟨rfl, rfl⟩ := e4
                  have HNX := Lib.hid hnx
                  have hkd : decide ((wantsOf L0 L1).length ≤ (wantsOf L0 (L1.take p)).length) = false := by simp only [decide_eq_false_iff_not]; omega
                  have hki : ((wantsOf L0 (L1.take p)).length : Int) < (wantsOf L0 L1).length := by omega
                  have hneq : ∀ w, (binOp .neq 27 (.agg #[.int .u16 y.item, .int .u16 y.loc, .int .i64 y.qty]) (.agg #[.int .u16 y.item, .int .u16 y.loc, .int .i64 y.qty])).run Try.prog w = .ok (.bool false) w := fun w => by rw [neqLine]; simp
                  have hgd := guardLine
                  have hkm : ((wantsOf L0 (L1.take p)).length : Int) ≤ 40 := by have := HWN.out; rw [HE1.out] at this; omega
                  clear hb2 hq0 hat hnx hkl
                  go_wp2
                  go_quiet (fail)
                  go_wp2
                  refine ⟨⟨p + 1, by omega, by go_num, by rw [HNX.out]; go_num, n3 + nq, by first | rfl | (rw [World.drewN_drewN])⟩, by simp [intOf]; omega⟩
    · obtain rfl : j = m1 := by omega
      have eL : L1.take j = L1 := by rw [← HE1.out, List.take_length]
      rw [eL]
      have hz6 : ZRep (w5.drewN nn) (out [] w1.heap.size) z _ := HZ5.out.move (fun q hq _ => ⟨hq, rfl⟩)
      obtain ⟨V6, hV6, hVR6⟩ := hz6.field
      have HT : Hid (Calls Try.prog 20 #[V6] (w5.drewN nn) fun e w' => e = .returned (.tuple #[.int .u16 tote, .bool true]) ∧ (w5.drewN nn) = w') := tote_any V6 _ _ _ hVR6
      have HZ6 := Lib.hid hz6
      have hsz6 : w1.heap.size ≤ (w5.drewN nn).heap.size := by have := hk2'; have := lt_of_block hz6.2.choose_spec.choose_spec.1; have h1 := HZ5.out.1.1; show w1.heap.size ≤ _; omega
      have HS6 : Hid (SeesIn (w5.drewN nn) (fun q => q < w.heap.size) 3 (.slice A1 j c1) L1.length (lns L1)) := HS1.out.move HK5.out.size (fun q hq hl => ⟨hq, HK5.out.block q hl (fun c => c)⟩)
      have HK6 : Hid (Keep none_ w (w5.drewN nn)) := HK5.out.drewN nn
      clear hz6 hVR6
      generalize w5.drewN nn = w6 at *
      go_wp2_with fail
      refine HT.out.mono ?_
      rintro e w7 ⟨rfl, rfl⟩
      clear HT hV6
      go_wp2_with fail
      refine (visit_out [] w1.heap.size z _ _ (.tuple #[.int .i64 0, .int .i64 7]) tote _ L1 (fun q => q < w.heap.size) _ HZ6.out hsz6 (by simp) HS6.out (fun q hq => .inl (by omega)) (by rw [HE1.out]; omega) rfl).mono ?_
      rintro e w8 ⟨rfl, hk8, hz8⟩
      have HK8 : Hid (Keep none_ w w8) := Lib.hid (HK6.out.trans (hk8.mono (fun q h => .inr (by have := h.1; omega))))
      clear hk8 hz8
      go_wp2
      go_ret
      exact ⟨rfl, HK8.out⟩
end Go.Proofs.Ytimaaaibpadlpaa
