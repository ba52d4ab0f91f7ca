import Derived.Test.YtimaaaibpadlpaaZoneS
import Derived.Test.YtimaaaibpadlpaaMasks
namespace Go.Proofs.Ytimaaaibpadlpaa
set_option linter.unusedVariables false
set_option linter.unusedSimpArgs false
open Go.RowKit

theorem come7 (q : Int) (h : 0 < q) : ZS.come ⟨[7], none⟩ 3 [⟨4, 7, q⟩] = (⟨[7], some (3, [⟨4, 7, q⟩])⟩, .tuple #[.int .i64 1, .int .i64 0]) := by
  have : wantsOf [7] [⟨4, 7, q⟩] = [⟨4, 7, q⟩] := by
    show addLine [7] [] ⟨4, 7, q⟩ = _
    unfold addLine
    rw [if_pos ⟨by rfl, h, by show lidx [] 7 < 0; decide⟩]
    rfl
  simp only [ZS.come, this]
  rfl
theorem pick7 (q a : Int) (h0 : 0 ≤ a) (h1 : a < q) : ZS.pick ⟨[7], some (3, [⟨4, 7, q⟩])⟩ 7 1 a = (⟨[7], some (3, [⟨4, 7, q - a⟩])⟩, .tuple #[.agg #[.int .u16 3, .int .u16 7, .int .u16 4, .int .i64 a, .int .i64 0], .int .i64 0]) := by
  have hi : lidx [⟨4, 7, q⟩] 7 = 0 := by rfl
  simp only [ZS.pick, hi]
  rw [if_neg (by decide), if_neg (by decide)]
  simp only [Int.toNat_zero, List.getElem?_cons_zero]
  rw [if_neg (by omega), if_neg (by decide), if_neg (by omega)]
  rfl
theorem short7 (q b : Int) (h0 : 0 ≤ b) (h1 : b ≤ q) : ZS.pick ⟨[7], some (3, [⟨4, 7, q⟩])⟩ 7 2 b = (⟨[7], some (3, [])⟩, .tuple #[.agg #[.int .u16 3, .int .u16 7, .int .u16 4, .int .i64 b, .int .i64 (q - b)], .int .i64 0]) := by
  have hi : lidx [⟨4, 7, q⟩] 7 = 0 := by rfl
  simp only [ZS.pick, hi]
  rw [if_neg (by decide), if_neg (by decide)]
  simp only [Int.toNat_zero, List.getElem?_cons_zero]
  rw [if_neg (by omega), if_pos trivial]
  rfl

set_option maxHeartbeats 4000000 in
set_option maxRecDepth 100000 in
theorem zoneShort_any (q0 a0 b0 : Int) (w : World) : Calls Try.prog 4 #[.int .i64 q0, .int .i64 a0, .int .i64 b0] w fun e w' => e = .returned (.bool true) ∧ Keep none_ w w' := by
  obtain ⟨q1, hq1, hq2, hq3⟩ := i64_and20_at q0
  obtain ⟨a1, ha1, ha2, ha3⟩ := i64_and20_at a0
  obtain ⟨b1, hb1, hb2, hb3⟩ := i64_and20_at b0
  have hq4 : 0 ≤ q1 % 9999 := by omega
  have hq5 : q1 % 9999 < 9999 := by omega
  have ha4 : 0 ≤ a1 % (1 + q1 % 9999) := Int.emod_nonneg _ (by omega)
  have ha5 : a1 % (1 + q1 % 9999) < 1 + q1 % 9999 := Int.emod_lt_of_pos _ (by omega)
  have hz1 : ((1 + q1 % 9999 : Int) == 0) = false := by rw [beq_eq_false_iff_ne]; omega
  have hz2 : ((1 + q1 % 9999 - a1 % (1 + q1 % 9999) + 1 : Int) == 0) = false := by rw [beq_eq_false_iff_ne]; omega
  go_enter Try.func4, Try.ntmps4
  go_wp2_with (go_at_call 8; refine (shown_any _).mono ?_; rintro e w1 ⟨rfl, hk1⟩; have HK1 := Lib.hid hk1; clear hk1)
  have hb4 : 0 ≤ b1 % (1 + q1 % 9999 - a1 % (1 + q1 % 9999) + 1) := Int.emod_nonneg _ (by omega)
  have hb5 : b1 % (1 + q1 % 9999 - a1 % (1 + q1 % 9999) + 1) < 1 + q1 % 9999 - a1 % (1 + q1 % 9999) + 1 := Int.emod_lt_of_pos _ (by omega)
  have hQ1 : 1 + q1 % 9999 ≤ 9999 := by omega
  have hQ0 : 1 ≤ 1 + q1 % 9999 := by omega
  clear hq1 ha1 hb1 hq4 hq5 hz1 hz2 hq2 hq3 ha2 ha3 hb2 hb3
  generalize 1 + q1 % 9999 = Q at *
  generalize a1 % Q = A at *
  generalize b1 % (Q - A + 1) = B at *
  have s1 := SeesIn.lit w1 #[.int .u16 7] 25 1 1 rfl (by decide) (by decide)
  refine (new_out [] w.heap.size _ [7] (fun k => k = w1.heap.size) _ s1 (by decide) (by have := HK1.out.size; simp; omega) (by simp)).mono ?_
  rintro e w2 ⟨z, rfl, hk2, hz2⟩
  have HK2 := Lib.hid ((HK1.out.alloc (.cells #[.int .u16 7] 25)).next hk2)
  have HZ2 := Lib.hid hz2
  clear hk2 hz2 s1 HK1
  go_wp2_with fail
  have hK2 := HK2.out.size
  have s2 := SeesIn.lit w2 #[.int .u16 4, .int .u16 7, .int .i64 Q] 27 3 1 rfl (by simp [Value.oneCell']) (by decide)
  refine (visit_out [w2.heap.size] w.heap.size z ⟨[7], none⟩ ⟨[7], some (3, [⟨4, 7, Q⟩])⟩ (.tuple #[.int .i64 1, .int .i64 0]) 3 _ [⟨4, 7, Q⟩] (fun k => k = w2.heap.size) _ (HZ2.out.push _) (by simp; omega) (by simp) s2 (fun k hk => .inr (by simpa using hk)) (by simp) (come7 Q (by omega))).mono ?_
  rintro e w3 ⟨rfl, hk3, hz3⟩
  have HK3 := Lib.hid ((HK2.out.alloc (.cells #[.int .u16 4, .int .u16 7, .int .i64 Q] 27)).out hk3)
  have HZ3 : Hid (ZRep w3 (out [] w.heap.size) z _) := Lib.hid (hz3.move (fun k hk _ => ⟨⟨hk.1, by simp⟩, rfl⟩))
  clear hk3 hz3 s2 hK2 HK2 HZ2
  go_wp2_with fail
  refine (picked_out [] w.heap.size z _ _ _ 7 1 A _ HZ3.out HK3.out.size (by simp) (by simp [vlines]; omega) (pick7 Q A ha4 ha5)).mono ?_
  rintro e w4 ⟨rfl, hk4, hz4⟩
  have HK4 := Lib.hid (HK3.out.out hk4)
  have HZ4 := Lib.hid hz4
  clear hk4 hz4 HK3 HZ3
  have hK4 := HK4.out.size
  obtain ⟨V, hV, hVR⟩ := (HZ4.out.push (.cells #[.int .u16 3, .int .u16 7, .int .u16 4, .int .i64 A, .int .i64 0] 41)).field
  have HW := Lib.hid (wants_any V _ _ _ hVR (by simp [vlines]))
  clear hVR
  go_wp2_with fail
  refine HW.out.mono ?_
  rintro e w5 ⟨wv, rfl, hk5, ho5⟩
  obtain ⟨g, gc, rfl, -, -, -, -⟩ := ho5.form (by simp [vlines])
  have hb5' := (hk5.block w4.heap.size (by simp) (fun c => c)).trans (heap_alloc_new w4 (.cells #[.int .u16 3, .int .u16 7, .int .u16 4, .int .i64 A, .int .i64 0] 41))
  have hz5 := (HZ4.out.push (.cells #[.int .u16 3, .int .u16 7, .int .u16 4, .int .i64 A, .int .i64 0] 41)).move (w' := w5) (G := out [w4.heap.size] w.heap.size) (fun q hq hl => ⟨hq, hk5.block q hl (fun c => c)⟩)
  have hl5 := lt_of_block hb5'
  obtain ⟨V5, hV5, hVR5⟩ := hz5.field
  have HO := Lib.hid (over_any V5 _ _ _ hVR5)
  have x3 : w5.cell? ⟨w4.heap.size, 3, none⟩ = some (.int .i64 A) := by simp [World.cell?, hb5']
  have x4 : w5.cell? ⟨w4.heap.size, 4, none⟩ = some (.int .i64 0) := by simp [World.cell?, hb5']
  have x5 : w5.cell? ⟨g, 2, none⟩ = some (.int .i64 (Q - A)) := by rw [ho5.1.cellAt 2 (by simp [vlines])]; rfl
  have HK5 := Lib.hid ((HK4.out.alloc (.cells #[.int .u16 3, .int .u16 7, .int .u16 4, .int .i64 A, .int .i64 0] 41)).next hk5)
  have HZ5 := Lib.hid hz5
  generalize w4.heap.size = b1 at *
  clear hk5 hz5 hVR5 HK4 HZ4 hV hb5' ho5
  have hov : overB (ZS.visit ⟨[7], some (3, [⟨4, 7, Q - A⟩])⟩) = false := by rfl
  have hlen : (vlines (ZS.visit ⟨[7], some (3, [⟨4, 7, Q - A⟩])⟩)).length = 1 := rfl
  go_wp2_with fail
  refine HO.out.mono ?_
  rintro e w6 ⟨rfl, rfl⟩
  clear HO x3 x4 x5 hV5
  go_wp2_with fail
  have hK5 := HK5.out.size
  refine (picked_out [b1] w.heap.size z _ _ _ 7 2 B _ HZ5.out (by omega) (by simp; omega) (by simp [vlines]; omega) (short7 (Q - A) B hb4 (by omega))).mono ?_
  rintro e w6 ⟨rfl, hk6, hz6⟩
  have HK6 := Lib.hid (HK5.out.out hk6)
  have HZ6 : Hid (ZRep w6 (out [] w.heap.size) z _) := Lib.hid (hz6.move (fun k hk _ => ⟨⟨hk.1, by simp⟩, rfl⟩))
  clear hk6 hz6 HK5 HZ5 hK5
  go_wp2_with fail
  have hK6 := HK6.out.size
  refine (picked_out [w6.heap.size] w.heap.size z _ ⟨[7], some (3, [])⟩ (.tuple #[.agg #[.int .u16 0, .int .u16 0, .int .u16 0, .int .i64 0, .int .i64 0], .int .i64 6]) 7 2 0 _ (HZ6.out.push _) (by simp; omega) (by simp) (by simp [vlines]) (by rfl)).mono ?_
  rintro e w7 ⟨rfl, hk7, hz7⟩
  have hb7 := box_out (heap_alloc_new w6 (.cells #[.int .u16 3, .int .u16 7, .int .u16 4, .int .i64 B, .int .i64 (Q - A - B)] 41)) (List.mem_singleton.2 rfl) hk7
  have HK7 := Lib.hid ((HK6.out.alloc (.cells #[.int .u16 3, .int .u16 7, .int .u16 4, .int .i64 B, .int .i64 (Q - A - B)] 41)).out hk7)
  have hl7 := lt_of_block hb7
  have hz8 := hz7.alloc (.cells #[.int .u16 0, .int .u16 0, .int .u16 0, .int .i64 0, .int .i64 0] 41)
  obtain ⟨V8, hV8, hVR8⟩ := hz8.field
  have HO := Lib.hid (over_any V8 _ _ _ hVR8)
  generalize w6.heap.size = b2 at *
  have y0 : w7.cell? ⟨b2, 0, none⟩ = some (.int .u16 3) := by simp [World.cell?, hb7]
  have y2 : w7.cell? ⟨b2, 2, none⟩ = some (.int .u16 4) := by simp [World.cell?, hb7]
  have y3 : w7.cell? ⟨b2, 3, none⟩ = some (.int .i64 B) := by simp [World.cell?, hb7]
  have y4 : w7.cell? ⟨b2, 4, none⟩ = some (.int .i64 (Q - A - B)) := by simp [World.cell?, hb7]
  clear hk7 hz7 hz8 hVR8 HK6 HZ6 hb7 hK6
  have hov2 : overB (ZS.visit ⟨[7], some (3, [])⟩) = true := by rfl
  go_wp2_with fail
  refine HO.out.mono ?_
  rintro e w8 ⟨rfl, rfl⟩
  clear HO
  go_wp2
  go_ret
  exact ⟨rfl, HK7.out.alloc _⟩
end Go.Proofs.Ytimaaaibpadlpaa
