import Derived.Test.YtimaaaibpadlpaaZoneL
namespace Go.Proofs.Ytimaaaibpadlpaa
set_option linter.unusedVariables false
set_option linter.unusedSimpArgs false
open Go.RowKit

theorem neqPick (w : World) (a b c d e a' b' c' d' e' : Int) : (binOp .eql 41 (.agg #[.int .u16 a, .int .u16 b, .int .u16 c, .int .i64 d, .int .i64 e]) (.agg #[.int .u16 a', .int .u16 b', .int .u16 c', .int .i64 d', .int .i64 e'])).run Try.prog w = .ok (.bool (a == a' && (b == b' && (c == c' && (d == d' && e == e'))))) w :=
  eql_of Try.underlying41 (by kernel_rfl) (fld_cons (by rfl) (by go_simp; rfl) (by go_simp; rfl) (by go_simp) (fld_cons (by rfl) (by go_simp; rfl) (by go_simp; rfl) (by go_simp) (fld_cons (by rfl) (by go_simp; rfl) (by go_simp; rfl) (by go_simp) (fld_cons (by rfl) (by go_simp; rfl) (by go_simp; rfl) (by go_simp) (fld_last (by rfl) (by go_simp; rfl) (by go_simp; rfl) (by go_simp))))))
theorem guardPick : Try.prog.eqGuardType Try.prog.depth 41 = false := by kernel_rfl

set_option maxHeartbeats 4000000 in
set_option maxRecDepth 100000 in
theorem shown_any (w : World) : Calls Try.prog 8 #[] w fun e w' => e = .returned (.bool true) ∧ Keep none_ w w' := by
  have s1 := SeesIn.lit w #[.int .u16 1, .int .u16 2] 25 1 2 rfl (by decide) (by decide)
  go_enter Try.func8, Try.ntmps8
  go_wp2_with fail
  refine (new_out [] w.heap.size _ [1, 2] (fun k => k = w.heap.size) _ s1 (by decide) (by simp) (by simp)).mono ?_
  rintro e w1 ⟨z, rfl, hk1, hz1⟩
  have hK1 := (Keep.refl none_ w).alloc (.cells #[.int .u16 1, .int .u16 2] 25) |>.next hk1
  have HK1 := Lib.hid hK1
  have HZ1 := Lib.hid hz1
  clear hk1 hz1 s1 hK1
  go_wp2_with fail
  have hK1 := HK1.out.size
  have s2 := SeesIn.lit w1 #[.int .u16 5, .int .u16 1, .int .i64 5, .int .u16 6, .int .u16 3, .int .i64 1] 27 3 2 rfl (by decide) (by decide)
  refine (visit_out [w1.heap.size] w.heap.size z ⟨[1, 2], none⟩ ⟨[1, 2], some (9, [⟨5, 1, 5⟩])⟩ (.tuple #[.int .i64 1, .int .i64 0]) 9 _ [⟨5, 1, 5⟩, ⟨6, 3, 1⟩] (fun k => k = w1.heap.size) _ (HZ1.out.push _) (by simp; omega) (by simp) s2 (fun k hk => .inr (by simpa using hk)) (by decide) (by rfl)).mono ?_
  rintro e w2 ⟨rfl, hk2, hz2⟩
  have HK2 := Lib.hid ((HK1.out.alloc (.cells #[.int .u16 5, .int .u16 1, .int .i64 5, .int .u16 6, .int .u16 3, .int .i64 1] 27)).out hk2)
  have HZ2 : Hid (ZRep w2 (out [] w.heap.size) z _) := Lib.hid (hz2.move (fun k hk _ => ⟨⟨hk.1, by simp⟩, rfl⟩))
  clear hk2 hz2 s2 hK1 HK1 HZ1
  go_wp2_with fail
  refine (picked_out [] w.heap.size z _ ⟨[1, 2], some (9, [⟨5, 1, 3⟩])⟩ (.tuple #[.agg #[.int .u16 9, .int .u16 1, .int .u16 5, .int .i64 2, .int .i64 0], .int .i64 0]) 1 1 2 _ HZ2.out HK2.out.size (by simp) (by decide) (by rfl)).mono ?_
  rintro e w3 ⟨rfl, hk3, hz3⟩
  have HK3 := Lib.hid (HK2.out.out hk3)
  have HZ3 := Lib.hid hz3
  clear hk3 hz3 HK2 HZ2
  go_wp2_with fail
  have hK3 := HK3.out.size
  refine (picked_out [w3.heap.size] w.heap.size z _ ⟨[1, 2], some (9, [⟨5, 1, 3⟩])⟩ (.tuple #[.agg #[.int .u16 0, .int .u16 0, .int .u16 0, .int .i64 0, .int .i64 0], .int .i64 10]) 1 1 4 _ (HZ3.out.push _) (by simp; omega) (by simp) (by decide) (by rfl)).mono ?_
  rintro e w4 ⟨rfl, hk4, hz4⟩
  have HK4 := Lib.hid ((HK3.out.alloc (.cells #[.int .u16 9, .int .u16 1, .int .u16 5, .int .i64 2, .int .i64 0] 41)).out hk4)
  have HZ4 := Lib.hid hz4
  have HB4 := Lib.hid (box_out (heap_alloc_new w3 (.cells #[.int .u16 9, .int .u16 1, .int .u16 5, .int .i64 2, .int .i64 0] 41)) (List.mem_singleton.2 rfl) hk4)
  generalize w3.heap.size = b1 at *
  clear hk4 hz4 HK3 HZ3 hK3
  go_wp2_with fail
  have hK4 := HK4.out.size
  have hB4 := lt_of_block HB4.out
  refine (picked_out [w4.heap.size, b1] w.heap.size z _ ⟨[1, 2], some (9, [])⟩ (.tuple #[.agg #[.int .u16 9, .int .u16 1, .int .u16 5, .int .i64 1, .int .i64 2], .int .i64 0]) 1 2 1 _ (HZ4.out.push _) (by simp; omega) (by simp; omega) (by decide) (by rfl)).mono ?_
  rintro e w5 ⟨rfl, hk5, hz5⟩
  have HK5 := Lib.hid ((HK4.out.alloc (.cells #[.int .u16 0, .int .u16 0, .int .u16 0, .int .i64 0, .int .i64 0] 41)).out hk5)
  have HZ5 : Hid (ZRep w5 (out [b1] w.heap.size) z _) := Lib.hid (hz5.move (fun k hk _ => ⟨⟨hk.1, fun c => hk.2 (by simp at c; simp [c])⟩, rfl⟩))
  have HB5 := Lib.hid (box_out ((Below.heap_alloc w4 (.cells #[.int .u16 0, .int .u16 0, .int .u16 0, .int .i64 0, .int .i64 0] 41) b1 hB4).trans HB4.out) (by simp) hk5)
  clear hk5 hz5 HK4 HZ4 hK4 hB4 HB4
  -- Over, of z's field
  have hK5 := HK5.out.size
  obtain ⟨V, hV, hVR⟩ := (HZ5.out.push (.cells #[.int .u16 9, .int .u16 1, .int .u16 5, .int .i64 1, .int .i64 2] 41)).field
  have HO := Lib.hid (over_any V _ _ _ hVR)
  clear hVR
  go_wp2_with fail
  refine HO.out.mono ?_
  rintro e w6 ⟨rfl, rfl⟩
  clear HO hV
  go_wp2_with fail
  refine (leave_out [w5.heap.size, b1] w.heap.size z _ ⟨[1, 2], none⟩ (.tuple #[.int .u16 9, .int .i64 0]) _ (HZ5.out.push (.cells #[.int .u16 9, .int .u16 1, .int .u16 5, .int .i64 1, .int .i64 2] 41)) (by rfl)).mono ?_
  rintro e w6 ⟨rfl, hk6, hz6⟩
  have hB5 := lt_of_block HB5.out
  have HK6 := Lib.hid ((HK5.out.alloc (.cells #[.int .u16 9, .int .u16 1, .int .u16 5, .int .i64 1, .int .i64 2] 41)).out hk6)
  have HZ6 := Lib.hid hz6
  have hb1 := (box_out ((Below.heap_alloc w5 (.cells #[.int .u16 9, .int .u16 1, .int .u16 5, .int .i64 1, .int .i64 2] 41) b1 hB5).trans HB5.out) (by simp) hk6)
  have hb3 := (box_out (heap_alloc_new w5 (.cells #[.int .u16 9, .int .u16 1, .int .u16 5, .int .i64 1, .int .i64 2] 41)) (by simp) hk6)
  clear hk6 hz6 HK5 HZ5 HB5 hB5 hK5
  generalize w5.heap.size = b3 at *
  have x0 : w6.cell? ⟨b1, 0, none⟩ = some (.int .u16 9) := by simp [World.cell?, hb1]
  have x1 : w6.cell? ⟨b1, 1, none⟩ = some (.int .u16 1) := by simp [World.cell?, hb1]
  have x2 : w6.cell? ⟨b1, 2, none⟩ = some (.int .u16 5) := by simp [World.cell?, hb1]
  have x3 : w6.cell? ⟨b1, 3, none⟩ = some (.int .i64 2) := by simp [World.cell?, hb1]
  have x4 : w6.cell? ⟨b1, 4, none⟩ = some (.int .i64 0) := by simp [World.cell?, hb1]
  have y0 : w6.cell? ⟨b3, 0, none⟩ = some (.int .u16 9) := by simp [World.cell?, hb3]
  have y1 : w6.cell? ⟨b3, 1, none⟩ = some (.int .u16 1) := by simp [World.cell?, hb3]
  have y2 : w6.cell? ⟨b3, 2, none⟩ = some (.int .u16 5) := by simp [World.cell?, hb3]
  have y3 : w6.cell? ⟨b3, 3, none⟩ = some (.int .i64 1) := by simp [World.cell?, hb3]
  have y4 : w6.cell? ⟨b3, 4, none⟩ = some (.int .i64 2) := by simp [World.cell?, hb3]
  clear hb1 hb3
  have hgd := guardPick
  have hov : overB (ZS.visit ⟨[1, 2], some (9, [])⟩) = true := by rfl
  have he1 : ∀ w : World, (binOp .eql 41 (.agg #[.int .u16 9, .int .u16 1, .int .u16 5, .int .i64 2, .int .i64 0]) (.agg #[.int .u16 9, .int .u16 1, .int .u16 5, .int .i64 2, .int .i64 0])).run Try.prog w = .ok (.bool true) w := fun w => neqPick w ..
  have he2 : ∀ w : World, (binOp .eql 41 (.agg #[.int .u16 9, .int .u16 1, .int .u16 5, .int .i64 1, .int .i64 2]) (.agg #[.int .u16 9, .int .u16 1, .int .u16 5, .int .i64 1, .int .i64 2])).run Try.prog w = .ok (.bool true) w := fun w => neqPick w ..
  have HH2 : Hid (Calls Try.prog 12 #[.pointer (some ⟨z, 0, none⟩), .int .u16 2] w6 fun e w' => e = .returned (.bool true) ∧ w6 = w') := has_any z 2 _ _ w6 HZ6.out
  have HH3 : Hid (Calls Try.prog 12 #[.pointer (some ⟨z, 0, none⟩), .int .u16 3] w6 fun e w' => e = .returned (.bool false) ∧ w6 = w') := has_any z 3 _ _ w6 HZ6.out
  go_wp2_with fail
  refine HH2.out.mono ?_
  rintro e w7 ⟨rfl, rfl⟩
  clear HH2
  go_wp2_with fail
  refine HH3.out.mono ?_
  rintro e w7 ⟨rfl, rfl⟩
  clear HH3
  go_wp2
  go_ret
  exact ⟨rfl, HK6.out⟩
end Go.Proofs.Ytimaaaibpadlpaa
