import Derived.Test.YtimaaaibpadlpaaZone2
namespace Go.Proofs.Ytimaaaibpadlpaa
set_option linter.unusedVariables false
set_option linter.unusedSimpArgs false
open Go.RowKit

theorem zeroLine (m : Nat) : ∀ u ∈ (Builtin.zeroCells (Value.agg #[.int .u16 0, .int .u16 0, .int .i64 0]).cells m).toList, u.oneCell' = true := by
  intro u hu
  simp only [Builtin.zeroCells, Array.toList_map, List.mem_map] at hu
  obtain ⟨i, -, rfl⟩ := hu
  have h3 : (Value.agg #[.int .u16 0, .int .u16 0, .int .i64 0]).cells = #[.int .u16 0, .int .u16 0, .int .i64 0] := by rfl
  rw [h3]
  have : i % 3 = 0 ∨ i % 3 = 1 ∨ i % 3 = 2 := by omega
  show (#[Value.int .u16 0, .int .u16 0, .int .i64 0][i % 3]!).oneCell' = true
  rcases this with h | h | h <;> rw [h] <;> rfl
theorem Try.zeroLine (w : World) : (zeroValue 27).run Try.prog w = .ok (.agg #[.int .u16 0, .int .u16 0, .int .i64 0]) w := by kernel_rfl

set_option maxHeartbeats 1000000 in
theorem deleteL (g cap n i : Nat) (xs : List Value) (F : Nat → Prop) (w : World) (h : Own w F 27 3 (.slice (some ⟨g, 0, none⟩) n cap) n xs) (hin : i < n) :
    Calls Try.prog 26 #[.slice (some ⟨g, 0, none⟩) n cap, .int .i64 i, .int .i64 (i + 1)] w fun e w' =>
      e = .returned (.slice (some ⟨g, 0, none⟩) (n - 1) cap) ∧ Own w' F 27 3 (.slice (some ⟨g, 0, none⟩) (n - 1) cap) (n - 1) (xs.take (i * 3) ++ xs.drop ((i + 1) * 3)) ∧ w.grownBy w' (some g) := by
  obtain ⟨i0, hi0, hz0, hz1, hz2⟩ := info_parts Try.infoLine
  obtain ⟨cur, hg, hnc, hcm, hcs, htake⟩ := h.block
  have hd : Own w.drew F 27 3 (.slice (some ⟨g, 0, none⟩) n cap) n xs := h.move (fun k hk _ => ⟨hk, rfl⟩)
  obtain ⟨A, hA⟩ : ∃ A : Addr, (if cap = i + 1 then (⟨g, 0, none⟩ : Addr) else ⟨g, (i + 1) * 3, none⟩) = A := ⟨_, rfl⟩
  have hA' : (if cap = i + 1 then some (⟨g, 0, none⟩ : Addr) else some ⟨g, (i + 1) * 3, none⟩) = some A := by rw [← hA]; split <;> rfl
  obtain ⟨w1, hr1, ho1, hg1⟩ := del_append (P := Try.prog) Try.underlying22 hi0 hz1 (by decide) hd i (i + 1) (by omega) hin A hA.symm 22
  rw [show i + (n - (i + 1)) = n - 1 by omega] at hr1 ho1
  obtain ⟨w2, hr2, ho2, hg2⟩ := del_clear (P := Try.prog) Try.underlying22 Try.zeroLine (by rfl) zeroLine ho1 1 (by omega) (cap - (n - 1)) 0
  have HR1 := Lib.hid hr1
  have HR2 := Lib.hid hr2
  have HO := Lib.hid ho2
  have HG : Hid (w.grownBy w2 (some g)) := ⟨hg2.os.trans hg1.os, hg2.tape.trans hg1.tape, hg2.output.trans hg1.output, Nat.le_trans hg1.size hg2.size, fun k hk hn => (hg2.block k (Nat.lt_of_lt_of_le hk hg1.size) hn).trans (hg1.block k hk hn)⟩
  unfold maxLen at hcm
  have hi1 : (i : Int) < n := by omega
  have hicap : i ≤ cap := by omega
  clear hr1 hr2 ho1 ho2 hg1 hg2 hd h hg hcs htake hA
  go_enter Try.func26, Try.ntmps26
  have hp0 : (0 : Int) ≤ (i : Int) + 1 := by omega
  have hp1 : (i : Int) + 1 ≤ (n : Int) := by omega
  have hp2 : ((i : Int) + 1).toNat = i + 1 := by omega
  have hn1 : n - 1 ≤ cap := by omega
  have hn2 : (n : Int) ≤ cap := by omega
  have hn3 : ((n - 1 : Nat) : Int) ≤ n := by omega
  have hn4 : n - (n - 1) = 1 := by omega
  have hn5 : ¬ cap = n - 1 := by omega
  have hcc : ∀ o, (if cap = n - 1 then some (⟨g, 0, none⟩ : Addr) else o) = o := fun o => if_neg hn5
  go_wp2
  go_region_law (refine step_append_run rfl (.tmp 22) (.tmp 25) 22 rfl _ _ (by rfl) (by rfl) _ _ HR1.out ?_)
  all_goals
    go_wp2_with (refine wpList_clear_run (o := ⟨none, .call { callee := .builtin .clear, args := #[.tmp 31], argTypes := #[22] }, _, _, _, _⟩) rfl (.tmp 31) 22 rfl _ rfl _ _ HR2.out ?_)
    go_ret
    exact ⟨rfl, HO.out, HG.out⟩
end Go.Proofs.Ytimaaaibpadlpaa
