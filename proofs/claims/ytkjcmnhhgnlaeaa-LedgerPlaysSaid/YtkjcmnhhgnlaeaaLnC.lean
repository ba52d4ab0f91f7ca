import Derived.Test.YtkjcmnhhgnlaeaaCod
namespace Go.Proofs.Ytkjcmnhhgnlaeaa
set_option linter.unusedVariables false
set_option linter.unusedSimpArgs false
open Go.RowKit

structure Ln where
  item : Int
  loc : Int
  qty : Int
deriving DecidableEq
def Ln.cs (x : Ln) : List Value := [.int .u16 x.item, .int .u16 x.loc, .int .i64 x.qty]
def lns (l : List Ln) : List Value := l.flatMap Ln.cs
theorem Ln.three (x : Ln) : x.cs.length = 3 := rfl
theorem lns_len (l : List Ln) : (lns l).length = l.length * 3 := fl_len Ln.three l
theorem lns_one (l : List Ln) : ∀ u ∈ lns l, u.oneCell' = true := by
  intro u hu
  obtain ⟨x, _, hx⟩ := List.mem_flatMap.1 hu
  simp only [Ln.cs, List.mem_cons, List.not_mem_nil, or_false] at hx
  rcases hx with rfl | rfl | rfl <;> rfl
theorem lns_snoc (l : List Ln) (y : Ln) : lns (l ++ [y]) = lns l ++ y.cs := fl_snoc l y
theorem sees_line {w : World} {F : Nat → Prop} {v : Value} {n : Nat} {l : List Ln} (h : SeesIn w F 3 v n (lns l)) (hn : n = l.length) {k : Nat} {y : Ln} (hy : l[k]? = some y) : ∃ g o c, v = .slice (some ⟨g, o, none⟩) n c ∧ n ≤ c ∧ c ≤ 9223372036854775807 ∧ F g ∧ g < w.heap.size ∧
    w.cell? ⟨g, o + k * 3, none⟩ = some (.int .u16 y.item) ∧ w.cell? ⟨g, o + k * 3 + 1, none⟩ = some (.int .u16 y.loc) ∧ w.cell? ⟨g, o + k * 3 + 2, none⟩ = some (.int .i64 y.qty) := by
  obtain ⟨g, o, c, e, h1, h2, hF, hg, hc⟩ := sees_get Ln.three h hn hy
  exact ⟨g, o, c, e, h1, by unfold maxLen at h2; omega, hF, hg, hc 0 _ rfl, by rw [Nat.add_assoc]; exact hc 1 _ rfl, by rw [Nat.add_assoc]; exact hc 2 _ rfl⟩
theorem Try.infoLine : (Try.prog.info? 59).map (fun i => (i.zero, i.size, i.bytes)) = some (some (.agg #[.int .u16 0, .int .u16 0, .int .i64 0]), 3, 16) := by kernel_rfl
end Go.Proofs.Ytkjcmnhhgnlaeaa
