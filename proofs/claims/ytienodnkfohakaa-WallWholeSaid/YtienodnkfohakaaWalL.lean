import Derived.Test.YtienodnkfohakaaWalK
import Derived.Test.YtienodnkfohakaaAppL
namespace Go.Proofs.Ytienodnkfohakaa
set_option linter.unusedVariables false
set_option linter.unusedSimpArgs false
open Go.RowKit
theorem lns_put (l : List Ln) (z : Ln) : ∀ j, j < l.length → (((lns l).set (j * 3) (.int .u16 z.item)).set (j * 3 + 1) (.int .u16 z.loc)).set (j * 3 + 2) (.int .i64 z.qty) = lns (l.set j z) := by
  induction l with
  | nil => intro j h; simp at h
  | cons y l ih =>
    intro j h
    have e : ∀ (u : Ln) (us : List Ln), lns (u :: us) = .int .u16 u.item :: .int .u16 u.loc :: .int .i64 u.qty :: lns us := fun u us => by simp [lns, Ln.cs]
    cases j with
    | zero => rw [List.set_cons_zero, e, e]; rfl
    | succ j =>
      rw [List.set_cons_succ, e, e, show (j + 1) * 3 = j * 3 + 1 + 1 + 1 by omega, show j * 3 + 1 + 1 + 1 + 1 = j * 3 + 1 + 1 + 1 + 1 from rfl, show j * 3 + 1 + 1 + 1 + 2 = j * 3 + 2 + 1 + 1 + 1 by omega]
      simp only [List.set_cons_succ]
      rw [ih j (by simpa using h)]
/-- A line of a row of ours is written. -/
theorem Has.rowPut {w0 w : World} {L : List (Asrt w0.heap.size)} (H : Has w0 w L) {i n d : Nat} {e : TypeId} {B : Option Addr} {l : List Ln} (hi : L[i]? = some (OwnA w0.heap.size e 3 (.slice B n d) n (lns l))) (hn : n = l.length) {j : Nat} (hj : j < n) :
    ∃ g, B = some ⟨g, 0, none⟩ ∧ n ≤ d ∧ d ≤ 9223372036854775807 ∧ (∃ u0 u1 u2, w.cell? ⟨g, j * 3, none⟩ = some u0 ∧ w.cell? ⟨g, j * 3 + 1, none⟩ = some u1 ∧ w.cell? ⟨g, j * 3 + 2, none⟩ = some u2) ∧
      w.frozen? ⟨g, j * 3, none⟩ = false ∧ w.frozen? ⟨g, j * 3 + 1, none⟩ = false ∧ w.frozen? ⟨g, j * 3 + 2, none⟩ = false ∧ ∀ z : Ln, Has w0 (set3 w g (j * 3) z) (L.set i (OwnA w0.heap.size e 3 (.slice B n d) n (lns (l.set j z)))) := by
  subst hn
  obtain ⟨y, hy⟩ : ∃ y, l[j]? = some y := ⟨_, List.getElem?_eq_getElem hj⟩
  obtain ⟨g', eB, h1, h2, ⟨c0, c1, c2⟩, -⟩ := H.rowLn hi hy hj
  subst eB
  obtain ⟨F, hz, hF, hback⟩ := H.call hi
  have ho : Own w F e 3 (.slice (some ⟨g', 0, none⟩) l.length d) l.length (lns l) := hz
  obtain ⟨g, c, ev, hFg, -⟩ := ho.form (by omega)
  simp only [Value.slice.injEq, Option.some.injEq, Addr.mk.injEq, and_true, true_and] at ev
  obtain ⟨rfl, rfl⟩ := ev
  refine ⟨g', rfl, h1, h2, ⟨_, _, _, c0, c1, c2⟩, (ho.cell (j * 3) (by omega)).2, (ho.cell (j * 3 + 1) (by omega)).2, (ho.cell (j * 3 + 2) (by omega)).2, fun z => ?_⟩
  refine hback _ _ ((((Keep.refl _ _).setCell (.inr hFg) _).setCell (.inr hFg) _).setCell (.inr hFg) _) ?_
  have := ((ho.store (j * 3) (.int .u16 z.item) rfl).store (j * 3 + 1) (.int .u16 z.loc) rfl).store (j * 3 + 2) (.int .i64 z.qty) rfl
  rw [lns_put l z j hj] at this
  exact this.move (fun k hk _ => ⟨.inl hk, rfl⟩)
theorem neqLine (w : World) (x y : Ln) : (binOp .neq 35 (.agg #[.int .u16 x.item, .int .u16 x.loc, .int .i64 x.qty]) (.agg #[.int .u16 y.item, .int .u16 y.loc, .int .i64 y.qty])).run Try.prog w = .ok (.bool (!(x.item == y.item && (x.loc == y.loc && x.qty == y.qty)))) w :=
  neq_of Try.underlying35 (by kernel_rfl) (fld_cons (by rfl) (by go_simp; rfl) (by go_simp; rfl) (by go_simp) (fld_cons (by rfl) (by go_simp; rfl) (by go_simp; rfl) (by go_simp) (fld_last (by rfl) (by go_simp; rfl) (by go_simp; rfl) (by go_simp))))
theorem guardLine : Try.prog.eqGuardType Try.prog.depth 35 = false := by kernel_rfl
/-- A new row without elements. -/
theorem Has.newRow {w0 w : World} {L : List (Asrt w0.heap.size)} (H : Has w0 w L) (e : TypeId) (sz : Nat) : Has w0 (w.alloc (.cells #[] e)) (L ++ [OwnA w0.heap.size e sz (.slice (some ⟨w.heap.size, 0, none⟩) 0 0) 0 []]) :=
  H.new ((Keep.refl _ _).alloc _) ⟨⟨by simp, .inr ⟨w.heap.size, 0, #[], rfl, Nat.zero_le _, heap_alloc_new _ _, Nat.le_refl _, by simp, by simp, by simp⟩⟩, fun g hg => by simp only [Value.ownBlock, Option.some.injEq] at hg; subst hg; exact .inr ⟨Nat.le_refl _, by simp⟩, by simp⟩
/-- A row of lines behind a row of lines. -/
theorem app_lns {w0 w : World} {L : List (Asrt w0.heap.size)} (H : Has w0 w L) {k j n m : Nat} {v x : Value} {a b : List Ln} (hi : L[k]? = some (OwnA w0.heap.size 35 3 v n (lns a))) (hj : L[j]? = some (OwnA w0.heap.size 35 3 x m (lns b))) (hkj : k ≠ j) (hn : n ≤ 1000) (hm : m ≤ 1000) :
    ∃ A c w', (Builtin.append_ #[22, 22] 22 #[v, x]).run Try.prog w = .ok (.slice A (n + m) c) w' ∧ n + m ≤ c ∧ c ≤ 9223372036854775807 ∧ Has w0 w' (L.set k (OwnA w0.heap.size 35 3 (.slice A (n + m) c) (n + m) (lns (a ++ b)))) := by
  obtain ⟨i0, hi0, hz0, hz1, hz2⟩ := info_parts Try.infoLine
  have := H.append (P := Try.prog) hi hj hkj 22 i0 _ 16 Try.underlying22 hi0 hz0 hz1 hz2 rfl (by decide) (by unfold maxLen; omega) (by omega) 22
  rw [show lns (a ++ b) = lns a ++ lns b by simp [lns]]
  exact this
theorem own_case (ms : List Ln) (h10 : ms.length ≤ 10) (hq : ∀ x ∈ ms, x.qty ≤ 9223372036854775807) : ∃ s2 e2 ls, (WS.new 2).assign 4 ms = (s2, 0, e2) ∧ s2.needs 0 = ls ∧ ls.length ≤ 12 ∧ s2.good ∧ ((e2 = 0 ∧ s2.free = 1 ∧ ls.length = ms.length) ∨ ((e2 == 0) = false ∧ (e2 != 0) = true ∧ s2.free = 2)) := by
  have hg0 : (WS.new 2).good := ⟨by simp [WS.new], by simp [WS.new], fun c hc => by
    obtain rfl : c = Cb.zero := by simp only [WS.new] at hc; exact (List.mem_replicate.1 hc).2
    exact Cb.zero_good⟩
  have hg : ((WS.new 2).assign 4 ms).1.good := hg0.assign 4 (by omega) hq
  obtain ⟨s2, m2, e2, hA, -, hcase⟩ := assign_cases (fine_new 2) 4 ms
  rw [hA] at hg
  rcases hcase with ⟨rfl, -, hf, -, hb, k, c, rfl, hc, hh, hlt, rfl⟩ | ⟨he, rfl, rfl⟩
  · have hk0 : k = 0 := by
      rcases Nat.eq_zero_or_pos k with h | h
      · exact h
      · have := hlt 0 Cb.zero h rfl
        simp [Cb.zero] at this
    subst hk0
    have hn : (WS.upd (WS.new 2) 0 ⟨true, 4, sortL ms⟩).needs 0 = sortL ms := by rfl
    refine ⟨_, _, sortL ms, hA, hn, by rw [(sortL_facts ms).1]; omega, hg, .inl ⟨rfl, ?_, (sortL_facts ms).1⟩⟩
    rw [hf]; rfl
  · refine ⟨_, _, [], hA, rfl, by simp, hg, .inr ⟨?_, ?_, rfl⟩⟩
    · rcases he with rfl | rfl | rfl <;> rfl
    · rcases he with rfl | rfl | rfl <;> rfl
end Go.Proofs.Ytienodnkfohakaa
