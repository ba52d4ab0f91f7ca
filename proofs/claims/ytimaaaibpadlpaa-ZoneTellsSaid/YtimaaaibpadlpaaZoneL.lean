import Derived.Test.YtimaaaibpadlpaaZone8
namespace Go.Proofs.Ytimaaaibpadlpaa
set_option linter.unusedVariables false
set_option linter.unusedSimpArgs false
open Go.RowKit

def eqL (a b : List Ln) : Bool := decide (a = b)
theorem eqL_take {a b : List Ln} {k : Nat} {x y : Ln} (hx : a[k]? = some x) (hy : b[k]? = some y) (h : a.take k = b.take k) (e : x = y) : a.take (k + 1) = b.take (k + 1) := by
  rw [List.take_add_one, List.take_add_one, hx, hy, h, e]
theorem eqL_no {a b : List Ln} {k : Nat} {x y : Ln} (hx : a[k]? = some x) (hy : b[k]? = some y) (e : x ≠ y) : eqL a b = false := by
  unfold eqL
  simp only [decide_eq_false_iff_not]
  rintro rfl
  rw [hx] at hy
  exact e (Option.some.inj hy)
theorem eqL_yes {a b : List Ln} {k : Nat} (h1 : k = a.length) (h2 : a.length = b.length) (h : a.take k = b.take k) : eqL a b = true := by
  unfold eqL
  simp only [decide_eq_true_eq]
  rw [h1, List.take_length, h2, List.take_length] at h
  exact h

set_option maxHeartbeats 1000000 in
theorem lines_any (va vb : Value) (la lb : List Ln) (F G : Nat → Prop) (w : World) (ha : SeesIn w F 3 va la.length (lns la)) (hb : SeesIn w G 3 vb lb.length (lns lb)) :
    Calls Try.prog 13 #[va, vb] w fun e w' => e = .returned (.bool (eqL la lb)) ∧ ∃ n, w' = w.drewN n := by
  obtain ⟨A, ca, rfl, ha1, ha2, -⟩ := id ha
  obtain ⟨B, cb, rfl, hb1, hb2, -⟩ := id hb
  have HA := Lib.hid ha
  have HB := Lib.hid hb
  unfold maxLen at ha2 hb2
  by_cases hn : la.length = lb.length
  · have hne : ((la.length : Int) != (lb.length : Int)) = false := by simp [hn]
    have HN := Lib.hid hn
    clear ha hb hn
    go_enter Try.func13, Try.ntmps13
    go_wp2
    go_loopw [5] (fun i wr => ∃ k : Nat, k ≤ la.length ∧ i = .int .i64 k ∧ la.take k = lb.take k ∧ ∃ n, wr = w.drewN n) (fun i _ => la.length - (intOf i).toNat)
    case atStart => exact ⟨0, Nat.zero_le _, rfl, by simp, 0, rfl⟩
    case round =>
      obtain ⟨k, hk, rfl, ht, nn, rfl⟩ := hrel
      have HT := Lib.hid ht
      clear ht
      by_cases hlt : k < la.length
      · have hltb : k < lb.length := by have := HN.out; omega
        obtain ⟨x, hx⟩ : ∃ y, la[k]? = some y := ⟨_, List.getElem?_eq_getElem hlt⟩
        obtain ⟨y, hy⟩ : ∃ y, lb[k]? = some y := ⟨_, List.getElem?_eq_getElem hltb⟩
        obtain ⟨g, o, cp', hv, -, -, -, -, c0, c1, c2⟩ := sees_line HA.out hx
        simp only [Value.slice.injEq] at hv
        obtain ⟨rfl, -, rfl⟩ := hv
        obtain ⟨g', o', cp', hv, -, -, -, -, d0, d1, d2⟩ := sees_line HB.out hy
        simp only [Value.slice.injEq] at hv
        obtain ⟨rfl, -, rfl⟩ := hv
        have HX := Lib.hid hx
        have HY := Lib.hid hy
        have hgd := guardLine
        clear hx hy
        by_cases he : x = y
        · have hneq : ∀ w, (binOp .neq 27 (.agg #[.int .u16 x.item, .int .u16 x.loc, .int .i64 x.qty]) (.agg #[.int .u16 y.item, .int .u16 y.loc, .int .i64 y.qty])).run Try.prog w = .ok (.bool false) w := fun w => by rw [neqLine, he]; simp
          have HE := Lib.hid he
          clear he
          go_wp2
          go_quiet (fail)
          go_wp2
          go_roundw
          case rel => exact ⟨k + 1, by omega, by go_num, eqL_take HX.out HY.out HT.out HE.out, nn + nq, by first | rfl | (rw [World.drewN_drewN])⟩
          case measure => simp [intOf]; omega
        · have hneq : ∀ w, (binOp .neq 27 (.agg #[.int .u16 x.item, .int .u16 x.loc, .int .i64 x.qty]) (.agg #[.int .u16 y.item, .int .u16 y.loc, .int .i64 y.qty])).run Try.prog w = .ok (.bool true) w := fun w => by
            rw [neqLine]
            cases x; cases y
            simp only [Ln.mk.injEq, not_and] at he
            simp only [Result.ok.injEq, Value.bool.injEq, and_true, Bool.not_eq_true', Bool.and_eq_false_iff, beq_eq_false_iff_ne]
            rename_i a b c a' b' c'
            by_cases h1 : a = a'
            · by_cases h2 : b = b'
              · exact .inr (.inr (he h1 h2))
              · exact .inr (.inl h2)
            · exact .inl h1
          have HE := Lib.hid he
          clear he
          go_wp2
          go_quiet (fail)
          go_wp2
          go_ret
          exact ⟨by rw [eqL_no HX.out HY.out HE.out]; rfl, nn + nq, by first | rfl | (rw [World.drewN_drewN])⟩
      · have hk' : k = la.length := by omega
        have HK' := Lib.hid hk'
        clear hk'
        go_wp2
        go_ret
        exact ⟨by rw [eqL_yes HK'.out HN.out HT.out]; rfl, nn, rfl⟩
  · have hne : ((la.length : Int) != (lb.length : Int)) = true := by simp only [bne_iff_ne, ne_eq]; omega
    have HR : Hid (eqL la lb = false) := by show eqL la lb = false; unfold eqL; simp only [decide_eq_false_iff_not]; rintro rfl; exact hn rfl
    clear ha hb hn
    go_enter Try.func13, Try.ntmps13
    go_wp2
    go_ret
    exact ⟨by rw [HR.out]; rfl, 0, rfl⟩
end Go.Proofs.Ytimaaaibpadlpaa
