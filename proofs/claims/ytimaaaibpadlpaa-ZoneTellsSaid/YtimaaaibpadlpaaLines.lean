import Derived.Test.YtimaaaibpadlpaaBase
namespace Go.Proofs.Ytimaaaibpadlpaa
set_option linter.unusedVariables false
set_option linter.unusedSimpArgs false
open Go.RowKit

structure Ln where
  item : Int
  loc : Int
  qty : Int
deriving DecidableEq

def Ln.cs (x : Ln) : List Value := [.int .u16 x.item, .int .u16 x.loc, .int .i64 x.qty]
def Ln.v (x : Ln) : Value := .agg #[.int .u16 x.item, .int .u16 x.loc, .int .i64 x.qty]
def lns (l : List Ln) : List Value := l.flatMap Ln.cs
theorem lns_len (l : List Ln) : (lns l).length = l.length * 3 := by
  induction l with
  | nil => rfl
  | cons x l ih => simp only [lns, List.flatMap_cons, List.length_append, List.length_cons] at *; rw [ih]; simp [Ln.cs]; omega
theorem lns_one (l : List Ln) : ∀ u ∈ lns l, u.oneCell' = true := by
  intro u hu
  obtain ⟨x, _, hx⟩ := List.mem_flatMap.1 hu
  simp only [Ln.cs, List.mem_cons, List.not_mem_nil, or_false] at hx
  rcases hx with rfl | rfl | rfl <;> rfl

/-- elements of sz cells each -/
theorem flat_get {α : Type} (enc : α → List Value) (sz : Nat) (hs : ∀ x, (enc x).length = sz) (l : List α) : ∀ (i : Nat) (x : α), l[i]? = some x → ∀ j, j < sz → (l.flatMap enc)[i * sz + j]? = (enc x)[j]? := by
  induction l with
  | nil => intro i x h; simp at h
  | cons y l ih =>
    intro i x h j hj
    cases i with
    | zero =>
      simp only [List.getElem?_cons_zero, Option.some.injEq] at h
      subst h
      rw [List.flatMap_cons, List.getElem?_append_left (by rw [hs]; omega)]
      simp
    | succ i =>
      rw [List.getElem?_cons_succ] at h
      rw [List.flatMap_cons, List.getElem?_append_right (by rw [hs, Nat.succ_mul]; omega), hs, show (i + 1) * sz + j - sz = i * sz + j by rw [Nat.succ_mul]; omega]
      exact ih i x h j hj
theorem lns_get {l : List Ln} {i : Nat} {x : Ln} (h : l[i]? = some x) : (lns l)[i * 3]? = some (.int .u16 x.item) ∧ (lns l)[i * 3 + 1]? = some (.int .u16 x.loc) ∧ (lns l)[i * 3 + 2]? = some (.int .i64 x.qty) :=
  ⟨flat_get Ln.cs 3 (fun _ => rfl) l i x h 0 (by omega), flat_get Ln.cs 3 (fun _ => rfl) l i x h 1 (by omega), flat_get Ln.cs 3 (fun _ => rfl) l i x h 2 (by omega)⟩

theorem sees_line {w : World} {F : Nat → Prop} {v : Value} {n : Nat} {l : List Ln} (h : SeesIn w F 3 v n (lns l)) {k : Nat} {y : Ln} (hy : l[k]? = some y) : ∃ g o c, v = .slice (some ⟨g, o, none⟩) n c ∧ F g ∧ g < w.heap.size ∧ n ≤ c ∧ c ≤ maxLen ∧
    w.cell? ⟨g, o + k * 3, none⟩ = some (.int .u16 y.item) ∧ w.cell? ⟨g, o + k * 3 + 1, none⟩ = some (.int .u16 y.loc) ∧ w.cell? ⟨g, o + k * 3 + 2, none⟩ = some (.int .i64 y.qty) := by
  obtain ⟨A, c, rfl, h1, h2, h2', h3, h3', h4⟩ := h
  have hk : k < l.length := (List.getElem?_eq_some_iff.1 hy).1
  rw [lns_len] at h3
  obtain ⟨g, o, rfl, hF, hg, hc⟩ := h4 (by omega)
  obtain ⟨e0, e1, e2⟩ := lns_get hy
  exact ⟨g, o, c, rfl, hF, hg, h1, h2, hc _ _ e0, (by rw [Nat.add_assoc]; exact hc _ _ e1), (by rw [Nat.add_assoc]; exact hc _ _ e2)⟩

theorem lns_snoc (l : List Ln) (y : Ln) : lns (l ++ [y]) = lns l ++ y.cs := by simp [lns]
theorem Try.infoLine : (Try.prog.info? 27).map (fun i => (i.zero, i.size, i.bytes)) = some (some (.agg #[.int .u16 0, .int .u16 0, .int .i64 0]), 3, 16) := by kernel_rfl

set_option maxHeartbeats 400000 in
theorem cloneL (v : Value) (n : Nat) (xs : List Value) (F : Nat → Prop) (w : World) (h : SeesIn w F 3 v n xs) (hb : n * 16 ≤ 140737488355328) :
    Calls Try.prog 24 #[v] w fun e w' => ∃ v', e = .returned v' ∧ Keep none_ w w' ∧ Own w' (fresh none_ w w') 27 3 v' n xs := by
  obtain ⟨i0, hi, hz0, hz1, hz2⟩ := info_parts Try.infoLine
  have h' := h
  obtain ⟨A, c, rfl, h1, h2, h2', h3, h3', h4⟩ := h
  have H' := Lib.hid h'
  have H3 := Lib.hid h3
  have hq := fun (w : World) (a : Option Addr) (n c : Nat) => Lib.run_eql_slice_nil (P := Try.prog) w 22 27 a n c 0 0 Try.underlying22
  cases A with
  | none =>
    obtain rfl := h2' rfl
    obtain rfl : n = 0 := by omega
    clear h' h4 h3 h3' h2'
    go_enter Try.func24, Try.ntmps24
    go_wp2
    go_ret
    obtain rfl : xs = [] := List.eq_nil_of_length_eq_zero (by simpa using H3.out)
    exact ⟨_, rfl, Keep.refl _ _, Own.nil _ _ _ _⟩
  | some a =>
    clear h' h4 h3 h3' h2'
    obtain ⟨v', w', hr, ho, hgr, -⟩ := clone_law (P := Try.prog) (w.alloc (.cells #[] 27)) 22 27 i0 _ 3 16 Try.underlying22 hi hz0 hz1 hz2 rfl (by decide) F w.heap.size (heap_alloc_new _ _) (.slice (some a) n c) n xs
      (H'.out.move (by simp) (fun k hk hl => ⟨hk, Below.heap_alloc _ _ _ hl⟩)) hb 22
    have HR := Lib.hid hr
    clear hr
    go_enter Try.func24, Try.ntmps24
    go_wp2_with (at_builtin; refine wpList_append_run rfl (.tmp 5) (.tmp 6) 22 rfl _ _ rfl rfl v' w' HR.out ?_)
    go_ret
    exact ⟨v', rfl, ((Keep.refl _ _).alloc _).grown hgr (by simp), ho.move (fun k hk hl => ⟨by simp [fresh, none_] at hk ⊢; omega, rfl⟩)⟩

theorem neqLine (w : World) (x y : Ln) : (binOp .neq 27 (.agg #[.int .u16 x.item, .int .u16 x.loc, .int .i64 x.qty]) (.agg #[.int .u16 y.item, .int .u16 y.loc, .int .i64 y.qty])).run Try.prog w = .ok (.bool (!(x.item == y.item && (x.loc == y.loc && x.qty == y.qty)))) w :=
  neq_of Try.underlying27 (by kernel_rfl) (fld_cons (by rfl) (by go_simp; rfl) (by go_simp; rfl) (by go_simp) (fld_cons (by rfl) (by go_simp; rfl) (by go_simp; rfl) (by go_simp) (fld_last (by rfl) (by go_simp; rfl) (by go_simp; rfl) (by go_simp))))
theorem guardLine : Try.prog.eqGuardType Try.prog.depth 27 = false := by kernel_rfl
end Go.Proofs.Ytimaaaibpadlpaa
