import Derived.Test.YtimaaaibpadlpaaLines
import Derived.Test.YtimaaaibpadlpaaArgs
namespace Go.Proofs.Ytimaaaibpadlpaa
set_option linter.unusedVariables false
set_option linter.unusedSimpArgs false
open Go.RowKit Go.ChangeShapes Go.WideShapes Go.Deep
theorem lns_take (l : List Ln) (m : Nat) : (lns l).take (m * 3) = lns (l.take m) := by
  induction l generalizing m with
  | nil => simp [lns]
  | cons x l ih =>
    cases m with
    | zero => simp [lns]
    | succ m =>
      have e1 : lns (x :: l) = x.cs ++ lns l := by simp [lns]
      have e2 : lns (x :: l.take m) = x.cs ++ lns (l.take m) := by simp [lns]
      rw [List.take_succ_cons, e1, e2, ← ih m, List.take_append, List.take_of_length_le (by show 3 ≤ _; omega)]
      congr 2
      show (m + 1) * 3 - 3 = m * 3
      omega
theorem ints_snoc (k : IntKind) (l : List Int) (x : Int) : ints k (l ++ [x]) = ints k l ++ [.int k x] := by simp [ints]
section
variable {H : Type} {enc : TypeId × Value → H} {W : World} {base : Nat} {spare : Nat → Bool} {held : Bool}

/-- Its numbers are of their kinds. -/
structure Ln.ok (x : Ln) : Prop where
  i0 : 0 ≤ x.item
  i1 : x.item < 65536
  l0 : 0 ≤ x.loc
  l1 : x.loc < 65536
  q0 : -9223372036854775808 ≤ x.qty
  q1 : x.qty ≤ 9223372036854775807
theorem u16_wf {n : Int} (h : (Lit.int .u16 n).wf = true) : 0 ≤ n ∧ n < 65536 := by
  simp only [Lit.wf, Bool.and_eq_true, decide_eq_true_eq] at h
  have h1 : IntKind.u16.min = 0 := by decide
  have h2 : IntKind.u16.max = 65535 := by decide
  omega
theorem i64_wf {n : Int} (h : (Lit.int .i64 n).wf = true) : -9223372036854775808 ≤ n ∧ n ≤ 9223372036854775807 := by
  simp only [Lit.wf, Bool.and_eq_true, decide_eq_true_eq] at h
  have h1 : IntKind.i64.min = -9223372036854775808 := by decide
  have h2 : IntKind.i64.max = 9223372036854775807 := by decide
  omega
theorem open_line (n : Nat) (cs : List Value) (x : DataW H × List MemPlace) (hl : cs.length = 3) (h : DataW.trod enc Try.prog W base spare held n 27 cs = some x) : ∃ y : Ln, cs = y.cs ∧ y.ok := by
  have hf := open_fields Try.underlying27 (by kernel_rfl) (by kernel_rfl) h
  obtain ⟨n0, v0, y0, e0, t0⟩ := hf 0 _ rfl
  obtain ⟨n1, v1, y1, e1, t1⟩ := hf 1 _ rfl
  obtain ⟨n2, v2, y2, e2, t2⟩ := hf 2 _ rfl
  obtain ⟨i, hi, -, wi⟩ := DataW.trod_int Try.underlying25 t0
  obtain ⟨o, ho, -, wo⟩ := DataW.trod_int Try.underlying25 t1
  obtain ⟨q, hq, -, wq⟩ := DataW.trod_int Try.underlying3 t2
  simp only [List.cons.injEq, and_true] at hi ho hq
  subst hi ho hq
  match cs, hl with
  | [a, b, c], _ =>
    simp only [List.getElem?_cons_zero, List.getElem?_cons_succ, Option.some.injEq] at e0 e1 e2
    subst e0 e1 e2
    exact ⟨⟨i, o, q⟩, rfl, ⟨(u16_wf wi).1, (u16_wf wi).2, (u16_wf wo).1, (u16_wf wo).2, (i64_wf wq).1, (i64_wf wq).2⟩⟩
/-- A []api.Line that came in. -/
theorem open_lines {A : Option Addr} {n c : Nat} {d : DataW H} {p : List MemPlace} (h : DataW.Trod enc Try.prog W base spare held 22 (.slice A n c) d p) : ∃ l : List Ln, SeesIn W (fun k => k < W.heap.size) 3 (.slice A n c) l.length (lns l) ∧ ∀ x ∈ l, x.ok := by
  obtain ⟨fuel, hf⟩ := h
  obtain ⟨l, hl⟩ := open_R (sz := 3) (fun (y : Ln) cs => cs = y.cs ∧ y.ok) Try.underlying22 (by kernel_rfl) (by decide) open_line hf
  exact ⟨l, (hl.imp (fun x cs h => h.1)).flat (by decide) (fun _ => rfl) (fun x u hu => lns_one [x] u (by simpa [lns] using hu)), fun x hx => by obtain ⟨cs, -, h⟩ := hl.all x hx; exact h⟩
/-- A []uint16 that came in. -/
theorem open_u16s {A : Option Addr} {n c : Nat} {d : DataW H} {p : List MemPlace} (h : DataW.Trod enc Try.prog W base spare held 24 (.slice A n c) d p) : ∃ l : List Int, SeesIn W (fun k => k < W.heap.size) 1 (.slice A n c) l.length (ints .u16 l) ∧ ∀ x ∈ l, 0 ≤ x ∧ x < 65536 := by
  obtain ⟨fuel, hf⟩ := h
  obtain ⟨l, hl⟩ := open_R (sz := 1) (fun (y : Int) cs => cs = [.int .u16 y] ∧ (0 ≤ y ∧ y < 65536)) Try.underlying24 (by kernel_rfl) (by decide) (fun n cs x _ h => by
    obtain ⟨i, hi, -, wi⟩ := DataW.trod_int Try.underlying25 h
    exact ⟨i, hi, u16_wf wi⟩) hf
  have e : ints .u16 l = l.flatMap (fun y => [Value.int .u16 y]) := by
    clear hl hf
    induction l with
    | nil => rfl
    | cons x l ih => simp only [ints, List.map_cons, List.flatMap_cons] at ih ⊢; rw [ih]; rfl
  refine ⟨l, ?_, fun x hx => by obtain ⟨cs, -, h⟩ := hl.all x hx; exact h⟩
  rw [e]
  exact (hl.imp (fun x cs h => h.1)).flat (by decide) (fun _ => rfl) (fun x u hu => by simp only [List.mem_singleton] at hu; subst hu; rfl)
theorem open_lines_at {fuel : Nat} {v : Value} {x : DataW H × List MemPlace} (h : DataW.trod enc Try.prog W base spare held fuel 22 [v] = some x) : ∃ l : List Ln, SeesIn W (fun k => k < W.heap.size) 3 v l.length (lns l) ∧ ∀ x ∈ l, x.ok := by
  have hv : ∃ A n c, v = .slice A n c := by
    rcases open_slice Try.underlying22 h with ⟨h0, -⟩ | ⟨a, len, cap, m, n', D, Pl, hcs, -⟩
    · exact ⟨none, 0, 0, by simpa using h0⟩
    · exact ⟨some a, len, cap, by simpa using hcs⟩
  obtain ⟨A, n, c, rfl⟩ := hv
  obtain ⟨l, hl⟩ := open_R (sz := 3) (fun (y : Ln) cs => cs = y.cs ∧ y.ok) Try.underlying22 (by kernel_rfl) (by decide) open_line h
  exact ⟨l, (hl.imp (fun x cs h => h.1)).flat (by decide) (fun _ => rfl) (fun x u hu => lns_one [x] u (by simpa [lns] using hu)), fun x hx => by obtain ⟨cs, -, h⟩ := hl.all x hx; exact h⟩
end

/-- a step -/
structure St where
  kind : Int
  tote : Int
  loc : Int
  what : Int
  qty : Int
  l : List Ln
  v : Value
def St.cs (x : St) : List Value := [.int .i64 x.kind, .int .u16 x.tote, .int .u16 x.loc, .int .u8 x.what, .int .i64 x.qty, x.v]
structure St.ok (W : World) (x : St) : Prop where
  k : -9223372036854775808 ≤ x.kind ∧ x.kind ≤ 9223372036854775807
  t : 0 ≤ x.tote ∧ x.tote < 65536
  o : 0 ≤ x.loc ∧ x.loc < 65536
  w : 0 ≤ x.what ∧ x.what < 256
  q : -9223372036854775808 ≤ x.qty ∧ x.qty ≤ 9223372036854775807
  s : SeesIn W (fun k => k < W.heap.size) 3 x.v x.l.length (lns x.l)
  h : ∀ y ∈ x.l, y.ok
theorem u8_wf {n : Int} (h : (Lit.int .u8 n).wf = true) : 0 ≤ n ∧ n < 256 := by
  simp only [Lit.wf, Bool.and_eq_true, decide_eq_true_eq] at h
  have h1 : IntKind.u8.min = 0 := by decide
  have h2 : IntKind.u8.max = 255 := by decide
  omega
section
variable {H : Type} {enc : TypeId × Value → H} {W : World} {base : Nat} {spare : Nat → Bool} {held : Bool}
theorem open_step (n : Nat) (cs : List Value) (x : DataW H × List MemPlace) (hl : cs.length = 6) (h : DataW.trod enc Try.prog W base spare held n 50 cs = some x) : ∃ y : St, cs = y.cs ∧ y.ok W := by
  have hf := open_fields Try.underlying50 (by kernel_rfl) (by kernel_rfl) h
  obtain ⟨n0, v0, y0, e0, t0⟩ := hf 0 _ rfl
  obtain ⟨n1, v1, y1, e1, t1⟩ := hf 1 _ rfl
  obtain ⟨n2, v2, y2, e2, t2⟩ := hf 2 _ rfl
  obtain ⟨n3, v3, y3, e3, t3⟩ := hf 3 _ rfl
  obtain ⟨n4, v4, y4, e4, t4⟩ := hf 4 _ rfl
  obtain ⟨n5, v5, y5, e5, t5⟩ := hf 5 _ rfl
  obtain ⟨a, h0, -, w0⟩ := DataW.trod_int Try.underlying3 t0
  obtain ⟨b, h1, -, w1⟩ := DataW.trod_int Try.underlying25 t1
  obtain ⟨c, h2, -, w2⟩ := DataW.trod_int Try.underlying25 t2
  obtain ⟨d, h3, -, w3⟩ := DataW.trod_int Try.underlying5 t3
  obtain ⟨e, h4, -, w4⟩ := DataW.trod_int Try.underlying3 t4
  obtain ⟨l, h5, w5⟩ := open_lines_at t5
  simp only [List.cons.injEq, and_true] at h0 h1 h2 h3 h4
  subst h0 h1 h2 h3 h4
  match cs, hl with
  | [p0, p1, p2, p3, p4, p5], _ =>
    simp only [List.getElem?_cons_zero, List.getElem?_cons_succ, Option.some.injEq] at e0 e1 e2 e3 e4 e5
    subst e0 e1 e2 e3 e4 e5
    exact ⟨⟨a, b, c, d, e, l, p5⟩, rfl, ⟨i64_wf w0, u16_wf w1, u16_wf w2, u8_wf w3, i64_wf w4, h5, w5⟩⟩
/-- A []Step that came in. -/
theorem open_steps {A : Option Addr} {n c : Nat} {d : DataW H} {p : List MemPlace} (h : DataW.Trod enc Try.prog W base spare held 45 (.slice A n c) d p) : ∃ l : List St, SeesR W (fun k => k < W.heap.size) 6 (fun y cs => cs = y.cs ∧ y.ok W) (.slice A n c) l := by
  obtain ⟨fuel, hf⟩ := h
  exact open_R (sz := 6) (fun (y : St) cs => cs = y.cs ∧ y.ok W) Try.underlying45 (by kernel_rfl) (by decide) open_step hf
end
/-- What a step's cells hold. -/
theorem sees_step {w W : World} {F : Nat → Prop} {v : Value} {l : List St} (h : SeesR w F 6 (fun y cs => cs = y.cs ∧ St.ok W y) v l) {k : Nat} {y : St} (hy : l[k]? = some y) : ∃ g o c, v = .slice (some ⟨g, o, none⟩) l.length c ∧ F g ∧ g < w.heap.size ∧ l.length ≤ c ∧ c ≤ maxLen ∧ y.ok W ∧
    w.cell? ⟨g, o + k * 6, none⟩ = some (.int .i64 y.kind) ∧ w.cell? ⟨g, o + k * 6 + 1, none⟩ = some (.int .u16 y.tote) ∧ w.cell? ⟨g, o + k * 6 + 2, none⟩ = some (.int .u16 y.loc) ∧ w.cell? ⟨g, o + k * 6 + 3, none⟩ = some (.int .u8 y.what) ∧ w.cell? ⟨g, o + k * 6 + 4, none⟩ = some (.int .i64 y.qty) ∧ w.cell? ⟨g, o + k * 6 + 5, none⟩ = some y.v := by
  obtain ⟨A, c, rfl, h1, h2, h3, h4⟩ := h
  obtain ⟨g, o, cs, rfl, hF, hg, ⟨rfl, hok⟩, -, hc⟩ := h4 k y hy
  refine ⟨g, o, c, rfl, hF, hg, h1, h2, hok, hc 0 _ rfl, ?_, ?_, ?_, ?_, ?_⟩
  · rw [Nat.add_assoc]; exact hc 1 _ rfl
  · rw [Nat.add_assoc]; exact hc 2 _ rfl
  · rw [Nat.add_assoc]; exact hc 3 _ rfl
  · rw [Nat.add_assoc]; exact hc 4 _ rfl
  · rw [Nat.add_assoc]; exact hc 5 _ rfl
end Go.Proofs.Ytimaaaibpadlpaa
