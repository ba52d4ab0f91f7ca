import Derived.Test.YtienodnkfohakaaWalE
import Derived.Test.YtienodnkfohakaaArgs2
namespace Go.Proofs.Ytienodnkfohakaa
set_option linter.unusedVariables false
set_option linter.unusedSimpArgs false
open Go.RowKit Go.ChangeShapes Go.WideShapes Go.Deep
theorem wf_int {n : Int} (h : (Lit.int .i64 n).wf = true) : -9223372036854775808 ≤ n ∧ n ≤ 9223372036854775807 := by
  simp only [Lit.wf, Bool.and_eq_true, decide_eq_true_eq] at h
  have h1 : IntKind.i64.min = -9223372036854775808 := by decide
  have h2 : IntKind.i64.max = 9223372036854775807 := by decide
  omega
theorem wf_u8 {n : Int} (h : (Lit.int .u8 n).wf = true) : 0 ≤ n ∧ n ≤ 255 := by
  simp only [Lit.wf, Bool.and_eq_true, decide_eq_true_eq] at h
  have h1 : IntKind.u8.min = 0 := by decide
  have h2 : IntKind.u8.max = 255 := by decide
  omega
theorem wf_u16 {n : Int} (h : (Lit.int .u16 n).wf = true) : 0 ≤ n ∧ n ≤ 65535 := by
  simp only [Lit.wf, Bool.and_eq_true, decide_eq_true_eq] at h
  have h1 : IntKind.u16.min = 0 := by decide
  have h2 : IntKind.u16.max = 65535 := by decide
  omega
theorem wf_u32 {n : Int} (h : (Lit.int .u32 n).wf = true) : 0 ≤ n ∧ n ≤ 4294967295 := by
  simp only [Lit.wf, Bool.and_eq_true, decide_eq_true_eq] at h
  have h1 : IntKind.u32.min = 0 := by decide
  have h2 : IntKind.u32.max = 4294967295 := by decide
  omega
section
variable {H : Type} {enc : TypeId × Value → H} {W : World} {base : Nat} {spare : Nat → Bool} {held : Bool}
theorem open_fld {P : Program} {t : TypeId} {fs : Array Field} {fuel : Nat} {cs : List Value} {x : DataW H × List MemPlace} (h : DataW.trod enc P W base spare held fuel t cs = some x) (ht : P.underlying t = some (.struct fs)) (j : Nat) (f : Field) (hj : fs[j]? = some f) (off sz : Nat) (ho : f.offset = off) (hs : P.cellsOf f.type = sz) :
    ∃ (n : Nat) (y : DataW H × List MemPlace), DataW.trod enc P W base spare held n f.type ((cs.drop off).take sz) = some y := by
  obtain ⟨ys, n', hn', hy, hlen, hyl, hf⟩ := DataW.trod_struct ht h
  subst ho hs
  have hjl : j < fs.size := (Array.getElem?_eq_some_iff.1 hj).1
  exact ⟨n', _, (hf j f hj).trans (List.getElem?_eq_getElem (by omega))⟩
end
structure Ln.ok (W : World) (x : Ln) : Prop where
  item : 0 ≤ x.item ∧ x.item ≤ 65535
  loc : 0 ≤ x.loc ∧ x.loc ≤ 65535
  qty : -9223372036854775808 ≤ x.qty ∧ x.qty ≤ 9223372036854775807
section
variable {H : Type} {enc : TypeId × Value → H} {W : World} {base : Nat} {spare : Nat → Bool} {held : Bool}
theorem open_Ln (n : Nat) (cs : List Value) (x : DataW H × List MemPlace) (hl : cs.length = 3) (h : DataW.trod enc Try.prog W base spare held n 35 cs = some x) : ∃ y : Ln, cs = y.cs ∧ y.ok W := by
  match cs, hl with
  | [p0, p1, p2], _ =>
    obtain ⟨n0, y0, t0⟩ := open_fld h Try.underlying35 0 _ rfl 0 1 rfl (by kernel_rfl)
    replace t0 : DataW.trod enc Try.prog W base spare held n0 33 [p0] = some y0 := t0
    obtain ⟨a0, e0, -, w0⟩ := DataW.trod_int Try.underlying33 t0
    obtain rfl := (List.cons.inj e0).1
    obtain ⟨n1, y1, t1⟩ := open_fld h Try.underlying35 1 _ rfl 1 1 rfl (by kernel_rfl)
    replace t1 : DataW.trod enc Try.prog W base spare held n1 33 [p1] = some y1 := t1
    obtain ⟨a1, e1, -, w1⟩ := DataW.trod_int Try.underlying33 t1
    obtain rfl := (List.cons.inj e1).1
    obtain ⟨n2, y2, t2⟩ := open_fld h Try.underlying35 2 _ rfl 2 1 rfl (by kernel_rfl)
    replace t2 : DataW.trod enc Try.prog W base spare held n2 3 [p2] = some y2 := t2
    obtain ⟨a2, e2, -, w2⟩ := DataW.trod_int Try.underlying3 t2
    obtain rfl := (List.cons.inj e2).1
    exact ⟨⟨a0, a1, a2⟩, rfl, ⟨wf_u16 w0, wf_u16 w1, wf_int w2⟩⟩
end
section
variable {H : Type} {enc : TypeId × Value → H} {W : World} {base : Nat} {spare : Nat → Bool} {held : Bool}
theorem open_Lines {A : Option Addr} {n c : Nat} {d : DataW H} {p : List MemPlace} (h : DataW.Trod enc Try.prog W base spare held 22 (.slice A n c) d p) : ∃ l : List Ln, SeesIn W (fun k => k < W.heap.size) 3 (.slice A n c) l.length (l.flatMap Ln.cs) ∧ ∀ x ∈ l, x.ok W := by
  obtain ⟨fuel, h⟩ := h
  obtain ⟨l, hl⟩ := open_R (sz := 3) (fun (y : Ln) cs => cs = y.cs ∧ y.ok W) Try.underlying22 (by kernel_rfl) (by decide) open_Ln h
  exact ⟨l, (hl.imp (fun x cs h => h.1)).flat (by decide) (fun _ => rfl) (fun x u hu => by simp only [Ln.cs, List.mem_cons, List.not_mem_nil, or_false] at hu; rcases hu with rfl | rfl | rfl <;> rfl), fun x hx => by obtain ⟨cs, -, h⟩ := hl.all x hx; exact h⟩
theorem open_Lines_at {fuel : Nat} {v : Value} {x : DataW H × List MemPlace} (h : DataW.trod enc Try.prog W base spare held fuel 22 [v] = some x) : ∃ l : List Ln, SeesIn W (fun k => k < W.heap.size) 3 v l.length (l.flatMap Ln.cs) ∧ ∀ x ∈ l, x.ok W := by
  have hv : ∃ A n c, v = .slice A n c := by
    rcases open_slice Try.underlying22 h with ⟨h0, -⟩ | ⟨a, len, cap, m, n', D, Pl, hcs, -⟩
    · exact ⟨none, 0, 0, by simpa using h0⟩
    · exact ⟨some a, len, cap, by simpa using hcs⟩
  obtain ⟨A, n, c, rfl⟩ := hv
  obtain ⟨l, hl⟩ := open_R (sz := 3) (fun (y : Ln) cs => cs = y.cs ∧ y.ok W) Try.underlying22 (by kernel_rfl) (by decide) open_Ln h
  exact ⟨l, (hl.imp (fun x cs h => h.1)).flat (by decide) (fun _ => rfl) (fun x u hu => by simp only [Ln.cs, List.mem_cons, List.not_mem_nil, or_false] at hu; rcases hu with rfl | rfl | rfl <;> rfl), fun x hx => by obtain ⟨cs, -, h⟩ := hl.all x hx; exact h⟩
end
theorem sees_Lines {w : World} {F : Nat → Prop} {v : Value} {l : List Ln} (h : SeesIn w F 3 v l.length (l.flatMap Ln.cs)) {k : Nat} {y : Ln} (hy : l[k]? = some y) : ∃ g o c, v = .slice (some ⟨g, o, none⟩) l.length c ∧ F g ∧ g < w.heap.size ∧ l.length ≤ c ∧ c ≤ 9223372036854775807 ∧ w.cell? ⟨g, o + k * 3, none⟩ = some (.int .u16 y.item) ∧ w.cell? ⟨g, o + k * 3 + 1, none⟩ = some (.int .u16 y.loc) ∧ w.cell? ⟨g, o + k * 3 + 2, none⟩ = some (.int .i64 y.qty) := by
  obtain ⟨g, o, c, rfl, h1, h2, hF, hg, hc⟩ := sees_get (enc := Ln.cs) (sz := 3) (fun _ => rfl) h rfl hy
  refine ⟨g, o, c, rfl, hF, hg, h1, by unfold maxLen at h2; omega, hc 0 _ rfl, by rw [Nat.add_assoc]; exact hc 1 _ rfl, by rw [Nat.add_assoc]; exact hc 2 _ rfl⟩
structure St where
  kind : Int
  cubby : Int
  qty : Int
  id : Int
  item : Int
  l : List Ln
  lV : Value
def St.cs (x : St) : List Value := [.int .i64 x.kind, .int .i64 x.cubby, .int .i64 x.qty, .int .u32 x.id, .int .u16 x.item, x.lV]
structure St.ok (W : World) (x : St) : Prop where
  kind : -9223372036854775808 ≤ x.kind ∧ x.kind ≤ 9223372036854775807
  cubby : -9223372036854775808 ≤ x.cubby ∧ x.cubby ≤ 9223372036854775807
  qty : -9223372036854775808 ≤ x.qty ∧ x.qty ≤ 9223372036854775807
  id : 0 ≤ x.id ∧ x.id ≤ 4294967295
  item : 0 ≤ x.item ∧ x.item ≤ 65535
  l : SeesIn W (fun k => k < W.heap.size) 3 x.lV x.l.length (x.l.flatMap Ln.cs)
  l_ok : ∀ y ∈ x.l, y.ok W
theorem St.len (x : St) : x.cs.length = 6 := rfl
section
variable {H : Type} {enc : TypeId × Value → H} {W : World} {base : Nat} {spare : Nat → Bool} {held : Bool}
theorem open_St (n : Nat) (cs : List Value) (x : DataW H × List MemPlace) (hl : cs.length = 6) (h : DataW.trod enc Try.prog W base spare held n 37 cs = some x) : ∃ y : St, cs = y.cs ∧ y.ok W := by
  match cs, hl with
  | [p0, p1, p2, p3, p4, p5], _ =>
    obtain ⟨n0, y0, t0⟩ := open_fld h Try.underlying37 0 _ rfl 0 1 rfl (by kernel_rfl)
    replace t0 : DataW.trod enc Try.prog W base spare held n0 3 [p0] = some y0 := t0
    obtain ⟨a0, e0, -, w0⟩ := DataW.trod_int Try.underlying3 t0
    obtain rfl := (List.cons.inj e0).1
    obtain ⟨n1, y1, t1⟩ := open_fld h Try.underlying37 1 _ rfl 1 1 rfl (by kernel_rfl)
    replace t1 : DataW.trod enc Try.prog W base spare held n1 3 [p1] = some y1 := t1
    obtain ⟨a1, e1, -, w1⟩ := DataW.trod_int Try.underlying3 t1
    obtain rfl := (List.cons.inj e1).1
    obtain ⟨n2, y2, t2⟩ := open_fld h Try.underlying37 2 _ rfl 2 1 rfl (by kernel_rfl)
    replace t2 : DataW.trod enc Try.prog W base spare held n2 3 [p2] = some y2 := t2
    obtain ⟨a2, e2, -, w2⟩ := DataW.trod_int Try.underlying3 t2
    obtain rfl := (List.cons.inj e2).1
    obtain ⟨n3, y3, t3⟩ := open_fld h Try.underlying37 3 _ rfl 3 1 rfl (by kernel_rfl)
    replace t3 : DataW.trod enc Try.prog W base spare held n3 31 [p3] = some y3 := t3
    obtain ⟨a3, e3, -, w3⟩ := DataW.trod_int Try.underlying31 t3
    obtain rfl := (List.cons.inj e3).1
    obtain ⟨n4, y4, t4⟩ := open_fld h Try.underlying37 4 _ rfl 4 1 rfl (by kernel_rfl)
    replace t4 : DataW.trod enc Try.prog W base spare held n4 33 [p4] = some y4 := t4
    obtain ⟨a4, e4, -, w4⟩ := DataW.trod_int Try.underlying33 t4
    obtain rfl := (List.cons.inj e4).1
    obtain ⟨n5, y5, t5⟩ := open_fld h Try.underlying37 5 _ rfl 5 1 rfl (by kernel_rfl)
    replace t5 : DataW.trod enc Try.prog W base spare held n5 22 [p5] = some y5 := t5
    obtain ⟨l5, s5, w5⟩ := open_Lines_at t5
    exact ⟨⟨a0, a1, a2, a3, a4, l5, p5⟩, rfl, ⟨wf_int w0, wf_int w1, wf_int w2, wf_u32 w3, wf_u16 w4, s5, w5⟩⟩
end
section
variable {H : Type} {enc : TypeId × Value → H} {W : World} {base : Nat} {spare : Nat → Bool} {held : Bool}
theorem open_Steps {A : Option Addr} {n c : Nat} {d : DataW H} {p : List MemPlace} (h : DataW.Trod enc Try.prog W base spare held 23 (.slice A n c) d p) : ∃ l : List St, SeesR W (fun k => k < W.heap.size) 6 (fun (y : St) cs => cs = y.cs ∧ y.ok W) (.slice A n c) l := by
  obtain ⟨fuel, h⟩ := h
  obtain ⟨l, hl⟩ := open_R (sz := 6) (fun (y : St) cs => cs = y.cs ∧ y.ok W) Try.underlying23 (by kernel_rfl) (by decide) open_St h
  exact ⟨l, hl⟩
theorem open_Steps_at {fuel : Nat} {v : Value} {x : DataW H × List MemPlace} (h : DataW.trod enc Try.prog W base spare held fuel 23 [v] = some x) : ∃ l : List St, SeesR W (fun k => k < W.heap.size) 6 (fun (y : St) cs => cs = y.cs ∧ y.ok W) v l := by
  have hv : ∃ A n c, v = .slice A n c := by
    rcases open_slice Try.underlying23 h with ⟨h0, -⟩ | ⟨a, len, cap, m, n', D, Pl, hcs, -⟩
    · exact ⟨none, 0, 0, by simpa using h0⟩
    · exact ⟨some a, len, cap, by simpa using hcs⟩
  obtain ⟨A, n, c, rfl⟩ := hv
  obtain ⟨l, hl⟩ := open_R (sz := 6) (fun (y : St) cs => cs = y.cs ∧ y.ok W) Try.underlying23 (by kernel_rfl) (by decide) open_St h
  exact ⟨l, hl⟩
end
theorem sees_Steps {w : World} {F : Nat → Prop} {v : Value} {l : List St} {W : World} (h : SeesR w F 6 (fun (y : St) cs => cs = y.cs ∧ y.ok W) v l) {k : Nat} {y : St} (hy : l[k]? = some y) : ∃ g o c, v = .slice (some ⟨g, o, none⟩) l.length c ∧ F g ∧ g < w.heap.size ∧ l.length ≤ c ∧ c ≤ 9223372036854775807 ∧ y.ok W ∧ w.cell? ⟨g, o + k * 6, none⟩ = some (.int .i64 y.kind) ∧ w.cell? ⟨g, o + k * 6 + 1, none⟩ = some (.int .i64 y.cubby) ∧ w.cell? ⟨g, o + k * 6 + 2, none⟩ = some (.int .i64 y.qty) ∧ w.cell? ⟨g, o + k * 6 + 3, none⟩ = some (.int .u32 y.id) ∧ w.cell? ⟨g, o + k * 6 + 4, none⟩ = some (.int .u16 y.item) ∧ w.cell? ⟨g, o + k * 6 + 5, none⟩ = some (y.lV) := by
  obtain ⟨A, c, rfl, h1, h2, h3, h4⟩ := h
  obtain ⟨g, o, cs, rfl, hF, hg, ⟨rfl, hok⟩, -, hc⟩ := h4 k y hy
  refine ⟨g, o, c, rfl, hF, hg, h1, by unfold maxLen at h2; omega, hok, hc 0 _ rfl, by rw [Nat.add_assoc]; exact hc 1 _ rfl, by rw [Nat.add_assoc]; exact hc 2 _ rfl, by rw [Nat.add_assoc]; exact hc 3 _ rfl, by rw [Nat.add_assoc]; exact hc 4 _ rfl, by rw [Nat.add_assoc]; exact hc 5 _ rfl⟩
section
variable {H : Type} {enc : TypeId × Value → H} {W : World} {base : Nat} {spare : Nat → Bool} {held : Bool}
theorem open_U8s {A : Option Addr} {n c : Nat} {d : DataW H} {p : List MemPlace} (h : DataW.Trod enc Try.prog W base spare held 45 (.slice A n c) d p) : ∃ l : List Int, SeesIn W (fun k => k < W.heap.size) 1 (.slice A n c) l.length (l.flatMap (fun y => [Value.int .u8 y])) ∧ ∀ x ∈ l, 0 ≤ x ∧ x ≤ 255 := by
  obtain ⟨fuel, h⟩ := h
  obtain ⟨l, hl⟩ := open_R (sz := 1) (fun (y : Int) cs => cs = [.int .u8 y] ∧ (0 ≤ y ∧ y ≤ 255)) Try.underlying45 (by kernel_rfl) (by decide) (fun n cs x _ h => by obtain ⟨i, hi, -, wi⟩ := DataW.trod_int Try.underlying5 h; exact ⟨i, hi, wf_u8 wi⟩) h
  exact ⟨l, (hl.imp (fun x cs h => h.1)).flat (by decide) (fun _ => rfl) (fun x u hu => by simp only [List.mem_cons, List.not_mem_nil, or_false] at hu; subst hu; rfl), fun x hx => by obtain ⟨cs, -, h⟩ := hl.all x hx; exact h⟩
theorem open_U8s_at {fuel : Nat} {v : Value} {x : DataW H × List MemPlace} (h : DataW.trod enc Try.prog W base spare held fuel 45 [v] = some x) : ∃ l : List Int, SeesIn W (fun k => k < W.heap.size) 1 v l.length (l.flatMap (fun y => [Value.int .u8 y])) ∧ ∀ x ∈ l, 0 ≤ x ∧ x ≤ 255 := by
  have hv : ∃ A n c, v = .slice A n c := by
    rcases open_slice Try.underlying45 h with ⟨h0, -⟩ | ⟨a, len, cap, m, n', D, Pl, hcs, -⟩
    · exact ⟨none, 0, 0, by simpa using h0⟩
    · exact ⟨some a, len, cap, by simpa using hcs⟩
  obtain ⟨A, n, c, rfl⟩ := hv
  obtain ⟨l, hl⟩ := open_R (sz := 1) (fun (y : Int) cs => cs = [.int .u8 y] ∧ (0 ≤ y ∧ y ≤ 255)) Try.underlying45 (by kernel_rfl) (by decide) (fun n cs x _ h => by obtain ⟨i, hi, -, wi⟩ := DataW.trod_int Try.underlying5 h; exact ⟨i, hi, wf_u8 wi⟩) h
  exact ⟨l, (hl.imp (fun x cs h => h.1)).flat (by decide) (fun _ => rfl) (fun x u hu => by simp only [List.mem_cons, List.not_mem_nil, or_false] at hu; subst hu; rfl), fun x hx => by obtain ⟨cs, -, h⟩ := hl.all x hx; exact h⟩
end
end Go.Proofs.Ytienodnkfohakaa
