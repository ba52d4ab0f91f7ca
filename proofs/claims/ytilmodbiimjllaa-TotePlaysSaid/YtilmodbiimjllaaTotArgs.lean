import Derived.Test.YtilmodbiimjllaaTot5
namespace Go.Proofs.Ytilmodbiimjllaa
set_option linter.unusedVariables false
set_option linter.unusedSimpArgs false
open Go.RowKit Go.ChangeShapes Go.WideShapes Go.Deep
theorem wf_int {n : Int} (h : (Lit.int .i64 n).wf = true) : -9223372036854775808 ≤ n ∧ n ≤ 9223372036854775807 := by
  simp only [Lit.wf, Bool.and_eq_true, decide_eq_true_eq] at h
  have h1 : IntKind.i64.min = -9223372036854775808 := by decide
  have h2 : IntKind.i64.max = 9223372036854775807 := by decide
  omega
theorem wf_u8 {n : Int} (h : (Lit.int .u8 n).wf = true) : 0 ≤ n ∧ n ≤ 255 := by
  simp only [Lit.wf, Bool.and_eq_true, decide_eq_true_eq] at h
  have h1 : IntKind.u8.min = 0 := by decide
  have h2 : IntKind.u8.max = 255 := by decide
  omega
theorem wf_u16 {n : Int} (h : (Lit.int .u16 n).wf = true) : 0 ≤ n ∧ n ≤ 65535 := by
  simp only [Lit.wf, Bool.and_eq_true, decide_eq_true_eq] at h
  have h1 : IntKind.u16.min = 0 := by decide
  have h2 : IntKind.u16.max = 65535 := by decide
  omega
theorem wf_u32 {n : Int} (h : (Lit.int .u32 n).wf = true) : 0 ≤ n ∧ n ≤ 4294967295 := by
  simp only [Lit.wf, Bool.and_eq_true, decide_eq_true_eq] at h
  have h1 : IntKind.u32.min = 0 := by decide
  have h2 : IntKind.u32.max = 4294967295 := by decide
  omega
section
variable {H : Type} {enc : TypeId × Value → H} {W : World} {base : Nat} {spare : Nat → Bool} {held : Bool}
theorem open_fld {P : Program} {t : TypeId} {fs : Array Field} {fuel : Nat} {cs : List Value} {x : DataW H × List MemPlace} (h : DataW.trod enc P W base spare held fuel t cs = some x) (ht : P.underlying t = some (.struct fs)) (j : Nat) (f : Field) (hj : fs[j]? = some f) (off sz : Nat) (ho : f.offset = off) (hs : P.cellsOf f.type = sz) :
    ∃ (n : Nat) (y : DataW H × List MemPlace), DataW.trod enc P W base spare held n f.type ((cs.drop off).take sz) = some y := by
  obtain ⟨ys, n', hn', hy, hlen, hyl, hf⟩ := DataW.trod_struct ht h
  subst ho hs
  have hjl : j < fs.size := (Array.getElem?_eq_some_iff.1 hj).1
  exact ⟨n', _, (hf j f hj).trans (List.getElem?_eq_getElem (by omega))⟩
end
structure St where
  kind : Int
  tote : Int
  zone : Int
def St.cs (x : St) : List Value := [.int .i64 x.kind, .int .u16 x.tote, .int .i64 x.zone]
structure St.ok (W : World) (x : St) : Prop where
  kind : -9223372036854775808 ≤ x.kind ∧ x.kind ≤ 9223372036854775807
  tote : 0 ≤ x.tote ∧ x.tote ≤ 65535
  zone : -9223372036854775808 ≤ x.zone ∧ x.zone ≤ 9223372036854775807
theorem St.len (x : St) : x.cs.length = 3 := rfl
section
variable {H : Type} {enc : TypeId × Value → H} {W : World} {base : Nat} {spare : Nat → Bool} {held : Bool}
theorem open_St (n : Nat) (cs : List Value) (x : DataW H × List MemPlace) (hl : cs.length = 3) (h : DataW.trod enc Try.prog W base spare held n 32 cs = some x) : ∃ y : St, cs = y.cs ∧ y.ok W := by
  match cs, hl with
  | [p0, p1, p2], _ =>
    obtain ⟨n0, y0, t0⟩ := open_fld h Try.underlying32 0 _ rfl 0 1 rfl (by kernel_rfl)
    replace t0 : DataW.trod enc Try.prog W base spare held n0 3 [p0] = some y0 := t0
    obtain ⟨a0, e0, -, w0⟩ := DataW.trod_int Try.underlying3 t0
    obtain rfl := (List.cons.inj e0).1
    obtain ⟨n1, y1, t1⟩ := open_fld h Try.underlying32 1 _ rfl 1 1 rfl (by kernel_rfl)
    replace t1 : DataW.trod enc Try.prog W base spare held n1 30 [p1] = some y1 := t1
    obtain ⟨a1, e1, -, w1⟩ := DataW.trod_int Try.underlying30 t1
    obtain rfl := (List.cons.inj e1).1
    obtain ⟨n2, y2, t2⟩ := open_fld h Try.underlying32 2 _ rfl 2 1 rfl (by kernel_rfl)
    replace t2 : DataW.trod enc Try.prog W base spare held n2 3 [p2] = some y2 := t2
    obtain ⟨a2, e2, -, w2⟩ := DataW.trod_int Try.underlying3 t2
    obtain rfl := (List.cons.inj e2).1
    exact ⟨⟨a0, a1, a2⟩, rfl, ⟨wf_int w0, wf_u16 w1, wf_int w2⟩⟩
end
section
variable {H : Type} {enc : TypeId × Value → H} {W : World} {base : Nat} {spare : Nat → Bool} {held : Bool}
theorem open_Steps {A : Option Addr} {n c : Nat} {d : DataW H} {p : List MemPlace} (h : DataW.Trod enc Try.prog W base spare held 22 (.slice A n c) d p) : ∃ l : List St, SeesIn W (fun k => k < W.heap.size) 3 (.slice A n c) l.length (l.flatMap St.cs) ∧ ∀ x ∈ l, x.ok W := by
  obtain ⟨fuel, h⟩ := h
  obtain ⟨l, hl⟩ := open_R (sz := 3) (fun (y : St) cs => cs = y.cs ∧ y.ok W) Try.underlying22 (by kernel_rfl) (by decide) open_St h
  exact ⟨l, (hl.imp (fun x cs h => h.1)).flat (by decide) (fun _ => rfl) (fun x u hu => by simp only [St.cs, List.mem_cons, List.not_mem_nil, or_false] at hu; rcases hu with rfl | rfl | rfl <;> rfl), fun x hx => by obtain ⟨cs, -, h⟩ := hl.all x hx; exact h⟩
theorem open_Steps_at {fuel : Nat} {v : Value} {x : DataW H × List MemPlace} (h : DataW.trod enc Try.prog W base spare held fuel 22 [v] = some x) : ∃ l : List St, SeesIn W (fun k => k < W.heap.size) 3 v l.length (l.flatMap St.cs) ∧ ∀ x ∈ l, x.ok W := by
  have hv : ∃ A n c, v = .slice A n c := by
    rcases open_slice Try.underlying22 h with ⟨h0, -⟩ | ⟨a, len, cap, m, n', D, Pl, hcs, -⟩
    · exact ⟨none, 0, 0, by simpa using h0⟩
    · exact ⟨some a, len, cap, by simpa using hcs⟩
  obtain ⟨A, n, c, rfl⟩ := hv
  obtain ⟨l, hl⟩ := open_R (sz := 3) (fun (y : St) cs => cs = y.cs ∧ y.ok W) Try.underlying22 (by kernel_rfl) (by decide) open_St h
  exact ⟨l, (hl.imp (fun x cs h => h.1)).flat (by decide) (fun _ => rfl) (fun x u hu => by simp only [St.cs, List.mem_cons, List.not_mem_nil, or_false] at hu; rcases hu with rfl | rfl | rfl <;> rfl), fun x hx => by obtain ⟨cs, -, h⟩ := hl.all x hx; exact h⟩
end
theorem sees_Steps {w : World} {F : Nat → Prop} {v : Value} {l : List St} (h : SeesIn w F 3 v l.length (l.flatMap St.cs)) {k : Nat} {y : St} (hy : l[k]? = some y) : ∃ g o c, v = .slice (some ⟨g, o, none⟩) l.length c ∧ F g ∧ g < w.heap.size ∧ l.length ≤ c ∧ c ≤ 9223372036854775807 ∧ w.cell? ⟨g, o + k * 3, none⟩ = some (.int .i64 y.kind) ∧ w.cell? ⟨g, o + k * 3 + 1, none⟩ = some (.int .u16 y.tote) ∧ w.cell? ⟨g, o + k * 3 + 2, none⟩ = some (.int .i64 y.zone) := by
  obtain ⟨g, o, c, rfl, h1, h2, hF, hg, hc⟩ := sees_get (enc := St.cs) (sz := 3) (fun _ => rfl) h rfl hy
  refine ⟨g, o, c, rfl, hF, hg, h1, by unfold maxLen at h2; omega, hc 0 _ rfl, by rw [Nat.add_assoc]; exact hc 1 _ rfl, by rw [Nat.add_assoc]; exact hc 2 _ rfl⟩
section
variable {H : Type} {enc : TypeId × Value → H} {W : World} {base : Nat} {spare : Nat → Bool} {held : Bool}
theorem open_U16s {A : Option Addr} {n c : Nat} {d : DataW H} {p : List MemPlace} (h : DataW.Trod enc Try.prog W base spare held 38 (.slice A n c) d p) : ∃ l : List Int, SeesIn W (fun k => k < W.heap.size) 1 (.slice A n c) l.length (l.flatMap (fun y => [Value.int .u16 y])) ∧ ∀ x ∈ l, 0 ≤ x ∧ x ≤ 65535 := by
  obtain ⟨fuel, h⟩ := h
  obtain ⟨l, hl⟩ := open_R (sz := 1) (fun (y : Int) cs => cs = [.int .u16 y] ∧ (0 ≤ y ∧ y ≤ 65535)) Try.underlying38 (by kernel_rfl) (by decide) (fun n cs x _ h => by obtain ⟨i, hi, -, wi⟩ := DataW.trod_int Try.underlying30 h; exact ⟨i, hi, wf_u16 wi⟩) h
  exact ⟨l, (hl.imp (fun x cs h => h.1)).flat (by decide) (fun _ => rfl) (fun x u hu => by simp only [List.mem_cons, List.not_mem_nil, or_false] at hu; subst hu; rfl), fun x hx => by obtain ⟨cs, -, h⟩ := hl.all x hx; exact h⟩
theorem open_U16s_at {fuel : Nat} {v : Value} {x : DataW H × List MemPlace} (h : DataW.trod enc Try.prog W base spare held fuel 38 [v] = some x) : ∃ l : List Int, SeesIn W (fun k => k < W.heap.size) 1 v l.length (l.flatMap (fun y => [Value.int .u16 y])) ∧ ∀ x ∈ l, 0 ≤ x ∧ x ≤ 65535 := by
  have hv : ∃ A n c, v = .slice A n c := by
    rcases open_slice Try.underlying38 h with ⟨h0, -⟩ | ⟨a, len, cap, m, n', D, Pl, hcs, -⟩
    · exact ⟨none, 0, 0, by simpa using h0⟩
    · exact ⟨some a, len, cap, by simpa using hcs⟩
  obtain ⟨A, n, c, rfl⟩ := hv
  obtain ⟨l, hl⟩ := open_R (sz := 1) (fun (y : Int) cs => cs = [.int .u16 y] ∧ (0 ≤ y ∧ y ≤ 65535)) Try.underlying38 (by kernel_rfl) (by decide) (fun n cs x _ h => by obtain ⟨i, hi, -, wi⟩ := DataW.trod_int Try.underlying30 h; exact ⟨i, hi, wf_u16 wi⟩) h
  exact ⟨l, (hl.imp (fun x cs h => h.1)).flat (by decide) (fun _ => rfl) (fun x u hu => by simp only [List.mem_cons, List.not_mem_nil, or_false] at hu; subst hu; rfl), fun x hx => by obtain ⟨cs, -, h⟩ := hl.all x hx; exact h⟩
end
end Go.Proofs.Ytilmodbiimjllaa
