import Derived.Test.YtbcjmgocdplfnaaPlc9
import Derived.Laws.BytesArg
namespace Go.Proofs.Ytbcjmgocdplfnaa
set_option linter.unusedVariables false
set_option linter.unusedSimpArgs false
open Go.RowKit Go.ChangeShapes Go.WideShapes Go.Deep
theorem wf_int {n : Int} (h : (Lit.int .i64 n).wf = true) : -9223372036854775808 ≤ n ∧ n ≤ 9223372036854775807 := by
  simp only [Lit.wf, Bool.and_eq_true, decide_eq_true_eq] at h
  have h1 : IntKind.i64.min = -9223372036854775808 := by decide
  have h2 : IntKind.i64.max = 9223372036854775807 := by decide
  omega
theorem wf_u8 {n : Int} (h : (Lit.int .u8 n).wf = true) : 0 ≤ n ∧ n ≤ 255 := by
  simp only [Lit.wf, Bool.and_eq_true, decide_eq_true_eq] at h
  have h1 : IntKind.u8.min = 0 := by decide
  have h2 : IntKind.u8.max = 255 := by decide
  omega
theorem wf_u16 {n : Int} (h : (Lit.int .u16 n).wf = true) : 0 ≤ n ∧ n ≤ 65535 := by
  simp only [Lit.wf, Bool.and_eq_true, decide_eq_true_eq] at h
  have h1 : IntKind.u16.min = 0 := by decide
  have h2 : IntKind.u16.max = 65535 := by decide
  omega
section
variable {H : Type} {enc : TypeId × Value → H} {W : World} {base : Nat} {spare : Nat → Bool} {held : Bool}
theorem open_fld {P : Program} {t : TypeId} {fs : Array Field} {fuel : Nat} {cs : List Value} {x : DataW H × List MemPlace} (h : DataW.trod enc P W base spare held fuel t cs = some x) (ht : P.underlying t = some (.struct fs)) (j : Nat) (f : Field) (hj : fs[j]? = some f) (off sz : Nat) (ho : f.offset = off) (hs : P.cellsOf f.type = sz) :
    ∃ (n : Nat) (y : DataW H × List MemPlace), DataW.trod enc P W base spare held n f.type ((cs.drop off).take sz) = some y := by
  obtain ⟨ys, n', hn', hy, hlen, hyl, hf⟩ := DataW.trod_struct ht h
  subst ho hs
  have hjl : j < fs.size := (Array.getElem?_eq_some_iff.1 hj).1
  exact ⟨n', _, (hf j f hj).trans (List.getElem?_eq_getElem (by omega))⟩
end
structure St where
  kind : Int
  loc : Int
  addr : Int
def St.cs (x : St) : List Value := [.int .i64 x.kind, .int .u16 x.loc, .int .u8 x.addr]
structure St.ok (W : World) (x : St) : Prop where
  kind : -9223372036854775808 ≤ x.kind ∧ x.kind ≤ 9223372036854775807
  loc : 0 ≤ x.loc ∧ x.loc ≤ 65535
  addr : 0 ≤ x.addr ∧ x.addr ≤ 255
section
variable {H : Type} {enc : TypeId × Value → H} {W : World} {base : Nat} {spare : Nat → Bool} {held : Bool}
theorem open_St (n : Nat) (cs : List Value) (x : DataW H × List MemPlace) (hl : cs.length = 3) (h : DataW.trod enc Try.prog W base spare held n 31 cs = some x) : ∃ y : St, cs = y.cs ∧ y.ok W := by
  match cs, hl with
  | [p0, p1, p2], _ =>
    obtain ⟨n0, y0, t0⟩ := open_fld h Try.underlying31 0 _ rfl 0 1 rfl (by kernel_rfl)
    replace t0 : DataW.trod enc Try.prog W base spare held n0 3 [p0] = some y0 := t0
    obtain ⟨a0, e0, -, w0⟩ := DataW.trod_int Try.underlying3 t0
    obtain rfl := (List.cons.inj e0).1
    obtain ⟨n1, y1, t1⟩ := open_fld h Try.underlying31 1 _ rfl 1 1 rfl (by kernel_rfl)
    replace t1 : DataW.trod enc Try.prog W base spare held n1 29 [p1] = some y1 := t1
    obtain ⟨a1, e1, -, w1⟩ := DataW.trod_int Try.underlying29 t1
    obtain rfl := (List.cons.inj e1).1
    obtain ⟨n2, y2, t2⟩ := open_fld h Try.underlying31 2 _ rfl 2 1 rfl (by kernel_rfl)
    replace t2 : DataW.trod enc Try.prog W base spare held n2 5 [p2] = some y2 := t2
    obtain ⟨a2, e2, -, w2⟩ := DataW.trod_int Try.underlying5 t2
    obtain rfl := (List.cons.inj e2).1
    exact ⟨⟨a0, a1, a2⟩, rfl, ⟨wf_int w0, wf_u16 w1, wf_u8 w2⟩⟩
theorem open_Steps_at {fuel : Nat} {v : Value} {x : DataW H × List MemPlace} (h : DataW.trod enc Try.prog W base spare held fuel 23 [v] = some x) : ∃ l : List St, SeesIn W (fun k => k < W.heap.size) 3 v l.length (l.flatMap St.cs) ∧ ∀ x ∈ l, x.ok W := by
  have hv : ∃ A n c, v = .slice A n c := by
    rcases open_slice Try.underlying23 h with ⟨h0, -⟩ | ⟨a, len, cap, m, n', D, Pl, hcs, -⟩
    · exact ⟨none, 0, 0, by simpa using h0⟩
    · exact ⟨some a, len, cap, by simpa using hcs⟩
  obtain ⟨A, n, c, rfl⟩ := hv
  obtain ⟨l, hl⟩ := open_R (sz := 3) (fun (y : St) cs => cs = y.cs ∧ y.ok W) Try.underlying23 (by kernel_rfl) (by decide) open_St h
  exact ⟨l, (hl.imp (fun x cs h => h.1)).flat (by decide) (fun _ => rfl) (fun x u hu => by simp only [St.cs, List.mem_cons, List.not_mem_nil, or_false] at hu; rcases hu with rfl | rfl | rfl <;> rfl), fun x hx => by obtain ⟨cs, -, h⟩ := hl.all x hx; exact h⟩
theorem open_U8s_at {fuel : Nat} {v : Value} {x : DataW H × List MemPlace} (h : DataW.trod enc Try.prog W base spare held fuel 22 [v] = some x) : ∃ l : List Int, SeesIn W (fun k => k < W.heap.size) 1 v l.length (ints .u8 l) ∧ ∀ x ∈ l, 0 ≤ x ∧ x ≤ 255 := by
  have hv : ∃ A n c, v = .slice A n c := by
    rcases open_slice Try.underlying22 h with ⟨h0, -⟩ | ⟨a, len, cap, m, n', D, Pl, hcs, -⟩
    · exact ⟨none, 0, 0, by simpa using h0⟩
    · exact ⟨some a, len, cap, by simpa using hcs⟩
  obtain ⟨A, n, c, rfl⟩ := hv
  obtain ⟨l, hl⟩ := open_R (sz := 1) (fun (y : Int) cs => cs = [.int .u8 y] ∧ (0 ≤ y ∧ y ≤ 255)) Try.underlying22 (by kernel_rfl) (by decide) (fun n cs x _ h => by obtain ⟨i, hi, -, wi⟩ := DataW.trod_int Try.underlying5 h; exact ⟨i, hi, wf_u8 wi⟩) h
  refine ⟨l, ?_, fun x hx => by obtain ⟨cs, -, h⟩ := hl.all x hx; exact h⟩
  have := (hl.imp (fun x cs h => h.1)).flat (enc := fun y => [Value.int .u8 y]) (by decide) (fun _ => rfl) (fun x u hu => by simp only [List.mem_cons, List.not_mem_nil, or_false] at hu; subst hu; rfl)
  rw [flat_one] at this
  exact this
end
theorem sees_Steps {w : World} {F : Nat → Prop} {v : Value} {l : List St} (h : SeesIn w F 3 v l.length (l.flatMap St.cs)) {k : Nat} {y : St} (hy : l[k]? = some y) : ∃ g o c, v = .slice (some ⟨g, o, none⟩) l.length c ∧ F g ∧ g < w.heap.size ∧ l.length ≤ c ∧ c ≤ 9223372036854775807 ∧ w.cell? ⟨g, o + k * 3, none⟩ = some (.int .i64 y.kind) ∧ w.cell? ⟨g, o + k * 3 + 1, none⟩ = some (.int .u16 y.loc) ∧ w.cell? ⟨g, o + k * 3 + 2, none⟩ = some (.int .u8 y.addr) := by
  obtain ⟨g, o, c, rfl, h1, h2, hF, hg, hc⟩ := sees_get (enc := St.cs) (sz := 3) (fun _ => rfl) h rfl hy
  refine ⟨g, o, c, rfl, hF, hg, h1, by unfold maxLen at h2; omega, hc 0 _ rfl, by rw [Nat.add_assoc]; exact hc 1 _ rfl, by rw [Nat.add_assoc]; exact hc 2 _ rfl⟩
/-! Bytes as a string. -/
theorem str_sees {w : World} {F : Nat → Prop} {A : Option Addr} {n c : Nat} {l : List Int} (h : SeesIn w F 1 (.slice A n c) l.length (ints .u8 l)) : (convert 22 9 (.slice A n c)).run Try.prog w = .ok (.string (strOfNums l)) w := by
  obtain ⟨A', c', e, h1, h2, h3, h4, -, h5⟩ := h
  simp only [Value.slice.injEq] at e
  obtain ⟨rfl, rfl, rfl⟩ := e
  cases l with
  | nil =>
    cases A with
    | none => exact run_convert_bytes_nil w 22 5 Try.underlying22 Try.underlying5 _ _ 9 Try.underlying9
    | some a =>
      rw [run_convert_bytes_string w _ _ 5 _ _ _ Try.underlying22 Try.underlying5 Try.underlying9]
      have := run_bytesToString (P := Try.prog) w a 0 c [] (by simp [loadCells, loadCellsFrom])
      rw [show ([] : List Int).length = 0 from rfl, this]
      rfl
  | cons x l =>
    obtain ⟨g, o, rfl, -, -, hc⟩ := h5 (by simp)
    refine run_convert_bytes_arg w 22 5 Try.underlying22 Try.underlying5 g o _ c (x :: l) rfl (fun i hi => ?_) 9 Try.underlying9
    refine hc i _ ?_
    rw [ints, List.getElem?_map, List.getElem?_eq_getElem hi]
    simp only [List.getD, List.getElem?_eq_getElem hi, Option.map_some, Option.getD_some]
theorem str_own {w0 w : World} {L : List (Asrt w0.heap.size)} (H : Has w0 w L) {i : Nat} {A : Option Addr} {n c : Nat} {l : List Int} (hn : n = l.length) (hi : L[i]? = some (OwnA w0.heap.size 5 1 (.slice A n c) n (ints .u8 l))) : (convert 22 9 (.slice A n c)).run Try.prog w = .ok (.string (strOfNums l)) w := by
  subst hn
  obtain ⟨F, hz, -⟩ := H.get hi
  exact str_sees (show Own w F 5 1 (.slice A l.length c) l.length (ints .u8 l) from hz).sees
theorem str_eq {l m : List Int} (hl : ∀ x ∈ l, 0 ≤ x ∧ x ≤ 255) (hm : ∀ x ∈ m, 0 ≤ x ∧ x ≤ 255) : ((strOfNums l).toList == (strOfNums m).toList) = (l == m) := by
  rw [ByteArray.toList_eq, ByteArray.toList_eq, strOfNums_data, strOfNums_data]
  induction l generalizing m with
  | nil => cases m <;> rfl
  | cons x l ih =>
    cases m with
    | nil => rfl
    | cons y m =>
      simp only [List.map_cons, List.cons_beq_cons, ih (fun z hz => hl z (List.mem_cons_of_mem _ hz)) (fun z hz => hm z (List.mem_cons_of_mem _ hz))]
      have h1 := hl x (List.mem_cons_self ..)
      have h2 := hm y (List.mem_cons_self ..)
      congr 1
      have : (UInt8.ofNat x.toNat = UInt8.ofNat y.toNat) ↔ x = y := by
        constructor
        · intro e
          have := congrArg UInt8.toNat e
          simp only [UInt8.toNat_ofNat'] at this
          omega
        · rintro rfl; rfl
      rw [Bool.eq_iff_iff, beq_iff_eq, beq_iff_eq]
      exact this
theorem PS.spares_ok {s : PS} : ∀ x ∈ s.spares, 0 ≤ x ∧ x ≤ 255 := by
  intro x hx
  unfold PS.spares at hx
  obtain ⟨n, hn, rfl⟩ := List.mem_map.1 hx
  have := List.mem_range.1 (List.mem_filter.1 hn).1
  omega
end Go.Proofs.Ytbcjmgocdplfnaa
