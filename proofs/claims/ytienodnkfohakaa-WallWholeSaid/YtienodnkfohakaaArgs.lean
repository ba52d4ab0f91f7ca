import Derived.Test.YtienodnkfohakaaBase
import Derived.Deep.Slices
import Derived.Deep.Fields
import Derived.ChangeSame
import Derived.ProofKit
import Derived.OpenShut
namespace Go.Proofs.Ytienodnkfohakaa
set_option linter.unusedVariables false
set_option linter.unusedSimpArgs false
open Go.RowKit Go.ChangeShapes Go.WideShapes Go.Deep

/-- A slice value whose elements say R each: of sz cells; they lie in F. -/
def SeesR {α : Type} (w : World) (F : Nat → Prop) (sz : Nat) (R : α → List Value → Prop) (v : Value) (l : List α) : Prop :=
  ∃ A c, v = .slice A l.length c ∧ l.length ≤ c ∧ c ≤ maxLen ∧ (A = none → c = 0) ∧
    ∀ i x, l[i]? = some x → ∃ g o cs, A = some ⟨g, o, none⟩ ∧ F g ∧ g < w.heap.size ∧ R x cs ∧ cs.length = sz ∧ ∀ j u, cs[j]? = some u → w.cell? ⟨g, o + (i * sz + j), none⟩ = some u
theorem SeesR.move {α : Type} {w w' : World} {F G : Nat → Prop} {sz : Nat} {R : α → List Value → Prop} {v : Value} {l : List α} (h : SeesR w F sz R v l) (hs : w.heap.size ≤ w'.heap.size) (hk : ∀ k, F k → k < w.heap.size → G k ∧ w'.heap[k]? = w.heap[k]?) : SeesR w' G sz R v l := by
  obtain ⟨A, c, rfl, h1, h2, h3, h4⟩ := h
  refine ⟨A, c, rfl, h1, h2, h3, fun i x hx => ?_⟩
  obtain ⟨g, o, cs, rfl, hF, hg, hR, hl, hc⟩ := h4 i x hx
  exact ⟨g, o, cs, rfl, (hk g hF hg).1, by omega, hR, hl, fun j u hj => (World.cell?_of_block (hk g hF hg).2).trans (hc j u hj)⟩
theorem SeesR.imp {α : Type} {w : World} {F : Nat → Prop} {sz : Nat} {R S : α → List Value → Prop} {v : Value} {l : List α} (h : SeesR w F sz R v l) (hi : ∀ x cs, R x cs → S x cs) : SeesR w F sz S v l := by
  obtain ⟨A, c, rfl, h1, h2, h3, h4⟩ := h
  refine ⟨A, c, rfl, h1, h2, h3, fun i x hx => ?_⟩
  obtain ⟨g, o, cs, e, hF, hg, hR, hl, hc⟩ := h4 i x hx
  exact ⟨g, o, cs, e, hF, hg, hi _ _ hR, hl, hc⟩
theorem SeesR.all {α : Type} {w : World} {F : Nat → Prop} {sz : Nat} {R : α → List Value → Prop} {v : Value} {l : List α} (h : SeesR w F sz R v l) : ∀ x ∈ l, ∃ cs, R x cs := by
  obtain ⟨A, c, rfl, h1, h2, h3, h4⟩ := h
  intro x hx
  obtain ⟨i, hi⟩ := List.getElem?_of_mem hx
  obtain ⟨g, o, cs, e, hF, hg, hR, hl, hc⟩ := h4 i x hi
  exact ⟨cs, hR⟩
/-- Where an element's cells are a function of it. -/
theorem SeesR.flat {α : Type} {w : World} {F : Nat → Prop} {sz : Nat} {enc : α → List Value} {v : Value} {l : List α} (h : SeesR w F sz (fun x cs => cs = enc x) v l) (hz : 0 < sz) (hs : ∀ x, (enc x).length = sz) (h1 : ∀ x, ∀ u ∈ enc x, u.oneCell' = true) : SeesIn w F sz v l.length (l.flatMap enc) := by
  obtain ⟨A, c, rfl, h2, h3, h4, h5⟩ := h
  have hlen : (l.flatMap enc).length = l.length * sz := by
    clear h2 h5
    induction l with
    | nil => simp
    | cons x l ih => rw [List.flatMap_cons, List.length_append, ih, hs, List.length_cons, Nat.succ_mul]; omega
  refine ⟨A, c, rfl, h2, h3, h4, hlen, fun u hu => ?_, fun hn => ?_⟩
  · obtain ⟨x, _, hx⟩ := List.mem_flatMap.1 hu
    exact h1 x u hx
  · obtain ⟨g, o, cs, rfl, hF, hg, -, -, -⟩ := h5 0 _ (List.getElem?_eq_getElem hn)
    refine ⟨g, o, rfl, hF, hg, fun j u hj => ?_⟩
    have hjl : j < l.length * sz := by rw [← hlen]; exact (List.getElem?_eq_some_iff.1 hj).1
    have hi : j / sz < l.length := (Nat.div_lt_iff_lt_mul hz).2 hjl
    obtain ⟨g', o', cs', e, -, -, rfl, -, hc⟩ := h5 (j / sz) _ (List.getElem?_eq_getElem hi)
    simp only [Option.some.injEq, Addr.mk.injEq, and_true] at e
    obtain ⟨rfl, rfl⟩ := e
    have hm : j % sz < sz := Nat.mod_lt _ hz
    have hd : j / sz * sz + j % sz = j := by rw [Nat.mul_comm]; exact Nat.div_add_mod j sz
    have := hc (j % sz) u (by
      have hf : ∀ (l : List α) (i : Nat) (x : α), l[i]? = some x → ∀ q, q < sz → (l.flatMap enc)[i * sz + q]? = (enc x)[q]? := by
        intro l
        induction l with
        | nil => intro i x h; simp at h
        | cons y l ih =>
          intro i x h q hq
          cases i with
          | zero =>
            simp only [List.getElem?_cons_zero, Option.some.injEq] at h
            subst h
            rw [List.flatMap_cons, List.getElem?_append_left (by rw [hs]; omega)]
            simp
          | succ i =>
            rw [List.getElem?_cons_succ] at h
            rw [List.flatMap_cons, List.getElem?_append_right (by rw [hs, Nat.succ_mul]; omega), hs, show (i + 1) * sz + q - sz = i * sz + q by rw [Nat.succ_mul]; omega]
            exact ih i x h q hq
      rw [← hf l (j / sz) _ (List.getElem?_eq_getElem hi) (j % sz) hm, hd]
      exact hj)
    rwa [hd] at this

section
variable {H : Type} {enc : TypeId × Value → H} {P : Program} {w : World} {base : Nat} {spare : Nat → Bool} {held : Bool}

theorem list_of {α : Type} (n : Nat) (R : Nat → α → Prop) (h : ∀ i, i < n → ∃ y, R i y) : ∃ l : List α, l.length = n ∧ ∀ i y, l[i]? = some y → R i y := by
  induction n with
  | zero => exact ⟨[], rfl, fun i y h => by simp at h⟩
  | succ n ih =>
    obtain ⟨l, hl, hr⟩ := ih (fun i hi => h i (by omega))
    obtain ⟨y, hy⟩ := h n (by omega)
    refine ⟨l ++ [y], by simp [hl], fun i z hz => ?_⟩
    by_cases hi : i < n
    · rw [List.getElem?_append_left (by omega)] at hz
      exact hr i z hz
    · have : i < (l ++ [y]).length := (List.getElem?_eq_some_iff.1 hz).1
      simp only [List.length_append, hl, List.length_singleton] at this
      obtain rfl : i = n := by omega
      rw [List.getElem?_append_right (by omega)] at hz
      simp only [hl, Nat.sub_self, List.getElem?_cons_zero, Option.some.injEq] at hz
      subst hz
      exact hy
/-- A slice that came in, its elements opened by hel. -/
theorem open_R {α : Type} {t e : TypeId} {sz fuel : Nat} {A : Option Addr} {n c : Nat} {x : DataW H × List MemPlace} (R : α → List Value → Prop) (ht : P.underlying t = some (.slice e)) (hC : P.cellsOf e = sz) (hz : 0 < sz)
    (hel : ∀ (n : Nat) (cs : List Value) (x : DataW H × List MemPlace), cs.length = sz → DataW.trod enc P w base spare held n e cs = some x → ∃ y, R y cs)
    (h : DataW.trod enc P w base spare held fuel t [.slice A n c] = some x) : ∃ l : List α, SeesR w (fun k => k < w.heap.size) sz R (.slice A n c) l := by
  rcases open_slice ht h with ⟨h0, -⟩ | ⟨a, len, cap, m, n', D, Pl, hcs, hb, hl, hm, hmm, hx, hi⟩
  · simp only [List.cons.injEq, Value.slice.injEq, and_true] at h0
    obtain ⟨rfl, rfl, rfl⟩ := h0
    exact ⟨[], none, 0, rfl, Nat.le_refl _, by simp [maxLen], fun _ => rfl, fun i x h => by simp at h⟩
  · simp only [List.cons.injEq, Value.slice.injEq, and_true] at hcs
    obtain ⟨rfl, rfl, rfl⟩ := hcs
    have hlm : n ≤ m := by rw [hmm]; split <;> omega
    have := list_of (α := α) n (fun i y => ∃ g o cs, some a = some ⟨g, o, none⟩ ∧ g < w.heap.size ∧ R y cs ∧ cs.length = sz ∧ ∀ j u, cs[j]? = some u → w.cell? ⟨g, o + (i * sz + j), none⟩ = some u) (fun i hin => by
      obtain ⟨cs, hcs, htr⟩ := hi i (by omega)
      rw [hC] at hcs
      obtain ⟨-, hlen, hcell⟩ := World.cells?_some hcs
      obtain ⟨y, hy⟩ := hel n' cs _ hlen htr
      have hsp : a.spot = none := by
        obtain ⟨cs0, hcs0, -⟩ := hi 0 (by omega)
        rw [hC] at hcs0
        obtain ⟨-, hlen0, hcell0⟩ := World.cells?_some hcs0
        have h0 := hcell0 0 hz
        rw [Nat.zero_mul, show (a.add 0).add 0 = a by simp [Addr.add], List.getElem?_eq_getElem (by omega)] at h0
        rcases hs : a.spot with _ | q
        · rfl
        · simp only [World.cell?, hs] at h0
          split at h0 <;> simp at h0
      obtain ⟨g, o, sp⟩ := a
      simp only at hsp
      subst hsp
      have hcell' : ∀ j u, cs[j]? = some u → w.cell? ⟨g, o + (i * sz + j), none⟩ = some u := fun j u hj => by
        have hjl : j < sz := by rw [← hlen]; exact (List.getElem?_eq_some_iff.1 hj).1
        have := hcell j hjl
        rw [Go.Deep.add_add, Addr.add_lit] at this
        rw [this, hj]
      refine ⟨y, g, o, cs, rfl, ?_, hy, hlen, hcell'⟩
      have h0 := hcell' 0 _ (List.getElem?_eq_getElem (by omega))
      rcases Nat.lt_or_ge g w.heap.size with h' | h'
      · exact h'
      · simp [World.cell?, Array.getElem?_eq_none h'] at h0)
    obtain ⟨l, rfl, hr⟩ := this
    refine ⟨l, some a, c, rfl, hl, hm, (fun h => by simp at h), fun i x hx => ?_⟩
    obtain ⟨g, o, cs, h1, h2, h3, h4, h5⟩ := hr i x hx
    exact ⟨g, o, cs, h1, h2, h2, h3, h4, h5⟩
/-- A struct whose fields are one cell each: each field's cell. -/
theorem open_fields {t : TypeId} {fs : Array Field} {fuel : Nat} {cs : List Value} {x : DataW H × List MemPlace} (ht : P.underlying t = some (.struct fs)) (hone : oneCellFields P fs = true) (hC : P.cellsOf t = fs.size)
    (h : DataW.trod enc P w base spare held fuel t cs = some x) : ∀ (j : Nat) (f : Field), fs[j]? = some f → ∃ (n : Nat) (v : Value) (y : DataW H × List MemPlace), cs[j]? = some v ∧ DataW.trod enc P w base spare held n f.type [v] = some y := by
  obtain ⟨ys, n', hn', hy, hlen, hyl, hf⟩ := DataW.trod_struct ht h
  intro j f hj
  obtain ⟨ho, hk⟩ := hone_of hone j f hj
  have hjl : j < fs.size := (Array.getElem?_eq_some_iff.1 hj).1
  have h1 := hf j f hj
  rw [ho, hk] at h1
  have hone' : (cs.drop j).take 1 = [cs[j]'(by omega)] := by
    rw [List.drop_eq_getElem_cons (by omega)]
    rfl
  rw [hone'] at h1
  have hys : ys[j]? = some (ys[j]'(by omega)) := List.getElem?_eq_getElem (by omega)
  exact ⟨n', _, _, List.getElem?_eq_getElem (by omega), h1.trans hys⟩
end
end Go.Proofs.Ytienodnkfohakaa
