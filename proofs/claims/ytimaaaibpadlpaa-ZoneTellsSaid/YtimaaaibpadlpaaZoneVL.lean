import Derived.Test.YtimaaaibpadlpaaZone8
namespace Go.Proofs.Ytimaaaibpadlpaa
set_option linter.unusedVariables false
set_option linter.unusedSimpArgs false
open Go.RowKit

/-- is there one of this location, of some quantity? -/
def cov (ls : List Ln) (x : Int) : Bool := ls.any (fun y => y.loc == x && decide (0 < y.qty))
theorem lidx_neg (l : List Ln) (x : Int) : lidx l x < 0 ↔ x ∉ l.map Ln.loc := by
  unfold lidx idx
  cases h : (l.map Ln.loc).idxOf? x with
  | none => rw [List.idxOf?_eq_none_iff] at h; simp only [h]; constructor; exact fun _ c => c; exact fun _ => by decide
  | some i =>
    have : x ∈ l.map Ln.loc := by
      rw [List.idxOf?, List.findIdx?_eq_some_iff_getElem] at h
      obtain ⟨h1, h2, -⟩ := h
      have : (l.map Ln.loc)[i] = x := by simpa using h2
      exact this ▸ List.getElem_mem h1
    constructor
    · intro h'; exact absurd h' (by show ¬ ((i : Int) < 0); omega)
    · intro h'; exact absurd this h'
theorem wantsOf_end (locs : List Int) (ls : List Ln) (y : Ln) : wantsOf locs (ls ++ [y]) = addLine locs (wantsOf locs ls) y := by
  rw [wantsOf, List.foldl_append]; rfl
theorem wants_has (locs : List Int) (x : Int) (n : Nat) : ∀ (ls : List Ln), ls.length = n → (x ∈ (wantsOf locs ls).map Ln.loc ↔ mem locs x = true ∧ cov ls x = true) := by
  induction n with
  | zero =>
    intro ls hl
    obtain rfl := List.eq_nil_of_length_eq_zero hl
    simp [wantsOf, cov]
  | succ n ih =>
    intro ls hl
    obtain ⟨l0, y, rfl⟩ : ∃ l0 y, ls = l0 ++ [y] := ⟨ls.dropLast, ls.getLast (by intro h; simp [h] at hl), (List.dropLast_concat_getLast _).symm⟩
    have ih' := ih l0 (by simpa using hl)
    rw [wantsOf_end]
    have hcov : cov (l0 ++ [y]) x = (cov l0 x || (y.loc == x && decide (0 < y.qty))) := by simp [cov]
    unfold addLine
    split
    · rename_i hc
      rw [List.map_append, List.mem_append, ih', hcov]
      simp only [List.map_cons, List.map_nil, List.mem_singleton, Bool.or_eq_true, Bool.and_eq_true, beq_iff_eq, decide_eq_true_eq]
      constructor
      · rintro (⟨h1, h2⟩ | rfl)
        · exact ⟨h1, .inl h2⟩
        · exact ⟨hc.1, .inr ⟨rfl, hc.2.1⟩⟩
      · rintro ⟨h1, h2 | h2⟩
        · exact .inl ⟨h1, h2⟩
        · exact .inr h2.1.symm
    · rename_i hc
      rw [ih', hcov]
      simp only [Bool.or_eq_true, Bool.and_eq_true, beq_iff_eq, decide_eq_true_eq]
      constructor
      · rintro ⟨h1, h2⟩; exact ⟨h1, .inl h2⟩
      · rintro ⟨h1, h2 | ⟨rfl, h3⟩⟩
        · exact ⟨h1, h2⟩
        · refine ⟨h1, ?_⟩
          by_cases hx : lidx (wantsOf locs l0) y.loc < 0
          · exact absurd ⟨h1, h3, hx⟩ hc
          · rw [lidx_neg, Classical.not_not, ih'] at hx
            exact hx.2
theorem wants_step (locs : List Int) (ls : List Ln) (y : Ln) : wantsOf locs (ls ++ [y]) = if mem locs y.loc = true ∧ cov ls y.loc = false ∧ 0 < y.qty then wantsOf locs ls ++ [y] else wantsOf locs ls := by
  rw [wantsOf_end]
  unfold addLine
  have h := wants_has locs y.loc ls.length ls rfl
  have h' := lidx_neg (wantsOf locs ls) y.loc
  by_cases hc : mem locs y.loc = true ∧ cov ls y.loc = false ∧ 0 < y.qty
  · rw [if_pos hc, if_pos ⟨hc.1, hc.2.2, h'.2 (fun c => by have := (h.1 c).2; rw [hc.2.1] at this; simp at this)⟩]
  · rw [if_neg hc, if_neg]
    rintro ⟨h1, h2, h3⟩
    refine hc ⟨h1, ?_, h2⟩
    cases hv : cov ls y.loc with
    | false => rfl
    | true => exact absurd (h.2 ⟨h1, hv⟩) (h'.1 h3)
theorem wants_prefix (locs : List Int) (ls : List Ln) : ∀ acc : List Ln, ∃ t, ls.foldl (addLine locs) acc = acc ++ t := by
  induction ls with
  | nil => intro acc; exact ⟨[], by simp⟩
  | cons y ls ih =>
    intro acc
    obtain ⟨t, ht⟩ := ih (addLine locs acc y)
    rw [List.foldl_cons, ht]
    unfold addLine
    split
    · exact ⟨y :: t, by simp⟩
    · exact ⟨t, rfl⟩
theorem wants_take (locs : List Int) (ls : List Ln) (i : Nat) : ∃ t, wantsOf locs ls = wantsOf locs (ls.take i) ++ t := by
  obtain ⟨t, ht⟩ := wants_prefix locs (ls.drop i) (wantsOf locs (ls.take i))
  refine ⟨t, ?_⟩
  rw [← ht]
  show ls.foldl _ _ = _
  rw [wantsOf, ← List.foldl_append, List.take_append_drop]
/-- the place of the next one -/
theorem wants_at (locs : List Int) (ls : List Ln) (i : Nat) (y : Ln) (hy : ls[i]? = some y) (h1 : mem locs y.loc = true) (h2 : cov (ls.take i) y.loc = false) (h3 : 0 < y.qty) :
    (wantsOf locs ls)[(wantsOf locs (ls.take i)).length]? = some y ∧ (wantsOf locs (ls.take (i + 1))).length = (wantsOf locs (ls.take i)).length + 1 := by
  have e : ls.take (i + 1) = ls.take i ++ [y] := by rw [List.take_add_one, hy]; rfl
  have hs := wants_step locs (ls.take i) y
  rw [if_pos ⟨h1, h2, h3⟩, ← e] at hs
  obtain ⟨t, ht⟩ := wants_take locs ls (i + 1)
  rw [hs] at ht ⊢
  rw [ht]
  simp
theorem wants_not (locs : List Int) (ls : List Ln) (i : Nat) (y : Ln) (hy : ls[i]? = some y) (h : ¬ (mem locs y.loc = true ∧ cov (ls.take i) y.loc = false ∧ 0 < y.qty)) :
    (wantsOf locs (ls.take (i + 1))).length = (wantsOf locs (ls.take i)).length := by
  have e : ls.take (i + 1) = ls.take i ++ [y] := by rw [List.take_add_one, hy]; rfl
  rw [e, wants_step, if_neg h]
theorem mem_take (l : List Int) (j : Nat) (y x : Int) (hy : l[j]? = some y) : mem (l.take (j + 1)) x = (mem (l.take j) x || (y == x)) := by
  unfold mem
  rw [List.take_add_one, hy]
  simp only [Option.toList_some]
  rw [Bool.eq_iff_iff]
  simp only [List.contains_iff_mem, List.mem_append, List.mem_singleton, Bool.or_eq_true, beq_iff_eq]
  constructor
  · rintro (h | h); exact .inl h; exact .inr h.symm
  · rintro (h | h); exact .inl h; exact .inr h.symm
theorem cov_take (l : List Ln) (j : Nat) (y : Ln) (x : Int) (hy : l[j]? = some y) : cov (l.take (j + 1)) x = (cov (l.take j) x || (y.loc == x && decide (0 < y.qty))) := by
  unfold cov
  rw [List.take_add_one, hy]
  simp

theorem sees_int {w : World} {F : Nat → Prop} {k : IntKind} {v : Value} {n : Nat} {l : List Int} (h : SeesIn w F 1 v n (ints k l)) {i : Nat} {x : Int} (hx : l[i]? = some x) : ∃ g o c, v = .slice (some ⟨g, o, none⟩) n c ∧ F g ∧ g < w.heap.size ∧ n ≤ c ∧ c ≤ maxLen ∧ w.cell? ⟨g, o + i, none⟩ = some (.int k x) := by
  obtain ⟨A, c, rfl, h1, h2, h2', h3, h3', h4⟩ := h
  have hi : i < l.length := (List.getElem?_eq_some_iff.1 hx).1
  rw [ints_len] at h3
  obtain ⟨g, o, rfl, hF, hg, hc⟩ := h4 (by omega)
  exact ⟨g, o, c, rfl, hF, hg, h1, h2, hc i _ (by simp [ints, hx])⟩
end Go.Proofs.Ytimaaaibpadlpaa
