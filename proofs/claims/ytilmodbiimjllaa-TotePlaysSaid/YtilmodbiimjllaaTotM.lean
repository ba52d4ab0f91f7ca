import Derived.Test.YtilmodbiimjllaaTotP
namespace Go.Proofs.Ytilmodbiimjllaa
set_option linter.unusedVariables false
set_option linter.unusedSimpArgs false
open Go.RowKit
/-- Totes, by what each zone has. -/
def mkT (r : Int) (n : Nat) (f : Nat → List Int) : TS := ⟨r, (List.range n).map f⟩
def updL (f : Nat → List Int) (i : Nat) (q : List Int) : Nat → List Int := fun j => if j = i then q else f j
theorem updL_same (f i q) : updL f i q i = q := by simp [updL]
theorem updL_other (f) {i j : Nat} (q) (h : j ≠ i) : updL f i q j = f j := by simp [updL, h]
theorem init_mkT (r : Int) (n : Nat) : TS.init r n = mkT r n (fun _ => []) := by
  unfold TS.init mkT
  congr 1
  apply List.ext_getElem?
  intro i
  simp only [List.getElem?_replicate, List.getElem?_map]
  by_cases h : i < n
  · rw [if_pos h, List.getElem?_range h]; rfl
  · rw [if_neg h, List.getElem?_eq_none (by simpa using h)]; rfl
section
variable {r : Int} {n : Nat} {f : Nat → List Int} {i : Nat} {x y : Int} {q : List Int}
theorem mkT_get (h : i < n) : (mkT r n f).qs[i]? = some (f i) := by simp [mkT, h]
theorem mkT_zone (h : i < n) : (mkT r n f).zone i = some i := by
  unfold TS.zone
  rw [if_pos (by simp [mkT]; omega)]; simp
theorem mkT_zone' (h : n ≤ i) : (mkT r n f).zone i = none := by
  unfold TS.zone
  rw [if_neg (by simp [mkT]; omega)]
theorem mkT_row (h : i < n) : (mkT r n f).row i = f i := by unfold TS.row; rw [mkT_get h]; rfl
theorem mkT_rowZ (h : i < n) : (mkT r n f).rowZ i = f i := by rw [rowZ_in _ (mkT_zone h), mkT_row h]
theorem mkT_upd : (mkT r n f).upd i q = mkT r n (updL f i q) := by
  unfold TS.upd mkT
  congr 1
  apply List.ext_getElem?
  intro j
  by_cases hj : j < n
  · by_cases e : i = j
    · subst e
      rw [List.getElem?_set_self (by simpa using hj), List.getElem?_map, List.getElem?_range hj]
      simp [updL]
    · rw [List.getElem?_set_ne e, List.getElem?_map, List.getElem?_map, List.getElem?_range hj]
      simp only [Option.map_some, Option.some.injEq, updL]
      rw [if_neg (fun c : j = i => e c.symm)]
  · rw [List.getElem?_eq_none (by simpa using hj), List.getElem?_eq_none (by simpa using hj)]
theorem mkT_none (h : ∀ j, j < n → x ∉ f j) : (mkT r n f).at? x = none := by
  refine at_miss (fun z hz => ?_)
  simp only [mkT, List.mem_map, List.mem_range] at hz
  obtain ⟨j, hj, rfl⟩ := hz
  cases hm : mem (f j) x with
  | false => rfl
  | true => exact absurd (mem_mem.1 hm) (h j hj)
theorem mkT_some (hi : i < n) (hx : x ∈ f i) (h : ∀ j, j < i → x ∉ f j) : (mkT r n f).at? x = some i := by
  refine at_hit (mkT_get hi) (mem_mem.2 hx) (fun z hz => ?_)
  obtain ⟨j, hj, hz⟩ := List.mem_take_iff_getElem.1 hz
  simp only [mkT, List.getElem_map, List.getElem_range] at hz
  subst hz
  cases hm : mem (f j) x with
  | false => rfl
  | true => exact absurd (mem_mem.1 hm) (h j (by omega))
theorem mkT_whereN (h : ∀ j, j < n → x ∉ f j) : (mkT r n f).whereV x = .tuple #[.int .i64 0, .bool false] := by unfold TS.whereV; rw [mkT_none h]
theorem mkT_whereS (hi : i < n) (hx : x ∈ f i) (h : ∀ j, j < i → x ∉ f j) : (mkT r n f).whereV x = .tuple #[.int .i64 i, .bool true] := by unfold TS.whereV; rw [mkT_some hi hx h]
theorem mkT_put (hi : i < n) (h : ∀ j, j < n → x ∉ f j) (hl : ((f i).length : Int) < r) : (mkT r n f).put x i = (mkT r n (updL f i (f i ++ [x])), 0) := by
  have hf : (mkT r n f).full i = false := by unfold TS.full; rw [mkT_row hi]; exact decide_eq_false (by show ¬ (r ≤ _); omega)
  simp only [TS.put, mkT_zone hi, mkT_none h, hf, mkT_row hi, mkT_upd, Option.isSome_none, Bool.false_eq_true, if_false]
theorem mkT_putF (hi : i < n) (h : ∀ j, j < n → x ∉ f j) (hl : r ≤ ((f i).length : Int)) : (mkT r n f).put x i = (mkT r n f, 5) := by
  have hf : (mkT r n f).full i = true := by unfold TS.full; rw [mkT_row hi]; exact decide_eq_true (by show r ≤ _; omega)
  simp only [TS.put, mkT_zone hi, mkT_none h, hf, Option.isSome_none, Bool.false_eq_true, if_false, if_true]
theorem mkT_passE (hi : i < n) (h : f i = []) : (mkT r n f).pass i = (mkT r n f, 0, 6) := by
  simp only [TS.pass, mkT_zone hi, mkT_row hi, h]
theorem cast1 (i : Nat) : ((i : Int) + 1) = ((i + 1 : Nat) : Int) := rfl
theorem mkT_passL (hi : i + 1 = n) (h : f i = y :: q) : (mkT r n f).pass i = (mkT r n (updL f i q), y, 0) := by
  have hz : (mkT r n f).zone ((i : Int) + 1) = none := by rw [cast1]; exact mkT_zone' (by omega)
  simp only [TS.pass, mkT_zone (show i < n by omega), mkT_row (show i < n by omega), h, hz, mkT_upd]
theorem mkT_passN (hi : i + 1 < n) (h : f i = y :: q) (hl : ((f (i + 1)).length : Int) < r) : (mkT r n f).pass i = (mkT r n (updL (updL f i q) (i + 1) (f (i + 1) ++ [y])), y, 0) := by
  have hz : (mkT r n f).zone ((i : Int) + 1) = some (i + 1) := by rw [cast1]; exact mkT_zone hi
  have hf : (mkT r n f).full (i + 1) = false := by unfold TS.full; rw [mkT_row hi]; exact decide_eq_false (by show ¬ (r ≤ _); omega)
  simp only [TS.pass, mkT_zone (show i < n by omega), mkT_row (show i < n by omega), h, hz, hf, mkT_upd, mkT_row hi, Bool.false_eq_true, if_false]
theorem mkT_passF (hi : i + 1 < n) (h : f i = y :: q) (hl : r ≤ ((f (i + 1)).length : Int)) : (mkT r n f).pass i = (mkT r n f, 0, 5) := by
  have hz : (mkT r n f).zone ((i : Int) + 1) = some (i + 1) := by rw [cast1]; exact mkT_zone hi
  have hf : (mkT r n f).full (i + 1) = true := by unfold TS.full; rw [mkT_row hi]; exact decide_eq_true (by show r ≤ _; omega)
  simp only [TS.pass, mkT_zone (show i < n by omega), mkT_row (show i < n by omega), h, hz, hf, if_true]
end
/-- 0, 1, .. -/
def seqk (k : Nat) : List Int := (List.range k).map fun j : Nat => (j : Int)
theorem seqk_len (k : Nat) : (seqk k).length = k := by simp [seqk]
theorem seqk_succ (k : Nat) : seqk (k + 1) = seqk k ++ [(k : Int)] := by simp [seqk, List.range_succ]
theorem seqk_mem {k : Nat} {x : Int} (h : x ∈ seqk k) : 0 ≤ x ∧ x < k := by
  simp only [seqk, List.mem_map, List.mem_range] at h
  obtain ⟨j, hj, rfl⟩ := h
  omega
theorem seqk_cons (k : Nat) : ∃ tl, seqk (k + 1) = 0 :: tl ∧ tl.length = k ∧ ∀ x ∈ tl, 1 ≤ x ∧ x ≤ k := by
  refine ⟨(List.range k).map fun j : Nat => ((j + 1 : Nat) : Int), ?_, by simp, fun x hx => ?_⟩
  · simp only [seqk, List.range_succ_eq_map, List.map_cons, List.map_map]; rfl
  · simp only [List.mem_map, List.mem_range] at hx
    obtain ⟨j, hj, rfl⟩ := hx
    omega
end Go.Proofs.Ytilmodbiimjllaa
