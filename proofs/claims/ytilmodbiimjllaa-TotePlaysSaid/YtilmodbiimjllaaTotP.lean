import Derived.Test.YtilmodbiimjllaaTot7
import Derived.Test.YtilmodbiimjllaaAppL
namespace Go.Proofs.Ytilmodbiimjllaa
set_option linter.unusedVariables false
set_option linter.unusedSimpArgs false
open Go.RowKit
theorem mx_mn (a : Int) (k : Nat) (h : 1 ≤ k) : ∃ m : Nat, mn (mx a 1) k = m ∧ 1 ≤ m ∧ m ≤ k := by
  have : 1 ≤ mn (mx a 1) k ∧ mn (mx a 1) k ≤ k := by unfold mn mx; split <;> split <;> omega
  exact ⟨(mn (mx a 1) k).toNat, by omega, by omega, by omega⟩
/-! No tote is there twice. -/
def TS.uniq (s : TS) : Prop := s.qs.flatten.Nodup
theorem set_push (x : Int) : ∀ (qs : List (List Int)) (i : Nat) (q : List Int), qs[i]? = some q → (qs.set i (q ++ [x])).flatten.Perm (x :: qs.flatten) := by
  intro qs
  induction qs with
  | nil => intro i q h; simp at h
  | cons p qs ih =>
    intro i q h
    cases i with
    | zero =>
      simp only [List.getElem?_cons_zero, Option.some.injEq] at h
      subst h
      simp only [List.set_cons_zero, List.flatten_cons, List.append_assoc]
      exact List.perm_middle
    | succ i =>
      simp only [List.getElem?_cons_succ] at h
      simp only [List.set_cons_succ, List.flatten_cons]
      exact ((ih i q h).append_left p).trans List.perm_middle
theorem set_pop (y : Int) : ∀ (qs : List (List Int)) (i : Nat) (q : List Int), qs[i]? = some (y :: q) → qs.flatten.Perm (y :: (qs.set i q).flatten) := by
  intro qs
  induction qs with
  | nil => intro i q h; simp at h
  | cons p qs ih =>
    intro i q h
    cases i with
    | zero =>
      simp only [List.getElem?_cons_zero, Option.some.injEq] at h
      subst h
      simp
    | succ i =>
      simp only [List.getElem?_cons_succ] at h
      simp only [List.set_cons_succ, List.flatten_cons]
      exact ((ih i q h).append_left p).trans List.perm_middle
theorem mem_mem {q : List Int} {x : Int} : mem q x = true ↔ x ∈ q := by unfold mem; simp
theorem at_none {s : TS} {x : Int} (h : (s.at? x).isSome = false) : x ∉ s.qs.flatten := by
  unfold TS.at? at h
  rw [Option.isSome_eq_false_iff, Option.isNone_iff_eq_none, List.findIdx?_eq_none_iff] at h
  intro c
  obtain ⟨q, hq, hx⟩ := List.mem_flatten.1 c
  have := h q hq
  rw [mem_mem.2 hx] at this
  simp at this
theorem at_of (x : Int) : ∀ (qs : List (List Int)) (i : Nat) (q : List Int), qs.flatten.Nodup → qs[i]? = some q → x ∈ q → qs.findIdx? (fun q => mem q x) = some i := by
  intro qs
  induction qs with
  | nil => intro i q _ h; simp at h
  | cons p qs ih =>
    intro i q hn h hx
    rw [List.flatten_cons, List.nodup_append] at hn
    cases i with
    | zero =>
      simp only [List.getElem?_cons_zero, Option.some.injEq] at h
      subst h
      rw [List.findIdx?_cons, mem_mem.2 hx]; rfl
    | succ i =>
      simp only [List.getElem?_cons_succ] at h
      have hxf : x ∈ qs.flatten := List.mem_flatten.2 ⟨q, List.mem_of_getElem? h, hx⟩
      have hxp : mem p x = false := by
        cases c : mem p x with
        | false => rfl
        | true => exact absurd rfl (hn.2.2 x (mem_mem.1 c) x hxf)
      rw [List.findIdx?_cons, hxp, ih i q hn.2.1 h hx]; rfl
theorem put_inv (s : TS) (hu : s.uniq) (x z : Int) : (s.put x z).1.uniq ∧ (s.put x z).1.room = s.room ∧ (s.put x z).1.qs.length = s.qs.length := by
  unfold TS.put
  cases hz : s.zone z with
  | none => exact ⟨hu, rfl, rfl⟩
  | some i =>
    simp only
    split
    · exact ⟨hu, rfl, rfl⟩
    · rename_i ha
      split
      · exact ⟨hu, rfl, rfl⟩
      · obtain ⟨hq, -⟩ := TS.zone_some hz
        refine ⟨?_, rfl, by simp [TS.upd]⟩
        show (s.qs.set i (s.row i ++ [x])).flatten.Nodup
        rw [(set_push x s.qs i _ hq).nodup_iff, List.nodup_cons]
        exact ⟨at_none (by simpa using ha), hu⟩
theorem skip_inv (s : TS) (hu : s.uniq) (z : Int) : (s.skip z).1.uniq ∧ (s.skip z).1.room = s.room ∧ (s.skip z).1.qs.length = s.qs.length := by
  unfold TS.skip
  cases hz : s.zone z with
  | none => exact ⟨hu, rfl, rfl⟩
  | some i =>
    obtain ⟨hq, -⟩ := TS.zone_some hz
    simp only
    cases hr : s.row i with
    | nil => exact ⟨hu, rfl, rfl⟩
    | cons y q =>
      rw [hr] at hq
      have hi := (List.getElem?_eq_some_iff.1 hq).1
      refine ⟨?_, rfl, by simp [TS.upd]⟩
      show (s.qs.set i (q ++ [y])).flatten.Nodup
      have h1 := set_pop y s.qs i q hq
      have h2 := set_push y (s.qs.set i q) i q (by simp [hi])
      rw [List.set_set] at h2
      exact (h1.trans h2.symm).nodup_iff.1 hu
theorem pass_inv (s : TS) (hu : s.uniq) (z : Int) : (s.pass z).1.uniq ∧ (s.pass z).1.room = s.room ∧ (s.pass z).1.qs.length = s.qs.length := by
  unfold TS.pass
  cases hz : s.zone z with
  | none => exact ⟨hu, rfl, rfl⟩
  | some i =>
    obtain ⟨hq, hzi⟩ := TS.zone_some hz
    simp only
    cases hr : s.row i with
    | nil => exact ⟨hu, rfl, rfl⟩
    | cons y q =>
      rw [hr] at hq
      have hi := (List.getElem?_eq_some_iff.1 hq).1
      have h1 := set_pop y s.qs i q hq
      simp only
      cases hz2 : s.zone (z + 1) with
      | none => exact ⟨(List.nodup_cons.1 (h1.nodup_iff.1 hu)).2, rfl, by simp [TS.upd]⟩
      | some j =>
        obtain ⟨hqj, hzj⟩ := TS.zone_some hz2
        have hij : i ≠ j := by omega
        simp only
        split
        · exact ⟨hu, rfl, rfl⟩
        · refine ⟨?_, rfl, by simp [TS.upd]⟩
          show ((s.qs.set i q).set j (s.row j ++ [y])).flatten.Nodup
          have h2 := set_push y (s.qs.set i q) j (s.row j) (by rw [List.getElem?_set_ne hij]; exact hqj)
          exact (h1.trans h2.symm).nodup_iff.1 hu
theorem init_uniq (r : Int) (n : Nat) : (TS.init r n).uniq := by
  show (List.replicate n ([] : List Int)).flatten.Nodup
  rw [List.flatten_replicate_nil]; exact List.nodup_nil
theorem rowZ_in (s : TS) {z : Int} {i : Nat} (h : s.zone z = some i) : s.rowZ z = s.row i := by unfold TS.rowZ; rw [h]
theorem rowZ_out (s : TS) {z : Int} (h : s.zone z = none) : s.rowZ z = [] := by unfold TS.rowZ; rw [h]
theorem rowZ_len (s : TS) (hg : s.good) (z : Int) : ((s.rowZ z).length : Int) ≤ s.room ∧ ((s.rowZ z).length = 0 ∨ (0 ≤ z ∧ z < s.qs.length)) := by
  cases hz : s.zone z with
  | none => rw [rowZ_out s hz]; have := hg.r1; exact ⟨by simp; omega, .inl rfl⟩
  | some i =>
    rw [rowZ_in s hz]
    obtain ⟨hq, -⟩ := TS.zone_some hz
    have := zone_bounds hg hz
    exact ⟨hg.q _ (List.mem_of_getElem? hq), .inr (by omega)⟩
theorem rowZ_where (s : TS) (hu : s.uniq) {z x : Int} (h : x ∈ s.rowZ z) : s.whereV x = .tuple #[.int .i64 z, .bool true] := by
  cases hz : s.zone z with
  | none => rw [rowZ_out s hz] at h; simp at h
  | some i =>
    rw [rowZ_in s hz] at h
    obtain ⟨hq, hzi⟩ := TS.zone_some hz
    unfold TS.whereV TS.at?
    rw [at_of x s.qs i _ hu hq h, hzi]
/-- All rows, up to one. -/
def TS.upTo (s : TS) (z : Int) : List Int := (s.qs.take z.toNat).flatten
theorem upTo_next (s : TS) {z : Int} (h : -1 ≤ z) : s.upTo (z + 1) = s.upTo z ++ s.rowZ z := by
  unfold TS.upTo
  cases hz : s.zone z with
  | none =>
    rw [rowZ_out s hz, List.append_nil]
    unfold TS.zone at hz
    split at hz
    · simp at hz
    · rename_i c
      by_cases hn : z < 0
      · rw [show (z + 1).toNat = 0 by omega, show z.toNat = 0 by omega]
      · rw [List.take_of_length_le (by omega), List.take_of_length_le (by omega)]
  | some i =>
    obtain ⟨hq, hzi⟩ := TS.zone_some hz
    rw [rowZ_in s hz, hzi, show ((i : Int) + 1).toNat = i + 1 by omega, show ((i : Int)).toNat = i by omega, List.take_add_one, hq, List.flatten_append]
    simp
theorem upTo_nodup (s : TS) (hu : s.uniq) (z : Int) : (s.upTo z).Nodup := by
  have : s.qs.flatten = s.upTo z ++ (s.qs.drop z.toNat).flatten := by unfold TS.upTo; rw [← List.flatten_append, List.take_append_drop]
  unfold TS.uniq at hu
  rw [this, List.nodup_append] at hu
  exact hu.1
end Go.Proofs.Ytilmodbiimjllaa
