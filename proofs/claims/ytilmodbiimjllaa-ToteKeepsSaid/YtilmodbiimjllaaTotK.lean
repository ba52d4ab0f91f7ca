import Derived.Test.YtilmodbiimjllaaTotP
namespace Go.Proofs.Ytilmodbiimjllaa
set_option linter.unusedVariables false
set_option linter.unusedSimpArgs false
open Go.RowKit
/-- All totes, the first that came first. -/
def Rq : List (List Int) → List Int
  | [] => []
  | q :: qs => Rq qs ++ q
theorem Rq_push (q x) (qs : List (List Int)) : Rq ((q ++ [x]) :: qs) = Rq (q :: qs) ++ [x] := by simp [Rq]
theorem Rq_move (y : Int) (q q' : List Int) : ∀ (qs : List (List Int)) (i : Nat), qs[i]? = some (y :: q) → qs[i + 1]? = some q' → Rq ((qs.set i q).set (i + 1) (q' ++ [y])) = Rq qs := by
  intro qs
  induction qs with
  | nil => intro i h; simp at h
  | cons p qs ih =>
    intro i h h'
    cases i with
    | zero =>
      simp only [List.getElem?_cons_zero, Option.some.injEq] at h
      subst h
      cases qs with
      | nil => simp at h'
      | cons p2 qs =>
        simp only [Nat.zero_add, List.getElem?_cons_succ, List.getElem?_cons_zero, Option.some.injEq] at h'
        subst h'
        simp [Rq]
    | succ i =>
      simp only [List.getElem?_cons_succ] at h h'
      simp only [List.set_cons_succ, Rq, ih i h h']
theorem Rq_pop (y : Int) (q : List Int) : ∀ (qs : List (List Int)) (i : Nat), qs[i]? = some (y :: q) → i + 1 = qs.length → Rq qs = y :: Rq (qs.set i q) := by
  intro qs
  induction qs with
  | nil => intro i h; simp at h
  | cons p qs ih =>
    intro i h h'
    cases i with
    | zero =>
      simp only [List.getElem?_cons_zero, Option.some.injEq] at h
      subst h
      have : qs = [] := List.eq_nil_of_length_eq_zero (by simpa using h'.symm)
      subst this
      simp [Rq]
    | succ i =>
      simp only [List.getElem?_cons_succ] at h
      simp only [List.set_cons_succ, Rq, ih i h (by simpa using h')]
      rfl
theorem Rq_mem {x : Int} : ∀ {qs : List (List Int)}, x ∈ Rq qs ↔ ∃ q ∈ qs, x ∈ q := by
  intro qs
  induction qs with
  | nil => simp [Rq]
  | cons p qs ih => simp [Rq, ih, or_comm]
theorem where_in {s : TS} {x : Int} (h : x ∈ Rq s.qs) : ∃ i : Int, s.whereV x = .tuple #[.int .i64 i, .bool true] := by
  obtain ⟨q, hq, hx⟩ := Rq_mem.1 h
  unfold TS.whereV
  cases ha : s.at? x with
  | some i => exact ⟨i, rfl⟩
  | none =>
    unfold TS.at? at ha
    rw [List.findIdx?_eq_none_iff] at ha
    have := ha q hq
    rw [mem_mem.2 hx] at this
    simp at this
theorem where_out {s : TS} {x : Int} (h : x ∉ Rq s.qs) : s.whereV x = .tuple #[.int .i64 0, .bool false] := by
  unfold TS.whereV
  rw [at_miss]
  intro q hq
  cases hm : mem q x with
  | false => rfl
  | true => exact absurd (Rq_mem.2 ⟨q, hq, mem_mem.1 hm⟩) h
theorem where_form (s : TS) (x : Int) : ∃ (i : Int) (b : Bool), s.whereV x = .tuple #[.int .i64 i, .bool b] := by
  unfold TS.whereV
  split
  · exact ⟨_, _, rfl⟩
  · exact ⟨_, _, rfl⟩
theorem put0_cases (s : TS) (x : Int) : ((s.put x 0).2 = 0 ∧ Rq (s.put x 0).1.qs = Rq s.qs ++ [x] ∧ (s.put x 0).1.qs.length = s.qs.length) ∨ ((s.put x 0).2 ≠ 0 ∧ (s.put x 0).1 = s) := by
  unfold TS.put
  cases hz : s.zone 0 with
  | none => exact .inr ⟨by simp, rfl⟩
  | some i =>
    obtain ⟨hq, hzi⟩ := TS.zone_some hz
    obtain rfl : i = 0 := by omega
    simp only
    split
    · exact .inr ⟨by simp, rfl⟩
    · split
      · exact .inr ⟨by simp, rfl⟩
      · refine .inl ⟨rfl, ?_, by simp [TS.upd]⟩
        obtain ⟨r, qs⟩ := s
        cases qs with
        | nil => simp at hq
        | cons p qs =>
          show Rq ((p ++ [x]) :: qs) = _
          exact Rq_push p x qs
theorem pass_cases (s : TS) (z : Int) : ((s.pass z).2.2 ≠ 0 ∧ (s.pass z).1 = s) ∨ ((s.pass z).2.2 = 0 ∧ Rq (s.pass z).1.qs = Rq s.qs ∧ (s.pass z).2.1 ∈ Rq (s.pass z).1.qs ∧ (s.pass z).1.qs.length = s.qs.length) ∨ ((s.pass z).2.2 = 0 ∧ Rq s.qs = (s.pass z).2.1 :: Rq (s.pass z).1.qs ∧ (s.pass z).1.qs.length = s.qs.length) := by
  unfold TS.pass
  cases hz : s.zone z with
  | none => exact .inl ⟨by simp, rfl⟩
  | some i =>
    obtain ⟨hq, hzi⟩ := TS.zone_some hz
    simp only
    cases hr : s.row i with
    | nil => exact .inl ⟨by simp, rfl⟩
    | cons y q =>
      rw [hr] at hq
      have hil := (List.getElem?_eq_some_iff.1 hq).1
      simp only
      cases hz2 : s.zone (z + 1) with
      | none =>
        refine .inr (.inr ⟨rfl, Rq_pop y q s.qs i hq ?_, by simp [TS.upd]⟩)
        unfold TS.zone at hz2
        split at hz2
        · simp at hz2
        · omega
      | some j =>
        obtain ⟨hqj, hzj⟩ := TS.zone_some hz2
        obtain rfl : j = i + 1 := by omega
        simp only
        split
        · exact .inl ⟨by simp, rfl⟩
        · have hm := Rq_move y q (s.row (i + 1)) s.qs i hq hqj
          refine .inr (.inl ⟨rfl, hm, ?_, by simp [TS.upd]⟩)
          show y ∈ Rq ((s.qs.set i q).set (i + 1) (s.row (i + 1) ++ [y]))
          rw [hm]
          exact Rq_mem.2 ⟨y :: q, List.mem_of_getElem? hq, List.mem_cons_self ..⟩
theorem Rq_drop (s : TS) (z : Nat) : Rq (s.qs.drop z) = Rq (s.qs.drop (z + 1)) ++ s.rowZ z := by
  cases hz : s.zone z with
  | none =>
    rw [rowZ_out s hz, List.append_nil]
    unfold TS.zone at hz
    split at hz
    · simp at hz
    · rw [List.drop_of_length_le (by omega), List.drop_of_length_le (by omega)]
  | some i =>
    obtain ⟨hq, hzi⟩ := TS.zone_some hz
    obtain rfl : i = z := by omega
    rw [rowZ_in s hz]
    have hi := List.getElem?_eq_some_iff.1 hq
    rw [List.drop_eq_getElem_cons hi.1, hi.2]
    rfl
theorem Rq_pre : ∀ (qs : List (List Int)) (z : Nat), ∃ T, Rq qs = Rq (qs.drop z) ++ T := by
  intro qs
  induction qs with
  | nil => intro z; exact ⟨[], by simp [Rq]⟩
  | cons p qs ih =>
    intro z
    cases z with
    | zero => exact ⟨[], by simp⟩
    | succ z =>
      obtain ⟨T, hT⟩ := ih z
      exact ⟨T ++ p, by simp [Rq, hT]⟩
/-- Numbered one by one, from behind o on. -/
def IsSeq (o : Int) (l : List Int) : Prop := ∀ (j : Nat) (v : Int), l[j]? = some v → v = o + 1 + j
theorem seq_push {o : Int} {l : List Int} (h : IsSeq o l) {x : Int} (hx : x = o + 1 + l.length) : IsSeq o (l ++ [x]) := by
  intro j v hv
  by_cases hj : j < l.length
  · rw [List.getElem?_append_left hj] at hv; exact h j v hv
  · have hjl := (List.getElem?_eq_some_iff.1 hv).1
    simp only [List.length_append, List.length_singleton] at hjl
    obtain rfl : j = l.length := by omega
    rw [List.getElem?_append_right (Nat.le_refl _), Nat.sub_self] at hv
    simp only [List.getElem?_cons_zero, Option.some.injEq] at hv
    omega
theorem seq_pop {o y : Int} {l : List Int} (h : IsSeq o (y :: l)) : y = o + 1 ∧ IsSeq y l ∧ y ∉ l := by
  have h0 := h 0 y rfl
  have h1 : IsSeq y l := fun j v hv => by
    have := h (j + 1) v (by simpa using hv)
    simp only [Int.natCast_add] at this
    omega
  refine ⟨by simpa using h0, h1, fun c => ?_⟩
  obtain ⟨j, hj⟩ := List.getElem?_of_mem c
  have := h1 j y hj
  omega
theorem seq_row {o : Int} {s : TS} (h : IsSeq o (Rq s.qs)) (z : Nat) {q : Nat} {v : Int} (hv : (s.rowZ z)[q]? = some v) : v = o + 1 + (Rq (s.qs.drop (z + 1))).length + q := by
  obtain ⟨T, hT⟩ := Rq_pre s.qs z
  rw [Rq_drop s z] at hT
  have hq := (List.getElem?_eq_some_iff.1 hv).1
  have := h ((Rq (s.qs.drop (z + 1))).length + q) v (by
    rw [hT, List.getElem?_append_left (by simp; omega), List.getElem?_append_right (by omega)]
    rw [show (Rq (s.qs.drop (z + 1))).length + q - (Rq (s.qs.drop (z + 1))).length = q by omega]
    exact hv)
  rw [this]
  simp only [Int.natCast_add]
  omega
theorem init_Rq (r : Int) (n : Nat) : Rq (TS.init r n).qs = [] := by
  show Rq (List.replicate n []) = []
  induction n with
  | zero => rfl
  | succ n ih => rw [List.replicate_succ]; simp [Rq, ih]
end Go.Proofs.Ytilmodbiimjllaa
