import Derived.Test.YtienodnkfohakaaBase2
namespace Go.Proofs.Ytienodnkfohakaa
set_option linter.unusedVariables false
set_option linter.unusedSimpArgs false
open Go.RowKit

/-- What is said of a place of its own, F, and of what was there before block n. -/
structure Asrt (n : Nat) where
  p : (Nat → Prop) → World → Prop
  loc : ∀ {F G : Nat → Prop} {w w' : World}, p F w → w.heap.size ≤ w'.heap.size → (∀ k, F k → k < w.heap.size → G k ∧ w'.heap[k]? = w.heap[k]?) → (∀ k, k < n → k < w.heap.size → w'.heap[k]? = w.heap[k]?) → p G w'

/-- What was in w0 is as it was; all of l stands in w, each thing at a place of its own, new since w0. -/
def Has (w0 w : World) (l : List (Asrt w0.heap.size)) : Prop :=
  Keep none_ w0 w ∧ ∃ F : Nat → Nat → Prop, (∀ i k, F i k → w0.heap.size ≤ k ∧ k < w.heap.size) ∧ (∀ i j k, F i k → F j k → i = j) ∧ ∀ (i : Nat) (P : Asrt w0.heap.size), l[i]? = some P → P.p (F i) w

section
variable {w0 w w' : World} {l : List (Asrt w0.heap.size)}
theorem Has.nil (h : Keep none_ w0 w) : Has w0 w [] := ⟨h, fun _ _ => False, fun _ _ h => h.elim, fun _ _ _ h => h.elim, fun i P h => by simp at h⟩
theorem Has.old (H : Has w0 w l) : Keep none_ w0 w := H.1
theorem Has.size (H : Has w0 w l) : w0.heap.size ≤ w.heap.size := H.1.size
theorem Has.keep (H : Has w0 w l) (hk : Keep none_ w w') : Has w0 w' l := by
  obtain ⟨h0, F, h1, h2, h3⟩ := H
  exact ⟨h0.next hk, F, fun i k h => ⟨(h1 i k h).1, Nat.lt_of_lt_of_le (h1 i k h).2 hk.size⟩, h2, fun i P hi => P.loc (h3 i P hi) hk.size (fun k hF hl => ⟨hF, hk.block k hl (fun c => c)⟩) (fun k _ hl => hk.block k hl (fun c => c))⟩
theorem Has.alloc (H : Has w0 w l) (o : Obj) : Has w0 (w.alloc o) l := H.keep ((Keep.refl _ _).alloc o)
theorem Has.drew (H : Has w0 w l) : Has w0 w.drew l := H.keep (Keep.refl _ _).drew
theorem Has.drewN (H : Has w0 w l) (n : Nat) : Has w0 (w.drewN n) l := H.keep ((Keep.refl _ _).drewN n)
theorem Has.get (H : Has w0 w l) {i : Nat} {P : Asrt w0.heap.size} (hi : l[i]? = some P) : ∃ F : Nat → Prop, P.p F w ∧ ∀ k, F k → w0.heap.size ≤ k ∧ k < w.heap.size :=
  let ⟨_, F, h1, _, h3⟩ := H
  ⟨F i, h3 i P hi, h1 i⟩
/-- A change of the i-th thing alone. -/
theorem Has.call (H : Has w0 w l) {i : Nat} {P : Asrt w0.heap.size} (hi : l[i]? = some P) : ∃ F : Nat → Prop, P.p F w ∧ (∀ k, F k → w0.heap.size ≤ k ∧ k < w.heap.size) ∧ ∀ (w' : World) (P' : Asrt w0.heap.size), Keep F w w' → P'.p (fresh F w w') w' → Has w0 w' (l.set i P') := by
  obtain ⟨h0, F, h1, h2, h3⟩ := H
  refine ⟨F i, h3 i P hi, h1 i, fun w' P' hk hP => ⟨h0.trans (hk.mono (fun q hq => .inr (h1 i q hq).1)), fun j k => if j = i then fresh (F i) w w' k else F j k, ?_, ?_, ?_⟩⟩
  · intro j k h
    split at h
    · rcases h with h | h
      · exact ⟨(h1 i k h).1, Nat.lt_of_lt_of_le (h1 i k h).2 hk.size⟩
      · exact ⟨Nat.le_trans h0.size h.1, h.2⟩
    · exact ⟨(h1 j k h).1, Nat.lt_of_lt_of_le (h1 j k h).2 hk.size⟩
  · intro j j' k h h'
    split at h <;> split at h'
    · simp_all
    · rename_i e e'
      rcases h with h | h
      · exact absurd (h2 i j' k h h') (fun c => e' c.symm)
      · have := (h1 j' k h').2; omega
    · rename_i e e'
      rcases h' with h' | h'
      · exact absurd (h2 j i k h h') e
      · have := (h1 j k h).2; omega
    · exact h2 j j' k h h'
  · intro j Q hj
    by_cases e : j = i
    · subst e
      have hlt : j < l.length := (List.getElem?_eq_some_iff.1 hi).1
      rw [List.getElem?_set_self hlt] at hj
      obtain rfl := Option.some.inj hj
      simpa using hP
    · rw [List.getElem?_set_ne (fun c => e c.symm)] at hj
      simp only [if_neg e]
      exact Q.loc (h3 j Q hj) hk.size (fun k hF hl => ⟨hF, hk.block k hl (fun c => e (h2 j i k hF c))⟩) (fun k hn hl => hk.block k hl (fun c => by have := (h1 i k c).1; omega))
/-- A second thing, that is read. -/
theorem Has.two (H : Has w0 w l) {i j : Nat} {P Q : Asrt w0.heap.size} (hi : l[i]? = some P) (hj : l[j]? = some Q) (hij : i ≠ j) : ∃ F G : Nat → Prop, P.p F w ∧ Q.p G w ∧ (∀ k, F k → w0.heap.size ≤ k ∧ k < w.heap.size) ∧ (∀ k, G k → w0.heap.size ≤ k ∧ k < w.heap.size) ∧ (∀ k, G k → ¬ F k) ∧ ∀ (w' : World) (P' : Asrt w0.heap.size), Keep F w w' → P'.p (fresh F w w') w' → Has w0 w' (l.set i P') := by
  have H' := H
  obtain ⟨h0, F, h1, h2, h3⟩ := H
  refine ⟨F i, F j, h3 i P hi, h3 j Q hj, h1 i, h1 j, fun k hg hf => hij (h2 i j k hf hg), fun w' P' hk hP => ?_⟩
  refine ⟨h0.trans (hk.mono (fun q hq => .inr (h1 i q hq).1)), fun j k => if j = i then fresh (F i) w w' k else F j k, ?_, ?_, ?_⟩
  · intro j k h
    split at h
    · rcases h with h | h
      · exact ⟨(h1 i k h).1, Nat.lt_of_lt_of_le (h1 i k h).2 hk.size⟩
      · exact ⟨Nat.le_trans h0.size h.1, h.2⟩
    · exact ⟨(h1 j k h).1, Nat.lt_of_lt_of_le (h1 j k h).2 hk.size⟩
  · intro j j' k h h'
    split at h <;> split at h'
    · simp_all
    · rename_i e e'
      rcases h with h | h
      · exact absurd (h2 i j' k h h') (fun c => e' c.symm)
      · have := (h1 j' k h').2; omega
    · rename_i e e'
      rcases h' with h' | h'
      · exact absurd (h2 j i k h h') e
      · have := (h1 j k h).2; omega
    · exact h2 j j' k h h'
  · intro j Q hj
    by_cases e : j = i
    · subst e
      have hlt : j < l.length := (List.getElem?_eq_some_iff.1 hi).1
      rw [List.getElem?_set_self hlt] at hj
      obtain rfl := Option.some.inj hj
      simpa using hP
    · rw [List.getElem?_set_ne (fun c => e c.symm)] at hj
      simp only [if_neg e]
      exact Q.loc (h3 j Q hj) hk.size (fun k hF hl => ⟨hF, hk.block k hl (fun c => e (h2 j i k hF c))⟩) (fun k hn hl => hk.block k hl (fun c => by have := (h1 i k c).1; omega))
/-- A new thing. -/
theorem Has.new (H : Has w0 w l) {P : Asrt w0.heap.size} (hk : Keep none_ w w') (hP : P.p (fresh none_ w w') w') : Has w0 w' (l ++ [P]) := by
  obtain ⟨h0, F, h1, h2, h3⟩ := H
  refine ⟨h0.next hk, fun j k => if j = l.length then fresh none_ w w' k else (j < l.length ∧ F j k), ?_, ?_, ?_⟩
  · intro j k h
    split at h
    · rcases h with h | h
      · exact h.elim
      · exact ⟨Nat.le_trans h0.size h.1, h.2⟩
    · exact ⟨(h1 j k h.2).1, Nat.lt_of_lt_of_le (h1 j k h.2).2 hk.size⟩
  · intro j j' k h h'
    split at h <;> split at h'
    · simp_all
    · rename_i e e'
      rcases h with h | h
      · exact h.elim
      · have := (h1 j' k h'.2).2; omega
    · rename_i e e'
      rcases h' with h' | h'
      · exact h'.elim
      · have := (h1 j k h.2).2; omega
    · exact h2 j j' k h.2 h'.2
  · intro j Q hj
    by_cases e : j = l.length
    · subst e
      rw [List.getElem?_append_right (Nat.le_refl _)] at hj
      simp only [Nat.sub_self, List.getElem?_cons_zero, Option.some.injEq] at hj
      subst hj
      simpa using hP
    · have hlt : j < l.length := by
        have := (List.getElem?_eq_some_iff.1 hj).1
        simp only [List.length_append, List.length_singleton] at this
        omega
      rw [List.getElem?_append_left hlt] at hj
      simp only [if_neg e]
      exact Q.loc (h3 j Q hj) hk.size (fun k hF hl => ⟨⟨hlt, hF⟩, hk.block k hl (fun c => c)⟩) (fun k hn hl => hk.block k hl (fun c => c))
/-- The first ones alone. -/
theorem Has.take (H : Has w0 w l) (n : Nat) : Has w0 w (l.take n) := by
  obtain ⟨h0, F, h1, h2, h3⟩ := H
  refine ⟨h0, F, h1, h2, fun i P hi => h3 i P ?_⟩
  rw [List.getElem?_take] at hi
  split at hi
  · exact hi
  · simp at hi
/-- Said otherwise. -/
theorem Has.imp (H : Has w0 w l) {i : Nat} {P P' : Asrt w0.heap.size} (hi : l[i]? = some P) (h : ∀ F, P.p F w → P'.p F w) : Has w0 w (l.set i P') := by
  obtain ⟨h0, F, h1, h2, h3⟩ := H
  refine ⟨h0, F, h1, h2, fun j Q hj => ?_⟩
  by_cases e : j = i
  · subst e
    have hlt : j < l.length := (List.getElem?_eq_some_iff.1 hi).1
    rw [List.getElem?_set_self hlt] at hj
    obtain rfl := Option.some.inj hj
    exact h _ (h3 j P hi)
  · rw [List.getElem?_set_ne (fun c => e c.symm)] at hj
    exact h3 j Q hj
end

/-- A slice value that owns its cells. -/
def OwnA (n : Nat) (e : TypeId) (sz : Nat) (v : Value) (m : Nat) (xs : List Value) : Asrt n := ⟨fun F w => Own w F e sz v m xs, fun h _ hk _ => h.move hk⟩
/-- A slice that was there before. -/
def OldS (w0 : World) (sz : Nat) (v : Value) (m : Nat) (xs : List Value) : Prop := SeesIn w0 (fun k => k < w0.heap.size) sz v m xs
theorem Has.sees {w0 w : World} {l : List (Asrt w0.heap.size)} (H : Has w0 w l) {sz : Nat} {v : Value} {m : Nat} {xs : List Value} (h : OldS w0 sz v m xs) : SeesIn w (fun k => k < w0.heap.size) sz v m xs :=
  h.move H.size (fun _ hk hl => ⟨hk, H.old.block _ hl (fun c => c)⟩)
theorem blk1 {w : World} {b : Nat} {a0 : Value} {T : TypeId} (h : w.heap[b]? = some (.cells #[a0] T (0, 0))) : w.cell? ⟨b, 0, none⟩ = some a0 ∧ w.frozen? ⟨b, 0, none⟩ = false := by refine ⟨?_, ?_⟩ <;> simp [World.cell?, World.frozen?, h]
theorem blk2 {w : World} {b : Nat} {a0 a1 : Value} {T : TypeId} (h : w.heap[b]? = some (.cells #[a0, a1] T (0, 0))) : w.cell? ⟨b, 0, none⟩ = some a0 ∧ w.cell? ⟨b, 1, none⟩ = some a1 ∧ w.frozen? ⟨b, 0, none⟩ = false ∧ w.frozen? ⟨b, 1, none⟩ = false := by refine ⟨?_, ?_, ?_, ?_⟩ <;> simp [World.cell?, World.frozen?, h]
theorem blk3 {w : World} {b : Nat} {a0 a1 a2 : Value} {T : TypeId} (h : w.heap[b]? = some (.cells #[a0, a1, a2] T (0, 0))) : w.cell? ⟨b, 0, none⟩ = some a0 ∧ w.cell? ⟨b, 1, none⟩ = some a1 ∧ w.cell? ⟨b, 2, none⟩ = some a2 ∧ w.frozen? ⟨b, 0, none⟩ = false ∧ w.frozen? ⟨b, 1, none⟩ = false ∧ w.frozen? ⟨b, 2, none⟩ = false := by refine ⟨?_, ?_, ?_, ?_, ?_, ?_⟩ <;> simp [World.cell?, World.frozen?, h]
theorem blk4 {w : World} {b : Nat} {a0 a1 a2 a3 : Value} {T : TypeId} (h : w.heap[b]? = some (.cells #[a0, a1, a2, a3] T (0, 0))) : w.cell? ⟨b, 0, none⟩ = some a0 ∧ w.cell? ⟨b, 1, none⟩ = some a1 ∧ w.cell? ⟨b, 2, none⟩ = some a2 ∧ w.cell? ⟨b, 3, none⟩ = some a3 ∧ w.frozen? ⟨b, 0, none⟩ = false ∧ w.frozen? ⟨b, 1, none⟩ = false ∧ w.frozen? ⟨b, 2, none⟩ = false ∧ w.frozen? ⟨b, 3, none⟩ = false := by refine ⟨?_, ?_, ?_, ?_, ?_, ?_, ?_, ?_⟩ <;> simp [World.cell?, World.frozen?, h]
theorem blk5 {w : World} {b : Nat} {a0 a1 a2 a3 a4 : Value} {T : TypeId} (h : w.heap[b]? = some (.cells #[a0, a1, a2, a3, a4] T (0, 0))) : w.cell? ⟨b, 0, none⟩ = some a0 ∧ w.cell? ⟨b, 1, none⟩ = some a1 ∧ w.cell? ⟨b, 2, none⟩ = some a2 ∧ w.cell? ⟨b, 3, none⟩ = some a3 ∧ w.cell? ⟨b, 4, none⟩ = some a4 ∧ w.frozen? ⟨b, 0, none⟩ = false ∧ w.frozen? ⟨b, 1, none⟩ = false ∧ w.frozen? ⟨b, 2, none⟩ = false ∧ w.frozen? ⟨b, 3, none⟩ = false ∧ w.frozen? ⟨b, 4, none⟩ = false := by refine ⟨?_, ?_, ?_, ?_, ?_, ?_, ?_, ?_, ?_, ?_⟩ <;> simp [World.cell?, World.frozen?, h]
theorem blk6 {w : World} {b : Nat} {a0 a1 a2 a3 a4 a5 : Value} {T : TypeId} (h : w.heap[b]? = some (.cells #[a0, a1, a2, a3, a4, a5] T (0, 0))) : w.cell? ⟨b, 0, none⟩ = some a0 ∧ w.cell? ⟨b, 1, none⟩ = some a1 ∧ w.cell? ⟨b, 2, none⟩ = some a2 ∧ w.cell? ⟨b, 3, none⟩ = some a3 ∧ w.cell? ⟨b, 4, none⟩ = some a4 ∧ w.cell? ⟨b, 5, none⟩ = some a5 ∧ w.frozen? ⟨b, 0, none⟩ = false ∧ w.frozen? ⟨b, 1, none⟩ = false ∧ w.frozen? ⟨b, 2, none⟩ = false ∧ w.frozen? ⟨b, 3, none⟩ = false ∧ w.frozen? ⟨b, 4, none⟩ = false ∧ w.frozen? ⟨b, 5, none⟩ = false := by refine ⟨?_, ?_, ?_, ?_, ?_, ?_, ?_, ?_, ?_, ?_, ?_, ?_⟩ <;> simp [World.cell?, World.frozen?, h]
theorem blk7 {w : World} {b : Nat} {a0 a1 a2 a3 a4 a5 a6 : Value} {T : TypeId} (h : w.heap[b]? = some (.cells #[a0, a1, a2, a3, a4, a5, a6] T (0, 0))) : w.cell? ⟨b, 0, none⟩ = some a0 ∧ w.cell? ⟨b, 1, none⟩ = some a1 ∧ w.cell? ⟨b, 2, none⟩ = some a2 ∧ w.cell? ⟨b, 3, none⟩ = some a3 ∧ w.cell? ⟨b, 4, none⟩ = some a4 ∧ w.cell? ⟨b, 5, none⟩ = some a5 ∧ w.cell? ⟨b, 6, none⟩ = some a6 ∧ w.frozen? ⟨b, 0, none⟩ = false ∧ w.frozen? ⟨b, 1, none⟩ = false ∧ w.frozen? ⟨b, 2, none⟩ = false ∧ w.frozen? ⟨b, 3, none⟩ = false ∧ w.frozen? ⟨b, 4, none⟩ = false ∧ w.frozen? ⟨b, 5, none⟩ = false ∧ w.frozen? ⟨b, 6, none⟩ = false := by refine ⟨?_, ?_, ?_, ?_, ?_, ?_, ?_, ?_, ?_, ?_, ?_, ?_, ?_, ?_⟩ <;> simp [World.cell?, World.frozen?, h]
theorem blk8 {w : World} {b : Nat} {a0 a1 a2 a3 a4 a5 a6 a7 : Value} {T : TypeId} (h : w.heap[b]? = some (.cells #[a0, a1, a2, a3, a4, a5, a6, a7] T (0, 0))) : w.cell? ⟨b, 0, none⟩ = some a0 ∧ w.cell? ⟨b, 1, none⟩ = some a1 ∧ w.cell? ⟨b, 2, none⟩ = some a2 ∧ w.cell? ⟨b, 3, none⟩ = some a3 ∧ w.cell? ⟨b, 4, none⟩ = some a4 ∧ w.cell? ⟨b, 5, none⟩ = some a5 ∧ w.cell? ⟨b, 6, none⟩ = some a6 ∧ w.cell? ⟨b, 7, none⟩ = some a7 ∧ w.frozen? ⟨b, 0, none⟩ = false ∧ w.frozen? ⟨b, 1, none⟩ = false ∧ w.frozen? ⟨b, 2, none⟩ = false ∧ w.frozen? ⟨b, 3, none⟩ = false ∧ w.frozen? ⟨b, 4, none⟩ = false ∧ w.frozen? ⟨b, 5, none⟩ = false ∧ w.frozen? ⟨b, 6, none⟩ = false ∧ w.frozen? ⟨b, 7, none⟩ = false := by refine ⟨?_, ?_, ?_, ?_, ?_, ?_, ?_, ?_, ?_, ?_, ?_, ?_, ?_, ?_, ?_, ?_⟩ <;> simp [World.cell?, World.frozen?, h]
theorem blk9 {w : World} {b : Nat} {a0 a1 a2 a3 a4 a5 a6 a7 a8 : Value} {T : TypeId} (h : w.heap[b]? = some (.cells #[a0, a1, a2, a3, a4, a5, a6, a7, a8] T (0, 0))) : w.cell? ⟨b, 0, none⟩ = some a0 ∧ w.cell? ⟨b, 1, none⟩ = some a1 ∧ w.cell? ⟨b, 2, none⟩ = some a2 ∧ w.cell? ⟨b, 3, none⟩ = some a3 ∧ w.cell? ⟨b, 4, none⟩ = some a4 ∧ w.cell? ⟨b, 5, none⟩ = some a5 ∧ w.cell? ⟨b, 6, none⟩ = some a6 ∧ w.cell? ⟨b, 7, none⟩ = some a7 ∧ w.cell? ⟨b, 8, none⟩ = some a8 ∧ w.frozen? ⟨b, 0, none⟩ = false ∧ w.frozen? ⟨b, 1, none⟩ = false ∧ w.frozen? ⟨b, 2, none⟩ = false ∧ w.frozen? ⟨b, 3, none⟩ = false ∧ w.frozen? ⟨b, 4, none⟩ = false ∧ w.frozen? ⟨b, 5, none⟩ = false ∧ w.frozen? ⟨b, 6, none⟩ = false ∧ w.frozen? ⟨b, 7, none⟩ = false ∧ w.frozen? ⟨b, 8, none⟩ = false := by refine ⟨?_, ?_, ?_, ?_, ?_, ?_, ?_, ?_, ?_, ?_, ?_, ?_, ?_, ?_, ?_, ?_, ?_, ?_⟩ <;> simp [World.cell?, World.frozen?, h]
theorem blk10 {w : World} {b : Nat} {a0 a1 a2 a3 a4 a5 a6 a7 a8 a9 : Value} {T : TypeId} (h : w.heap[b]? = some (.cells #[a0, a1, a2, a3, a4, a5, a6, a7, a8, a9] T (0, 0))) : w.cell? ⟨b, 0, none⟩ = some a0 ∧ w.cell? ⟨b, 1, none⟩ = some a1 ∧ w.cell? ⟨b, 2, none⟩ = some a2 ∧ w.cell? ⟨b, 3, none⟩ = some a3 ∧ w.cell? ⟨b, 4, none⟩ = some a4 ∧ w.cell? ⟨b, 5, none⟩ = some a5 ∧ w.cell? ⟨b, 6, none⟩ = some a6 ∧ w.cell? ⟨b, 7, none⟩ = some a7 ∧ w.cell? ⟨b, 8, none⟩ = some a8 ∧ w.cell? ⟨b, 9, none⟩ = some a9 ∧ w.frozen? ⟨b, 0, none⟩ = false ∧ w.frozen? ⟨b, 1, none⟩ = false ∧ w.frozen? ⟨b, 2, none⟩ = false ∧ w.frozen? ⟨b, 3, none⟩ = false ∧ w.frozen? ⟨b, 4, none⟩ = false ∧ w.frozen? ⟨b, 5, none⟩ = false ∧ w.frozen? ⟨b, 6, none⟩ = false ∧ w.frozen? ⟨b, 7, none⟩ = false ∧ w.frozen? ⟨b, 8, none⟩ = false ∧ w.frozen? ⟨b, 9, none⟩ = false := by refine ⟨?_, ?_, ?_, ?_, ?_, ?_, ?_, ?_, ?_, ?_, ?_, ?_, ?_, ?_, ?_, ?_, ?_, ?_, ?_, ?_⟩ <;> simp [World.cell?, World.frozen?, h]
theorem blk11 {w : World} {b : Nat} {a0 a1 a2 a3 a4 a5 a6 a7 a8 a9 a10 : Value} {T : TypeId} (h : w.heap[b]? = some (.cells #[a0, a1, a2, a3, a4, a5, a6, a7, a8, a9, a10] T (0, 0))) : w.cell? ⟨b, 0, none⟩ = some a0 ∧ w.cell? ⟨b, 1, none⟩ = some a1 ∧ w.cell? ⟨b, 2, none⟩ = some a2 ∧ w.cell? ⟨b, 3, none⟩ = some a3 ∧ w.cell? ⟨b, 4, none⟩ = some a4 ∧ w.cell? ⟨b, 5, none⟩ = some a5 ∧ w.cell? ⟨b, 6, none⟩ = some a6 ∧ w.cell? ⟨b, 7, none⟩ = some a7 ∧ w.cell? ⟨b, 8, none⟩ = some a8 ∧ w.cell? ⟨b, 9, none⟩ = some a9 ∧ w.cell? ⟨b, 10, none⟩ = some a10 ∧ w.frozen? ⟨b, 0, none⟩ = false ∧ w.frozen? ⟨b, 1, none⟩ = false ∧ w.frozen? ⟨b, 2, none⟩ = false ∧ w.frozen? ⟨b, 3, none⟩ = false ∧ w.frozen? ⟨b, 4, none⟩ = false ∧ w.frozen? ⟨b, 5, none⟩ = false ∧ w.frozen? ⟨b, 6, none⟩ = false ∧ w.frozen? ⟨b, 7, none⟩ = false ∧ w.frozen? ⟨b, 8, none⟩ = false ∧ w.frozen? ⟨b, 9, none⟩ = false ∧ w.frozen? ⟨b, 10, none⟩ = false := by refine ⟨?_, ?_, ?_, ?_, ?_, ?_, ?_, ?_, ?_, ?_, ?_, ?_, ?_, ?_, ?_, ?_, ?_, ?_, ?_, ?_, ?_, ?_⟩ <;> simp [World.cell?, World.frozen?, h]
theorem blk12 {w : World} {b : Nat} {a0 a1 a2 a3 a4 a5 a6 a7 a8 a9 a10 a11 : Value} {T : TypeId} (h : w.heap[b]? = some (.cells #[a0, a1, a2, a3, a4, a5, a6, a7, a8, a9, a10, a11] T (0, 0))) : w.cell? ⟨b, 0, none⟩ = some a0 ∧ w.cell? ⟨b, 1, none⟩ = some a1 ∧ w.cell? ⟨b, 2, none⟩ = some a2 ∧ w.cell? ⟨b, 3, none⟩ = some a3 ∧ w.cell? ⟨b, 4, none⟩ = some a4 ∧ w.cell? ⟨b, 5, none⟩ = some a5 ∧ w.cell? ⟨b, 6, none⟩ = some a6 ∧ w.cell? ⟨b, 7, none⟩ = some a7 ∧ w.cell? ⟨b, 8, none⟩ = some a8 ∧ w.cell? ⟨b, 9, none⟩ = some a9 ∧ w.cell? ⟨b, 10, none⟩ = some a10 ∧ w.cell? ⟨b, 11, none⟩ = some a11 ∧ w.frozen? ⟨b, 0, none⟩ = false ∧ w.frozen? ⟨b, 1, none⟩ = false ∧ w.frozen? ⟨b, 2, none⟩ = false ∧ w.frozen? ⟨b, 3, none⟩ = false ∧ w.frozen? ⟨b, 4, none⟩ = false ∧ w.frozen? ⟨b, 5, none⟩ = false ∧ w.frozen? ⟨b, 6, none⟩ = false ∧ w.frozen? ⟨b, 7, none⟩ = false ∧ w.frozen? ⟨b, 8, none⟩ = false ∧ w.frozen? ⟨b, 9, none⟩ = false ∧ w.frozen? ⟨b, 10, none⟩ = false ∧ w.frozen? ⟨b, 11, none⟩ = false := by refine ⟨?_, ?_, ?_, ?_, ?_, ?_, ?_, ?_, ?_, ?_, ?_, ?_, ?_, ?_, ?_, ?_, ?_, ?_, ?_, ?_, ?_, ?_, ?_, ?_⟩ <;> simp [World.cell?, World.frozen?, h]
/-- A block of its own. -/
def BlkA (n b : Nat) (cs : Array Value) (T : TypeId) : Asrt n := ⟨fun F w => F b ∧ w.heap[b]? = some (.cells cs T (0, 0)), fun h _ hk _ => ⟨(hk _ h.1 (lt_of_block h.2)).1, (hk _ h.1 (lt_of_block h.2)).2.trans h.2⟩⟩
theorem Has.box {w0 w : World} {l : List (Asrt w0.heap.size)} (H : Has w0 w l) (cs : Array Value) (T : TypeId) : Has w0 (w.alloc (.cells cs T)) (l ++ [BlkA w0.heap.size w.heap.size cs T]) :=
  H.new ((Keep.refl _ _).alloc _) ⟨.inr ⟨Nat.le_refl _, by simp⟩, heap_alloc_new _ _⟩
theorem Has.blk {w0 w : World} {l : List (Asrt w0.heap.size)} (H : Has w0 w l) {i b : Nat} {cs : Array Value} {T : TypeId} (hi : l[i]? = some (BlkA w0.heap.size b cs T)) : w.heap[b]? = some (.cells cs T (0, 0)) :=
  let ⟨_, h, _⟩ := H.get hi
  h.2
end Go.Proofs.Ytienodnkfohakaa
