import Derived.Test.YtienodnkfohakaaHas
namespace Go.Proofs.Ytienodnkfohakaa
set_option linter.unusedVariables false
set_option linter.unusedSimpArgs false
open Go.RowKit

/-! The same inside a function: F is what the function may change; what is of l lies in F, or is new since w0. -/
def Parts (F : Nat → Prop) (w : World) (l : List (Asrt 0)) : Prop := ∃ G : Nat → Nat → Prop, (∀ i k, G i k → F k) ∧ (∀ i j k, G i k → G j k → i = j) ∧ ∀ (i : Nat) (P : Asrt 0), l[i]? = some P → P.p (G i) w
theorem Parts.move {F F' : Nat → Prop} {w w' : World} {l : List (Asrt 0)} (h : Parts F w l) (hs : w.heap.size ≤ w'.heap.size) (hk : ∀ k, F k → k < w.heap.size → F' k ∧ w'.heap[k]? = w.heap[k]?) : Parts F' w' l := by
  obtain ⟨G, h1, h2, h3⟩ := h
  refine ⟨fun i k => G i k ∧ k < w.heap.size, fun i k hg => (hk k (h1 i k hg.1) hg.2).1, fun i j k hi hj => h2 i j k hi.1 hj.1, fun i P hi => P.loc (h3 i P hi) hs (fun k hg hl => ⟨⟨hg, hl⟩, (hk k (h1 i k hg) hl).2⟩) (fun k hn => by omega)⟩
theorem Parts.mono {F F' : Nat → Prop} {w : World} {l : List (Asrt 0)} (h : Parts F w l) (hf : ∀ k, F k → F' k) : Parts F' w l := by
  obtain ⟨G, h1, h2, h3⟩ := h
  exact ⟨G, fun i k hg => hf k (h1 i k hg), h2, h3⟩
theorem Parts.nil (F : Nat → Prop) (w : World) : Parts F w [] := ⟨fun _ _ => False, fun _ _ h => h.elim, fun _ _ _ h => h.elim, fun i P h => by simp at h⟩
def NoA (n : Nat) : Asrt n := ⟨fun _ _ => True, fun _ _ _ _ => trivial⟩
def HasF (F : Nat → Prop) (w0 w : World) (l : List (Asrt 0)) : Prop :=
  Keep F w0 w ∧ ∃ G : Nat → Nat → Prop, (∀ i k, G i k → (F k ∨ w0.heap.size ≤ k) ∧ k < w.heap.size) ∧ (∀ i j k, G i k → G j k → i = j) ∧ ∀ (i : Nat) (P : Asrt 0), l[i]? = some P → P.p (G i) w

section
variable {F : Nat → Prop} {w0 w w' : World} {l : List (Asrt 0)}
theorem HasF.nil (h : Keep F w0 w) : HasF F w0 w [] := ⟨h, fun _ _ => False, fun _ _ h => h.elim, fun _ _ _ h => h.elim, fun i P h => by simp at h⟩
theorem HasF.start (h : Parts F w l) : HasF F w w l := by
  obtain ⟨G, h1, h2, h3⟩ := h
  refine ⟨Keep.refl _ _, fun i k => G i k ∧ k < w.heap.size, fun i k hg => ⟨.inl (h1 i k hg.1), hg.2⟩, fun i j k hi hj => h2 i j k hi.1 hj.1, fun i P hi => P.loc (h3 i P hi) (Nat.le_refl _) (fun k hg hl => ⟨⟨hg, hl⟩, rfl⟩) (fun k hn => by omega)⟩
theorem HasF.old (H : HasF F w0 w l) : Keep F w0 w := H.1
theorem HasF.size (H : HasF F w0 w l) : w0.heap.size ≤ w.heap.size := H.1.size
theorem HasF.parts (H : HasF F w0 w l) : Parts (fresh F w0 w) w l := by
  obtain ⟨h0, G, h1, h2, h3⟩ := H
  exact ⟨G, fun i k hg => by rcases (h1 i k hg).1 with c | c; exact .inl c; exact .inr ⟨c, (h1 i k hg).2⟩, h2, h3⟩
theorem HasF.keep (H : HasF F w0 w l) (hk : Keep none_ w w') : HasF F w0 w' l := by
  obtain ⟨h0, G, h1, h2, h3⟩ := H
  exact ⟨h0.trans hk.none, G, fun i k h => ⟨(h1 i k h).1, Nat.lt_of_lt_of_le (h1 i k h).2 hk.size⟩, h2, fun i P hi => P.loc (h3 i P hi) hk.size (fun k hF hl => ⟨hF, hk.block k hl (fun c => c)⟩) (fun k _ hl => hk.block k hl (fun c => c))⟩
theorem HasF.alloc (H : HasF F w0 w l) (o : Obj) : HasF F w0 (w.alloc o) l := H.keep ((Keep.refl _ _).alloc o)
theorem HasF.drew (H : HasF F w0 w l) : HasF F w0 w.drew l := H.keep (Keep.refl _ _).drew
theorem HasF.drewN (H : HasF F w0 w l) (n : Nat) : HasF F w0 (w.drewN n) l := H.keep ((Keep.refl _ _).drewN n)
theorem HasF.get (H : HasF F w0 w l) {i : Nat} {P : Asrt 0} (hi : l[i]? = some P) : ∃ G : Nat → Prop, P.p G w ∧ ∀ k, G k → (F k ∨ w0.heap.size ≤ k) ∧ k < w.heap.size :=
  let ⟨_, G, h1, _, h3⟩ := H
  ⟨G i, h3 i P hi, h1 i⟩
/-- A second thing, that is read. -/
theorem HasF.two (H : HasF F w0 w l) {i j : Nat} {P Q : Asrt 0} (hi : l[i]? = some P) (hj : l[j]? = some Q) (hij : i ≠ j) : ∃ A B : Nat → Prop, P.p A w ∧ Q.p B w ∧ (∀ k, A k → (F k ∨ w0.heap.size ≤ k) ∧ k < w.heap.size) ∧ (∀ k, B k → (F k ∨ w0.heap.size ≤ k) ∧ k < w.heap.size) ∧ (∀ k, B k → ¬ A k) ∧ ∀ (w' : World) (P' : Asrt 0), Keep A w w' → P'.p (fresh A w w') w' → HasF F w0 w' (l.set i P') := by
  obtain ⟨h0, G, h1, h2, h3⟩ := H
  refine ⟨G i, G j, h3 i P hi, h3 j Q hj, h1 i, h1 j, fun k hg hf => hij (h2 i j k hf hg), fun w' P' hk hP => ?_⟩
  refine ⟨h0.trans (hk.mono (fun q hq => (h1 i q hq).1)), fun j k => if j = i then fresh (G i) w w' k else G j k, ?_, ?_, ?_⟩
  · intro j k h
    split at h
    · rcases h with h | h
      · exact ⟨(h1 i k h).1, Nat.lt_of_lt_of_le (h1 i k h).2 hk.size⟩
      · exact ⟨.inr (Nat.le_trans h0.size h.1), h.2⟩
    · exact ⟨(h1 j k h).1, Nat.lt_of_lt_of_le (h1 j k h).2 hk.size⟩
  · intro j j' k h h'
    split at h <;> split at h'
    · simp_all
    · rename_i e e'
      rcases h with h | h
      · exact absurd (h2 i j' k h h') (fun c => e' c.symm)
      · have := (h1 j' k h').2; omega
    · rename_i e e'
      rcases h' with h' | h'
      · exact absurd (h2 j i k h h') e
      · have := (h1 j k h).2; omega
    · exact h2 j j' k h h'
  · intro j Q hj
    by_cases e : j = i
    · subst e
      have hlt : j < l.length := (List.getElem?_eq_some_iff.1 hi).1
      rw [List.getElem?_set_self hlt] at hj
      obtain rfl := Option.some.inj hj
      simpa using hP
    · rw [List.getElem?_set_ne (fun c => e c.symm)] at hj
      simp only [if_neg e]
      exact Q.loc (h3 j Q hj) hk.size (fun k hF hl => ⟨hF, hk.block k hl (fun c => e (h2 j i k hF c))⟩) (fun k hn hl => by omega)
/-- A change of the i-th thing alone. -/
theorem HasF.call (H : HasF F w0 w l) {i : Nat} {P : Asrt 0} (hi : l[i]? = some P) : ∃ A : Nat → Prop, P.p A w ∧ (∀ k, A k → (F k ∨ w0.heap.size ≤ k) ∧ k < w.heap.size) ∧ ∀ (w' : World) (P' : Asrt 0), Keep A w w' → P'.p (fresh A w w') w' → HasF F w0 w' (l.set i P') := by
  have hlt : i < l.length := (List.getElem?_eq_some_iff.1 hi).1
  obtain ⟨h0, G, h1, h2, h3⟩ := H
  have H' : HasF F w0 w (l ++ [NoA 0]) := by
    refine ⟨h0, fun j k => j < l.length ∧ G j k, fun j k h => h1 j k h.2, fun a b k h h' => h2 a b k h.2 h'.2, fun j Q hj => ?_⟩
    by_cases e : j < l.length
    · rw [List.getElem?_append_left e] at hj
      exact Q.loc (h3 j Q hj) (Nat.le_refl _) (fun k hg _ => ⟨⟨e, hg⟩, rfl⟩) (fun k hn => by omega)
    · have hj2 := (List.getElem?_eq_some_iff.1 hj).1
      simp only [List.length_append, List.length_singleton] at hj2
      obtain rfl : j = l.length := by omega
      rw [List.getElem?_append_right (Nat.le_refl _)] at hj
      simp only [Nat.sub_self, List.getElem?_cons_zero, Option.some.injEq] at hj
      subst hj
      trivial
  obtain ⟨A, B, hA, -, hA1, -, -, hback⟩ := H'.two (i := i) (j := l.length) (P := P) (Q := NoA 0) (by rw [List.getElem?_append_left hlt]; exact hi) (by simp) (by omega)
  refine ⟨A, hA, hA1, fun w' P' hk hP => ?_⟩
  obtain ⟨k0, G', g1, g2, g3⟩ := hback w' P' hk hP
  refine ⟨k0, G', g1, g2, fun j Q hj => g3 j Q ?_⟩
  rw [List.set_append_left _ _ hlt]
  have hj2 := (List.getElem?_eq_some_iff.1 hj).1
  rw [List.getElem?_append_left hj2]
  exact hj
/-- New things. -/
theorem HasF.news {ps : List (Asrt 0)} (H : HasF F w0 w l) (hk : Keep none_ w w') (hP : Parts (fresh none_ w w') w' ps) : HasF F w0 w' (l ++ ps) := by
  obtain ⟨h0, G, h1, h2, h3⟩ := H
  obtain ⟨B, b1, b2, b3⟩ := hP
  refine ⟨h0.trans hk.none, fun j k => if j < l.length then G j k else B (j - l.length) k, ?_, ?_, ?_⟩
  · intro j k h
    split at h
    · exact ⟨(h1 j k h).1, Nat.lt_of_lt_of_le (h1 j k h).2 hk.size⟩
    · rcases b1 _ k h with h | h
      · exact h.elim
      · exact ⟨.inr (Nat.le_trans h0.size h.1), h.2⟩
  · intro j j' k h h'
    split at h <;> split at h'
    · exact h2 j j' k h h'
    · rcases b1 _ k h' with c | c
      · exact c.elim
      · have := (h1 j k h).2; omega
    · rcases b1 _ k h with c | c
      · exact c.elim
      · have := (h1 j' k h').2; omega
    · have := b2 _ _ k h h'; omega
  · intro j Q hj
    by_cases e : j < l.length
    · rw [List.getElem?_append_left e] at hj
      simp only [if_pos e]
      exact Q.loc (h3 j Q hj) hk.size (fun k hF hl => ⟨hF, hk.block k hl (fun c => c)⟩) (fun k hn hl => by omega)
    · rw [List.getElem?_append_right (by omega)] at hj
      simp only [if_neg e]
      exact b3 _ Q hj
/-- A thing is opened: its parts stand at the end, the place where it stood is free. -/
theorem HasF.open {ps : List (Asrt 0)} (H : HasF F w0 w l) {i : Nat} {P : Asrt 0} (hi : l[i]? = some P) (hp : ∀ G, P.p G w → Parts G w ps) : HasF F w0 w (l.set i (NoA 0) ++ ps) := by
  obtain ⟨h0, G, h1, h2, h3⟩ := H
  obtain ⟨B, b1, b2, b3⟩ := hp _ (h3 i P hi)
  refine ⟨h0, fun j k => if j < l.length then j ≠ i ∧ G j k else B (j - l.length) k, ?_, ?_, ?_⟩
  · intro j k h
    split at h
    · exact h1 j k h.2
    · exact h1 i k (b1 _ k h)
  · intro j j' k h h'
    split at h <;> split at h'
    · exact h2 j j' k h.2 h'.2
    · exact absurd (h2 j i k h.2 (b1 _ k h')) h.1
    · exact absurd (h2 j' i k h'.2 (b1 _ k h)) h'.1
    · have := b2 _ _ k h h'; omega
  · intro j Q hj
    by_cases e : j < l.length
    · rw [List.getElem?_append_left (by simpa using e)] at hj
      simp only [if_pos e]
      by_cases e2 : j = i
      · subst e2
        rw [List.getElem?_set_self e] at hj
        obtain rfl := Option.some.inj hj
        trivial
      · rw [List.getElem?_set_ne (fun c => e2 c.symm)] at hj
        exact Q.loc (h3 j Q hj) (Nat.le_refl _) (fun k hF hl => ⟨⟨e2, hF⟩, rfl⟩) (fun k hn hl => by omega)
    · rw [List.getElem?_append_right (by simpa using e), List.length_set] at hj
      simp only [if_neg e]
      exact b3 _ Q hj
/-- The things of some places (none twice), in another order. -/
theorem HasF.pick (H : HasF F w0 w l) (is : List Nat) (hn : is.Nodup) : ∀ ps : List (Asrt 0), (∀ (j : Nat) (P : Asrt 0), ps[j]? = some P → ∃ i, is[j]? = some i ∧ l[i]? = some P) → HasF F w0 w ps := by
  intro ps hps
  obtain ⟨h0, G, h1, h2, h3⟩ := H
  refine ⟨h0, fun j k => ∃ i, is[j]? = some i ∧ G i k, fun j k ⟨i, _, h⟩ => h1 i k h, ?_, fun j P hj => ?_⟩
  · rintro j j' k ⟨i, hi, h⟩ ⟨i', hi', h'⟩
    have e := h2 i i' k h h'
    subst e
    exact (List.getElem?_inj (List.getElem?_eq_some_iff.1 hi).1 hn).1 (hi.trans hi'.symm)
  · obtain ⟨i, hi, hl⟩ := hps j P hj
    exact P.loc (h3 i P hl) (Nat.le_refl _) (fun k hg _ => ⟨⟨i, hi, hg⟩, rfl⟩) (fun k hn hl => by omega)
/-- The things of some places, by their numbers. -/
theorem HasF.sel (H : HasF F w0 w l) (is : List Nat) (hn : is.Nodup) : HasF F w0 w (is.map fun i => (l[i]?).getD (NoA 0)) := by
  obtain ⟨h0, G, h1, h2, h3⟩ := H
  refine ⟨h0, fun j k => ∃ i, is[j]? = some i ∧ G i k, fun j k ⟨i, _, h⟩ => h1 i k h, ?_, fun j P hj => ?_⟩
  · rintro j j' k ⟨i, hi, h⟩ ⟨i', hi', h'⟩
    have e := h2 i i' k h h'
    subst e
    exact (List.getElem?_inj (List.getElem?_eq_some_iff.1 hi).1 hn).1 (hi.trans hi'.symm)
  · rw [List.getElem?_map, Option.map_eq_some_iff] at hj
    obtain ⟨i, hi, rfl⟩ := hj
    cases hl : l[i]? with
    | none => exact trivial
    | some P => exact P.loc (h3 i P hl) (Nat.le_refl _) (fun k hg _ => ⟨⟨i, hi, hg⟩, rfl⟩) (fun k hn hl => by omega)
theorem HasF.take (H : HasF F w0 w l) (n : Nat) : HasF F w0 w (l.take n) := by
  obtain ⟨h0, G, h1, h2, h3⟩ := H
  refine ⟨h0, G, h1, h2, fun i P hi => h3 i P ?_⟩
  rw [List.getElem?_take] at hi
  split at hi
  · exact hi
  · simp at hi
/-- Some things are one thing. -/
theorem HasF.close {ps : List (Asrt 0)} (H : HasF F w0 w (l ++ ps)) (P : Asrt 0) (hp : ∀ G, Parts G w ps → P.p G w) : HasF F w0 w (l ++ [P]) := by
  obtain ⟨h0, G, h1, h2, h3⟩ := H
  refine ⟨h0, fun j k => if j < l.length then G j k else (j = l.length ∧ ∃ q, G (l.length + q) k), ?_, ?_, ?_⟩
  · intro j k h
    split at h
    · exact h1 j k h
    · obtain ⟨-, q, hq⟩ := h; exact h1 _ k hq
  · intro j j' k h h'
    split at h <;> split at h'
    · exact h2 j j' k h h'
    · obtain ⟨-, q, hq⟩ := h'; have := h2 _ _ k h hq; omega
    · obtain ⟨-, q, hq⟩ := h; have := h2 _ _ k h' hq; omega
    · omega
  · intro j Q hj
    by_cases e : j < l.length
    · rw [List.getElem?_append_left e] at hj
      simp only [if_pos e]
      exact h3 j Q (by rw [List.getElem?_append_left e]; exact hj)
    · have hj2 := (List.getElem?_eq_some_iff.1 hj).1
      simp only [List.length_append, List.length_singleton] at hj2
      obtain rfl : j = l.length := by omega
      rw [List.getElem?_append_right (Nat.le_refl _)] at hj
      simp only [Nat.sub_self, List.getElem?_cons_zero, Option.some.injEq] at hj
      subst hj
      refine hp _ ⟨fun q k => G (l.length + q) k, fun q k h => ?_, fun a b k h h' => ?_, fun q R hR => h3 _ R ?_⟩
      · simp only [Nat.lt_irrefl, if_false]; exact ⟨trivial, q, h⟩
      · have := h2 _ _ k h h'; omega
      · rw [List.getElem?_append_right (by omega)]
        simpa using hR
/-- Said otherwise. -/
theorem HasF.imp (H : HasF F w0 w l) {i : Nat} {P P' : Asrt 0} (hi : l[i]? = some P) (h : ∀ G, P.p G w → P'.p G w) : HasF F w0 w (l.set i P') := by
  obtain ⟨h0, G, h1, h2, h3⟩ := H
  refine ⟨h0, G, h1, h2, fun j Q hj => ?_⟩
  by_cases e : j = i
  · subst e
    have hlt : j < l.length := (List.getElem?_eq_some_iff.1 hi).1
    rw [List.getElem?_set_self hlt] at hj
    obtain rfl := Option.some.inj hj
    exact h _ (h3 j P hi)
  · rw [List.getElem?_set_ne (fun c => e c.symm)] at hj
    exact h3 j Q hj
theorem HasF.new (H : HasF F w0 w l) {P : Asrt 0} (hk : Keep none_ w w') (hP : P.p (fresh none_ w w') w') : HasF F w0 w' (l ++ [P]) := by
  refine H.news hk ⟨fun i k => i = 0 ∧ fresh none_ w w' k, fun i k h => h.2, fun i j k h h' => h.1.trans h'.1.symm, fun i Q hi => ?_⟩
  match i with
  | 0 =>
    simp only [List.getElem?_cons_zero, Option.some.injEq] at hi
    subst hi
    exact P.loc hP (Nat.le_refl _) (fun k h _ => ⟨⟨rfl, h⟩, rfl⟩) (fun k hn => by omega)
  | i + 1 => simp at hi
theorem HasF.box (H : HasF F w0 w l) (cs : Array Value) (T : TypeId) : HasF F w0 (w.alloc (.cells cs T)) (l ++ [BlkA 0 w.heap.size cs T]) :=
  H.new ((Keep.refl _ _).alloc _) ⟨.inr ⟨Nat.le_refl _, by simp⟩, heap_alloc_new _ _⟩
theorem HasF.blk (H : HasF F w0 w l) {i b : Nat} {cs : Array Value} {T : TypeId} (hi : l[i]? = some (BlkA 0 b cs T)) : w.heap[b]? = some (.cells cs T (0, 0)) :=
  let ⟨_, h, _⟩ := H.get hi
  h.2
/-- A cell of a block is written. -/
theorem HasF.put (H : HasF F w0 w l) {i b : Nat} {cs : Array Value} {T : TypeId} (hi : l[i]? = some (BlkA 0 b cs T)) (k : Nat) (u : Value) : HasF F w0 (w.setCell ⟨b, k, none⟩ u) (l.set i (BlkA 0 b (cs.setIfInBounds k u) T)) := by
  obtain ⟨A, h, hA, hback⟩ := H.call hi
  have h2 : A b ∧ w.heap[b]? = some (.cells cs T (0, 0)) := h
  refine hback _ _ ((Keep.refl _ _).setCell (.inr h2.1) _) ⟨.inl h2.1, ?_⟩
  rw [heap_setCell_same _ _ _ _ _ _ h2.2]
/-- What the function does not touch. -/
theorem HasF.off (H : HasF F w0 w l) {k : Nat} (hl : k < w0.heap.size) (hF : ¬ F k) : w.heap[k]? = w0.heap[k]? := H.1.block k hl hF
theorem HasF.cell (H : HasF F w0 w l) {p : Addr} (hl : p.block < w0.heap.size) (hF : ¬ F p.block) {v : Value} (hc : w0.cell? p = some v) : w.cell? p = some v := (H.1.cell hl hF).trans hc
end
theorem HasF.cell0 {w0 w : World} {l : List (Asrt 0)} (H : HasF none_ w0 w l) {p : Addr} {v : Value} (hc : w0.cell? p = some v) : w.cell? p = some v := (H.1.cell (World.block_lt_of_cell? w0 p hc) (fun c => c)).trans hc
/-- A slice that is read. -/
def SeesA (n : Nat) (sz : Nat) (v : Value) (m : Nat) (xs : List Value) : Asrt n := ⟨fun F w => SeesIn w F sz v m xs, fun h hs hk _ => h.move hs hk⟩
def PartsA (ps : List (Asrt 0)) : Asrt 0 := ⟨fun F w => Parts F w ps, fun h hs hk _ => h.move hs hk⟩
end Go.Proofs.Ytienodnkfohakaa
