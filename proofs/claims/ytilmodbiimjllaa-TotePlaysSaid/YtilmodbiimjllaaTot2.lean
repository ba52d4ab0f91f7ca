import Derived.Test.YtilmodbiimjllaaTot1
namespace Go.Proofs.Ytilmodbiimjllaa
set_option linter.unusedVariables false
set_option linter.unusedSimpArgs false
open Go.RowKit

/-- What totes are: the room of a zone, and the zones. -/
structure TS where
  room : Int
  qs : List (List Int)
structure TS.good (s : TS) : Prop where
  r1 : 1 ≤ s.room
  r64 : s.room ≤ 64
  n1 : 1 ≤ s.qs.length
  n8 : s.qs.length ≤ 8
  q : ∀ q ∈ s.qs, (q.length : Int) ≤ s.room
def qcells (vs : List Value) (r : Int) : List Value := vs.flatMap fun v => [v, .int .i64 r]
theorem qcells_get (vs : List Value) (r : Int) {i : Nat} {v : Value} (h : vs[i]? = some v) : (qcells vs r)[i * 2]? = some v ∧ (qcells vs r)[i * 2 + 1]? = some (.int .i64 r) := by
  have h1 := fl_get (enc := fun v => [v, Value.int .i64 r]) (sz := 2) (fun _ => rfl) vs i v h 0 (by omega)
  have h2 := fl_get (enc := fun v => [v, Value.int .i64 r]) (sz := 2) (fun _ => rfl) vs i v h 1 (by omega)
  exact ⟨h1, h2⟩
theorem qcells_len (vs : List Value) (r : Int) : (qcells vs r).length = vs.length * 2 := fl_len (enc := fun v => [v, Value.int .i64 r]) (fun _ => rfl) vs
theorem qcells_set (vs : List Value) (r : Int) (v' : Value) : ∀ i, i < vs.length → (qcells vs r).set (i * 2) v' = qcells (vs.set i v') r := by
  induction vs with
  | nil => intro i h; simp at h
  | cons v vs ih =>
    intro i h
    have e : ∀ (u : Value) (us : List Value), qcells (u :: us) r = u :: .int .i64 r :: qcells us r := fun u us => by simp [qcells]
    cases i with
    | zero => rw [e, Nat.zero_mul, List.set_cons_zero, List.set_cons_zero, e]
    | succ i =>
      rw [e, List.set_cons_succ, e, show (i + 1) * 2 = i * 2 + 1 + 1 by omega, List.set_cons_succ, List.set_cons_succ, ih i (by simpa using h)]
theorem qrow_cells (r : Int) (n : Nat) : qrow (.slice none 0 0) r n = qcells (List.replicate n (.slice none 0 0)) r := by
  induction n with
  | zero => rfl
  | succ n ih =>
    simp only [qrow, qcells, List.replicate_succ, List.flatten_cons, List.flatMap_cons] at ih ⊢
    rw [ih]

structure TIn (w : World) (F : Nat → Prop) (t zb : Nat) (s : TS) (vs : List Value) : Prop where
  good : s.good
  tF : F t
  zF : F zb
  tb : w.heap[t]? = some (.cells #[.slice (some ⟨zb, 0, none⟩) s.qs.length s.qs.length] 54 (0, 0))
  zb : w.heap[zb]? = some (.cells (qcells vs s.room).toArray 50 (0, 0))
  len : vs.length = s.qs.length
  each : ∀ (i : Nat) (v : Value) (q : List Int), vs[i]? = some v → s.qs[i]? = some q → Own w F 30 1 v q.length (ints .u16 q)
  apart : ∀ (i j : Nat) (v v' : Value) (g : Nat), vs[i]? = some v → vs[j]? = some v' → v.ownBlock = some g → v'.ownBlock = some g → i = j
def TRep (w : World) (F : Nat → Prop) (t zb : Nat) (s : TS) : Prop := ∃ vs, TIn w F t zb s vs
theorem TIn.move {w w' : World} {F G : Nat → Prop} {t zb : Nat} {s : TS} {vs : List Value} (h : TIn w F t zb s vs) (hk : ∀ k, F k → k < w.heap.size → G k ∧ w'.heap[k]? = w.heap[k]?) : TIn w' G t zb s vs :=
  ⟨h.good, (hk t h.tF (lt_of_block h.tb)).1, (hk zb h.zF (lt_of_block h.zb)).1, (hk t h.tF (lt_of_block h.tb)).2.trans h.tb, (hk zb h.zF (lt_of_block h.zb)).2.trans h.zb, h.len, fun i v q hv hq => (h.each i v q hv hq).move hk, h.apart⟩
theorem TRep.move {w w' : World} {F G : Nat → Prop} {t zb : Nat} {s : TS} (h : TRep w F t zb s) (hk : ∀ k, F k → k < w.heap.size → G k ∧ w'.heap[k]? = w.heap[k]?) : TRep w' G t zb s := by
  obtain ⟨vs, h⟩ := h
  exact ⟨vs, h.move hk⟩
def TotA (n t zb : Nat) (s : TS) : Asrt n := ⟨fun F w => TRep w F t zb s, fun h _ hk _ => h.move hk⟩

/-- One zone changed. -/
def TS.upd (s : TS) (i : Nat) (q : List Int) : TS := { s with qs := s.qs.set i q }
theorem TRep.at {w : World} {F : Nat → Prop} {t zb : Nat} {s : TS} (h : TRep w F t zb s) {i : Nat} {q : List Int} (hq : s.qs[i]? = some q) :
    ∃ v, w.cell? ⟨zb, i * 2, none⟩ = some v ∧ w.frozen? ⟨zb, i * 2, none⟩ = false ∧ w.cell? ⟨zb, i * 2 + 1, none⟩ = some (.int .i64 s.room) ∧ Own w F 30 1 v q.length (ints .u16 q) ∧ v.ownBlock ≠ some zb ∧ zb < w.heap.size ∧ F zb ∧
      ∀ (w1 : World) (v' : Value) (q' : List Int), Keep (fun k => v.ownBlock = some k) w w1 → Own w1 (fun k => v.ownBlock = some k ∨ (w.heap.size ≤ k ∧ k < w1.heap.size)) 30 1 v' q'.length (ints .u16 q') → (q'.length : Int) ≤ s.room →
        Keep F w (w1.setCell ⟨zb, i * 2, none⟩ v') ∧ TRep (w1.setCell ⟨zb, i * 2, none⟩ v') (fresh F w (w1.setCell ⟨zb, i * 2, none⟩ v')) t zb (s.upd i q') := by
  obtain ⟨vs, h⟩ := h
  have hi : i < vs.length := by rw [h.len]; exact (List.getElem?_eq_some_iff.1 hq).1
  have hv : vs[i]? = some vs[i] := List.getElem?_eq_getElem hi
  obtain ⟨g1, g2⟩ := qcells_get vs s.room hv
  have own := h.each i _ q hv hq
  have hne : ∀ (j : Nat) v, vs[j]? = some v → v.ownBlock ≠ some zb := by
    intro j v hj
    have hjl : j < s.qs.length := by rw [← h.len]; exact (List.getElem?_eq_some_iff.1 hj).1
    exact (h.each j v _ hj (List.getElem?_eq_getElem hjl)).ne h.zb (by decide)
  have hnt : ∀ (j : Nat) v, vs[j]? = some v → v.ownBlock ≠ some t := by
    intro j v hj
    have hjl : j < s.qs.length := by rw [← h.len]; exact (List.getElem?_eq_some_iff.1 hj).1
    exact (h.each j v _ hj (List.getElem?_eq_getElem hjl)).ne h.tb (by decide)
  have htz : t ≠ zb := by
    rintro rfl
    have := h.tb.symm.trans h.zb
    simp at this
  refine ⟨vs[i], by simp [World.cell?, h.zb, g1], by simp [World.frozen?, h.zb], by simp [World.cell?, h.zb, g2], own, hne i _ hv, lt_of_block h.zb, h.zF, fun w1 v' q' hk ho hq' => ?_⟩
  have hzl := lt_of_block h.zb
  have htl := lt_of_block h.tb
  have hz1 : w1.heap[zb]? = some (.cells (qcells vs s.room).toArray 50 (0, 0)) := (hk.block zb hzl (hne i _ hv)).trans h.zb
  have hK : Keep F w (w1.setCell ⟨zb, i * 2, none⟩ v') := (hk.mono (fun k hkk => own.2.1 k hkk)).setCell (.inr h.zF) v'
  have hsz : (w1.setCell ⟨zb, i * 2, none⟩ v').heap.size = w1.heap.size := by simp
  refine ⟨hK, vs.set i v', ⟨⟨h.good.r1, h.good.r64, by simpa [TS.upd] using h.good.n1, by simpa [TS.upd] using h.good.n8, ?_⟩, .inl h.tF, .inl h.zF, ?_, ?_, by simp [TS.upd, h.len], ?_, ?_⟩⟩
  · intro p hp
    rcases List.mem_or_eq_of_mem_set hp with hp | rfl
    · exact h.good.q p hp
    · exact hq'
  · rw [Below.heap_setCell _ _ _ _ htz, hk.block t htl (hnt i _ hv)]
    simpa [TS.upd] using h.tb
  · rw [heap_setCell_same _ _ _ _ _ _ hz1, show (s.upd i q').room = s.room from rfl, ← qcells_set vs s.room v' i hi, List.setIfInBounds_toArray]
  · intro j u p hj hp
    by_cases e : i = j
    · subst e
      rw [List.getElem?_set_self hi] at hj
      obtain rfl := Option.some.inj hj
      simp only [TS.upd] at hp
      rw [List.getElem?_set_self (by rw [← h.len]; exact hi)] at hp
      obtain rfl := Option.some.inj hp
      refine Own.setCell (a := ⟨zb, i * 2, none⟩) (ho.move (fun k hk' hl => ⟨?_, rfl⟩)) (fun c => ?_) v'
      · rcases hk' with c | c
        · exact .inl (own.2.1 k c)
        · exact .inr ⟨c.1, by rw [hsz]; exact c.2⟩
      · rcases ho.2.1 _ c with c' | c'
        · exact hne i _ hv c'
        · have := c'.1; simp only at this; omega
    · rw [List.getElem?_set_ne e] at hj
      simp only [TS.upd] at hp
      rw [List.getElem?_set_ne e] at hp
      have oj := h.each j u p hj hp
      refine Own.setCell (a := ⟨zb, i * 2, none⟩) ?_ (hne j u hj) v'
      refine ⟨⟨oj.1.1, ?_⟩, fun g hg => .inl (oj.2.1 g hg), oj.2.2⟩
      rcases oj.1.2 with hh | ⟨g, cap, cur, h1, h2, h3, h4⟩
      · exact .inl hh
      · refine .inr ⟨g, cap, cur, h1, h2, ?_, h4⟩
        rw [hk.block g (lt_of_block h3) (fun c => e (h.apart i j _ u g hv hj c (by rw [h1]; rfl)))]
        exact h3
  · intro j k u u' g hj hk' hu hu'
    by_cases e : i = j
    · subst e
      by_cases e2 : i = k
      · exact e2
      · rw [List.getElem?_set_self hi] at hj
        obtain rfl := Option.some.inj hj
        rw [List.getElem?_set_ne e2] at hk'
        have hkl : k < s.qs.length := by rw [← h.len]; exact (List.getElem?_eq_some_iff.1 hk').1
        have ok := h.each k u' _ hk' (List.getElem?_eq_getElem hkl)
        rcases ho.2.1 g hu with c | c
        · exact h.apart i k _ u' g hv hk' c hu'
        · have := ok.lt hu'; omega
    · rw [List.getElem?_set_ne e] at hj
      by_cases e2 : i = k
      · subst e2
        rw [List.getElem?_set_self hi] at hk'
        obtain rfl := Option.some.inj hk'
        have hjl : j < s.qs.length := by rw [← h.len]; exact (List.getElem?_eq_some_iff.1 hj).1
        have oj := h.each j u _ hj (List.getElem?_eq_getElem hjl)
        rcases ho.2.1 g hu' with c | c
        · exact h.apart j i u _ g hj hv hu c
        · have := oj.lt hu; omega
      · rw [List.getElem?_set_ne e2] at hk'
        exact h.apart j k u u' g hj hk' hu hu'
end Go.Proofs.Ytilmodbiimjllaa
