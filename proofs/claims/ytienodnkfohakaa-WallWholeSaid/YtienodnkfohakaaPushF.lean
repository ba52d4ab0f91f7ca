import Derived.Test.YtienodnkfohakaaHasF
import Derived.Test.YtienodnkfohakaaPushL
import Derived.Test.YtienodnkfohakaaAppL
namespace Go.Proofs.Ytienodnkfohakaa
set_option linter.unusedVariables false
set_option linter.unusedSimpArgs false
open Go.RowKit
theorem SeesIn.keep {w w' : World} {F : Nat → Prop} {sz n : Nat} {v : Value} {xs : List Value} (h : SeesIn w F sz v n xs) (hk : Keep none_ w w') : SeesIn w' F sz v n xs :=
  h.move hk.size (fun k hF hl => ⟨hF, hk.block k hl (fun c => c)⟩)
theorem SeesIn.mono {w : World} {F G : Nat → Prop} {sz n : Nat} {v : Value} {xs : List Value} (h : SeesIn w F sz v n xs) (hg : ∀ k, F k → G k) : SeesIn w G sz v n xs :=
  h.move (Nat.le_refl _) (fun k hF _ => ⟨hg k hF, rfl⟩)
/-- The rest of a row that is read. -/
theorem SeesIn.rest {P : Program} {w : World} {F : Nat → Prop} {sz n c : Nat} {A : Option Addr} {xs : List Value} {t e : TypeId} (ht : P.underlying t = some (.slice e)) (hsz : ∀ W : World, (sizeOf e).run P W = .ok sz W) (h : SeesIn w F sz (.slice A n c) n xs) (k : Nat) (hk : k ≤ n) :
    ∃ A', (∀ W : World, (Instr.slice t (.slice A n c) (some (.int .i64 k)) none none).run P W = .ok (.slice A' (n - k) (c - k)) W) ∧ SeesIn w F sz (.slice A' (n - k) (c - k)) (n - k) (xs.drop (k * sz)) := by
  obtain ⟨A0, c0, e0, h1, h2, h2', h3, h3', h4⟩ := h
  simp only [Value.slice.injEq, true_and] at e0
  obtain ⟨rfl, rfl⟩ := e0
  refine ⟨if c = k then A else A.map (·.add (k * sz)), fun W => ?_, _, _, rfl, by omega, by omega, fun hn => ?_, ?_, fun u hu => h3' u (List.mem_of_mem_drop hu), fun hn => ?_⟩
  · have hb : (0 : Int) ≤ (k : Int) ∧ (k : Int) ≤ (n : Int) := by omega
    simp [Instr.slice, run_underlying ht, Instr.sliceBounds, Instr.sliceBound, asIntOf, hsz, Result.andThen, hk]
  · split at hn
    · have := h2' hn; omega
    · rw [Option.map_eq_none_iff] at hn
      have := h2' hn; omega
  · rw [List.length_drop, h3, Nat.sub_mul]
  · obtain ⟨g, o, rfl, hF, hg, hc⟩ := h4 (by omega)
    refine ⟨g, o + k * sz, ?_, hF, hg, fun j u hj => ?_⟩
    · rw [if_neg (by omega)]
      simp [Addr.add_lit]
    · rw [List.getElem?_drop] at hj
      have := hc _ u hj
      rw [Nat.add_assoc]
      exact this
theorem SeesIn.restAt {P : Program} {w W0 : World} {F : Nat → Prop} {sz n c : Nat} {A A' : Option Addr} {xs : List Value} {t e : TypeId} (ht : P.underlying t = some (.slice e)) (hsz : ∀ W : World, (sizeOf e).run P W = .ok sz W) (h : SeesIn w F sz (.slice A n c) n xs) (k : Nat) (hk : k ≤ n)
    (hr : (Instr.slice t (.slice A n c) (some (.int .i64 k)) none none).run P W0 = .ok (.slice A' (n - k) (c - k)) W0) : SeesIn w F sz (.slice A' (n - k) (c - k)) (n - k) (xs.drop (k * sz)) := by
  obtain ⟨A2, h1, h2⟩ := h.rest ht hsz k hk
  rw [h1 W0] at hr
  simp only [Result.ok.injEq, Value.slice.injEq, and_true] at hr
  rw [← hr]
  exact h2
theorem fl_drop {α : Type} {enc : α → List Value} {sz : Nat} (hs : ∀ x, (enc x).length = sz) (l : List α) : ∀ m, (l.flatMap enc).drop (m * sz) = (l.drop m).flatMap enc := by
  induction l with
  | nil => intro m; simp
  | cons x l ih =>
    intro m
    cases m with
    | zero => simp
    | succ m =>
      rw [List.drop_succ_cons, List.flatMap_cons, ← ih m, List.drop_append, hs, List.drop_of_length_le (by rw [hs, Nat.succ_mul]; omega), List.nil_append]
      congr 1
      rw [Nat.succ_mul]; omega
/-- A slice literal, by its run. -/
theorem exec_build {P : Program} {w w' : World} {ρ : Operand → Value} {o : Oper} {v' : Value} (t : TypeId) (ps : Array (Nat × Value)) {len : Nat} {parts : Array (Nat × Operand)} (ho : o.op = .buildSlice t len parts) (hp : parts.toList.map (fun q => (q.1, ρ q.2)) = ps.toList) (hr : (Instr.buildSlice t len ps).run P w = .ok v' w') : (execOp ρ o).run P w = .ok (.value v') w' := by
  have hp' : parts.map (fun (i, x) => (i, ρ x)) = ps := by
    apply Array.ext'
    rw [← hp, Array.toList_map]
  simp [execOp, ho, hp', hr, Result.andThen]
section
variable {F : Nat → Prop} {w0 w : World} {L : List (Asrt 0)}
theorem HasF.push {P : Program} (H : HasF F w0 w L) {k m : Nat} {e : TypeId} {v : Value} {xs : List Value} {size : Nat} (hi : L[k]? = some (OwnA 0 e size v m xs)) (t : TypeId) (i : TypeInfo) (z : Value) (bytes : Nat) (ht : P.underlying t = some (.slice e)) (hi0 : P.info? e = some i) (hz : i.zero = some z)
    (hsize : i.size = size) (hby : i.bytes = bytes) (hzs : z.cells.size = size) (hsz : 0 < size) (cs : Array Value) (hcs : cs.size = size) (h1 : ∀ u ∈ cs.toList, u.oneCell' = true) (h63 : m + 1 ≤ maxLen) (hbytes : (m + 1) * bytes ≤ 140737488355328) (ty : TypeId) :
    ∃ g cap w', (Builtin.append_ #[t, t] ty #[v, .slice (some ⟨w.heap.size, 0, none⟩) 1 1]).run P (w.alloc (.cells cs e)) = .ok (.slice (some ⟨g, 0, none⟩) (m + 1) cap) w' ∧ m + 1 ≤ cap ∧ cap ≤ 9223372036854775807 ∧ HasF F w0 w' (L.set k (OwnA 0 e size (.slice (some ⟨g, 0, none⟩) (m + 1) cap) (m + 1) (xs ++ cs.toList))) := by
  obtain ⟨G, ho, hF, hback⟩ := H.call hi
  have ho' : Own w G e size v m xs := ho
  obtain ⟨g, cap, w', hr, hown, hgr, hg, -⟩ := push_law w t e i z size bytes ht hi0 hz hsize hby hzs hsz G cs v m xs ho' hcs h1 h63 hbytes ty
  have hf := hown.form (by omega)
  obtain ⟨g', c', e1, -, -, h2, h3⟩ := hf
  simp only [Value.slice.injEq, true_and] at e1
  obtain ⟨-, rfl⟩ := e1
  refine ⟨g, cap, w', hr, h2, by unfold maxLen at h3; omega, hback w' _ (((Keep.refl G w).alloc _).grown hgr (fun q hq => .inr (ho'.2.1 q hq))) ?_⟩
  refine hown.move (fun q hq hl => ⟨?_, rfl⟩)
  rcases hq with c | c
  · exact .inl (ho'.2.1 q c)
  · exact .inr ⟨by omega, hl⟩
/-- append of what is read to what is ours. -/
theorem HasF.app {P : Program} (H : HasF F w0 w L) {k n m : Nat} {e : TypeId} {v x : Value} {xs news : List Value} {size : Nat} (hi : L[k]? = some (OwnA 0 e size v n xs)) {G : Nat → Prop} (hx : SeesIn w G size x m news) (t : TypeId) (i : TypeInfo) (z : Value) (bytes : Nat) (ht : P.underlying t = some (.slice e)) (hi0 : P.info? e = some i) (hz : i.zero = some z)
    (hsize : i.size = size) (hby : i.bytes = bytes) (hzs : z.cells.size = size) (hsz : 0 < size) (h63 : n + m ≤ maxLen) (hbytes : (n + m) * bytes ≤ 140737488355328) (ty : TypeId) :
    ∃ A c w', (Builtin.append_ #[t, t] ty #[v, x]).run P w = .ok (.slice A (n + m) c) w' ∧ n + m ≤ c ∧ c ≤ 9223372036854775807 ∧ HasF F w0 w' (L.set k (OwnA 0 e size (.slice A (n + m) c) (n + m) (xs ++ news))) := by
  obtain ⟨A, ho, hA, hback⟩ := H.call hi
  have ho' : Own w A e size v n xs := ho
  obtain ⟨v', w', hr, hown, hg⟩ := append_law w t e i z size bytes ht hi0 hz hsize hby hzs hsz ho' hx h63 hbytes ty
  obtain ⟨A', c, rfl, h1, h2⟩ := hown.len
  refine ⟨A', c, w', hr, h1, by unfold maxLen at h2; omega, hback w' _ ((Keep.refl A w).grown hg (fun q hq => .inr (ho'.2.1 q hq))) (hown.move (fun q hq _ => ⟨?_, rfl⟩))⟩
  rcases hq with c | c
  · exact .inl (ho'.2.1 q c)
  · exact .inr c
/-- A cell of a row of ours: read, and written. -/
theorem HasF.row (H : HasF F w0 w L) {i n sz : Nat} {e : TypeId} {v : Value} {xs : List Value} (hi : L[i]? = some (OwnA 0 e sz v n xs)) {k : Nat} {u : Value} (hk : xs[k]? = some u) :
    ∃ g c, v = .slice (some ⟨g, 0, none⟩) n c ∧ n ≤ c ∧ c ≤ 9223372036854775807 ∧ w.cell? ⟨g, k, none⟩ = some u ∧ w.frozen? ⟨g, k, none⟩ = false ∧
      ∀ y : Value, y.oneCell' = true → HasF F w0 (w.setCell ⟨g, k, none⟩ y) (L.set i (OwnA 0 e sz v n (xs.set k y))) := by
  obtain ⟨A, hz, hA, hback⟩ := H.call hi
  have ho : Own w A e sz v n xs := hz
  have hkl := (List.getElem?_eq_some_iff.1 hk).1
  have hx := ho.1.1
  have hn0 : 0 < n := by
    rcases Nat.eq_zero_or_pos n with c | c
    · subst c; rw [Nat.zero_mul] at hx; omega
    · exact c
  obtain ⟨g, c, rfl, hFg, hg, h1, h2⟩ := ho.form hn0
  unfold maxLen at h2
  obtain ⟨⟨u', hu', -⟩, hf⟩ := ho.cell k (by omega)
  have hc := ho.1.cellAt k (by omega)
  refine ⟨g, c, rfl, h1, by omega, by rw [hc]; exact hk, hf, fun y hy => hback _ _ ((Keep.refl _ _).setCell (.inr hFg) _) ?_⟩
  exact (ho.store k y hy).move (fun q hq _ => ⟨.inl hq, rfl⟩)
theorem HasF.own (H : HasF F w0 w L) {i n sz : Nat} {e : TypeId} {v : Value} {xs : List Value} (hi : L[i]? = some (OwnA 0 e sz v n xs)) : ∃ G, SeesIn w G sz v n xs ∧ ∃ A c, v = .slice A n c ∧ n ≤ c ∧ c ≤ 9223372036854775807 := by
  obtain ⟨A, hz, hA⟩ := H.get hi
  have ho : Own w A e sz v n xs := hz
  obtain ⟨B, c, rfl, h1, h2⟩ := ho.len
  exact ⟨A, ho.sees, B, c, rfl, h1, by unfold maxLen at h2; omega⟩
theorem HasF.sees (H : HasF F w0 w L) {i n sz : Nat} {v : Value} {xs : List Value} (hi : L[i]? = some (SeesA 0 sz v n xs)) : ∃ G, SeesIn w G sz v n xs ∧ ∃ A c, v = .slice A n c ∧ n ≤ c ∧ c ≤ 9223372036854775807 := by
  obtain ⟨A, hz, hA⟩ := H.get hi
  have ho : SeesIn w A sz v n xs := hz
  obtain ⟨B, c, rfl, h1, h2, -⟩ := ho.form
  exact ⟨A, ho, B, c, rfl, h1, h2⟩
/-- A new row without elements. -/
theorem HasF.newRow (H : HasF F w0 w L) (e : TypeId) (sz : Nat) : HasF F w0 (w.alloc (.cells #[] e)) (L ++ [OwnA 0 e sz (.slice (some ⟨w.heap.size, 0, none⟩) 0 0) 0 []]) :=
  H.new ((Keep.refl _ _).alloc _) ⟨⟨by simp, .inr ⟨w.heap.size, 0, #[], rfl, Nat.zero_le _, heap_alloc_new _ _, Nat.le_refl _, by simp, by simp, by simp⟩⟩, fun g hg => by simp only [Value.ownBlock, Option.some.injEq] at hg; subst hg; exact .inr ⟨Nat.le_refl _, by simp⟩, by simp⟩
/-- A literal row that is read. -/
theorem HasF.litRow (H : HasF F w0 w L) (cs : Array Value) (T : TypeId) (sz n : Nat) (hs : cs.size = n * sz) (h1 : ∀ u ∈ cs.toList, u.oneCell' = true) (hn : n ≤ maxLen) : HasF F w0 (w.alloc (.cells cs T)) (L ++ [SeesA 0 sz (.slice (some ⟨w.heap.size, 0, none⟩) n n) n cs.toList]) :=
  H.new ((Keep.refl _ _).alloc _) ((SeesIn.lit w cs T sz n hs h1 hn).mono (fun k hk => by subst hk; exact .inr ⟨Nat.le_refl _, by simp⟩))
theorem HasF.nilRow (H : HasF F w0 w L) (e : TypeId) (sz : Nat) : HasF F w0 w (L ++ [OwnA 0 e sz (.slice none 0 0) 0 []]) := H.new (Keep.refl _ _) (Own.nil _ _ _ _)
theorem HasF.more {w' : World} {ps : List (Asrt 0)} (H : HasF F w0 w L) (h : HasF none_ w w' ps) : HasF F w0 w' (L ++ ps) := H.news h.old h.parts
theorem HasF.restIn {P : Program} {W0 : World} (H : HasF F w0 w L) {i n c sz : Nat} {A A' : Option Addr} {xs : List Value} {t e : TypeId} (hi : L[i]? = some (SeesA 0 sz (.slice A n c) n xs)) (ht : P.underlying t = some (.slice e)) (hsz : ∀ W : World, (sizeOf e).run P W = .ok sz W) (k : Nat) (hk : k ≤ n)
    (hr : (Instr.slice t (.slice A n c) (some (.int .i64 k)) none none).run P W0 = .ok (.slice A' (n - k) (c - k)) W0) : HasF F w0 w (L.set i (SeesA 0 sz (.slice A' (n - k) (c - k)) (n - k) (xs.drop (k * sz)))) :=
  H.imp hi (fun G h => (show SeesIn w G sz (.slice A n c) n xs from h).restAt ht hsz k hk hr)
/-- What is owned is read. -/
theorem HasF.read (H : HasF F w0 w L) {i n sz : Nat} {e : TypeId} {v : Value} {xs : List Value} (hi : L[i]? = some (OwnA 0 e sz v n xs)) : HasF F w0 w (L.set i (SeesA 0 sz v n xs)) := H.imp hi (fun G h => (show Own w G e sz v n xs from h).sees)
theorem HasF.nilSees (H : HasF F w0 w L) (sz : Nat) : HasF F w0 w (L ++ [SeesA 0 sz (.slice none 0 0) 0 []]) := H.new (Keep.refl none_ _) ((Own.nil _ none_ 0 sz).sees.mono (fun _ c => c.elim))
theorem HasF.only (H : HasF F w0 w L) {i : Nat} {P : Asrt 0} (hi : L[i]? = some P) : HasF F w0 w [P] := by
  have := H.sel [i] (by simp)
  simp only [List.map_cons, List.map_nil, hi, Option.getD_some] at this
  exact this
end
end Go.Proofs.Ytienodnkfohakaa
