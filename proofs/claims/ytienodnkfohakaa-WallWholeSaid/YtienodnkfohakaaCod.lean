import Derived.Test.YtienodnkfohakaaBase2
namespace Go.Proofs.Ytienodnkfohakaa
set_option linter.unusedVariables false
set_option linter.unusedSimpArgs false
open Go.RowKit

theorem cell_old {w : World} {p : Addr} {v : Value} (o : Obj) (h : w.cell? p = some v) : (w.alloc o).cell? p = some v :=
  (World.cell?_of_block (Below.heap_alloc _ _ _ (World.block_lt_of_cell? w p h))).trans h
/-- append by its run. -/
theorem exec_append {P : Program} {w w' : World} {ρ : Operand → Value} {o : Oper} {v' : Value} (s x : Operand) (t : TypeId) (ho : o.op = .call { callee := .builtin .append, args := #[s, x], argTypes := #[t, t] })
    (sv xv : Value) (hs : ρ s = sv) (hx : ρ x = xv) (hr : (Builtin.append_ #[t, t] o.type #[sv, xv]).run P w = .ok v' w') : (execOp ρ o).run P w = .ok (.value v') w' := by
  simp [execOp, ho, resolve, invoke, builtin, hs, hx, hr, Result.andThen]
/-- 'append(v, x)' of one element, laid into a block of its own ahead of it; v owns its cells. -/
theorem push_law {P : Program} (w : World) (t e : TypeId) (i : TypeInfo) (z : Value) (size bytes : Nat) (ht : P.underlying t = some (.slice e)) (hi : P.info? e = some i) (hz : i.zero = some z)
    (hsize : i.size = size) (hby : i.bytes = bytes) (hzs : z.cells.size = size) (hsz : 0 < size)
    (F : Nat → Prop) (cs : Array Value) (v : Value) (n : Nat) (xs : List Value) (hown : Own w F e size v n xs) (hcs : cs.size = size) (h1 : ∀ u ∈ cs.toList, u.oneCell' = true) (h63 : n + 1 ≤ maxLen) (hbytes : (n + 1) * bytes ≤ 140737488355328) (ty : TypeId) :
    ∃ g cap w', (Builtin.append_ #[t, t] ty #[v, .slice (some ⟨w.heap.size, 0, none⟩) 1 1]).run P (w.alloc (.cells cs e)) = .ok (.slice (some ⟨g, 0, none⟩) (n + 1) cap) w' ∧
      Own w' (fun q => v.ownBlock = some q ∨ q = w.heap.size + 1) e size (.slice (some ⟨g, 0, none⟩) (n + 1) cap) (n + 1) (xs ++ cs.toList) ∧ (w.alloc (.cells cs e)).grownBy w' v.ownBlock ∧ g < w'.heap.size ∧ (v.ownBlock = some g ∨ g = w.heap.size + 1) := by
  obtain ⟨g, cap, w', hr, ho, hgr, hq, hq'⟩ := run_append_lies (P := P) (w.alloc (.cells cs e)) t ty 0 e i z size bytes ht hi hz hsize hby hzs hsz v n xs (hown.1.alloc _) ⟨w.heap.size, 0, none⟩ 1 1 cs.toList (by simpa using hcs) (World.news_of_block (heap_alloc_new w _)) h1 (by omega) h63 hbytes (Nat.zero_le _) (w.heap.size + 1) (by simp)
  refine ⟨g, cap, w', hr, ⟨ho, fun q hh => ?_, fun u hu => ?_⟩, hgr, hq', hq⟩
  · simp only [Value.ownBlock, Option.some.injEq] at hh
    subst hh
    exact hq
  · rcases List.mem_append.1 hu with hu | hu
    · exact hown.2.2 u hu
    · exact h1 u hu
/-! Rows of elements of sz cells each. -/
section
variable {α : Type} {enc : α → List Value} {sz : Nat}
theorem fl_len (hs : ∀ x, (enc x).length = sz) (l : List α) : (l.flatMap enc).length = l.length * sz := by
  induction l with
  | nil => simp
  | cons y l ih => rw [List.flatMap_cons, List.length_append, ih, hs, List.length_cons, Nat.succ_mul]; omega
theorem fl_get (hs : ∀ x, (enc x).length = sz) (l : List α) : ∀ (i : Nat) (x : α), l[i]? = some x → ∀ j, j < sz → (l.flatMap enc)[i * sz + j]? = (enc x)[j]? := by
  induction l with
  | nil => intro i x h; simp at h
  | cons y l ih =>
    intro i x h j hj
    cases i with
    | zero =>
      simp only [List.getElem?_cons_zero, Option.some.injEq] at h
      subst h
      rw [List.flatMap_cons, List.getElem?_append_left (by rw [hs]; omega)]
      simp
    | succ i =>
      rw [List.getElem?_cons_succ] at h
      rw [List.flatMap_cons, List.getElem?_append_right (by rw [hs, Nat.succ_mul]; omega), hs, show (i + 1) * sz + j - sz = i * sz + j by rw [Nat.succ_mul]; omega]
      exact ih i x h j hj
theorem fl_take (hs : ∀ x, (enc x).length = sz) (l : List α) : ∀ m, (l.flatMap enc).take (m * sz) = (l.take m).flatMap enc := by
  induction l with
  | nil => intro m; simp
  | cons x l ih =>
    intro m
    cases m with
    | zero => simp
    | succ m =>
      rw [List.take_succ_cons, List.flatMap_cons, List.flatMap_cons, ← ih m, List.take_append, hs, List.take_of_length_le (by rw [hs, Nat.succ_mul]; omega)]
      congr 2
      rw [Nat.succ_mul]; omega
theorem fl_snoc (l : List α) (x : α) : (l ++ [x]).flatMap enc = l.flatMap enc ++ enc x := by simp
/-- One element's cells replaced. -/
theorem fl_set (hs : ∀ x, (enc x).length = sz) (l : List α) : ∀ (i : Nat) (x : α), i < l.length → (l.set i x).flatMap enc = (l.flatMap enc).take (i * sz) ++ enc x ++ (l.flatMap enc).drop ((i + 1) * sz) := by
  induction l with
  | nil => intro i x h; simp at h
  | cons y l ih =>
    intro i x h
    cases i with
    | zero =>
      simp only [List.set_cons_zero, List.flatMap_cons, Nat.zero_mul, List.take_zero, List.nil_append, Nat.zero_add, Nat.one_mul]
      rw [List.drop_left' (hs y)]
    | succ i =>
      have e1 : (enc y ++ l.flatMap enc).take ((i + 1) * sz) = enc y ++ (l.flatMap enc).take (i * sz) := by
        rw [List.take_append, List.take_of_length_le (l := enc y) (by rw [hs, Nat.succ_mul]; omega), hs, show (i + 1) * sz - sz = i * sz by rw [Nat.succ_mul]; omega]
      have e2 : (enc y ++ l.flatMap enc).drop ((i + 1 + 1) * sz) = (l.flatMap enc).drop ((i + 1) * sz) := by
        rw [List.drop_append, List.drop_of_length_le (l := enc y) (by rw [hs, Nat.succ_mul]; omega), hs, show (i + 1 + 1) * sz - sz = (i + 1) * sz by rw [Nat.succ_mul (i + 1)]; omega, List.nil_append]
      rw [List.set_cons_succ, List.flatMap_cons, List.flatMap_cons, ih i x (by simpa using h), e1, e2]
      simp [List.append_assoc]
theorem sees_get {w : World} {F : Nat → Prop} {v : Value} {n : Nat} {l : List α} (hs : ∀ x, (enc x).length = sz) (h : SeesIn w F sz v n (l.flatMap enc)) (hn : n = l.length) {k : Nat} {y : α} (hy : l[k]? = some y) :
    ∃ g o c, v = .slice (some ⟨g, o, none⟩) n c ∧ n ≤ c ∧ c ≤ maxLen ∧ F g ∧ g < w.heap.size ∧ ∀ j u, (enc y)[j]? = some u → w.cell? ⟨g, o + (k * sz + j), none⟩ = some u := by
  obtain ⟨A, c, rfl, h1, h2, h2', h3, h3', h4⟩ := h
  have hk : k < l.length := (List.getElem?_eq_some_iff.1 hy).1
  obtain ⟨g, o, rfl, hF, hg, hc⟩ := h4 (by omega)
  refine ⟨g, o, c, rfl, h1, h2, hF, hg, fun j u hj => hc _ _ ?_⟩
  have hjl : j < sz := by rw [← hs y]; exact (List.getElem?_eq_some_iff.1 hj).1
  rw [fl_get hs l k y hy j hjl]
  exact hj
theorem SeesIn.cut {w : World} {F : Nat → Prop} {n c : Nat} {A : Option Addr} {l : List α} (hs : ∀ x, (enc x).length = sz) (h : SeesIn w F sz (.slice A n c) n (l.flatMap enc)) (hn : n = l.length) (m : Nat) (hm : m ≤ n) : SeesIn w F sz (.slice A m c) (l.take m).length ((l.take m).flatMap enc) := by
  have := h.take m hm
  rw [fl_take hs] at this
  rw [show (l.take m).length = m by rw [List.length_take]; omega]
  exact this
end
theorem SeesIn.form {w : World} {F : Nat → Prop} {sz : Nat} {v : Value} {n : Nat} {xs : List Value} (h : SeesIn w F sz v n xs) : ∃ A c, v = .slice A n c ∧ n ≤ c ∧ c ≤ 9223372036854775807 ∧ (0 < n → A ≠ none) ∧ (A = none → n = 0 ∧ c = 0) := by
  obtain ⟨A, c, rfl, h1, h2, h2', h3, h3', h4⟩ := h
  refine ⟨A, c, rfl, h1, by unfold maxLen at h2; omega, fun hn => ?_, fun e => ?_⟩
  · obtain ⟨g, o, e, -⟩ := h4 hn
    rw [e]; simp
  · have := h2' e
    exact ⟨by omega, this⟩
/-- Where the first is that p says yes to; -1: there is none. -/
def pidx {α : Type} (l : List α) (p : α → Bool) : Int := match l.findIdx? p with | some i => i | none => -1
theorem pidx_hit {α : Type} {l : List α} {p : α → Bool} {y : α} {k : Nat} (hy : l[k]? = some y) (he : p y = true) (hx : ∀ z ∈ l.take k, p z = false) : pidx l p = k := by
  have hk : k < l.length := (List.getElem?_eq_some_iff.1 hy).1
  have : l.findIdx? p = some k := by
    rw [List.findIdx?_eq_some_iff_getElem]
    refine ⟨hk, ?_, fun j hj => ?_⟩
    · rw [(List.getElem?_eq_some_iff.1 hy).2]; exact he
    · have := hx l[j] (List.mem_take_iff_getElem.2 ⟨j, by omega, rfl⟩)
      simpa using this
  simp [pidx, this]
theorem pidx_miss {α : Type} {l : List α} {p : α → Bool} (hx : ∀ z ∈ l, p z = false) : pidx l p = -1 := by
  have : l.findIdx? p = none := by rw [List.findIdx?_eq_none_iff]; exact hx
  simp [pidx, this]
theorem pidx_ge {α : Type} (l : List α) (p : α → Bool) : decide (0 ≤ pidx l p) = l.any p := by
  unfold pidx
  cases h : l.findIdx? p with
  | none =>
    rw [List.findIdx?_eq_none_iff] at h
    have : l.any p = false := by rw [List.any_eq_false]; intro x hx; simp [h x hx]
    simp [this]
  | some i =>
    rw [List.findIdx?_eq_some_iff_getElem] at h
    obtain ⟨h1, h2, -⟩ := h
    have : l.any p = true := List.any_eq_true.2 ⟨_, List.getElem_mem h1, h2⟩
    simp [this]
theorem take_snoc_all {α : Type} {l : List α} {p : α → Bool} {k : Nat} {y : α} (hy : l[k]? = some y) (he : p y = false) (hx : ∀ z ∈ l.take k, p z = false) : ∀ z ∈ l.take (k + 1), p z = false := by
  rw [List.take_add_one, hy]
  intro z hz
  rcases List.mem_append.1 hz with hz | hz
  · exact hx z hz
  · simp at hz; rw [hz]; exact he
end Go.Proofs.Ytienodnkfohakaa
