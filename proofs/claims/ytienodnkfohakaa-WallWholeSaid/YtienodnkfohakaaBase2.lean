import Derived.Test.YtienodnkfohakaaBase
namespace Go.Proofs.Ytienodnkfohakaa
set_option linter.unusedVariables false
set_option linter.unusedSimpArgs false
open Go.RowKit

/-- min, max of two ints -/
def mn (a b : Int) : Int := if b < a then b else a
def mx (a b : Int) : Int := if a < b then b else a
theorem min2_mn (k k' : IntKind) (x y : Int) : Builtin.min2 (.int k x) (.int k' y) = pure (.int k (mn x y)) := by simp only [Builtin.min2, mn]
theorem max2_mx (k k' : IntKind) (x y : Int) : Builtin.max2 (.int k x) (.int k' y) = pure (.int k (mx x y)) := by simp only [Builtin.max2, gt_iff_lt, mx]
theorem max_two' (ats : Array TypeId) (ty : TypeId) (a b : Value) : Builtin.max_ ats ty #[a, b] = (Builtin.max2 a b >>= fun s => pure s) := by simp only [Builtin.max_, List.foldlM_cons, List.foldlM_nil]
theorem min_two' (ats : Array TypeId) (ty : TypeId) (a b : Value) : Builtin.min_ ats ty #[a, b] = (Builtin.min2 a b >>= fun s => pure s) := by simp only [Builtin.min_, List.foldlM_cons, List.foldlM_nil]
theorem mn_nat (n k : Nat) : ∃ m : Nat, mn n k = m ∧ m ≤ n ∧ m ≤ k ∧ m = Nat.min n k := by
  refine ⟨Nat.min n k, ?_, Nat.min_le_left .., Nat.min_le_right .., rfl⟩
  unfold mn
  rw [show Nat.min n k = min n k from rfl, Nat.min_def]
  split <;> split <;> omega

theorem SeesIn.take {w : World} {F : Nat → Prop} {sz n c : Nat} {A : Option Addr} {xs : List Value} (h : SeesIn w F sz (.slice A n c) n xs) (m : Nat) (hm : m ≤ n) : SeesIn w F sz (.slice A m c) m (xs.take (m * sz)) := by
  obtain ⟨A', c', e, h1, h2, h2', h3, h3', h4⟩ := h
  simp only [Value.slice.injEq, true_and] at e
  obtain ⟨rfl, rfl⟩ := e
  refine ⟨A, c, rfl, by omega, h2, h2', ?_, fun u hu => h3' u (List.mem_of_mem_take hu), fun h0 => ?_⟩
  · rw [List.length_take, h3, Nat.min_eq_left (Nat.mul_le_mul_right _ hm)]
  · obtain ⟨g, o, e, hF, hg, hc⟩ := h4 (by omega)
    refine ⟨g, o, e, hF, hg, fun j u hj => hc j u ?_⟩
    rw [List.getElem?_take] at hj
    split at hj
    · exact hj
    · simp at hj
theorem Own.store {w : World} {F : Nat → Prop} {e : TypeId} {sz n g cap : Nat} {xs : List Value} (h : Own w F e sz (.slice (some ⟨g, 0, none⟩) n cap) n xs) (j : Nat) (u : Value) (hu : u.oneCell' = true) : Own (w.setCell ⟨g, j, none⟩ u) F e sz (.slice (some ⟨g, 0, none⟩) n cap) n (xs.set j u) :=
  ⟨(h.1.stored j u).1, h.2.1, fun v hv => by rcases List.mem_or_eq_of_mem_set hv with hv | rfl; exact h.2.2 v hv; exact hu⟩
theorem Own.cell {w : World} {F : Nat → Prop} {e : TypeId} {sz n g cap : Nat} {xs : List Value} (h : Own w F e sz (.slice (some ⟨g, 0, none⟩) n cap) n xs) (j : Nat) (hj : j < n * sz) : (∃ u, w.cell? ⟨g, j, none⟩ = some u ∧ u.oneCell' = true) ∧ w.frozen? ⟨g, j, none⟩ = false := by
  have hx := h.1.1
  refine ⟨⟨xs[j]'(by omega), ?_, h.2.2 _ (List.getElem_mem _)⟩, h.1.frozenAt j⟩
  rw [h.1.cellAt j hj]
  exact List.getElem?_eq_getElem (by omega)
/-- A change that leaves this row alone. -/
theorem Own.keep {w w' : World} {F G : Nat → Prop} {e : TypeId} {sz n : Nat} {v : Value} {xs : List Value} (h : Own w F e sz v n xs) (hk : Keep G w w') (hd : ∀ q, v.ownBlock = some q → ¬ G q) : Own w' F e sz v n xs := by
  have : Own w (fun q => v.ownBlock = some q) e sz v n xs := ⟨h.1, fun g hg => hg, h.2.2⟩
  have := this.move (w' := w') (G := fun q => v.ownBlock = some q) (fun q hq hl => ⟨hq, hk.block q hl (hd q hq)⟩)
  exact ⟨this.1, h.2.1, h.2.2⟩

/-- 'append(T{}, x...)' -/
theorem wpList_clone {P : Program} {w : World} {ops : Array Oper} {rest : List Oper} {o : Oper} {a : Act} {Q : Exit → Act → World → Prop} (hgd : o.guard = none) (s x : Operand) (t : TypeId)
    (ho : o.op = .call { callee := .builtin .append, args := #[s, x], argTypes := #[t, t] })
    (e : TypeId) (i : TypeInfo) (z : Value) (size bytes : Nat) (ht : P.underlying t = some (.slice e)) (hi : P.info? e = some i) (hz : i.zero = some z)
    (hsize : i.size = size) (hby : i.bytes = bytes) (hzs : z.cells.size = size) (hsz : 0 < size)
    (F : Nat → Prop) (g : Nat) (hs : a.eval s = .slice (some ⟨g, 0, none⟩) 0 0) (hg : w.heap[g]? = some (.cells #[] e (0, 0))) (xv : Value) (hx : a.eval x = xv) (m : Nat) (news : List Value) (hsee : SeesIn w F size xv m news) (hbytes : m * bytes ≤ 140737488355328)
    (h : ∀ v' w', Own w' (fun k => k = g ∨ (w.heap.size ≤ k ∧ k < w'.heap.size)) e size v' m news → w.grownBy w' (some g) → v' ≠ .slice none 0 0 → wpList P ops Q rest (a.put o.dst v') w') : wpList P ops Q (o :: rest) a w := by
  obtain ⟨v', w', hr, h1, h2, h3⟩ := clone_law (P := P) w t e i z size bytes ht hi hz hsize hby hzs hsz F g hg xv m news hsee hbytes o.type
  exact wpList_append_run hgd s x t ho _ _ hs hx v' w' hr (h v' w' h1 h2 h3)

/-- 'append(v, x)' of one element, laid into a block of its own ahead of it; v owns its cells. -/
theorem wpList_push {P : Program} {w : World} {ops : Array Oper} {rest : List Oper} {o : Oper} {a : Act} {Q : Exit → Act → World → Prop} (hgd : o.guard = none) (s x : Operand) (t : TypeId)
    (ho : o.op = .call { callee := .builtin .append, args := #[s, x], argTypes := #[t, t] })
    (e : TypeId) (i : TypeInfo) (z : Value) (size bytes : Nat) (ht : P.underlying t = some (.slice e)) (hi : P.info? e = some i) (hz : i.zero = some z)
    (hsize : i.size = size) (hby : i.bytes = bytes) (hzs : z.cells.size = size) (hsz : 0 < size)
    (F : Nat → Prop) (cs : Array Value) (v : Value) (n : Nat) (xs : List Value) (hs : a.eval s = v) (hown : Own w F e size v n xs)
    (hx : a.eval x = .slice (some ⟨w.heap.size, 0, none⟩) 1 1) (hcs : cs.size = size) (h1 : ∀ u ∈ cs.toList, u.oneCell' = true)
    (h63 : n + 1 ≤ maxLen) (hbytes : (n + 1) * bytes ≤ 140737488355328)
    (h : ∀ g cap w', Own w' (fun q => v.ownBlock = some q ∨ q = w.heap.size + 1) e size (.slice (some ⟨g, 0, none⟩) (n + 1) cap) (n + 1) (xs ++ cs.toList) → (w.alloc (.cells cs e)).grownBy w' v.ownBlock → g < w'.heap.size → wpList P ops Q rest (a.put o.dst (.slice (some ⟨g, 0, none⟩) (n + 1) cap)) w') : wpList P ops Q (o :: rest) a (w.alloc (.cells cs e)) := by
  refine wpList_append_lies (w.alloc (.cells cs e)) hgd s x t ho 0 e i z size bytes ht hi hz hsize hby hzs hsz v n xs hs (hown.1.alloc _) ⟨w.heap.size, 0, none⟩ 1 1 cs.toList hx (by simpa using hcs) (World.news_of_block (heap_alloc_new w _)) h1 (by omega) h63 hbytes (Nat.zero_le _) (w.heap.size + 1) (by simp) (fun g cap w' ho' hg hat hlt => h g cap w' ⟨ho', fun q hq => ?_, fun u hu => ?_⟩ hg hlt)
  · simp only [Value.ownBlock, Option.some.injEq] at hq
    subst hq
    exact hat
  · rcases List.mem_append.1 hu with hu | hu
    · exact hown.2.2 u hu
    · exact h1 u hu
/-- What is grown, said with Keep. -/
theorem Keep.pushed {F : Nat → Prop} {a w w' : World} {o : Obj} {row : Option Nat} (h : Keep F a w) (hg : (w.alloc o).grownBy w' row) (hr : ∀ k, row = some k → a.heap.size ≤ k ∨ F k) : Keep F a w' := (h.alloc o).grown hg hr
theorem Own.pushed {w w' : World} {F : Nat → Prop} {e : TypeId} {sz n : Nat} {v : Value} {xs : List Value} (h : Own w F e sz v n xs) {o : Obj} {row : Option Nat} (hg : (w.alloc o).grownBy w' row) (hr : ∀ q, row = some q → v.ownBlock ≠ some q) : Own w' F e sz v n xs :=
  (h.move (G := F) (fun k hk hl => ⟨hk, Below.heap_alloc _ _ _ hl⟩)).grown hg hr
end Go.Proofs.Ytienodnkfohakaa
