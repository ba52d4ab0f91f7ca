import Derived.Test.YtienodnkfohakaaChecked
import Derived.WalkKit
import Derived.Deep.LoopGhost
import Derived.Deep.AppendLies
import Derived.Deep.RegionLaw
import Derived.Lib.Hide
import Derived.WalkSpells
import Derived.Laws.StructEq
import Derived.Deep.Quiet
import Derived.Deep.RegionWith
import Derived.Deep.RegionHeld3
import Derived.Deep.QuietTactic
import Derived.BigQuiet
namespace Go.Proofs.Ytienodnkfohakaa
set_option linter.unusedVariables false
set_option linter.unusedSimpArgs false
open Go.RowKit

/-- All that lay in w outside F is as it was in w'. -/
structure Keep (F : Nat → Prop) (w w' : World) : Prop where
  os : w'.os = w.os
  tape : w'.tape = w.tape
  output : w'.output = w.output
  size : w.heap.size ≤ w'.heap.size
  block : ∀ k, k < w.heap.size → ¬ F k → w'.heap[k]? = w.heap[k]?

def none_ : Nat → Prop := fun _ => False
/-- F, and what is new in w'. -/
def fresh (F : Nat → Prop) (w w' : World) : Nat → Prop := fun k => F k ∨ (w.heap.size ≤ k ∧ k < w'.heap.size)

theorem Keep.refl (F : Nat → Prop) (w : World) : Keep F w w := ⟨rfl, rfl, rfl, Nat.le_refl _, fun _ _ _ => rfl⟩
theorem Keep.trans {F : Nat → Prop} {a b c : World} (h : Keep F a b) (k : Keep (fun q => F q ∨ a.heap.size ≤ q) b c) : Keep F a c :=
  ⟨k.os.trans h.os, k.tape.trans h.tape, k.output.trans h.output, Nat.le_trans h.size k.size, fun q hq hf => (k.block q (Nat.lt_of_lt_of_le hq h.size) (by rintro (c | c); exact hf c; omega)).trans (h.block q hq hf)⟩
theorem Keep.mono {F G : Nat → Prop} {a b : World} (h : Keep F a b) (hs : ∀ k, F k → G k) : Keep G a b :=
  ⟨h.os, h.tape, h.output, h.size, fun q hq hf => h.block q hq (fun c => hf (hs q c))⟩
theorem Keep.drew {F : Nat → Prop} {a b : World} (h : Keep F a b) : Keep F a b.drew := ⟨h.os, h.tape, h.output, h.size, h.block⟩
theorem Keep.drewN {F : Nat → Prop} {a b : World} (h : Keep F a b) (n : Nat) : Keep F a (b.drewN n) := ⟨h.os, h.tape, h.output, h.size, h.block⟩
theorem Keep.alloc {F : Nat → Prop} {a b : World} (h : Keep F a b) (o : Obj) : Keep F a (b.alloc o) :=
  ⟨h.os, h.tape, h.output, Nat.le_trans h.size (by simp), fun q hq hf => (Below.heap_alloc b o q (Nat.lt_of_lt_of_le hq h.size)).trans (h.block q hq hf)⟩
theorem Keep.setCell {F : Nat → Prop} {a b : World} (h : Keep F a b) {p : Addr} (hp : a.heap.size ≤ p.block ∨ F p.block) (u : Value) : Keep F a (b.setCell p u) :=
  ⟨h.os, h.tape, h.output, Nat.le_trans h.size (by simp), fun q hq hf => (Below.heap_setCell b p u q (by rintro rfl; rcases hp with hp | hp; omega; exact hf hp)).trans (h.block q hq hf)⟩
theorem Keep.grown {F : Nat → Prop} {a b c : World} (h : Keep F a b) {row : Option Nat} (hg : b.grownBy c row) (hr : ∀ k, row = some k → a.heap.size ≤ k ∨ F k) : Keep F a c :=
  ⟨hg.os.trans h.os, hg.tape.trans h.tape, hg.output.trans h.output, Nat.le_trans h.size hg.size, fun q hq hf => (hg.block q (Nat.lt_of_lt_of_le hq h.size) (fun e => by rcases hr q e.symm with c | c; omega; exact hf c)).trans (h.block q hq hf)⟩
theorem Keep.below {w w' : World} (h : Keep none_ w w') : Below w.heap.size w w' := ⟨h.os, h.tape, h.output, h.size, fun k hk => h.block k hk (fun c => c)⟩
theorem Keep.cell {F : Nat → Prop} {w w' : World} (h : Keep F w w') {p : Addr} (hp : p.block < w.heap.size) (hf : ¬ F p.block) : w'.cell? p = w.cell? p := World.cell?_of_block (h.block _ hp hf)
theorem Keep.next {a b c : World} (h : Keep none_ a b) (k : Keep none_ b c) : Keep none_ a c := h.trans (k.mono fun _ q => q.elim)
theorem Keep.none {F : Nat → Prop} {w w' : World} (h : Keep none_ w w') : Keep F w w' := h.mono (fun _ c => False.elim c)

/-- A slice value of n elements of sz cells each that is read; it lies in F. -/
def SeesIn (w : World) (F : Nat → Prop) (sz : Nat) (v : Value) (n : Nat) (xs : List Value) : Prop :=
  ∃ A c, v = .slice A n c ∧ n ≤ c ∧ c ≤ maxLen ∧ (A = none → c = 0) ∧ xs.length = n * sz ∧ (∀ u ∈ xs, u.oneCell' = true) ∧ (0 < n → ∃ g o, A = some ⟨g, o, none⟩ ∧ F g ∧ g < w.heap.size ∧ ∀ j u, xs[j]? = some u → w.cell? ⟨g, o + j, none⟩ = some u)

theorem SeesIn.move {w w' : World} {F G : Nat → Prop} {sz n : Nat} {v : Value} {xs : List Value} (h : SeesIn w F sz v n xs) (hs : w.heap.size ≤ w'.heap.size) (hk : ∀ k, F k → k < w.heap.size → G k ∧ w'.heap[k]? = w.heap[k]?) : SeesIn w' G sz v n xs := by
  obtain ⟨A, c, rfl, h1, h2, h2', h3, h3', h4⟩ := h
  refine ⟨A, c, rfl, h1, h2, h2', h3, h3', fun hn => ?_⟩
  obtain ⟨g, o, rfl, hF, hg, hc⟩ := h4 hn
  exact ⟨g, o, rfl, (hk g hF hg).1, by omega, fun j u hj => (World.cell?_of_block (hk g hF hg).2).trans (hc j u hj)⟩

/-- A slice value that owns its cells; they lie in F. -/
def Own (w : World) (F : Nat → Prop) (e : TypeId) (sz : Nat) (v : Value) (n : Nat) (xs : List Value) : Prop :=
  w.ownsRow 0 e sz v n xs ∧ (∀ g, v.ownBlock = some g → F g) ∧ (∀ u ∈ xs, u.oneCell' = true)

theorem Own.lt {w : World} {F : Nat → Prop} {e : TypeId} {sz n : Nat} {v : Value} {xs : List Value} (h : Own w F e sz v n xs) {g : Nat} (hg : v.ownBlock = some g) : g < w.heap.size := (h.1.lt g hg).2
theorem Own.move {w w' : World} {F G : Nat → Prop} {e : TypeId} {sz n : Nat} {v : Value} {xs : List Value} (h : Own w F e sz v n xs) (hk : ∀ k, F k → k < w.heap.size → G k ∧ w'.heap[k]? = w.heap[k]?) : Own w' G e sz v n xs := by
  refine ⟨⟨h.1.1, ?_⟩, fun g hg => (hk g (h.2.1 g hg) (h.lt hg)).1, h.2.2⟩
  rcases h.1.2 with ⟨rfl, rfl⟩ | ⟨g, cap, cur, rfl, h1, h2, h3⟩
  · exact .inl ⟨rfl, rfl⟩
  · exact .inr ⟨g, cap, cur, rfl, h1, ((hk g (h.2.1 g rfl) (lt_of_block h2)).2).trans h2, h3⟩
theorem Own.sees {w : World} {F : Nat → Prop} {e : TypeId} {sz n : Nat} {v : Value} {xs : List Value} (h : Own w F e sz v n xs) : SeesIn w F sz v n xs := by
  obtain ⟨h1, h2, h3⟩ := h
  have h1' := h1
  rcases h1.2 with ⟨rfl, rfl⟩ | ⟨g, cap, cur, rfl, hg0, hg, hn, hc, hcs, ht⟩
  · exact ⟨_, _, rfl, Nat.le_refl _, by simp [maxLen], fun _ => rfl, h1.1, h3, fun h => absurd h (by omega)⟩
  · refine ⟨_, _, rfl, hn, hc, (fun h => by simp at h), h1.1, h3, fun _ => ⟨g, 0, rfl, h2 g rfl, lt_of_block hg, fun j u hj => ?_⟩⟩
    have hj' : j < n * sz := by rw [← h1.1]; exact (List.getElem?_eq_some_iff.1 hj).1
    rw [Nat.zero_add, h1'.cellAt j hj']
    exact hj
theorem Own.nil (w : World) (F : Nat → Prop) (e : TypeId) (sz : Nat) : Own w F e sz (.slice none 0 0) 0 [] := ⟨World.ownsRow_nil w 0 e sz, (fun g hg => by simp [Value.ownBlock] at hg), by simp⟩
/-- What owns some elements. -/
theorem Own.form {w : World} {F : Nat → Prop} {e : TypeId} {sz n : Nat} {v : Value} {xs : List Value} (h : Own w F e sz v n xs) (hn : 0 < n) : ∃ g c, v = .slice (some ⟨g, 0, none⟩) n c ∧ F g ∧ g < w.heap.size ∧ n ≤ c ∧ c ≤ maxLen := by
  rcases h.1.2 with ⟨rfl, rfl⟩ | ⟨g, cap, cur, rfl, hg0, hg, hnc, hc, hcs, ht⟩
  · omega
  · exact ⟨g, cap, rfl, h.2.1 g rfl, lt_of_block hg, hnc, hc⟩
theorem Own.len {w : World} {F : Nat → Prop} {e : TypeId} {sz n : Nat} {v : Value} {xs : List Value} (h : Own w F e sz v n xs) : ∃ A c, v = .slice A n c ∧ n ≤ c ∧ c ≤ maxLen := by
  obtain ⟨A, c, h1, h2, h3, -⟩ := h.sees
  exact ⟨A, c, h1, h2, h3⟩

theorem Own.ne {w : World} {F : Nat → Prop} {e : TypeId} {sz n : Nat} {v : Value} {xs : List Value} (h : Own w F e sz v n xs) {b : Nat} {cs : Array Value} {t : TypeId} {fr : Nat × Nat} (hb : w.heap[b]? = some (.cells cs t fr)) (ht : e ≠ t) : v.ownBlock ≠ some b := by
  rcases h.1.2 with ⟨rfl, rfl⟩ | ⟨g, cap, cur, rfl, hg0, hg, hnc⟩
  · simp [Value.ownBlock]
  · intro he
    simp only [Value.ownBlock, Option.some.injEq] at he
    subst he
    rw [hb] at hg
    simp at hg
    exact ht hg.2.1.symm
theorem Own.setCell {w : World} {F : Nat → Prop} {e : TypeId} {sz n : Nat} {v : Value} {xs : List Value} (h : Own w F e sz v n xs) {a : Addr} (ha : v.ownBlock ≠ some a.block) (u : Value) : Own (w.setCell a u) F e sz v n xs :=
  ⟨ownsRow_setCell_other h.1 ha u, h.2⟩

theorem Own.apart {w : World} {F G : Nat → Prop} {e e' : TypeId} {sz sz' n n' : Nat} {v v' : Value} {xs xs' : List Value} (h : Own w F e sz v n xs) (h' : Own w G e' sz' v' n' xs') (ht : e ≠ e') : ∀ q, v'.ownBlock = some q → v.ownBlock ≠ some q := by
  intro q hq
  rcases h'.1.2 with ⟨rfl, rfl⟩ | ⟨g, cap, cur, rfl, hg0, hg, hnc⟩
  · simp [Value.ownBlock] at hq
  · simp only [Value.ownBlock, Option.some.injEq] at hq
    subst hq
    exact h.ne hg ht
theorem Own.grown {w w' : World} {F : Nat → Prop} {e : TypeId} {sz n : Nat} {v : Value} {xs : List Value} (h : Own w F e sz v n xs) {row : Option Nat} (hg : w.grownBy w' row) (hr : ∀ q, row = some q → v.ownBlock ≠ some q) : Own w' F e sz v n xs :=
  ⟨h.1.kept hg (by rcases hv : v.ownBlock with _ | q; exact .inl rfl; exact .inr (fun e => hr q e.symm hv)), h.2⟩

def ints (k : IntKind) (l : List Int) : List Value := l.map (.int k)
theorem ints_len (k : IntKind) (l : List Int) : (ints k l).length = l.length := by simp [ints]
theorem ints_one (k : IntKind) (l : List Int) : ∀ u ∈ ints k l, u.oneCell' = true := by
  intro u hu
  obtain ⟨x, _, rfl⟩ := List.mem_map.1 hu
  rfl

/-- 'append(E{}, s...)': what a Clone does where s is not nil. -/
theorem clone_law {P : Program} (w : World) (t e : TypeId) (i : TypeInfo) (z : Value) (size bytes : Nat) (ht : P.underlying t = some (.slice e)) (hi : P.info? e = some i) (hz : i.zero = some z)
    (hsize : i.size = size) (hby : i.bytes = bytes) (hzs : z.cells.size = size) (hsz : 0 < size)
    (F : Nat → Prop) (g : Nat) (hg : w.heap[g]? = some (.cells #[] e (0, 0))) (x : Value) (m : Nat) (news : List Value) (hx : SeesIn w F size x m news) (hbytes : m * bytes ≤ 140737488355328) (ty : TypeId) :
    ∃ v' w', (Builtin.append_ #[t, t] ty #[.slice (some ⟨g, 0, none⟩) 0 0, x]).run P w = .ok v' w' ∧ Own w' (fun k => k = g ∨ (w.heap.size ≤ k ∧ k < w'.heap.size)) e size v' m news ∧ w.grownBy w' (some g) ∧ v' ≠ .slice none 0 0 := by
  obtain ⟨A, c, rfl, h1, h2, h2', h3, h3', h4⟩ := hx
  have hown : w.ownsRow 0 e size (.slice (some ⟨g, 0, none⟩) 0 0) 0 [] := ⟨by simp, .inr ⟨g, 0, #[], rfl, Nat.zero_le _, hg, Nat.le_refl _, by simp, by simp, by simp⟩⟩
  by_cases hm : 0 < m
  · obtain ⟨g', o, rfl, hF, hg', hc⟩ := h4 hm
    obtain ⟨q, cap, w', hr, ho, hgr, hq, hq'⟩ := run_append_lies (P := P) w t ty 0 e i z size bytes ht hi hz hsize hby hzs hsz _ 0 [] hown ⟨g', o, none⟩ m c news h3 (fun j u hj => by rw [Addr.add_lit]; exact hc j u hj) h3' hm (by unfold maxLen at *; omega) (by simpa using hbytes) (Nat.zero_le _) _ rfl
    refine ⟨_, w', hr, ⟨by simpa using ho, fun k hk => ?_, by simpa using h3'⟩, hgr, by simp⟩
    simp only [Value.ownBlock, Option.some.injEq] at hk hq
    subst hk
    rcases hq with rfl | rfl
    · exact .inl rfl
    · exact .inr ⟨Nat.le_refl _, hq'⟩
  · obtain rfl : m = 0 := by omega
    have hn : news = [] := List.eq_nil_of_length_eq_zero (by simpa using h3)
    subst hn
    refine ⟨_, w, ?_, ⟨hown, fun k hk => ?_, by simp⟩, ⟨rfl, rfl, rfl, Nat.le_refl _, fun _ _ _ => rfl⟩, by simp⟩
    · cases A with
      | none => exact run_append_owned_none w 0 t ty e i size ht hi _ 0 [] hown |>.trans (by rfl) |> (by rw [h2' rfl]; exact ·)
      | some a => simp [Builtin.append_, run_underlying ht, sizeOf, typeInfo, hi, Builtin.lenOf, Builtin.firstCells, loadCells, loadCellsFrom, storeCells]
    · simp only [Value.ownBlock, Option.some.injEq] at hk
      exact .inl hk.symm

theorem cell_far {w : World} {a b : Addr} {u : Value} (h : b.block ≠ a.block) : (w.setCell a u).cell? b = w.cell? b := World.cell?_of_block (Below.heap_setCell w a u _ h)
/-- append by its run. -/
theorem wpList_append_run {P : Program} {w : World} {ops : Array Oper} {rest : List Oper} {o : Oper} {a : Act} {Q : Exit → Act → World → Prop} (hgd : o.guard = none) (s x : Operand) (t : TypeId)
    (ho : o.op = .call { callee := .builtin .append, args := #[s, x], argTypes := #[t, t] })
    (sv xv : Value) (hs : a.eval s = sv) (hx : a.eval x = xv) (v' : Value) (w' : World) (hr : (Builtin.append_ #[t, t] o.type #[sv, xv]).run P w = .ok v' w')
    (h : wpList P ops Q rest (a.put o.dst v') w') : wpList P ops Q (o :: rest) a w := by
  refine wpList_plain hgd fun K hK => ?_
  unfold Oper.wp
  simp [execOp, ho, resolve, invoke, builtin, hs, hx, hr, Result.andThen]
  exact hK _ _ h

/-- What owns a row, known by its block: a row cut and moved together in place. -/
theorem Own.setRow {w : World} {F : Nat → Prop} {e : TypeId} {sz n : Nat} {g cap : Nat} {xs : List Value} (h : Own w F e sz (.slice (some ⟨g, 0, none⟩) n cap) n xs) (cs : List Value) (n' : Nat) (ys : List Value) (hn : n' ≤ cap) (hl : cs.length = cap * sz) (hy : ys.length = n' * sz) (ht : cs.take (n' * sz) = ys) (h1 : ∀ u ∈ ys, u.oneCell' = true) :
    Own (w.setRow g cs.toArray) F e sz (.slice (some ⟨g, 0, none⟩) n' cap) n' ys ∧ w.grownBy (w.setRow g cs.toArray) (some g) := by
  rcases h.1.2 with ⟨h', _⟩ | ⟨g', cap', cur, h', hb, hg, hnc, hcm, hcs, htake⟩
  · simp at h'
  · simp only [Value.slice.injEq, Option.some.injEq, Addr.mk.injEq, and_true, true_and] at h'
    obtain ⟨rfl, rfl⟩ := h'
    exact ⟨⟨⟨hy, .inr ⟨g, cap, cs.toArray, rfl, hb, setRow_heap w g cur _ e _ hg, hn, hcm, by simpa using hl, by simpa using ht⟩⟩, fun q hq => h.2.1 q (by simpa [Value.ownBlock] using hq), h1⟩,
      ⟨rfl, rfl, rfl, by simp, fun k _ hk => setRow_other w g k _ (fun e => hk (by simp [e]))⟩⟩
theorem Own.block {w : World} {F : Nat → Prop} {e : TypeId} {sz n : Nat} {g cap : Nat} {xs : List Value} (h : Own w F e sz (.slice (some ⟨g, 0, none⟩) n cap) n xs) : ∃ cur : Array Value, w.heap[g]? = some (.cells cur e (0, 0)) ∧ n ≤ cap ∧ cap ≤ maxLen ∧ cur.size = cap * sz ∧ cur.toList.take (n * sz) = xs := by
  rcases h.1.2 with ⟨h', _⟩ | ⟨g', cap', cur, h', hb, hg, hnc, hcm, hcs, htake⟩
  · simp at h'
  · simp only [Value.slice.injEq, Option.some.injEq, Addr.mk.injEq, and_true, true_and] at h'
    obtain ⟨rfl, rfl⟩ := h'
    exact ⟨cur, hg, hnc, hcm, hcs, htake⟩
theorem zeroCells_len (z : Array Value) (n : Nat) : (Builtin.zeroCells z n).toList.length = n * z.size := by simp [Builtin.zeroCells]

/-- 'append(s[:i], s[j:]...)' where s owns its cells. -/
theorem del_append {P : Program} {w : World} {F : Nat → Prop} {t e : TypeId} {i0 : TypeInfo} {sz n : Nat} {g cap : Nat} {xs : List Value} (ht : P.underlying t = some (.slice e)) (hi : P.info? e = some i0) (hsz : i0.size = sz) (h0 : 0 < sz)
    (h : Own w F e sz (.slice (some ⟨g, 0, none⟩) n cap) n xs) (i j : Nat) (hij : i ≤ j) (hj : j ≤ n) (A : Addr) (hA : A = if cap = j then ⟨g, 0, none⟩ else ⟨g, j * sz, none⟩) (ty : TypeId) :
    ∃ w', (Builtin.append_ #[t, t] ty #[.slice (some ⟨g, 0, none⟩) i cap, .slice (some A) (n - j) (cap - j)]).run P w = .ok (.slice (some ⟨g, 0, none⟩) (i + (n - j)) cap) w' ∧ Own w' F e sz (.slice (some ⟨g, 0, none⟩) (i + (n - j)) cap) (i + (n - j)) (xs.take (i * sz) ++ xs.drop (j * sz)) ∧ w.grownBy w' (some g) := by
  subst hsz
  obtain ⟨cur, hg, hnc, hcm, hcs, htake⟩ := h.block
  have hx := h.1.1
  have hle1 : i * i0.size ≤ j * i0.size := Nat.mul_le_mul_right _ hij
  have hle2 : j * i0.size ≤ n * i0.size := Nat.mul_le_mul_right _ hj
  have hle3 : n * i0.size ≤ cap * i0.size := Nat.mul_le_mul_right _ hnc
  have hlen : (xs.drop (j * i0.size)).length = (n - j) * i0.size := by rw [List.length_drop, hx, Nat.sub_mul]
  have hnews : ∀ q u, (xs.drop (j * i0.size))[q]? = some u → w.cell? (A.add q) = some u := by
    intro q u hq
    have hql : q < (xs.drop (j * i0.size)).length := (List.getElem?_eq_some_iff.1 hq).1
    have hjc : ¬ cap = j := by
      intro hc
      rw [hlen] at hql
      have : n - j = 0 := by omega
      rw [this] at hql
      omega
    rw [hA, if_neg hjc, Addr.add_lit, cell_of_row w g _ cur e (0, 0) hg]
    rw [List.getElem?_drop, ← htake, List.getElem?_take] at hq
    split at hq
    · simpa using hq
    · simp at hq
  have hr := run_append_room (P := P) w t ty e i0 ht hi g i cap cur hg A (n - j) (cap - j) (xs.drop (j * i0.size)) hlen hnews (fun u hu => h.2.2 u (List.mem_of_mem_drop hu)) (by omega) (by rw [hlen, hcs, Nat.sub_mul]; omega)
  have hti : cur.toList.take (i * i0.size) = xs.take (i * i0.size) := by rw [← htake, List.take_take, Nat.min_eq_left (by omega)]
  have hl1 : (xs.take (i * i0.size)).length = i * i0.size := by rw [List.length_take, hx]; omega
  have hle4 : i * i0.size + (n - j) * i0.size = (i + (n - j)) * i0.size := by rw [Nat.add_mul]
  have hle5 : (n - j) * i0.size = n * i0.size - j * i0.size := Nat.sub_mul _ _ _
  have := h.setRow (cur.toList.take (i * i0.size) ++ xs.drop (j * i0.size) ++ cur.toList.drop (i * i0.size + (xs.drop (j * i0.size)).length)) (i + (n - j)) (xs.take (i * i0.size) ++ xs.drop (j * i0.size)) (by omega)
    (by simp only [List.length_append, List.length_take, List.length_drop, Array.length_toList, hx, hcs]; omega)
    (by rw [List.length_append, hl1, hlen, hle4])
    (by rw [hti, ← hle4]; exact List.take_left' (by rw [List.length_append, hl1, hlen]))
    (fun u hu => by rcases List.mem_append.1 hu with hu | hu; exact h.2.2 u (List.mem_of_mem_take hu); exact h.2.2 u (List.mem_of_mem_drop hu))
  exact ⟨_, hr, this.1, this.2⟩

/-- 'clear(s[k:m])', s owns its cells, and has k of them. -/
theorem del_clear {P : Program} {w : World} {F : Nat → Prop} {t e : TypeId} {z : Value} {sz k : Nat} {g cap : Nat} {xs : List Value} (ht : P.underlying t = some (.slice e)) (hv : ∀ w, (zeroValue e).run P w = .ok z w) (hz : z.cells.size = sz) (hz1 : ∀ m, ∀ u ∈ (Builtin.zeroCells z.cells m).toList, u.oneCell' = true)
    (h : Own w F e sz (.slice (some ⟨g, 0, none⟩) k cap) k xs) (m : Nat) (hm : k + m ≤ cap) (c : Nat) (ty : TypeId) :
    ∃ w', (Builtin.clear_ #[t] ty #[.slice (some ⟨g, k * sz, none⟩) m c]).run P w = .ok (.tuple #[]) w' ∧ Own w' F e sz (.slice (some ⟨g, 0, none⟩) k cap) k xs ∧ w.grownBy w' (some g) := by
  obtain ⟨cur, hg, hnc, hcm, hcs, htake⟩ := h.block
  have hx := h.1.1
  have hle : k * sz + m * sz ≤ cap * sz := by rw [← Nat.add_mul]; exact Nat.mul_le_mul_right _ hm
  cases m with
  | zero =>
    refine ⟨w, ?_, h, ⟨rfl, rfl, rfl, Nat.le_refl _, fun _ _ _ => rfl⟩⟩
    simp [Builtin.clear_, run_underlying ht]
  | succ m =>
    have hst := run_storeCells_at P g (k * sz) e (Builtin.zeroCells z.cells (m + 1)).toList 0 cur w hg (by rw [zeroCells_len, hz, hcs]; omega) (hz1 _)
    simp only [Nat.add_zero] at hst
    have := h.setRow (cur.toList.take (k * sz) ++ (Builtin.zeroCells z.cells (m + 1)).toList ++ cur.toList.drop (k * sz + (Builtin.zeroCells z.cells (m + 1)).toList.length)) k xs hnc
      (by have hzl := zeroCells_len z.cells (m + 1); rw [hz] at hzl; simp only [List.length_append, List.length_take, List.length_drop, hzl]; rw [Array.length_toList, hcs]; omega) hx
      (by rw [htake, List.append_assoc]; exact List.take_left' hx) h.2.2
    refine ⟨_, ?_, this.1, this.2⟩
    simp [Builtin.clear_, run_underlying ht, hv, hst]

/-- append by its run, at a step of a region that draws its order. -/
theorem step_append_run {P : Program} {w : World} {ops : Array Oper} {o : Oper} {a : Act} {K : Act → World → Prop} {Q : Exit → Act → World → Prop} {E : Prop} (hgd : o.guard = none) (s x : Operand) (t : TypeId)
    (ho : o.op = .call { callee := .builtin .append, args := #[s, x], argTypes := #[t, t] })
    (sv xv : Value) (hs : a.eval s = sv) (hx : a.eval x = xv) (v' : Value) (w' : World) (hr : (Builtin.append_ #[t, t] o.type #[sv, xv]).run P w = .ok v' w')
    (h : K (a.put o.dst v') w') : if Region.wanted o (yielded ops a.tmps) = true then Oper.wp P o a w K Q else E := by
  have hw : Region.wanted o (yielded ops a.tmps) = true := by simp [Region.wanted, hgd]
  rw [if_pos hw]
  unfold Oper.wp
  simp [execOp, ho, resolve, invoke, builtin, hs, hx, hr, Result.andThen]
  exact h
/-- clear by its run. -/
theorem wpList_clear_run {P : Program} {w : World} {ops : Array Oper} {rest : List Oper} {o : Oper} {a : Act} {Q : Exit → Act → World → Prop} (hgd : o.guard = none) (s : Operand) (t : TypeId)
    (ho : o.op = .call { callee := .builtin .clear, args := #[s], argTypes := #[t] })
    (sv : Value) (hs : a.eval s = sv) (v' : Value) (w' : World) (hr : (Builtin.clear_ #[t] o.type #[sv]).run P w = .ok v' w')
    (h : wpList P ops Q rest (a.put o.dst v') w') : wpList P ops Q (o :: rest) a w := by
  refine wpList_plain hgd fun K hK => ?_
  unfold Oper.wp
  simp [execOp, ho, resolve, invoke, builtin, hs, hr, Result.andThen]
  exact hK _ _ h

/-! '==' of structs -/
section
variable {P : Program} {d : Nat} {xs ys : Array Value} {f : Field} {fs : List Field} {a b : Value} {r s : Bool} {w : World}
theorem fld_last (hn : (f.name == "_") = false) (ha : (part f.type xs f.offset).run P w = .ok a w) (hb : (part f.type ys f.offset).run P w = .ok b w) (he : (Op.equalIn d f.type a b).run P w = .ok r w) : (Op.eqFields d xs ys [f]).run P w = .ok r w := by
  have hn' : f.name ≠ "_" := by simpa using hn
  simp only [Op.eqFields, if_pos hn', Sem.run_bind, ha, hb, he, Result.andThen_ok]
  cases r <;> simp
theorem fld_cons (hn : (f.name == "_") = false) (ha : (part f.type xs f.offset).run P w = .ok a w) (hb : (part f.type ys f.offset).run P w = .ok b w) (he : (Op.equalIn d f.type a b).run P w = .ok r w) (hr : (Op.eqFields d xs ys fs).run P w = .ok s w) : (Op.eqFields d xs ys (f :: fs)).run P w = .ok (r && s) w := by
  have hn' : f.name ≠ "_" := by simpa using hn
  rw [Op.eqFields]
  simp only [if_pos hn', Sem.run_bind, ha, hb, he, Result.andThen_ok]
  cases r
  · simp
  · simpa using hr
theorem eql_of {t : TypeId} {fs : Array Field} (hu : P.underlying t = some (.struct fs)) (hp : P.stoodInHeld t = false) (h : (Op.eqFields 9999 xs ys fs.toList).run P w = .ok r w) : (binOp .eql t (.agg xs) (.agg ys)).run P w = .ok (.bool r) w := by
  have hf : P.fieldsOf t = fs := by simp [Program.fieldsOf, hu]
  rw [run_eql_struct, run_equalIn_struct w 9999 t xs ys (by rw [hf]; exact hu) hp, hf, h]
  rfl
theorem neq_of {t : TypeId} {fs : Array Field} (hu : P.underlying t = some (.struct fs)) (hp : P.stoodInHeld t = false) (h : (Op.eqFields 9999 xs ys fs.toList).run P w = .ok r w) : (binOp .neq t (.agg xs) (.agg ys)).run P w = .ok (.bool (!r)) w := by
  have hf : P.fieldsOf t = fs := by simp [Program.fieldsOf, hu]
  rw [run_neq_struct, run_equalIn_struct w 9999 t xs ys (by rw [hf]; exact hu) hp, hf, h]
  rfl
end

theorem box_keep {F : Nat → Prop} {w w' : World} {b : Nat} {o : Obj} (hb : w.heap[b]? = some o) (hF : ¬ F b) (hk : Keep F w w') : w'.heap[b]? = some o ∧ ¬ fresh F w w' b :=
  ⟨(hk.block b (lt_of_block hb) hF).trans hb, by rintro (c | c); exact hF c; have := lt_of_block hb; omega⟩
/-- A literal 'T{..}'. -/
theorem SeesIn.lit (w : World) (cs : Array Value) (T : TypeId) (sz n : Nat) (hs : cs.size = n * sz) (h1 : ∀ u ∈ cs.toList, u.oneCell' = true) (hn : n ≤ maxLen) : SeesIn (w.alloc (.cells cs T)) (fun k => k = w.heap.size) sz (.slice (some ⟨w.heap.size, 0, none⟩) n n) n cs.toList :=
  ⟨_, _, rfl, Nat.le_refl _, hn, (fun h => by simp at h), by simpa using hs, h1, fun _ => ⟨w.heap.size, 0, rfl, rfl, by simp, fun j u hj => by
    have hb : (w.alloc (.cells cs T)).heap[w.heap.size]? = some (.cells cs T (0, 0)) := heap_alloc_new _ _
    rw [Nat.zero_add, cell_of_row _ _ j cs T (0, 0) hb]
    simpa using hj⟩⟩

/-- All from n on but the blocks of B. -/
def out (B : List Nat) (n : Nat) : Nat → Prop := fun k => n ≤ k ∧ k ∉ B
theorem out_fresh {B : List Nat} {n : Nat} {w w' : World} (hn : n ≤ w.heap.size) (hB : ∀ b ∈ B, b < w.heap.size) {k : Nat} (h : fresh (out B n) w w' k) : out B n k := by
  rcases h with h | h
  · exact h
  · exact ⟨by omega, fun c => by have := hB k c; omega⟩
theorem Keep.out {B : List Nat} {w0 w w' : World} (h : Keep none_ w0 w) (k : Keep (out B w0.heap.size) w w') : Keep none_ w0 w' :=
  h.trans (k.mono (fun _ c => .inr c.1))
theorem box_out {B : List Nat} {n : Nat} {w w' : World} {b : Nat} {o : Obj} (hb : w.heap[b]? = some o) (hm : b ∈ B) (hk : Keep (out B n) w w') : w'.heap[b]? = some o :=
  (hk.block b (lt_of_block hb) (fun c => c.2 hm)).trans hb
end Go.Proofs.Ytienodnkfohakaa
