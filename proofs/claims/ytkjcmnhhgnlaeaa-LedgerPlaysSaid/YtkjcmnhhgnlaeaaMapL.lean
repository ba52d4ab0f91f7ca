import Derived.Test.YtkjcmnhhgnlaeaaBase2
namespace Go.Proofs.Ytkjcmnhhgnlaeaa
set_option linter.unusedVariables false
set_option linter.unusedSimpArgs false
open Go.RowKit

/-! A map of int keys, by its entries: key, value, stamp. -/
def ents (k : IntKind) (l : List (Int × Value × Nat)) : Array MapEntry := (l.map fun p => (⟨.int k p.1, p.2.1, p.2.2⟩ : MapEntry)).toArray
def eidx (l : List (Int × Value × Nat)) (key : Int) : Option Nat := l.findIdx? (fun p => p.1 == key)
theorem eidx_cons (p : Int × Value × Nat) (l : List (Int × Value × Nat)) (key : Int) : eidx (p :: l) key = if p.1 == key then some 0 else (eidx l key).map (· + 1) := by
  unfold eidx
  rw [List.findIdx?_cons]
theorem findNow_ents (k : IntKind) (key : Int) (l : List (Int × Value × Nat)) : ∀ i, Instr.findNow (.int k) (.int k key) (l.map fun p => (⟨.int k p.1, p.2.1, p.2.2⟩ : MapEntry)) i = some ((eidx l key).bind fun j => (l[j]?).map fun p => (i + j, p.2.1)) := by
  induction l with
  | nil => intro i; rfl
  | cons p l ih =>
    intro i
    rw [List.map_cons, Instr.findNow, eidx_cons]
    have hs : Instr.sameNow (.int k) (.int k key) (.int k p.1) = some (key == p.1) := by simp [Instr.sameNow]
    simp only [hs]
    by_cases h : p.1 = key
    · subst h
      simp only [beq_self_eq_true, if_true, Option.bind_some, List.getElem?_cons_zero, Option.map_some, Nat.add_zero]
    · have h1 : (key == p.1) = false := by simpa using fun c => h c.symm
      have h2 : (p.1 == key) = false := by simpa using h
      simp only [h1, h2]
      rw [ih (i + 1)]
      cases eidx l key with
      | none => rfl
      | some j =>
        simp only [Option.map_some, Option.bind_some, List.getElem?_cons_succ, if_neg Bool.false_ne_true]
        rw [show i + 1 + j = i + (j + 1) by omega]
theorem erase_map {α β : Type} (f : α → β) (l : List α) : ∀ j, (l.map f).eraseIdx j = (l.eraseIdx j).map f := by
  induction l with
  | nil => intro j; rfl
  | cons x l ih => intro j; cases j with
    | zero => rfl
    | succ j => simp [ih]
section
variable {P : Program} {t e kt : TypeId} {k : IntKind} {l : List (Int × Value × Nat)} {mb clock : Nat} {w : World} {key : Int}
theorem run_checkKey (hk : P.underlying kt = some (.int k)) (b : Bool) (v : Value) : (Instr.checkKey b 10000 kt v).run P w = .ok () w := by
  show (Instr.checkKey b (9999 + 1) kt v).run P w = _
  rw [Instr.checkKey]
  simp [run_underlying hk]
theorem run_findKey (hk : P.underlying kt = some (.int k)) : (Instr.findKey kt (.int k key) (ents k l).toList).run P w = .ok ((eidx l key).bind fun j => (l[j]?).map fun p => (j, p.2.1)) w := by
  have := findNow_ents k key l 0
  simp only [Nat.zero_add] at this
  simp [Instr.findKey, run_underlying hk, ents, this]
theorem run_lookup (ht : P.underlying t = some (.map kt e)) (hk : P.underlying kt = some (.int k)) (hb : w.heap[mb]? = some (.map (ents k l) clock)) (z : Value) (hz : (zeroValue e).run P w = .ok z w) (c : Bool) :
    (Instr.lookup t (.map (some mb)) (.int k key) c).run P w = .ok (if c then .tuple #[((eidx l key).bind fun j => (l[j]?).map (·.2.1)).getD z, .bool ((eidx l key).bind fun j => l[j]?).isSome] else ((eidx l key).bind fun j => (l[j]?).map (·.2.1)).getD z) w := by
  have hg : (getObj mb).run P w = .ok (.map (ents k l) clock) w := by simp [getObj, Sem.run, hb]
  simp only [Instr.lookup, Sem.run_bind, run_underlying ht, Result.andThen_ok, hg, Sem.run_pure, run_checkKey hk, run_findKey hk]
  cases h : eidx l key with
  | none => cases c <;> simp [hz]
  | some j =>
    cases hj : l[j]? with
    | none => cases c <;> simp [hz, hj]
    | some p => cases c <;> simp [hj]
/-- A block replaced. -/
def putObj (w : World) (b : Nat) (o : Obj) : World := { w with heap := w.heap.setIfInBounds b o }
theorem putObj_here (w : World) (b : Nat) (o o' : Obj) (h : w.heap[b]? = some o') : (putObj w b o).heap[b]? = some o := by
  have := (Array.getElem?_eq_some_iff.1 h).1
  simp [putObj, this]
theorem putObj_there (w : World) (b k : Nat) (o : Obj) (h : k ≠ b) : (putObj w b o).heap[k]? = w.heap[k]? := by
  simp only [putObj]; exact Array.getElem?_setIfInBounds_ne (fun c => h c.symm)
theorem Keep.putObj {F : Nat → Prop} {a w : World} (h : Keep F a w) {b : Nat} (hb : a.heap.size ≤ b ∨ F b) (o : Obj) : Keep F a (putObj w b o) :=
  ⟨h.os, h.tape, h.output, by simp only [Go.Proofs.Ytkjcmnhhgnlaeaa.putObj, Array.size_setIfInBounds]; exact h.size, fun k hk hf => (putObj_there w b k o (by rintro rfl; rcases hb with hb | hb; omega; exact hf hb)).trans (h.block k hk hf)⟩
/-- A key that is there: its value changes; one that is not comes last. -/
def eput (l : List (Int × Value × Nat)) (clock : Nat) (key : Int) (v : Value) : List (Int × Value × Nat) × Nat :=
  match eidx l key with
  | some j => (l.modify j fun p => (p.1, v, p.2.2), clock)
  | none => (l ++ [(key, v, clock)], clock + 1)
theorem eidx_some {l : List (Int × Value × Nat)} {key : Int} {j : Nat} (h : eidx l key = some j) : ∃ p, l[j]? = some p ∧ p.1 = key := by
  unfold eidx at h
  rw [List.findIdx?_eq_some_iff_getElem] at h
  obtain ⟨h1, h2, -⟩ := h
  exact ⟨_, List.getElem?_eq_getElem h1, by simpa using h2⟩
theorem run_mapUpdate (ht : P.underlying t = some (.map kt e)) (hk : P.underlying kt = some (.int k)) (hb : w.heap[mb]? = some (.map (ents k l) clock)) (v : Value) :
    (Instr.mapUpdate t (.map (some mb)) (.int k key) v).run P w = .ok () (putObj w mb (.map (ents k (eput l clock key v).1) (eput l clock key v).2)) := by
  unfold putObj
  have hg : (getObj mb).run P w = .ok (.map (ents k l) clock) w := by simp [getObj, Sem.run, hb]
  have hset : ∀ o : Obj, (setObj mb o).run P w = .ok () { w with heap := w.heap.setIfInBounds mb o } := fun o => by simp [setObj, Sem.run, hb]
  simp only [Instr.mapUpdate, Sem.run_bind, run_underlying ht, Result.andThen_ok, hg, run_checkKey hk, run_findKey hk]
  unfold eput
  cases h : eidx l key with
  | none =>
    simp only [Option.bind_none, hset]
    simp [ents]
  | some j =>
    obtain ⟨p, hp, hpk⟩ := eidx_some h
    subst hpk
    have hj : (ents k l)[j]? = some (⟨.int k p.1, p.2.1, p.2.2⟩ : MapEntry) := by simp [ents, hp]
    have hs : Instr.sameBits 10000 (.int k p.1) (.int k p.1) = true := by
      show Instr.sameBits (9999 + 1) (.int k p.1) (.int k p.1) = true
      rw [Instr.sameBits]; simp
    simp only [Option.bind_some, hp, Option.map_some, hj, Option.getD_some, Instr.keyThatStays, hs, if_true, Sem.run_bind, Sem.run_pure, Result.andThen_ok, hset]
    congr 4
    unfold ents
    apply Array.ext'
    simp only [Array.toList_modify, List.toList_toArray]
    apply List.ext_getElem?
    intro i
    simp only [List.getElem?_modify, List.getElem?_map]
    by_cases hij : j = i
    · subst hij; simp [hp]
    · simp [hij]
theorem run_delete (ht : P.underlying t = some (.map kt e)) (hk : P.underlying kt = some (.int k)) (hb : w.heap[mb]? = some (.map (ents k l) clock)) (ty : TypeId) :
    (Builtin.delete_ #[t, kt] ty #[.map (some mb), .int k key]).run P w = .ok (.tuple #[]) (putObj w mb (.map (ents k (match eidx l key with | some j => l.eraseIdx j | none => l)) clock)) := by
  unfold putObj
  have hg : (getObj mb).run P w = .ok (.map (ents k l) clock) w := by simp [getObj, Sem.run, hb]
  have hset : ∀ o : Obj, (setObj mb o).run P w = .ok () { w with heap := w.heap.setIfInBounds mb o } := fun o => by simp [setObj, Sem.run, hb]
  simp [Builtin.delete_, run_underlying ht, hg, run_checkKey hk, run_findKey hk]
  cases h : eidx l key with
  | none => simp [hset]
  | some j =>
    obtain ⟨p, hp, hpk⟩ := eidx_some h
    have hlt : j < l.length := (List.getElem?_eq_some_iff.1 hp).1
    simp only [hp, Option.map_some, hset, Option.bind_some]
    simp [ents, Array.eraseIdxIfInBounds, hlt, hset]
    congr 3
    exact erase_map _ l j
theorem exec_delete {ρ : Operand → Value} {o : Oper} (m q : Operand) (ho : o.op = .call { callee := .builtin .delete, args := #[m, q], argTypes := #[t, kt] }) (mv qv v : Value) (hm : ρ m = mv) (hq : ρ q = qv) {w' : World} (hr : (Builtin.delete_ #[t, kt] o.type #[mv, qv]).run P w = .ok v w') : (execOp ρ o).run P w = .ok (.value v) w' := by
  simp [execOp, ho, resolve, invoke, builtin, hm, hq, hr, Result.andThen]
theorem exec_mapUpdate {ρ : Operand → Value} {o : Oper} (m q u : Operand) (ho : o.op = .mapUpdate t m q u) (mv qv uv : Value) (hm : ρ m = mv) (hq : ρ q = qv) (hu : ρ u = uv) {w' : World} (hr : (Instr.mapUpdate t mv qv uv).run P w = .ok () w') : (execOp ρ o).run P w = .ok .skip w' := by
  simp [execOp, ho, hm, hq, hu, hr, Result.andThen]
end
end Go.Proofs.Ytkjcmnhhgnlaeaa
