import Derived.Test.YtienodnkfohakaaArrV
import Derived.Test.YtienodnkfohakaaDW
import Derived.Deep.WholeRow
namespace Go.Proofs.Ytienodnkfohakaa
set_option linter.unusedVariables false
set_option linter.unusedSimpArgs false
open Go.RowKit
/-! An array variable that begins as zeros, of any length: nothing of it is unrolled. -/
section
variable {P : Program} {w : World} {ρ : Operand → Value} {o : Oper} {t : TypeId} {cs : Array Value} {n : Nat}
theorem exec_buildZ {e : TypeId} (ho : o.op = .build t #[]) (hu : P.underlying t = some (.array n e)) (hs : ∀ w, (sizeOf e).run P w = .ok 1 w) (hz : (P.info? t).map (fun i => (i.zero, i.size)) = some (some (.agg cs), n)) : (execOp ρ o).run P w = .ok (.value (.agg cs)) w := by
  have h := (zero_of_info hz).1
  simp [execOp, ho, Instr.build, h, run_underlying hu, hs, Instr.fill, Result.andThen, Value.cells]
theorem exec_allocZ (ho : o.op = .alloc t) (hz : (P.info? t).map (fun i => (i.zero, i.size)) = some (some (.agg cs), n)) : (execOp ρ o).run P w = .ok (.value (.pointer (some ⟨w.heap.size, 0, none⟩))) (w.alloc (.cells cs t)) := by
  have h := (zero_of_info hz).1
  simp [execOp, ho, Instr.alloc, newVar, newRow, h, Value.cells, Result.andThen]
theorem exec_storeZ {a x : Operand} {B : Nat} (ho : o.op = .store t a x) (ha : ρ a = .pointer (some ⟨B, 0, none⟩)) (hx : ρ x = .agg cs) (hB : w.heap.size = B) (hz : (P.info? t).map (fun i => (i.zero, i.size)) = some (some (.agg cs), n)) (hn : cs.size = n) (h1 : cs.all (·.oneCell') = true) : (execOp ρ o).run P (w.alloc (.cells cs t)) = .ok .skip (w.alloc (.cells cs t)) := by
  subst hB
  have h := run_storeAt_new (P := P) w t cs cs (by rw [(zero_of_info hz).2, hn]) rfl h1
  simp [execOp, ho, ha, hx, h, Result.andThen]
end
theorem arrv_size (n : Nat) (f : Nat → Value) : (arrv n f).size = n := by simp [arrv]
theorem arrv_one (n : Nat) (f : Nat → Value) (h : ∀ i, (f i).oneCell' = true) : (arrv n f).all (·.oneCell') = true := by
  rw [Array.all_eq_true]
  intro i hi
  simp [arrv, h]
end Go.Proofs.Ytienodnkfohakaa
