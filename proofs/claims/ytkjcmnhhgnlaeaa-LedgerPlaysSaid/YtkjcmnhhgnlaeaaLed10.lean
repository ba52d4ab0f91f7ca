import Derived.Test.YtkjcmnhhgnlaeaaLedArgs
namespace Go.Proofs.Ytkjcmnhhgnlaeaa
set_option linter.unusedVariables false
set_option linter.unusedSimpArgs false
open Go.RowKit

def LS.step (s : LS) (y : St) : LS × Int := s.does y.kind y.o_id y.o_lines y.id y.item y.qty
section
variable {w0 w : World} {L : List (Asrt w0.heap.size)}
theorem new_has (H : Has w0 w L) : Calls Try.prog 12 #[] w fun e w' => ∃ z, e = .returned (.pointer (some ⟨z, 0, none⟩)) ∧ Has w0 w' (L ++ [LedA w0.heap.size z []]) := by
  refine (new_any w).mono ?_
  rintro e w' ⟨z, rfl, hk, hz⟩
  exact ⟨z, rfl, H.new hk hz⟩
theorem does_has (H : Has w0 w L) (i x : Nat) (s : LS) (hi : L[i]? = some (LedA w0.heap.size x s)) (y : St) (hy : y.ok w0) :
    Calls Try.prog 13 #[.pointer (some ⟨x, 0, none⟩), .agg #[.int .i64 y.kind, .int .u32 y.o_id, y.o_linesV, .int .u32 y.id, .int .u16 y.item, .int .i64 y.qty]] w fun e w' => e = .returned (.int .i64 (s.step y).2) ∧ Has w0 w' (L.set i (LedA w0.heap.size x (s.step y).1)) := by
  obtain ⟨F, hz, hF, hback⟩ := H.call hi
  refine (does_any x s y.kind y.o_id y.o_linesV y.o_lines y.id y.item y.qty F _ w hz (fun k hk => (hF k hk).2) (H.sees hy.o_lines)).mono ?_
  rintro e w' ⟨rfl, hk, hz'⟩
  exact ⟨rfl, hback w' _ hk hz'⟩
theorem open_has (H : Has w0 w L) (i x : Nat) (s : LS) (hi : L[i]? = some (LedA w0.heap.size x s)) (id : Int) (v : Value) (ls : List Ln) (hv : OldS w0 3 v ls.length (lns ls)) :
    Calls Try.prog 24 #[.pointer (some ⟨x, 0, none⟩), .agg #[.int .u32 id, v]] w fun e w' => e = .returned (.int .i64 (s.openUp id ls).2) ∧ Has w0 w' (L.set i (LedA w0.heap.size x (s.openUp id ls).1)) := by
  obtain ⟨F, hz, hF, hback⟩ := H.call hi
  refine (lOpen_any x s id v ls F _ w hz (H.sees hv) (fun k hk c => by have := (hF k c).1; omega)).mono ?_
  rintro e w' ⟨rfl, hk, hz'⟩
  exact ⟨rfl, hback w' _ hk hz'⟩
/-- Of lines that are ours. -/
theorem open_own (H : Has w0 w L) (i j x : Nat) (s : LS) (hi : L[i]? = some (LedA w0.heap.size x s)) (id : Int) (e : TypeId) (v : Value) (ls : List Ln) (hj : L[j]? = some (OwnA w0.heap.size e 3 v ls.length (lns ls))) (hij : i ≠ j) :
    Calls Try.prog 24 #[.pointer (some ⟨x, 0, none⟩), .agg #[.int .u32 id, v]] w fun e w' => e = .returned (.int .i64 (s.openUp id ls).2) ∧ Has w0 w' (L.set i (LedA w0.heap.size x (s.openUp id ls).1)) := by
  obtain ⟨F, G, hz, hG, hF, hGG, hd, hback⟩ := H.two hi hj hij
  refine (lOpen_any x s id v ls F G w hz (show Own w G e 3 v ls.length (lns ls) from hG).sees hd).mono ?_
  rintro e w' ⟨rfl, hk, hz'⟩
  exact ⟨rfl, hback w' _ hk hz'⟩
theorem pPick_has (H : Has w0 w L) (i x : Nat) (s : LS) (hi : L[i]? = some (LedA w0.heap.size x s)) (id item qty : Int) :
    Calls Try.prog 25 #[.pointer (some ⟨x, 0, none⟩), .int .u32 id, .int .u16 item, .int .i64 qty] w fun e w' => e = .returned (.int .i64 (s.turn id item qty 1).2) ∧ Has w0 w' (L.set i (LedA w0.heap.size x (s.turn id item qty 1).1)) := by
  obtain ⟨F, hz, hF, hback⟩ := H.call hi
  refine (pPick_any x s id item qty F w hz (fun k hk => (hF k hk).2)).mono ?_
  rintro e w' ⟨rfl, hk, hz'⟩
  exact ⟨rfl, hback w' _ hk hz'⟩
theorem pShort_has (H : Has w0 w L) (i x : Nat) (s : LS) (hi : L[i]? = some (LedA w0.heap.size x s)) (id item qty : Int) :
    Calls Try.prog 27 #[.pointer (some ⟨x, 0, none⟩), .int .u32 id, .int .u16 item, .int .i64 qty] w fun e w' => e = .returned (.int .i64 (s.turn id item qty 2).2) ∧ Has w0 w' (L.set i (LedA w0.heap.size x (s.turn id item qty 2).1)) := by
  obtain ⟨F, hz, hF, hback⟩ := H.call hi
  refine (pShort_any x s id item qty F w hz (fun k hk => (hF k hk).2)).mono ?_
  rintro e w' ⟨rfl, hk, hz'⟩
  exact ⟨rfl, hback w' _ hk hz'⟩
theorem pPut_has (H : Has w0 w L) (i x : Nat) (s : LS) (hi : L[i]? = some (LedA w0.heap.size x s)) (id item qty : Int) :
    Calls Try.prog 26 #[.pointer (some ⟨x, 0, none⟩), .int .u32 id, .int .u16 item, .int .i64 qty] w fun e w' => e = .returned (.int .i64 (s.turn id item qty 3).2) ∧ Has w0 w' (L.set i (LedA w0.heap.size x (s.turn id item qty 3).1)) := by
  obtain ⟨F, hz, hF, hback⟩ := H.call hi
  refine (pPut_any x s id item qty F w hz (fun k hk => (hF k hk).2)).mono ?_
  rintro e w' ⟨rfl, hk, hz'⟩
  exact ⟨rfl, hback w' _ hk hz'⟩
theorem drop_has (H : Has w0 w L) (i x : Nat) (s : LS) (hi : L[i]? = some (LedA w0.heap.size x s)) (id : Int) :
    Calls Try.prog 28 #[.pointer (some ⟨x, 0, none⟩), .int .u32 id] w fun e w' => e = .returned (.int .i64 (s.drop id).2) ∧ Has w0 w' (L.set i (LedA w0.heap.size x (s.drop id).1)) := by
  obtain ⟨F, hz, hF, hback⟩ := H.call hi
  refine (drop_any x s id F w hz).mono ?_
  rintro e w' ⟨rfl, hk, hz'⟩
  exact ⟨rfl, hback w' _ hk hz'⟩
theorem closed_has (H : Has w0 w L) (i x : Nat) (s : LS) (hi : L[i]? = some (LedA w0.heap.size x s)) (id : Int) :
    Calls Try.prog 20 #[.pointer (some ⟨x, 0, none⟩), .int .u32 id] w fun e w' => e = .returned (.bool (s.all id Rw.closed)) ∧ Has w0 w' L := by
  obtain ⟨F, hz, hF⟩ := H.get hi
  refine (closed_any x s id F w hz).mono ?_
  rintro e w' ⟨rfl, hk⟩
  exact ⟨rfl, H.keep hk⟩
theorem full_has (H : Has w0 w L) (i x : Nat) (s : LS) (hi : L[i]? = some (LedA w0.heap.size x s)) (id : Int) :
    Calls Try.prog 22 #[.pointer (some ⟨x, 0, none⟩), .int .u32 id] w fun e w' => e = .returned (.bool (s.all id Rw.full)) ∧ Has w0 w' L := by
  obtain ⟨F, hz, hF⟩ := H.get hi
  refine (full_any x s id F w hz).mono ?_
  rintro e w' ⟨rfl, hk⟩
  exact ⟨rfl, H.keep hk⟩
def LS.rows (s : LS) (id : Int) : List Rw := (s.get id).getD []
theorem rows_has (H : Has w0 w L) (i x : Nat) (s : LS) (hi : L[i]? = some (LedA w0.heap.size x s)) (id : Int) :
    Calls Try.prog 18 #[.pointer (some ⟨x, 0, none⟩), .int .u32 id] w fun e w' => ∃ A c, e = .returned (.tuple #[.slice A (s.rows id).length c, .bool (s.get id).isSome]) ∧ (s.rows id).length ≤ c ∧ c ≤ maxLen ∧ Has w0 w' (L ++ [OwnA w0.heap.size 52 5 (.slice A (s.rows id).length c) (s.rows id).length (rws (s.rows id))]) := by
  obtain ⟨F, hz, hF⟩ := H.get hi
  refine (lRows_any x s id F w hz).mono ?_
  rintro e w' ⟨v', rfl, hk, ho⟩
  obtain ⟨A, c, rfl, h1, h2⟩ := ho.len
  exact ⟨A, c, rfl, h1, h2, H.new hk ho⟩
theorem shown_has (H : Has w0 w L) : Calls Try.prog 11 #[] w fun e w' => e = .returned (.bool true) ∧ Has w0 w' L := by
  refine (shown_any w).mono ?_
  rintro e w' ⟨rfl, hk⟩
  exact ⟨rfl, H.keep hk⟩
/-- What a ledger that is there has is good. -/
theorem Has.good (H : Has w0 w L) {i x : Nat} {s : LS} (hi : L[i]? = some (LedA w0.heap.size x s)) : s.good := by
  obtain ⟨F, hz, hF⟩ := H.get hi
  exact (show LRep w F x s from hz).2.1
/-- The cells of a row of a slice that is ours. -/
theorem Has.row (H : Has w0 w L) {i n : Nat} {e : TypeId} {v : Value} {l : List Rw} (hi : L[i]? = some (OwnA w0.heap.size e 5 v n (rws l))) (hn : n = l.length) {k : Nat} {y : Rw} (hy : l[k]? = some y) :
    ∃ g o c, v = .slice (some ⟨g, o, none⟩) n c ∧ n ≤ c ∧ c ≤ 9223372036854775807 ∧ g < w.heap.size ∧
    w.cell? ⟨g, o + k * 5, none⟩ = some (.int .u16 y.item) ∧ w.cell? ⟨g, o + k * 5 + 1, none⟩ = some (.int .i64 y.wanted) ∧ w.cell? ⟨g, o + k * 5 + 2, none⟩ = some (.int .i64 y.picked) ∧ w.cell? ⟨g, o + k * 5 + 3, none⟩ = some (.int .i64 y.short) ∧ w.cell? ⟨g, o + k * 5 + 4, none⟩ = some (.int .i64 y.put) := by
  obtain ⟨F, hz, hF⟩ := H.get hi
  obtain ⟨g, o, c, h1, h2, h3, -, h4, h5⟩ := sees_row (show Own w F e 5 v n (rws l) from hz).sees hn hy
  exact ⟨g, o, c, h1, h2, h3, h4, h5⟩
end
theorem LS.good.rows {s : LS} (h : s.good) (id : Int) : ∀ r ∈ s.rows id, r.ok := by
  intro r hr
  unfold LS.rows LS.get at hr
  cases hj : sidx s id with
  | none => simp [hj] at hr
  | some j =>
    cases hp : s[j]? with
    | none => simp [hj, hp] at hr
    | some p =>
      simp only [hj, hp, Option.bind_some, Option.map_some, Option.getD_some] at hr
      exact h.ok p (List.mem_of_getElem? hp) r hr
theorem LS.all_rows (s : LS) (id : Int) (q : Rw → Bool) : s.all id q = ((s.get id).isSome && (s.rows id).all q) := by
  unfold LS.all LS.rows
  cases s.get id <;> simp
end Go.Proofs.Ytkjcmnhhgnlaeaa
