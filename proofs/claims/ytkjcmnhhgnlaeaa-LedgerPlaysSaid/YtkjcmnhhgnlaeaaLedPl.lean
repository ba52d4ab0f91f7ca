import Derived.Test.YtkjcmnhhgnlaeaaLedR6
import Derived.Test.YtkjcmnhhgnlaeaaPick
namespace Go.Proofs.Ytkjcmnhhgnlaeaa
set_option linter.unusedVariables false
set_option linter.unusedSimpArgs false
open Go.RowKit
section
variable {w0 w : World} {L : List (Asrt w0.heap.size)}
theorem rnew_has (H : Has w0 w L) : Has w0 (w.alloc (.cells #[.slice none 0 0, .slice none 0 0] 30)) (L ++ [RLA w0.heap.size w.heap.size ⟨[], []⟩]) := by
  refine H.new ((Keep.refl none_ w).alloc _) ?_
  have h1 := ((HasF.nil (Keep.refl none_ w)).box #[.slice none 0 0, .slice none 0 0] 30).nilSees 2
  have h2 := (h1.nilSees 4).new (P := LnsA 0 []) (Keep.refl none_ _) (fun x hx => by simp at hx)
  exact ⟨⟨fun p hp => by simp at hp, fun x hx => by simp at hx⟩, [], _, _, rfl, h2.parts⟩
theorem ropen_own (H : Has w0 w L) (i j p : Nat) (d : RL) (hi : L[i]? = some (RLA w0.heap.size p d)) (id : Int) (e : TypeId) (v : Value) (ls : List Ln) (hj : L[j]? = some (OwnA w0.heap.size e 3 v ls.length (lns ls))) (hij : i ≠ j) (hl : d.os.length ≤ 190) (hd' : (d.opened id ls).1.okay) :
    Calls Try.prog 14 #[.pointer (some ⟨p, 0, none⟩), .agg #[.int .u32 id, v]] w fun e w' => e = .returned (.int .i64 (d.opened id ls).2) ∧ Has w0 w' (L.set i (RLA w0.heap.size p (d.opened id ls).1)) := by
  obtain ⟨F, G, hz, hG, hF, hGG, hd, hback⟩ := H.two hi hj hij
  refine (rOpen_any p d id v ls F G w hz (show Own w G e 3 v ls.length (lns ls) from hG).sees hd hl hd').mono ?_
  rintro e w' ⟨rfl, hk, hz'⟩
  exact ⟨rfl, hback w' _ hk hz'⟩
theorem rdo_has (H : Has w0 w L) (i p : Nat) (d : RL) (hi : L[i]? = some (RLA w0.heap.size p d)) (kk : Nat) (id it q : Int) (hkk : kk ≤ 2) (hl : d.ds.length ≤ 190) (hd' : (d.deed kk id it q).1.okay) :
    Calls Try.prog 16 #[.pointer (some ⟨p, 0, none⟩), .int .i64 kk, .int .u32 id, .int .u16 it, .int .i64 q] w fun e w' => e = .returned (.int .i64 (d.deed kk id it q).2) ∧ Has w0 w' (L.set i (RLA w0.heap.size p (d.deed kk id it q).1)) := by
  obtain ⟨F, hz, hF, hback⟩ := H.call hi
  refine (rDo_any p d kk id it q F w hz hkk hl hd').mono ?_
  rintro e w' ⟨rfl, hk, hz'⟩
  exact ⟨rfl, hback w' _ hk hz'⟩
theorem rdrop_has (H : Has w0 w L) (i p : Nat) (d : RL) (hi : L[i]? = some (RLA w0.heap.size p d)) (id : Int) (hl : d.os.length ≤ 190) (hl2 : d.ds.length ≤ 190) (hd' : (d.dropped id).1.okay) :
    Calls Try.prog 17 #[.pointer (some ⟨p, 0, none⟩), .int .u32 id] w fun e w' => e = .returned (.int .i64 (d.dropped id).2) ∧ Has w0 w' (L.set i (RLA w0.heap.size p (d.dropped id).1)) := by
  obtain ⟨F, hz, hF, hback⟩ := H.call hi
  refine (rDrop_any p d id F w hz hl hl2 hd').mono ?_
  rintro e w' ⟨rfl, hk, hz'⟩
  exact ⟨rfl, hback w' _ hk hz'⟩
theorem rrows_has (H : Has w0 w L) (i p : Nat) (d : RL) (hi : L[i]? = some (RLA w0.heap.size p d)) (id : Int) (hl : d.ds.length ≤ 200) :
    Calls Try.prog 19 #[.pointer (some ⟨p, 0, none⟩), .int .u32 id] w fun e w' => ∃ A c, e = .returned (.tuple #[.slice A (d.rows id).length c, .bool (d.ls.get id).isSome]) ∧ (d.rows id).length ≤ c ∧ c ≤ 9223372036854775807 ∧ Has w0 w' (L ++ [OwnA w0.heap.size 53 5 (.slice A (d.rows id).length c) (d.rows id).length (rws (d.rows id))]) := by
  obtain ⟨F, hz, hF⟩ := H.get hi
  refine (rRows_any p d id F w hz hl).mono ?_
  rintro e w' ⟨A, c, rfl, h1, h2, hx⟩
  refine ⟨A, c, rfl, h1, h2, H.new hx.old ?_⟩
  obtain ⟨G, g1, g2, g3⟩ := hx.parts
  exact (show Own w' (G 0) 53 5 _ _ _ from g3 0 _ rfl).move (fun k hk _ => ⟨g1 0 k hk, rfl⟩)
theorem rclosed_has (H : Has w0 w L) (i p : Nat) (d : RL) (hi : L[i]? = some (RLA w0.heap.size p d)) (id : Int) (hl : d.ds.length ≤ 200) :
    Calls Try.prog 21 #[.pointer (some ⟨p, 0, none⟩), .int .u32 id] w fun e w' => e = .returned (.bool (d.closed id)) ∧ Has w0 w' L := by
  obtain ⟨F, hz, hF⟩ := H.get hi
  refine (rClosed_any p d id F w hz hl).mono ?_
  rintro e w' ⟨rfl, hk⟩
  exact ⟨rfl, H.keep hk⟩
theorem rfull_has (H : Has w0 w L) (i p : Nat) (d : RL) (hi : L[i]? = some (RLA w0.heap.size p d)) (id : Int) (hl : d.ds.length ≤ 200) :
    Calls Try.prog 23 #[.pointer (some ⟨p, 0, none⟩), .int .u32 id] w fun e w' => e = .returned (.bool (d.full id)) ∧ Has w0 w' L := by
  obtain ⟨F, hz, hF⟩ := H.get hi
  refine (rFull_any p d id F w hz hl).mono ?_
  rintro e w' ⟨rfl, hk⟩
  exact ⟨rfl, H.keep hk⟩
/-- A cell of a row of ours is written over. -/
theorem Has.cellPut (H : Has w0 w L) {i n sz : Nat} {e : TypeId} {g c : Nat} {xs : List Value} (hi : L[i]? = some (OwnA w0.heap.size e sz (.slice (some ⟨g, 0, none⟩) n c) n xs)) {k : Nat} (hk : k < xs.length) : w.frozen? ⟨g, k, none⟩ = false ∧ (∃ u, w.cell? ⟨g, k, none⟩ = some u) ∧
    ∀ y : Value, y.oneCell' = true → Has w0 (w.setCell ⟨g, k, none⟩ y) (L.set i (OwnA w0.heap.size e sz (.slice (some ⟨g, 0, none⟩) n c) n (xs.set k y))) := by
  obtain ⟨A, hz, hA, hback⟩ := H.call hi
  have ho : Own w A e sz (.slice (some ⟨g, 0, none⟩) n c) n xs := hz
  have hx := ho.1.1
  obtain ⟨⟨u', hu', -⟩, hf⟩ := ho.cell k (by omega)
  refine ⟨hf, ⟨u', hu'⟩, fun y hy => hback _ _ ((Keep.refl _ _).setCell (.inr (ho.2.1 g rfl)) _) ?_⟩
  exact (ho.store k y hy).move (fun q hq _ => ⟨.inl hq, rfl⟩)
theorem Has.own0 (H : Has w0 w L) {i n sz : Nat} {e : TypeId} {g o c : Nat} {xs : List Value} (hi : L[i]? = some (OwnA w0.heap.size e sz (.slice (some ⟨g, o, none⟩) n c) n xs)) (hn : 0 < n) : o = 0 := by
  obtain ⟨A, hz, -⟩ := H.get hi
  obtain ⟨g', c', e', -⟩ := (show Own w A e sz (.slice (some ⟨g, o, none⟩) n c) n xs from hz).form hn
  simp only [Value.slice.injEq, Option.some.injEq, Addr.mk.injEq, and_true, true_and] at e'
  exact e'.1.2
end
theorem closed_sim (d : RL) (id : Int) : d.ls.all id Rw.closed = d.closed id := by
  rw [LS.all_rows]
  unfold RL.closed
  congr 1
  show (d.rows id).all Rw.closed = _
  congr 1
  funext r
  unfold Rw.closed Rw.left
  rw [Bool.eq_iff_iff]
  simp only [beq_iff_eq]
  constructor <;> intro h <;> omega
theorem full_sim (d : RL) (id : Int) : d.ls.all id Rw.full = d.full id := by
  unfold RL.full
  rw [← closed_sim, LS.all_rows, LS.all_rows]
  show ((d.ls.get id).isSome && (d.rows id).all Rw.full) = ((d.ls.get id).isSome && (d.rows id).all Rw.closed && (d.rows id).all fun r => r.put == r.picked)
  have : ∀ l : List Rw, l.all Rw.full = (l.all Rw.closed && l.all fun r => r.put == r.picked) := by
    intro l
    induction l with
    | nil => rfl
    | cons x l ih => simp only [List.all_cons, ih, Rw.full, Rw.closed]; cases (x.left == 0) <;> cases (x.put == x.picked) <;> simp
  rw [this, Bool.and_assoc]
theorem opened_len (d : RL) (id : Int) (ls : List Ln) : (d.opened id ls).1.os.length ≤ d.os.length + 1 ∧ (d.opened id ls).1.ds.length ≤ d.ds.length := by
  unfold RL.opened
  repeat' split
  all_goals simp
theorem dropped_len (d : RL) (id : Int) : (d.dropped id).1.os.length ≤ d.os.length ∧ (d.dropped id).1.ds.length ≤ d.ds.length := by
  unfold RL.dropped
  split
  · exact ⟨List.length_filter_le _ _, List.length_filter_le _ _⟩
  · exact ⟨Nat.le_refl _, Nat.le_refl _⟩
theorem deed_len (d : RL) (kk id it q : Int) : (d.deed kk id it q).1.os.length ≤ d.os.length ∧ (d.deed kk id it q).1.ds.length ≤ d.ds.length + 1 := by
  unfold RL.deed
  repeat' split
  all_goals simp
end Go.Proofs.Ytkjcmnhhgnlaeaa
