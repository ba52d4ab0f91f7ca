import Derived.Test.YtkjcmnhhgnlaeaaLedH
namespace Go.Proofs.Ytkjcmnhhgnlaeaa
set_option linter.unusedVariables false
set_option linter.unusedSimpArgs false
open Go.RowKit
section
variable {w0 w : World} {L : List (Asrt w0.heap.size)}
theorem Has.poke (H : Has w0 w L) {i b : Nat} {cs : Array Value} {T : TypeId} (hi : L[i]? = some (BlkA w0.heap.size b cs T)) (k : Nat) (v : Value) : Has w0 (w.setCell ⟨b, k, none⟩ v) (L.set i (BlkA w0.heap.size b (cs.setIfInBounds k v) T)) := by
  obtain ⟨F, hp, hF, hback⟩ := H.call hi
  have hp' : F b ∧ w.heap[b]? = some (.cells cs T (0, 0)) := hp
  exact hback _ _ ((Keep.refl F w).setCell (.inr hp'.1) v) ⟨.inl hp'.1, heap_setCell_same _ _ _ _ _ _ hp'.2⟩
theorem few_has (H : Has w0 w L) (id : Int) (v : Value) (ls : List Ln) (hv : OldS w0 3 v ls.length (lns ls)) :
    Calls Try.prog 15 #[.agg #[.int .u32 id, v]] w fun e w' => ∃ A c, e = .returned (.agg #[.int .u32 id, .slice A (ls.take 12).length c]) ∧ Has w0 w' (L ++ [OwnA w0.heap.size 59 3 (.slice A (ls.take 12).length c) (ls.take 12).length (lns (ls.take 12))]) := by
  refine (few_any id v ls _ w (H.sees hv)).mono ?_
  rintro e w' ⟨v', rfl, hk, ho⟩
  obtain ⟨A, c, rfl, h1, h2⟩ := ho.len
  exact ⟨A, c, rfl, H.new hk ho⟩
/-- The cells of a line of a slice that is ours. -/
theorem Has.line (H : Has w0 w L) {i n : Nat} {e : TypeId} {v : Value} {l : List Ln} (hi : L[i]? = some (OwnA w0.heap.size e 3 v n (lns l))) (hn : n = l.length) {k : Nat} {y : Ln} (hy : l[k]? = some y) :
    ∃ g o c, v = .slice (some ⟨g, o, none⟩) n c ∧ n ≤ c ∧ c ≤ 9223372036854775807 ∧ g < w.heap.size ∧
    w.cell? ⟨g, o + k * 3, none⟩ = some (.int .u16 y.item) ∧ w.cell? ⟨g, o + k * 3 + 1, none⟩ = some (.int .u16 y.loc) ∧ w.cell? ⟨g, o + k * 3 + 2, none⟩ = some (.int .i64 y.qty) := by
  obtain ⟨F, hz, hF⟩ := H.get hi
  obtain ⟨g, o, c, h1, h2, h3, -, h4, h5⟩ := sees_line (show Own w F e 3 v n (lns l) from hz).sees hn hy
  exact ⟨g, o, c, h1, h2, h3, h4, h5⟩
end
theorem turn_one (id : Int) (rs : List Rw) (id' item q : Int) (k : Nat) : ∃ rs', (LS.turn [(id, rs)] id' item q k).1 = [(id, rs')] := by
  unfold LS.turn
  rw [sidx_cons]
  split
  · exact ⟨rs, rfl⟩
  · rename_i j hj
    split at hj
    · rename_i hid
      simp only [Option.some.injEq] at hj
      subst hj
      subst hid
      simp only [List.getElem?_cons_zero]
      repeat' split
      all_goals exact ⟨_, rfl⟩
    · simp [sidx] at hj
theorem step_one (id : Int) (rs : List Rw) (y : St) (h1 : 1 < y.kind) (h2 : y.kind < 7) : ∃ rs', (LS.step [(id, rs)] y).1 = [(id, rs')] := by
  unfold LS.step LS.does
  rw [if_neg (by omega)]
  split
  · exact turn_one ..
  · split
    · exact turn_one ..
    · split
      · exact turn_one ..
      · rw [if_neg (by omega)]; exact ⟨rs, rfl⟩
theorem drop_one (id : Int) (rs : List Rw) : LS.drop [(id, rs)] id = ([], 0) := by
  unfold LS.drop
  rw [sidx_cons, if_pos rfl]; rfl
theorem drop_nil (id : Int) : LS.drop [] id = ([], 6) := rfl
theorem open_nil (id : Int) (ls : List Ln) (h : rightE ls = 0) : LS.openUp [] id ls = ([(id, ls.map row0)], 0) := by
  unfold LS.openUp
  rw [if_neg (fun c => c h), if_neg (by simp [get_nil])]
  rfl
theorem open_nil' (id : Int) (ls : List Ln) (h : rightE ls ≠ 0) : LS.openUp [] id ls = ([], rightE ls) := by
  unfold LS.openUp
  rw [if_pos h]
theorem closed_new (id : Int) (ls : List Ln) (h : rightE ls = 0) : LS.all [(id, ls.map row0)] id Rw.closed = false := by
  obtain ⟨h0, h8⟩ := right_len h
  obtain ⟨l, hl⟩ : ∃ l, ls[0]? = some l := ⟨_, List.getElem?_eq_getElem h0⟩
  have := lineE_ok (right_line h hl)
  have hm : row0 l ∈ ls.map row0 := List.mem_map_of_mem (List.mem_of_getElem? hl)
  have hc : (row0 l).closed = false := by simp [Rw.closed, Rw.left, row0]; omega
  show (match LS.get [(id, ls.map row0)] id with | none => false | some rs => rs.all Rw.closed) = false
  rw [get_cons, if_pos rfl]
  rw [List.all_eq_false]
  exact ⟨_, hm, by rw [hc]; simp⟩
theorem rows_one (id : Int) (rs : List Rw) : LS.rows [(id, rs)] id = rs ∧ (LS.get [(id, rs)] id).isSome = true := by
  unfold LS.rows
  rw [get_cons, if_pos rfl]
  exact ⟨rfl, rfl⟩
end Go.Proofs.Ytkjcmnhhgnlaeaa
