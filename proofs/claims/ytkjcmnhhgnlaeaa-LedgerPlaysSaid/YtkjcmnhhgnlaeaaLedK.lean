import Derived.Test.YtkjcmnhhgnlaeaaLedJ
namespace Go.Proofs.Ytkjcmnhhgnlaeaa
set_option linter.unusedVariables false
set_option linter.unusedSimpArgs false
open Go.RowKit
theorem push_line {w0 w : World} {L : List (Asrt w0.heap.size)} (H : Has w0 w L) {k m : Nat} {v : Value} {ls : List Ln} (hi : L[k]? = some (OwnA w0.heap.size 59 3 v m (lns ls))) (hm : m ≤ 1000) (y : Ln) :
    ∃ g cap w', (Builtin.append_ #[32, 32] 32 #[v, .slice (some ⟨w.heap.size, 0, none⟩) 1 1]).run Try.prog (w.alloc (.cells #[.int .u16 y.item, .int .u16 y.loc, .int .i64 y.qty] 59)) = .ok (.slice (some ⟨g, 0, none⟩) (m + 1) cap) w' ∧ m + 1 ≤ cap ∧ cap ≤ 9223372036854775807 ∧
      Has w0 w' (L.set k (OwnA w0.heap.size 59 3 (.slice (some ⟨g, 0, none⟩) (m + 1) cap) (m + 1) (lns (ls ++ [y])))) := by
  obtain ⟨i0, hi0, hz0, hz1, hz2⟩ := info_parts Try.infoLine
  have := H.push (P := Try.prog) hi 32 i0 _ 16 Try.underlying32 hi0 hz0 hz1 hz2 rfl (by decide) #[.int .u16 y.item, .int .u16 y.loc, .int .i64 y.qty] rfl (lns_one [y]) (by unfold maxLen; omega) (by omega) 32
  obtain ⟨g, cap, w', h1, h2, h3, h4⟩ := this
  refine ⟨g, cap, w', h1, h2, h3, ?_⟩
  rw [lns_snoc]
  exact h4
/-- What was picked, short, put of each line. -/
structure Acc where
  P : Nat → Int
  S : Nat → Int
  T : Nat → Int
def Acc.add (a : Acc) (kk k : Nat) (q : Int) : Acc := match kk with | 1 => { a with P := upd a.P k (a.P k + q) } | 2 => { a with S := upd a.S k (a.S k + q) } | _ => { a with T := upd a.T k (a.T k + q) }
def rsM (ms : List Ln) (a : Acc) : List Rw := ms.mapIdx fun k l => ⟨l.item, l.qty, a.P k, a.S k, a.T k⟩
theorem rsM_get (ms : List Ln) (a : Acc) (k : Nat) : (rsM ms a)[k]? = (ms[k]?).map fun l => (⟨l.item, l.qty, a.P k, a.S k, a.T k⟩ : Rw) := by simp [rsM]
theorem rsM_len (ms : List Ln) (a : Acc) : (rsM ms a).length = ms.length := by simp [rsM]
theorem rsM_new (ms : List Ln) : ms.map row0 = rsM ms ⟨fun _ => 0, fun _ => 0, fun _ => 0⟩ := by
  apply List.ext_getElem?
  intro i
  rw [rsM_get, List.getElem?_map]
  rfl
theorem rsM_set (ms : List Ln) (a : Acc) (k : Nat) (l : Ln) (hl : ms[k]? = some l) (kk : Nat) (q : Int) : (rsM ms a).set k ((⟨l.item, l.qty, a.P k, a.S k, a.T k⟩ : Rw).add kk q) = rsM ms (a.add kk k q) := by
  have hk := (List.getElem?_eq_some_iff.1 hl).1
  apply List.ext_getElem?
  intro i
  rw [rsM_get]
  by_cases e : i = k
  · subst e
    rw [List.getElem?_set_self (by rw [rsM_len]; exact hk), hl, Option.map_some]
    unfold Rw.add Acc.add
    split <;> simp [upd]
  · rw [List.getElem?_set_ne (fun c => e c.symm), rsM_get]
    cases ms[i]? with
    | none => rfl
    | some y =>
      simp only [Option.map_some, Option.some.injEq]
      unfold Acc.add
      split <;> simp [upd, e]
/-- A turn on one of lines of unlike items. -/
theorem sums_turn (id : Int) (ms : List Ln) (a : Acc) (k : Nat) (l : Ln) (hl : ms[k]? = some l) (hd : ∀ j l', j < k → ms[j]? = some l' → l'.item ≠ l.item) (it : Int) (hit : it = l.item) (q : Int) (kk : Nat) :
    (LS.turn [(id, rsM ms a)] id it q kk = ([(id, rsM ms (a.add kk k q))], 0) ∧ 1 ≤ q ∧ q ≤ 9999) ∨ LS.turn [(id, rsM ms a)] id it q kk = ([(id, rsM ms a)], 10) := by
  have hk : (rsM ms a)[k]? = some ⟨l.item, l.qty, a.P k, a.S k, a.T k⟩ := by rw [rsM_get, hl]; rfl
  have := turn_at id (rsM ms a) k _ hk (fun j r' hj hr => by
    rw [rsM_get] at hr
    cases hm : ms[j]? with
    | none => rw [hm] at hr; simp at hr
    | some l' =>
      rw [hm] at hr
      simp only [Option.map_some, Option.some.injEq] at hr
      subst hr
      exact hd j l' hj hm) it hit q kk
  rw [this]
  split
  · exact .inr rfl
  · split
    · rw [rsM_set ms a k l hl]; exact .inl ⟨rfl, by omega, by omega⟩
    · exact .inr rfl
theorem acc_ok {id : Int} {ms : List Ln} {a : Acc} (hg : LS.good [(id, rsM ms a)]) {k : Nat} (hk : k < ms.length) : 0 ≤ a.P k ∧ a.P k ≤ 9999 ∧ 0 ≤ a.S k ∧ a.S k ≤ 9999 ∧ 0 ≤ a.T k ∧ a.T k ≤ 9999 := by
  have hr : (⟨ms[k].item, ms[k].qty, a.P k, a.S k, a.T k⟩ : Rw) ∈ rsM ms a := List.mem_of_getElem? (by rw [rsM_get, List.getElem?_eq_getElem hk]; rfl)
  have ok := hg.ok _ (List.mem_cons_self ..) _ hr
  have h1 := ok.a
  have h2 := ok.b
  simp only at h1 h2
  omega
end Go.Proofs.Ytkjcmnhhgnlaeaa
