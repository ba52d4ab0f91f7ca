import Derived.Test.YtkjcmnhhgnlaeaaLedK
namespace Go.Proofs.Ytkjcmnhhgnlaeaa
set_option linter.unusedVariables false
set_option linter.unusedSimpArgs false
open Go.RowKit
/-! The document's ledger: orders, and deeds. -/
structure Dd where
  kind : Int
  id : Int
  item : Int
  qty : Int
def Dd.cs (x : Dd) : List Value := [.int .i64 x.kind, .int .u32 x.id, .int .u16 x.item, .int .i64 x.qty]
def Dd.is (x : Dd) (kk id it : Int) : Bool := x.kind == kk && (x.id == id && x.item == it)
def sumD : List Dd → Int → Int → Int → Int
  | [], _, _, _ => 0
  | x :: l, kk, id, it => (if x.is kk id it = true then x.qty else 0) + sumD l kk id it
theorem sumD_app (l m : List Dd) (kk id it : Int) : sumD (l ++ m) kk id it = sumD l kk id it + sumD m kk id it := by
  induction l with
  | nil => simp [sumD]
  | cons x l ih => rw [List.cons_append, sumD, sumD, ih]; omega
theorem sumD_zero (l : List Dd) (kk id it : Int) (h : ∀ x ∈ l, x.id ≠ id) : sumD l kk id it = 0 := by
  induction l with
  | nil => rfl
  | cons x l ih =>
    have h1 : x.is kk id it = false := by
      have : (x.id == id) = false := by simpa using h x (List.mem_cons_self ..)
      simp [Dd.is, this]
    rw [sumD, h1, ih (fun y hy => h y (List.mem_cons_of_mem _ hy))]
    rfl
theorem sumD_filter (l : List Dd) (kk id id' it : Int) (h : id ≠ id') : sumD (l.filter fun x => x.id != id') kk id it = sumD l kk id it := by
  induction l with
  | nil => rfl
  | cons x l ih =>
    by_cases e : x.id = id'
    · have h1 : x.is kk id it = false := by
        have : (x.id == id) = false := by simpa using fun c : x.id = id => h (c.symm.trans e)
        simp [Dd.is, this]
      rw [List.filter_cons_of_neg (by simpa using e), ih, sumD, h1]
      simp
    · rw [List.filter_cons_of_pos (by simpa using e), sumD, sumD, ih]
theorem sumD_le (l : List Dd) (h : ∀ x ∈ l, 1 ≤ x.qty ∧ x.qty ≤ 9999) (kk id it : Int) : 0 ≤ sumD l kk id it ∧ sumD l kk id it ≤ 9999 * l.length := by
  induction l with
  | nil => simp [sumD]
  | cons x l ih =>
    have h1 := ih (fun y hy => h y (List.mem_cons_of_mem _ hy))
    have h2 := h x (List.mem_cons_self ..)
    rw [sumD, List.length_cons]
    split <;> constructor <;> omega
structure RL where
  os : List (Int × List Ln)
  ds : List Dd
def rowD (ds : List Dd) (id : Int) (x : Ln) : Rw := ⟨x.item, x.qty, sumD ds 0 id x.item, sumD ds 1 id x.item, sumD ds 2 id x.item⟩
def RL.ls (d : RL) : LS := d.os.map fun p => (p.1, p.2.map (rowD d.ds p.1))
structure RL.okay (d : RL) : Prop where
  right : ∀ p ∈ d.os, rightE p.2 = 0
  mine : ∀ x ∈ d.ds, (∃ p ∈ d.os, p.1 = x.id) ∧ 1 ≤ x.qty ∧ x.qty ≤ 9999
def RL.opened (d : RL) (id : Int) (ls : List Ln) : RL × Int := if rightE ls ≠ 0 then (d, rightE ls) else if (d.ls.get id).isSome = true then (d, 8) else (⟨d.os ++ [(id, ls)], d.ds⟩, 0)
def RL.dropped (d : RL) (id : Int) : RL × Int := if (d.ls.get id).isSome = true then (⟨d.os.filter fun p => p.1 != id, d.ds.filter fun x => x.id != id⟩, 0) else (d, 6)
def noRoom (kk : Int) (r : Rw) (qty : Int) : Bool := decide (qty < 1) || ((decide (kk < 2) && decide (r.wanted - r.picked - r.short < qty)) || (kk == 2 && decide (r.picked - r.put < qty)))
def RL.deed (d : RL) (kk id item qty : Int) : RL × Int := match d.ls.get id with
  | none => (d, 6)
  | some rs => match rs.find? (fun r => r.item == item) with
    | none => (d, 11)
    | some r => if noRoom kk r qty = true then (d, 10) else (⟨d.os, d.ds ++ [⟨kk, id, item, qty⟩]⟩, 0)
theorem sidx_ls (d : RL) (id : Int) : sidx d.ls id = d.os.findIdx? (fun p => p.1 == id) := by
  unfold sidx RL.ls
  rw [List.findIdx?_map]
  rfl
theorem idx_in {d : RL} {id : Int} {j : Nat} (h : sidx d.ls id = some j) : ∃ ls, d.os[j]? = some (id, ls) ∧ d.ls[j]? = some (id, ls.map (rowD d.ds id)) ∧ d.ls.get id = some (ls.map (rowD d.ds id)) := by
  obtain ⟨rs, h1, h2⟩ := get_some h
  unfold RL.ls at h1
  rw [List.getElem?_map] at h1
  cases hp : d.os[j]? with
  | none => rw [hp] at h1; simp at h1
  | some p =>
    rw [hp, Option.map_some] at h1
    simp only [Option.some.injEq, Prod.mk.injEq] at h1
    obtain ⟨rfl, rfl⟩ := h1
    exact ⟨p.2, rfl, by unfold RL.ls; rw [List.getElem?_map, hp]; rfl, h2⟩
theorem in_get {d : RL} {id : Int} (h : ∃ p ∈ d.os, p.1 = id) : (d.ls.get id).isSome = true := by
  cases hj : sidx d.ls id with
  | some j => obtain ⟨ls, -, -, h3⟩ := idx_in hj; rw [h3]; rfl
  | none =>
    rw [sidx_ls, List.findIdx?_eq_none_iff] at hj
    obtain ⟨p, hp, hpi⟩ := h
    have := hj p hp
    simp [hpi] at this
theorem none_mine {d : RL} (h : d.okay) {id : Int} (hg : d.ls.get id = none) : ∀ x ∈ d.ds, x.id ≠ id := fun x hx c => by
  have := in_get (d := d) (id := x.id) (h.mine x hx).1
  rw [c, hg] at this
  simp at this
theorem open_sim {d : RL} (h : d.okay) (id : Int) (ls : List Ln) : d.ls.openUp id ls = ((d.opened id ls).1.ls, (d.opened id ls).2) ∧ (d.opened id ls).1.okay := by
  unfold LS.openUp RL.opened
  split
  · exact ⟨rfl, h⟩
  · split
    · exact ⟨rfl, h⟩
    · rename_i h1 h2
      have hg : d.ls.get id = none := by simpa using h2
      refine ⟨?_, ?_, ?_⟩
      · simp only [Prod.mk.injEq, and_true]
        show _ = List.map _ _
        rw [List.map_append]
        congr 1
        simp only [List.map_cons, List.map_nil, List.cons.injEq, Prod.mk.injEq, true_and, and_true]
        refine List.map_congr_left (fun x _ => ?_)
        unfold row0 rowD
        rw [sumD_zero _ _ _ _ (none_mine h hg), sumD_zero _ _ _ _ (none_mine h hg), sumD_zero _ _ _ _ (none_mine h hg)]
      · intro p hp
        rcases List.mem_append.1 hp with hp | hp
        · exact h.right p hp
        · simp only [List.mem_singleton] at hp
          subst hp
          simpa using h1
      · intro x hx
        obtain ⟨⟨p, hp, hpi⟩, hq⟩ := h.mine x hx
        exact ⟨⟨p, List.mem_append_left _ hp, hpi⟩, hq⟩
theorem filter_erase {β : Type} (l : List (Int × β)) (id : Int) (hn : (l.map (·.1)).Nodup) : ∀ j, l.findIdx? (fun p => p.1 == id) = some j → l.filter (fun p => p.1 != id) = l.eraseIdx j := by
  induction l with
  | nil => intro j h; simp at h
  | cons p l ih =>
    intro j h
    simp only [List.map_cons, List.nodup_cons] at hn
    rw [List.findIdx?_cons] at h
    by_cases e : p.1 = id
    · simp only [e, beq_self_eq_true, if_true, Option.some.injEq] at h
      subst h
      rw [List.filter_cons_of_neg (by simpa using e), List.eraseIdx_cons_zero]
      rw [List.filter_eq_self]
      intro q hq
      have : q.1 ≠ id := fun c => hn.1 (by rw [e, ← c]; exact List.mem_map_of_mem hq)
      simpa using this
    · have e' : (p.1 == id) = false := by simpa using e
      simp only [e', Bool.false_eq_true, if_false] at h
      cases hj : l.findIdx? (fun p => p.1 == id) with
      | none => rw [hj] at h; simp at h
      | some q =>
        rw [hj] at h
        simp only [Option.map_some, Option.some.injEq] at h
        subst h
        rw [List.filter_cons_of_pos (by simpa using e), List.eraseIdx_cons_succ, ih hn.2 q hj]
theorem ls_keys (d : RL) : d.ls.map (·.1) = d.os.map (·.1) := by simp [RL.ls, Function.comp_def]
theorem drop_sim {d : RL} (h : d.okay) (hg : d.ls.good) (id : Int) : d.ls.drop id = ((d.dropped id).1.ls, (d.dropped id).2) ∧ (d.dropped id).1.okay := by
  unfold LS.drop RL.dropped
  cases hj : sidx d.ls id with
  | none => rw [get_none hj]; exact ⟨rfl, h⟩
  | some j =>
    obtain ⟨ls, h1, h2, h3⟩ := idx_in hj
    rw [h3]
    simp only [Option.isSome_some, if_true]
    have hn := hg.once
    rw [ls_keys] at hn
    have hj' := hj
    rw [sidx_ls] at hj'
    refine ⟨?_, ?_, ?_⟩
    · simp only [Prod.mk.injEq, and_true]
      show List.eraseIdx (List.map _ _) _ = List.map _ _
      rw [erase_map, ← filter_erase _ _ hn _ hj']
      refine List.map_congr_left (fun p hp => ?_)
      have hne : p.1 ≠ id := by have := (List.mem_filter.1 hp).2; simpa using this
      refine Prod.ext rfl ?_
      refine List.map_congr_left (fun x _ => ?_)
      unfold rowD
      rw [sumD_filter _ _ _ _ _ hne, sumD_filter _ _ _ _ _ hne, sumD_filter _ _ _ _ _ hne]
    · exact fun p hp => h.right p (List.mem_filter.1 hp).1
    · intro x hx
      obtain ⟨hx1, hx2⟩ := List.mem_filter.1 hx
      obtain ⟨⟨p, hp, hpi⟩, hq⟩ := h.mine x hx1
      exact ⟨⟨p, List.mem_filter.2 ⟨hp, by rw [hpi]; exact hx2⟩, hpi⟩, hq⟩
theorem find_idx {α : Type} (p : α → Bool) (l : List α) : l.find? p = (l.findIdx? p).bind fun i => l[i]? := by
  induction l with
  | nil => rfl
  | cons x l ih =>
    rw [List.find?_cons, List.findIdx?_cons]
    cases hx : p x with
    | true => simp
    | false =>
      simp only [Bool.false_eq_true, if_false]
      rw [ih]
      cases l.findIdx? p <;> simp
theorem apart_lines {ls : List Ln} (h : rightE ls = 0) {i j : Nat} (hij : i < j) {x y : Ln} (hx : ls[i]? = some x) (hy : ls[j]? = some y) : x.item ≠ y.item := by
  have h1 := (lineE_ok (right_line h hy)).2.2.2
  rw [List.any_eq_false] at h1
  have hm : x ∈ ls.take j := by
    refine List.mem_of_getElem? (i := i) ?_
    rw [List.getElem?_take, if_pos hij]; exact hx
  have := h1 x hm
  simp only [Bool.or_eq_true, beq_iff_eq, not_or] at this
  exact this.1
theorem room_iff {r : Rw} (h : r.ok) (k : Nat) (hk : k ≤ 2) (q : Int) : noRoom k r q = true ↔ ¬ ((1 ≤ q ∧ q ≤ 9999) ∧ (r.add (k + 1) q).right = true) := by
  have h1 := h.a
  have h2 := h.b
  unfold noRoom
  obtain rfl | rfl | rfl : k = 0 ∨ k = 1 ∨ k = 2 := by omega
  · simp [Rw.add, Rw.right, Rw.left]; omega
  · simp [Rw.add, Rw.right, Rw.left]; omega
  · simp [Rw.add, Rw.right, Rw.left]; omega
theorem sum_snoc (l : List Dd) (x : Dd) (kk id it : Int) : sumD (l ++ [x]) kk id it = sumD l kk id it + if x.is kk id it = true then x.qty else 0 := by
  rw [sumD_app, sumD, sumD]; omega
theorem is_far (k id item q kk id' it : Int) (h : id' ≠ id ∨ it ≠ item) : (Dd.mk k id item q).is kk id' it = false := by
  unfold Dd.is
  rcases h with h | h
  · have : (id == id') = false := by simpa using fun c : id = id' => h c.symm
    simp [this]
  · have : (item == it) = false := by simpa using fun c : item = it => h c.symm
    simp [this]
theorem row_far (ds : List Dd) (k id item q id' : Int) (x : Ln) (h : id' ≠ id ∨ x.item ≠ item) : rowD (ds ++ [⟨k, id, item, q⟩]) id' x = rowD ds id' x := by
  unfold rowD
  rw [sum_snoc, sum_snoc, sum_snoc, is_far _ _ _ _ _ _ _ h, is_far _ _ _ _ _ _ _ h, is_far _ _ _ _ _ _ _ h]
  simp
theorem row_here (ds : List Dd) (k : Nat) (hk : k ≤ 2) (id q : Int) (x : Ln) : rowD (ds ++ [⟨k, id, x.item, q⟩]) id x = (rowD ds id x).add (k + 1) q := by
  unfold rowD Rw.add
  rw [sum_snoc, sum_snoc, sum_snoc]
  obtain rfl | rfl | rfl : k = 0 ∨ k = 1 ∨ k = 2 := by omega
  all_goals simp [Dd.is]
theorem deed_sim {d : RL} (h : d.okay) (hg : d.ls.good) (id item q : Int) (k : Nat) (hk : k ≤ 2) : d.ls.turn id item q (k + 1) = ((d.deed k id item q).1.ls, (d.deed k id item q).2) ∧ (d.deed k id item q).1.okay := by
  unfold LS.turn RL.deed
  cases hj : sidx d.ls id with
  | none => rw [get_none hj]; exact ⟨rfl, h⟩
  | some j =>
    obtain ⟨ls, h1, h2, h3⟩ := idx_in hj
    rw [h3]
    simp only [h2, find_idx]
    cases hi : (ls.map (rowD d.ds id)).findIdx? (fun r => r.item == item) with
    | none => exact ⟨rfl, h⟩
    | some i =>
      simp only [Option.bind_some]
      cases hr : (ls.map (rowD d.ds id))[i]? with
      | none => exact ⟨rfl, h⟩
      | some r =>
        have hrm : r ∈ ls.map (rowD d.ds id) := List.mem_of_getElem? hr
        have hok : r.ok := hg.ok (id, ls.map (rowD d.ds id)) (List.mem_of_getElem? h2) r hrm
        have hiff := room_iff hok k hk q
        have hit : r.item = item := by
          obtain ⟨hlt, hh, -⟩ := List.findIdx?_eq_some_iff_getElem.1 hi
          have e := (List.getElem?_eq_some_iff.1 hr).2
          rw [e] at hh
          simpa using hh
        simp only
        by_cases hq : (1 ≤ q ∧ q ≤ 9999) ∧ (r.add (k + 1) q).right = true
        · have hn : ¬ noRoom k r q = true := fun c => hiff.1 c hq
          rw [if_neg (by omega), if_pos hq.2, if_neg hn]
          have hos : (id, ls) ∈ d.os := List.mem_of_getElem? h1
          refine ⟨?_, h.right, ?_⟩
          · simp only [Prod.mk.injEq, and_true]
            show List.set (List.map _ _) _ _ = List.map _ _
            apply List.ext_getElem?
            intro j'
            rw [List.getElem?_map]
            by_cases e : j' = j
            · subst e
              have hlt : j' < d.os.length := (List.getElem?_eq_some_iff.1 h1).1
              rw [List.getElem?_set_self (by rw [List.length_map]; exact hlt), h1, Option.map_some]
              simp only [Option.some.injEq, Prod.mk.injEq, true_and]
              apply List.ext_getElem?
              intro i'
              rw [List.getElem?_map]
              rw [List.getElem?_map] at hr
              cases hx : ls[i]? with
              | none => rw [hx] at hr; simp at hr
              | some x =>
                rw [hx, Option.map_some] at hr
                have hr' := Option.some.inj hr
                have hxi : x.item = item := by rw [← hit, ← hr']; rfl
                by_cases e2 : i' = i
                · subst e2
                  have hlt2 : i' < ls.length := (List.getElem?_eq_some_iff.1 hx).1
                  rw [List.getElem?_set_self (by rw [List.length_map]; exact hlt2), hx, Option.map_some, ← hxi, row_here _ k hk, hr']
                · rw [List.getElem?_set_ne (fun c => e2 c.symm), List.getElem?_map]
                  cases hy : ls[i']? with
                  | none => rfl
                  | some y =>
                    simp only [Option.map_some, Option.some.injEq]
                    refine (row_far _ _ _ _ _ _ _ (.inr ?_)).symm
                    rcases Nat.lt_or_gt_of_ne e2 with c | c
                    · rw [← hxi]; exact apart_lines (h.right _ hos) c hy hx
                    · rw [← hxi]; exact (apart_lines (h.right _ hos) c hx hy).symm
            · rw [List.getElem?_set_ne (fun c => e c.symm), List.getElem?_map]
              cases hp : d.os[j']? with
              | none => rfl
              | some p =>
                simp only [Option.map_some, Option.some.injEq]
                have hne : p.1 ≠ id := by
                  intro c
                  have hn := hg.once
                  rw [ls_keys] at hn
                  have a1 : (d.os.map (·.1))[j']? = some id := by rw [List.getElem?_map, hp, Option.map_some, c]
                  have a2 : (d.os.map (·.1))[j]? = some id := by rw [List.getElem?_map, h1, Option.map_some]
                  exact e ((List.getElem?_inj (List.getElem?_eq_some_iff.1 a1).1 hn).1 (a1.trans a2.symm))
                refine Prod.ext rfl ?_
                exact List.map_congr_left (fun x _ => (row_far _ _ _ _ _ _ _ (.inl hne)).symm)
          · intro x hx
            rcases List.mem_append.1 hx with hx | hx
            · exact h.mine x hx
            · simp only [List.mem_singleton] at hx
              subst hx
              exact ⟨⟨_, hos, rfl⟩, hq.1⟩
        · rw [if_pos (hiff.2 hq)]
          refine ⟨?_, h⟩
          by_cases hq1 : q < 1 ∨ 9999 < q
          · rw [if_pos hq1]
          · rw [if_neg hq1, if_neg (fun c => hq ⟨by omega, c⟩)]
end Go.Proofs.Ytkjcmnhhgnlaeaa
