import Derived.Test.YtienodnkfohakaaWal8
namespace Go.Proofs.Ytienodnkfohakaa
set_option linter.unusedVariables false
set_option linter.unusedSimpArgs false
open Go.RowKit
/-! The needs of a cubby, by item. -/
def Asc (l : List Ln) : Prop := l.Pairwise fun x y => x.item < y.item
def lk (l : List Ln) (it : Int) : Option Ln := l.find? fun x => x.item == it
theorem lk_nil (it : Int) : lk [] it = none := rfl
theorem lk_cons (x : Ln) (l : List Ln) (it : Int) : lk (x :: l) it = if x.item = it then some x else lk l it := by
  unfold lk
  rw [List.find?_cons]
  by_cases h : x.item = it
  · rw [show (x.item == it) = true by simpa using h, if_pos h]
  · rw [show (x.item == it) = false by simpa using h, if_neg h]
theorem lk_none_of {l : List Ln} {it : Int} (h : ∀ x ∈ l, x.item ≠ it) : lk l it = none := by
  unfold lk
  rw [List.find?_eq_none]
  intro x hx
  simpa using h x hx
theorem lk_some_of {l : List Ln} (hs : Asc l) {k : Nat} {x : Ln} (hx : l[k]? = some x) : lk l x.item = some x := by
  induction l generalizing k with
  | nil => simp at hx
  | cons y l ih =>
    rw [lk_cons]
    have hs' := List.pairwise_cons.1 hs
    cases k with
    | zero => simp only [List.getElem?_cons_zero, Option.some.injEq] at hx; subst hx; rw [if_pos rfl]
    | succ k =>
      rw [List.getElem?_cons_succ] at hx
      have := hs'.1 x (List.mem_of_getElem? hx)
      rw [if_neg (by omega)]
      exact ih hs'.2 hx
theorem lk_mem {l : List Ln} {it : Int} {x : Ln} (h : lk l it = some x) : x ∈ l ∧ x.item = it := by
  unfold lk at h
  exact ⟨List.mem_of_find?_eq_some h, by simpa using List.find?_some h⟩
theorem lk_at {l : List Ln} {it : Int} {x : Ln} (h : lk l it = some x) : ∃ k : Nat, l[k]? = some x := List.mem_iff_getElem?.1 (lk_mem h).1
/-- bpos and isat say what lk says. -/
theorem bpos_of {l : List Ln} (hs : Asc l) {k : Nat} {x : Ln} (hx : l[k]? = some x) : bpos l x.item = k := by
  refine bpos_at (Nat.le_of_lt (List.getElem?_eq_some_iff.1 hx).1) (fun i y hi hy => ?_) (fun y hy => ?_)
  · have h1 := List.pairwise_iff_getElem.1 hs i k (List.getElem?_eq_some_iff.1 hy).1 (List.getElem?_eq_some_iff.1 hx).1 hi
    rw [(List.getElem?_eq_some_iff.1 hy).2, (List.getElem?_eq_some_iff.1 hx).2] at h1
    exact h1
  · rw [hx] at hy
    obtain rfl := Option.some.inj hy
    omega
theorem isat_lk {l : List Ln} (hs : Asc l) (it : Int) : isat l it = (lk l it).isSome ∧ (∀ x, lk l it = some x → l[bpos l it]? = some x) := by
  cases h : lk l it with
  | none =>
    refine ⟨?_, by simp⟩
    unfold isat
    cases hb : l[bpos l it]? with
    | none => rfl
    | some x =>
      unfold lk at h
      have := List.find?_eq_none.1 h x (List.mem_of_getElem? hb)
      simpa using this
  | some x =>
    obtain ⟨k, hk⟩ := lk_at h
    have he := (lk_mem h).2
    have hb := bpos_of hs hk
    rw [he] at hb
    refine ⟨?_, fun y hy => ?_⟩
    · unfold isat
      rw [hb, hk]
      simpa using he
    · obtain rfl := Option.some.inj hy
      rw [hb, hk]
theorem asc_ext {a b : List Ln} (ha : Asc a) (hb : Asc b) (h : ∀ it, lk a it = lk b it) : a = b := by
  induction a generalizing b with
  | nil =>
    cases b with
    | nil => rfl
    | cons y b => have := h y.item; rw [lk_nil, lk_cons, if_pos rfl] at this; simp at this
  | cons x a ih =>
    have ha' := List.pairwise_cons.1 ha
    cases b with
    | nil => have := h x.item; rw [lk_nil, lk_cons, if_pos rfl] at this; simp at this
    | cons y b =>
      have hb' := List.pairwise_cons.1 hb
      have hxy : x.item = y.item := by
        rcases Int.lt_trichotomy x.item y.item with c | c | c
        · have h1 := h x.item
          rw [lk_cons, if_pos rfl, lk_cons, if_neg (by omega)] at h1
          have := hb'.1 x (lk_mem h1.symm).1
          omega
        · exact c
        · have h1 := h y.item
          rw [lk_cons, if_neg (by omega), lk_cons, if_pos rfl] at h1
          have := ha'.1 y (lk_mem h1).1
          omega
      have e : x = y := by
        have h1 := h x.item
        rw [lk_cons, if_pos rfl, lk_cons, if_pos hxy.symm] at h1
        exact Option.some.inj h1
      subst e
      congr 1
      refine ih ha'.2 hb'.2 (fun it => ?_)
      by_cases hi : x.item = it
      · subst hi
        rw [lk_none_of (fun z hz => by have := ha'.1 z hz; omega), lk_none_of (fun z hz => by have := hb'.1 z hz; omega)]
      · have h1 := h it
        rw [lk_cons, if_neg hi, lk_cons, if_neg hi] at h1
        exact h1
/-! A put. -/
def lput (l : List Ln) (it qty : Int) : List Ln × Int :=
  match lk l it with
  | none => (l, 11)
  | some x => if qty < 1 ∨ x.qty < qty then (l, 10) else if x.qty - qty = 0 then (l.eraseIdx (bpos l it), 0) else (l.set (bpos l it) { x with qty := x.qty - qty }, 0)
theorem asc_erase {l : List Ln} (h : Asc l) (k : Nat) : Asc (l.eraseIdx k) := h.sublist (List.eraseIdx_sublist l k)
theorem asc_set {l : List Ln} (h : Asc l) {k : Nat} {x : Ln} (hx : l[k]? = some x) (q : Int) : Asc (l.set k { x with qty := q }) := by
  have hm : (l.set k { x with qty := q }).map Ln.item = l.map Ln.item := by
    apply List.ext_getElem?
    intro j
    rw [List.getElem?_map, List.getElem?_map, List.getElem?_set]
    by_cases e : k = j
    · subst e
      rw [if_pos rfl, if_pos (List.getElem?_eq_some_iff.1 hx).1, hx]
      rfl
    · rw [if_neg e]
  have h1 : (l.map Ln.item).Pairwise (· < ·) := List.pairwise_map.2 h
  rw [← hm] at h1
  exact List.pairwise_map.1 h1
theorem lk_erase {l : List Ln} (h : Asc l) {k : Nat} {x : Ln} (hx : l[k]? = some x) (it : Int) : lk (l.eraseIdx k) it = if it = x.item then none else lk l it := by
  induction l generalizing k with
  | nil => simp at hx
  | cons y l ih =>
    have h' := List.pairwise_cons.1 h
    cases k with
    | zero =>
      simp only [List.getElem?_cons_zero, Option.some.injEq] at hx
      subst hx
      rw [List.eraseIdx_cons_zero, lk_cons]
      by_cases e : it = y.item
      · rw [if_pos e, lk_none_of (fun z hz => by have := h'.1 z hz; omega)]
      · rw [if_neg e, if_neg (fun c => e c.symm)]
    | succ k =>
      rw [List.getElem?_cons_succ] at hx
      rw [List.eraseIdx_cons_succ, lk_cons, lk_cons, ih h'.2 hx]
      have := h'.1 x (List.mem_of_getElem? hx)
      by_cases e : y.item = it
      · rw [if_pos e, if_neg (by omega), if_pos e]
      · rw [if_neg e, if_neg e]
theorem lk_set {l : List Ln} (h : Asc l) {k : Nat} {x : Ln} (hx : l[k]? = some x) (q it : Int) : lk (l.set k { x with qty := q }) it = if it = x.item then some { x with qty := q } else lk l it := by
  induction l generalizing k with
  | nil => simp at hx
  | cons y l ih =>
    have h' := List.pairwise_cons.1 h
    cases k with
    | zero =>
      simp only [List.getElem?_cons_zero, Option.some.injEq] at hx
      subst hx
      rw [List.set_cons_zero, lk_cons, lk_cons]
      by_cases e : it = y.item
      · rw [if_pos e.symm, if_pos e]
      · rw [if_neg (fun c => e c.symm), if_neg e, if_neg (fun c => e c.symm)]
    | succ k =>
      rw [List.getElem?_cons_succ] at hx
      rw [List.set_cons_succ, lk_cons, lk_cons, ih h'.2 hx]
      have := h'.1 x (List.mem_of_getElem? hx)
      by_cases e : y.item = it
      · rw [if_pos e, if_neg (by omega), if_pos e]
      · rw [if_neg e, if_neg e]
/-- The needs of a cubby are right: by rising items, none is nothing, twelve at most. -/
structure Need (l : List Ln) : Prop where
  asc : Asc l
  pos : ∀ x ∈ l, 1 ≤ x.qty ∧ x.qty ≤ 9223372036854775807
  len : l.length ≤ 12
theorem Need.nil : Need [] := ⟨List.Pairwise.nil, by simp, by simp⟩
theorem lk_lput {l : List Ln} (h : Need l) (it qty j : Int) : lk (lput l it qty).1 j = match lk l it with
    | none => lk l j
    | some x => if qty < 1 ∨ x.qty < qty then lk l j else if j = it then (if x.qty - qty = 0 then none else some { x with qty := x.qty - qty }) else lk l j := by
  unfold lput
  cases hl : lk l it with
  | none => rfl
  | some x =>
    obtain ⟨k, hk⟩ := lk_at hl
    have he := (lk_mem hl).2
    have hb := bpos_of h.asc hk
    rw [he] at hb
    dsimp only
    by_cases c : qty < 1 ∨ x.qty < qty
    · rw [if_pos c, if_pos c]
    · rw [if_neg c, if_neg c]
      by_cases c2 : x.qty - qty = 0
      · rw [if_pos c2, hb, if_pos c2]
        dsimp only
        rw [lk_erase h.asc hk, he]
      · rw [if_neg c2, hb, if_neg c2]
        dsimp only
        rw [lk_set h.asc hk, he]
theorem Need.put {l : List Ln} (h : Need l) (it qty : Int) : Need (lput l it qty).1 := by
  unfold lput
  cases hl : lk l it with
  | none => exact h
  | some x =>
    obtain ⟨k, hk⟩ := lk_at hl
    have he := (lk_mem hl).2
    have hb := bpos_of h.asc hk
    rw [he] at hb
    have hp := h.pos x (List.mem_of_getElem? hk)
    dsimp only
    split
    · exact h
    · rename_i c
      split
      · dsimp only
        rw [hb]
        refine ⟨asc_erase h.asc k, fun y hy => h.pos y ((List.eraseIdx_sublist l k).mem hy), ?_⟩
        have := (List.eraseIdx_sublist l k).length_le
        have := h.len
        omega
      · rename_i c2
        dsimp only
        rw [hb]
        refine ⟨asc_set h.asc hk _, fun y hy => ?_, by rw [List.length_set]; exact h.len⟩
        rcases List.mem_or_eq_of_mem_set hy with hy | rfl
        · exact h.pos y hy
        · dsimp only
          omega
theorem lput_errno {l : List Ln} (it qty : Int) : (lput l it qty).2 = match lk l it with
    | none => 11
    | some x => if qty < 1 ∨ x.qty < qty then 10 else 0 := by
  unfold lput
  cases lk l it with
  | none => rfl
  | some x =>
    dsimp only
    split
    · rfl
    · split <;> rfl
theorem nil_lk {l : List Ln} : l = [] ↔ ∀ it, lk l it = none := by
  constructor
  · rintro rfl it; rfl
  · intro h
    cases l with
    | nil => rfl
    | cons x l => have := h x.item; rw [lk_cons, if_pos rfl] at this; simp at this
theorem pidx_map {α β : Type} (f : α → β) (l : List α) (p : β → Bool) : pidx (l.map f) p = pidx l (fun x => p (f x)) := by unfold pidx; rw [List.findIdx?_map]; rfl
/-! The wall. -/
structure Cb where
  held : Bool
  order : Int
  needs : List Ln
def Cb.zero : Cb := ⟨false, 0, []⟩
structure WS where
  cubs : List Cb
structure Cb.good (c : Cb) : Prop where
  need : Need c.needs
  free : c.held = false → c.needs = []
structure WS.good (s : WS) : Prop where
  n1 : 1 ≤ s.cubs.length
  n16 : s.cubs.length ≤ 16
  each : ∀ c ∈ s.cubs, c.good
/-- The least cubby of an order, or -1. -/
def WS.of (s : WS) (id : Int) : Int := pidx s.cubs fun c => c.held && (c.order == id)
def WS.free1 (s : WS) : Int := pidx s.cubs fun c => !c.held
def WS.at (s : WS) (n : Int) : Option Cb := if n < 0 then none else match s.cubs[n.toNat]? with | some c => if c.held then some c else none | none => none
def WS.upd (s : WS) (k : Nat) (c : Cb) : WS := ⟨s.cubs.set k c⟩
theorem WS.good.upd {s : WS} (h : s.good) (k : Nat) {c : Cb} (hc : c.good) : (s.upd k c).good :=
  ⟨by simpa [WS.upd] using h.n1, by simpa [WS.upd] using h.n16, fun x hx => by
    rcases List.mem_or_eq_of_mem_set hx with hx | rfl
    · exact h.each x hx
    · exact hc⟩
def WS.free (s : WS) : Int := ((s.cubs.filter fun c => !c.held).length : Nat)
def WS.order (s : WS) (n : Int) : Value := match s.at n with | some c => .tuple #[.int .u32 c.order, .bool true] | none => .tuple #[.int .u32 0, .bool false]
def WS.needs (s : WS) (n : Int) : List Ln := match s.at n with | some c => c.needs | none => []
def WS.assign (s : WS) (id : Int) (l : List Ln) : WS × Int × Int :=
  if 0 ≤ s.of id then (s, 0, 8) else if badL (sortL l) then (s, 0, 1) else if s.free1 < 0 then (s, 0, 5) else (s.upd s.free1.toNat ⟨true, id, sortL l⟩, s.free1, 0)
def WS.put (s : WS) (n it qty : Int) : WS × Int := match s.at n with | none => (s, 6) | some c => (s.upd n.toNat { c with needs := (lput c.needs it qty).1 }, (lput c.needs it qty).2)
def WS.less (s : WS) (id it qty : Int) : WS × Int := if s.of id < 0 then (s, 6) else s.put (s.of id) it qty
def WS.full (s : WS) (n : Int) : Bool := match s.at n with | some c => decide ((c.needs.length : Int) = 0) | none => false
def WS.release (s : WS) (n : Int) : WS × Int × Int := match s.at n with | some c => if s.full n then (s.upd n.toNat Cb.zero, c.order, 0) else (s, 0, 7) | none => (s, 0, 7)
def WS.scan (s : WS) (it : Int) : Int × Int × Int := match s.cubs.findIdx? (fun c => (lk c.needs it).isSome) with | some k => (k, (match s.cubs[k]? with | some c => (match lk c.needs it with | some x => x.qty | none => 0) | none => 0), 0) | none => (0, 0, 11)
theorem at_in {s : WS} {n : Int} {c : Cb} (h : s.at n = some c) : 0 ≤ n ∧ s.cubs[n.toNat]? = some c ∧ c.held = true := by
  unfold WS.at at h
  split at h
  · simp at h
  · split at h
    · split at h
      · obtain rfl := Option.some.inj h
        rename_i h1 _ _ h2 h3
        exact ⟨by omega, h2, h3⟩
      · simp at h
    · simp at h
theorem WS.good.put {s : WS} (h : s.good) (n it qty : Int) : (s.put n it qty).1.good := by
  unfold WS.put
  cases ha : s.at n with
  | none => exact h
  | some c =>
    obtain ⟨h0, h1, h2⟩ := at_in ha
    have hc := h.each c (List.mem_of_getElem? h1)
    exact h.upd _ ⟨hc.need.put it qty, fun hh => by rw [h2] at hh; simp at hh⟩
theorem WS.good.less {s : WS} (h : s.good) (id it qty : Int) : (s.less id it qty).1.good := by
  unfold WS.less
  split
  · exact h
  · exact h.put _ _ _
theorem Cb.zero_good : Cb.zero.good := ⟨Need.nil, fun _ => rfl⟩
theorem WS.good.release {s : WS} (h : s.good) (n : Int) : (s.release n).1.good := by
  unfold WS.release
  split
  · split
    · exact h.upd _ Cb.zero_good
    · exact h
  · exact h
theorem badL_need {l : List Ln} (hn : l.length ≤ 12) (hq : ∀ x ∈ l, x.qty ≤ 9223372036854775807) (hb : badL (sortL l) = false) : Need (sortL l) := by
  obtain ⟨h1, h2, h3⟩ := sortL_facts l
  have hnb : ∀ k, k < (sortL l).length → badAt (sortL l) k = false := by
    intro k hk
    have := List.any_eq_false.1 hb k (List.mem_range.2 hk)
    simpa using this
  refine ⟨?_, fun x hx => ?_, by omega⟩
  · refine List.pairwise_iff_getElem.2 (fun i j hi hj hij => ?_)
    have hstep : ∀ k (hk : k + 1 < (sortL l).length), ((sortL l)[k]'(by omega)).item < ((sortL l)[k + 1]).item := by
      intro k hk
      have h4 := List.pairwise_iff_getElem.1 h3 k (k + 1) (by omega) hk (by omega)
      have h5 := hnb (k + 1) hk
      simp only [badAt, List.getElem?_eq_getElem hk, Nat.add_sub_cancel, List.getElem?_eq_getElem (show k < (sortL l).length by omega)] at h5
      simp at h5
      omega
    have hgo : ∀ d (hd : i + d + 1 < (sortL l).length), ((sortL l)[i]).item < ((sortL l)[i + d + 1]).item := by
      intro d
      induction d with
      | zero => intro hd; exact hstep i hd
      | succ d ih => intro hd; have a := ih (by omega); have b := hstep (i + d + 1) hd; exact Int.lt_trans a b
    obtain ⟨d, rfl⟩ : ∃ d, j = i + d + 1 := ⟨j - i - 1, by omega⟩
    exact hgo d hj
  · have hx2 : x ∈ l := h2.mem_iff.1 hx
    obtain ⟨k, hk⟩ := List.mem_iff_getElem?.1 hx
    have h5 := hnb k (List.getElem?_eq_some_iff.1 hk).1
    simp only [badAt, hk, Bool.or_eq_false_iff, decide_eq_false_iff_not] at h5
    exact ⟨by omega, hq x hx2⟩
theorem WS.good.assign {s : WS} (h : s.good) (id : Int) {l : List Ln} (hn : l.length ≤ 12) (hq : ∀ x ∈ l, x.qty ≤ 9223372036854775807) : (s.assign id l).1.good := by
  unfold WS.assign
  split
  · exact h
  · split
    · exact h
    · split
      · exact h
      · rename_i hb _
        exact h.upd _ ⟨badL_need hn hq (by simpa using hb), fun c => by simp at c⟩
end Go.Proofs.Ytienodnkfohakaa
