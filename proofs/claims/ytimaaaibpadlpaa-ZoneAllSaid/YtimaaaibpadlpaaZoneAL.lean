import Derived.Test.YtimaaaibpadlpaaZoneVL
import Derived.Test.YtimaaaibpadlpaaBase3
import Derived.Test.YtimaaaibpadlpaaZoneArgs
namespace Go.Proofs.Ytimaaaibpadlpaa
set_option linter.unusedVariables false
set_option linter.unusedSimpArgs false
open Go.RowKit

/-- a line, cut -/
def cut (x : Ln) : Ln := ⟨x.item, x.loc % 10, x.qty % 65536 % 10000⟩
/-- what is wanted of each location: the first that is something -/
def first (ls : List Ln) : Nat → Int := ls.foldl (fun f x => if f x.loc.toNat = 0 then upd f x.loc.toNat x.qty else f) (fun _ => 0)
/-- what is left of each -/
def lft : List Ln → Nat → Int
  | [], _ => 0
  | x :: l, c => if x.loc.toNat = c then x.qty else lft l c
/-- Lines as they stand in a zone: of 0 to 9, each something, each location once. -/
structure good (ls : List Ln) : Prop where
  r : ∀ x ∈ ls, 0 ≤ x.loc ∧ x.loc < 10 ∧ 1 ≤ x.qty ∧ x.qty ≤ 9999
  d : (ls.map Ln.loc).Nodup

theorem lft_none (ls : List Ln) (c : Nat) (h : ∀ x ∈ ls, x.loc.toNat ≠ c) : lft ls c = 0 := by
  induction ls with
  | nil => rfl
  | cons x l ih => rw [lft, if_neg (h x (List.mem_cons_self ..)), ih (fun y hy => h y (List.mem_cons_of_mem _ hy))]
theorem lft_append (a b : List Ln) (c : Nat) : lft (a ++ b) c = if (∃ x ∈ a, x.loc.toNat = c) then lft a c else lft b c := by
  induction a with
  | nil => simp
  | cons x a ih =>
    rw [List.cons_append, lft, lft, ih]
    by_cases h : x.loc.toNat = c
    · simp [h]
    · simp [h]
theorem lft_mem {ls : List Ln} {x : Ln} (hd : (ls.map Ln.loc).Nodup) (hr : ∀ x ∈ ls, 0 ≤ x.loc) (h : x ∈ ls) : lft ls x.loc.toNat = x.qty := by
  induction ls with
  | nil => simp at h
  | cons y l ih =>
    rw [List.map_cons, List.nodup_cons] at hd
    rw [lft]
    rcases List.mem_cons.1 h with rfl | h
    · simp
    · rw [if_neg, ih hd.2 (fun x hx => hr x (List.mem_cons_of_mem _ hx)) h]
      intro e
      have h1 := hr y (List.mem_cons_self ..)
      have h2 := hr x (List.mem_cons_of_mem _ h)
      have : y.loc = x.loc := by omega
      exact hd.1 (this ▸ List.mem_map_of_mem h)
theorem lft_bound {ls : List Ln} (h : good ls) (c : Nat) : 0 ≤ lft ls c ∧ lft ls c ≤ 9999 := by
  obtain ⟨hr, -⟩ := h
  induction ls with
  | nil => exact ⟨by show (0:Int) ≤ 0; omega, by show (0:Int) ≤ 9999; omega⟩
  | cons x l ih =>
    rw [lft]
    have := hr x (List.mem_cons_self ..)
    split
    · omega
    · exact ih (fun y hy => hr y (List.mem_cons_of_mem _ hy))
/-- a line less -/
theorem lft_erase {ls : List Ln} (h : good ls) {k : Nat} {x : Ln} (hx : ls[k]? = some x) (c : Nat) : lft (ls.eraseIdx k) c = if x.loc.toNat = c then 0 else lft ls c := by
  obtain ⟨hr, hd⟩ := h
  induction ls generalizing k with
  | nil => simp at hx
  | cons y l ih =>
    rw [List.map_cons, List.nodup_cons] at hd
    cases k with
    | zero =>
      simp only [List.getElem?_cons_zero, Option.some.injEq] at hx
      subst hx
      rw [List.eraseIdx_cons_zero, lft]
      by_cases e : y.loc.toNat = c
      · rw [if_pos e]
        refine lft_none l c (fun z hz he => hd.1 ?_)
        have h1 := hr y (List.mem_cons_self ..)
        have h2 := hr z (List.mem_cons_of_mem _ hz)
        have : y.loc = z.loc := by omega
        exact this ▸ List.mem_map_of_mem hz
      · rw [if_neg e, if_neg e]
    | succ k =>
      rw [List.getElem?_cons_succ] at hx
      rw [List.eraseIdx_cons_succ, lft, lft, ih hx (fun z hz => hr z (List.mem_cons_of_mem _ hz)) hd.2]
      by_cases e : y.loc.toNat = c
      · rw [if_pos e, if_pos e, if_neg]
        intro e2
        have h1 := hr y (List.mem_cons_self ..)
        have h2 := hr x (List.mem_cons_of_mem _ (List.mem_of_getElem? hx))
        have : y.loc = x.loc := by omega
        exact hd.1 (this ▸ List.mem_map_of_mem (List.mem_of_getElem? hx))
      · rw [if_neg e, if_neg e]
/-- less of a line -/
theorem lft_set {ls : List Ln} (h : good ls) {k : Nat} {x : Ln} (hx : ls[k]? = some x) (q : Int) (c : Nat) : lft (ls.set k { x with qty := q }) c = if x.loc.toNat = c then q else lft ls c := by
  obtain ⟨hr, hd⟩ := h
  induction ls generalizing k with
  | nil => simp at hx
  | cons y l ih =>
    rw [List.map_cons, List.nodup_cons] at hd
    cases k with
    | zero =>
      simp only [List.getElem?_cons_zero, Option.some.injEq] at hx
      subst hx
      rw [List.set_cons_zero, lft, lft]
      by_cases e : y.loc.toNat = c
      · simp only [e, if_true]
      · simp only [e, if_false]
    | succ k =>
      rw [List.getElem?_cons_succ] at hx
      rw [List.set_cons_succ, lft, lft, ih hx (fun z hz => hr z (List.mem_cons_of_mem _ hz)) hd.2]
      by_cases e : y.loc.toNat = c
      · rw [if_pos e, if_pos e, if_neg]
        intro e2
        have h1 := hr y (List.mem_cons_self ..)
        have h2 := hr x (List.mem_cons_of_mem _ (List.mem_of_getElem? hx))
        have : y.loc = x.loc := by omega
        exact hd.1 (this ▸ List.mem_map_of_mem (List.mem_of_getElem? hx))
      · rw [if_neg e, if_neg e]
theorem good_erase {ls : List Ln} (h : good ls) (k : Nat) : good (ls.eraseIdx k) :=
  ⟨fun x hx => h.r x (List.mem_of_mem_eraseIdx hx), (List.Sublist.map Ln.loc (List.eraseIdx_sublist ..)).nodup h.d⟩
theorem good_set {ls : List Ln} (h : good ls) {k : Nat} {x : Ln} (hx : ls[k]? = some x) (q : Int) (h1 : 1 ≤ q) (h2 : q ≤ 9999) : good (ls.set k { x with qty := q }) := by
  refine ⟨fun y hy => ?_, ?_⟩
  · rcases List.mem_or_eq_of_mem_set hy with hy | rfl
    · exact h.r y hy
    · have := h.r x (List.mem_of_getElem? hx)
      exact ⟨this.1, this.2.1, h1, h2⟩
  · have : (ls.set k { x with qty := q }).map Ln.loc = ls.map Ln.loc := by
      rw [List.map_set]
      have : (ls.map Ln.loc)[k]? = some x.loc := by rw [List.getElem?_map, hx]; rfl
      obtain ⟨hk, e⟩ := List.getElem?_eq_some_iff.1 this
      rw [← e, List.set_getElem_self]
    rw [this]
    exact h.d
def ten : List Int := [0, 1, 2, 3, 4, 5, 6, 7, 8, 9]
theorem mem_ten (x : Int) (h0 : 0 ≤ x) (h1 : x < 10) : mem ten x = true := by
  have : x = 0 ∨ x = 1 ∨ x = 2 ∨ x = 3 ∨ x = 4 ∨ x = 5 ∨ x = 6 ∨ x = 7 ∨ x = 8 ∨ x = 9 := by omega
  rcases this with rfl | rfl | rfl | rfl | rfl | rfl | rfl | rfl | rfl | rfl <;> decide
/-- What comes is what is wanted. -/
theorem wants_first (n : Nat) : ∀ (ls : List Ln), ls.length = n → (∀ x ∈ ls, 0 ≤ x.loc ∧ x.loc < 10 ∧ 0 ≤ x.qty ∧ x.qty ≤ 9999) → good (wantsOf ten ls) ∧ ∀ c, lft (wantsOf ten ls) c = first ls c := by
  induction n with
  | zero =>
    intro ls hl _
    obtain rfl := List.eq_nil_of_length_eq_zero hl
    exact ⟨⟨by simp [wantsOf], by simp [wantsOf]⟩, fun c => rfl⟩
  | succ n ih =>
    intro ls hl hr
    obtain ⟨l0, y, rfl⟩ : ∃ l0 y, ls = l0 ++ [y] := ⟨ls.dropLast, ls.getLast (by intro h; simp [h] at hl), (List.dropLast_concat_getLast _).symm⟩
    obtain ⟨hg, hf⟩ := ih l0 (by simpa using hl) (fun x hx => hr x (by simp [hx]))
    obtain ⟨y0, y1, y2, y3⟩ := hr y (by simp)
    have hfirst : first (l0 ++ [y]) = if first l0 y.loc.toNat = 0 then upd (first l0) y.loc.toNat y.qty else first l0 := by
      rw [first, List.foldl_append]; rfl
    rw [wantsOf_end, hfirst]
    unfold addLine
    by_cases hq : 0 < y.qty
    · by_cases hi : lidx (wantsOf ten l0) y.loc < 0
      · rw [if_pos ⟨mem_ten y.loc y0 y1, hq, hi⟩]
        rw [lidx_neg] at hi
        have hz : lft (wantsOf ten l0) y.loc.toNat = 0 := lft_none _ _ (fun x hx e => hi (by
          have := (hg.r x hx).1
          have : x.loc = y.loc := by omega
          exact this ▸ List.mem_map_of_mem hx))
        rw [← hf, hz, if_pos rfl]
        refine ⟨⟨fun x hx => ?_, ?_⟩, fun c => ?_⟩
        · rcases List.mem_append.1 hx with hx | hx
          · exact hg.r x hx
          · obtain rfl : x = y := by simpa using hx
            exact ⟨y0, y1, hq, y3⟩
        · rw [List.map_append, List.nodup_append]
          refine ⟨hg.d, by simp, fun a ha b hb => ?_⟩
          simp only [List.map_cons, List.map_nil, List.mem_singleton] at hb
          subst hb
          exact fun e => hi (e ▸ ha)
        · rw [lft_append, upd]
          by_cases hc : c = y.loc.toNat
          · subst hc
            rw [if_pos rfl, if_neg]
            · simp [lft]
            · rintro ⟨x, hx, e⟩
              refine hi ?_
              have := (hg.r x hx).1
              have : x.loc = y.loc := by omega
              exact this ▸ List.mem_map_of_mem hx
          · rw [if_neg hc, hf c]
            split
            · rfl
            · rename_i hn
              rw [lft, if_neg (fun e => hc e.symm), lft, ← hf c, lft_none _ _ (fun x hx e => hn ⟨x, hx, e⟩)]
      · rw [if_neg (fun c => hi c.2.2)]
        rw [lidx_neg, Classical.not_not] at hi
        obtain ⟨x, hx, e⟩ := List.mem_map.1 hi
        have hl := lft_mem hg.d (fun x hx => (hg.r x hx).1) hx
        rw [e] at hl
        have := (hg.r x hx).2.2.1
        rw [← hf, hl, if_neg (by omega)]
        exact ⟨hg, hf⟩
    · rw [if_neg (fun c => hq c.2.1)]
      obtain hq0 : y.qty = 0 := by omega
      refine ⟨hg, fun c => ?_⟩
      split
      · rename_i h
        rw [upd]
        split
        · rename_i e; rw [e, hf, h, hq0]
        · exact hf c
      · exact hf c

/-- What a pick does to what is left. -/
theorem pick_law (t : Int) (ls : List Ln) (hg : good ls) (loc kind qty : Int) : ∃ (ls' : List Ln) (t' lc it q sh e : Int), ZS.pick ⟨ten, some (t, ls)⟩ loc kind qty = (⟨ten, some (t, ls')⟩, pickV t' lc it q sh e) ∧ good ls' ∧ (e = 0 → t' = t ∧ 0 ≤ lc ∧ lc < 10 ∧ 0 ≤ q ∧ 0 ≤ sh ∧ ∀ c, lft ls' c + (if lc.toNat = c then q + sh else 0) = lft ls c) ∧ (e ≠ 0 → ls' = ls) := by
  have no : ∀ e : Int, e ≠ 0 → ∃ (ls' : List Ln) (t' lc it q sh e' : Int), ((⟨ten, some (t, ls)⟩ : ZS), pickNo e) = (⟨ten, some (t, ls')⟩, pickV t' lc it q sh e') ∧ good ls' ∧ (e' = 0 → t' = t ∧ 0 ≤ lc ∧ lc < 10 ∧ 0 ≤ q ∧ 0 ≤ sh ∧ ∀ c, lft ls' c + (if lc.toNat = c then q + sh else 0) = lft ls c) ∧ (e' ≠ 0 → ls' = ls) :=
    fun e he => ⟨ls, 0, 0, 0, 0, 0, e, rfl, hg, fun h => absurd h he, fun _ => rfl⟩
  simp only [ZS.pick]
  by_cases h1 : lidx ls loc < 0
  · rw [if_pos h1]; exact no 6 (by decide)
  · rw [if_neg h1]
    by_cases h2 : kind ≠ 1 ∧ kind ≠ 2
    · rw [if_pos h2]; exact no 1 (by decide)
    · rw [if_neg h2]
      obtain ⟨k, x, hk, hx, hl⟩ := lidx_some (l := ls) (loc := loc) (by omega)
      have hkn : (lidx ls loc).toNat = k := by omega
      rw [hkn, hx]
      simp only
      have hr := hg.r x (List.mem_of_getElem? hx)
      have hm := lft_mem hg.d (fun x hx => (hg.r x hx).1) (List.mem_of_getElem? hx)
      rw [hl] at hm hr
      by_cases h3 : qty < 0 ∨ x.qty < qty
      · rw [if_pos h3]; exact no 10 (by decide)
      · rw [if_neg h3]
        by_cases h4 : kind = 2
        · rw [if_pos h4]
          refine ⟨ls.eraseIdx k, t, loc, x.item, qty, x.qty - qty, 0, rfl, good_erase hg k, fun _ => ⟨rfl, hr.1, hr.2.1, by omega, by omega, fun c => ?_⟩, fun h => absurd rfl h⟩
          rw [lft_erase hg hx, hl]
          split
          · rename_i e; rw [← e, hm]; omega
          · omega
        · rw [if_neg h4]
          by_cases h5 : x.qty = qty
          · rw [if_pos h5]
            refine ⟨ls.eraseIdx k, t, loc, x.item, qty, 0, 0, rfl, good_erase hg k, fun _ => ⟨rfl, hr.1, hr.2.1, by omega, by omega, fun c => ?_⟩, fun h => absurd rfl h⟩
            rw [lft_erase hg hx, hl]
            split
            · rename_i e; rw [← e, hm]; omega
            · omega
          · rw [if_neg h5]
            refine ⟨ls.set k { x with qty := x.qty - qty }, t, loc, x.item, qty, 0, 0, rfl, good_set hg hx _ (by omega) (by omega), fun _ => ⟨rfl, hr.1, hr.2.1, by omega, by omega, fun c => ?_⟩, fun h => absurd rfl h⟩
            rw [lft_set hg hx, hl]
            split
            · rename_i e; rw [← e, hm]; omega
            · omega

theorem lft_take {ls : List Ln} (h : good ls) {k : Nat} {x : Ln} (hx : ls[k]? = some x) : lft (ls.take k) x.loc.toNat = 0 ∧ lft (ls.take (k + 1)) = upd (lft (ls.take k)) x.loc.toNat x.qty := by
  have hn : ∀ y ∈ ls.take k, y.loc.toNat ≠ x.loc.toNat := by
    intro y hy e
    obtain ⟨i, hi, hyi⟩ := List.mem_take_iff_getElem.1 hy
    have hk : k < ls.length := (List.getElem?_eq_some_iff.1 hx).1
    have h1 := h.r y (List.mem_of_mem_take hy)
    have h2 := h.r x (List.mem_of_getElem? hx)
    have he : y.loc = x.loc := by omega
    have hd := h.d
    have := List.pairwise_iff_getElem.1 hd i k (by rw [List.length_map]; omega) (by simpa using hk) (by omega)
    apply this
    rw [List.getElem_map, List.getElem_map, hyi, he]
    congr 1
    exact (List.getElem?_eq_some_iff.1 hx).2.symm
  refine ⟨lft_none _ _ hn, funext fun c => ?_⟩
  rw [List.take_add_one, hx, Option.toList_some, lft_append, upd]
  by_cases hc : c = x.loc.toNat
  · subst hc
    rw [if_pos rfl, if_neg (fun ⟨y, hy, e⟩ => hn y hy e)]
    simp [lft]
  · rw [if_neg hc]
    split
    · rfl
    · rename_i hh
      rw [lft_none _ _ (fun y hy e => hh ⟨y, hy, e⟩), lft, if_neg (fun e => hc e.symm)]
      rfl

theorem nodup_len : ∀ (l t : List Int), l.Nodup → (∀ x ∈ l, x ∈ t) → l.length ≤ t.length
  | [], t, _, _ => Nat.zero_le _
  | x :: l, t, hd, hs => by
    rw [List.nodup_cons] at hd
    have hx := hs x (List.mem_cons_self ..)
    have := nodup_len l (t.erase x) hd.2 (fun y hy => by
      have hne : y ≠ x := fun e => hd.1 (e ▸ hy)
      exact (List.mem_erase_of_ne hne).2 (hs y (List.mem_cons_of_mem _ hy)))
    rw [List.length_erase_of_mem hx] at this
    have h0 : 0 < t.length := List.length_pos_of_mem hx
    rw [List.length_cons]
    omega
theorem good_len {ls : List Ln} (h : good ls) : ls.length ≤ 10 := by
  have h1 : (ls.map Ln.loc).length ≤ ten.length := by
    refine nodup_len _ _ h.d (fun x hx => ?_)
    obtain ⟨y, hy, rfl⟩ := List.mem_map.1 hx
    have := h.r y hy
    have hm := mem_ten y.loc this.1 this.2.1
    simpa [mem] using hm
  simpa [ten] using h1
end Go.Proofs.Ytimaaaibpadlpaa
