import Derived.Test.YtienodnkfohakaaWalL
namespace Go.Proofs.Ytienodnkfohakaa
set_option linter.unusedVariables false
set_option linter.unusedSimpArgs false
open Go.RowKit
/-! One order in a wall of three. -/
def W3 (l : List Ln) : WS := ⟨[⟨true, 9, l⟩, Cb.zero, Cb.zero]⟩
theorem w3_assign (ms : List Ln) : (WS.new 3).assign 9 ms = if badL (sortL ms) then (WS.new 3, 0, 1) else (W3 (sortL ms), 0, 0) := by
  unfold WS.assign
  rw [if_neg (by decide)]
  split
  · rfl
  · rfl
theorem w3_put (l : List Ln) (it q : Int) : (W3 l).put 0 it q = (W3 (lput l it q).1, (lput l it q).2) := rfl
theorem w3_less (l : List Ln) (it q : Int) : (W3 l).less 9 it q = (W3 (lput l it q).1, (lput l it q).2) := rfl
theorem w3_full (l : List Ln) : (W3 l).full 0 = decide ((l.length : Int) = 0) := rfl
theorem w3_release (l : List Ln) : (W3 l).release 0 = if (l.length : Int) = 0 then (WS.new 3, 9, 0) else (W3 l, 0, 7) := by
  have h : (W3 l).release 0 = if (W3 l).full 0 = true then (WS.new 3, 9, 0) else (W3 l, 0, 7) := rfl
  rw [h, w3_full]
  by_cases e : (l.length : Int) = 0
  · rw [if_pos e, decide_eq_true e, if_pos rfl]
  · rw [if_neg e, decide_eq_false e]; rfl
theorem w3_free (l : List Ln) : (W3 l).free = 2 := rfl
theorem w3_new : (WS.new 3).free = 3 := rfl
/-- How much is needed of an item. -/
def ndf (l : List Ln) (j : Nat) : Int := match lk l (j : Int) with | some x => x.qty | none => 0
theorem ndf_nil : ndf [] = fun _ => 0 := rfl
def updI (f : Nat → Int) (k : Nat) (v : Int) : Nat → Int := fun j => if j = k then v else f j
theorem updI_v (f : Nat → Int) (k : Nat) (v : Int) : updv (fun j => Value.int .i64 (f j)) k (.int .i64 v) = fun j => Value.int .i64 (updI f k v j) := by
  funext j
  unfold updv updI
  split <;> rfl
theorem lk_snoc {l : List Ln} {y : Ln} (h : ∀ x ∈ l, x.item ≠ y.item) (it : Int) : lk (l ++ [y]) it = if y.item = it then some y else lk l it := by
  induction l with
  | nil => rw [List.nil_append, lk_cons]
  | cons x l ih =>
    rw [List.cons_append, lk_cons, lk_cons, ih (fun z hz => h z (by simp [hz]))]
    have := h x (by simp)
    by_cases e : x.item = it
    · rw [if_pos e, if_neg (by omega), if_pos e]
    · rw [if_neg e, if_neg e]
theorem ndf_snoc {l : List Ln} {y : Ln} (h : ∀ x ∈ l, x.item ≠ y.item) {v : Nat} (hv : y.item = v) : ndf (l ++ [y]) = updI (ndf l) v y.qty := by
  funext j
  unfold ndf updI
  rw [lk_snoc h, hv]
  by_cases e : j = v
  · subst e; rw [if_pos rfl, if_pos rfl]
  · rw [if_neg (by omega), if_neg e]
theorem ndf_perm {a b : List Ln} (hp : a.Perm b) (hn : a.Pairwise fun x y => x.item ≠ y.item) : ndf a = ndf b := by
  have key : ∀ (l : List Ln), l.Pairwise (fun x y => x.item ≠ y.item) → ∀ it x, lk l it = some x ↔ x ∈ l ∧ x.item = it := by
    intro l hl it x
    induction l with
    | nil => simp [lk_nil]
    | cons y l ih =>
      have hl' := List.pairwise_cons.1 hl
      rw [lk_cons]
      by_cases e : y.item = it
      · rw [if_pos e]
        constructor
        · intro h; obtain rfl := Option.some.inj h; exact ⟨by simp, e⟩
        · rintro ⟨h1, h2⟩
          rcases List.mem_cons.1 h1 with rfl | h1
          · rfl
          · exact absurd (e.trans h2.symm) (hl'.1 x h1)
      · rw [if_neg e, ih hl'.2]
        constructor
        · rintro ⟨h1, h2⟩; exact ⟨by simp [h1], h2⟩
        · rintro ⟨h1, h2⟩
          rcases List.mem_cons.1 h1 with rfl | h1
          · exact absurd h2 e
          · exact ⟨h1, h2⟩
  have hn2 : b.Pairwise fun x y => x.item ≠ y.item := (hp.pairwise_iff (fun {a b} (h : a.item ≠ b.item) => fun e => h e.symm)).1 hn
  funext j
  unfold ndf
  have : lk a (j : Int) = lk b (j : Int) := by
    apply Option.ext
    intro x
    rw [key a hn, key b hn2, hp.mem_iff]
  rw [this]
theorem good_items {ms : List Ln} (hn : ms.length ≤ 12) (hq : ∀ x ∈ ms, x.qty ≤ 9223372036854775807) (hb : badL (sortL ms) = false) : Need (sortL ms) ∧ ms.Pairwise (fun x y => x.item ≠ y.item) ∧ ndf (sortL ms) = ndf ms ∧ (sortL ms).length = ms.length := by
  have h := badL_need hn hq hb
  obtain ⟨h1, h2, -⟩ := sortL_facts ms
  have hne : (sortL ms).Pairwise fun x y => x.item ≠ y.item := h.asc.imp (fun h => by omega)
  exact ⟨h, (h2.pairwise_iff (fun {a b} (h : a.item ≠ b.item) => fun e => h e.symm)).1 hne, ndf_perm h2 hne, h1⟩
theorem not_may {l : List Ln} (v : Nat) (q : Int) (hm : ¬ (1 ≤ q ∧ q ≤ ndf l v)) : ∃ e, lput l v q = (l, e) ∧ (e == 0) = false := by
  unfold ndf at hm
  unfold lput
  cases hl : lk l (v : Int) with
  | none => exact ⟨11, rfl, rfl⟩
  | some x =>
    rw [hl] at hm
    dsimp only at hm ⊢
    rw [if_pos (by omega)]
    exact ⟨10, rfl, rfl⟩
theorem may {l : List Ln} (h : Need l) (v : Nat) (q : Int) (hm : 1 ≤ q ∧ q ≤ ndf l v) : ∃ l2, lput l v q = (l2, 0) ∧ Need l2 ∧ ndf l2 = updI (ndf l) v (ndf l v - q) ∧ 1 ≤ l.length ∧ ndf l v ≤ 9223372036854775807 ∧ (l2.length : Int) = (if ndf l v - q = 0 then (l.length : Int) - 1 else l.length) := by
  have hput := h.put (v : Int) q
  have hlk := lk_lput h (v : Int) q
  have her := lput_errno (l := l) (v : Int) q
  have hnd : ∀ j, ndf l j = match lk l (j : Int) with | some x => x.qty | none => 0 := fun _ => rfl
  rw [hnd] at hm
  cases hl : lk l (v : Int) with
  | none => rw [hl] at hm; dsimp only at hm; omega
  | some x =>
    rw [hl] at hm her
    dsimp only at hm her
    have hq : ndf l v = x.qty := by rw [hnd, hl]
    obtain ⟨k, hk⟩ := lk_at hl
    have hkl := (List.getElem?_eq_some_iff.1 hk).1
    have hpos := h.pos x (List.mem_of_getElem? hk)
    have he := (lk_mem hl).2
    have hb := bpos_of h.asc hk
    rw [he] at hb
    rw [if_neg (by omega)] at her
    refine ⟨(lput l v q).1, by rw [← her], hput, ?_, by omega, by omega, ?_⟩
    · funext j
      unfold updI
      rw [hq]
      unfold ndf
      rw [hlk, hl]
      dsimp only
      rw [if_neg (by omega)]
      by_cases e : j = v
      · subst e
        rw [if_pos rfl, if_pos rfl]
        by_cases e2 : x.qty - q = 0
        · rw [if_pos e2]; dsimp only; omega
        · rw [if_neg e2]
      · rw [if_neg (by omega), if_neg e]
    · unfold lput
      rw [hl, hq]
      dsimp only
      rw [if_neg (by omega)]
      by_cases e2 : x.qty - q = 0
      · rw [if_pos e2, if_pos e2]
        dsimp only
        rw [hb, List.length_eraseIdx, if_pos hkl]
        omega
      · rw [if_neg e2, if_neg e2]
        dsimp only
        rw [List.length_set]
theorem smL_item {l : List Ln} {x : Ln} (h : x ∈ smL l) : 0 ≤ x.item ∧ x.item < 32 := by
  unfold smL at h
  obtain ⟨y, -, rfl⟩ := List.mem_map.1 h
  dsimp only
  omega
theorem i64_and1 (n : Int) : bits .and .i64 n 1 = n % 2 := i64_mask 1 1 (by decide) (by decide) n
end Go.Proofs.Ytienodnkfohakaa
