import Derived.Test.YtbcjmgocdplfnaaPlcT
namespace Go.Proofs.Ytbcjmgocdplfnaa
set_option linter.unusedVariables false
set_option linter.unusedSimpArgs false
open Go.RowKit
/-! The document's rows. -/
theorem sub_key {α : Type} (f : α → Int) : ∀ (m l : List α), l.Pairwise (fun x y => f x < f y) → m.Pairwise (fun x y => f x < f y) → (∀ x ∈ l, x ∈ m) → l.Sublist m := by
  intro m
  induction m with
  | nil =>
    intro l _ _ h
    cases l with
    | nil => exact List.Sublist.slnil
    | cons x l => exact absurd (h x (List.mem_cons_self ..)) (by simp)
  | cons y m ih =>
    intro l hl hm h
    cases l with
    | nil => exact List.nil_sublist _
    | cons x l =>
      rw [List.pairwise_cons] at hl hm
      rcases List.mem_cons.1 (h x (List.mem_cons_self ..)) with e | hx
      · subst e
        refine List.Sublist.cons_cons x (ih l hl.2 hm.2 (fun z hz => ?_))
        rcases List.mem_cons.1 (h z (List.mem_cons_of_mem _ hz)) with c | c
        · have := hl.1 z hz; rw [c] at this; omega
        · exact c
      · have hyx := hm.1 x hx
        refine List.Sublist.cons y (ih (x :: l) (List.pairwise_cons.2 hl) hm.2 (fun z hz => ?_))
        rcases List.mem_cons.1 (h z hz) with c | c
        · subst c
          rcases List.mem_cons.1 hz with c2 | c2
          · rw [c2] at hyx; omega
          · have := hl.1 z c2; omega
        · exact c
theorem eq_key {α : Type} (f : α → Int) {l m : List α} (hl : l.Pairwise (fun x y => f x < f y)) (hm : m.Pairwise (fun x y => f x < f y)) (h : ∀ x, x ∈ l ↔ x ∈ m) : l = m :=
  (sub_key f m l hl hm (fun x hx => (h x).1 hx)).eq_of_length_le (sub_key f l m hm hl (fun x hx => (h x).2 hx)).length_le
theorem takeWhile_imp {α : Type} (p : α → Bool) : ∀ (l : List α) (x : α), x ∈ l.takeWhile p → p x = true := by
  intro l
  induction l with
  | nil => intro x h; simp at h
  | cons y l ih =>
    intro x h
    by_cases e : p y = true
    · rw [List.takeWhile_cons_of_pos e] at h
      rcases List.mem_cons.1 h with rfl | h
      · exact e
      · exact ih x h
    · rw [List.takeWhile_cons_of_neg e] at h
      simp at h
def PS.brok (s : PS) : List Int := ((List.range 32).filter fun a => s.of a == 2).map (fun a : Nat => (a : Int))
def PS.pairs (s : PS) : List (Int × Int) := s.locs.map fun l => (l, (s.at? l).getD 0)
def wth (l : List Int) (a : Int) : List Int := l.takeWhile (fun x => decide (x < a)) ++ a :: l.dropWhile (fun x => decide (x < a))
def wout (l : List Int) (a : Int) : List Int := l.filter (fun x => x != a)
theorem PS.brok_sorted (s : PS) : s.brok.Pairwise (· < ·) := by
  unfold PS.brok
  rw [List.pairwise_map]
  refine List.Pairwise.imp (fun {a b} h => by exact_mod_cast h) ((List.pairwise_lt_range).sublist List.filter_sublist)
theorem PS.mem_brok {s : PS} (h : s.ok) {x : Int} : x ∈ s.brok ↔ (1 ≤ x ∧ x ≤ 31) ∧ s.of x.toNat = 2 := by
  unfold PS.brok
  simp only [List.mem_map, List.mem_filter, List.mem_range, beq_iff_eq]
  constructor
  · rintro ⟨n, ⟨hn, h1⟩, rfl⟩
    refine ⟨⟨?_, by omega⟩, by simpa using h1⟩
    have : n ≠ 0 := fun e => by rw [e, h.zero.1] at h1; omega
    omega
  · rintro ⟨h1, h2⟩
    exact ⟨x.toNat, ⟨by omega, h2⟩, by omega⟩
theorem PS.mem_pairs {s : PS} (h : s.ok) {q : Int × Int} : q ∈ s.pairs ↔ q ∈ s.by_ := by
  unfold PS.pairs
  rw [List.mem_map]
  constructor
  · rintro ⟨l, hl, rfl⟩
    obtain ⟨a, ha⟩ := PS.mem_locs.1 hl
    rw [(PS.at_iff h).2 ha]
    exact ha
  · intro hq
    exact ⟨q.1, PS.mem_locs.2 ⟨q.2, hq⟩, by rw [(PS.at_iff h).2 hq]; rfl⟩
theorem PS.pairs_sorted {s : PS} (h : s.ok) : s.pairs.Pairwise (fun x y => x.1 < y.1) := by
  unfold PS.pairs
  rw [List.pairwise_map]
  exact PS.locs_sorted h
theorem PS.pairs_len (s : PS) : s.pairs.length = s.locs.length := by unfold PS.pairs; rw [List.length_map]
theorem takeWhile_cut {l : List Int} {a : Int} (hl : l.Pairwise (· < ·)) : ∀ x ∈ l.dropWhile (fun x => decide (x < a)), a ≤ x := by
  induction l with
  | nil => intro x hx; simp at hx
  | cons y l ih =>
    rw [List.pairwise_cons] at hl
    intro x hx
    by_cases e : y < a
    · rw [List.dropWhile_cons_of_pos (by simpa using e)] at hx
      exact ih hl.2 x hx
    · rw [List.dropWhile_cons_of_neg (by simpa using e)] at hx
      rcases List.mem_cons.1 hx with rfl | hx
      · omega
      · have := hl.1 x hx; omega
theorem mem_wth {l : List Int} {a x : Int} : x ∈ wth l a ↔ x = a ∨ x ∈ l := by
  unfold wth
  conv => rhs; rw [← List.takeWhile_append_dropWhile (p := fun x => decide (x < a)) (l := l)]
  simp only [List.mem_append, List.mem_cons]
  constructor
  · rintro (h | h | h)
    · exact .inr (.inl h)
    · exact .inl h
    · exact .inr (.inr h)
  · rintro (h | h | h)
    · exact .inr (.inl h)
    · exact .inl h
    · exact .inr (.inr h)
theorem wth_sorted {l : List Int} {a : Int} (hl : l.Pairwise (· < ·)) (ha : a ∉ l) : (wth l a).Pairwise (· < ·) := by
  have h1 : ∀ x ∈ l.takeWhile (fun x => decide (x < a)), x < a := fun x hx => by
    have := takeWhile_imp _ _ x hx
    simpa using this
  have h2 : ∀ x ∈ l.dropWhile (fun x => decide (x < a)), a < x := fun x hx => by
    have := takeWhile_cut hl x hx
    have : x ≠ a := fun e => ha (by rw [← e]; exact (List.dropWhile_sublist _).subset hx)
    omega
  unfold wth
  refine List.pairwise_append.2 ⟨hl.sublist (List.takeWhile_sublist _), List.pairwise_cons.2 ⟨h2, hl.sublist (List.dropWhile_sublist _)⟩, fun x hx y hy => ?_⟩
  have := h1 x hx
  rcases List.mem_cons.1 hy with rfl | hy
  · exact this
  · have := h2 y hy; omega
theorem wout_sorted {l : List Int} {a : Int} (hl : l.Pairwise (· < ·)) : (wout l a).Pairwise (· < ·) := hl.sublist List.filter_sublist
theorem mem_wout {l : List Int} {a x : Int} : x ∈ wout l a ↔ x ∈ l ∧ x ≠ a := by unfold wout; simp [List.mem_filter]
def rhas (l : List Int) (a : Int) : Bool := decide ((wout l a).length < l.length)
theorem rhas_iff (l : List Int) (a : Int) : rhas l a = decide (a ∈ l) := by
  unfold rhas
  congr 1
  apply propext
  induction l with
  | nil => simp [wout]
  | cons y l ih =>
    unfold wout at ih ⊢
    rw [List.filter_cons]
    by_cases e : y = a
    · subst e
      simp only [bne_self_eq_false, Bool.false_eq_true, if_false, List.mem_cons, true_or, iff_true, List.length_cons]
      have := List.length_filter_le (fun x => x != y) l
      omega
    · have h1 : (y != a) = true := by simpa using e
      have h2 : ¬ a = y := fun c => e c.symm
      rw [h1]
      simp only [if_true, List.length_cons, List.mem_cons, h2, false_or]
      rw [← ih]
      omega
/-! What an address is, by the rows. -/
theorem is_spare {s : PS} (h : s.ok) (a : Int) : rhas s.spares a = decide (s.is a = 1) := by
  rw [rhas_iff]
  congr 1
  apply propext
  rw [PS.mem_spares h]
  constructor
  · rintro ⟨h1, h2⟩
    unfold PS.is
    rw [if_pos (known_iff.2 h1)]
    exact h2
  · intro h1
    obtain ⟨h2, h3⟩ := PS.is_pos (s := s) (a := a) (by omega)
    exact ⟨h2, by omega⟩
theorem is_brok {s : PS} (h : s.ok) (a : Int) : rhas s.brok a = decide (s.is a = 2) := by
  rw [rhas_iff]
  congr 1
  apply propext
  rw [PS.mem_brok h]
  constructor
  · rintro ⟨h1, h2⟩
    unfold PS.is
    rw [if_pos (known_iff.2 h1)]
    exact h2
  · intro h1
    obtain ⟨h2, h3⟩ := PS.is_pos (s := s) (a := a) (by omega)
    exact ⟨h2, by omega⟩
theorem is_shows {s : PS} (h : s.ok) (a : Int) : (s.of? a).isSome = decide (s.is a = 3) := by
  cases e : s.of? a with
  | none => have := PS.of_isnt h e; simp [this]
  | some l => have := (PS.of_is h e).2; simp [this]
theorem pairs_at {s : PS} (h : s.ok) (loc : Int) : (s.pairs.find? fun q => q.1 == loc).map (·.2) = s.at? loc := by
  cases e : s.at? loc with
  | none =>
    rw [Option.map_eq_none_iff, List.find?_eq_none]
    intro q hq c
    exact PS.at_none e q ((PS.mem_pairs h).1 hq) (by simpa using c)
  | some a =>
    have hm := (PS.mem_pairs h).2 ((PS.at_iff h).1 e)
    have := find_key s.pairs (by
      rw [List.Nodup, List.pairwise_map]
      exact (PS.pairs_sorted h).imp (fun {a b} hab => by omega)) (loc, a) hm
    simp only at this
    rw [this]
    rfl
theorem PS.pairs_addrs {s : PS} (h : s.ok) : (s.pairs.map (·.2)).Nodup := by
  rw [List.Nodup, List.pairwise_map]
  refine List.Pairwise.imp_of_mem (fun {a b} ha hb hab e => ?_) (PS.pairs_sorted h)
  have h1 := (PS.of_iff h).2 (show (a.1, a.2) ∈ s.by_ from (PS.mem_pairs h).1 ha)
  have h2 := (PS.of_iff h).2 (show (b.1, b.2) ∈ s.by_ from (PS.mem_pairs h).1 hb)
  rw [e, h2] at h1
  simp only [Option.some.injEq] at h1
  omega
theorem pairs_of {s : PS} (h : s.ok) (a : Int) : (s.pairs.find? fun q => q.2 == a).map (·.1) = s.of? a := by
  cases e : s.of? a with
  | none =>
    rw [Option.map_eq_none_iff, List.find?_eq_none]
    intro q hq c
    have : q.2 = a := by simpa using c
    have h1 := (PS.of_iff h).2 (show (q.1, q.2) ∈ s.by_ from (PS.mem_pairs h).1 hq)
    rw [this, e] at h1
    cases h1
  | some l =>
    have hm := (PS.mem_pairs h).2 ((PS.of_iff h).1 e)
    have := find_addr s.pairs (PS.pairs_addrs h) (l, a) hm
    simp only at this
    rw [this]
    rfl
/-! The rows behind each deed. -/
theorem spares_eq {s : PS} (h : s.ok) {l : List Int} (hl : l.Pairwise (· < ·)) (hm : ∀ x, x ∈ l ↔ (1 ≤ x ∧ x ≤ 31) ∧ s.of x.toNat = 1) : s.spares = l :=
  eq_sorted (PS.spares_sorted s) hl (fun x => (PS.mem_spares h).trans (hm x).symm)
theorem brok_eq {s : PS} (h : s.ok) {l : List Int} (hl : l.Pairwise (· < ·)) (hm : ∀ x, x ∈ l ↔ (1 ≤ x ∧ x ≤ 31) ∧ s.of x.toNat = 2) : s.brok = l :=
  eq_sorted (PS.brok_sorted s) hl (fun x => (PS.mem_brok h).trans (hm x).symm)
theorem pairs_eq {s : PS} (h : s.ok) {l : List (Int × Int)} (hl : l.Pairwise (fun x y => x.1 < y.1)) (hm : ∀ q, q ∈ l ↔ q ∈ s.by_) : s.pairs = l :=
  eq_key (·.1) (PS.pairs_sorted h) hl (fun x => (PS.mem_pairs h).trans (hm x).symm)
theorem pairs_by {s s' : PS} (e : s'.by_ = s.by_) : s'.pairs = s.pairs := by unfold PS.pairs PS.locs PS.at?; rw [e]
theorem upd_iff (f : Nat → Int) (a x v c : Int) (ha : 1 ≤ a) (hx : 1 ≤ x) : upd f a.toNat v x.toNat = c ↔ (x = a ∧ v = c) ∨ (x ≠ a ∧ f x.toNat = c) := by
  unfold upd
  by_cases e : x = a
  · subst e; simp
  · have : ¬ x.toNat = a.toNat := by omega
    rw [if_neg this]
    simp [e]
/-- Fail of a spare one. -/
theorem fail_spare {s : PS} (h : s.ok) {a : Int} (ha : s.is a = 1) : (s.fail a).2 = (0, 0) ∧ (s.fail a).1.pairs = s.pairs ∧ (s.fail a).1.spares = wout s.spares a ∧ (s.fail a).1.brok = wth s.brok a := by
  have hok := PS.ok_fail h a
  have hp := PS.is_pos (s := s) (a := a) (by omega)
  have e : s.fail a = (⟨upd s.of a.toNat 2, s.by_⟩, 0, 0) := by unfold PS.fail; rw [if_neg (by omega), if_neg (by omega), if_pos ha]
  rw [e] at hok ⊢
  refine ⟨rfl, pairs_by rfl, spares_eq hok (wout_sorted (PS.spares_sorted s)) (fun x => ?_), brok_eq hok (wth_sorted (PS.brok_sorted s) (fun c => ?_)) (fun x => ?_)⟩
  · rw [mem_wout, PS.mem_spares h]
    constructor
    · rintro ⟨⟨h1, h2⟩, h3⟩; exact ⟨h1, (upd_iff _ a x 2 1 hp.1.1 h1.1).2 (.inr ⟨h3, h2⟩)⟩
    · rintro ⟨h1, h2⟩
      rcases (upd_iff _ a x 2 1 hp.1.1 h1.1).1 h2 with c | c
      · omega
      · exact ⟨⟨h1, c.2⟩, c.1⟩
  · have := ((PS.mem_brok h).1 c).2; omega
  · rw [mem_wth, PS.mem_brok h]
    constructor
    · rintro (rfl | ⟨h1, h2⟩)
      · exact ⟨hp.1, (upd_iff _ x x 2 2 hp.1.1 hp.1.1).2 (.inl ⟨rfl, rfl⟩)⟩
      · refine ⟨h1, (upd_iff _ a x 2 2 hp.1.1 h1.1).2 ?_⟩
        by_cases c : x = a
        · exact .inl ⟨c, rfl⟩
        · exact .inr ⟨c, h2⟩
    · rintro ⟨h1, h2⟩
      rcases (upd_iff _ a x 2 2 hp.1.1 h1.1).1 h2 with c | c
      · exact .inl c.1
      · exact .inr ⟨h1, c.2⟩
/-- Fail of one that shows something, and is replaced. -/
theorem fail_shown {s : PS} (h : s.ok) {a l l0 : Int} {ls : List Int} (e : s.of? a = some l) (hs : s.spares = l0 :: ls) {i : Nat} (hi : s.pairs[i]? = some (l, a)) :
    (s.fail a).2 = (l0, 0) ∧ (s.fail a).1.pairs = s.pairs.set i (l, l0) ∧ (s.fail a).1.spares = ls ∧ (s.fail a).1.brok = wth s.brok a := by
  have hok := PS.ok_fail h a
  have h3 := PS.of_is h e
  have hof : s.of a.toNat = 3 := by have := PS.is_pos (s := s) (a := a) (by omega); omega
  obtain ⟨hl0, hl1⟩ := (PS.mem_spares h (x := l0)).1 (by rw [hs]; simp)
  have hfm := fail_moves h e hs
  refine ⟨by rw [hfm], ?_, fail_spares h e hs, ?_⟩
  · have h1 : (s.fail a).1.pairs = s.pairs.map fun q => if q.1 = l then (q.1, l0) else q := by
      unfold PS.pairs
      rw [fail_locs, List.map_map]
      apply List.map_congr_left
      intro x hx
      simp only [Function.comp_apply, fail_at h e hs]
      split <;> rfl
    rw [h1]
    apply List.ext_getElem?
    intro j
    rw [List.getElem?_map]
    by_cases hj : j = i
    · subst hj
      rw [hi, List.getElem?_set_self (List.getElem?_eq_some_iff.1 hi).1]
      simp
    · rw [List.getElem?_set_ne (fun c => hj c.symm)]
      cases hq : s.pairs[j]? with
      | none => rfl
      | some q =>
        simp only [Option.map_some, Option.some.injEq]
        have hne : q.1 ≠ l := by
          obtain ⟨a1, a2⟩ := List.getElem?_eq_some_iff.1 hq
          obtain ⟨b1, b2⟩ := List.getElem?_eq_some_iff.1 hi
          have hp := List.pairwise_iff_getElem.1 (PS.pairs_sorted h)
          rcases Nat.lt_or_gt_of_ne hj with c | c
          · have := hp j i a1 b1 c; rw [a2, b2] at this; simp only at this; omega
          · have := hp i j b1 a1 c; rw [a2, b2] at this; simp only at this; omega
        rw [if_neg hne]
  · rw [hfm] at hok ⊢
    refine brok_eq hok (wth_sorted (PS.brok_sorted s) (fun c => ?_)) (fun x => ?_)
    · have := ((PS.mem_brok h).1 c).2; omega
    · rw [mem_wth, PS.mem_brok h]
      have hal : a ≠ l0 := fun c => by rw [c] at hof; omega
      constructor
      · rintro (rfl | ⟨h1, h2⟩)
        · exact ⟨h3.1, (upd_iff _ l0 x 3 2 hl0.1 h3.1.1).2 (.inr ⟨hal, (upd_iff _ x x 2 2 h3.1.1 h3.1.1).2 (.inl ⟨rfl, rfl⟩)⟩)⟩
        · have : x ≠ l0 := fun c => by rw [c] at h2; omega
          have : x ≠ a := fun c => by rw [c] at h2; omega
          exact ⟨h1, (upd_iff _ l0 x 3 2 hl0.1 h1.1).2 (.inr ⟨by assumption, (upd_iff _ a x 2 2 h3.1.1 h1.1).2 (.inr ⟨by assumption, h2⟩)⟩)⟩
      · rintro ⟨h1, h2⟩
        rcases (upd_iff _ l0 x 3 2 hl0.1 h1.1).1 h2 with c | c
        · omega
        · rcases (upd_iff _ a x 2 2 h3.1.1 h1.1).1 c.2 with c | c
          · exact .inl c.1
          · exact .inr ⟨h1, c.2⟩
theorem bring_broken {s : PS} (h : s.ok) {a : Int} (ha : s.is a = 2) : (s.bring a).2 = 0 ∧ (s.bring a).1.pairs = s.pairs ∧ (s.bring a).1.spares = wth s.spares a ∧ (s.bring a).1.brok = wout s.brok a := by
  have hok := PS.ok_bring h a
  have hp := PS.is_pos (s := s) (a := a) (by omega)
  have e : s.bring a = (⟨upd s.of a.toNat 1, s.by_⟩, 0) := by unfold PS.bring; rw [if_neg (by omega), if_pos ha]
  rw [e] at hok ⊢
  refine ⟨rfl, pairs_by rfl, spares_eq hok (wth_sorted (PS.spares_sorted s) (fun c => ?_)) (fun x => ?_), brok_eq hok (wout_sorted (PS.brok_sorted s)) (fun x => ?_)⟩
  · have := ((PS.mem_spares h).1 c).2; omega
  · rw [mem_wth, PS.mem_spares h]
    constructor
    · rintro (rfl | ⟨h1, h2⟩)
      · exact ⟨hp.1, (upd_iff _ x x 1 1 hp.1.1 hp.1.1).2 (.inl ⟨rfl, rfl⟩)⟩
      · refine ⟨h1, (upd_iff _ a x 1 1 hp.1.1 h1.1).2 ?_⟩
        by_cases c : x = a
        · exact .inl ⟨c, rfl⟩
        · exact .inr ⟨c, h2⟩
    · rintro ⟨h1, h2⟩
      rcases (upd_iff _ a x 1 1 hp.1.1 h1.1).1 h2 with c | c
      · exact .inl c.1
      · exact .inr ⟨h1, c.2⟩
  · rw [mem_wout, PS.mem_brok h]
    constructor
    · rintro ⟨⟨h1, h2⟩, h3⟩; exact ⟨h1, (upd_iff _ a x 1 2 hp.1.1 h1.1).2 (.inr ⟨h3, h2⟩)⟩
    · rintro ⟨h1, h2⟩
      rcases (upd_iff _ a x 1 2 hp.1.1 h1.1).1 h2 with c | c
      · omega
      · exact ⟨⟨h1, c.2⟩, c.1⟩
def pwth (l : List (Int × Int)) (q : Int × Int) : List (Int × Int) := l.takeWhile (fun x => decide (x.1 < q.1)) ++ q :: l.dropWhile (fun x => decide (x.1 < q.1))
theorem map_new {s : PS} (h : s.ok) {loc a : Int} (h1 : ¬ 64 ≤ loc) (h0 : 0 ≤ loc) (hk : known a = true) (hat : s.at? loc = none) (hz : s.is a = 0) :
    (s.map loc a).2 = 0 ∧ (s.map loc a).1.pairs = pwth s.pairs (loc, a) ∧ (s.map loc a).1.spares = s.spares ∧ (s.map loc a).1.brok = s.brok := by
  have hok := PS.ok_map h loc a h0
  have e : s.map loc a = (⟨upd s.of a.toNat 3, s.by_ ++ [(loc, a)]⟩, 0) := by
    unfold PS.map
    rw [if_neg (by rw [hk]; simp; omega), if_neg (by rw [hat, hz]; simp)]
  have ha := known_iff.1 hk
  have hof : s.of a.toNat = 0 := by unfold PS.is at hz; rw [if_pos hk] at hz; exact hz
  rw [e] at hok ⊢
  have hno := PS.at_none hat
  have hk1 : ∀ (l : List (Int × Int)), l.Pairwise (fun x y => x.1 < y.1) → (∀ q ∈ l, q.1 ≠ loc) → (∀ q ∈ l.dropWhile (fun x => decide (x.1 < loc)), loc < q.1) := by
    intro l
    induction l with
    | nil => intro _ _ q hq; simp at hq
    | cons y l ih =>
      intro hl hq q hm
      rw [List.pairwise_cons] at hl
      by_cases e : y.1 < loc
      · rw [List.dropWhile_cons_of_pos (by simpa using e)] at hm
        exact ih hl.2 (fun q hq' => hq q (List.mem_cons_of_mem _ hq')) q hm
      · rw [List.dropWhile_cons_of_neg (by simpa using e)] at hm
        have h1 := hq y (List.mem_cons_self ..)
        rcases List.mem_cons.1 hm with rfl | hm
        · omega
        · have := hl.1 q hm; omega
  have hd := hk1 s.pairs (PS.pairs_sorted h) (fun q hq => hno q ((PS.mem_pairs h).1 hq))
  refine ⟨rfl, pairs_eq hok ?_ (fun q => ?_), spares_eq hok (PS.spares_sorted s) (fun x => ?_), brok_eq hok (PS.brok_sorted s) (fun x => ?_)⟩
  · unfold pwth
    refine List.pairwise_append.2 ⟨(PS.pairs_sorted h).sublist (List.takeWhile_sublist _), List.pairwise_cons.2 ⟨hd, (PS.pairs_sorted h).sublist (List.dropWhile_sublist _)⟩, fun x hx y hy => ?_⟩
    have hx' : x.1 < loc := by simpa using takeWhile_imp _ _ x hx
    rcases List.mem_cons.1 hy with rfl | hy
    · exact hx'
    · have := hd y hy; omega
  · have hspl : q ∈ s.pairs ↔ q ∈ s.pairs.takeWhile (fun x => decide (x.1 < loc)) ∨ q ∈ s.pairs.dropWhile (fun x => decide (x.1 < loc)) := by
      rw [← List.mem_append, List.takeWhile_append_dropWhile]
    unfold pwth
    rw [PS.mem_pairs h] at hspl
    simp only [List.mem_append, List.mem_cons, List.not_mem_nil, or_false, hspl]
    constructor
    · rintro (c | c | c)
      · exact .inl (.inl c)
      · exact .inr c
      · exact .inl (.inr c)
    · rintro ((c | c) | c)
      · exact .inl c
      · exact .inr (.inr c)
      · exact .inr (.inl c)
  · rw [PS.mem_spares h]
    refine and_congr_right (fun h1 => ?_)
    rw [upd_iff _ a x 3 1 ha.1 h1.1]
    constructor
    · intro h2; exact .inr ⟨fun c => by rw [c] at h2; omega, h2⟩
    · rintro (c | c)
      · omega
      · exact c.2
  · rw [PS.mem_brok h]
    refine and_congr_right (fun h1 => ?_)
    rw [upd_iff _ a x 3 2 ha.1 h1.1]
    constructor
    · intro h2; exact .inr ⟨fun c => by rw [c] at h2; omega, h2⟩
    · rintro (c | c)
      · omega
      · exact c.2
end Go.Proofs.Ytbcjmgocdplfnaa
