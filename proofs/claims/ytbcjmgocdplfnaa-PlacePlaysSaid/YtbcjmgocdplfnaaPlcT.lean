import Derived.Test.YtbcjmgocdplfnaaPlcS
namespace Go.Proofs.Ytbcjmgocdplfnaa
set_option linter.unusedVariables false
set_option linter.unusedSimpArgs false
open Go.RowKit
/-! How many are not free. -/
def cnt (p : Nat → Bool) (n : Nat) : Nat := (List.range n).countP p
theorem cnt_succ (p : Nat → Bool) (n : Nat) : cnt p (n + 1) = cnt p n + if p n = true then 1 else 0 := by
  unfold cnt
  rw [List.range_succ, List.countP_append, List.countP_singleton]
theorem cnt_congr {p q : Nat → Bool} {n : Nat} (h : ∀ x, x < n → p x = q x) : cnt p n = cnt q n := by
  unfold cnt
  exact List.countP_congr (fun x hx => by rw [h x (List.mem_range.1 hx)])
theorem cnt_one {p q : Nat → Bool} {n a : Nat} (ha : a < n) (hp : p a = false) (hq : q a = true) (h : ∀ x, x ≠ a → p x = q x) : cnt q n = cnt p n + 1 := by
  induction n with
  | zero => omega
  | succ n ih =>
    rw [cnt_succ, cnt_succ]
    by_cases e : n = a
    · subst e
      rw [hp, hq, cnt_congr (fun x hx => (h x (by omega)).symm)]
      simp
    · rw [ih (by omega), h n e]
      omega
theorem cnt_not (p : Nat → Bool) (n : Nat) : cnt p n + cnt (fun x => !p x) n = n := by
  induction n with
  | zero => rfl
  | succ n ih =>
    rw [cnt_succ, cnt_succ]
    cases p n <;> simp <;> omega
theorem cnt_two (p q : Nat → Bool) (n : Nat) : cnt (fun x => p x || q x) n + cnt (fun x => p x && q x) n = cnt p n + cnt q n := by
  induction n with
  | zero => rfl
  | succ n ih =>
    rw [cnt_succ, cnt_succ, cnt_succ, cnt_succ]
    cases p n <;> cases q n <;> simp <;> omega
def PS.nf (s : PS) : Nat := cnt (fun x => s.of x != 0) 32
theorem PS.spares_cnt (s : PS) : s.spares.length = cnt (fun x => s.of x == 1) 32 := by
  unfold PS.spares cnt
  rw [List.length_map, List.countP_eq_length_filter]
theorem nf_new (l : List Int) : (PS.new l).nf = (PS.new l).spares.length := by
  rw [PS.spares_cnt]
  refine cnt_congr (fun x _ => ?_)
  rcases (kinds0_val l x).1 with h | h
  · have : (PS.new l).of x = 0 := h
    rw [this]; rfl
  · have : (PS.new l).of x = 1 := h
    rw [this]; rfl
theorem nf_upd {f : Nat → Int} {a : Nat} {v : Int} (h : f a ≠ 0) (hv : v ≠ 0) : cnt (fun x => upd f a v x != 0) 32 = cnt (fun x => f x != 0) 32 := by
  refine cnt_congr (fun x _ => ?_)
  unfold upd
  by_cases e : x = a
  · subst e
    rw [if_pos rfl]
    have h1 : (v != 0) = true := by simpa using hv
    have h2 : (f x != 0) = true := by simpa using h
    rw [h1, h2]
  · rw [if_neg e]
theorem nf_map {s : PS} (loc a : Int) : (s.map loc a).1.nf + s.by_.length = s.nf + (s.map loc a).1.by_.length := by
  unfold PS.map
  split
  · rfl
  · rename_i h1
    split
    · rfl
    · rename_i h2
      have hk : known a = true := by cases e : known a with | true => rfl | false => exact absurd (.inr e) h1
      have ha := known_iff.1 hk
      have hof : s.of a.toNat = 0 := by
        have : s.is a = 0 := by have : ¬ s.is a ≠ 0 := fun e => h2 (.inr e); omega
        unfold PS.is at this
        rw [if_pos hk] at this
        exact this
      have := cnt_one (p := fun x => s.of x != 0) (q := fun x => upd s.of a.toNat 3 x != 0) (n := 32) (a := a.toNat) (by omega) (by simp [hof]) (by simp [upd]) (fun x hx => by simp [upd, hx])
      unfold PS.nf
      simp only [List.length_append, List.length_singleton]
      omega
theorem nf_fail {s : PS} (h : s.ok) (a : Int) : (s.fail a).1.nf = s.nf := by
  unfold PS.fail
  split
  · rfl
  · rename_i h0
    obtain ⟨ha, hof⟩ := PS.is_pos h0
    split
    · rfl
    · split
      · exact nf_upd (by omega) (by omega)
      · cases hs : s.spares with
        | nil => rfl
        | cons l0 ls =>
          obtain ⟨hl0, hl1⟩ := (PS.mem_spares h (x := l0)).1 (by rw [hs]; simp)
          show cnt (fun x => upd (upd s.of a.toNat 2) l0.toNat 3 x != 0) 32 = _
          rw [nf_upd _ (by omega), nf_upd (by omega) (by omega)]
          · rfl
          · unfold upd
            split <;> omega
theorem nf_bring {s : PS} (a : Int) : (s.bring a).1.nf = s.nf := by
  unfold PS.bring
  split
  · rfl
  · rename_i h0
    obtain ⟨ha, hof⟩ := PS.is_pos h0
    split
    · exact nf_upd (by omega) (by omega)
    · rfl
theorem fail_len (s : PS) (a : Int) : (s.fail a).1.by_.length = s.by_.length := by
  have := congrArg List.length (fail_keys s a)
  simpa using this
theorem bring_by (s : PS) (a : Int) : (s.bring a).1.by_ = s.by_ := by
  unfold PS.bring
  repeat' split
  all_goals rfl
/-! All that are broken brought back, below a. -/
def PS.back (s : PS) (a : Nat) : PS := ⟨fun x => if x < a ∧ s.of x = 2 then 1 else s.of x, s.by_⟩
def PS.fr (s : PS) (a : Nat) : Nat := cnt (fun x => s.of x == 0) a - 1
theorem back_one {s : PS} (h : s.ok) : s.back 1 = s := by
  unfold PS.back
  have : (fun x => if x < 1 ∧ s.of x = 2 then 1 else s.of x) = s.of := by
    funext x
    split
    · rename_i e
      have : x = 0 := by omega
      subst this
      have := h.zero.1
      omega
    · rfl
  rw [this]
theorem back_is {s : PS} {a : Nat} (ha : 1 ≤ a ∧ a ≤ 31) : (s.back a).is (a : Int) = s.of a := by
  unfold PS.is
  rw [if_pos (known_iff.2 (by omega))]
  simp [PS.back]
theorem back_bring {s : PS} (h : s.ok) {a : Nat} (ha : 1 ≤ a ∧ a ≤ 31) : ((s.back a).bring a).1 = s.back (a + 1) ∧ ((s.back a).bring a).2 = if s.of a = 0 then 6 else if s.of a = 2 then 0 else 7 := by
  unfold PS.bring
  rw [back_is ha]
  have key : s.of a ≠ 2 → s.back a = s.back (a + 1) := by
    intro h2
    unfold PS.back
    congr 1
    funext x
    by_cases e : x = a
    · subst e
      rw [if_neg (by omega), if_neg (by omega)]
    · by_cases e2 : x < a ∧ s.of x = 2
      · rw [if_pos e2, if_pos (by omega)]
      · rw [if_neg e2, if_neg (by omega)]
  by_cases h0 : s.of a = 0
  · rw [if_pos h0, if_pos h0]
    exact ⟨key (by omega), rfl⟩
  · rw [if_neg h0, if_neg h0]
    by_cases h2 : s.of a = 2
    · rw [if_pos h2, if_pos h2]
      refine ⟨?_, rfl⟩
      have key2 : upd (s.back a).of (a : Int).toNat 1 = (s.back (a + 1)).of := by
        funext x
        unfold upd PS.back
        simp only [Int.toNat_natCast]
        by_cases e : x = a
        · subst e
          rw [if_pos rfl, if_pos (by omega)]
        · rw [if_neg e]
          by_cases e2 : x < a ∧ s.of x = 2
          · rw [if_pos e2, if_pos (by omega)]
          · rw [if_neg e2, if_neg (by omega)]
      show (⟨upd (s.back a).of (a : Int).toNat 1, s.by_⟩ : PS) = s.back (a + 1)
      rw [key2]
      rfl
    · rw [if_neg h2, if_neg h2]
      exact ⟨key h2, rfl⟩
theorem fr_succ {s : PS} (h : s.ok) {a : Nat} (ha : 1 ≤ a) : s.fr (a + 1) = s.fr a + if s.of a = 0 then 1 else 0 := by
  unfold PS.fr
  rw [cnt_succ]
  have : 1 ≤ cnt (fun x => s.of x == 0) a := by
    obtain ⟨n, rfl⟩ : ∃ n, a = n + 1 := ⟨a - 1, by omega⟩
    clear ha
    induction n with
    | zero =>
      rw [cnt_succ, h.zero.1]
      simp [cnt]
    | succ n ih => rw [cnt_succ]; omega
  by_cases e : s.of a = 0
  · simp only [e, beq_self_eq_true, if_true]; omega
  · simp only [beq_iff_eq, e, if_false]; omega
theorem fr_all {s : PS} (h : s.ok) : s.fr 32 + s.nf = 31 := by
  have h1 := cnt_not (fun x => s.of x == 0) 32
  have h2 := fr_succ h (a := 1) (by omega)
  have h3 : cnt (fun x => !(s.of x == 0)) 32 = s.nf := rfl
  have h4 : 1 ≤ cnt (fun x => s.of x == 0) 32 := by
    unfold cnt
    rw [Nat.one_le_iff_ne_zero, ← Nat.pos_iff_ne_zero, List.countP_pos_iff]
    exact ⟨0, by simp, by simp [h.zero.1]⟩
  unfold PS.fr
  omega
theorem shown_cnt {s : PS} (h : s.ok) : cnt (fun x => s.of x == 3) 32 = s.by_.length := by
  unfold cnt
  rw [List.countP_eq_length_filter]
  have h1 : (s.by_.map fun q => q.2.toNat).Nodup := by
    have h2 : (s.by_.map (·.2)).Nodup := h.addrs
    rw [List.Nodup, List.pairwise_map] at h2 ⊢
    refine List.Pairwise.imp_of_mem (fun {a b} ha hb hne e => hne ?_) h2
    have := (h.each a ha).2.1
    have := (h.each b hb).2.1
    omega
  have hle1 := nodup_len ((List.range 32).filter fun x => s.of x == 3) (s.by_.map fun q => q.2.toNat) ((List.nodup_range).sublist List.filter_sublist) (fun x hx => by
    obtain ⟨hx1, hx2⟩ := List.mem_filter.1 hx
    obtain ⟨q, hq, e⟩ := h.back x (by simpa using hx2)
    exact List.mem_map.2 ⟨q, hq, by omega⟩)
  have hle2 := nodup_len (s.by_.map fun q => q.2.toNat) ((List.range 32).filter fun x => s.of x == 3) h1 (fun x hx => by
    obtain ⟨q, hq, rfl⟩ := List.mem_map.1 hx
    have := (h.each q hq).2
    exact List.mem_filter.2 ⟨List.mem_range.2 (by omega), by simpa using this.2⟩)
  rw [List.length_map] at hle1 hle2
  omega
theorem back_spares {s : PS} (h : s.ok) : (s.back 32).spares.length + s.by_.length = s.nf := by
  rw [PS.spares_cnt, ← shown_cnt h]
  have h1 := cnt_two (fun x => (s.back 32).of x == 1) (fun x => s.of x == 3) 32
  have h2 : cnt (fun x => (s.back 32).of x == 1 && s.of x == 3) 32 = 0 := by
    unfold cnt
    rw [List.countP_eq_zero]
    intro x _ hx
    simp only [PS.back, Bool.and_eq_true, beq_iff_eq] at hx
    split at hx <;> omega
  have h3 : cnt (fun x => (s.back 32).of x == 1 || s.of x == 3) 32 = s.nf := by
    refine cnt_congr (fun x hx => ?_)
    have hk := h.kind x
    simp only [PS.back]
    rcases (by omega : s.of x = 0 ∨ s.of x = 1 ∨ s.of x = 2 ∨ s.of x = 3) with e | e | e | e <;> simp [e, hx]
  omega
theorem back_of {s : PS} (a : Nat) (x : Int) : (s.back a).of? x = s.of? x := rfl
/-! One location alone. -/
theorem round_at {s : PS} {c : Int} (h : s.by_ = [(9, c)]) : s.at? 9 = some c := by unfold PS.at?; rw [h]; rfl
theorem round_of {s : PS} (h : s.ok) {c : Int} (hb : s.by_ = [(9, c)]) : s.of? c = some 9 := (PS.of_iff h).2 (by rw [hb]; simp)
theorem round_fail {s : PS} (h : s.ok) {c l0 : Int} {ls : List Int} (hb : s.by_ = [(9, c)]) (hs : s.spares = l0 :: ls) : (s.fail c).1.by_ = [(9, l0)] ∧ (s.fail c).2 = (l0, 0) := by
  have := fail_moves h (round_of h hb) hs
  rw [this, hb]
  exact ⟨by simp, rfl⟩
theorem round_len {s : PS} {c : Int} (hb : s.by_ = [(9, c)]) : s.locs.length = 1 := by rw [PS.locs_len, hb]; rfl
/-- All are spare. -/
theorem spare_all (l : List Int) (h : ∀ x : Nat, 1 ≤ x → x ≤ 31 → (PS.new l).of x ≠ 0) : (PS.new l).spares.length = 31 := by
  rw [← nf_new]
  have h0 : (PS.new l).of 0 = 0 := (PS.ok_new l).zero.1
  unfold PS.nf
  have : cnt (fun x => (PS.new l).of x != 0) 32 = cnt (fun x => x != 0) 32 := cnt_congr (fun x hx => by
    by_cases e : x = 0
    · subst e; rw [h0]; rfl
    · have h1 := h x (by omega) (by omega)
      have h2 : ((PS.new l).of x != 0) = true := by simpa using h1
      have h3 : (x != 0) = true := by simpa using e
      rw [h2, h3])
  rw [this]
  decide
end Go.Proofs.Ytbcjmgocdplfnaa
