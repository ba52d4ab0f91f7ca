import Derived.Test.YtienodnkfohakaaWalH
namespace Go.Proofs.Ytienodnkfohakaa
set_option linter.unusedVariables false
set_option linter.unusedSimpArgs false
open Go.RowKit
/-! Who has which cubby. -/
def WS.sig (s : WS) : List (Bool × Int) := s.cubs.map fun c => (c.held, c.order)
def WS.uniq (s : WS) : Prop := ∀ (i j : Nat) (c c' : Cb), s.cubs[i]? = some c → s.cubs[j]? = some c' → c.held = true → c'.held = true → c.order = c'.order → i = j
/-- A wall of n cubbies, none with an order that another one has. -/
structure Fine (n : Nat) (s : WS) : Prop where
  len : s.cubs.length = n
  uniq : s.uniq
theorem fine_new (n : Nat) : Fine n (WS.new n) := ⟨by simp [WS.new], fun i j c c' h1 h2 h3 => by
  have : c = Cb.zero := by have := List.mem_of_getElem? h1; simp only [WS.new] at this; exact (List.mem_replicate.1 this).2
  subst this
  simp [Cb.zero] at h3⟩
theorem of_hit {s : WS} (h : s.uniq) {k : Nat} {c : Cb} (hc : s.cubs[k]? = some c) (hh : c.held = true) : s.of c.order = k := by
  refine pidx_hit hc (by simp [hh]) (fun z hz => ?_)
  obtain ⟨j, hj, e⟩ := List.mem_take_iff_getElem.1 hz
  cases hzz : (z.held && (z.order == c.order)) with
  | false => rfl
  | true =>
    simp only [Bool.and_eq_true, beq_iff_eq] at hzz
    have hjl : j < s.cubs.length := by omega
    have := h j k z c (by rw [List.getElem?_eq_getElem hjl, e]) hc hzz.1 hh hzz.2
    omega
theorem of_in {s : WS} {id : Int} (h : 0 ≤ s.of id) : ∃ c, s.at (s.of id) = some c ∧ s.cubs[(s.of id).toNat]? = some c ∧ c.held = true ∧ c.order = id := by
  unfold WS.of pidx at *
  cases hf : s.cubs.findIdx? (fun c => c.held && (c.order == id)) with
  | none => rw [hf] at h; simp at h
  | some k =>
    have hk := List.findIdx?_eq_some_iff_getElem.1 hf
    obtain ⟨hl, hp, -⟩ := hk
    simp only [Bool.and_eq_true, beq_iff_eq] at hp
    simp only [hf, Int.toNat_natCast]
    refine ⟨s.cubs[k], ?_, List.getElem?_eq_getElem hl, hp.1, hp.2⟩
    unfold WS.at
    rw [if_neg (by omega), Int.toNat_natCast, List.getElem?_eq_getElem hl]
    simp only [hp.1, if_true]
theorem of_not {s : WS} {id : Int} (h : s.of id < 0) {c : Cb} (hc : c ∈ s.cubs) (hh : c.held = true) : c.order ≠ id := by
  intro e
  have h2 := pidx_ge s.cubs (fun c => c.held && (c.order == id))
  rw [show pidx s.cubs (fun c => c.held && (c.order == id)) = s.of id from rfl, decide_eq_false (by omega)] at h2
  have := List.any_eq_false.1 h2.symm c hc
  simp [hh, e] at this
theorem free1_in {s : WS} (h : ¬ s.free1 < 0) : ∃ (k : Nat) (c : Cb), s.free1 = k ∧ s.cubs[k]? = some c ∧ c.held = false ∧ ∀ (j : Nat) (c' : Cb), j < k → s.cubs[j]? = some c' → c'.held = true := by
  unfold WS.free1 pidx at *
  cases hf : s.cubs.findIdx? (fun c => !c.held) with
  | none => rw [hf] at h; simp at h
  | some k =>
    obtain ⟨hl, hp, hlt⟩ := List.findIdx?_eq_some_iff_getElem.1 hf
    refine ⟨k, s.cubs[k], rfl, List.getElem?_eq_getElem hl, by simpa using hp, fun j c' hj hc => ?_⟩
    have := hlt j hj
    rw [(List.getElem?_eq_some_iff.1 hc).2] at this
    simpa using this
theorem free1_not {s : WS} (h : s.free1 < 0) {c : Cb} (hc : c ∈ s.cubs) : c.held = true := by
  have h2 := pidx_ge s.cubs (fun c => !c.held)
  rw [show pidx s.cubs (fun c => !c.held) = s.free1 from rfl, decide_eq_false (by omega)] at h2
  have := List.any_eq_false.1 h2.symm c hc
  simpa using this
theorem free_count (s : WS) : s.free = ((s.cubs.countP fun c => !c.held : Nat) : Int) := by unfold WS.free; rw [List.countP_eq_length_filter]
theorem free_upd {s : WS} {k : Nat} {c c' : Cb} (hc : s.cubs[k]? = some c) : (s.upd k c').free = s.free - (if c.held = true then 0 else 1) + (if c'.held = true then 0 else 1) := by
  have hk := (List.getElem?_eq_some_iff.1 hc).1
  rw [free_count, free_count]
  unfold WS.upd
  have h := List.countP_set (p := fun c : Cb => !c.held) (l := s.cubs) (i := k) (a := c') hk
  rw [(List.getElem?_eq_some_iff.1 hc).2] at h
  have hpos : c.held = false → 1 ≤ s.cubs.countP fun c => !c.held := fun hh => List.countP_pos_iff.2 ⟨c, List.mem_of_getElem? hc, by simp [hh]⟩
  generalize (s.cubs.set k c').countP (fun c => !c.held) = a at *
  generalize s.cubs.countP (fun c => !c.held) = b at *
  cases h1 : c.held with
  | false =>
    have := hpos h1
    cases h2 : c'.held <;> simp only [h1, h2, Bool.not_false, Bool.not_true, if_true, if_false, Bool.false_eq_true] at h ⊢ <;> omega
  | true => cases h2 : c'.held <;> simp only [h1, h2, Bool.not_false, Bool.not_true, if_true, if_false, Bool.false_eq_true] at h ⊢ <;> omega
theorem free_le (s : WS) : 0 ≤ s.free ∧ s.free ≤ s.cubs.length := by
  rw [free_count]
  have := List.countP_le_length (p := fun c : Cb => !c.held) (l := s.cubs)
  omega
theorem fine_upd {n : Nat} {s : WS} (h : Fine n s) {k : Nat} {c c' : Cb} (hc : s.cubs[k]? = some c) (h1 : c'.held = c.held) (h2 : c'.order = c.order) : Fine n (s.upd k c') := by
  refine ⟨by simpa [WS.upd] using h.len, fun i j a b ha hb ha1 hb1 hab => ?_⟩
  have key : ∀ (i : Nat) (a : Cb), (s.upd k c').cubs[i]? = some a → ∃ a', s.cubs[i]? = some a' ∧ a'.held = a.held ∧ a'.order = a.order := by
    intro i a ha
    by_cases e : k = i
    · subst e
      simp only [WS.upd] at ha
      rw [List.getElem?_set_self (List.getElem?_eq_some_iff.1 hc).1] at ha
      obtain rfl := Option.some.inj ha
      exact ⟨c, hc, h1.symm, h2.symm⟩
    · simp only [WS.upd] at ha
      rw [List.getElem?_set_ne e] at ha
      exact ⟨a, ha, rfl, rfl⟩
  obtain ⟨a', ha', e1, e2⟩ := key i a ha
  obtain ⟨b', hb', e3, e4⟩ := key j b hb
  exact h.uniq i j a' b' ha' hb' (by rw [e1]; exact ha1) (by rw [e3]; exact hb1) (by rw [e2, e4]; exact hab)
theorem free_put (s : WS) (n it qty : Int) : (s.put n it qty).1.free = s.free := by
  unfold WS.put
  cases ha : s.at n with
  | none => rfl
  | some c =>
    obtain ⟨h0, h1, h2⟩ := at_in ha
    dsimp only
    rw [free_upd h1]
    dsimp only
    rw [h2]
    simp
theorem free_less (s : WS) (id it qty : Int) : (s.less id it qty).1.free = s.free := by
  unfold WS.less
  split
  · rfl
  · exact free_put _ _ _ _
theorem Fine.put {n : Nat} {s : WS} (h : Fine n s) (m it qty : Int) : Fine n (s.put m it qty).1 := by
  unfold WS.put
  cases ha : s.at m with
  | none => exact h
  | some c =>
    obtain ⟨h0, h1, h2⟩ := at_in ha
    exact fine_upd h h1 rfl rfl
theorem Fine.less {n : Nat} {s : WS} (h : Fine n s) (id it qty : Int) : Fine n (s.less id it qty).1 := by
  unfold WS.less
  split
  · exact h
  · exact h.put _ _ _
theorem uniq_free {s : WS} (h : s.uniq) {k : Nat} {c' : Cb} (hc : c'.held = false) : (s.upd k c').uniq := by
  intro i j a b ha hb ha1 hb1 hab
  have key : ∀ (i : Nat) (a : Cb), (s.upd k c').cubs[i]? = some a → a.held = true → s.cubs[i]? = some a := by
    intro i a ha hh
    simp only [WS.upd] at ha
    by_cases e : k = i
    · subst e
      rw [List.getElem?_set] at ha
      simp only [if_true] at ha
      split at ha
      · obtain rfl := Option.some.inj ha
        rw [hc] at hh; simp at hh
      · simp at ha
    · rwa [List.getElem?_set_ne e] at ha
  exact h i j a b (key i a ha ha1) (key j b hb hb1) ha1 hb1 hab
theorem Fine.release {n : Nat} {s : WS} (h : Fine n s) (m : Int) : Fine n (s.release m).1 := by
  unfold WS.release
  split
  · split
    · exact ⟨by simpa [WS.upd] using h.len, uniq_free h.uniq rfl⟩
    · exact h
  · exact h
theorem uniq_new {s : WS} (h : s.uniq) {k : Nat} {id : Int} {l : List Ln} (hid : ∀ c ∈ s.cubs, c.held = true → c.order ≠ id) : (s.upd k ⟨true, id, l⟩).uniq := by
  intro i j a b ha hb ha1 hb1 hab
  simp only [WS.upd] at ha hb
  have key : ∀ (i : Nat) (a : Cb), (s.cubs.set k ⟨true, id, l⟩)[i]? = some a → (i = k ∧ a.order = id) ∨ (i ≠ k ∧ s.cubs[i]? = some a) := by
    intro i a ha
    by_cases e : k = i
    · subst e
      rw [List.getElem?_set] at ha
      simp only [if_true] at ha
      split at ha
      · obtain rfl := Option.some.inj ha
        exact .inl ⟨rfl, rfl⟩
      · simp at ha
    · rw [List.getElem?_set_ne e] at ha
      exact .inr ⟨fun c => e c.symm, ha⟩
  rcases key i a ha with ⟨rfl, e1⟩ | ⟨n1, e1⟩
  · rcases key j b hb with ⟨rfl, e2⟩ | ⟨n2, e2⟩
    · rfl
    · exact absurd (hab.symm.trans e1) (hid b (List.mem_of_getElem? e2) hb1)
  · rcases key j b hb with ⟨rfl, e2⟩ | ⟨n2, e2⟩
    · exact absurd (hab.trans e2) (hid a (List.mem_of_getElem? e1) ha1)
    · exact h i j a b e1 e2 ha1 hb1 hab
/-- What an Assign does. -/
theorem assign_cases {n : Nat} {s : WS} (h : Fine n s) (id : Int) (l : List Ln) : ∃ s' m e, s.assign id l = (s', m, e) ∧ Fine n s' ∧
    ((e = 0 ∧ 1 ≤ s.free ∧ s'.free = s.free - 1 ∧ s.of id < 0 ∧ badL (sortL l) = false ∧ (∃ (k : Nat) (c : Cb), m = k ∧ s.cubs[k]? = some c ∧ c.held = false ∧ (∀ (j : Nat) (c' : Cb), j < k → s.cubs[j]? = some c' → c'.held = true) ∧ s' = s.upd k ⟨true, id, sortL l⟩)) ∨
      ((e = 8 ∨ e = 1 ∨ e = 5) ∧ m = 0 ∧ s' = s)) := by
  unfold WS.assign
  by_cases c1 : 0 ≤ s.of id
  · rw [if_pos c1]; exact ⟨_, _, _, rfl, h, .inr ⟨.inl rfl, rfl, rfl⟩⟩
  · rw [if_neg c1]
    cases c2 : badL (sortL l) with
    | true => rw [if_pos rfl]; exact ⟨_, _, _, rfl, h, .inr ⟨.inr (.inl rfl), rfl, rfl⟩⟩
    | false =>
      rw [if_neg (by simp)]
      by_cases c3 : s.free1 < 0
      · rw [if_pos c3]; exact ⟨_, _, _, rfl, h, .inr ⟨.inr (.inr rfl), rfl, rfl⟩⟩
      · rw [if_neg c3]
        obtain ⟨k, c, hk, hc, hh, hlt⟩ := free1_in c3
        rw [hk, Int.toNat_natCast]
        have hf := free_upd (c' := ⟨true, id, sortL l⟩) hc
        rw [hh] at hf
        simp only [if_true, Bool.false_eq_true, if_false] at hf
        have hpos : 1 ≤ s.free := by
          rw [free_count]
          have : 0 < s.cubs.countP fun c : Cb => !c.held := List.countP_pos_iff.2 ⟨c, List.mem_of_getElem? hc, by simp [hh]⟩
          omega
        refine ⟨_, _, _, rfl, ⟨by simpa [WS.upd] using h.len, uniq_new h.uniq (fun c hc hh => of_not (by omega) hc hh)⟩, .inl ⟨rfl, hpos, by omega, by omega, rfl, k, c, rfl, hc, hh, hlt, rfl⟩⟩
/-- How many cubbies are held. -/
theorem held_take {s : WS} {k : Nat} {c : Cb} (hc : s.cubs[k]? = some c) : (s.cubs.take (k + 1)).countP (fun c => c.held) = (s.cubs.take k).countP (fun c => c.held) + if c.held = true then 1 else 0 := by
  rw [List.take_add_one, hc, Option.toList_some, List.countP_append]
  cases h : c.held <;> simp [h]
theorem held_all (s : WS) : ((s.cubs.countP fun c => c.held : Nat) : Int) = s.cubs.length - s.free := by
  rw [free_count]
  have := List.length_eq_countP_add_countP (p := fun c : Cb => c.held) (l := s.cubs)
  have e : s.cubs.countP (fun a => decide ¬a.held = true) = s.cubs.countP fun c => !c.held := by
    apply List.countP_congr
    intro a _
    cases a.held <;> simp
  rw [e] at this
  omega
theorem order_held {s : WS} {k : Nat} {c : Cb} (hc : s.cubs[k]? = some c) : s.order k = if c.held = true then .tuple #[.int .u32 c.order, .bool true] else .tuple #[.int .u32 0, .bool false] := by
  unfold WS.order WS.at
  rw [if_neg (by omega), Int.toNat_natCast, hc]
  dsimp only
  by_cases hh : c.held = true
  · rw [if_pos hh, if_pos hh]
  · rw [if_neg hh, if_neg hh]
end Go.Proofs.Ytienodnkfohakaa
