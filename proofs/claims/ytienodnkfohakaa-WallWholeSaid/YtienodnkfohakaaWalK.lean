import Derived.Test.YtienodnkfohakaaWalJ
import Derived.Test.YtienodnkfohakaaArrV
namespace Go.Proofs.Ytienodnkfohakaa
set_option linter.unusedVariables false
set_option linter.unusedSimpArgs false
open Go.RowKit
/-! Cubbies by turns. -/
structure Turn (n i : Nat) (s : WS) (hb : Nat → Bool) : Prop where
  fine : Fine n s
  at_ : ∀ (j : Nat) (c : Cb), s.cubs[j]? = some c → c.held = hb j ∧ c.needs = [] ∧ (c.held = true → 0 ≤ c.order ∧ c.order < i)
theorem turn_new (n : Nat) : Turn n 0 (WS.new n) (fun _ => false) := ⟨fine_new n, fun j c h => by
  have : c = Cb.zero := by have := List.mem_of_getElem? h; simp only [WS.new] at this; exact (List.mem_replicate.1 this).2
  subst this
  exact ⟨rfl, rfl, fun h => by simp [Cb.zero] at h⟩⟩
theorem Turn.of {n i : Nat} {s : WS} {hb : Nat → Bool} (h : Turn n i s hb) : s.of (i : Int) < 0 := by
  rcases Int.lt_or_le (s.of (i : Int)) 0 with c | c
  · exact c
  · obtain ⟨x, -, h1, h2, h3⟩ := of_in c
    have := (h.at_ _ x h1).2.2 h2
    omega
theorem Turn.next {n i : Nat} {s : WS} {hb : Nat → Bool} (h : Turn n i s hb) : Turn n (i + 1) s hb := ⟨h.fine, fun j c hc => ⟨(h.at_ j c hc).1, (h.at_ j c hc).2.1, fun hh => by have := (h.at_ j c hc).2.2 hh; omega⟩⟩
theorem turn_none {n i : Nat} {s : WS} {hb : Nat → Bool} (h : Turn n i s hb) (ha : ∀ j, j < n → hb j = true) : s.assign (i : Int) [] = (s, 0, 5) ∧ s.free = 0 := by
  have hall : ∀ c ∈ s.cubs, (!c.held) = false := fun c hc => by
    obtain ⟨j, hj⟩ := List.mem_iff_getElem?.1 hc
    have := h.at_ j c hj
    rw [this.1, ha j (by rw [← h.fine.len]; exact (List.getElem?_eq_some_iff.1 hj).1)]
    rfl
  have hf : s.free1 = -1 := pidx_miss hall
  refine ⟨?_, ?_⟩
  · unfold WS.assign
    rw [if_neg (by have := h.of; omega), sort_nil, show badL [] = false from rfl, if_neg (by simp), hf, if_pos (by omega)]
  · rw [free_count, List.countP_eq_zero.2 (fun c hc => by rw [hall c hc]; simp)]; rfl
theorem turn_some {n i : Nat} {s : WS} {hb : Nat → Bool} (h : Turn n i s hb) {k : Nat} (hk : k < n) (h0 : hb k = false) (hl : ∀ j, j < k → hb j = true) :
    s.assign (i : Int) [] = (s.upd k ⟨true, i, []⟩, (k : Int), 0) ∧ Turn n (i + 1) (s.upd k ⟨true, i, []⟩) (fun j => if j = k then true else hb j) := by
  have hkl : k < s.cubs.length := by rw [h.fine.len]; exact hk
  have hc := List.getElem?_eq_getElem hkl
  have hf : s.free1 = k := pidx_hit hc (by rw [(h.at_ k _ hc).1, h0]; rfl) (fun z hz => by
    obtain ⟨j, hj, e⟩ := List.mem_take_iff_getElem.1 hz
    have hjl : j < s.cubs.length := by omega
    have := (h.at_ j _ (List.getElem?_eq_getElem hjl)).1
    rw [← e, this, hl j (by omega)]; rfl)
  refine ⟨?_, ⟨by simpa [WS.upd] using h.fine.len, uniq_new h.fine.uniq (fun c hc hh => of_not h.of hc hh)⟩, fun j c hj => ?_⟩
  · unfold WS.assign
    rw [if_neg (by have := h.of; omega), sort_nil, show badL [] = false from rfl, if_neg (by simp), hf, if_neg (by omega), Int.toNat_natCast]
  · simp only [WS.upd] at hj
    by_cases e : k = j
    · subst e
      rw [List.getElem?_set_self hkl] at hj
      obtain rfl := Option.some.inj hj
      exact ⟨by simp, rfl, fun _ => by dsimp only; omega⟩
    · rw [List.getElem?_set_ne e] at hj
      have := h.at_ j c hj
      exact ⟨by rw [if_neg (fun c => e c.symm)]; exact this.1, this.2.1, fun hh => by have := this.2.2 hh; omega⟩
theorem Turn.rel {n i : Nat} {s : WS} {hb : Nat → Bool} (h : Turn n i s hb) {k : Nat} (hk : k < n) (h0 : hb k = true) :
    ∃ od, s.release (k : Int) = (s.upd k Cb.zero, od, 0) ∧ Turn n i (s.upd k Cb.zero) (fun j => if j = k then false else hb j) ∧ (s.upd k Cb.zero).free = s.free + 1 := by
  have hkl : k < s.cubs.length := by rw [h.fine.len]; exact hk
  have hc := List.getElem?_eq_getElem hkl
  obtain ⟨a1, a2, -⟩ := h.at_ k _ hc
  have hh : (s.cubs[k]).held = true := by rw [a1, h0]
  have hat : s.at (k : Int) = some (s.cubs[k]) := by
    unfold WS.at
    rw [if_neg (by omega), Int.toNat_natCast, hc]
    dsimp only
    rw [if_pos hh]
  refine ⟨(s.cubs[k]).order, ?_, ⟨⟨by simpa [WS.upd] using h.fine.len, uniq_free h.fine.uniq rfl⟩, fun j c hj => ?_⟩, ?_⟩
  · have hfull : s.full (k : Int) = true := by
      unfold WS.full
      rw [hat]
      exact decide_eq_true (by rw [a2]; rfl)
    unfold WS.release
    rw [hat]
    dsimp only
    rw [hfull, Int.toNat_natCast]
    rfl
  · simp only [WS.upd] at hj
    by_cases e : k = j
    · subst e
      rw [List.getElem?_set_self hkl] at hj
      obtain rfl := Option.some.inj hj
      exact ⟨by simp [Cb.zero], rfl, fun hh => by simp [Cb.zero] at hh⟩
    · rw [List.getElem?_set_ne e] at hj
      have := h.at_ j c hj
      exact ⟨by rw [if_neg (fun c => e c.symm)]; exact this.1, this.2⟩
  · rw [free_upd hc, hh]
    simp [Cb.zero]
end Go.Proofs.Ytienodnkfohakaa
