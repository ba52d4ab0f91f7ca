import Derived.Test.YtienodnkfohakaaWalI
namespace Go.Proofs.Ytienodnkfohakaa
set_option linter.unusedVariables false
set_option linter.unusedSimpArgs false
open Go.RowKit
/-! Where an item goes. -/
theorem scan_hit {s : WS} {it : Int} {k : Nat} {c : Cb} {x : Ln} (h : ∀ (j : Nat) (c' : Cb), j < k → s.cubs[j]? = some c' → lk c'.needs it = none) (hc : s.cubs[k]? = some c) (hx : lk c.needs it = some x) : s.scan it = ((k : Int), x.qty, 0) := by
  unfold WS.scan
  have hk := (List.getElem?_eq_some_iff.1 hc).1
  have : s.cubs.findIdx? (fun c => (lk c.needs it).isSome) = some k := by
    rw [List.findIdx?_eq_some_iff_getElem]
    refine ⟨hk, by rw [(List.getElem?_eq_some_iff.1 hc).2, hx]; rfl, fun j hj => ?_⟩
    have hjl : j < s.cubs.length := by omega
    rw [h j _ hj (List.getElem?_eq_getElem hjl)]
    simp
  rw [this]
  simp only [hc, hx]
theorem scan_miss {s : WS} {it : Int} (h : ∀ c ∈ s.cubs, lk c.needs it = none) : s.scan it = (0, 0, 11) := by
  unfold WS.scan
  have : s.cubs.findIdx? (fun c => (lk c.needs it).isSome) = none := by
    rw [List.findIdx?_eq_none_iff]
    intro c hc
    rw [h c hc]; rfl
  rw [this]
theorem needs_at {s : WS} (h : s.good) {k : Nat} {c : Cb} (hc : s.cubs[k]? = some c) : s.needs (k : Int) = c.needs := by
  unfold WS.needs WS.at
  rw [if_neg (by omega), Int.toNat_natCast, hc]
  dsimp only
  by_cases hh : c.held = true
  · rw [if_pos hh]
  · rw [if_neg hh]
    exact ((h.each c (List.mem_of_getElem? hc)).free (by simpa using hh)).symm
theorem needs_some {s : WS} {k : Nat} {it : Int} {x : Ln} (h : lk (s.needs (k : Int)) it = some x) : ∃ c, s.at (k : Int) = some c ∧ s.cubs[k]? = some c ∧ c.needs = s.needs (k : Int) := by
  unfold WS.needs at *
  cases ha : s.at (k : Int) with
  | none => rw [ha] at h; simp [lk_nil] at h
  | some c =>
    obtain ⟨h0, h1, h2⟩ := at_in ha
    rw [Int.toNat_natCast] at h1
    exact ⟨c, rfl, h1, rfl⟩
theorem put_bad {s : WS} {n it q : Int} {c : Cb} {x : Ln} (ha : s.at n = some c) (hx : lk c.needs it = some x) (hq : q < 1 ∨ x.qty < q) : s.put n it q = (s, 10) := by
  obtain ⟨h0, h1, h2⟩ := at_in ha
  unfold WS.put lput
  rw [ha]
  dsimp only
  rw [hx]
  dsimp only
  rw [if_pos hq]
  dsimp only
  rw [show (WS.upd s n.toNat { c with needs := c.needs }) = s by unfold WS.upd; rw [show ({ c with needs := c.needs } : Cb) = c from rfl, set_same' h1]]
theorem put_fine {s : WS} {n it q : Int} {c : Cb} {x : Ln} (ha : s.at n = some c) (hx : lk c.needs it = some x) (h1 : 1 ≤ q) (h2 : q ≤ x.qty) : (s.put n it q).2 = 0 := by
  unfold WS.put
  rw [ha]
  dsimp only
  rw [lput_errno, hx]
  dsimp only
  rw [if_neg (by omega)]
theorem over_one (q : Int) (h1 : 1 ≤ q) (h2 : q ≤ 9223372036854775807) : IntKind.wrap .i64 (q + 1) < 1 ∨ q < IntKind.wrap .i64 (q + 1) := by
  rw [IntKind.wrap_i64]
  omega
theorem lk_none_take {l : List Ln} {it : Int} (h : ∀ (i : Nat) (x : Ln), i < l.length → l[i]? = some x → x.item ≠ it) : lk l it = none := lk_none_of (fun x hx => by
  obtain ⟨i, hi⟩ := List.mem_iff_getElem?.1 hx
  exact h i x (List.getElem?_eq_some_iff.1 hi).1 hi)
end Go.Proofs.Ytienodnkfohakaa
