import Derived.Test.YtimaaaibpadlpaaZone7
namespace Go.Proofs.Ytimaaaibpadlpaa
set_option linter.unusedVariables false
set_option linter.unusedSimpArgs false
open Go.RowKit

def ZS.pick (s : ZS) (loc kind qty : Int) : ZS × Value :=
  match s.visit with
  | none => (s, pickNo 6)
  | some (t, l) =>
    if lidx l loc < 0 then (s, pickNo 6)
    else if kind ≠ 1 ∧ kind ≠ 2 then (s, pickNo 1)
    else match l[(lidx l loc).toNat]? with
      | none => (s, pickNo 6)
      | some x =>
        if qty < 0 ∨ x.qty < qty then (s, pickNo 10)
        else if kind = 2 then ({ s with visit := some (t, l.eraseIdx (lidx l loc).toNat) }, pickV t loc x.item qty (x.qty - qty) 0)
        else if x.qty = qty then ({ s with visit := some (t, l.eraseIdx (lidx l loc).toNat) }, pickV t loc x.item qty 0 0)
        else ({ s with visit := some (t, l.set (lidx l loc).toNat { x with qty := x.qty - qty }) }, pickV t loc x.item qty 0 0)

theorem picked_any (z : Nat) (s : ZS) (loc kind qty : Int) (F : Nat → Prop) (w : World) (h : ZRep w F z s) (hm : ∀ x ∈ vlines s.visit, x.qty ≤ 9223372036854775807) :
    Calls Try.prog 14 #[.pointer (some ⟨z, 0, none⟩), .int .u16 loc, .int .u8 kind, .int .i64 qty] w fun e w' => e = .returned (s.pick loc kind qty).2 ∧ Keep F w w' ∧ ZRep w' (fresh F w w') z (s.pick loc kind qty).1 := by
  have same : ∀ (w' : World), Keep none_ w w' → Keep F w w' ∧ ZRep w' (fresh F w w') z s := fun w' hk => ⟨hk.none, h.move (fun q hq hl => ⟨.inl hq, hk.block q hl (fun c => c)⟩)⟩
  obtain ⟨locs, vs⟩ := s
  cases vs with
  | none =>
    refine (picked_none z _ loc kind qty F w h (by show (-1 : Int) < 0; omega)).mono ?_
    rintro e w' ⟨rfl, hk⟩
    exact ⟨rfl, same w' hk⟩
  | some p =>
    obtain ⟨t, l⟩ := p
    simp only [ZS.pick]
    by_cases hi : lidx l loc < 0
    · rw [if_pos hi]
      refine (picked_none z _ loc kind qty F w h hi).mono ?_
      rintro e w' ⟨rfl, hk⟩
      exact ⟨rfl, same w' hk⟩
    · rw [if_neg hi]
      by_cases hkd : kind ≠ 1 ∧ kind ≠ 2
      · rw [if_pos hkd]
        refine (picked_kind z t l locs loc kind qty F w h (by omega) hkd.1 hkd.2).mono ?_
        rintro e w' ⟨rfl, hk⟩
        exact ⟨rfl, same w' hk⟩
      · rw [if_neg hkd]
        have hkd' : kind = 1 ∨ kind = 2 := by omega
        obtain ⟨k, x, hk, hx, hloc⟩ := lidx_some (l := l) (loc := loc) (by omega)
        have hkn : (lidx l loc).toNat = k := by omega
        rw [hkn, hx]
        have hxm := hm x (by show x ∈ l; exact List.mem_of_getElem? hx)
        simp only
        by_cases hq : qty < 0 ∨ x.qty < qty
        · rw [if_pos hq]
          by_cases hq0 : qty < 0
          · refine (picked_low z t l locs loc kind qty F w h (by omega) hkd' hq0).mono ?_
            rintro e w' ⟨rfl, hk⟩
            exact ⟨rfl, same w' hk⟩
          · refine (picked_high z t l locs loc kind qty k x F w h hk hx hkd' (by omega) (by omega)).mono ?_
            rintro e w' ⟨rfl, hk⟩
            exact ⟨rfl, same w' hk⟩
        · rw [if_neg hq]
          have h' : ZRep w (fun q => F q ∧ q < w.heap.size) z ⟨locs, some (t, l)⟩ := h.move (fun q hq hl => ⟨⟨hq, hl⟩, rfl⟩)
          have out : ∀ (w' : World) (s' : ZS), Keep (fun q => F q ∧ q < w.heap.size) w w' → ZRep w' (fresh (fun q => F q ∧ q < w.heap.size) w w') z s' → Keep F w w' ∧ ZRep w' (fresh F w w') z s' := fun w' s' hk hz =>
            ⟨hk.mono (fun q c => c.1), hz.move (fun q hq _ => ⟨by rcases hq with c | c; exact .inl c.1; exact .inr c, rfl⟩)⟩
          by_cases h2 : kind = 2
          · rw [if_pos h2]
            subst h2
            refine (picked_short z t l locs loc qty k x _ w h' hk hx (by omega) (by omega) hxm (fun q c => c.2)).mono ?_
            rintro e w' ⟨rfl, hk, hz⟩
            exact ⟨rfl, out w' _ hk hz⟩
          · rw [if_neg h2]
            obtain rfl : kind = 1 := by omega
            by_cases h3 : x.qty = qty
            · rw [if_pos h3]
              refine (picked_all z t l locs loc qty k x _ w h' hk hx (by omega) h3.symm hxm (fun q c => c.2)).mono ?_
              rintro e w' ⟨rfl, hk, hz⟩
              exact ⟨rfl, out w' _ hk hz⟩
            · rw [if_neg h3]
              refine (picked_part z t l locs loc qty k x _ w h' hk hx (by omega) (by omega) hxm (fun q c => c.2)).mono ?_
              rintro e w' ⟨rfl, hk, hz⟩
              exact ⟨rfl, out w' _ hk hz⟩

/-! The same, at the place from n on but B. -/
theorem ZRep.push {w : World} {B : List Nat} {n z : Nat} {s : ZS} (h : ZRep w (out B n) z s) (o : Obj) : ZRep (w.alloc o) (out (w.heap.size :: B) n) z s :=
  h.move (fun k hk hl => ⟨⟨hk.1, by simp only [List.mem_cons, not_or]; exact ⟨by omega, hk.2⟩⟩, Below.heap_alloc _ _ _ hl⟩)
theorem ZRep.alloc {w : World} {F : Nat → Prop} {z : Nat} {s : ZS} (h : ZRep w F z s) (o : Obj) : ZRep (w.alloc o) F z s :=
  h.move (fun k hk hl => ⟨hk, Below.heap_alloc _ _ _ hl⟩)
theorem new_out (B : List Nat) (n : Nat) (lv : Value) (l : List Int) (G : Nat → Prop) (w : World) (h : SeesIn w G 1 lv l.length (ints .u16 l)) (hb : l.length * 2 ≤ 140737488355328) (hn : n ≤ w.heap.size) (hB : ∀ b ∈ B, b < w.heap.size) :
    Calls Try.prog 9 #[lv] w fun e w' => ∃ z, e = .returned (.pointer (some ⟨z, 0, none⟩)) ∧ Keep none_ w w' ∧ ZRep w' (out B n) z ⟨l, none⟩ := by
  refine (new_any lv l G w h hb).mono ?_
  rintro e w' ⟨z, rfl, hk, hz⟩
  exact ⟨z, rfl, hk, hz.move (fun q hq _ => ⟨by rcases hq with c | c; exact c.elim; exact ⟨by omega, fun m => by have := hB q m; omega⟩, rfl⟩)⟩
theorem visit_out (B : List Nat) (n z : Nat) (s s' : ZS) (r : Value) (tote : Int) (lv : Value) (ls : List Ln) (G : Nat → Prop) (w : World) (h : ZRep w (out B n) z s) (hn : n ≤ w.heap.size) (hB : ∀ b ∈ B, b < w.heap.size) (hl : SeesIn w G 3 lv ls.length (lns ls)) (hd : ∀ k, G k → k < n ∨ k ∈ B) (hb : ls.length * 16 ≤ 140737488355328) (hs : s.come tote ls = (s', r)) :
    Calls Try.prog 10 #[.pointer (some ⟨z, 0, none⟩), .int .u16 tote, lv] w fun e w' => e = .returned r ∧ Keep (out B n) w w' ∧ ZRep w' (out B n) z s' := by
  refine (visit_any z s tote lv ls _ G w h hl (fun k hg c => by rcases hd k hg with d | d; have := c.1; omega; exact c.2 d) hb).mono ?_
  rintro e w' ⟨rfl, hk, hz⟩
  rw [hs] at hz ⊢
  exact ⟨rfl, hk, hz.move (fun q hq _ => ⟨out_fresh hn hB hq, rfl⟩)⟩
theorem picked_out (B : List Nat) (n z : Nat) (s s' : ZS) (r : Value) (loc kind qty : Int) (w : World) (h : ZRep w (out B n) z s) (hn : n ≤ w.heap.size) (hB : ∀ b ∈ B, b < w.heap.size) (hm : ∀ x ∈ vlines s.visit, x.qty ≤ 9223372036854775807) (hs : s.pick loc kind qty = (s', r)) :
    Calls Try.prog 14 #[.pointer (some ⟨z, 0, none⟩), .int .u16 loc, .int .u8 kind, .int .i64 qty] w fun e w' => e = .returned r ∧ Keep (out B n) w w' ∧ ZRep w' (out B n) z s' := by
  refine (picked_any z s loc kind qty _ w h hm).mono ?_
  rintro e w' ⟨rfl, hk, hz⟩
  rw [hs] at hz ⊢
  exact ⟨rfl, hk, hz.move (fun q hq _ => ⟨out_fresh hn hB hq, rfl⟩)⟩
theorem leave_out (B : List Nat) (n z : Nat) (s s' : ZS) (r : Value) (w : World) (h : ZRep w (out B n) z s) (hs : s.leave = (s', r)) :
    Calls Try.prog 18 #[.pointer (some ⟨z, 0, none⟩)] w fun e w' => e = .returned r ∧ Keep (out B n) w w' ∧ ZRep w' (out B n) z s' := by
  refine (leave_any z s _ w h).mono ?_
  rintro e w' ⟨rfl, hk, hz⟩
  rw [hs] at hz ⊢
  exact ⟨rfl, hk, hz⟩
theorem ZRep.field {w : World} {F : Nat → Prop} {z : Nat} {s : ZS} (h : ZRep w F z s) : ∃ V, w.cell? ⟨z, 0, none⟩ = some V ∧ VRep w F V s.visit := by
  obtain ⟨hF, V, lv, hb, h1, h2⟩ := h
  exact ⟨V, by simp [World.cell?, hb], h2⟩
end Go.Proofs.Ytimaaaibpadlpaa
