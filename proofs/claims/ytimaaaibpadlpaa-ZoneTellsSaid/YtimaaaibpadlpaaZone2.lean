import Derived.Test.YtimaaaibpadlpaaZone
import Derived.Test.YtimaaaibpadlpaaSched
import Derived.Deep.RegionWith
import Derived.Deep.RegionHeld3
import Derived.Deep.QuietTactic
import Derived.BigQuiet
namespace Go.Proofs.Ytimaaaibpadlpaa
set_option linter.unusedVariables false
set_option linter.unusedSimpArgs false
open Go.RowKit

theorem new_any (lv : Value) (l : List Int) (G : Nat → Prop) (w : World) (h : SeesIn w G 1 lv l.length (ints .u16 l)) (hb : l.length * 2 ≤ 140737488355328) :
    Calls Try.prog 9 #[lv] w fun e w' => ∃ z, e = .returned (.pointer (some ⟨z, 0, none⟩)) ∧ Keep none_ w w' ∧ ZRep w' (fresh none_ w w') z ⟨l, none⟩ := by
  have HC := Lib.hid (cloneI lv l.length (ints .u16 l) G w h hb)
  clear h hb
  go_enter Try.func9, Try.ntmps9
  go_wp2_with (go_at_call 22; refine HC.out.mono ?_; rintro e w' ⟨lv', rfl, hkp, ho⟩; obtain ⟨A, c, rfl, -, -⟩ := ho.len)
  go_ret
  have hs := hkp.size
  refine ⟨_, rfl, hkp.alloc _, ⟨.inr ⟨hs, by simp⟩, _, _, heap_alloc_new _ _, ho.move (fun k hk hl => ⟨?_, Below.heap_alloc _ _ _ hl⟩), rfl⟩⟩
  simp [fresh, none_] at hk ⊢
  omega

def overB : Option (Int × List Ln) → Bool
  | none => false
  | some (_, l) => decide ((l.length : Int) = 0)
theorem over_any (V : Value) (s : Option (Int × List Ln)) (F : Nat → Prop) (w : World) (h : VRep w F V s) :
    Calls Try.prog 15 #[V] w fun e w' => e = .returned (.bool (overB s)) ∧ w = w' := by
  cases s with
  | none =>
    obtain rfl : V = .pointer none := h
    go_enter Try.func15, Try.ntmps15
    go_wp2
    go_ret
    exact ⟨rfl, rfl⟩
  | some p =>
    obtain ⟨t, l⟩ := p
    obtain ⟨v, wv, rfl, hF, hb, ho⟩ := h
    obtain ⟨A, c, rfl, -, -⟩ := ho.len
    have c1 : w.cell? ⟨v, 1, none⟩ = some (.slice A l.length c) := by simp only [World.cell?, hb]; rfl
    clear hb ho hF
    by_cases h0 : (l.length : Int) = 0
    · have hB : ((l.length : Int) == 0) = true := by simp only [h0]; rfl
      have HR : Hid (overB (some (t, l)) = true) := by show decide _ = true; simp [h0]
      have HR0 := Lib.hid h0
      clear h0
      go_enter Try.func15, Try.ntmps15
      go_wp2
      go_ret
      exact ⟨by rw [HR.out]; rfl, rfl⟩
    · have hB : ((l.length : Int) == 0) = false := by simp only [beq_eq_false_iff_ne]; exact h0
      have HR : Hid (overB (some (t, l)) = false) := by show decide _ = false; simp only [decide_eq_false_iff_not]; exact h0
      have HR0 := Lib.hid h0
      clear h0
      go_enter Try.func15, Try.ntmps15
      go_wp2
      go_ret
      exact ⟨by rw [HR.out]; rfl, rfl⟩

def toteV : Option (Int × List Ln) → Value
  | none => .tuple #[.int .u16 0, .bool false]
  | some (t, _) => .tuple #[.int .u16 t, .bool true]
theorem tote_any (V : Value) (s : Option (Int × List Ln)) (F : Nat → Prop) (w : World) (h : VRep w F V s) :
    Calls Try.prog 20 #[V] w fun e w' => e = .returned (toteV s) ∧ w = w' := by
  cases s with
  | none =>
    obtain rfl : V = .pointer none := h
    go_enter Try.func20, Try.ntmps20
    go_wp2
    go_ret2
    exact ⟨rfl, rfl⟩
  | some p =>
    obtain ⟨t, l⟩ := p
    obtain ⟨v, wv, rfl, hF, hb, ho⟩ := h
    have c1 : w.cell? ⟨v, 0, none⟩ = some (.int .u16 t) := by simp only [World.cell?, hb]; rfl
    clear hb ho hF
    go_enter Try.func20, Try.ntmps20
    go_wp2
    go_ret2
    exact ⟨rfl, rfl⟩

def vlines : Option (Int × List Ln) → List Ln
  | none => []
  | some (_, l) => l
theorem wants_any (V : Value) (s : Option (Int × List Ln)) (F : Nat → Prop) (w : World) (h : VRep w F V s) (hb : (vlines s).length * 16 ≤ 140737488355328) :
    Calls Try.prog 11 #[V] w fun e w' => ∃ v', e = .returned v' ∧ Keep none_ w w' ∧ Own w' (fresh none_ w w') 27 3 v' (vlines s).length (lns (vlines s)) := by
  cases s with
  | none =>
    obtain rfl : V = .pointer none := h
    clear hb
    go_enter Try.func11, Try.ntmps11
    go_wp2
    go_ret
    exact ⟨_, rfl, Keep.refl _ _, Own.nil _ _ _ _⟩
  | some p =>
    obtain ⟨t, l⟩ := p
    obtain ⟨v, wv, rfl, hF, hbl, ho⟩ := h
    have c1 : w.cell? ⟨v, 1, none⟩ = some wv := by simp only [World.cell?, hbl]; rfl
    have HC := Lib.hid (cloneL wv l.length (lns l) F w ho.sees hb)
    clear hbl ho hF hb
    go_enter Try.func11, Try.ntmps11
    go_wp2_with (go_at_call 24; refine HC.out.mono ?_; rintro e w' ⟨v', rfl, hkp, ho⟩)
    go_ret
    exact ⟨v', rfl, hkp, ho⟩

def ZS.leave (s : ZS) : ZS × Value := if overB s.visit then ({ s with visit := none }, .tuple #[.int .u16 (match s.visit with | some (t, _) => t | none => 0), .int .i64 0]) else (s, .tuple #[.int .u16 0, .int .i64 7])
theorem leave_any (z : Nat) (s : ZS) (F : Nat → Prop) (w : World) (h : ZRep w F z s) :
    Calls Try.prog 18 #[.pointer (some ⟨z, 0, none⟩)] w fun e w' => e = .returned s.leave.2 ∧ Keep F w w' ∧ ZRep w' F z s.leave.1 := by
  have h' := h
  obtain ⟨hF, V, lv, hb, h1, h2⟩ := h
  have c0 : w.cell? ⟨z, 0, none⟩ = some V := by simp only [World.cell?, hb]; rfl
  have f0 : w.frozen? ⟨z, 0, none⟩ = false := by simp [World.frozen?, hb]
  have HO := Lib.hid (over_any V s.visit F w h2)
  have H := Lib.hid h'
  obtain ⟨locs, vs⟩ := s
  cases hov : overB vs with
  | false =>
    have HOV := Lib.hid hov
    have HR : Hid (ZS.leave ⟨locs, vs⟩ = (⟨locs, vs⟩, .tuple #[.int .u16 0, .int .i64 7])) := by show ZS.leave _ = _; simp [ZS.leave, hov]
    simp only [hov] at HO
    clear hov hb h1 h2 h' hF
    go_enter Try.func18, Try.ntmps18
    go_wp2_with (go_at_call 15; refine HO.out.mono ?_; rintro e w' ⟨rfl, rfl⟩)
    go_ret2
    rw [HR.out]
    exact ⟨rfl, Keep.refl _ _, H.out⟩
  | true =>
    cases vs with
    | none => simp [overB] at hov
    | some p =>
      obtain ⟨t, l⟩ := p
      obtain ⟨v, wv, rfl, hFv, hbv, ho⟩ := h2
      have c1 : w.cell? ⟨v, 0, none⟩ = some (.int .u16 t) := by simp only [World.cell?, hbv]; rfl
      have HR : Hid (ZS.leave ⟨locs, some (t, l)⟩ = (⟨locs, none⟩, .tuple #[.int .u16 t, .int .i64 0])) := by show ZS.leave _ = _; simp [ZS.leave, hov]
      simp only [hov] at HO
      have HF := Lib.hid hF
      have HB := Lib.hid hb
      clear hov hb h' hF hbv ho
      go_enter Try.func18, Try.ntmps18
      go_wp2_with (go_at_call 15; refine HO.out.mono ?_; rintro e w' ⟨rfl, rfl⟩)
      go_ret2
      rw [HR.out]
      have hkp := (Keep.refl F w).setCell (p := ⟨z, 0, none⟩) (.inr HF.out) (.pointer none)
      refine ⟨rfl, hkp, HF.out, .pointer none, lv, ?_, ?_, rfl⟩
      · rw [heap_setCell_same _ _ _ _ _ _ HB.out]; rfl
      · exact h1.setCell (h1.ne HB.out (by decide)) _

def addLine (locs : List Int) (acc : List Ln) (x : Ln) : List Ln := if mem locs x.loc = true ∧ 0 < x.qty ∧ lidx acc x.loc < 0 then acc ++ [x] else acc
def wantsOf (locs : List Int) (ls : List Ln) : List Ln := ls.foldl (addLine locs) []
theorem wantsOf_snoc (locs : List Int) (ls : List Ln) (k : Nat) (y : Ln) (h : ls[k]? = some y) : wantsOf locs (ls.take (k + 1)) = addLine locs (wantsOf locs (ls.take k)) y := by
  rw [List.take_add_one, h, wantsOf, List.foldl_append]; rfl
theorem addLine_len (locs : List Int) (acc : List Ln) (x : Ln) : (addLine locs acc x).length ≤ acc.length + 1 := by
  unfold addLine; split <;> simp
theorem wantsOf_len (locs : List Int) (ls : List Ln) : (wantsOf locs ls).length ≤ ls.length := by
  have : ∀ acc : List Ln, (ls.foldl (addLine locs) acc).length ≤ acc.length + ls.length := by
    induction ls with
    | nil => intro acc; simp
    | cons x l ih => intro acc; have := ih (addLine locs acc x); have := addLine_len locs acc x; simp only [List.foldl_cons, List.length_cons]; omega
  simpa [wantsOf] using this []
def ZS.come (s : ZS) (tote : Int) (ls : List Ln) : ZS × Value :=
  match s.visit with
  | some _ => (s, .tuple #[.int .i64 0, .int .i64 7])
  | none => ({ s with visit := some (tote, wantsOf s.locs ls) }, .tuple #[.int .i64 (wantsOf s.locs ls).length, .int .i64 0])

set_option maxHeartbeats 1000000 in
theorem visit_any (z : Nat) (s : ZS) (tote : Int) (lv : Value) (ls : List Ln) (F G : Nat → Prop) (w : World) (h : ZRep w F z s) (hl : SeesIn w G 3 lv ls.length (lns ls)) (hd : ∀ k, G k → ¬ F k) (hb : ls.length * 16 ≤ 140737488355328) :
    Calls Try.prog 10 #[.pointer (some ⟨z, 0, none⟩), .int .u16 tote, lv] w fun e w' => e = .returned (s.come tote ls).2 ∧ Keep F w w' ∧ ZRep w' (fresh F w w') z (s.come tote ls).1 := by
  have h' := h
  obtain ⟨hF, V, v1, hbz, h1, h2⟩ := h
  have c0 : w.cell? ⟨z, 0, none⟩ = some V := by simp only [World.cell?, hbz]; rfl
  have f0 : w.frozen? ⟨z, 0, none⟩ = false := by simp [World.frozen?, hbz]
  have H := Lib.hid h'
  obtain ⟨locs, vs⟩ := s
  cases vs with
  | some p =>
    obtain ⟨t, l⟩ := p
    obtain ⟨v, wv, rfl, hFv, hbv, ho⟩ := h2
    clear h1 h' hbv ho hbz hF hl hb hd
    go_enter Try.func10, Try.ntmps10
    go_wp2
    go_ret2
    exact ⟨rfl, Keep.refl _ _, H.out.move (fun k hk _ => ⟨.inl hk, rfl⟩)⟩
  | none =>
    obtain rfl : V = .pointer none := h2
    have hz := lt_of_block hbz
    -- behind 'z.visit = &visit{..}'
    have hrep : ∀ w2, w2 = (w.setCell ⟨z, 0, none⟩ (.pointer (some ⟨w.heap.size, 0, none⟩))).alloc (.cells #[.int .u16 tote, .slice none 0 0] 64) → ZRep w2 (fun q => F q ∨ w.heap.size ≤ q) z ⟨locs, some (tote, [])⟩ ∧ Keep F w w2 := by
      rintro w2 rfl
      have e2 := heap_setCell_same _ _ 0 _ _ (.pointer (some ⟨w.heap.size, 0, none⟩)) hbz
      have h1' := h1.setCell (a := ⟨z, 0, none⟩) (h1.ne hbz (by decide)) (.pointer (some ⟨w.heap.size, 0, none⟩))
      refine ⟨⟨.inl hF, _, v1, ?_, ?_, w.heap.size, .slice none 0 0, rfl, .inr (Nat.le_refl _), ?_, Own.nil _ _ _ _⟩, ((Keep.refl F w).setCell (.inr hF) _).alloc _⟩
      · rw [Below.heap_alloc _ _ _ (by simpa using hz), e2]; rfl
      · exact h1'.move (fun k hk hl => ⟨.inl hk, Below.heap_alloc _ _ _ hl⟩)
      · have := heap_alloc_new (w.setCell ⟨z, 0, none⟩ (.pointer (some ⟨w.heap.size, 0, none⟩))) (.cells #[.int .u16 tote, .slice none 0 0] 64)
        simpa using this
    have HREP := Lib.hid hrep
    obtain ⟨A, cp, rfl, hn1, hn2, -⟩ := id hl
    have HL := Lib.hid hl
    have HD := Lib.hid hd
    unfold maxLen at hn2
    clear h1 h' hbz hF hl hrep hd
    obtain ⟨i0, hi0, hz0, hz1, hz2⟩ := info_parts Try.infoLine
    go_enter Try.func10, Try.ntmps10
    go_wp2
    go_loopw [23] (fun i wr => ∃ k : Nat, k ≤ ls.length ∧ i = .int .i64 k ∧ Keep F w wr ∧ ZRep wr (fun q => F q ∨ w.heap.size ≤ q) z ⟨locs, some (tote, wantsOf locs (ls.take k))⟩) (fun i _ => ls.length - (intOf i).toNat)
    case atStart => exact ⟨0, Nat.zero_le _, rfl, (HREP.out _ rfl).2, (HREP.out _ rfl).1⟩
    case round =>
      obtain ⟨k, hk, rfl, hkp, hr⟩ := hrel
      have HK := Lib.hid hkp
      by_cases hlt : k < ls.length
      · obtain ⟨y, hy⟩ : ∃ y, ls[k]? = some y := ⟨_, List.getElem?_eq_getElem hlt⟩
        have hsw := HL.out.move (G := G) hkp.size (fun q hq hl => ⟨hq, hkp.block q hl (HD.out q hq)⟩)
        obtain ⟨g, o, cp', hv, -, -, -, -, c0, c1, c2⟩ := sees_line hsw hy
        simp only [Value.slice.injEq] at hv
        obtain ⟨rfl, -, rfl⟩ := hv
        have hr1 : ZRep (wr.alloc (.cells #[.int .u16 y.item, .int .u16 y.loc, .int .i64 y.qty] 27)) (fun q => F q ∨ w.heap.size ≤ q) z ⟨locs, some (tote, wantsOf locs (ls.take k))⟩ := hr.move (fun q hq hl => ⟨hq, Below.heap_alloc _ _ _ hl⟩)
        have HH := fun n => Lib.hid (has_any z y.loc _ _ _ (hr1.move (w' := (wr.alloc (.cells #[.int .u16 y.item, .int .u16 y.loc, .int .i64 y.qty] 27)).drewN n) (fun q hq _ => ⟨hq, rfl⟩)))
        have HY := Lib.hid hy
        have HR := Lib.hid hr1
        have HRW := Lib.hid hr
        clear hy hsw hr hr1 hkp
        by_cases hm : mem locs y.loc = true
        · simp only [hm] at HH
          have HM := Lib.hid hm
          clear hm
          by_cases hq : 0 < y.qty
          · obtain ⟨hF', V', lv', hb0, h1', hvr0⟩ := HRW.out
            obtain ⟨v', wv, rfl, hFv, hbv0, ho0⟩ := id hvr0
            obtain ⟨wA, wc, rfl, -, -⟩ := ho0.len
            have hzlr := lt_of_block hb0
            have hvlr := lt_of_block hbv0
            have hvr := hvr0.move (w' := wr.alloc (.cells #[.int .u16 y.item, .int .u16 y.loc, .int .i64 y.qty] 27)) (fun q hq hl => ⟨hq, Below.heap_alloc _ _ _ hl⟩)
            have ho := ho0.move (w' := wr.alloc (.cells #[.int .u16 y.item, .int .u16 y.loc, .int .i64 y.qty] 27)) (fun q hq hl => ⟨hq, Below.heap_alloc _ _ _ hl⟩)
            have hb' := (Below.heap_alloc wr (.cells #[.int .u16 y.item, .int .u16 y.loc, .int .i64 y.qty] 27) z hzlr).trans hb0
            have hbv := (Below.heap_alloc wr (.cells #[.int .u16 y.item, .int .u16 y.loc, .int .i64 y.qty] 27) v' hvlr).trans hbv0
            have hnx : some wr.heap.size ≠ (Value.slice wA (wantsOf locs (ls.take k)).length wc).ownBlock := fun e => by have := ho0.lt e.symm; omega
            have HNX := Lib.hid hnx
            have hxv : wr.heap.size ≠ v' := by omega
            clear hnx
            have hzl : z < wr.heap.size + 1 := by have := lt_of_block hb'; simpa using this
            have hp : ∀ W : World, Keep none_ (wr.alloc (.cells #[.int .u16 y.item, .int .u16 y.loc, .int .i64 y.qty] 27)) W → VRep W (fun q => F q ∨ w.heap.size ≤ q) (.pointer (some ⟨v', 0, none⟩)) (some (tote, wantsOf locs (ls.take k))) := fun W hW => hvr.move (fun q hq hl => ⟨hq, hW.block q hl (fun c => c)⟩)
            have z0 : (wr.alloc (.cells #[.int .u16 y.item, .int .u16 y.loc, .int .i64 y.qty] 27)).cell? ⟨z, 0, none⟩ = some (.pointer (some ⟨v', 0, none⟩)) := by simp only [World.cell?, hb']; rfl
            have HP := fun W hW => Lib.hid (place_any _ _ y.loc _ W (hp W hW))
            have hbx : (wr.alloc (.cells #[.int .u16 y.item, .int .u16 y.loc, .int .i64 y.qty] 27)).heap[wr.heap.size]? = some (.cells #[.int .u16 y.item, .int .u16 y.loc, .int .i64 y.qty] 27 (0, 0)) := heap_alloc_new _ _
            have hzv : z ≠ v' := by rintro rfl; rw [hb'] at hbv; simp at hbv
            have hvl : v' < wr.heap.size + 1 := by have := lt_of_block hbv; simpa using this
            have HB' := Lib.hid hb'
            have HBV := Lib.hid hbv
            have HO := Lib.hid ho
            have HBX := Lib.hid hbx
            have HW := Lib.hid h1'
            have HHa : ∀ W : World, Keep none_ (wr.alloc (.cells #[.int .u16 y.item, .int .u16 y.loc, .int .i64 y.qty] 27)) W → Hid (Calls Try.prog 12 #[.pointer (some ⟨z, 0, none⟩), .int .u16 y.loc] W fun e w' => e = .returned (.bool true) ∧ W = w') := fun W hW => by
              have := has_any z y.loc _ _ W (HR.out.move (w' := W) (fun q hq hl => ⟨hq, hW.block q hl (fun c => c)⟩))
              rw [HM.out] at this
              exact this
            have hS : ∀ W : World, Keep none_ (wr.alloc (.cells #[.int .u16 y.item, .int .u16 y.loc, .int .i64 y.qty] 27)) W → W.cell? ⟨z, 0, none⟩ = some (.pointer (some ⟨v', 0, none⟩)) ∧ W.cell? ⟨wr.heap.size, 1, none⟩ = some (.int .u16 y.loc) ∧ W.cell? ⟨wr.heap.size, 2, none⟩ = some (.int .i64 y.qty) ∧ Hid (Keep none_ (wr.alloc (.cells #[.int .u16 y.item, .int .u16 y.loc, .int .i64 y.qty] 27)) W) := fun W hW =>
              ⟨(hW.cell (by simpa using hzl) (fun c => c)).trans z0, (hW.cell (by simp) (fun c => c)).trans (by rw [World.cell?_alloc_at _ _ _ _ rfl]; rfl), (hW.cell (by simp) (fun c => c)).trans (by rw [World.cell?_alloc_at _ _ _ _ rfl]; rfl), Lib.hid hW⟩
            have HS := Lib.hid hS
            clear hb' h1' hvr hp hS hbv ho hbx hvr0 hbv0 ho0 hb0
            by_cases hx : lidx (wantsOf locs (ls.take k)) y.loc < 0
            · have hx1 : decide (vidx (some (tote, wantsOf locs (ls.take k))) y.loc < 0) = true := by simp only [decide_eq_true_eq]; exact hx
              have HX := Lib.hid hx
              have HQ := Lib.hid hq
              clear hx
              go_wp2
              go_region_held3 (fun W => W.cell? ⟨z, 0, none⟩ = some (.pointer (some ⟨v', 0, none⟩)) ∧ W.cell? ⟨wr.heap.size, 1, none⟩ = some (.int .u16 y.loc) ∧ W.cell? ⟨wr.heap.size, 2, none⟩ = some (.int .i64 y.qty) ∧ Hid (Keep none_ (wr.alloc (.cells #[.int .u16 y.item, .int .u16 y.loc, .int .i64 y.qty] 27)) W))
                (first
                  | exact HS.out _ (Keep.refl _ _).drew
                  | exact HS.out _ ((‹_ ∧ _ ∧ _ ∧ Hid (Keep none_ _ _)›).2.2.2.out.next ‹Keep none_ _ _›)
                  | exact HS.out _ (‹_ ∧ _ ∧ _ ∧ Hid (Keep none_ _ _)›).2.2.2.out)
                (first
                  | (go_at_call 12; refine ((HHa _ (‹_ ∧ _ ∧ _ ∧ Hid (Keep none_ _ _)›).2.2.2.out).out).mono ?_; rintro e w' ⟨rfl, rfl⟩)
                  | (go_at_call 23; refine ((HP _ (‹_ ∧ _ ∧ _ ∧ Hid (Keep none_ _ _)›).2.2.2.out).out).mono ?_; rintro e w' ⟨rfl, hkq⟩))
              have HKW := Lib.hid (‹_ ∧ _ ∧ _ ∧ Hid (Keep none_ _ _)›).2.2.2.out
              obtain ⟨g1, g2, g3, -⟩ := (‹_ ∧ _ ∧ _ ∧ Hid (Keep none_ _ _)›)
              have e1 : w'.heap[v']? = some (.cells #[.int .u16 tote, .slice wA (wantsOf locs (ls.take k)).length wc] 64 (0, 0)) := (HKW.out.block v' (by simpa using hvl) (fun c => c)).trans HBV.out
              have g4 : w'.cell? ⟨v', 1, none⟩ = some (.slice wA (wantsOf locs (ls.take k)).length wc) := by simp only [World.cell?, e1]; rfl
              have g5 : w'.frozen? ⟨v', 1, none⟩ = false := by simp [World.frozen?, e1]
              have e2 : w'.heap[wr.heap.size]? = some (.cells #[.int .u16 y.item, .int .u16 y.loc, .int .i64 y.qty] 27 (0, 0)) := (HKW.out.block _ (by simp) (fun c => c)).trans HBX.out
              have g6 : w'.cell? ⟨wr.heap.size, 0, none⟩ = some (.int .u16 y.item) := by simp only [World.cell?, e2]; rfl
              have ho' : Own w' (fun q => F q ∨ w.heap.size ≤ q) 27 3 (.slice wA (wantsOf locs (ls.take k)).length wc) (wantsOf locs (ls.take k)).length (lns (wantsOf locs (ls.take k))) := HO.out.move (fun q hq hl => ⟨hq, HKW.out.block q hl (fun c => c)⟩)
              have HO' := Lib.hid ho'
              have HE1 := Lib.hid e1
              have hacc : (wantsOf locs (ls.take k)).length ≤ k := by have := wantsOf_len locs (ls.take k); have := List.length_take_le k ls; omega
              have hm1 : (wantsOf locs (ls.take k)).length + 1 ≤ maxLen := by unfold maxLen; omega
              have hm2 : ((wantsOf locs (ls.take k)).length + 1) * 16 ≤ 140737488355328 := by omega
              have hvw := HKW.out.size
              have hvl' : v' < w'.heap.size := lt_of_block e1
              have hxl' : wr.heap.size < w'.heap.size := lt_of_block e2
              have hzl' : z < w'.heap.size := by simp at hvw; omega
              have hne : some v' ≠ (Value.slice wA (wantsOf locs (ls.take k)).length wc).ownBlock := (ho'.ne e1 (by decide)).symm
              have e3 : w'.heap[z]? = some (.cells #[.pointer (some ⟨v', 0, none⟩), lv'] 36 (0, 0)) := (HKW.out.block z (by simp; omega) (fun c => c)).trans HB'.out
              have hnz : some z ≠ (Value.slice wA (wantsOf locs (ls.take k)).length wc).ownBlock := (ho'.ne e3 (by decide)).symm
              have HNZ := Lib.hid hnz
              have HE3 := Lib.hid e3
              have HE2 := Lib.hid e2
              have HM1 := Lib.hid hm1
              have HM2 := Lib.hid hm2
              have HNE := Lib.hid hne
              have HACC := Lib.hid hacc
              clear e1 e2 e3 ho' hm1 hm2 hne hacc hnz
              go_wp2
              refine wp_sch [(0, 0), (0, 1), (0, 2), (0, 3), (0, 4), (0, 5), (0, 6), (0, 7), (0, 8), (0, 9), (0, 10), (0, 11), (1, 12), (1, 13), (0, 14), (0, 15), (2, 16)] [16] (fun W => W.cell? ⟨z, 0, none⟩ = some (.pointer (some ⟨v', 0, none⟩)) ∧ W.cell? ⟨v', 1, none⟩ = some (.slice wA (wantsOf locs (ls.take k)).length wc) ∧ W.cell? ⟨wr.heap.size, 0, none⟩ = some (.int .u16 y.item) ∧ W.cell? ⟨wr.heap.size, 1, none⟩ = some (.int .u16 y.loc) ∧ W.cell? ⟨wr.heap.size, 2, none⟩ = some (.int .i64 y.qty)) (by kernel_rfl) (by kernel_rfl) (by kernel_rfl) (fun _ _ d _ _ h => by cases d <;> exact h) ⟨g1, g4, g6, g2, g3⟩ ?_
              iterate 12
                refine sch_yield (v := ?_) rfl rfl (by rfl) ?_ ?_
                rotate_left
                · intro W hS
                  obtain ⟨hS1, hS2, hS3, hS4, hS5⟩ := hS
                  go_simp
                  try with_reducible rfl
                simp only [Act.put, List.setIfInBounds_toArray, List.set_cons_zero, List.set_cons_succ]
              refine sch_run rfl (fun K hK => ?_)
              go_simp
              refine hK _ _ (by refine ⟨?_, ?_, ?_, ?_, ?_⟩ <;> go_keep) ?_
              clear hK K
              try simp only [Act.put, List.setIfInBounds_toArray, List.set_cons_zero, List.set_cons_succ]
              refine sch_run rfl (fun K hK => ?_)
              refine step_append_lies _ (by rfl) _ _ _ (by rfl) 0 27 i0 _ 3 16 Try.underlying22 hi0 hz0 hz1 hz2 rfl (by omega) _ _ (lns (wantsOf locs (ls.take k))) (by rfl) ((HO'.out.1.alloc _).drew) ⟨w'.heap.size, 0, none⟩ 1 1 y.cs (by rfl) (by rfl) (World.news_of_block (cs := #[.int .u16 y.item, .int .u16 y.loc, .int .i64 y.qty]) (t := 27) (fr := (0, 0)) (heap_alloc_new w' _)) (by simp [Ln.cs, Value.oneCell']) (by omega) HM1.out HM2.out (Nat.zero_le _) (w'.heap.size + 1) (by simp) ?_
              intro gg cap w1 hown1 hgrow hat hlt1
              have e1' := (hgrow.block v' (by simp; omega) HNE.out).trans ((Below.heap_alloc w' _ _ (lt_of_block HE1.out)).trans HE1.out)
              have k1 : w1.cell? ⟨v', 1, none⟩ = some (.slice wA (wantsOf locs (ls.take k)).length wc) := (by simp [World.cell?, e1'])
              have f1 : w1.frozen? ⟨v', 1, none⟩ = false := (by simp [World.frozen?, e1'])
              have e3' := (hgrow.block z (by simp; omega) HNZ.out).trans ((Below.heap_alloc w' _ _ (lt_of_block HE3.out)).trans HE3.out)
              have k3 : w1.cell? ⟨z, 0, none⟩ = some (.pointer (some ⟨v', 0, none⟩)) := (by simp [World.cell?, e3'])
              have e2' := (hgrow.block wr.heap.size (by simp; omega) HNX.out).trans ((Below.heap_alloc w' _ _ (lt_of_block HE2.out)).trans HE2.out)
              have x0 : w1.cell? ⟨wr.heap.size, 0, none⟩ = some (.int .u16 y.item) := (by simp [World.cell?, e2'])
              have x1 : w1.cell? ⟨wr.heap.size, 1, none⟩ = some (.int .u16 y.loc) := (by simp [World.cell?, e2'])
              have x2 : w1.cell? ⟨wr.heap.size, 2, none⟩ = some (.int .i64 y.qty) := (by simp [World.cell?, e2'])
              clear e2'
              have HE1' := Lib.hid e1'
              have HE3' := Lib.hid e3'
              clear e1' e3'
              have HOW1 := Lib.hid hown1
              have HGR := Lib.hid hgrow
              have HAT := Lib.hid hat
              clear hown1 hgrow hat
              refine hK _ _ ⟨k3, k1, x0, x1, x2⟩ ?_
              clear hK K
              try simp only [Act.put, List.setIfInBounds_toArray, List.set_cons_zero, List.set_cons_succ]
              iterate 2
                refine sch_yield (v := ?_) rfl rfl (by rfl) ?_ ?_
                rotate_left
                · intro W hS
                  obtain ⟨hS1, hS2, hS3, hS4, hS5⟩ := hS
                  go_simp
                  try with_reducible rfl
                simp only [Act.put, List.setIfInBounds_toArray, List.set_cons_zero, List.set_cons_succ]
              refine sch_store rfl (fun K hK => ?_)
              go_simp
              refine hK _ _ (sch_done ?_)
              clear hK K
              try simp only [Act.put, List.setIfInBounds_toArray, List.set_cons_zero, List.set_cons_succ]
              all_goals
                go_wp2
                refine ⟨⟨k + 1, by omega, by go_num, ?_, ?_⟩, by simp [intOf]; omega⟩
                · exact (((((HK.out.alloc _).trans (HKW.out.mono (fun _ c => c.elim))).alloc _).drew.grown HGR.out (fun q hq => (HO.out.2.1 q hq).symm)).setCell (p := ⟨v', 1, none⟩) hFv.symm _)
                · rw [wantsOf_snoc locs ls k y HY.out, addLine, if_pos ⟨HM.out, HQ.out, HX.out⟩]
                  have o1 := (HW.out.move (w' := w') (G := fun q => F q ∨ w.heap.size ≤ q) (fun q hq hl => ⟨hq, (HKW.out.block q (by simp; omega) (fun c => c)).trans (Below.heap_alloc _ _ _ hl)⟩))
                  have o2 : Own (w'.alloc (.cells #[.int .u16 y.item, .int .u16 y.loc, .int .i64 y.qty] 27)).drew (fun q => F q ∨ w.heap.size ≤ q) 25 1 lv' locs.length (ints .u16 locs) := o1.move (fun q hq hl => ⟨hq, Below.heap_alloc _ _ _ hl⟩)
                  have o3 : Own (w'.alloc (.cells #[.int .u16 y.item, .int .u16 y.loc, .int .i64 y.qty] 27)).drew (fun q => F q ∨ w.heap.size ≤ q) 27 3 _ _ _ := HO'.out.move (fun q hq hl => ⟨hq, Below.heap_alloc _ _ _ hl⟩)
                  have o4 := o2.grown HGR.out (o2.apart o3 (by decide))
                  have o5 : Own w1 (fun q => F q ∨ w.heap.size ≤ q) 27 3 (.slice (some ⟨gg, 0, none⟩) ((wantsOf locs (ls.take k)).length + 1) cap) ((wantsOf locs (ls.take k)).length + 1) (lns (wantsOf locs (ls.take k)) ++ y.cs) := by
                    refine ⟨HOW1.out, fun q hq => ?_, fun u hu => ?_⟩
                    · simp only [Value.ownBlock, Option.some.injEq] at hq
                      subst hq
                      rcases HAT.out with h | h
                      · exact HO'.out.2.1 _ h
                      · refine .inr ?_
                        have := HK.out.size
                        simp at hvw
                        omega
                    · rw [← lns_snoc] at hu
                      exact lns_one _ u hu
                  refine ⟨hF', .pointer (some ⟨v', 0, none⟩), lv', ?_, o4.setCell (o4.ne HE1'.out (by decide)) _, v', .slice (some ⟨gg, 0, none⟩) ((wantsOf locs (ls.take k)).length + 1) cap, rfl, hFv, ?_, ?_⟩
                  · rw [Below.heap_setCell _ _ _ _ hzv]; exact HE3'.out
                  · rw [heap_setCell_same _ _ _ _ _ _ HE1'.out]; rfl
                  · rw [lns_snoc, List.length_append]
                    exact o5.setCell (o5.ne HE1'.out (by decide)) _
            · have hx1 : decide (vidx (some (tote, wantsOf locs (ls.take k))) y.loc < 0) = false := by simp only [decide_eq_false_iff_not]; exact hx
              have HX := Lib.hid hx
              clear hx
              go_wp2
              go_region_held3 (fun W => W.cell? ⟨z, 0, none⟩ = some (.pointer (some ⟨v', 0, none⟩)) ∧ W.cell? ⟨wr.heap.size, 1, none⟩ = some (.int .u16 y.loc) ∧ W.cell? ⟨wr.heap.size, 2, none⟩ = some (.int .i64 y.qty) ∧ Hid (Keep none_ (wr.alloc (.cells #[.int .u16 y.item, .int .u16 y.loc, .int .i64 y.qty] 27)) W))
                (first
                  | exact HS.out _ (Keep.refl _ _).drew
                  | exact HS.out _ ((‹_ ∧ _ ∧ _ ∧ Hid (Keep none_ _ _)›).2.2.2.out.next ‹Keep none_ _ _›)
                  | exact HS.out _ (‹_ ∧ _ ∧ _ ∧ Hid (Keep none_ _ _)›).2.2.2.out)
                (first
                  | (go_at_call 12; refine ((HHa _ (‹_ ∧ _ ∧ _ ∧ Hid (Keep none_ _ _)›).2.2.2.out).out).mono ?_; rintro e w' ⟨rfl, rfl⟩)
                  | (go_at_call 23; refine ((HP _ (‹_ ∧ _ ∧ _ ∧ Hid (Keep none_ _ _)›).2.2.2.out).out).mono ?_; rintro e w' ⟨rfl, hkq⟩))
              have HKW := Lib.hid (‹_ ∧ _ ∧ _ ∧ Hid (Keep none_ _ _)›).2.2.2.out
              go_wp2
              refine ⟨⟨k + 1, by omega, by go_num, ?_, ?_⟩, by simp [intOf]; omega⟩
              · exact (HK.out.alloc _).trans (HKW.out.mono (fun _ c => c.elim))
              · rw [wantsOf_snoc locs ls k y HY.out, addLine, if_neg (fun c => by have := HX.out; omega)]
                exact HR.out.move (fun q hq hl => ⟨hq, HKW.out.block q hl (fun c => c)⟩)
          · have hq1 : decide (0 < y.qty) = false := by simpa using hq
            have HQ := Lib.hid hq
            clear hq
            go_wp2
            go_quiet ((go_at_call 12; exact Calls.quiet_of_same (((HH _).out).mono (by rintro e w' ⟨he, rfl⟩; exact ⟨he, rfl⟩))))
            go_wp2
            go_roundw
            case rel =>
              refine ⟨k + 1, by omega, by go_num, ?_, ?_⟩
              · exact (HK.out.alloc _).drewN _
              · rw [wantsOf_snoc locs ls k y HY.out, addLine, if_neg (fun c => by have := HQ.out; omega)]; exact HR.out.move (fun q hq _ => ⟨hq, rfl⟩)
            case measure => simp [intOf]; omega
        · have hm' : mem locs y.loc = false := by simpa using hm
          simp only [hm'] at HH
          have HM := Lib.hid hm'
          clear hm hm'
          go_wp2
          go_quiet ((go_at_call 12; exact Calls.quiet_of_same (((HH _).out).mono (by rintro e w' ⟨he, rfl⟩; exact ⟨he, rfl⟩))))
          go_wp2
          go_roundw
          case rel => 
            refine ⟨k + 1, by omega, by go_num, ?_, ?_⟩
            · exact (HK.out.alloc _).drewN _
            · rw [wantsOf_snoc locs ls k y HY.out, addLine, if_neg (by rw [HM.out]; simp)]; exact HR.out.move (fun q hq _ => ⟨hq, rfl⟩)
          case measure => simp [intOf]; omega
      · have hk' : k = ls.length := by omega
        have HK' := Lib.hid hk'
        obtain ⟨hF', V', lv', hb', h1', v', wv', rfl, hFv, hbv, ho⟩ := hr
        obtain ⟨A', c', rfl, -, -⟩ := ho.len
        have c0 : wr.cell? ⟨z, 0, none⟩ = some (.pointer (some ⟨v', 0, none⟩)) := by simp only [World.cell?, hb']; rfl
        have c1 : wr.cell? ⟨v', 1, none⟩ = some (.slice A' (wantsOf locs (ls.take k)).length c') := by simp only [World.cell?, hbv]; rfl
        have HRR : Hid (ZRep wr (fresh F w wr) z ⟨locs, some (tote, wantsOf locs (ls.take k))⟩) := by
          have : ZRep wr (fun q => F q ∨ w.heap.size ≤ q) z ⟨locs, some (tote, wantsOf locs (ls.take k))⟩ := ⟨hF', _, lv', hb', h1', v', _, rfl, hFv, hbv, ho⟩
          exact this.move (fun q hq hl => ⟨by rcases hq with h | h; exact .inl h; exact .inr ⟨h, hl⟩, rfl⟩)
        clear hkp hF' hb' h1' hFv hbv ho hk'
        go_wp2
        go_ret2
        have e : ls.take k = ls := by rw [HK'.out, List.take_length]
        rw [e] at HRR ⊢
        exact ⟨rfl, HK.out, HRR.out⟩
end Go.Proofs.Ytimaaaibpadlpaa
