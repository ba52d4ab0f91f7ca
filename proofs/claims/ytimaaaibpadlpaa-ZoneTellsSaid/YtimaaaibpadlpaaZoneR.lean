import Derived.Test.YtimaaaibpadlpaaZoneVL
import Derived.Test.YtimaaaibpadlpaaBase2
import Derived.Test.YtimaaaibpadlpaaSched
namespace Go.Proofs.Ytimaaaibpadlpaa
set_option linter.unusedVariables false
set_option linter.unusedSimpArgs false
open Go.RowKit

/-- the reference's zone -/
structure RS where
  locs : List Int
  there : Bool
  tote : Int
  l : List Ln
def RRep (w : World) (F A : Nat → Prop) (r : Nat) (s : RS) : Prop :=
  F r ∧ ∃ lv wv, w.heap[r]? = some (.cells #[lv, .bool s.there, .int .u16 s.tote, wv] 48 (0, 0)) ∧ SeesIn w A 1 lv s.locs.length (ints .u16 s.locs) ∧ Own w F 27 3 wv s.l.length (lns s.l)
theorem mem_of_getElem (l : List Int) (k : Nat) (y : Int) (h : l[k]? = some y) : mem l y = true := by
  unfold mem
  rw [List.contains_iff_mem]
  exact List.mem_of_getElem? h
theorem RRep.move {w w' : World} {F A G B : Nat → Prop} {r : Nat} {s : RS} (h : RRep w F A r s) (hs : w.heap.size ≤ w'.heap.size) (hk : ∀ k, F k → k < w.heap.size → G k ∧ w'.heap[k]? = w.heap[k]?) (ha : ∀ k, A k → k < w.heap.size → B k ∧ w'.heap[k]? = w.heap[k]?) : RRep w' G B r s := by
  obtain ⟨hF, lv, wv, hb, h1, h2⟩ := h
  have := hk r hF (lt_of_block hb)
  exact ⟨this.1, lv, wv, this.2.trans hb, h1.move hs ha, h2.move hk⟩

set_option maxHeartbeats 400000 in
theorem rHas_any (r : Nat) (x : Int) (F A : Nat → Prop) (s : RS) (w : World) (h : RRep w F A r s) :
    Calls Try.prog 21 #[.pointer (some ⟨r, 0, none⟩), .int .u16 x] w fun e w' => e = .returned (.bool (mem s.locs x)) ∧ w = w' := by
  obtain ⟨hF, lv, wv, hb, h1, h2⟩ := h
  have a0 : w.cell? ⟨r, 0, none⟩ = some lv := by simp [World.cell?, hb]
  obtain ⟨locs, th, to, l⟩ := s
  obtain ⟨A', c', rfl, hn1, hn2, -⟩ := id h1
  have H1 := Lib.hid h1
  unfold maxLen at hn2
  clear h1 h2 hF hb
  simp only at a0 hn1 ⊢
  go_enter Try.func21, Try.ntmps21
  go_wp2
  go_loop [5] (fun i => ∃ k : Nat, k ≤ locs.length ∧ i = .int .i64 k ∧ mem (locs.take k) x = false) (fun i => locs.length - (intOf i).toNat)
  case atStart => exact ⟨0, Nat.zero_le _, rfl, rfl⟩
  case round =>
    obtain ⟨k, hk, rfl, hx⟩ := hrel
    have HX := Lib.hid hx
    clear hx
    by_cases hlt : k < locs.length
    · obtain ⟨y, hy⟩ : ∃ y, locs[k]? = some y := ⟨_, List.getElem?_eq_getElem hlt⟩
      obtain ⟨g, o, cp, e1, -, -, hq1, hq2, d0⟩ := sees_int H1.out hy
      simp only [Value.slice.injEq, true_and] at e1
      obtain ⟨rfl, rfl⟩ := e1
      have HM := Lib.hid (mem_take locs k y x hy)
      have HMM := Lib.hid (mem_of_getElem locs k y hy)
      clear hy
      by_cases he : y = x
      · have hb : (y == x) = true := by simp [he]
        have HE := Lib.hid he
        clear he
        go_wp2
        go_ret
        have : mem locs x = true := by rw [← HE.out]; exact HMM.out
        exact ⟨by rw [this]; rfl, rfl⟩
      · have hb : (y == x) = false := by simp [he]
        clear he
        have HM2 : Hid (mem (locs.take (k + 1)) x = false) := by show _ = _; rw [HM.out, HX.out, hb]; rfl
        go_wp2
        go_round
        case rel => exact ⟨k + 1, by omega, by go_num, HM2.out⟩
        case measure => simp [intOf]; omega
    · have hk' : k = locs.length := by omega
      have HK := Lib.hid hk'
      clear hk'
      go_wp2
      go_ret
      have : mem locs x = false := by have := HX.out; rwa [HK.out, List.take_length] at this
      exact ⟨by rw [this]; rfl, rfl⟩

set_option maxHeartbeats 400000 in
theorem rFind_any (r : Nat) (x : Int) (F A : Nat → Prop) (s : RS) (w : World) (h : RRep w F A r s) :
    Calls Try.prog 27 #[.pointer (some ⟨r, 0, none⟩), .int .u16 x] w fun e w' => e = .returned (.int .i64 (lidx s.l x)) ∧ w = w' := by
  obtain ⟨hF, lv, wv, hb, h1, h2⟩ := h
  have a0 : w.cell? ⟨r, 3, none⟩ = some wv := by simp [World.cell?, hb]
  obtain ⟨locs, th, to, l⟩ := s
  obtain ⟨A', c', rfl, hn1, hn2⟩ := h2.len
  have H1 := Lib.hid h2
  unfold maxLen at hn2
  clear h1 h2 hF hb
  simp only at a0 hn1 ⊢
  go_enter Try.func27, Try.ntmps27
  go_wp2
  go_loop [5] (fun i => ∃ k : Nat, k ≤ l.length ∧ i = .int .i64 k ∧ x ∉ (l.map Ln.loc).take k) (fun i => l.length - (intOf i).toNat)
  case atStart => exact ⟨0, Nat.zero_le _, rfl, by simp⟩
  case round =>
    obtain ⟨k, hk, rfl, hx⟩ := hrel
    have HX := Lib.hid hx
    clear hx
    by_cases hlt : k < l.length
    · obtain ⟨y, hy⟩ : ∃ y, l[k]? = some y := ⟨_, List.getElem?_eq_getElem hlt⟩
      obtain ⟨g, o, cp, e1, -, -, hq1, hq2, d0, d1, d2⟩ := sees_line H1.out.sees hy
      simp only [Value.slice.injEq, true_and] at e1
      obtain ⟨rfl, rfl⟩ := e1
      have HY := Lib.hid hy
      clear hy
      by_cases he : y.loc = x
      · have hb : (y.loc == x) = true := by simp [he]
        have HE := Lib.hid he
        clear he
        go_wp2
        go_ret
        exact ⟨by rw [lidx, idx_hit (k := k) (by rw [List.getElem?_map, HY.out]; rfl) HE.out.symm HX.out]; rfl, rfl⟩
      · have hb : (y.loc == x) = false := by simp [he]
        have HE := Lib.hid he
        clear he
        go_wp2
        go_round
        case rel => exact ⟨k + 1, by omega, by go_num, notin_snoc (by rw [List.getElem?_map, HY.out]; rfl) (fun e => HE.out e.symm) HX.out⟩
        case measure => simp [intOf]; omega
    · have hk' : k = l.length := by omega
      have HK' := Lib.hid hk'
      clear hk'
      go_wp2
      go_ret
      exact ⟨by rw [lidx, idx_miss (by rw [List.length_map]; exact HK'.out) HX.out]; rfl, rfl⟩

def RS.leave (s : RS) : RS × Value := if s.there = true ∧ s.l = [] then ({ s with there := false, tote := 0 }, .tuple #[.int .u16 s.tote, .int .i64 0]) else (s, .tuple #[.int .u16 0, .int .i64 7])
theorem rLeave_any (r : Nat) (F A : Nat → Prop) (s : RS) (w : World) (h : RRep w F A r s) (hd : ∀ k, A k → ¬ F k) :
    Calls Try.prog 19 #[.pointer (some ⟨r, 0, none⟩)] w fun e w' => e = .returned s.leave.2 ∧ Keep F w w' ∧ RRep w' F A r s.leave.1 := by
  have h' := h
  obtain ⟨hF, lv, wv, hb, h1, h2⟩ := h
  obtain ⟨locs, th, to, l⟩ := s
  obtain ⟨A', c', rfl, hn1, hn2⟩ := h2.len
  have a1 : w.cell? ⟨r, 1, none⟩ = some (.bool th) := by simp [World.cell?, hb]
  have a2 : w.cell? ⟨r, 2, none⟩ = some (.int .u16 to) := by simp [World.cell?, hb]
  have a3 : w.cell? ⟨r, 3, none⟩ = some (.slice A' l.length c') := by simp [World.cell?, hb]
  have f1 : w.frozen? ⟨r, 1, none⟩ = false := by simp [World.frozen?, hb]
  have f2 : w.frozen? ⟨r, 2, none⟩ = false := by simp [World.frozen?, hb]
  have H := Lib.hid h'
  have HF := Lib.hid hF
  have HB := Lib.hid hb
  have H1 := Lib.hid h1
  have H2 := Lib.hid h2
  have HD := Lib.hid hd
  cases th with
  | false =>
    have HR : Hid (RS.leave ⟨locs, false, to, l⟩ = (⟨locs, false, to, l⟩, .tuple #[.int .u16 0, .int .i64 7])) := by show RS.leave _ = _; simp [RS.leave]
    clear h' hF hb h1 h2 hd
    go_enter Try.func19, Try.ntmps19
    go_wp2
    go_ret2
    rw [HR.out]
    exact ⟨rfl, Keep.refl _ _, H.out⟩
  | true =>
    cases l with
    | cons x l =>
      have HR : Hid (RS.leave ⟨locs, true, to, x :: l⟩ = (⟨locs, true, to, x :: l⟩, .tuple #[.int .u16 0, .int .i64 7])) := by show RS.leave _ = _; simp [RS.leave]
      have hp : 0 < (x :: l).length := by simp
      have hp2 : decide (0 < (x :: l).length) = true := by simp
      generalize (x :: l).length = n at *
      clear h' hF hb h1 h2 hd
      go_enter Try.func19, Try.ntmps19
      go_wp2
      go_ret2
      rw [HR.out]
      exact ⟨rfl, Keep.refl _ _, H.out⟩
    | nil =>
      have HR : Hid (RS.leave ⟨locs, true, to, []⟩ = (⟨locs, false, 0, []⟩, .tuple #[.int .u16 to, .int .i64 0])) := by show RS.leave _ = _; simp [RS.leave]
      clear h' hF hb h1 h2 hd
      simp only [List.length_nil] at a3
      go_enter Try.func19, Try.ntmps19
      go_wp2
      go_ret2
      rw [HR.out]
      have hkp := ((Keep.refl F w).setCell (p := ⟨r, 1, none⟩) (.inr HF.out) (.bool false)).setCell (p := ⟨r, 2, none⟩) (.inr HF.out) (.int .u16 0)
      have e1 := heap_setCell_same _ _ 1 _ _ (.bool false) HB.out
      have e2 := heap_setCell_same _ _ 2 _ _ (.int .u16 0) e1
      have ho := (H2.out.setCell (a := ⟨r, 1, none⟩) (H2.out.ne HB.out (by decide)) (.bool false)).setCell (a := ⟨r, 2, none⟩) (H2.out.ne HB.out (by decide)) (.int .u16 0)
      exact ⟨rfl, hkp, HF.out, lv, _, e2, H1.out.move hkp.size (fun q hq hl => ⟨hq, hkp.block q hl (HD.out q hq)⟩), ho⟩
end Go.Proofs.Ytimaaaibpadlpaa
