import Derived.Test.YtilmodbiimjllaaArgs2
import Derived.Test.YtilmodbiimjllaaDW
namespace Go.Proofs.Ytilmodbiimjllaa
set_option linter.unusedVariables false
set_option linter.unusedSimpArgs false
open Go.RowKit

theorem ints_snoc (k : IntKind) (l : List Int) (x : Int) : ints k (l ++ [x]) = ints k l ++ [.int k x] := by simp [ints]
theorem ints_len' (k : IntKind) (l : List Int) : (ints k l).length = l.length := by simp [ints]
theorem Try.infoU16 : (Try.prog.info? 30).map (fun i => (i.zero, i.size, i.bytes)) = some (some (.int .u16 0), 1, 2) := by kernel_rfl

set_option maxHeartbeats 400000 in
theorem cloneI (v : Value) (n : Nat) (xs : List Value) (F : Nat → Prop) (w : World) (h : SeesIn w F 1 v n xs) (hb : n * 2 ≤ 140737488355328) :
    Calls Try.prog 34 #[v] w fun e w' => ∃ v', e = .returned v' ∧ Keep none_ w w' ∧ Own w' (fresh none_ w w') 30 1 v' n xs := by
  obtain ⟨i0, hi, hz0, hz1, hz2⟩ := info_parts Try.infoU16
  have h' := h
  obtain ⟨A, c, rfl, h1, h2, h2', h3, h3', h4⟩ := h
  have H' := Lib.hid h'
  have H3 := Lib.hid h3
  have hq := fun (w : World) (a : Option Addr) (n c : Nat) => Lib.run_eql_slice_nil (P := Try.prog) w 38 30 a n c 0 0 Try.underlying38
  cases A with
  | none =>
    obtain rfl := h2' rfl
    obtain rfl : n = 0 := by omega
    clear h' h4 h3 h3' h2'
    go_enter Try.func34, Try.ntmps34
    go_wp2
    go_ret
    obtain rfl : xs = [] := List.eq_nil_of_length_eq_zero (by simpa using H3.out)
    exact ⟨_, rfl, Keep.refl _ _, Own.nil _ _ _ _⟩
  | some a =>
    clear h' h4 h3 h3' h2'
    obtain ⟨v', w', hr, ho, hgr, -⟩ := clone_law (P := Try.prog) (w.alloc (.cells #[] 30)) 38 30 i0 _ 1 2 Try.underlying38 hi hz0 hz1 hz2 rfl (by decide) F w.heap.size (heap_alloc_new _ _) (.slice (some a) n c) n xs
      (H'.out.move (by simp) (fun k hk hl => ⟨hk, Below.heap_alloc _ _ _ hl⟩)) hb 38
    have HR := Lib.hid hr
    clear hr
    go_enter Try.func34, Try.ntmps34
    go_wp2_with (at_builtin; refine wpList_append_run rfl (.tmp 5) (.tmp 6) 38 rfl _ _ rfl rfl v' w' HR.out ?_)
    go_ret
    exact ⟨v', rfl, ((Keep.refl _ _).alloc _).grown hgr (by simp), ho.move (fun k hk hl => ⟨by simp [fresh, none_] at hk ⊢; omega, rfl⟩)⟩

/-- the place of the first, or -1 -/
def idx (l : List Int) (x : Int) : Int := match l.idxOf? x with | some i => i | none => -1
theorem idx_hit {l : List Int} {x y : Int} {k : Nat} (hy : l[k]? = some y) (he : x = y) (hx : x ∉ l.take k) : idx l x = k := by
  have hk : k < l.length := (List.getElem?_eq_some_iff.1 hy).1
  have : l.idxOf? x = some k := by
    rw [List.idxOf?, List.findIdx?_eq_some_iff_getElem]
    refine ⟨hk, ?_, fun j hj => ?_⟩
    · have := (List.getElem?_eq_some_iff.1 hy).2; simp [this, he]
    · simp only [beq_iff_eq]
      intro h
      exact hx (List.mem_take_iff_getElem.2 ⟨j, by omega, h⟩)
  simp [idx, this]
theorem idx_miss {l : List Int} {x : Int} {k : Nat} (hk : k = l.length) (hx : x ∉ l.take k) : idx l x = -1 := by
  subst hk
  have : l.idxOf? x = none := by
    rw [List.take_length] at hx
    simpa [List.idxOf?_eq_none_iff] using hx
  simp [idx, this]
theorem notin_snoc {l : List Int} {x y : Int} {k : Nat} (hy : l[k]? = some y) (he : ¬ x = y) (hx : x ∉ l.take k) : x ∉ l.take (k + 1) := by
  rw [List.take_add_one, hy]
  simp [hx, he]
def mem (l : List Int) (x : Int) : Bool := l.contains x
theorem idx_ge (l : List Int) (x : Int) : decide (0 ≤ idx l x) = mem l x := by
  unfold idx mem
  cases h : l.idxOf? x with
  | none => rw [List.idxOf?_eq_none_iff] at h; simp [h]
  | some i =>
    have : x ∈ l := by
      rw [List.idxOf?, List.findIdx?_eq_some_iff_getElem] at h
      obtain ⟨h1, h2, -⟩ := h
      have : l[i] = x := by simpa using h2
      exact this ▸ List.getElem_mem h1
    simp [this]

set_option maxHeartbeats 400000 in
theorem index_any (v : Value) (l : List Int) (x : Int) (F : Nat → Prop) (w : World) (h : SeesIn w F 1 v l.length (ints .u16 l)) :
    Calls Try.prog 37 #[v, .int .u16 x] w fun e w' => e = .returned (.int .i64 (idx l x)) ∧ w = w' := by
  obtain ⟨A, c, rfl, h1, h2, h2', h3, h3', h4⟩ := h
  unfold maxLen at h2
  clear h2' h3'
  go_enter Try.func37, Try.ntmps37
  go_wp2
  go_loop [8] (fun i => ∃ k : Nat, k ≤ l.length ∧ i = .int .i64 k ∧ x ∉ l.take k) (fun i => l.length - (intOf i).toNat)
  case atStart => exact ⟨0, Nat.zero_le _, rfl, by simp⟩
  case round =>
    obtain ⟨k, hk, rfl, hx⟩ := hrel
    by_cases hlt : k < l.length
    · obtain ⟨g, o, rfl, -, -, hc⟩ := h4 (by omega)
      obtain ⟨y, hy⟩ : ∃ y, l[k]? = some y := ⟨_, List.getElem?_eq_getElem hlt⟩
      have hcell := hc k (.int .u16 y) (by simp [ints, hy])
      have HX := Lib.hid hx
      have HY := Lib.hid hy
      have HC := Lib.hid h3
      clear hx hy hc h4 h3
      by_cases he : x = y
      · have hb : (x == y) = true := by simp [he]
        have HE := Lib.hid he
        clear he
        go_wp2
        go_ret
        exact ⟨by rw [idx_hit HY.out HE.out HX.out]; rfl, rfl⟩
      · have hb : (x == y) = false := by simp [he]
        have HE := Lib.hid he
        clear he
        go_wp2
        go_round
        case rel => exact ⟨k + 1, by omega, by go_num, notin_snoc HY.out HE.out HX.out⟩
        case measure => simp [intOf]; omega
    · have HX := Lib.hid hx
      have HC := Lib.hid h3
      have hk' : k = l.length := by omega
      have HK := Lib.hid hk'
      clear hx h3 hk'
      go_wp2
      go_ret
      exact ⟨by rw [idx_miss HK.out HX.out]; rfl, rfl⟩

theorem contains_any (v : Value) (l : List Int) (x : Int) (F : Nat → Prop) (w : World) (h : SeesIn w F 1 v l.length (ints .u16 l)) :
    Calls Try.prog 35 #[v, .int .u16 x] w fun e w' => e = .returned (.bool (mem l x)) ∧ w = w' := by
  have HI := Lib.hid (index_any v l x F w h)
  have HG := Lib.hid (idx_ge l x)
  clear h
  go_enter Try.func35, Try.ntmps35
  go_wp2_with (go_at_call 37; refine HI.out.mono ?_; rintro e w' ⟨rfl, rfl⟩)
  go_ret
  exact ⟨by rw [← HG.out]; rfl, rfl⟩

end Go.Proofs.Ytilmodbiimjllaa
