import Derived.Test.YtimaaaibpadlpaaLines
namespace Go.Proofs.Ytimaaaibpadlpaa
set_option linter.unusedVariables false
set_option linter.unusedSimpArgs false
open Go.RowKit

theorem Try.infoU16 : (Try.prog.info? 25).map (fun i => (i.zero, i.size, i.bytes)) = some (some (.int .u16 0), 1, 2) := by kernel_rfl

set_option maxHeartbeats 400000 in
theorem cloneI (v : Value) (n : Nat) (xs : List Value) (F : Nat → Prop) (w : World) (h : SeesIn w F 1 v n xs) (hb : n * 2 ≤ 140737488355328) :
    Calls Try.prog 22 #[v] w fun e w' => ∃ v', e = .returned v' ∧ Keep none_ w w' ∧ Own w' (fresh none_ w w') 25 1 v' n xs := by
  obtain ⟨i0, hi, hz0, hz1, hz2⟩ := info_parts Try.infoU16
  have h' := h
  obtain ⟨A, c, rfl, h1, h2, h2', h3, h3', h4⟩ := h
  have H' := Lib.hid h'
  have H3 := Lib.hid h3
  have hq := fun (w : World) (a : Option Addr) (n c : Nat) => Lib.run_eql_slice_nil (P := Try.prog) w 24 25 a n c 0 0 Try.underlying24
  cases A with
  | none =>
    obtain rfl := h2' rfl
    obtain rfl : n = 0 := by omega
    clear h' h4 h3 h3' h2'
    go_enter Try.func22, Try.ntmps22
    go_wp2
    go_ret
    obtain rfl : xs = [] := List.eq_nil_of_length_eq_zero (by simpa using H3.out)
    exact ⟨_, rfl, Keep.refl _ _, Own.nil _ _ _ _⟩
  | some a =>
    clear h' h4 h3 h3' h2'
    obtain ⟨v', w', hr, ho, hgr, -⟩ := clone_law (P := Try.prog) (w.alloc (.cells #[] 25)) 24 25 i0 _ 1 2 Try.underlying24 hi hz0 hz1 hz2 rfl (by decide) F w.heap.size (heap_alloc_new _ _) (.slice (some a) n c) n xs
      (H'.out.move (by simp) (fun k hk hl => ⟨hk, Below.heap_alloc _ _ _ hl⟩)) hb 24
    have HR := Lib.hid hr
    clear hr
    go_enter Try.func22, Try.ntmps22
    go_wp2_with (at_builtin; refine wpList_append_run rfl (.tmp 5) (.tmp 6) 24 rfl _ _ rfl rfl v' w' HR.out ?_)
    go_ret
    exact ⟨v', rfl, ((Keep.refl _ _).alloc _).grown hgr (by simp), ho.move (fun k hk hl => ⟨by simp [fresh, none_] at hk ⊢; omega, rfl⟩)⟩

/-- the place of the first, or -1 -/
def idx (l : List Int) (x : Int) : Int := match l.idxOf? x with | some i => i | none => -1
theorem idx_hit {l : List Int} {x y : Int} {k : Nat} (hy : l[k]? = some y) (he : x = y) (hx : x ∉ l.take k) : idx l x = k := by
  have hk : k < l.length := (List.getElem?_eq_some_iff.1 hy).1
  have : l.idxOf? x = some k := by
    rw [List.idxOf?, List.findIdx?_eq_some_iff_getElem]
    refine ⟨hk, ?_, fun j hj => ?_⟩
    · have := (List.getElem?_eq_some_iff.1 hy).2; simp [this, he]
    · simp only [beq_iff_eq]
      intro h
      exact hx (List.mem_take_iff_getElem.2 ⟨j, by omega, h⟩)
  simp [idx, this]
theorem idx_miss {l : List Int} {x : Int} {k : Nat} (hk : k = l.length) (hx : x ∉ l.take k) : idx l x = -1 := by
  subst hk
  have : l.idxOf? x = none := by
    rw [List.take_length] at hx
    simpa [List.idxOf?_eq_none_iff] using hx
  simp [idx, this]
theorem notin_snoc {l : List Int} {x y : Int} {k : Nat} (hy : l[k]? = some y) (he : ¬ x = y) (hx : x ∉ l.take k) : x ∉ l.take (k + 1) := by
  rw [List.take_add_one, hy]
  simp [hx, he]
def mem (l : List Int) (x : Int) : Bool := l.contains x
theorem idx_ge (l : List Int) (x : Int) : decide (0 ≤ idx l x) = mem l x := by
  unfold idx mem
  cases h : l.idxOf? x with
  | none => rw [List.idxOf?_eq_none_iff] at h; simp [h]
  | some i =>
    have : x ∈ l := by
      rw [List.idxOf?, List.findIdx?_eq_some_iff_getElem] at h
      obtain ⟨h1, h2, -⟩ := h
      have : l[i] = x := by simpa using h2
      exact this ▸ List.getElem_mem h1
    simp [this]

set_option maxHeartbeats 400000 in
theorem index_any (v : Value) (l : List Int) (x : Int) (F : Nat → Prop) (w : World) (h : SeesIn w F 1 v l.length (ints .u16 l)) :
    Calls Try.prog 30 #[v, .int .u16 x] w fun e w' => e = .returned (.int .i64 (idx l x)) ∧ w = w' := by
  obtain ⟨A, c, rfl, h1, h2, h2', h3, h3', h4⟩ := h
  unfold maxLen at h2
  clear h2' h3'
  go_enter Try.func30, Try.ntmps30
  go_wp2
  go_loop [8] (fun i => ∃ k : Nat, k ≤ l.length ∧ i = .int .i64 k ∧ x ∉ l.take k) (fun i => l.length - (intOf i).toNat)
  case atStart => exact ⟨0, Nat.zero_le _, rfl, by simp⟩
  case round =>
    obtain ⟨k, hk, rfl, hx⟩ := hrel
    by_cases hlt : k < l.length
    · obtain ⟨g, o, rfl, -, -, hc⟩ := h4 (by omega)
      obtain ⟨y, hy⟩ : ∃ y, l[k]? = some y := ⟨_, List.getElem?_eq_getElem hlt⟩
      have hcell := hc k (.int .u16 y) (by simp [ints, hy])
      have HX := Lib.hid hx
      have HY := Lib.hid hy
      have HC := Lib.hid h3
      clear hx hy hc h4 h3
      by_cases he : x = y
      · have hb : (x == y) = true := by simp [he]
        have HE := Lib.hid he
        clear he
        go_wp2
        go_ret
        exact ⟨by rw [idx_hit HY.out HE.out HX.out]; rfl, rfl⟩
      · have hb : (x == y) = false := by simp [he]
        have HE := Lib.hid he
        clear he
        go_wp2
        go_round
        case rel => exact ⟨k + 1, by omega, by go_num, notin_snoc HY.out HE.out HX.out⟩
        case measure => simp [intOf]; omega
    · have HX := Lib.hid hx
      have HC := Lib.hid h3
      have hk' : k = l.length := by omega
      have HK := Lib.hid hk'
      clear hx h3 hk'
      go_wp2
      go_ret
      exact ⟨by rw [idx_miss HK.out HX.out]; rfl, rfl⟩

theorem contains_any (v : Value) (l : List Int) (x : Int) (F : Nat → Prop) (w : World) (h : SeesIn w F 1 v l.length (ints .u16 l)) :
    Calls Try.prog 25 #[v, .int .u16 x] w fun e w' => e = .returned (.bool (mem l x)) ∧ w = w' := by
  have HI := Lib.hid (index_any v l x F w h)
  have HG := Lib.hid (idx_ge l x)
  clear h
  go_enter Try.func25, Try.ntmps25
  go_wp2_with (go_at_call 30; refine HI.out.mono ?_; rintro e w' ⟨rfl, rfl⟩)
  go_ret
  exact ⟨by rw [← HG.out]; rfl, rfl⟩

/-- a zone -/
structure ZS where
  locs : List Int
  visit : Option (Int × List Ln)

def VRep (w : World) (F : Nat → Prop) (V : Value) : Option (Int × List Ln) → Prop
  | none => V = .pointer none
  | some (t, l) => ∃ v wv, V = .pointer (some ⟨v, 0, none⟩) ∧ F v ∧ w.heap[v]? = some (.cells #[.int .u16 t, wv] 64 (0, 0)) ∧ Own w F 27 3 wv l.length (lns l)
def ZRep (w : World) (F : Nat → Prop) (z : Nat) (s : ZS) : Prop :=
  F z ∧ ∃ V lv, w.heap[z]? = some (.cells #[V, lv] 36 (0, 0)) ∧ Own w F 25 1 lv s.locs.length (ints .u16 s.locs) ∧ VRep w F V s.visit
theorem VRep.move {w w' : World} {F G : Nat → Prop} {V : Value} {s : Option (Int × List Ln)} (h : VRep w F V s) (hk : ∀ k, F k → k < w.heap.size → G k ∧ w'.heap[k]? = w.heap[k]?) : VRep w' G V s := by
  cases s with
  | none => exact h
  | some p =>
    obtain ⟨v, wv, rfl, hF, hb, ho⟩ := h
    have := hk v hF (lt_of_block hb)
    exact ⟨v, wv, rfl, this.1, this.2.trans hb, ho.move hk⟩
theorem ZRep.move {w w' : World} {F G : Nat → Prop} {z : Nat} {s : ZS} (h : ZRep w F z s) (hk : ∀ k, F k → k < w.heap.size → G k ∧ w'.heap[k]? = w.heap[k]?) : ZRep w' G z s := by
  obtain ⟨hF, V, lv, hb, h1, h2⟩ := h
  have := hk z hF (lt_of_block hb)
  exact ⟨this.1, V, lv, this.2.trans hb, h1.move hk, h2.move hk⟩

theorem has_any (z : Nat) (x : Int) (F : Nat → Prop) (s : ZS) (w : World) (h : ZRep w F z s) :
    Calls Try.prog 12 #[.pointer (some ⟨z, 0, none⟩), .int .u16 x] w fun e w' => e = .returned (.bool (mem s.locs x)) ∧ w = w' := by
  obtain ⟨hF, V, lv, hb, h1, h2⟩ := h
  have c1 : w.cell? ⟨z, 1, none⟩ = some lv := by simp [World.cell?, hb]
  have HC := Lib.hid (contains_any lv s.locs x F w h1.sees)
  clear hb h1 h2 hF
  go_enter Try.func12, Try.ntmps12
  go_wp2_with (go_at_call 25; refine HC.out.mono ?_; rintro e w' ⟨rfl, rfl⟩)
  go_ret
  exact ⟨rfl, rfl⟩

theorem eqLoc_any (x : Ln) (c : Nat) (loc : Int) (w : World) (hc : w.cell? ⟨c, 0, none⟩ = some (.int .u16 loc)) (hl : c < w.heap.size) :
    Calls Try.prog 29 #[.agg #[.int .u16 x.item, .int .u16 x.loc, .int .i64 x.qty], .pointer (some ⟨c, 0, none⟩)] w fun e w' => e = .returned (.bool (x.loc == loc)) ∧ w' = w.alloc (.cells #[.int .u16 x.item, .int .u16 x.loc, .int .i64 x.qty] 27) := by
  obtain ⟨it, lc, q⟩ := x
  have hc2 : (w.alloc (.cells #[.int .u16 it, .int .u16 lc, .int .i64 q] 27)).cell? ⟨c, 0, none⟩ = some (.int .u16 loc) := by
    rw [World.cell?_alloc_past _ _ _ hl]; exact hc
  clear hc
  go_enter Try.func29, Try.ntmps29
  go_wp2
  go_ret
  exact ⟨rfl, rfl⟩

def lidx (l : List Ln) (loc : Int) : Int := idx (l.map Ln.loc) loc

set_option maxHeartbeats 800000 in
theorem indexFunc_any (v : Value) (l : List Ln) (c : Nat) (loc : Int) (F : Nat → Prop) (w : World) (h : SeesIn w F 3 v l.length (lns l)) (hc : w.cell? ⟨c, 0, none⟩ = some (.int .u16 loc)) (hl : c < w.heap.size) :
    Calls Try.prog 28 #[v, .func (Fn.func 29) #[] #[.pointer (some ⟨c, 0, none⟩)]] w fun e w' => e = .returned (.int .i64 (lidx l loc)) ∧ Keep none_ w w' := by
  have hall : ∀ w', Keep none_ w w' → w'.cell? ⟨c, 0, none⟩ = some (.int .u16 loc) ∧ c < w'.heap.size := fun w' k => ⟨(k.cell hl (fun c => c)).trans hc, Nat.lt_of_lt_of_le hl k.size⟩
  have hsee : ∀ w', Keep none_ w w' → SeesIn w' F 3 v l.length (lns l) := fun w' k => h.move k.size (fun q hq hl => ⟨hq, k.block q hl (fun c => c)⟩)
  obtain ⟨A, cp, rfl, h1, h2, h2', h3, h3', h4⟩ := h
  have HALL := Lib.hid hall
  have HSEE := Lib.hid hsee
  unfold maxLen at h2
  clear hall hsee hc hl h2' h3 h3' h4
  go_enter Try.func28, Try.ntmps28
  go_wp2
  go_loopw [8] (fun i wr => ∃ k : Nat, k ≤ l.length ∧ i = .int .i64 k ∧ loc ∉ (l.map Ln.loc).take k ∧ Keep none_ w wr) (fun i _ => l.length - (intOf i).toNat)
  case atStart => exact ⟨0, Nat.zero_le _, rfl, by simp, Keep.refl _ _⟩
  case round =>
    obtain ⟨k, hk, rfl, hx, hkp⟩ := hrel
    have HK := Lib.hid hkp
    have HX := Lib.hid hx
    clear hx hkp
    by_cases hlt : k < l.length
    · obtain ⟨y, hy⟩ : ∃ y, l[k]? = some y := ⟨_, List.getElem?_eq_getElem hlt⟩
      obtain ⟨g, o, cp', hv, -, -, -, -, c0, c1, c2⟩ := sees_line (HSEE.out wr HK.out) hy
      simp only [Value.slice.injEq] at hv
      obtain ⟨rfl, -, rfl⟩ := hv
      obtain ⟨cc, cl⟩ := HALL.out wr HK.out
      have HC := Lib.hid (eqLoc_any y c loc wr cc cl)
      have HY := Lib.hid hy
      clear hy cc cl
      by_cases he : y.loc = loc
      · have hb : (y.loc == loc) = true := by simp [he]
        have HE := Lib.hid he
        clear he
        go_wp2_with (go_at_call 29; refine HC.out.mono ?_; rintro e w' ⟨rfl, rfl⟩)
        go_ret
        exact ⟨by rw [lidx, idx_hit (k := k) (by rw [List.getElem?_map, HY.out]; rfl) HE.out.symm HX.out]; rfl, HK.out.alloc _⟩
      · have hb : (y.loc == loc) = false := by simp [he]
        have HE := Lib.hid he
        clear he
        go_wp2_with (go_at_call 29; refine HC.out.mono ?_; rintro e w' ⟨rfl, rfl⟩)
        go_roundw
        case rel => exact ⟨k + 1, by omega, by go_num, notin_snoc (by rw [List.getElem?_map, HY.out]; rfl) (fun e => HE.out e.symm) HX.out, HK.out.alloc _⟩
        case measure => simp [intOf]; omega
    · have hk' : k = l.length := by omega
      have HK' := Lib.hid hk'
      clear hk'
      go_wp2
      go_ret
      exact ⟨by rw [lidx, idx_miss (by rw [List.length_map]; exact HK'.out) HX.out]; rfl, HK.out⟩

def vidx (s : Option (Int × List Ln)) (loc : Int) : Int := match s with | none => -1 | some (_, l) => lidx l loc
theorem place_any (V : Value) (s : Option (Int × List Ln)) (loc : Int) (F : Nat → Prop) (w : World) (h : VRep w F V s) :
    Calls Try.prog 23 #[V, .int .u16 loc] w fun e w' => e = .returned (.int .i64 (vidx s loc)) ∧ Keep none_ w w' := by
  cases s with
  | none =>
    obtain rfl : V = .pointer none := h
    go_enter Try.func23, Try.ntmps23
    go_wp2
    go_ret
    exact ⟨rfl, (Keep.refl _ _).alloc _⟩
  | some p =>
    obtain ⟨t, l⟩ := p
    obtain ⟨v, wv, rfl, hF, hb, ho⟩ := h
    have hv := lt_of_block hb
    have hb' : (w.alloc (.cells #[.int .u16 loc] 25)).heap[v]? = some (.cells #[.int .u16 t, wv] 64 (0, 0)) := by rw [Below.heap_alloc _ _ _ hv]; exact hb
    have c1 : (w.alloc (.cells #[.int .u16 loc] 25)).cell? ⟨v, 1, none⟩ = some wv := by simp only [World.cell?, hb']; rfl
    have HI := Lib.hid (indexFunc_any wv l w.heap.size loc F (w.alloc (.cells #[.int .u16 loc] 25)) (ho.sees.move (by simp) (fun k hk hl => ⟨hk, Below.heap_alloc _ _ _ hl⟩)) (by rw [World.cell?_alloc_at _ _ _ _ rfl]; rfl) (by simp))
    have hmf : ∀ (fn : Fn) (first cap : Array Value) (w : World), (Instr.makeFunc fn first cap).run Try.prog w = .ok (.func fn first cap) w := fun _ _ _ _ => rfl
    clear hb hb' ho hv hF
    go_enter Try.func23, Try.ntmps23
    go_wp2_with (go_at_call 28; refine HI.out.mono ?_; rintro e w' ⟨rfl, hkp⟩)
    go_ret
    exact ⟨rfl, ((Keep.refl _ _).alloc _).trans (hkp.mono (fun k c => .inl c))⟩
end Go.Proofs.Ytimaaaibpadlpaa
