import Derived.Test.YtimaaaibpadlpaaZoneR3
import Derived.Test.YtimaaaibpadlpaaHas
namespace Go.Proofs.Ytimaaaibpadlpaa
set_option linter.unusedVariables false
set_option linter.unusedSimpArgs false
open Go.RowKit

set_option maxHeartbeats 400000 in
theorem rPicked_high (r : Nat) (s : RS) (loc kind qty : Int) (k : Nat) (x : Ln) (hi : lidx s.l loc = k) (hx : s.l[k]? = some x) (hkd : (kind != 1) = false ∨ (kind != 1) = true ∧ (kind != 2) = false) (hq0 : 0 ≤ qty) (hq1 : x.qty < qty) (F A : Nat → Prop) (w : World) (h : RRep w F A r s) :
    Calls Try.prog 17 #[.pointer (some ⟨r, 0, none⟩), .int .u16 loc, .int .u8 kind, .int .i64 qty] w fun e w' => e = .returned (pickNo 10) ∧ Keep none_ w w' := by
  obtain ⟨hr, hq, hf⟩ := rPicked_start r s loc F A w h
  rw [hi] at hf
  obtain ⟨locs, th, tt, l⟩ := s
  obtain ⟨hF, lv, wv, hb, h1, h2⟩ := hr
  simp only at hb h2 hx hi
  have hkl : k < l.length := (List.getElem?_eq_some_iff.1 hx).1
  obtain ⟨g, cp, rfl, hFg, hgw, hnc, hcm⟩ := h2.form (by omega)
  have a3 : (w.alloc (.cells #[.int .u16 0, .int .u16 0, .int .u16 0, .int .i64 0, .int .i64 0] 51)).cell? ⟨r, 3, none⟩ = some (.slice (some ⟨g, 0, none⟩) l.length cp) := by simp [World.cell?, hb]
  obtain ⟨e0, e1, e2⟩ := lns_get hx
  have c2 : (w.alloc (.cells #[.int .u16 0, .int .u16 0, .int .u16 0, .int .i64 0, .int .i64 0] 51)).cell? ⟨g, k * 3 + 2, none⟩ = some (.int .i64 x.qty) := by rw [h2.1.cellAt _ (by omega)]; exact e2
  have hk := (Keep.refl none_ w).alloc (.cells #[.int .u16 0, .int .u16 0, .int .u16 0, .int .i64 0, .int .i64 0] 51)
  have HF := Lib.hid hf
  have HQ := Lib.hid hq
  have HK := Lib.hid hk
  unfold maxLen at hcm
  have hki : (k : Int) < l.length := by omega
  have hb1 : decide ((k : Int) < 0) = false := by simp
  have hb2 : decide (qty < 0) = false := by simpa using hq0
  have hb3 : decide (x.qty < qty) = true := by simp only [decide_eq_true_eq]; omega
  clear h hf hq hk hb h1 h2 hx e0 e1 e2 hi
  rcases hkd with b2 | ⟨b2, b3⟩
  all_goals
    go_enter Try.func17, Try.ntmps17
    go_wp2_with fail
    refine HF.out.mono ?_
    rintro e w' ⟨rfl, rfl⟩
    go_wp2
    have hfin := HQ.out.hb
    have hk2 := HK.out
    generalize w.alloc (.cells #[.int .u16 0, .int .u16 0, .int .u16 0, .int .i64 0, .int .i64 0] 51) = W at hfin hk2 ⊢
    exact bodyPost_ret (v := pickNo 10) (by simp [results, Try.results17, go_sem, World.cell?, hfin, pickNo, pickV]) rfl ⟨rfl, hk2⟩

def RS.pick (s : RS) (loc kind qty : Int) : RS × Value :=
  if lidx s.l loc < 0 then (s, pickNo 6)
  else if kind ≠ 1 ∧ kind ≠ 2 then (s, pickNo 1)
  else match s.l[(lidx s.l loc).toNat]? with
    | none => (s, pickNo 6)
    | some x =>
      if qty < 0 ∨ x.qty < qty then (s, pickNo 10)
      else if kind = 2 then ({ s with l := keptR s.l (lidx s.l loc).toNat x 0 s.l.length }, pickV s.tote loc x.item qty (x.qty - qty) 0)
      else ({ s with l := keptR s.l (lidx s.l loc).toNat x (x.qty - qty) s.l.length }, pickV s.tote loc x.item qty 0 0)

theorem rPicked_any (r : Nat) (s : RS) (loc kind qty : Int) (F A : Nat → Prop) (w : World) (h : RRep w F A r s) (hA : ∀ q, A q → ¬ F q) (hFl : ∀ q, F q → q < w.heap.size) (hAl : ∀ q, A q → q < w.heap.size) (hm : ∀ x ∈ s.l, x.qty ≤ 9223372036854775807) (hn : s.l.length ≤ 40) :
    Calls Try.prog 17 #[.pointer (some ⟨r, 0, none⟩), .int .u16 loc, .int .u8 kind, .int .i64 qty] w fun e w' => e = .returned (s.pick loc kind qty).2 ∧ Keep F w w' ∧ RRep w' (fresh F w w') A r (s.pick loc kind qty).1 := by
  have same : ∀ (w' : World), Keep none_ w w' → Keep F w w' ∧ RRep w' (fresh F w w') A r s := fun w' hk => ⟨hk.none, h.move hk.size (fun q hq hl => ⟨.inl hq, hk.block q hl (fun c => c)⟩) (fun q hq hl => ⟨hq, hk.block q hl (fun c => c)⟩)⟩
  simp only [RS.pick]
  by_cases hi : lidx s.l loc < 0
  · rw [if_pos hi]
    refine (rPicked_none r s loc kind qty hi F A w h).mono ?_
    rintro e w' ⟨rfl, hk⟩
    exact ⟨rfl, same w' hk⟩
  · rw [if_neg hi]
    by_cases hkd : kind ≠ 1 ∧ kind ≠ 2
    · rw [if_pos hkd]
      refine (rPicked_kind r s loc kind qty (by omega) hkd.1 hkd.2 F A w h).mono ?_
      rintro e w' ⟨rfl, hk⟩
      exact ⟨rfl, same w' hk⟩
    · rw [if_neg hkd]
      have hkd' : kind = 1 ∨ kind = 2 := by omega
      have hkb : (kind != 1) = false ∨ (kind != 1) = true ∧ (kind != 2) = false := by rcases hkd' with rfl | rfl <;> simp
      obtain ⟨k, x, hk, hx, hloc⟩ := lidx_some (l := s.l) (loc := loc) (by omega)
      have hkn : (lidx s.l loc).toNat = k := by omega
      rw [hkn, hx]
      have hxm := hm x (List.mem_of_getElem? hx)
      simp only
      by_cases hq : qty < 0 ∨ x.qty < qty
      · rw [if_pos hq]
        by_cases hq0 : qty < 0
        · refine (rPicked_low r s loc kind qty (by omega) hkb hq0 F A w h).mono ?_
          rintro e w' ⟨rfl, hk⟩
          exact ⟨rfl, same w' hk⟩
        · refine (rPicked_high r s loc kind qty k x hk hx hkb (by omega) (by omega) F A w h).mono ?_
          rintro e w' ⟨rfl, hk⟩
          exact ⟨rfl, same w' hk⟩
      · rw [if_neg hq]
        by_cases h2 : kind = 2
        · rw [if_pos h2]
          subst h2
          exact rPicked_ok2 r s loc qty k x hk hx (by omega) (by omega) hxm hn F A w h hA hFl hAl
        · rw [if_neg h2]
          obtain rfl : kind = 1 := by omega
          exact rPicked_ok1 r s loc qty k x hk hx (by omega) (by omega) hxm hn F A w h hA hFl hAl

/-- Lines, each of which is something, kept. -/
theorem kept_pos (l : List Ln) (hp : ∀ x ∈ l, 0 < x.qty) : ∀ (k : Nat) (x : Ln) (q : Int), l[k]? = some x → keptR l k x q l.length = if 0 < q then l.set k { x with qty := q } else l.eraseIdx k := by
  have hf : ∀ l : List Ln, (∀ x ∈ l, 0 < x.qty) → l.filter (fun y => decide (0 < y.qty)) = l := fun l h => List.filter_eq_self.2 (fun x hx => by simpa using h x hx)
  induction l with
  | nil => intro k x q h; simp at h
  | cons y l ih =>
    intro k x q h
    have hl : ∀ x ∈ l, 0 < x.qty := fun x hx => hp x (List.mem_cons_of_mem _ hx)
    cases k with
    | zero =>
      simp only [List.getElem?_cons_zero, Option.some.injEq] at h
      subst h
      simp only [keptR, List.set_cons_zero, List.length_cons, List.take_succ_cons, List.take_length, List.filter_cons, hf l hl, List.eraseIdx_cons_zero]
      by_cases c : 0 < q <;> simp [c]
    | succ k =>
      rw [List.getElem?_cons_succ] at h
      have := ih hl k x q h
      simp only [keptR] at this
      simp only [keptR, List.set_cons_succ, List.length_cons, List.take_succ_cons, List.filter_cons, List.eraseIdx_cons_succ, this]
      have := hp y (List.mem_cons_self ..)
      by_cases c : 0 < q <;> simp [c, this]

/-- The zone and the reference's are the same; all that is wanted is something. -/
structure Sim (s : ZS) (t : RS) : Prop where
  locs : t.locs = s.locs
  v : match s.visit with | none => t.there = false ∧ t.tote = 0 ∧ t.l = [] | some (n, l) => t.there = true ∧ t.tote = n ∧ t.l = l
  p : ∀ x ∈ t.l, 0 < x.qty ∧ x.qty ≤ 9223372036854775807
  n : t.l.length ≤ 40
theorem wantsOf_pos (locs : List Int) (ls : List Ln) : ∀ x ∈ wantsOf locs ls, 0 < x.qty ∧ x ∈ ls := by
  unfold wantsOf
  have : ∀ (ls acc : List Ln), ∀ x ∈ ls.foldl (addLine locs) acc, x ∈ acc ∨ (0 < x.qty ∧ x ∈ ls) := by
    intro ls
    induction ls with
    | nil => intro acc x h; exact .inl h
    | cons y l ih =>
      intro acc x h
      rcases ih _ x h with h | h
      · unfold addLine at h
        split at h
        · rename_i hc
          rcases List.mem_append.1 h with h | h
          · exact .inl h
          · rw [List.mem_singleton] at h; subst h; exact .inr ⟨hc.2.1, List.mem_cons_self ..⟩
        · exact .inl h
      · exact .inr ⟨h.1, List.mem_cons_of_mem _ h.2⟩
  intro x hx
  rcases this ls [] x hx with h | h
  · simp at h
  · exact h
theorem Sim.start (locs : List Int) : Sim ⟨locs, none⟩ ⟨locs, false, 0, []⟩ := ⟨rfl, ⟨rfl, rfl, rfl⟩, by simp, by simp⟩
theorem Sim.come {s : ZS} {t : RS} (h : Sim s t) (tote : Int) (ls : List Ln) (hn : ls.length ≤ 40) (hm : ∀ x ∈ ls, x.qty ≤ 9223372036854775807) : (s.come tote ls).2 = (t.come tote ls).2 ∧ Sim (s.come tote ls).1 (t.come tote ls).1 := by
  obtain ⟨locs, v⟩ := s
  obtain ⟨locs', th, tt, l⟩ := t
  obtain ⟨h1, h2, h3, h4⟩ := h
  simp only at h1 h2 h3 h4
  subst h1
  cases v with
  | none =>
    obtain ⟨rfl, rfl, rfl⟩ := h2
    refine ⟨by simp [ZS.come, RS.come], by simp [ZS.come, RS.come], by simp [ZS.come, RS.come], ?_, ?_⟩
    · intro x hx
      have hx' : x ∈ wantsOf locs' ls := by simpa [RS.come] using hx
      exact ⟨(wantsOf_pos _ _ x hx').1, hm x (wantsOf_pos _ _ x hx').2⟩
    · have : (wantsOf locs' ls).length ≤ 40 := Nat.le_trans (wantsOf_len _ _) hn
      simpa [RS.come] using this
  | some p =>
    obtain ⟨n, l'⟩ := p
    obtain ⟨rfl, rfl, rfl⟩ := h2
    exact ⟨by simp [ZS.come, RS.come], by simp [ZS.come, RS.come], by simp [ZS.come, RS.come], by simpa [RS.come] using h3, by simpa [RS.come] using h4⟩
theorem Sim.leave {s : ZS} {t : RS} (h : Sim s t) : s.leave.2 = t.leave.2 ∧ Sim s.leave.1 t.leave.1 := by
  obtain ⟨locs, v⟩ := s
  obtain ⟨locs', th, tt, l⟩ := t
  obtain ⟨h1, h2, h3, h4⟩ := h
  simp only at h1 h2 h3 h4
  subst h1
  cases v with
  | none =>
    obtain ⟨rfl, rfl, rfl⟩ := h2
    exact ⟨by simp [ZS.leave, RS.leave, overB], by simp [ZS.leave, RS.leave, overB], by simp [ZS.leave, RS.leave, overB], by simp [RS.leave], by simp [RS.leave]⟩
  | some p =>
    obtain ⟨n, l'⟩ := p
    obtain ⟨rfl, rfl, rfl⟩ := h2
    cases l with
    | nil => exact ⟨by simp [ZS.leave, RS.leave, overB], by simp [ZS.leave, RS.leave, overB], by simp [ZS.leave, RS.leave, overB], by simp [RS.leave], by simp [RS.leave]⟩
    | cons y l =>
      have e : ¬ ((l.length : Int) + 1 = 0) := by omega
      have e1 : ZS.leave ⟨locs', some (tt, y :: l)⟩ = (⟨locs', some (tt, y :: l)⟩, .tuple #[.int .u16 0, .int .i64 7]) := by simp [ZS.leave, overB, e]
      have e2 : RS.leave ⟨locs', true, tt, y :: l⟩ = (⟨locs', true, tt, y :: l⟩, .tuple #[.int .u16 0, .int .i64 7]) := by simp [RS.leave]
      rw [e1, e2]
      exact ⟨rfl, rfl, ⟨rfl, rfl, rfl⟩, h3, h4⟩
theorem Sim.pick {s : ZS} {t : RS} (h : Sim s t) (loc kind qty : Int) : (s.pick loc kind qty).2 = (t.pick loc kind qty).2 ∧ Sim (s.pick loc kind qty).1 (t.pick loc kind qty).1 := by
  have h0 := h
  obtain ⟨locs, v⟩ := s
  obtain ⟨locs', th, tt, l⟩ := t
  obtain ⟨h1, h2, h3, h4⟩ := h
  simp only at h1 h2 h3 h4
  subst h1
  cases v with
  | none =>
    obtain ⟨rfl, rfl, rfl⟩ := h2
    have e2 : RS.pick ⟨locs', false, 0, []⟩ loc kind qty = (⟨locs', false, 0, []⟩, pickNo 6) := by
      unfold RS.pick
      rw [if_pos (by show (-1 : Int) < 0; omega)]
    rw [e2]
    exact ⟨rfl, h0⟩
  | some p =>
    obtain ⟨n, l'⟩ := p
    obtain ⟨rfl, rfl, rfl⟩ := h2
    simp only [ZS.pick, RS.pick]
    by_cases hi : lidx l loc < 0
    · rw [if_pos hi, if_pos hi]; exact ⟨rfl, h0⟩
    · rw [if_neg hi, if_neg hi]
      by_cases hkd : kind ≠ 1 ∧ kind ≠ 2
      · rw [if_pos hkd, if_pos hkd]; exact ⟨rfl, h0⟩
      · rw [if_neg hkd, if_neg hkd]
        obtain ⟨k, x, hk, hx, hloc⟩ := lidx_some (l := l) (loc := loc) (by omega)
        have hkn : (lidx l loc).toNat = k := by omega
        rw [hkn, hx]
        simp only
        have hxp := h3 x (List.mem_of_getElem? hx)
        by_cases hq : qty < 0 ∨ x.qty < qty
        · rw [if_pos hq, if_pos hq]; exact ⟨rfl, h0⟩
        · rw [if_neg hq, if_neg hq]
          have hk2 := kept_pos l (fun x hx => (h3 x hx).1) k x
          have her : ∀ y ∈ l.eraseIdx k, 0 < y.qty ∧ y.qty ≤ 9223372036854775807 := fun y hy => h3 y (List.mem_of_mem_eraseIdx hy)
          have hen : (l.eraseIdx k).length ≤ 40 := Nat.le_trans (List.length_eraseIdx_le ..) h4
          by_cases h2 : kind = 2
          · rw [if_pos h2, if_pos h2, hk2 0 hx, if_neg (by decide)]
            exact ⟨rfl, rfl, ⟨rfl, rfl, rfl⟩, her, hen⟩
          · rw [if_neg h2, if_neg h2, hk2 _ hx]
            by_cases h3' : x.qty = qty
            · rw [if_pos h3', if_neg (by omega)]
              exact ⟨rfl, rfl, ⟨rfl, rfl, rfl⟩, her, hen⟩
            · rw [if_neg h3', if_pos (by omega)]
              refine ⟨rfl, rfl, ⟨rfl, rfl, rfl⟩, fun y hy => ?_, by simpa using h4⟩
              rcases List.mem_or_eq_of_mem_set hy with hy | rfl
              · exact h3 y hy
              · exact ⟨by show 0 < x.qty - qty; omega, by show x.qty - qty ≤ _; omega⟩

/-- The zone, and the reference's, as things of their own. -/
def ZoneA (n z : Nat) (s : ZS) : Asrt n := ⟨fun F w => ZRep w F z s, fun h _ hk _ => h.move hk⟩
def RefA (n r : Nat) (s : RS) : Asrt n := ⟨fun F w => RRep w F (fun k => k < n) r s, fun h hs hk ho => h.move hs hk (fun k hk hl => ⟨hk, ho k hk hl⟩)⟩
end Go.Proofs.Ytimaaaibpadlpaa
