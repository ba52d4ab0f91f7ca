import Derived.Test.YtbcjmgocdplfnaaPlc3
import Derived.Test.YtbcjmgocdplfnaaSchT
namespace Go.Proofs.Ytbcjmgocdplfnaa
set_option linter.unusedVariables false
set_option linter.unusedSimpArgs false
open Go.RowKit
/-! A map's entry, ahead of its store. -/
def vput (l : List (Int × Value)) (key : Int) (v : Value) : List (Int × Value) := match l with | [] => [(key, v)] | q :: l => if q.1 == key then (q.1, v) :: l else q :: vput l key v
theorem eput_vals (es : List (Int × Value × Nat)) (clock : Nat) (key : Int) (v : Value) : vals (eput es clock key v).1 = vput (vals es) key v := by
  induction es with
  | nil => rfl
  | cons e es ih =>
    unfold eput at ih ⊢
    rw [eidx_cons]
    simp only [vals, List.map_cons, vput] at ih ⊢
    by_cases h : e.1 = key
    · simp [h]
    · have h' : (e.1 == key) = false := by simpa using h
      rw [h']
      simp only [Bool.false_eq_true, if_false]
      rw [← ih]
      cases eidx es key <;> simp
section
variable {P : Program} {t e kt : TypeId} {k : IntKind} {l : List (Int × Value × Nat)} {mb clock : Nat} {w : World} {key : Int}
theorem find_born {l : List (Int × Value × Nat)} {j : Nat} {p : Int × Value × Nat} (hn : (l.map (·.2.2)).Nodup) (hp : l[j]? = some p) : (ents k l).findIdx? (fun e => ((e.born : Nat) : Int) == ((p.2.2 : Nat) : Int)) = some j := by
  unfold ents
  rw [List.findIdx?_toArray, List.findIdx?_map, List.findIdx?_eq_some_iff_getElem]
  obtain ⟨hj, he⟩ := List.getElem?_eq_some_iff.1 hp
  refine ⟨hj, by simp [he], fun i hi => ?_⟩
  simp only [Function.comp_apply]
  intro hc
  have h1 : (l[i]'(by omega)).2.2 = p.2.2 := by have := beq_iff_eq.1 hc; exact Int.ofNat.inj this
  rw [List.Nodup, List.pairwise_map] at hn
  have := (List.pairwise_iff_getElem.1 hn) i j (by omega) hj hi
  exact this (by rw [h1, he])
theorem run_entry (ht : P.underlying t = some (.map kt e)) (hk : P.underlying kt = some (.int k)) (z : Value) (hz : ∀ u : World, (zeroValue e).run P u = .ok z u) (hb : w.heap[mb]? = some (.map (ents k l) clock)) (hg : EGood l clock) :
    ∃ (v0 : Value) (st : Nat) (o1 : Obj), (Instr.mapEntry t (.map (some mb)) (.int k key)).run P w = .ok (.tuple #[v0, .int .i64 st]) (putObj w mb o1) ∧
      ∀ (w2 : World) (v : Value), w2.heap[mb]? = some o1 → (Instr.entryStore t (.map (some mb)) (.int .i64 st) v).run P w2 = .ok () (putObj w2 mb (.map (ents k (eput l clock key v).1) (eput l clock key v).2)) := by
  have hget : (getObj mb).run P w = .ok (.map (ents k l) clock) w := by simp [getObj, Sem.run, hb]
  have hset : ∀ (u : World) (es : Array MapEntry) (c : Nat) (o : Obj), u.heap[mb]? = some (.map es c) → (setObj mb o).run P u = .ok () { u with heap := u.heap.setIfInBounds mb o } := fun u es c o h => by simp [setObj, Sem.run, h]
  have hget2 : ∀ (u : World) (es : Array MapEntry) (c : Nat), u.heap[mb]? = some (.map es c) → (getObj mb).run P u = .ok (.map es c) u := fun u es c h => by simp [getObj, Sem.run, h]
  unfold putObj eput
  cases h : eidx l key with
  | none =>
    refine ⟨z, clock, .map (ents k (l ++ [(key, z, clock)])) (clock + 1), ?_, fun w2 v h2 => ?_⟩
    · simp only [Instr.mapEntry, Sem.run_bind, run_underlying ht, Result.andThen_ok, hget, run_checkKey hk, run_findKey hk, h, Option.bind_none, hz, hset w _ _ _ hb, Sem.run_pure]
      simp [ents, goInt]
    · have hn : ((l ++ [(key, z, clock)]).map (·.2.2)).Nodup := by
        rw [List.map_append, List.nodup_append]
        refine ⟨hg.once, by simp, fun a ha b hb => ?_⟩
        obtain ⟨q, hq, rfl⟩ := List.mem_map.1 ha
        simp only [List.map_cons, List.map_nil, List.mem_singleton] at hb
        subst hb
        have := hg.old q hq
        omega
      have hf := find_born (k := k) (j := l.length) (p := (key, z, clock)) hn (by simp)
      simp only at hf
      simp only [Instr.entryStore, Sem.run_bind, hget2 _ _ _ h2, Result.andThen_ok, asInt, asIntOf, Sem.run_pure, hf, hset w2 _ _ _ h2]
      congr 4
      unfold ents
      apply Array.ext'
      simp only [Array.toList_modify, List.toList_toArray, List.map_append, List.map_cons, List.map_nil]
      apply List.ext_getElem?
      intro i
      simp only [List.getElem?_modify]
      by_cases hi : l.length = i
      · subst hi; simp
      · simp only [hi, if_false, id_eq, Option.map_id_fun']
        by_cases hl : i < l.length
        · simp [List.getElem?_append_left, hl]
        · rw [List.getElem?_eq_none (by simp; omega), List.getElem?_eq_none (by simp; omega)]
          rfl
  | some j =>
    obtain ⟨p, hp, hpk⟩ := eidx_some h
    subst hpk
    have hj : (ents k l)[j]? = some (⟨.int k p.1, p.2.1, p.2.2⟩ : MapEntry) := by simp [ents, hp]
    have hs : Instr.sameBits 10000 (.int k p.1) (.int k p.1) = true := by
      show Instr.sameBits (9999 + 1) (.int k p.1) (.int k p.1) = true
      rw [Instr.sameBits]; simp
    have hsame : (ents k l).modify j (fun e => { e with key := .int k p.1 }) = ents k l := by
      unfold ents
      apply Array.ext'
      simp only [Array.toList_modify, List.toList_toArray]
      apply List.ext_getElem?
      intro i
      simp only [List.getElem?_modify, List.getElem?_map]
      by_cases hij : j = i
      · subst hij; simp [hp]
      · simp [hij]
    refine ⟨p.2.1, p.2.2, .map (ents k l) clock, ?_, fun w2 v h2 => ?_⟩
    · simp only [Instr.mapEntry, Sem.run_bind, run_underlying ht, Result.andThen_ok, hget, run_checkKey hk, run_findKey hk, h, Option.bind_some, hp, Option.map_some, hj, Option.getD_some, Instr.keyThatStays, hs, if_true, Sem.run_pure, hsame, hset w _ _ _ hb]
      rfl
    · have hf := find_born (k := k) hg.once hp
      simp only [Instr.entryStore, Sem.run_bind, hget2 _ _ _ h2, Result.andThen_ok, asInt, asIntOf, Sem.run_pure, hf, hset w2 _ _ _ h2]
      congr 4
      unfold ents
      apply Array.ext'
      simp only [Array.toList_modify, List.toList_toArray]
      apply List.ext_getElem?
      intro i
      simp only [List.getElem?_modify, List.getElem?_map]
      by_cases hij : j = i
      · subst hij; simp [hp]
      · simp [hij]
end
/-! The deeds. -/
def PS.map (s : PS) (loc a : Int) : PS × Int :=
  if 64 ≤ loc ∨ known a = false then (s, 1) else if (s.at? loc).isSome = true ∨ s.is a ≠ 0 then (s, 8) else (⟨upd s.of a.toNat 3, s.by_ ++ [(loc, a)]⟩, 0)
def PS.fail (s : PS) (a : Int) : PS × Int × Int :=
  if s.is a = 0 then (s, 0, 6) else if s.is a = 2 then (s, 0, 7) else if s.is a = 1 then (⟨upd s.of a.toNat 2, s.by_⟩, 0, 0)
  else match s.spares with | [] => (s, 0, 5) | l0 :: _ => (⟨upd (upd s.of a.toNat 2) l0.toNat 3, s.by_.map fun q => if q.2 == a then (q.1, l0) else q⟩, l0, 0)
def PS.bring (s : PS) (a : Int) : PS × Int := if s.is a = 0 then (s, 6) else if s.is a = 2 then (⟨upd s.of a.toNat 1, s.by_⟩, 0) else (s, 7)
theorem PS.at_none {s : PS} {loc : Int} (h : s.at? loc = none) : ∀ q ∈ s.by_, q.1 ≠ loc := by
  unfold PS.at? at h
  rw [Option.map_eq_none_iff, List.find?_eq_none] at h
  intro q hq e
  exact h q hq (by simpa using e)
theorem known_iff {a : Int} : known a = true ↔ 1 ≤ a ∧ a ≤ 31 := by simp [known]
theorem PS.ok_map {s : PS} (h : s.ok) (loc a : Int) (hl : 0 ≤ loc) : (s.map loc a).1.ok := by
  unfold PS.map
  split
  · exact h
  · rename_i h1
    split
    · exact h
    · rename_i h2
      have hk : known a = true := by cases e : known a with | true => rfl | false => exact absurd (.inr e) h1
      have hl2 : loc < 64 := by have : ¬ 64 ≤ loc := fun e => h1 (.inl e); omega
      have ha := known_iff.1 hk
      have hat : s.at? loc = none := by cases e : s.at? loc with | none => rfl | some x => exact absurd (.inl (by rw [e]; rfl)) h2
      have hno := PS.at_none hat
      have hof : s.of a.toNat = 0 := by
        have : s.is a = 0 := by have : ¬ s.is a ≠ 0 := fun e => h2 (.inr e); omega
        unfold PS.is at this
        rw [if_pos hk] at this
        exact this
      have hne : ∀ q ∈ s.by_, q.2.toNat ≠ a.toNat := fun q hq e => by
        have := (h.each q hq).2.2
        rw [e, hof] at this
        omega
      refine ⟨fun x => ?_, ?_, ?_, fun q hq => ?_, fun x hx => ?_, ?_, fun x hx => ?_⟩
      · simp only [upd]
        split
        · omega
        · exact h.kind x
      · simp only [List.map_append, List.map_cons, List.map_nil]
        refine List.nodup_append.2 ⟨h.keys, by simp, fun x hx y hy => ?_⟩
        obtain ⟨q, hq, rfl⟩ := List.mem_map.1 hx
        simp only [List.mem_singleton] at hy
        subst hy
        exact hno q hq
      · simp only [List.map_append, List.map_cons, List.map_nil]
        refine List.nodup_append.2 ⟨h.addrs, by simp, fun x hx y hy => ?_⟩
        obtain ⟨q, hq, rfl⟩ := List.mem_map.1 hx
        simp only [List.mem_singleton] at hy
        subst hy
        intro e
        exact hne q hq (by rw [e])
      · rcases List.mem_append.1 hq with hq | hq
        · refine ⟨(h.each q hq).1, (h.each q hq).2.1, ?_⟩
          simp only [upd]
          rw [if_neg (hne q hq)]
          exact (h.each q hq).2.2
        · simp only [List.mem_singleton] at hq
          subst hq
          exact ⟨⟨hl, hl2⟩, ha, by simp [upd]⟩
      · simp only [upd] at hx
        by_cases e : x = a.toNat
        · exact ⟨(loc, a), by simp, by omega⟩
        · rw [if_neg e] at hx
          obtain ⟨q, hq, e⟩ := h.back x hx
          exact ⟨q, List.mem_append_left _ hq, e⟩
      · simp only [upd]
        rw [if_neg (by omega)]
        exact h.zero.1
      · simp only [upd]
        rw [if_neg (by omega)]
        exact h.zero.2 x hx
theorem PS.ok_kind {s : PS} (h : s.ok) (a : Nat) (v : Int) (hv : 0 ≤ v ∧ v ≤ 2) (ha : 1 ≤ a ∧ a ≤ 31) (h3 : s.of a ≠ 3) : PS.ok ⟨upd s.of a v, s.by_⟩ := by
  refine ⟨fun x => ?_, h.keys, h.addrs, fun q hq => ⟨(h.each q hq).1, (h.each q hq).2.1, ?_⟩, fun x hx => ?_, ?_, fun x hx => ?_⟩
  · simp only [upd]
    split
    · omega
    · exact h.kind x
  · simp only [upd]
    have := (h.each q hq).2.2
    rw [if_neg (fun e => h3 (by rw [← e]; exact this))]
    exact this
  · simp only [upd] at hx
    by_cases e : x = a
    · rw [if_pos e] at hx; omega
    · rw [if_neg e] at hx
      exact h.back x hx
  · simp only [upd]
    rw [if_neg (by omega)]
    exact h.zero.1
  · simp only [upd]
    rw [if_neg (by omega)]
    exact h.zero.2 x hx
theorem PS.is_pos {s : PS} {a : Int} (h : s.is a ≠ 0) : (1 ≤ a ∧ a ≤ 31) ∧ s.of a.toNat = s.is a := by
  unfold PS.is at h ⊢
  split
  · rename_i hk; exact ⟨known_iff.1 hk, rfl⟩
  · rename_i hk; rw [if_neg hk] at h; exact absurd rfl h
theorem PS.mem_spares {s : PS} (h : s.ok) {x : Int} : x ∈ s.spares ↔ (1 ≤ x ∧ x ≤ 31) ∧ s.of x.toNat = 1 := by
  unfold PS.spares
  simp only [List.mem_map, List.mem_filter, List.mem_range, beq_iff_eq]
  constructor
  · rintro ⟨n, ⟨hn, h1⟩, rfl⟩
    refine ⟨⟨?_, by omega⟩, by simpa using h1⟩
    have : n ≠ 0 := fun e => by rw [e, h.zero.1] at h1; omega
    omega
  · rintro ⟨h1, h2⟩
    exact ⟨x.toNat, ⟨by omega, h2⟩, by omega⟩
theorem PS.ok_fail {s : PS} (h : s.ok) (a : Int) : (s.fail a).1.ok := by
  unfold PS.fail
  split
  · exact h
  · rename_i h0
    split
    · exact h
    · rename_i h2
      obtain ⟨ha, hof⟩ := PS.is_pos h0
      split
      · rename_i h1
        exact PS.ok_kind h a.toNat 2 (by omega) (by omega) (by omega)
      · rename_i h1
        have h3 : s.of a.toNat = 3 := by have := h.kind a.toNat; omega
        cases hs : s.spares with
        | nil => exact h
        | cons l0 ls =>
          obtain ⟨hl0, hl1⟩ := (PS.mem_spares h (x := l0)).1 (by rw [hs]; simp)
          have hne : l0.toNat ≠ a.toNat := fun e => by rw [e] at hl1; omega
          have hno : ∀ q ∈ s.by_, q.2 ≠ l0 := fun q hq e => by have := (h.each q hq).2.2; rw [e] at this; omega
          simp only
          refine ⟨fun x => ?_, ?_, ?_, fun q hq => ?_, fun x hx => ?_, ?_, fun x hx => ?_⟩
          · simp only [upd]
            split
            · omega
            · split
              · omega
              · exact h.kind x
          · have : (s.by_.map fun q => if q.2 == a then (q.1, l0) else q).map (·.1) = s.by_.map (·.1) := by
              rw [List.map_map]
              apply List.map_congr_left
              intro q hq
              simp only [Function.comp_apply]
              split <;> rfl
            rw [this]
            exact h.keys
          · have hp := h.addrs
            rw [List.Nodup, List.pairwise_map] at hp
            rw [List.Nodup, List.pairwise_map, List.pairwise_map]
            refine List.Pairwise.imp_of_mem (fun {x y} hx hy hxy => ?_) hp
            by_cases e1 : x.2 = a <;> by_cases e2 : y.2 = a
            · exact absurd (e1.trans e2.symm) hxy
            · simp only [e1, beq_self_eq_true, if_true, beq_iff_eq, e2, if_false]; exact fun c => hno y hy c.symm
            · simp only [e2, beq_self_eq_true, if_true, beq_iff_eq, e1, if_false]; exact hno x hx
            · simp only [beq_iff_eq, e1, e2, if_false]; exact hxy
          · obtain ⟨r, hr, rfl⟩ := List.mem_map.1 hq
            have hr' := h.each r hr
            by_cases e : r.2 = a
            · simp only [e, beq_self_eq_true, if_true]
              exact ⟨hr'.1, hl0, by simp [upd]⟩
            · simp only [beq_iff_eq, e, if_false]
              refine ⟨hr'.1, hr'.2.1, ?_⟩
              simp only [upd]
              have := hno r hr
              rw [if_neg (by omega), if_neg (by omega)]
              exact hr'.2.2
          · simp only [upd] at hx
            by_cases e : x = l0.toNat
            · obtain ⟨r, hr, er⟩ := h.back a.toNat h3
              refine ⟨(r.1, l0), List.mem_map.2 ⟨r, hr, ?_⟩, by simp only; omega⟩
              rw [if_pos (by simp only [beq_iff_eq]; omega)]
            · rw [if_neg e] at hx
              by_cases e' : x = a.toNat
              · rw [if_pos e'] at hx; omega
              · rw [if_neg e'] at hx
                obtain ⟨r, hr, er⟩ := h.back x hx
                refine ⟨r, List.mem_map.2 ⟨r, hr, ?_⟩, er⟩
                rw [if_neg (by simp only [beq_iff_eq]; omega)]
          · simp only [upd]
            rw [if_neg (by omega), if_neg (by omega)]
            exact h.zero.1
          · simp only [upd]
            rw [if_neg (by omega), if_neg (by omega)]
            exact h.zero.2 x hx
theorem PS.ok_bring {s : PS} (h : s.ok) (a : Int) : (s.bring a).1.ok := by
  unfold PS.bring
  split
  · exact h
  · rename_i h0
    split
    · rename_i h2
      obtain ⟨ha, hof⟩ := PS.is_pos h0
      exact PS.ok_kind h a.toNat 1 (by omega) (by omega) (by omega)
    · exact h
/-! The map's rows behind them. -/
def enc8 (q : Int × Int) : Int × Value := (q.1, .int .u8 q.2)
theorem vput_new (bs : List (Int × Int)) (loc a : Int) (h : ∀ q ∈ bs, q.1 ≠ loc) : vput (bs.map enc8) loc (.int .u8 a) = (bs ++ [(loc, a)]).map enc8 := by
  induction bs with
  | nil => rfl
  | cons q bs ih =>
    have h1 : (q.1 == loc) = false := by simpa using h q (List.mem_cons_self ..)
    simp only [List.map_cons, List.cons_append, vput]
    rw [show (enc8 q).1 = q.1 from rfl, h1]
    simp only [Bool.false_eq_true, if_false]
    rw [ih (fun r hr => h r (List.mem_cons_of_mem _ hr))]
theorem vput_old (bs : List (Int × Int)) (loc a l0 : Int) (hk : (bs.map (·.1)).Nodup) (ha : (bs.map (·.2)).Nodup) (h : (loc, a) ∈ bs) : vput (bs.map enc8) loc (.int .u8 l0) = (bs.map fun q => if q.2 == a then (q.1, l0) else q).map enc8 := by
  induction bs with
  | nil => simp at h
  | cons q bs ih =>
    simp only [List.map_cons, List.nodup_cons] at hk ha
    simp only [List.map_cons, vput]
    rw [show (enc8 q).1 = q.1 from rfl]
    rcases List.mem_cons.1 h with rfl | h
    · simp only [beq_self_eq_true, if_true]
      congr 1
      apply congrArg
      rw [List.map_congr_left (g := id) (fun r hr => ?_), List.map_id]
      have : r.2 ≠ a := fun e => ha.1 (by simp only; rw [← e]; exact List.mem_map_of_mem (f := (·.2)) hr)
      simp [this]
    · have h1 : (q.1 == loc) = false := by
        have : q.1 ≠ loc := fun e => hk.1 (by rw [e]; exact List.mem_map_of_mem (f := (·.1)) h)
        simpa using this
      have h2 : (q.2 == a) = false := by
        have : q.2 ≠ a := fun e => ha.1 (by rw [e]; exact List.mem_map_of_mem (f := (·.2)) h)
        simpa using this
      rw [h1, h2]
      simp only [Bool.false_eq_true, if_false]
      rw [ih hk.2 ha.2 h]
end Go.Proofs.Ytbcjmgocdplfnaa
