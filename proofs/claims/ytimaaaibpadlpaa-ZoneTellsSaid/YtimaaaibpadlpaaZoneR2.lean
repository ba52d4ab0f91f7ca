import Derived.Test.YtimaaaibpadlpaaZoneR
namespace Go.Proofs.Ytimaaaibpadlpaa
set_option linter.unusedVariables false
set_option linter.unusedSimpArgs false
open Go.RowKit

def RS.come (s : RS) (tote : Int) (ls : List Ln) : RS × Value :=
  if s.there = true then (s, .tuple #[.int .i64 0, .int .i64 7])
  else ({ s with there := true, tote := tote, l := wantsOf s.locs ls }, .tuple #[.int .i64 (wantsOf s.locs ls).length, .int .i64 0])

set_option maxHeartbeats 4000000 in
theorem rVisit_any (r : Nat) (s : RS) (tote : Int) (lv : Value) (ls : List Ln) (F A G : Nat → Prop) (w : World) (h : RRep w F A r s) (hA : ∀ k, A k → ¬ F k) (hAl : ∀ k, A k → k < w.heap.size) (hl : SeesIn w G 3 lv ls.length (lns ls)) (hd : ∀ k, G k → ¬ F k) (hb : ls.length * 16 ≤ 140737488355328) :
    Calls Try.prog 16 #[.pointer (some ⟨r, 0, none⟩), .int .u16 tote, lv] w fun e w' => e = .returned (s.come tote ls).2 ∧ Keep F w w' ∧ RRep w' (fresh F w w') A r (s.come tote ls).1 := by
  have h' := h
  obtain ⟨hF, sv, wv, hbr, h1, h2⟩ := h
  obtain ⟨locs, th, to, l⟩ := s
  have a1 : w.cell? ⟨r, 1, none⟩ = some (.bool th) := by simp [World.cell?, hbr]
  have a2 : w.cell? ⟨r, 2, none⟩ = some (.int .u16 to) := by simp [World.cell?, hbr]
  have a3 : w.cell? ⟨r, 3, none⟩ = some wv := by simp [World.cell?, hbr]
  have f1 : w.frozen? ⟨r, 1, none⟩ = false := by simp [World.frozen?, hbr]
  have f2 : w.frozen? ⟨r, 2, none⟩ = false := by simp [World.frozen?, hbr]
  have f3 : w.frozen? ⟨r, 3, none⟩ = false := by simp [World.frozen?, hbr]
  have H := Lib.hid h'
  cases th with
  | true =>
    have HR : Hid (RS.come ⟨locs, true, to, l⟩ tote ls = (⟨locs, true, to, l⟩, .tuple #[.int .i64 0, .int .i64 7])) := by show RS.come _ _ _ = _; simp [RS.come]
    clear h' hF hbr h1 h2 hl hd hA hAl hb
    go_enter Try.func16, Try.ntmps16
    go_wp2
    go_ret2
    rw [HR.out]
    exact ⟨rfl, Keep.refl _ _, H.out.move (Nat.le_refl _) (fun k hk _ => ⟨.inl hk, rfl⟩) (fun k hk _ => ⟨hk, rfl⟩)⟩
  | false =>
    have HR : Hid (RS.come ⟨locs, false, to, l⟩ tote ls = (⟨locs, true, tote, wantsOf locs ls⟩, .tuple #[.int .i64 (wantsOf locs ls).length, .int .i64 0])) := by show RS.come _ _ _ = _; simp [RS.come]
    have hrl := lt_of_block hbr
    have e1 := heap_setCell_same _ _ 1 _ _ (.bool true) hbr
    have e2 := heap_setCell_same _ _ 2 _ _ (.int .u16 tote) e1
    have e3 := heap_setCell_same _ _ 3 _ _ (.slice none 0 0) e2
    have hkp := (((Keep.refl F w).setCell (p := ⟨r, 1, none⟩) (.inr hF) (.bool true)).setCell (p := ⟨r, 2, none⟩) (.inr hF) (.int .u16 tote)).setCell (p := ⟨r, 3, none⟩) (.inr hF) (.slice none 0 0)
    have hrep : RRep (((w.setCell ⟨r, 1, none⟩ (.bool true)).setCell ⟨r, 2, none⟩ (.int .u16 tote)).setCell ⟨r, 3, none⟩ (.slice none 0 0)) (fun q => F q ∨ w.heap.size ≤ q) A r ⟨locs, true, tote, []⟩ :=
      ⟨.inl hF, sv, _, e3, h1.move hkp.size (fun q hq hl => ⟨hq, hkp.block q hl (hA q hq)⟩), Own.nil _ _ _ _⟩
    obtain ⟨B, cp, rfl, hn1, hn2, -⟩ := id hl
    have HREP := Lib.hid hrep
    have HKP0 := Lib.hid hkp
    have HL := Lib.hid hl
    have HD := Lib.hid hd
    have HA := Lib.hid hA
    have HAL := Lib.hid hAl
    unfold maxLen at hn2
    obtain ⟨i0, hi0, hz0, hz1, hz2⟩ := info_parts Try.infoLine
    clear h' hbr h1 h2 hl hd hA hAl e1 e2 e3 hkp hrep
    go_enter Try.func16, Try.ntmps16
    go_wp2
    go_loopw [8] (fun i wr => ∃ k : Nat, k ≤ ls.length ∧ i = .int .i64 k ∧ RRep wr (fun q => F q ∨ w.heap.size ≤ q) A r ⟨locs, true, tote, wantsOf locs (ls.take k)⟩ ∧ Keep F w wr) (fun i _ => ls.length - (intOf i).toNat)
    case atStart => exact ⟨0, Nat.zero_le _, rfl, HREP.out, HKP0.out⟩
    case round =>
      obtain ⟨k, hk, rfl, hr, hkp⟩ := hrel
      have HKP := Lib.hid hkp
      have HRR := Lib.hid hr
      by_cases hlt : k < ls.length
      · obtain ⟨y, hy⟩ : ∃ y, ls[k]? = some y := ⟨_, List.getElem?_eq_getElem hlt⟩
        obtain ⟨g, o, cp', hv, -, -, -, -, c0, c1, c2⟩ := sees_line (HL.out.move (w' := wr) (G := G) hkp.size (fun q hq hl => ⟨hq, hkp.block q hl (HD.out q hq)⟩)) hy
        simp only [Value.slice.injEq, true_and] at hv
        obtain ⟨rfl, rfl⟩ := hv
        have HH := Lib.hid (rHas_any r y.loc _ _ _ wr hr)
        have HFi := Lib.hid (rFind_any r y.loc _ _ _ wr hr)
        have HY := Lib.hid hy
        have hki : (k : Int) < ls.length := by omega
        clear hy hr hkp
        simp only at HH HFi
        by_cases hm : mem locs y.loc = true
        · by_cases hq : 0 < y.qty
          · have hq1 : decide (0 < y.qty) = true := by simpa using hq
            by_cases hx : lidx (wantsOf locs (ls.take k)) y.loc < 0
            · have hx1 : decide (lidx (wantsOf locs (ls.take k)) y.loc < 0) = true := by simpa using hx
              have HC := Lib.hid (And.intro hm (And.intro hq hx))
              obtain ⟨hF', sv', wv', hb', s1, o1⟩ := HRR.out
              obtain ⟨Ax, cx, rfl, -, -⟩ := o1.len
              simp only at hb' o1
              have b3 : wr.cell? ⟨r, 3, none⟩ = some (.slice Ax (wantsOf locs (ls.take k)).length cx) := by simp [World.cell?, hb']
              have hgF : g < wr.heap.size := by
                rcases Nat.lt_or_ge g wr.heap.size with h' | h'
                · exact h'
                · simp [World.cell?, Array.getElem?_eq_none h'] at c0
              have hacc : (wantsOf locs (ls.take k)).length ≤ k := by have := wantsOf_len locs (ls.take k); have := List.length_take_le k ls; omega
              have hm1 : (wantsOf locs (ls.take k)).length + 1 ≤ maxLen := by unfold maxLen; omega
              have hm2 : ((wantsOf locs (ls.take k)).length + 1) * 16 ≤ 140737488355328 := by omega
              have hne : some r ≠ (Value.slice Ax (wantsOf locs (ls.take k)).length cx).ownBlock := (o1.ne hb' (by decide)).symm
              have hng : ∀ q, (Value.slice Ax (wantsOf locs (ls.take k)).length cx).ownBlock = some q → q ≠ g := by
                intro q hq e
                subst e
                have h5 := o1.2.1 q hq
                have := o1.lt hq
                obtain ⟨g', o', cz, e4, hGg, hgw, -⟩ := sees_line (HL.out) HY.out
                simp only [Value.slice.injEq, Option.some.injEq, Addr.mk.injEq, true_and, and_true] at e4
                obtain ⟨⟨rfl, -⟩, -⟩ := e4
                rcases h5 with h5 | h5
                · exact HD.out _ hGg h5
                · omega
              have HNE := Lib.hid hne
              have HNG := Lib.hid hng
              have HO1 := Lib.hid o1
              have HB1 := Lib.hid hb'
              have HM1 := Lib.hid hm1
              have HM2 := Lib.hid hm2
              have HS1 := Lib.hid s1
              have HF1 := Lib.hid hF'
              have hrw := lt_of_block hb'
              clear hne hng o1 hb' hm1 hm2 s1 hF' hq hx
              go_wp2_with (first | (go_at_call 21; (with_reducible refine HH.out.mono ?_); rintro e w' ⟨rfl, rfl⟩) | (go_at_call 27; (with_reducible refine HFi.out.mono ?_); rintro e w' ⟨rfl, rfl⟩))
              refine wp_sch [(0, 0), (0, 1), (0, 2), (0, 3), (0, 4), (0, 5), (0, 6), (0, 7), (0, 8), (1, 9), (1, 10), (0, 11), (0, 12), (2, 13)] [13] (fun W => W.cell? ⟨r, 3, none⟩ = some (.slice Ax (wantsOf locs (ls.take k)).length cx) ∧ W.cell? ⟨g, o + k * 3, none⟩ = some (.int .u16 y.item) ∧ W.cell? ⟨g, o + k * 3 + 1, none⟩ = some (.int .u16 y.loc) ∧ W.cell? ⟨g, o + k * 3 + 2, none⟩ = some (.int .i64 y.qty)) (by kernel_rfl) (by kernel_rfl) (by kernel_rfl) (fun _ _ d _ _ h => by cases d <;> exact h) ⟨b3, c0, c1, c2⟩ ?_
              iterate 9
                refine sch_yield (v := ?_) rfl rfl (by rfl) ?_ ?_
                rotate_left
                · intro W hS
                  obtain ⟨hS1, hS2, hS3, hS4⟩ := hS
                  go_simp
                  try with_reducible rfl
                simp only [Act.put, List.setIfInBounds_toArray, List.set_cons_zero, List.set_cons_succ]
              refine sch_run rfl (fun K hK => ?_)
              go_simp
              refine hK _ _ (by refine ⟨?_, ?_, ?_, ?_⟩ <;> go_keep) ?_
              clear hK K
              try simp only [Act.put, List.setIfInBounds_toArray, List.set_cons_zero, List.set_cons_succ]
              refine sch_run rfl (fun K hK => ?_)
              refine step_append_lies _ (by rfl) _ _ _ (by rfl) 0 27 i0 _ 3 16 Try.underlying22 hi0 hz0 hz1 hz2 rfl (by omega) _ _ (lns (wantsOf locs (ls.take k))) (by rfl) ((HO1.out.1.alloc _).drew) ⟨wr.heap.size, 0, none⟩ 1 1 y.cs (by rfl) (by rfl) (World.news_of_block (cs := #[.int .u16 y.item, .int .u16 y.loc, .int .i64 y.qty]) (t := 27) (fr := (0, 0)) (heap_alloc_new wr _)) (by simp [Ln.cs, Value.oneCell']) (by omega) HM1.out HM2.out (Nat.zero_le _) (wr.heap.size + 1) (by simp) ?_
              intro gg cap w1 hown1 hgrow hat hlt1
              have er := (hgrow.block r (by simp; omega) HNE.out).trans ((Below.heap_alloc wr _ _ (lt_of_block HB1.out)).trans HB1.out)
              have eg := (hgrow.block g (by simp; omega) (fun e => HNG.out g e.symm rfl)).trans (Below.heap_alloc wr _ _ hgF)
              have k3 : w1.cell? ⟨r, 3, none⟩ = some (.slice Ax (wantsOf locs (ls.take k)).length cx) := by simp [World.cell?, er]
              have q3 : w1.frozen? ⟨r, 3, none⟩ = false := by simp [World.frozen?, er]
              have d0 : w1.cell? ⟨g, o + k * 3, none⟩ = some (.int .u16 y.item) := (World.cell?_of_block eg).trans c0
              have d1 : w1.cell? ⟨g, o + k * 3 + 1, none⟩ = some (.int .u16 y.loc) := (World.cell?_of_block eg).trans c1
              have d2 : w1.cell? ⟨g, o + k * 3 + 2, none⟩ = some (.int .i64 y.qty) := (World.cell?_of_block eg).trans c2
              have HER := Lib.hid er
              have HOW1 := Lib.hid hown1
              have HGR := Lib.hid hgrow
              have HAT := Lib.hid hat
              clear er eg hown1 hgrow hat
              refine hK _ _ ⟨k3, d0, d1, d2⟩ ?_
              clear hK K
              try simp only [Act.put, List.setIfInBounds_toArray, List.set_cons_zero, List.set_cons_succ]
              iterate 2
                refine sch_yield (v := ?_) rfl rfl (by rfl) ?_ ?_
                rotate_left
                · intro W hS
                  obtain ⟨hS1, hS2, hS3, hS4⟩ := hS
                  go_simp
                  try with_reducible rfl
                simp only [Act.put, List.setIfInBounds_toArray, List.set_cons_zero, List.set_cons_succ]
              refine sch_store rfl (fun K hK => ?_)
              go_simp
              refine hK _ _ (sch_done ?_)
              clear hK K
              try simp only [Act.put, List.setIfInBounds_toArray, List.set_cons_zero, List.set_cons_succ]
              go_wp2
              have hss := HKP.out.size
              have hgs := HGR.out.size
              refine ⟨⟨k + 1, by omega, by go_num, ?_, ?_⟩, by simp [intOf]; omega⟩
              · rw [wantsOf_snoc locs ls k y HY.out, addLine, if_pos HC.out]
                have o5 : Own w1 (fun q => F q ∨ w.heap.size ≤ q) 27 3 (.slice (some ⟨gg, 0, none⟩) ((wantsOf locs (ls.take k)).length + 1) cap) ((wantsOf locs (ls.take k)).length + 1) (lns (wantsOf locs (ls.take k)) ++ y.cs) := by
                  refine ⟨HOW1.out, fun q hq => ?_, fun u hu => ?_⟩
                  · simp only [Value.ownBlock, Option.some.injEq] at hq
                    subst hq
                    rcases HAT.out with h | h
                    · exact HO1.out.2.1 _ h
                    · exact .inr (by omega)
                  · rw [← lns_snoc] at hu
                    exact lns_one _ u hu
                refine ⟨HF1.out, sv', .slice (some ⟨gg, 0, none⟩) ((wantsOf locs (ls.take k)).length + 1) cap, heap_setCell_same _ _ _ _ _ _ HER.out, ?_, ?_⟩
                · refine HS1.out.move (by simp at hgs ⊢; omega) (fun q hq hl => ⟨hq, ?_⟩)
                  have hqw := HAL.out q hq
                  have hqF := HA.out q hq
                  have e1 : q ≠ r := fun e => by rcases HF1.out with h | h; exact hqF (e ▸ h); omega
                  rw [Below.heap_setCell _ _ _ _ e1]
                  exact (HGR.out.block q (by simp; omega) (fun e => by rcases HO1.out.2.1 q e.symm with h | h; exact hqF h; omega)).trans (Below.heap_alloc wr _ _ hl)
                · show Own _ _ _ _ _ (_ ++ [y]).length _
                  rw [lns_snoc, List.length_append]
                  exact o5.setCell (o5.ne HER.out (by decide)) _
              · exact ((((HKP.out.alloc _).drew).grown HGR.out (fun q hq => (HO1.out.2.1 q hq).symm))).setCell (p := ⟨r, 3, none⟩) HF1.out.symm _
            · have hx1 : decide (lidx (wantsOf locs (ls.take k)) y.loc < 0) = false := by simpa using hx
              have HC := Lib.hid (fun c : mem locs y.loc = true ∧ 0 < y.qty ∧ lidx (wantsOf locs (ls.take k)) y.loc < 0 => hx c.2.2)
              clear hx hq
              go_wp2_with (first | (go_at_call 21; (with_reducible refine HH.out.mono ?_); rintro e w' ⟨rfl, rfl⟩) | (go_at_call 27; (with_reducible refine HFi.out.mono ?_); rintro e w' ⟨rfl, rfl⟩))
              refine ⟨⟨k + 1, by omega, by go_num, ?_, HKP.out⟩, by simp [intOf]; omega⟩
              rw [wantsOf_snoc locs ls k y HY.out, addLine, if_neg HC.out]; exact HRR.out
          · have hq1 : decide (0 < y.qty) = false := by simpa using hq
            have HC := Lib.hid (fun c : mem locs y.loc = true ∧ 0 < y.qty ∧ lidx (wantsOf locs (ls.take k)) y.loc < 0 => hq c.2.1)
            clear hq
            go_wp2_with (first | (go_at_call 21; (with_reducible refine HH.out.mono ?_); rintro e w' ⟨rfl, rfl⟩) | (go_at_call 27; (with_reducible refine HFi.out.mono ?_); rintro e w' ⟨rfl, rfl⟩))
            refine ⟨⟨k + 1, by omega, by go_num, ?_, HKP.out⟩, by simp [intOf]; omega⟩
            rw [wantsOf_snoc locs ls k y HY.out, addLine, if_neg HC.out]; exact HRR.out
        · have hm1 : mem locs y.loc = false := by simpa using hm
          have HC := Lib.hid (fun c : mem locs y.loc = true ∧ 0 < y.qty ∧ lidx (wantsOf locs (ls.take k)) y.loc < 0 => hm c.1)
          clear hm
          go_wp2_with (first | (go_at_call 21; (with_reducible refine HH.out.mono ?_); rintro e w' ⟨rfl, rfl⟩) | (go_at_call 27; (with_reducible refine HFi.out.mono ?_); rintro e w' ⟨rfl, rfl⟩))
          refine ⟨⟨k + 1, by omega, by go_num, ?_, HKP.out⟩, by simp [intOf]; omega⟩
          rw [wantsOf_snoc locs ls k y HY.out, addLine, if_neg HC.out]; exact HRR.out
      · have hk' : k = ls.length := by omega
        have HK' := Lib.hid hk'
        obtain ⟨hF', sv', wv', hb', s1, o1⟩ := hr
        obtain ⟨Ax, cx, rfl, -, -⟩ := o1.len
        simp only at hb'
        have b3 : wr.cell? ⟨r, 3, none⟩ = some (.slice Ax (wantsOf locs (ls.take k)).length cx) := by simp [World.cell?, hb']
        clear hb' s1 o1 hkp hk'
        go_wp2
        go_ret2
        have e : ls.take k = ls := by rw [HK'.out, List.take_length]
        rw [e] at HRR ⊢
        rw [HR.out]
        exact ⟨rfl, HKP.out, HRR.out.move (Nat.le_refl _) (fun q hq hl => ⟨by rcases hq with h | h; exact .inl h; exact .inr ⟨h, hl⟩, rfl⟩) (fun q hq _ => ⟨hq, rfl⟩)⟩
end Go.Proofs.Ytimaaaibpadlpaa
