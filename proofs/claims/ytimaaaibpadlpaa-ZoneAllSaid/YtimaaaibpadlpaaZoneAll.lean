import Derived.Test.YtimaaaibpadlpaaZoneOwn
import Derived.Test.YtimaaaibpadlpaaZoneAL
import Derived.Test.YtimaaaibpadlpaaMasks
import Derived.Deep.DeepCutAuto
import Derived.Deep.CutBlock
namespace Go.Proofs.Ytimaaaibpadlpaa
set_option linter.unusedVariables false
set_option linter.unusedSimpArgs false
open Go.RowKit

attribute [local go_sem] min2_mn min_two'

theorem first_snoc (ls : List Ln) (y : Ln) : first (ls ++ [y]) = if first ls y.loc.toNat = 0 then upd (first ls) y.loc.toNat y.qty else first ls := by
  rw [first, List.foldl_append]; rfl
theorem zero10 : (#[.int .i64 0, .int .i64 0, .int .i64 0, .int .i64 0, .int .i64 0, .int .i64 0, .int .i64 0, .int .i64 0, .int .i64 0, .int .i64 0] : Array Value) = arr 10 (fun _ => 0) := by rfl

theorem first_bound (M : List Ln) (c : Nat) (h : ∀ x ∈ M, 0 ≤ x.loc ∧ x.loc < 10 ∧ 0 ≤ x.qty ∧ x.qty ≤ 9999) : 0 ≤ first M c ∧ first M c ≤ 9999 := by
  have ⟨hg, hf⟩ := wants_first _ M rfl h
  rw [← hf c]
  exact lft_bound hg c
theorem cut_range (l : List Ln) : ∀ x ∈ l.map cut, 0 ≤ x.loc ∧ x.loc < 10 ∧ 0 ≤ x.qty ∧ x.qty ≤ 9999 := by
  intro x hx
  obtain ⟨y, -, rfl⟩ := List.mem_map.1 hx
  exact ⟨by show 0 ≤ y.loc % 10; omega, by show y.loc % 10 < 10; omega, by show 0 ≤ y.qty % 65536 % 10000; omega, by show y.qty % 65536 % 10000 ≤ 9999; omega⟩
set_option maxHeartbeats 20000000 in
set_option maxRecDepth 100000 in
theorem zoneAll_any {A0 A1 : Option Addr} {n0 c0 n1 c1 : Nat} {l0 : List Ln} {l1 : List St} {w : World} (h0 : SeesIn w (fun k => k < w.heap.size) 3 (.slice A0 n0 c0) l0.length (lns l0) ∧ ∀ x ∈ l0, x.ok)
    (h1 : SeesR w (fun k => k < w.heap.size) 6 (fun y cs => cs = y.cs ∧ St.ok w y) (.slice A1 n1 c1) l1) :
    Calls Try.prog 6 #[.slice A0 n0 c0, .slice A1 n1 c1] w fun e w' => e = .returned (.bool true) ∧ Keep none_ w w' := by
  obtain ⟨hs0, hok⟩ := h0
  obtain ⟨A', c', e, hn1, hn2, -⟩ := id hs0
  simp only [Value.slice.injEq, true_and] at e
  obtain ⟨rfl, rfl, rfl⟩ := e
  obtain ⟨A', c', e, hn3, hn4, -⟩ := id h1
  simp only [Value.slice.injEq, true_and] at e
  obtain ⟨rfl, rfl, rfl⟩ := e
  have HS0 := Lib.hid hs0
  have HOK := Lib.hid hok
  have HS1 := Lib.hid h1
  unfold maxLen at hn2 hn4
  clear hs0 hok h1
  have s1 := fun w1 : World => Lib.hid (SeesIn.lit w1 #[.int .u16 0, .int .u16 1, .int .u16 2, .int .u16 3, .int .u16 4, .int .u16 5, .int .u16 6, .int .u16 7, .int .u16 8, .int .u16 9] 25 1 10 rfl (by decide) (by decide))
  obtain ⟨i0, hi0, hz0, hz1, hz2⟩ := info_parts Try.infoLine
  go_enter Try.func6, Try.ntmps6
  go_wp2_with (go_at_call 8; refine (shown_any _).mono ?_; rintro e w1 ⟨rfl, hk1⟩; have HK1 := Lib.hid hk1; clear hk1)
  have hk1 := HK1.out.size
  refine (new_out [] w1.heap.size _ ten _ _ (s1 w1).out (by decide) (by simp) (by simp)).mono ?_
  rintro e w2 ⟨z, rfl, hk2, hz2'⟩
  have HK2 := Lib.hid ((HK1.out.alloc (.cells #[.int .u16 0, .int .u16 1, .int .u16 2, .int .u16 3, .int .u16 4, .int .u16 5, .int .u16 6, .int .u16 7, .int .u16 8, .int .u16 9] 25)).next hk2)
  have HZ2 : Hid (ZRep w2 (fun q => w1.heap.size ≤ q ∧ q < w2.heap.size) z _) := Lib.hid (hz2'.move (fun q hq hl => ⟨⟨hq.1, hl⟩, rfl⟩))
  have hk2' := hk2.size
  clear hk2 hz2' s1
  simp only [World.size_alloc] at hk2'
  go_upto_block 0 with fail
  have hb3 : (w2.alloc (.cells #[.int .i64 0, .int .i64 0, .int .i64 0, .int .i64 0, .int .i64 0, .int .i64 0, .int .i64 0, .int .i64 0, .int .i64 0, .int .i64 0] 59)).heap[w2.heap.size]? = some (.cells (arr 10 (first [])) 59 (0, 0)) := heap_alloc_new _ _
  have hz3 := HZ2.out.move (w' := w2.alloc (.cells #[.int .i64 0, .int .i64 0, .int .i64 0, .int .i64 0, .int .i64 0, .int .i64 0, .int .i64 0, .int .i64 0, .int .i64 0, .int .i64 0] 59)) (fun q hq hl => ⟨hq, Below.heap_alloc _ _ _ hl⟩)
  have hk3 := HK2.out.alloc (.cells #[.int .i64 0, .int .i64 0, .int .i64 0, .int .i64 0, .int .i64 0, .int .i64 0, .int .i64 0, .int .i64 0, .int .i64 0, .int .i64 0] 59)
  have hs3 : (w2.alloc (.cells #[.int .i64 0, .int .i64 0, .int .i64 0, .int .i64 0, .int .i64 0, .int .i64 0, .int .i64 0, .int .i64 0, .int .i64 0, .int .i64 0] 59)).heap.size = w2.heap.size + 1 := by simp
  generalize w2.alloc (.cells #[.int .i64 0, .int .i64 0, .int .i64 0, .int .i64 0, .int .i64 0, .int .i64 0, .int .i64 0, .int .i64 0, .int .i64 0, .int .i64 0] 59) = w3 at *
  generalize w2.heap.size = bw at *
  have hbw : w1.heap.size ≤ bw := by omega
  have h3w : bw < w3.heap.size := by omega
  have hzw : w.heap.size ≤ bw := by omega
  have HS3 := Lib.hid hs3
  have HB3 := Lib.hid hb3
  have HZ3 := Lib.hid hz3
  have HK3 := Lib.hid hk3
  clear hb3 hz3 hk3 hs3 HZ2 HK2
  go_cut [7] (fun v7 wx => ∃ m : Nat, m ≤ 40 ∧ ((l0.take 40).map cut).length = m ∧ Own wx (fun q => w3.heap.size ≤ q ∧ q < wx.heap.size) 27 3 v7 m (lns ((l0.take 40).map cut)) ∧ wx.heap[bw]? = some (.cells (arr 10 (first ((l0.take 40).map cut))) 59 (0, 0)) ∧ Keep (fun q => q = bw) w3 wx)
  case first =>
    go_wp2_with fail
    go_loopw [7, 9] (fun v i wr => ∃ k : Nat, k ≤ l0.length ∧ k ≤ 40 ∧ i = .int .i64 k ∧ Own wr (fun q => w3.heap.size ≤ q) 27 3 v k (lns ((l0.take k).map cut)) ∧ wr.heap[bw]? = some (.cells (arr 10 (first ((l0.take k).map cut))) 59 (0, 0)) ∧ Keep (fun q => q = bw) w3 wr) (fun _ i _ => 40 - (intOf i).toNat)
    case atStart => exact ⟨0, Nat.zero_le _, by omega, rfl, by simpa [lns] using Own.nil _ _ _ _, HB3.out, Keep.refl _ _⟩
    case round =>
      obtain ⟨k, hk, hk40, rfl, hown, hbb, hkp⟩ := hrel
      have HOWN := Lib.hid hown
      have HBB := Lib.hid hbb
      have HKP := Lib.hid hkp
      obtain ⟨Ax, cx, rfl, -, -⟩ := hown.len
      have hsz := hkp.size
      by_cases hlt : k < l0.length
      · by_cases h40 : k < 40
        · obtain ⟨y, hy⟩ : ∃ y, l0[k]? = some y := ⟨_, List.getElem?_eq_getElem hlt⟩
          have hyk := HOK.out y (List.mem_of_getElem? hy)
          have hy0 := hyk.l0
          have hy1 := hyk.l1
          obtain ⟨d, hd, hd10⟩ : ∃ d : Nat, y.loc % 10 = (d : Int) ∧ d < 10 := ⟨(y.loc % 10).toNat, by omega, by omega⟩
          obtain ⟨r, hr, hr0, hr1⟩ : ∃ r, y.qty % 65536 = r ∧ 0 ≤ r ∧ r < 65536 := ⟨_, rfl, by omega, by omega⟩
          have hqb : bits .and .i64 y.qty 65535 = r := by rw [i64_and16, hr]
          have hcut : cut y = ⟨y.item, d, r % 10000⟩ := by rw [cut, hd, hr]
          have htk : (l0.take (k + 1)).map cut = (l0.take k).map cut ++ [⟨y.item, d, r % 10000⟩] := by rw [List.take_add_one, hy, ← hcut]; simp
          obtain ⟨g, o, cp', e1, -, -, hq1, hq2, c0, c1, c2⟩ := sees_line (HS0.out.move (w' := wr) (G := fun q => q < w.heap.size) (by have := HK3.out.size; omega) (fun q hq hl => ⟨hq, (hkp.block q (by have := HK3.out.size; omega) (by omega)).trans (HK3.out.block q hl (fun c => c))⟩)) hy
          simp only [Value.slice.injEq, true_and] at e1
          obtain ⟨rfl, rfl⟩ := e1
          have hlt' : (k : Int) < l0.length := by omega
          have h40' : (k : Int) < 40 := by omega
          have hdi : (d : Int) < 10 := by omega
          have HTK := Lib.hid htk
          have HD10 := Lib.hid hd10
          have hown1 := Lib.hid (hown.move (w' := wr.alloc (.cells #[.int .u16 y.item, .int .u16 (d : Int), .int .i64 (r % 10000)] 27)) (G := fun q => w3.heap.size ≤ q ∧ q < wr.heap.size) (fun q hq hl => ⟨⟨hq, hl⟩, Below.heap_alloc _ _ _ hl⟩))
          have hlb := lt_of_block hbb
          have hm1 : k + 1 ≤ maxLen := by unfold maxLen; omega
          have HM1 := Lib.hid hm1
          clear hy htk hcut hd10 hown hbb hkp hyk hr hm1
          have hfs : first ((l0.take k).map cut ++ [⟨y.item, d, r % 10000⟩]) = if first ((l0.take k).map cut) d = 0 then upd (first ((l0.take k).map cut)) d (r % 10000) else first ((l0.take k).map cut) := by
            rw [first_snoc]; simp
          have HFS := Lib.hid hfs
          clear hfs
          obtain ⟨f, hff⟩ : ∃ f, first ((l0.take k).map cut) = f := ⟨_, rfl⟩
          rw [hff] at HBB HFS
          have HFF := Lib.hid hff
          clear hff
          have HLN := Lib.hid (lns_snoc ((l0.take k).map cut) ⟨y.item, d, r % 10000⟩)
          by_cases hf : f d = 0
          · have hfb : (f d == 0) = true := by simp [hf]
            have HF := Lib.hid hf
            clear hf
            go_wp2_with (at_builtin; refine wpList_push rfl (.tmp 55) (.tmp 57) 22 rfl 27 i0 _ 3 16 Try.underlying22 hi0 hz0 hz1 hz2 rfl (by decide) _ #[.int .u16 y.item, .int .u16 (d : Int), .int .i64 (r % 10000)] _ k _ rfl hown1.out (by simp [Act.eval, Act.put]) rfl (by simp [Value.oneCell']) HM1.out (by omega) ?_; intro gg cap w5 ho5 hg5 hlt5; have ex := (hg5.block wr.heap.size (by simp; omega) (fun e => by have := (hown1.out.2.1 _ e.symm).2; omega)).trans ((Below.heap_alloc (wr.alloc (.cells #[.int .u16 y.item, .int .u16 (d : Int), .int .i64 (r % 10000)] 27)) _ _ (by simp)).trans (heap_alloc_new wr _)); have eb := (hg5.block bw (by simp; omega) (fun e => by have := (hown1.out.2.1 _ e.symm).1; omega)).trans ((Below.heap_alloc (wr.alloc (.cells #[.int .u16 y.item, .int .u16 (d : Int), .int .i64 (r % 10000)] 27)) _ _ (by simp; omega)).trans ((Below.heap_alloc wr _ _ hlb).trans HBB.out)); have x1 : w5.cell? ⟨wr.heap.size, 1, none⟩ = some (.int .u16 (d : Int)) := (by simp [World.cell?, ex]); have x2 : w5.cell? ⟨wr.heap.size, 2, none⟩ = some (.int .i64 (r % 10000)) := (by simp [World.cell?, ex]); have b1 := (arr_cell eb HD10.out).1; have b2 := (arr_cell eb HD10.out).2; have HO5 := Lib.hid ho5; have HG5 := Lib.hid hg5; have HEB := Lib.hid eb; clear ho5 hg5 ex eb)
            refine ⟨⟨k + 1, by omega, by omega, by go_num, ?_, ?_, ?_⟩, by simp [intOf]; omega⟩
            · rw [HTK.out, HLN.out]
              exact (HO5.out.move (w' := w5) (G := fun q => w3.heap.size ≤ q) (fun q hq hl => ⟨by rcases hq with h | h; exact (hown1.out.2.1 q h).1; simp at h; omega, rfl⟩)).setCell (HO5.out.ne HEB.out (by decide)) _
            · rw [HTK.out, HFS.out, if_pos HF.out]
              exact arr_store HEB.out HD10.out _
            · exact ((((HKP.out.alloc _).alloc _).grown HG5.out (fun q hq => .inl (by have := (hown1.out.2.1 q hq).1; omega)))).setCell (p := ⟨bw, d, none⟩) (.inr rfl) _
          · have hfb : (f d == 0) = false := by simp [hf]
            have HF := Lib.hid hf
            clear hf
            go_wp2_with (at_builtin; refine wpList_push rfl (.tmp 55) (.tmp 57) 22 rfl 27 i0 _ 3 16 Try.underlying22 hi0 hz0 hz1 hz2 rfl (by decide) _ #[.int .u16 y.item, .int .u16 (d : Int), .int .i64 (r % 10000)] _ k _ rfl hown1.out (by simp [Act.eval, Act.put]) rfl (by simp [Value.oneCell']) HM1.out (by omega) ?_; intro gg cap w5 ho5 hg5 hlt5; have ex := (hg5.block wr.heap.size (by simp; omega) (fun e => by have := (hown1.out.2.1 _ e.symm).2; omega)).trans ((Below.heap_alloc (wr.alloc (.cells #[.int .u16 y.item, .int .u16 (d : Int), .int .i64 (r % 10000)] 27)) _ _ (by simp)).trans (heap_alloc_new wr _)); have eb := (hg5.block bw (by simp; omega) (fun e => by have := (hown1.out.2.1 _ e.symm).1; omega)).trans ((Below.heap_alloc (wr.alloc (.cells #[.int .u16 y.item, .int .u16 (d : Int), .int .i64 (r % 10000)] 27)) _ _ (by simp; omega)).trans ((Below.heap_alloc wr _ _ hlb).trans HBB.out)); have x1 : w5.cell? ⟨wr.heap.size, 1, none⟩ = some (.int .u16 (d : Int)) := (by simp [World.cell?, ex]); have x2 : w5.cell? ⟨wr.heap.size, 2, none⟩ = some (.int .i64 (r % 10000)) := (by simp [World.cell?, ex]); have b1 := (arr_cell eb HD10.out).1; have b2 := (arr_cell eb HD10.out).2; have HO5 := Lib.hid ho5; have HG5 := Lib.hid hg5; have HEB := Lib.hid eb; clear ho5 hg5 ex eb)
            refine ⟨⟨k + 1, by omega, by omega, by go_num, ?_, ?_, ?_⟩, by simp [intOf]; omega⟩
            · rw [HTK.out, HLN.out]
              exact (HO5.out.move (w' := w5) (G := fun q => w3.heap.size ≤ q) (fun q hq hl => ⟨by rcases hq with h | h; exact (hown1.out.2.1 q h).1; simp at h; omega, rfl⟩))
            · rw [HTK.out, HFS.out, if_neg HF.out]
              exact HEB.out
            · exact ((((HKP.out.alloc _).alloc _).grown HG5.out (fun q hq => .inl (by have := (hown1.out.2.1 q hq).1; omega))))
        · have h40' : ¬ (k : Int) < 40 := by omega
          have hlt' : (k : Int) < l0.length := by omega
          have hk' : k = 40 := by omega
          have HKK := Lib.hid hk'
          clear hk'
          go_wp2
          go_meet
          have eT : l0.take k = l0.take 40 := by rw [HKK.out]
          have eN : ((l0.take 40).map cut).length = k := by rw [List.length_map, List.length_take, HKK.out]; omega
          rw [eT] at HOWN HBB
          exact ⟨k, hk40, eN, HOWN.out.move (fun q hq hl => ⟨⟨hq, hl⟩, rfl⟩), HBB.out, HKP.out⟩
      · have hk' : k = l0.length := by omega
        have HKK := Lib.hid hk'
        clear hk'
        go_wp2
        go_meet
        have eT : l0.take k = l0.take 40 := by rw [HKK.out, List.take_length, List.take_of_length_le (by omega)]
        have eN : ((l0.take 40).map cut).length = k := by rw [List.length_map, ← eT, List.length_take]; omega
        rw [eT] at HOWN HBB
        exact ⟨k, hk40, eN, HOWN.out.move (fun q hq hl => ⟨⟨hq, hl⟩, rfl⟩), HBB.out, HKP.out⟩
  case rest =>
    obtain ⟨m, hm, hlen, hown, hbb, hkp⟩ := hcut
    obtain ⟨hg0, hf0⟩ := wants_first _ ((l0.take 40).map cut) rfl (cut_range _)
    have HCOME := Lib.hid (come_none ten 3 ((l0.take 40).map cut))
    have HCR := Lib.hid (cut_range (l0.take 40))
    have HLEN := Lib.hid hlen
    clear HS0 HOK
    generalize (l0.take 40).map cut = M at *
    have hzc : ZRep wc (out [bw] w1.heap.size) z ⟨ten, none⟩ := HZ3.out.move (fun q hq hl => ⟨⟨hq.1, by simp; omega⟩, hkp.block q hl (by omega)⟩)
    have hvis := visit_any z ⟨ten, none⟩ 3 u7 M (fun q => w1.heap.size ≤ q ∧ q < bw) (fun q => w3.heap.size ≤ q ∧ q < wc.heap.size) wc (HZ3.out.move (fun q hq hl => ⟨hq, hkp.block q hl (by omega)⟩)) (by rw [hlen]; exact hown.sees) (fun q hq => by omega) (by rw [hlen]; omega)
    rw [HCOME.out] at hvis
    have HVIS := Lib.hid hvis
    have HKC : Hid (Keep none_ w wc) := Lib.hid (HK3.out.trans (hkp.mono (fun q h => .inr (by omega))))
    have HBC := Lib.hid hbb
    have HSC : Hid (bw < wc.heap.size) := lt_of_block hbb
    have HG0 := Lib.hid hg0
    have HF0 := Lib.hid hf0
    obtain ⟨Ax, cx, rfl, -, -⟩ := hown.len
    clear hlen hown hbb hkp hg0 hf0 hzc hvis HZ3 HK3 HB3 HS3
    generalize wantsOf ten M = S0 at *
    go_wp2_with fail
    refine HVIS.out.mono ?_
    rintro e w4 ⟨rfl, hk4, hz4⟩
    have HK4 : Hid (Keep none_ w w4) := Lib.hid (HKC.out.trans (hk4.mono (fun q h => .inr (by have := HK1.out.size; omega))))
    have hcs := hk4.size
    have HB4 : Hid (w4.heap[bw]? = some (.cells (arr 10 (first M)) 59 (0, 0))) := Lib.hid ((hk4.block bw HSC.out (by omega)).trans HBC.out)
    have HZ4 : Hid (ZRep w4 (out [bw] w1.heap.size) z ⟨ten, some (3, S0)⟩) := Lib.hid (hz4.move (fun q hq hl => ⟨by rcases hq with h | h; exact ⟨h.1, by simp; omega⟩; exact ⟨by have := HSC.out; omega, by have := HSC.out; simp; omega⟩, rfl⟩))
    clear hk4 hz4 HVIS HCOME HKC HBC
    go_upto_block 2 with fail
    have hb5 : (w4.alloc (.cells #[.int .i64 0, .int .i64 0, .int .i64 0, .int .i64 0, .int .i64 0, .int .i64 0, .int .i64 0, .int .i64 0, .int .i64 0, .int .i64 0] 59)).heap[w4.heap.size]? = some (.cells (arr 10 (fun _ => 0)) 59 (0, 0)) := heap_alloc_new _ _
    have hbw5 : (w4.alloc (.cells #[.int .i64 0, .int .i64 0, .int .i64 0, .int .i64 0, .int .i64 0, .int .i64 0, .int .i64 0, .int .i64 0, .int .i64 0, .int .i64 0] 59)).heap[bw]? = some (.cells (arr 10 (first M)) 59 (0, 0)) := (Below.heap_alloc _ _ _ (lt_of_block HB4.out)).trans HB4.out
    have hz5 := HZ4.out.push (.cells #[.int .i64 0, .int .i64 0, .int .i64 0, .int .i64 0, .int .i64 0, .int .i64 0, .int .i64 0, .int .i64 0, .int .i64 0, .int .i64 0] 59)
    have hk5 := HK4.out.alloc (.cells #[.int .i64 0, .int .i64 0, .int .i64 0, .int .i64 0, .int .i64 0, .int .i64 0, .int .i64 0, .int .i64 0, .int .i64 0, .int .i64 0] 59)
    have hs5 : (w4.alloc (.cells #[.int .i64 0, .int .i64 0, .int .i64 0, .int .i64 0, .int .i64 0, .int .i64 0, .int .i64 0, .int .i64 0, .int .i64 0, .int .i64 0] 59)).heap.size = w4.heap.size + 1 := by simp
    have h4w := lt_of_block HB4.out
    have h1w := HK1.out.size
    generalize w4.alloc (.cells #[.int .i64 0, .int .i64 0, .int .i64 0, .int .i64 0, .int .i64 0, .int .i64 0, .int .i64 0, .int .i64 0, .int .i64 0, .int .i64 0] 59) = w5 at *
    generalize w4.heap.size = bd at *
    have hbd : bw < bd := h4w
    have HB5 := Lib.hid hb5
    have HW5 := Lib.hid hbw5
    have HZ5 := Lib.hid hz5
    have HK5 := Lib.hid hk5
    clear hb5 hbw5 hz5 hk5 HB4 HZ4 HK4 hs5 hcs h4w
    go_cut [] (fun wx => ∃ ls, good ls ∧ ZRep wx (out [bd, bw] w1.heap.size) z ⟨ten, some (3, ls)⟩ ∧ Keep none_ w wx)
    case first =>
      go_wp2_with fail
      go_loopw [14] (fun i wr => ∃ (j : Nat) (ls : List Ln) (dn : Nat → Int), j ≤ l1.length ∧ j ≤ 100 ∧ i = .int .i64 j ∧ good ls ∧ ZRep wr (out [bd, bw] w1.heap.size) z ⟨ten, some (3, ls)⟩ ∧ wr.heap[bw]? = some (.cells (arr 10 (first M)) 59 (0, 0)) ∧ wr.heap[bd]? = some (.cells (arr 10 dn) 59 (0, 0)) ∧ (∀ c, lft ls c + dn c = first M c ∧ 0 ≤ dn c) ∧ Keep none_ w wr) (fun i _ => 100 - (intOf i).toNat)
      case atStart => exact ⟨0, S0, fun _ => 0, Nat.zero_le _, by omega, rfl, HG0.out, HZ5.out, HW5.out, HB5.out, fun c => ⟨by rw [← HF0.out]; simp, by simp⟩, HK5.out⟩
      case round =>
        obtain ⟨j, ls, dn, hj, hj100, rfl, hg, hz, hw, hd, hsum, hk⟩ := hrel
        by_cases hlt : j < l1.length
        · by_cases h100 : j < 100
          · obtain ⟨y, hy⟩ : ∃ y, l1[j]? = some y := ⟨_, List.getElem?_eq_getElem hlt⟩
            obtain ⟨g, o, cp', e1, hgF, -, hq1, hq2, hyk, c0, c1, c2, c3, c4, c5⟩ := sees_step (HS1.out.move (w' := wr) (G := fun q => q < w.heap.size) hk.size (fun q hq hl => ⟨hq, hk.block q hl (fun c => c)⟩)) hy
            simp only [Value.slice.injEq, true_and] at e1
            obtain ⟨rfl, rfl⟩ := e1
            obtain ⟨ls', t', lc, it, q, sh, er, hr, hg', hE, hN⟩ := pick_law 3 ls hg (y.loc.tmod 12) y.what y.qty
            have hpk : ∀ W : World, ZRep W (out [wr.heap.size, bd, bw] w1.heap.size) z ⟨ten, some (3, ls)⟩ → Calls Try.prog 14 #[.pointer (some ⟨z, 0, none⟩), .int .u16 (y.loc.tmod 12), .int .u8 y.what, .int .i64 y.qty] W fun e w' => e = .returned (.tuple #[.agg #[.int .u16 t', .int .u16 lc, .int .u16 it, .int .i64 q, .int .i64 sh], .int .i64 er]) ∧ Keep (out [wr.heap.size, bd, bw] w1.heap.size) W w' ∧ ZRep w' (fresh (out [wr.heap.size, bd, bw] w1.heap.size) W w') z ⟨ten, some (3, ls')⟩ := fun W hW => by
              have := picked_any z _ (y.loc.tmod 12) y.what y.qty _ W hW (fun x hx => by have := (hg.r x hx).2.2.2; omega)
              rw [hr] at this
              exact this
            have HPK := Lib.hid hpk
            have hszw := hk.size
            have hsd := lt_of_block hd
            have hza : ZRep wr.drew (out [wr.heap.size, bd, bw] w1.heap.size) z ⟨ten, some (3, ls)⟩ := hz.move (fun q hq hl => ⟨⟨hq.1, by have := hq.2; simp at this ⊢; omega⟩, rfl⟩)
            have hzb : ZRep (wr.alloc (.cells #[.int .u16 0, .int .u16 0, .int .u16 0, .int .i64 0, .int .i64 0] 41)).drew (out [wr.heap.size, bd, bw] w1.heap.size) z ⟨ten, some (3, ls)⟩ := hz.move (fun q hq hl => ⟨⟨hq.1, by have := hq.2; simp at this ⊢; omega⟩, Below.heap_alloc _ _ _ hl⟩)
            have HZA := Lib.hid hza
            have HZB := Lib.hid hzb
            have hss : ∀ (W W5 : World), Keep none_ wr W → Keep (out [wr.heap.size, bd, bw] w1.heap.size) W W5 → W5.cell? ⟨g, o + j * 6 + 2, none⟩ = some (.int .u16 y.loc) ∧ W5.cell? ⟨g, o + j * 6 + 3, none⟩ = some (.int .u8 y.what) ∧ W5.cell? ⟨g, o + j * 6 + 4, none⟩ = some (.int .i64 y.qty) := fun W W5 h1 h2 => by
              have hb : ∀ a : Addr, a.block = g → W5.cell? a = wr.cell? a := fun a ha => World.cell?_of_block (by rw [ha]; exact (h2.block g (by have := h1.size; omega) (fun c => by have := c.1; omega)).trans (h1.block g (by omega) (fun c => c)))
              exact ⟨(hb _ rfl).trans c2, (hb _ rfl).trans c3, (hb _ rfl).trans c4⟩
            have HSS := Lib.hid hss
            have hlt' : (j : Int) < l1.length := by omega
            have h100' : (j : Int) < 100 := by omega
            have ho0 := hyk.o.1
            have ho1 := hyk.o.2
            have HHZ := Lib.hid hz
            have HHW := Lib.hid hw
            have HHD := Lib.hid hd
            have HHS := Lib.hid hsum
            have HHK := Lib.hid hk
            have HHG := Lib.hid hg
            have HG' := Lib.hid hg'
            have HE := Lib.hid hE
            have HN := Lib.hid hN
            clear hy hr hpk hza hzb hss hz hw hd hsum hk hg hg' hE hN c0 c1 c5 hyk
            go_upto_region 23 with fail
            go_cut [15, 16] (fun v15 v16 wx => ∃ p, v15 = .pointer (some ⟨p, 0, none⟩) ∧ v16 = .int .i64 er ∧ RAt wx p (.int .u16 t') (.int .u16 lc) (.int .u16 it) (.int .i64 q) (.int .i64 sh) ∧ ZRep wx (out [p, bd, bw] w1.heap.size) z ⟨ten, some (3, ls')⟩ ∧ wx.heap[bw]? = some (.cells (arr 10 (first M)) 59 (0, 0)) ∧ wx.heap[bd]? = some (.cells (arr 10 dn) 59 (0, 0)) ∧ Keep none_ w wx ∧ p ≠ bd ∧ p ≠ bw)
            case first =>
              go_region_held3 (fun W => W.cell? ⟨g, o + j * 6 + 2, none⟩ = some (.int .u16 y.loc) ∧ W.cell? ⟨g, o + j * 6 + 3, none⟩ = some (.int .u8 y.what) ∧ W.cell? ⟨g, o + j * 6 + 4, none⟩ = some (.int .i64 y.qty))
                (first
                  | go_keep
                  | (refine ⟨?_, ?_, ?_⟩ <;> (rw [cell_far (by dsimp only; omega), cell_far (by dsimp only; omega), cell_far (by dsimp only; omega), cell_far (by dsimp only; omega), cell_far (by dsimp only; omega)]; assumption)))
                (first
                  | (go_at_call 14; (with_reducible refine (HPK.out _ HZA.out).mono ?_); rintro e w6 ⟨rfl, hk6, hz6⟩; obtain ⟨f1, f2, f3⟩ := HSS.out _ _ (Keep.refl _ _).drew hk6; have HK6 := Lib.hid hk6; have HZ6 := Lib.hid hz6; clear hk6 hz6)
                  | (go_at_call 14; (with_reducible refine (HPK.out _ HZB.out).mono ?_); rintro e w6 ⟨rfl, hk6, hz6⟩; obtain ⟨f1, f2, f3⟩ := HSS.out _ _ ((Keep.refl _ _).alloc _).drew hk6; have hra : RAt w6 wr.heap.size (.int .u16 0) (.int .u16 0) (.int .u16 0) (.int .i64 0) (.int .i64 0) := (⟨box_out (w := (wr.alloc (.cells #[.int .u16 0, .int .u16 0, .int .u16 0, .int .i64 0, .int .i64 0] 41)).drew) (heap_alloc_new wr (.cells #[.int .u16 0, .int .u16 0, .int .u16 0, .int .i64 0, .int .i64 0] 41)) (List.mem_cons_self ..) hk6⟩); obtain ⟨r0, r1, r2, r3, r4, q0, q1, q2, q3, q4⟩ := hra.cells; have HRA := Lib.hid hra; have HK6 := Lib.hid hk6; have HZ6 := Lib.hid hz6; clear hk6 hz6 hra))
              · go_wp2_with fail
                go_meet
                have hs6 := HK6.out.size
                simp only [World.size_drew] at hs6
                refine ⟨w6.heap.size, rfl, rfl, ⟨heap_alloc_new _ _⟩, ?_, ?_, ?_, ?_, by omega, by omega⟩
                · refine HZ6.out.move (fun q hq hl => ⟨?_, Below.heap_alloc _ _ _ hl⟩)
                  rcases hq with hq | hq
                  · exact ⟨hq.1, by have := hq.2; simp at this ⊢; omega⟩
                  · have := hq.1
                    simp only [World.size_drew] at this
                    exact ⟨by omega, by simp; omega⟩
                · exact (Below.heap_alloc _ _ _ (by omega)).trans (box_out (w := wr.drew) HHW.out (by simp) HK6.out)
                · exact (Below.heap_alloc _ _ _ (by omega)).trans (box_out (w := wr.drew) HHD.out (by simp) HK6.out)
                · exact ((HHK.out.drew).trans (HK6.out.mono (fun q c => .inr (by have := c.1; omega)))).alloc _
              · go_wp2_with fail
                go_meet
                have hs6 := HK6.out.size
                simp only [World.size_drew, World.size_alloc] at hs6
                change ∃ p, _ ∧ _ ∧ RAt (put5 w6 wr.heap.size (.int .u16 t') (.int .u16 lc) (.int .u16 it) (.int .i64 q) (.int .i64 sh)) p _ _ _ _ _ ∧ ZRep (put5 w6 wr.heap.size (.int .u16 t') (.int .u16 lc) (.int .u16 it) (.int .i64 q) (.int .i64 sh)) _ _ _ ∧ (put5 w6 wr.heap.size (.int .u16 t') (.int .u16 lc) (.int .u16 it) (.int .i64 q) (.int .i64 sh)).heap[bw]? = _ ∧ (put5 w6 wr.heap.size (.int .u16 t') (.int .u16 lc) (.int .u16 it) (.int .i64 q) (.int .i64 sh)).heap[bd]? = _ ∧ Keep none_ w (put5 w6 wr.heap.size (.int .u16 t') (.int .u16 lc) (.int .u16 it) (.int .i64 q) (.int .i64 sh)) ∧ _ ∧ _
                refine ⟨wr.heap.size, rfl, rfl, ⟨put5_heap HRA.out.hb _ _ _ _ _⟩, ?_, ?_, ?_, ?_, by omega, by omega⟩
                · refine HZ6.out.move (fun q hq hl => ⟨?_, put5_far _ _ _ ?_ _ _ _ _ _⟩)
                  · rcases hq with hq | hq
                    · exact hq
                    · have := hq.1
                      simp only [World.size_drew, World.size_alloc] at this
                      exact ⟨by omega, by simp; omega⟩
                  · rcases hq with hq | hq
                    · have := hq.2; simp at this; omega
                    · have := hq.1
                      simp only [World.size_drew, World.size_alloc] at this
                      omega
                · exact (put5_far _ _ _ (by omega) _ _ _ _ _).trans (box_out (w := (wr.alloc (.cells #[.int .u16 0, .int .u16 0, .int .u16 0, .int .i64 0, .int .i64 0] 41)).drew) ((Below.heap_alloc _ _ _ (by omega)).trans HHW.out) (by simp) HK6.out)
                · exact (put5_far _ _ _ (by omega) _ _ _ _ _).trans (box_out (w := (wr.alloc (.cells #[.int .u16 0, .int .u16 0, .int .u16 0, .int .i64 0, .int .i64 0] 41)).drew) ((Below.heap_alloc _ _ _ (by omega)).trans HHD.out) (by simp) HK6.out)
                · exact put5_keep (((HHK.out.alloc _).drew).trans (HK6.out.mono (fun q c => .inr (by have := c.1; omega)))) (.inl (by omega)) _ _ _ _ _
            case rest =>
              obtain ⟨p, rfl, rfl, hra, hz, hw, hd, hk, hpd, hpw⟩ := hcut
              obtain ⟨r0, r1, r2, r3, r4, q0, q1, q2, q3, q4⟩ := hra.cells
              have hszp := lt_of_block hra.hb
              have HRA := Lib.hid hra
              have HZ := Lib.hid hz
              have HW := Lib.hid hw
              have HD := Lib.hid hd
              have HK := Lib.hid hk
              clear hra hz hw hd hk HHZ HHW HHD HHK HZA HZB HPK HSS
              go_upto_if 110 with fail
              go_cut [] (fun wx => ∃ dn' : Nat → Int, ZRep wx (out [p, bd, bw] w1.heap.size) z ⟨ten, some (3, ls')⟩ ∧ wx.heap[bw]? = some (.cells (arr 10 (first M)) 59 (0, 0)) ∧ wx.heap[bd]? = some (.cells (arr 10 dn') 59 (0, 0)) ∧ (∀ c, lft ls' c + dn' c = first M c ∧ 0 ≤ dn' c) ∧ Keep none_ w wx)
              case first =>
                by_cases he : er = 0
                · have heb : (er == 0) = true := by simp [he]
                  obtain ⟨hE1, hE2, hE3, hE4, hE5, hE6⟩ := HE.out he
                  obtain ⟨d, hd⟩ : ∃ d : Nat, lc = d := ⟨lc.toNat, by omega⟩
                  subst hd
                  subst hE1
                  have hd10 : d < 10 := by omega
                  have hl1 : decide (10 ≤ (d : Int)) = false := by simp; omega
                  have hl2 : decide (q < 0) = false := by simpa using hE4
                  have hl3 : decide (sh < 0) = false := by simpa using hE5
                  have b1 := arr_cell HD.out hd10
                  have hsm := (HHS.out d)
                  have hs2 := hE6 d
                  simp only [Int.toNat_natCast, if_true] at hs2
                  have hlb := lft_bound HG'.out d
                  have hlb2 := lft_bound HHG.out d
                  have hfm := first_bound M d HCR.out
                  have hdn1 : dn d ≤ 9999 := by omega
                  have hdn0 := hsm.2
                  have hq9 : q + sh ≤ 9999 := by omega
                  have hd10i : (d : Int) < 10 := by omega
                  obtain ⟨b1, b2⟩ := b1
                  have HE6 := Lib.hid hE6
                  have HD10 := Lib.hid hd10
                  clear he hE6 hsm hs2 hlb hlb2 hfm hd10
                  have e1 : IntKind.i64.wrap (dn d + q) = dn d + q := by rw [IntKind.wrap_i64]; omega
                  have e2 : IntKind.i64.wrap (dn d + q + sh) = dn d + q + sh := by rw [IntKind.wrap_i64]; omega
                  go_wp2
                  refine wp_sch [(0, 0), (0, 1), (0, 2), (0, 3), (0, 4), (0, 5), (0, 6), (0, 7), (0, 8), (0, 9), (0, 10), (0, 11), (0, 12), (2, 13)] [13] (fun W => W.cell? ⟨p, 1, none⟩ = some (.int .u16 (d : Int)) ∧ W.cell? ⟨p, 3, none⟩ = some (.int .i64 q) ∧ W.cell? ⟨p, 4, none⟩ = some (.int .i64 sh) ∧ W.cell? ⟨bd, d, none⟩ = some (.int .i64 (dn d))) (by kernel_rfl) (by kernel_rfl) (by kernel_rfl) (fun _ _ d _ _ h => by cases d <;> exact h) ⟨r1, r3, r4, b1⟩ ?_
                  iterate 13
                    refine sch_yield (v := ?_) rfl rfl (by rfl) ?_ ?_
                    rotate_left
                    · intro W hS
                      obtain ⟨hS1, hS2, hS3, hS4⟩ := hS
                      go_simp
                      try with_reducible rfl
                    simp only [Act.put, List.setIfInBounds_toArray, List.set_cons_zero, List.set_cons_succ]
                  refine sch_store rfl (fun K hK => ?_)
                  go_simp
                  refine hK _ _ (sch_done ?_)
                  clear hK K
                  try simp only [Act.put, List.setIfInBounds_toArray, List.set_cons_zero, List.set_cons_succ]
                  go_wp2_with fail
                  go_meet
                  refine ⟨upd dn d (dn d + q + sh), ?_, ?_, ?_, ?_, ?_⟩
                  · exact HZ.out.move (fun x hx _ => ⟨hx, Below.heap_setCell _ _ _ _ (fun e => hx.2 (by rw [e]; simp))⟩)
                  · exact (Below.heap_setCell wc ⟨bd, d, none⟩ _ bw (by show bw ≠ bd; omega)).trans HW.out
                  · exact arr_store HD.out HD10.out _
                  · intro c
                    have h1 := HE6.out c
                    have h2 := HHS.out c
                    simp only [Int.toNat_natCast] at h1
                    unfold upd
                    by_cases hc : c = d
                    · subst hc
                      rw [if_pos rfl] at h1 ⊢
                      omega
                    · rw [if_neg (fun e => hc e.symm)] at h1
                      rw [if_neg hc]
                      omega
                  · exact HK.out.drew.setCell (p := ⟨bd, d, none⟩) (.inl (by show w.heap.size ≤ bd; omega)) _
                · have heb : (er == 0) = false := by simp [he]
                  have hls := HN.out he
                  subst hls
                  clear he
                  go_wp2
                  go_meet
                  exact ⟨dn, HZ.out, HW.out, HD.out, HHS.out, HK.out⟩
              case rest =>
                obtain ⟨dn', hz, hw, hd, hsum, hk⟩ := hcut
                have hl7 := lt_of_block hw
                have hl8 := lt_of_block hd
                have hz7 := hz.push (.cells #[.int .i64 0, .int .i64 0, .int .i64 0, .int .i64 0, .int .i64 0, .int .i64 0, .int .i64 0, .int .i64 0, .int .i64 0, .int .i64 0] 59)
                obtain ⟨V, hV, hVR⟩ := hz7.field
                have HW7 := Lib.hid (wants_any V _ _ _ hVR (by show ls'.length * 16 ≤ _; have := good_len HG'.out; omega))
                have HHZ := Lib.hid hz7
                have HHK := Lib.hid (hk.alloc (.cells #[.int .i64 0, .int .i64 0, .int .i64 0, .int .i64 0, .int .i64 0, .int .i64 0, .int .i64 0, .int .i64 0, .int .i64 0, .int .i64 0] 59))
                have HHB := Lib.hid ((Below.heap_alloc wc (.cells #[.int .i64 0, .int .i64 0, .int .i64 0, .int .i64 0, .int .i64 0, .int .i64 0, .int .i64 0, .int .i64 0, .int .i64 0, .int .i64 0] 59) bw hl7).trans hw)
                have HHD := Lib.hid ((Below.heap_alloc wc (.cells #[.int .i64 0, .int .i64 0, .int .i64 0, .int .i64 0, .int .i64 0, .int .i64 0, .int .i64 0, .int .i64 0, .int .i64 0, .int .i64 0] 59) bd hl8).trans hd)
                have HHL := Lib.hid (heap_alloc_new wc (.cells #[.int .i64 0, .int .i64 0, .int .i64 0, .int .i64 0, .int .i64 0, .int .i64 0, .int .i64 0, .int .i64 0, .int .i64 0, .int .i64 0] 59))
                have HS := Lib.hid hsum
                clear hVR hz hw hd hsum hk hz7 HZ HW HD HK HRA r0 r1 r2 r3 r4 q0 q1 q2 q3 q4
                go_wp2_with fail
                refine HW7.out.mono ?_
                rintro e w8 ⟨va, rfl, hk8, ho8⟩
                have hs8 := hk8.size
                simp only [World.size_alloc] at hs8
                have HZ8 : Hid (ZRep w8 (out [wc.heap.size, p, bd, bw] w1.heap.size) z ⟨ten, some (3, ls')⟩) := Lib.hid (HHZ.out.move (fun q hq hl => ⟨hq, hk8.block q hl (fun c => c)⟩))
                have HB8 := Lib.hid ((hk8.block bw (by simp; omega) (fun c => c)).trans HHB.out)
                have HD8 := Lib.hid ((hk8.block bd (by simp; omega) (fun c => c)).trans HHD.out)
                have HL8 : Hid (w8.heap[wc.heap.size]? = some (.cells (arr 10 (fun _ => 0)) 59 (0, 0))) := Lib.hid ((hk8.block wc.heap.size (by simp) (fun c => c)).trans HHL.out)
                have HK8 := Lib.hid (HHK.out.next hk8)
                have HO8 : Hid (Own w8 (fun q => wc.heap.size < q ∧ q < w8.heap.size) 27 3 va ls'.length (lns ls')) := Lib.hid (ho8.move (fun q hq _ => ⟨by rcases hq with h | h; exact h.elim; simp at h; omega, rfl⟩))
                obtain ⟨Av, cv, rfl, -, -⟩ := ho8.len
                have hlw := HHK.out.size
                simp only [World.size_alloc] at hlw
                generalize hlb : wc.heap.size = lb at *
                clear hk8 ho8 HW7 HHZ HHB HHD HHL HHK hV
                have HLEN := Lib.hid (good_len HG'.out)
                simp only [vlines]
                go_upto_block 4 with fail
                go_cut [] (fun wx => ZRep wx (out [lb, p, bd, bw] w1.heap.size) z ⟨ten, some (3, ls')⟩ ∧ wx.heap[bw]? = some (.cells (arr 10 (first M)) 59 (0, 0)) ∧ wx.heap[bd]? = some (.cells (arr 10 dn') 59 (0, 0)) ∧ wx.heap[lb]? = some (.cells (arr 10 (lft ls')) 59 (0, 0)) ∧ Keep none_ w wx)
                case first =>
                  go_wp2_with fail
                  go_loopw [19] (fun i wr => ∃ k : Nat, k ≤ ls'.length ∧ i = .int .i64 k ∧ wr.heap[lb]? = some (.cells (arr 10 (lft (ls'.take k))) 59 (0, 0)) ∧ Keep (fun q => q = lb) w8 wr) (fun i _ => ls'.length - (intOf i).toNat)
                  case atStart => exact ⟨0, Nat.zero_le _, rfl, HL8.out, Keep.refl _ _⟩
                  case round =>
                    obtain ⟨k, hk, rfl, hlbb, hkp⟩ := hrel
                    have HLB := Lib.hid hlbb
                    have HKP := Lib.hid hkp
                    by_cases hkl : k < ls'.length
                    · obtain ⟨x, hx⟩ : ∃ x, ls'[k]? = some x := ⟨_, List.getElem?_eq_getElem hkl⟩
                      have hxr := HG'.out.r x (List.mem_of_getElem? hx)
                      obtain ⟨hx1, hx2⟩ := lft_take HG'.out hx
                      obtain ⟨gv, ov, cv', e1, -, -, hq1, hq2, c0, c1, c2⟩ := sees_line (HO8.out.sees.move (w' := wr) (G := fun q => lb < q ∧ q < w8.heap.size) hkp.size (fun q hq hl => ⟨hq, hkp.block q hl (by omega)⟩)) hx
                      simp only [Value.slice.injEq] at e1
                      obtain ⟨rfl, -, rfl⟩ := e1
                      obtain ⟨d, hd⟩ : ∃ d : Nat, x.loc = d := ⟨x.loc.toNat, by omega⟩
                      rw [hd] at hxr hx1 hx2 c1
                      simp only [Int.toNat_natCast] at hx1 hx2
                      have hd10 : d < 10 := by omega
                      have b := arr_cell hlbb hd10
                      rw [hx1] at b
                      obtain ⟨b1, b2⟩ := b
                      have t1 : decide (10 ≤ (d : Int)) = false := by simp; omega
                      have t2 : decide (x.qty < 1) = false := by simp; omega
                      have hdi : (d : Int) < 10 := by omega
                      have hkli : (k : Int) < ls'.length := by omega
                      have hk40 : (k : Int) ≤ 40 := by have := HLEN.out; omega
                      have HX2 := Lib.hid hx2
                      have HD10 := Lib.hid hd10
                      clear hx hxr hx1 hx2 hd hd10 hlbb hkp
                      go_wp2
                      refine wp_sch [(0, 0), (0, 1), (0, 2), (0, 3), (0, 4), (0, 5), (0, 6), (0, 7), (0, 8), (0, 9), (0, 10), (2, 11)] [11] (fun W => W.cell? ⟨gv, ov + k * 3 + 1, none⟩ = some (.int .u16 (d : Int)) ∧ W.cell? ⟨gv, ov + k * 3 + 2, none⟩ = some (.int .i64 x.qty) ∧ W.cell? ⟨lb, d, none⟩ = some (.int .i64 0)) (by kernel_rfl) (by kernel_rfl) (by kernel_rfl) (fun _ _ d _ _ h => by cases d <;> exact h) ⟨c1, c2, b1⟩ ?_
                      iterate 11
                        refine sch_yield (v := ?_) rfl rfl (by rfl) ?_ ?_
                        rotate_left
                        · intro W hS
                          obtain ⟨hS1, hS2, hS3⟩ := hS
                          go_simp
                          try with_reducible rfl
                        simp only [Act.put, List.setIfInBounds_toArray, List.set_cons_zero, List.set_cons_succ]
                      refine sch_store rfl (fun K hK => ?_)
                      go_simp
                      refine hK _ _ (sch_done ?_)
                      clear hK K
                      try simp only [Act.put, List.setIfInBounds_toArray, List.set_cons_zero, List.set_cons_succ]
                      go_wp2
                      refine ⟨⟨k + 1, by omega, by go_num, ?_, ?_⟩, by simp [intOf]; omega⟩
                      · rw [HX2.out]; exact arr_store HLB.out HD10.out _
                      · exact HKP.out.drew.setCell (p := ⟨lb, d, none⟩) (.inr rfl) _
                    · have hkk : k = ls'.length := by omega
                      have HKK := Lib.hid hkk
                      clear hkk hlbb hkp
                      go_wp2
                      go_meet
                      have e : ls'.take k = ls' := by rw [HKK.out, List.take_length]
                      rw [e] at HLB
                      exact ⟨HZ8.out.move (fun q hq hl => ⟨hq, HKP.out.block q hl (fun e => hq.2 (by rw [e]; simp))⟩), (HKP.out.block bw (lt_of_block HB8.out) (by omega)).trans HB8.out, (HKP.out.block bd (lt_of_block HD8.out) (by omega)).trans HD8.out, HLB.out, HK8.out.trans (HKP.out.mono (fun q h => .inr (by omega)))⟩
                case rest =>
                  obtain ⟨hz, hw, hd, hl, hk⟩ := hcut
                  have HZ := Lib.hid hz
                  have HW := Lib.hid hw
                  have HD := Lib.hid hd
                  have HL := Lib.hid hl
                  have HK := Lib.hid hk
                  clear hz hw hd hl hk HZ8 HB8 HD8 HL8 HK8 HO8
                  go_upto_block 6 with fail
                  go_cut [] (fun wx => ∃ n, wx = wc.drewN n)
                  case first =>
                    go_wp2_with fail
                    go_loopw [20] (fun i wr => ∃ k : Nat, k ≤ 10 ∧ i = .int .i64 k ∧ ∃ n, wr = wc.drewN n) (fun i _ => 10 - (intOf i).toNat)
                    case atStart => exact ⟨0, by omega, rfl, 0, rfl⟩
                    case round =>
                      obtain ⟨k, hk, rfl, nn, rfl⟩ := hrel
                      by_cases hk10 : k < 10
                      · have b1 := (arr_cell HW.out hk10).1
                        have b2 := (arr_cell HD.out hk10).1
                        have b3 := (arr_cell HL.out hk10).1
                        have hs1 := HS.out k
                        have hl1 := lft_bound HG'.out k
                        have hf1 := first_bound M k HCR.out
                        have e1 : IntKind.i64.wrap (lft ls' k + dn' k) = lft ls' k + dn' k := by rw [IntKind.wrap_i64]; omega
                        have e2 : (lft ls' k + dn' k != first M k) = false := by rw [hs1.1]; simp
                        have hki : (k : Int) < 10 := by omega
                        have h10 : (k : Int) ≤ 10 := by omega
                        clear hs1 hl1 hf1
                        go_wp2
                        go_quiet (fail)
                        go_wp2
                        refine ⟨⟨k + 1, by omega, by go_num, nn + nq, by first | rfl | (rw [World.drewN_drewN])⟩, by simp [intOf]; omega⟩
                      · have hkk : k = 10 := by omega
                        subst hkk
                        go_wp2
                        go_meet
                        exact ⟨nn, rfl⟩
                  case rest =>
                    obtain ⟨nn, hwx⟩ := hcut
                    have hz9 := HZ.out.move (w' := wc) (G := out [bd, bw] w1.heap.size) (fun q hq _ => ⟨⟨hq.1, fun c => hq.2 (by simp at c ⊢; omega)⟩, by rw [hwx]; rfl⟩)
                    obtain ⟨V9, hV9, hVR9⟩ := hz9.field
                    have HO9 := Lib.hid (over_any V9 _ _ _ hVR9)
                    obtain ⟨b9, hov9⟩ : ∃ b, overB (ZS.visit ⟨ten, some (3, ls')⟩) = b := ⟨_, rfl⟩
                    have hbb9 : ((ls'.length : Int) == 0) = b9 := by rw [← hov9]; rfl
                    have HZ9 := Lib.hid hz9
                    have HW9 : Hid (wc.heap[bw]? = some (.cells (arr 10 (first M)) 59 (0, 0))) := by rw [hwx]; exact HW.out
                    have HD9 : Hid (wc.heap[bd]? = some (.cells (arr 10 dn') 59 (0, 0))) := by rw [hwx]; exact HD.out
                    have HK9 : Hid (Keep none_ w wc) := by rw [hwx]; exact HK.out.drewN nn
                    clear hwx hz9 hVR9
                    go_wp2_with fail
                    refine HO9.out.mono ?_
                    rintro e w10 ⟨rfl, rfl⟩
                    clear HO9
                    go_wp2
                    refine ⟨⟨j + 1, ls', dn', by omega, by omega, by go_num, HG'.out, HZ9.out, HW9.out, HD9.out, HS.out, HK9.out⟩, by simp [intOf]; omega⟩
          · have hjj : j = 100 := by omega
            have hlt' : (j : Int) < l1.length := by omega
            have HJ := Lib.hid hjj
            have HZ := Lib.hid hz
            have HK := Lib.hid hk
            have h100' : ¬ (j : Int) < 100 := by omega
            clear hjj hz hk hw hd hsum
            go_wp2
            go_meet
            exact ⟨ls, hg, HZ.out, HK.out⟩
        · have HZ := Lib.hid hz
          have HK := Lib.hid hk
          clear hz hk hw hd hsum
          go_wp2
          go_meet
          exact ⟨ls, hg, HZ.out, HK.out⟩
    case rest =>
      obtain ⟨ls, hg, hz, hk⟩ := hcut
      obtain ⟨V, hV, hVR⟩ := hz.field
      have HO := Lib.hid (over_any V _ _ _ hVR)
      have HZ := Lib.hid hz
      have HK := Lib.hid hk
      clear hVR hz hk hg HG0 HF0
      by_cases hls : ls = []
      · subst hls
        have hov : overB (ZS.visit ⟨ten, some (3, [])⟩) = true := rfl
        go_wp2_with fail
        refine HO.out.mono ?_
        rintro e w10 ⟨rfl, rfl⟩
        clear HO hV
        go_wp2_with fail
        refine (leave_out [bd, bw] w1.heap.size z _ ⟨ten, none⟩ (.tuple #[.int .u16 3, .int .i64 0]) _ HZ.out (by rfl)).mono ?_
        rintro e w11 ⟨rfl, hk11, hz11⟩
        obtain ⟨V11, hV11, hVR11⟩ := hz11.field
        have HT : Hid (Calls Try.prog 20 #[V11] w11 fun e w' => e = .returned (.tuple #[.int .u16 0, .bool false]) ∧ w11 = w') := tote_any V11 _ _ _ hVR11
        have HK11 : Hid (Keep none_ w w11) := Lib.hid (HK.out.trans (hk11.mono (fun q h => .inr (by have := h.1; omega))))
        clear hk11 hz11 hVR11
        go_wp2_with fail
        refine HT.out.mono ?_
        rintro e w12 ⟨rfl, rfl⟩
        go_wp2
        go_ret
        exact ⟨rfl, HK11.out⟩
      · have hov : overB (ZS.visit ⟨ten, some (3, ls)⟩) = false := by
          show decide _ = false
          simp only [decide_eq_false_iff_not]
          intro h
          exact hls (List.eq_nil_of_length_eq_zero (by omega))
        have hlv : ZS.leave ⟨ten, some (3, ls)⟩ = (⟨ten, some (3, ls)⟩, .tuple #[.int .u16 0, .int .i64 7]) := by
          unfold ZS.leave
          rw [if_neg (by rw [hov]; simp)]
        have HLV := Lib.hid hlv
        clear hls hlv
        go_wp2_with fail
        refine HO.out.mono ?_
        rintro e w10 ⟨rfl, rfl⟩
        clear HO hV
        go_wp2_with fail
        refine (leave_out [bd, bw] w1.heap.size z _ _ _ _ HZ.out HLV.out).mono ?_
        rintro e w11 ⟨rfl, hk11, hz11⟩
        obtain ⟨V11, hV11, hVR11⟩ := hz11.field
        have HT : Hid (Calls Try.prog 20 #[V11] w11 fun e w' => e = .returned (.tuple #[.int .u16 3, .bool true]) ∧ w11 = w') := tote_any V11 _ _ _ hVR11
        have HK11 : Hid (Keep none_ w w11) := Lib.hid (HK.out.trans (hk11.mono (fun q h => .inr (by have := h.1; omega))))
        clear hk11 hz11 hVR11
        go_wp2_with fail
        refine HT.out.mono ?_
        rintro e w12 ⟨rfl, rfl⟩
        go_wp2
        go_ret
        exact ⟨rfl, HK11.out⟩
end Go.Proofs.Ytimaaaibpadlpaa
