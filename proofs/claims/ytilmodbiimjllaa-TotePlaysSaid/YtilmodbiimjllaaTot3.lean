import Derived.Test.YtilmodbiimjllaaTot2
namespace Go.Proofs.Ytilmodbiimjllaa
set_option linter.unusedVariables false
set_option linter.unusedSimpArgs false
attribute [local go_sem] rho_const rho_func rho_hit rho_miss
open Go.RowKit

theorem full_any (b o : Nat) (v : Value) (q : List Int) (r : Int) (F : Nat → Prop) (w : World) (hc : w.cell? ⟨b, o, none⟩ = some v) (hr : w.cell? ⟨b, o + 1, none⟩ = some (.int .i64 r)) (hv : Own w F 30 1 v q.length (ints .u16 q)) :
    Calls Try.prog 27 #[.pointer (some ⟨b, o, none⟩)] w fun e w' => e = .returned (.bool (decide (r ≤ q.length))) ∧ Keep none_ w w' := by
  obtain ⟨A, c, rfl, h1, h2⟩ := hv.len
  clear hv
  refine d_calls (n := 13) Try.func27 rfl rfl (by simp) [(0, .pointer (some ⟨b, o, none⟩))] (by simp) ?_
  repeat first
    | apply d_seq
    | with_reducible apply kt_normal
    | apply l_nil
    | apply d_region
    | (apply l_off; (focus rfl); (focus rfl))
    | (apply l_val; (focus rfl); (focus rfl); (focus rfl); (focus (go_simp; (try simp (disch := omega) only [wrap_in, wrap_in', wrap_u16, wrap_u8, wrap_u32, wrap_u64, rem_in, quo_in]); first | done | with_reducible rfl | (constructor <;> with_reducible rfl))))
    | (apply l_store; (focus rfl); (focus rfl); (focus rfl); (focus (go_simp; (try simp (disch := omega) only [wrap_in, wrap_in', wrap_u16, wrap_u8, wrap_u32, wrap_u64, rem_in, quo_in]); first | done | with_reducible rfl | (constructor <;> with_reducible rfl))))
    | apply d_block
    | (apply d_true; (focus rfl); (focus rfl))
    | (apply d_false; (focus rfl); (focus rfl))
    | apply d_skip
    | apply d_exit
    | apply d_ret
    | with_reducible apply kt_ret
    | with_reducible apply kt_exit
    | with_reducible apply kb_normal
    | with_reducible apply kb_ret
    | with_reducible apply kb_here
    | with_reducible apply kl_ret
    | with_reducible apply kl_exit
    | with_reducible apply kc_ret
    | with_reducible apply kc_exit
    | (with_reducible apply kb_there; (focus rfl))
  refine d_draw (true, [([], []), ([0], [0]), ([1], [1]), ([2], [2]), ([3], [3]), ([], []), ([5], [5]), ([6], [6]), ([7], [7]), ([4, 8], [4, 8]), ([9, 0, 1, 2, 3, 4, 5, 6, 7, 8, 9], [9])]) [(0, 0), (0, 1), (0, 2), (0, 3), (0, 4), (0, 5), (0, 6), (0, 7), (0, 8), (0, 9), (0, 10)] [999999] (fun W => W.cell? ⟨b, o, none⟩ = some (.slice A q.length c) ∧ W.cell? ⟨b, o + 1, none⟩ = some (.int .i64 r)) (by kernel_rfl) (by kernel_rfl) (by kernel_rfl) (by kernel_rfl) ⟨hc, hr⟩ ?_
  iterate 11
    first | (apply s_off; (focus rfl); (focus rfl); (focus rfl)) | (apply s_yield; (focus rfl); (focus rfl); (focus rfl); (focus rfl); (focus (intro W hS; obtain ⟨hS1, hS2⟩ := hS; go_simp; (try simp (disch := omega) only [wrap_in, wrap_in', wrap_u16, wrap_u8, wrap_u32, wrap_u64, rem_in, quo_in]); first | done | with_reducible rfl | (constructor <;> with_reducible rfl))))
  refine s_done ?_
  repeat first
    | apply d_seq
    | with_reducible apply kt_normal
    | apply l_nil
    | apply d_region
    | (apply l_off; (focus rfl); (focus rfl))
    | (apply l_val; (focus rfl); (focus rfl); (focus rfl); (focus (go_simp; (try simp (disch := omega) only [wrap_in, wrap_in', wrap_u16, wrap_u8, wrap_u32, wrap_u64, rem_in, quo_in]); first | done | with_reducible rfl | (constructor <;> with_reducible rfl))))
    | (apply l_store; (focus rfl); (focus rfl); (focus rfl); (focus (go_simp; (try simp (disch := omega) only [wrap_in, wrap_in', wrap_u16, wrap_u8, wrap_u32, wrap_u64, rem_in, quo_in]); first | done | with_reducible rfl | (constructor <;> with_reducible rfl))))
    | apply d_block
    | (apply d_true; (focus rfl); (focus rfl))
    | (apply d_false; (focus rfl); (focus rfl))
    | apply d_skip
    | apply d_exit
    | apply d_ret
    | with_reducible apply kt_ret
    | with_reducible apply kt_exit
    | with_reducible apply kb_normal
    | with_reducible apply kb_ret
    | with_reducible apply kb_here
    | with_reducible apply kl_ret
    | with_reducible apply kl_exit
    | with_reducible apply kc_ret
    | with_reducible apply kc_exit
    | (with_reducible apply kb_there; (focus rfl))
  refine ⟨rfl, _, (by first | (simp [resultsG, resOne, Try.results27, rho, List.lookup]; done) | (simp [resultsG, resOne, Try.results27, rho, List.lookup]; rfl)), ?_⟩
  exact ⟨rfl, (Keep.refl _ _).drew⟩
theorem push_any (b o : Nat) (v : Value) (q : List Int) (x : Int) (F : Nat → Prop) (w : World) (hc : w.cell? ⟨b, o, none⟩ = some v) (hf : w.frozen? ⟨b, o, none⟩ = false) (hv : Own w F 30 1 v q.length (ints .u16 q)) (hq : q.length ≤ 100) (hvb : v.ownBlock ≠ some b) :
    Calls Try.prog 28 #[.pointer (some ⟨b, o, none⟩), .int .u16 x] w fun e w' => ∃ v' w1, e = .returned (.tuple #[]) ∧ w' = w1.setCell ⟨b, o, none⟩ v' ∧ Keep (fun k => v.ownBlock = some k) w w1 ∧
      Own w1 (fun k => v.ownBlock = some k ∨ (w.heap.size ≤ k ∧ k < w1.heap.size)) 30 1 v' (q ++ [x]).length (ints .u16 (q ++ [x])) := by
  obtain ⟨i0, hi, hz0, hz1, hz2⟩ := info_parts Try.infoU16
  obtain ⟨g, cap, w1, hr, ho, hg, hgl, hgb⟩ := push_law (P := Try.prog) w 38 30 i0 _ 1 2 Try.underlying38 hi hz0 hz1 hz2 rfl (by decide) F #[.int .u16 x] v q.length (ints .u16 q) hv rfl (by intro u hu; simp only [List.mem_singleton] at hu; subst hu; rfl) (by unfold maxLen; omega) (by omega) 38
  have hK : Keep (fun k => v.ownBlock = some k) w w1 := ((Keep.refl _ w).alloc _).grown hg (fun k hk => .inr hk)
  have hbl := World.block_lt_of_cell? w _ hc
  have hc1 : w1.cell? ⟨b, o, none⟩ = some v := (hK.cell (p := ⟨b, o, none⟩) hbl hvb).trans hc
  have hf1 : w1.frozen? ⟨b, o, none⟩ = false := by
    have e := hK.block b hbl hvb
    have : w1.frozen? ⟨b, o, none⟩ = w.frozen? ⟨b, o, none⟩ := by simp only [World.frozen?, e]
    rw [this]; exact hf
  have HO := Lib.hid ho
  have HK := Lib.hid hK
  obtain ⟨A, c, rfl, h1, h2⟩ := hv.len
  clear hv ho hK hg hgl hgb hi hz0 hz1 hz2 hvb hf
  refine d_calls (n := 14) Try.func28 rfl rfl (by simp) [(0, .pointer (some ⟨b, o, none⟩)), (1, .int .u16 x)] (by simp) ?_
  repeat first
    | apply d_seq
    | with_reducible apply kt_normal
    | apply l_nil
    | apply d_region
    | (apply l_off; (focus rfl); (focus rfl))
    | (apply l_val; (focus rfl); (focus rfl); (focus rfl); (focus (go_simp; (try simp (disch := omega) only [wrap_in, wrap_in', wrap_u16, wrap_u8, wrap_u32, wrap_u64, rem_in, quo_in]); first | done | with_reducible rfl | (constructor <;> with_reducible rfl))))
    | (apply l_store; (focus rfl); (focus rfl); (focus rfl); (focus (go_simp; (try simp (disch := omega) only [wrap_in, wrap_in', wrap_u16, wrap_u8, wrap_u32, wrap_u64, rem_in, quo_in]); first | done | with_reducible rfl | (constructor <;> with_reducible rfl))))
    | apply d_block
    | (apply d_true; (focus rfl); (focus rfl))
    | (apply d_false; (focus rfl); (focus rfl))
    | apply d_skip
    | apply d_exit
    | apply d_ret
    | with_reducible apply kt_ret
    | with_reducible apply kt_exit
    | with_reducible apply kb_normal
    | with_reducible apply kb_ret
    | with_reducible apply kb_here
    | with_reducible apply kl_ret
    | with_reducible apply kl_exit
    | with_reducible apply kc_ret
    | with_reducible apply kc_exit
    | (with_reducible apply kb_there; (focus rfl))
  refine l_val rfl rfl rfl (exec_append (.tmp 8) (.tmp 10) 38 rfl _ _ rfl rfl hr) ?_
  clear hr hc
  repeat first
    | apply d_seq
    | with_reducible apply kt_normal
    | apply l_nil
    | apply d_region
    | (apply l_off; (focus rfl); (focus rfl))
    | (apply l_val; (focus rfl); (focus rfl); (focus rfl); (focus (go_simp; (try simp (disch := omega) only [wrap_in, wrap_in', wrap_u16, wrap_u8, wrap_u32, wrap_u64, rem_in, quo_in]); first | done | with_reducible rfl | (constructor <;> with_reducible rfl))))
    | (apply l_store; (focus rfl); (focus rfl); (focus rfl); (focus (go_simp; (try simp (disch := omega) only [wrap_in, wrap_in', wrap_u16, wrap_u8, wrap_u32, wrap_u64, rem_in, quo_in]); first | done | with_reducible rfl | (constructor <;> with_reducible rfl))))
    | apply d_block
    | (apply d_true; (focus rfl); (focus rfl))
    | (apply d_false; (focus rfl); (focus rfl))
    | apply d_skip
    | apply d_exit
    | apply d_ret
    | with_reducible apply kt_ret
    | with_reducible apply kt_exit
    | with_reducible apply kb_normal
    | with_reducible apply kb_ret
    | with_reducible apply kb_here
    | with_reducible apply kl_ret
    | with_reducible apply kl_exit
    | with_reducible apply kc_ret
    | with_reducible apply kc_exit
    | (with_reducible apply kb_there; (focus rfl))
  refine ⟨rfl, _, (by first | (simp [resultsG, resOne, Try.results28, rho, List.lookup]; done) | (simp [resultsG, resOne, Try.results28, rho, List.lookup]; rfl)), ?_⟩
  refine ⟨_, w1, rfl, rfl, HK.out, ?_⟩
  have := HO.out.move (w' := w1) (G := fun k => (Value.slice A q.length c).ownBlock = some k ∨ (w.heap.size ≤ k ∧ k < w1.heap.size)) (fun k hk hl => ⟨by rcases hk with h | h; exact .inl h; exact .inr ⟨by omega, hl⟩, rfl⟩)
  rw [ints_snoc, List.length_append, List.length_singleton]
  exact this
theorem pop_any (b o : Nat) (v : Value) (y : Int) (q : List Int) (F : Nat → Prop) (w : World) (hc : w.cell? ⟨b, o, none⟩ = some v) (hf : w.frozen? ⟨b, o, none⟩ = false) (hv : Own w F 30 1 v (y :: q).length (ints .u16 (y :: q))) (hq : q.length ≤ 100) :
    Calls Try.prog 33 #[.pointer (some ⟨b, o, none⟩)] w fun e w' => ∃ v' w1, e = .returned (.int .u16 y) ∧ w' = w1.setCell ⟨b, o, none⟩ v' ∧ Keep none_ w w1 ∧ Own w1 (fresh none_ w w1) 30 1 v' q.length (ints .u16 q) := by
  obtain ⟨g, c, rfl, hFg, hgl, h1, h2⟩ := hv.form (by simp)
  have hcl : (y :: q).length = q.length + 1 := rfl
  rw [hcl] at h1 hc hv
  obtain ⟨cur, hb, -, -, hcs, htk⟩ := hv.block
  have hcell : ∀ j u, (ints .u16 (y :: q))[j]? = some u → w.cell? ⟨g, j, none⟩ = some u := by
    intro j u hj
    rw [← htk, List.getElem?_take] at hj
    split at hj
    · simp only [World.cell?, hb]
      simpa using hj
    · simp at hj
  have hy : w.cell? ⟨g, 0, none⟩ = some (.int .u16 y) := hcell 0 _ rfl
  have hs : SeesIn w F 1 (.slice (if c = 1 then some ⟨g, 0, none⟩ else some ⟨g, 1, none⟩) q.length (c - 1)) q.length (ints .u16 q) := by
    refine ⟨_, _, rfl, by omega, by omega, (fun h => by split at h <;> simp at h), by simp [ints], (ints_one .u16 q), fun hn => ⟨g, 1, ?_, hFg, hgl, fun j u hj => ?_⟩⟩
    · rw [if_neg (by omega)]
    · rw [show 1 + j = j + 1 by omega]; exact hcell (j + 1) u hj
  have hbl := World.block_lt_of_cell? w _ hc
  have HC := Lib.hid (cloneI _ q.length (ints .u16 q) F w hs (by omega))
  unfold maxLen at h2
  have hl1 : (1 : Int) ≤ (q.length : Int) + 1 := by omega
  clear hv hb hcs htk hcell hs
  refine d_calls (n := 20) Try.func33 rfl rfl (by simp) [(0, .pointer (some ⟨b, o, none⟩))] (by simp) ?_
  repeat first
    | apply d_seq
    | with_reducible apply kt_normal
    | apply l_nil
    | apply d_region
    | (apply l_off; (focus rfl); (focus rfl))
    | (apply l_val; (focus rfl); (focus rfl); (focus rfl); (focus (go_simp; (try simp (disch := omega) only [wrap_in, wrap_in', wrap_u16, wrap_u8, wrap_u32, wrap_u64, rem_in, quo_in]); first | done | with_reducible rfl | (constructor <;> with_reducible rfl))))
    | (apply l_store; (focus rfl); (focus rfl); (focus rfl); (focus (go_simp; (try simp (disch := omega) only [wrap_in, wrap_in', wrap_u16, wrap_u8, wrap_u32, wrap_u64, rem_in, quo_in]); first | done | with_reducible rfl | (constructor <;> with_reducible rfl))))
    | apply d_block
    | (apply d_true; (focus rfl); (focus rfl))
    | (apply d_false; (focus rfl); (focus rfl))
    | apply d_skip
    | apply d_exit
    | apply d_ret
    | with_reducible apply kt_ret
    | with_reducible apply kt_exit
    | with_reducible apply kb_normal
    | with_reducible apply kb_ret
    | with_reducible apply kb_here
    | with_reducible apply kl_ret
    | with_reducible apply kl_exit
    | with_reducible apply kc_ret
    | with_reducible apply kc_exit
    | (with_reducible apply kb_there; (focus rfl))
  refine l_call rfl rfl rfl (by first | (go_simp; done) | (go_simp; rfl)) (HC.out) ?_
  rintro e w1 ⟨v', rfl, hk, ho⟩
  have hc1 : w1.cell? ⟨b, o, none⟩ = some _ := (hk.cell (p := ⟨b, o, none⟩) hbl (fun c => c)).trans hc
  have hf1 : w1.frozen? ⟨b, o, none⟩ = false := by
    have e := hk.block b hbl (fun c => c)
    have : w1.frozen? ⟨b, o, none⟩ = w.frozen? ⟨b, o, none⟩ := by simp only [World.frozen?, e]
    rw [this]; exact hf
  obtain ⟨A', c', rfl, -, -⟩ := ho.len
  have HO := Lib.hid (And.intro hk ho)
  clear hk ho hc hf HC
  refine ⟨_, rfl, ?_⟩
  repeat first
    | apply d_seq
    | with_reducible apply kt_normal
    | apply l_nil
    | apply d_region
    | (apply l_off; (focus rfl); (focus rfl))
    | (apply l_val; (focus rfl); (focus rfl); (focus rfl); (focus (go_simp; (try simp (disch := omega) only [wrap_in, wrap_in', wrap_u16, wrap_u8, wrap_u32, wrap_u64, rem_in, quo_in]); first | done | with_reducible rfl | (constructor <;> with_reducible rfl))))
    | (apply l_store; (focus rfl); (focus rfl); (focus rfl); (focus (go_simp; (try simp (disch := omega) only [wrap_in, wrap_in', wrap_u16, wrap_u8, wrap_u32, wrap_u64, rem_in, quo_in]); first | done | with_reducible rfl | (constructor <;> with_reducible rfl))))
    | apply d_block
    | (apply d_true; (focus rfl); (focus rfl))
    | (apply d_false; (focus rfl); (focus rfl))
    | apply d_skip
    | apply d_exit
    | apply d_ret
    | with_reducible apply kt_ret
    | with_reducible apply kt_exit
    | with_reducible apply kb_normal
    | with_reducible apply kb_ret
    | with_reducible apply kb_here
    | with_reducible apply kl_ret
    | with_reducible apply kl_exit
    | with_reducible apply kc_ret
    | with_reducible apply kc_exit
    | (with_reducible apply kb_there; (focus rfl))
  refine ⟨rfl, _, (by first | (simp [resultsG, resOne, Try.results33, rho, List.lookup]; done) | (simp [resultsG, resOne, Try.results33, rho, List.lookup]; rfl)), ?_⟩
  exact ⟨_, w1, rfl, rfl, HO.out.1, HO.out.2⟩

/-! zones -/
def TS.zone (s : TS) (z : Int) : Option Nat := if 0 ≤ z ∧ z < s.qs.length then some z.toNat else none
def TS.row (s : TS) (i : Nat) : List Int := (s.qs[i]?).getD []
def zptr (zb : Nat) (o : Option Nat) : Value := .pointer (o.map fun i => ⟨zb, i * 2, none⟩)
theorem zone_any (t zb : Nat) (s : TS) (z : Int) (F : Nat → Prop) (w : World) (h : TRep w F t zb s) :
    Calls Try.prog 26 #[.pointer (some ⟨t, 0, none⟩), .int .i64 z] w fun e w' => e = .returned (zptr zb (s.zone z)) ∧ w = w' := by
  obtain ⟨vs, h⟩ := h
  obtain ⟨c0, -⟩ := blk1 h.tb
  have h8 := h.good.n8
  clear h
  by_cases h1 : z < 0
  · have e : s.zone z = none := by unfold TS.zone; rw [if_neg (by omega)]
    rw [e]
    have q1 : decide (z < 0) = true := by simpa using h1
    refine d_calls (n := 22) Try.func26 rfl rfl (by simp) [(0, .pointer (some ⟨t, 0, none⟩)), (1, .int .i64 z)] (by simp) ?_
    repeat first
      | apply d_seq
      | with_reducible apply kt_normal
      | apply l_nil
      | apply d_region
      | (apply l_off; (focus rfl); (focus rfl))
      | (apply l_val; (focus rfl); (focus rfl); (focus rfl); (focus (go_simp; (try simp (disch := omega) only [wrap_in, wrap_in', wrap_u16, wrap_u8, wrap_u32, wrap_u64, rem_in, quo_in]); first | done | with_reducible rfl | (constructor <;> with_reducible rfl))))
      | (apply l_store; (focus rfl); (focus rfl); (focus rfl); (focus (go_simp; (try simp (disch := omega) only [wrap_in, wrap_in', wrap_u16, wrap_u8, wrap_u32, wrap_u64, rem_in, quo_in]); first | done | with_reducible rfl | (constructor <;> with_reducible rfl))))
      | apply d_block
      | (apply d_true; (focus rfl); (focus rfl))
      | (apply d_false; (focus rfl); (focus rfl))
      | apply d_skip
      | apply d_exit
      | apply d_ret
      | with_reducible apply kt_ret
      | with_reducible apply kt_exit
      | with_reducible apply kb_normal
      | with_reducible apply kb_ret
      | with_reducible apply kb_here
      | with_reducible apply kl_ret
      | with_reducible apply kl_exit
      | with_reducible apply kc_ret
      | with_reducible apply kc_exit
      | (with_reducible apply kb_there; (focus rfl))
    refine ⟨rfl, _, (by first | (simp [resultsG, resOne, Try.results26, rho, List.lookup]; done) | (simp [resultsG, resOne, Try.results26, rho, List.lookup]; rfl)), ?_⟩
    exact ⟨rfl, rfl⟩
  · have q1 : decide (z < 0) = false := by simpa using h1
    by_cases h2 : (s.qs.length : Int) ≤ z
    · have e : s.zone z = none := by unfold TS.zone; rw [if_neg (by omega)]
      rw [e]
      have q2 : decide (z ≥ s.qs.length) = true := by simpa using h2
      refine d_calls (n := 22) Try.func26 rfl rfl (by simp) [(0, .pointer (some ⟨t, 0, none⟩)), (1, .int .i64 z)] (by simp) ?_
      repeat first
        | apply d_seq
        | with_reducible apply kt_normal
        | apply l_nil
        | apply d_region
        | (apply l_off; (focus rfl); (focus rfl))
        | (apply l_val; (focus rfl); (focus rfl); (focus rfl); (focus (go_simp; (try simp (disch := omega) only [wrap_in, wrap_in', wrap_u16, wrap_u8, wrap_u32, wrap_u64, rem_in, quo_in]); first | done | with_reducible rfl | (constructor <;> with_reducible rfl))))
        | (apply l_store; (focus rfl); (focus rfl); (focus rfl); (focus (go_simp; (try simp (disch := omega) only [wrap_in, wrap_in', wrap_u16, wrap_u8, wrap_u32, wrap_u64, rem_in, quo_in]); first | done | with_reducible rfl | (constructor <;> with_reducible rfl))))
        | apply d_block
        | (apply d_true; (focus rfl); (focus rfl))
        | (apply d_false; (focus rfl); (focus rfl))
        | apply d_skip
        | apply d_exit
        | apply d_ret
        | with_reducible apply kt_ret
        | with_reducible apply kt_exit
        | with_reducible apply kb_normal
        | with_reducible apply kb_ret
        | with_reducible apply kb_here
        | with_reducible apply kl_ret
        | with_reducible apply kl_exit
        | with_reducible apply kc_ret
        | with_reducible apply kc_exit
        | (with_reducible apply kb_there; (focus rfl))
      refine ⟨rfl, _, (by first | (simp [resultsG, resOne, Try.results26, rho, List.lookup]; done) | (simp [resultsG, resOne, Try.results26, rho, List.lookup]; rfl)), ?_⟩
      exact ⟨rfl, rfl⟩
    · obtain ⟨i, rfl⟩ : ∃ i : Nat, z = i := ⟨z.toNat, by omega⟩
      have e : s.zone i = some i := by unfold TS.zone; rw [if_pos (by omega)]; simp
      rw [e]
      have h3 : i < s.qs.length := by omega
      have q2 : decide ((i : Int) ≥ s.qs.length) = false := by simp; omega
      have q3 : decide ((s.qs.length : Int) ≤ i) = false := by simp; omega
      refine d_calls (n := 22) Try.func26 rfl rfl (by simp) [(0, .pointer (some ⟨t, 0, none⟩)), (1, .int .i64 i)] (by simp) ?_
      repeat first
        | apply d_seq
        | with_reducible apply kt_normal
        | apply l_nil
        | apply d_region
        | (apply l_off; (focus rfl); (focus rfl))
        | (apply l_val; (focus rfl); (focus rfl); (focus rfl); (focus (go_simp; (try simp (disch := omega) only [wrap_in, wrap_in', wrap_u16, wrap_u8, wrap_u32, wrap_u64, rem_in, quo_in]); first | done | with_reducible rfl | (constructor <;> with_reducible rfl))))
        | (apply l_store; (focus rfl); (focus rfl); (focus rfl); (focus (go_simp; (try simp (disch := omega) only [wrap_in, wrap_in', wrap_u16, wrap_u8, wrap_u32, wrap_u64, rem_in, quo_in]); first | done | with_reducible rfl | (constructor <;> with_reducible rfl))))
        | apply d_block
        | (apply d_true; (focus rfl); (focus rfl))
        | (apply d_false; (focus rfl); (focus rfl))
        | apply d_skip
        | apply d_exit
        | apply d_ret
        | with_reducible apply kt_ret
        | with_reducible apply kt_exit
        | with_reducible apply kb_normal
        | with_reducible apply kb_ret
        | with_reducible apply kb_here
        | with_reducible apply kl_ret
        | with_reducible apply kl_exit
        | with_reducible apply kc_ret
        | with_reducible apply kc_exit
        | (with_reducible apply kb_there; (focus rfl))
      refine ⟨rfl, _, (by first | (simp [resultsG, resOne, Try.results26, rho, List.lookup]; done) | (simp [resultsG, resOne, Try.results26, rho, List.lookup]; rfl)), ?_⟩
      exact ⟨rfl, rfl⟩
/-- A zone that there is. -/
theorem TS.zone_some {s : TS} {z : Int} {i : Nat} (h : s.zone z = some i) : s.qs[i]? = some (s.row i) ∧ z = i := by
  unfold TS.zone at h
  split at h
  · rename_i c
    simp only [Option.some.injEq] at h
    subst h
    have : z.toNat < s.qs.length := by omega
    refine ⟨?_, by omega⟩
    unfold TS.row
    rw [List.getElem?_eq_getElem this]; rfl
  · simp at h
theorem first_any (t zb : Nat) (s : TS) (z : Int) (F : Nat → Prop) (w : World) (h : TRep w F t zb s) :
    Calls Try.prog 32 #[.pointer (some ⟨t, 0, none⟩), .int .i64 z] w fun e w' => e = .returned (match s.zone z with | none => .tuple #[.pointer none, .int .i64 1] | some i => match s.row i with | [] => .tuple #[.pointer none, .int .i64 6] | _ :: _ => .tuple #[zptr zb (some i), .int .i64 0]) ∧ w = w' := by
  have HC := Lib.hid (zone_any t zb s z F w h)
  cases hz : s.zone z with
  | none =>
    rw [hz] at HC
    clear h hz
    refine d_calls (n := 21) Try.func32 rfl rfl (by simp) [(0, .pointer (some ⟨t, 0, none⟩)), (1, .int .i64 z)] (by simp) ?_
    repeat first
      | apply d_seq
      | with_reducible apply kt_normal
      | apply l_nil
      | apply d_region
      | (apply l_off; (focus rfl); (focus rfl))
      | (apply l_val; (focus rfl); (focus rfl); (focus rfl); (focus (go_simp; (try simp (disch := omega) only [wrap_in, wrap_in', wrap_u16, wrap_u8, wrap_u32, wrap_u64, rem_in, quo_in]); first | done | with_reducible rfl | (constructor <;> with_reducible rfl))))
      | (apply l_store; (focus rfl); (focus rfl); (focus rfl); (focus (go_simp; (try simp (disch := omega) only [wrap_in, wrap_in', wrap_u16, wrap_u8, wrap_u32, wrap_u64, rem_in, quo_in]); first | done | with_reducible rfl | (constructor <;> with_reducible rfl))))
      | apply d_block
      | (apply d_true; (focus rfl); (focus rfl))
      | (apply d_false; (focus rfl); (focus rfl))
      | apply d_skip
      | apply d_exit
      | apply d_ret
      | with_reducible apply kt_ret
      | with_reducible apply kt_exit
      | with_reducible apply kb_normal
      | with_reducible apply kb_ret
      | with_reducible apply kb_here
      | with_reducible apply kl_ret
      | with_reducible apply kl_exit
      | with_reducible apply kc_ret
      | with_reducible apply kc_exit
      | (with_reducible apply kb_there; (focus rfl))
    refine l_call rfl rfl rfl (by first | (go_simp; done) | (go_simp; rfl)) (HC.out) ?_
    rintro e w' ⟨rfl, rfl⟩
    refine ⟨_, rfl, ?_⟩
    simp only [zptr, Option.map_none]
    repeat first
      | apply d_seq
      | with_reducible apply kt_normal
      | apply l_nil
      | apply d_region
      | (apply l_off; (focus rfl); (focus rfl))
      | (apply l_val; (focus rfl); (focus rfl); (focus rfl); (focus (go_simp; (try simp (disch := omega) only [wrap_in, wrap_in', wrap_u16, wrap_u8, wrap_u32, wrap_u64, rem_in, quo_in]); first | done | with_reducible rfl | (constructor <;> with_reducible rfl))))
      | (apply l_store; (focus rfl); (focus rfl); (focus rfl); (focus (go_simp; (try simp (disch := omega) only [wrap_in, wrap_in', wrap_u16, wrap_u8, wrap_u32, wrap_u64, rem_in, quo_in]); first | done | with_reducible rfl | (constructor <;> with_reducible rfl))))
      | apply d_block
      | (apply d_true; (focus rfl); (focus rfl))
      | (apply d_false; (focus rfl); (focus rfl))
      | apply d_skip
      | apply d_exit
      | apply d_ret
      | with_reducible apply kt_ret
      | with_reducible apply kt_exit
      | with_reducible apply kb_normal
      | with_reducible apply kb_ret
      | with_reducible apply kb_here
      | with_reducible apply kl_ret
      | with_reducible apply kl_exit
      | with_reducible apply kc_ret
      | with_reducible apply kc_exit
      | (with_reducible apply kb_there; (focus rfl))
    refine ⟨rfl, _, (by first | (simp [resultsG, resOne, Try.results32, rho, List.lookup]; done) | (simp [resultsG, resOne, Try.results32, rho, List.lookup]; rfl)), ?_⟩
    exact ⟨rfl, rfl⟩
  | some i =>
    rw [hz] at HC
    obtain ⟨hq, -⟩ := TS.zone_some hz
    obtain ⟨v, c0, f0, c1, ho, -⟩ := h.at hq
    obtain ⟨A, c, rfl, -, -⟩ := ho.len
    clear h hz hq ho
    cases hr : s.row i with
    | nil =>
      rw [hr] at c0
      refine d_calls (n := 21) Try.func32 rfl rfl (by simp) [(0, .pointer (some ⟨t, 0, none⟩)), (1, .int .i64 z)] (by simp) ?_
      repeat first
        | apply d_seq
        | with_reducible apply kt_normal
        | apply l_nil
        | apply d_region
        | (apply l_off; (focus rfl); (focus rfl))
        | (apply l_val; (focus rfl); (focus rfl); (focus rfl); (focus (go_simp; (try simp (disch := omega) only [wrap_in, wrap_in', wrap_u16, wrap_u8, wrap_u32, wrap_u64, rem_in, quo_in]); first | done | with_reducible rfl | (constructor <;> with_reducible rfl))))
        | (apply l_store; (focus rfl); (focus rfl); (focus rfl); (focus (go_simp; (try simp (disch := omega) only [wrap_in, wrap_in', wrap_u16, wrap_u8, wrap_u32, wrap_u64, rem_in, quo_in]); first | done | with_reducible rfl | (constructor <;> with_reducible rfl))))
        | apply d_block
        | (apply d_true; (focus rfl); (focus rfl))
        | (apply d_false; (focus rfl); (focus rfl))
        | apply d_skip
        | apply d_exit
        | apply d_ret
        | with_reducible apply kt_ret
        | with_reducible apply kt_exit
        | with_reducible apply kb_normal
        | with_reducible apply kb_ret
        | with_reducible apply kb_here
        | with_reducible apply kl_ret
        | with_reducible apply kl_exit
        | with_reducible apply kc_ret
        | with_reducible apply kc_exit
        | (with_reducible apply kb_there; (focus rfl))
      refine l_call rfl rfl rfl (by first | (go_simp; done) | (go_simp; rfl)) (HC.out) ?_
      rintro e w' ⟨rfl, rfl⟩
      refine ⟨_, rfl, ?_⟩
      simp only [zptr, Option.map_some]
      repeat first
        | apply d_seq
        | with_reducible apply kt_normal
        | apply l_nil
        | apply d_region
        | (apply l_off; (focus rfl); (focus rfl))
        | (apply l_val; (focus rfl); (focus rfl); (focus rfl); (focus (go_simp; (try simp (disch := omega) only [wrap_in, wrap_in', wrap_u16, wrap_u8, wrap_u32, wrap_u64, rem_in, quo_in]); first | done | with_reducible rfl | (constructor <;> with_reducible rfl))))
        | (apply l_store; (focus rfl); (focus rfl); (focus rfl); (focus (go_simp; (try simp (disch := omega) only [wrap_in, wrap_in', wrap_u16, wrap_u8, wrap_u32, wrap_u64, rem_in, quo_in]); first | done | with_reducible rfl | (constructor <;> with_reducible rfl))))
        | apply d_block
        | (apply d_true; (focus rfl); (focus rfl))
        | (apply d_false; (focus rfl); (focus rfl))
        | apply d_skip
        | apply d_exit
        | apply d_ret
        | with_reducible apply kt_ret
        | with_reducible apply kt_exit
        | with_reducible apply kb_normal
        | with_reducible apply kb_ret
        | with_reducible apply kb_here
        | with_reducible apply kl_ret
        | with_reducible apply kl_exit
        | with_reducible apply kc_ret
        | with_reducible apply kc_exit
        | (with_reducible apply kb_there; (focus rfl))
      refine ⟨rfl, _, (by first | (simp [resultsG, resOne, Try.results32, rho, List.lookup]; done) | (simp [resultsG, resOne, Try.results32, rho, List.lookup]; rfl)), ?_⟩
      exact ⟨by rw [hr], rfl⟩
    | cons y q =>
      rw [hr] at c0
      have hl : (y :: q).length = q.length + 1 := rfl
      rw [hl] at c0
      have q1 : (((q.length + 1 : Nat) : Int) == 0) = false := by simp; omega
      have q2 : (((q.length : Int) + 1) == 0) = false := by simp; omega
      refine d_calls (n := 21) Try.func32 rfl rfl (by simp) [(0, .pointer (some ⟨t, 0, none⟩)), (1, .int .i64 z)] (by simp) ?_
      repeat first
        | apply d_seq
        | with_reducible apply kt_normal
        | apply l_nil
        | apply d_region
        | (apply l_off; (focus rfl); (focus rfl))
        | (apply l_val; (focus rfl); (focus rfl); (focus rfl); (focus (go_simp; (try simp (disch := omega) only [wrap_in, wrap_in', wrap_u16, wrap_u8, wrap_u32, wrap_u64, rem_in, quo_in]); first | done | with_reducible rfl | (constructor <;> with_reducible rfl))))
        | (apply l_store; (focus rfl); (focus rfl); (focus rfl); (focus (go_simp; (try simp (disch := omega) only [wrap_in, wrap_in', wrap_u16, wrap_u8, wrap_u32, wrap_u64, rem_in, quo_in]); first | done | with_reducible rfl | (constructor <;> with_reducible rfl))))
        | apply d_block
        | (apply d_true; (focus rfl); (focus rfl))
        | (apply d_false; (focus rfl); (focus rfl))
        | apply d_skip
        | apply d_exit
        | apply d_ret
        | with_reducible apply kt_ret
        | with_reducible apply kt_exit
        | with_reducible apply kb_normal
        | with_reducible apply kb_ret
        | with_reducible apply kb_here
        | with_reducible apply kl_ret
        | with_reducible apply kl_exit
        | with_reducible apply kc_ret
        | with_reducible apply kc_exit
        | (with_reducible apply kb_there; (focus rfl))
      refine l_call rfl rfl rfl (by first | (go_simp; done) | (go_simp; rfl)) (HC.out) ?_
      rintro e w' ⟨rfl, rfl⟩
      refine ⟨_, rfl, ?_⟩
      simp only [zptr, Option.map_some]
      repeat first
        | apply d_seq
        | with_reducible apply kt_normal
        | apply l_nil
        | apply d_region
        | (apply l_off; (focus rfl); (focus rfl))
        | (apply l_val; (focus rfl); (focus rfl); (focus rfl); (focus (go_simp; (try simp (disch := omega) only [wrap_in, wrap_in', wrap_u16, wrap_u8, wrap_u32, wrap_u64, rem_in, quo_in]); first | done | with_reducible rfl | (constructor <;> with_reducible rfl))))
        | (apply l_store; (focus rfl); (focus rfl); (focus rfl); (focus (go_simp; (try simp (disch := omega) only [wrap_in, wrap_in', wrap_u16, wrap_u8, wrap_u32, wrap_u64, rem_in, quo_in]); first | done | with_reducible rfl | (constructor <;> with_reducible rfl))))
        | apply d_block
        | (apply d_true; (focus rfl); (focus rfl))
        | (apply d_false; (focus rfl); (focus rfl))
        | apply d_skip
        | apply d_exit
        | apply d_ret
        | with_reducible apply kt_ret
        | with_reducible apply kt_exit
        | with_reducible apply kb_normal
        | with_reducible apply kb_ret
        | with_reducible apply kb_here
        | with_reducible apply kl_ret
        | with_reducible apply kl_exit
        | with_reducible apply kc_ret
        | with_reducible apply kc_exit
        | (with_reducible apply kb_there; (focus rfl))
      refine ⟨rfl, _, (by first | (simp [resultsG, resOne, Try.results32, rho, List.lookup]; done) | (simp [resultsG, resOne, Try.results32, rho, List.lookup]; rfl)), ?_⟩
      exact ⟨by rw [hr], rfl⟩
end Go.Proofs.Ytilmodbiimjllaa
