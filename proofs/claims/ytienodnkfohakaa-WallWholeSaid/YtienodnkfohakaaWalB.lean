import Derived.Test.YtienodnkfohakaaWalA
namespace Go.Proofs.Ytienodnkfohakaa
set_option linter.unusedVariables false
set_option linter.unusedSimpArgs false
attribute [local go_sem] rho_const rho_func rho_hit rho_miss
open Go.RowKit
attribute [local go_sem] min2_mn min_two' max2_mx max_two'
set_option maxHeartbeats 400000 in
theorem cloneL (v : Value) (n : Nat) (xs : List Value) (F : Nat → Prop) (w : World) (h : SeesIn w F 3 v n xs) (hb : n * 16 ≤ 140737488355328) :
    Calls Try.prog 40 #[v] w fun e w' => ∃ v', e = .returned v' ∧ Keep none_ w w' ∧ Own w' (fresh none_ w w') 35 3 v' n xs := by
  obtain ⟨i0, hi, hz0, hz1, hz2⟩ := info_parts Try.infoLine
  have h' := h
  obtain ⟨A, c, rfl, h1, h2, h2', h3, h3', h4⟩ := h
  have H' := Lib.hid h'
  have H3 := Lib.hid h3
  have hq := fun (w : World) (a : Option Addr) (n c : Nat) => Lib.run_eql_slice_nil (P := Try.prog) w 22 35 a n c 0 0 Try.underlying22
  cases A with
  | none =>
    obtain rfl := h2' rfl
    obtain rfl : n = 0 := by omega
    clear h' h4 h3 h3' h2'
    go_enter Try.func40, Try.ntmps40
    go_wp2
    go_ret
    obtain rfl : xs = [] := List.eq_nil_of_length_eq_zero (by simpa using H3.out)
    exact ⟨_, rfl, Keep.refl _ _, Own.nil _ _ _ _⟩
  | some a =>
    clear h' h4 h3 h3' h2'
    obtain ⟨v', w', hr, ho, hgr, -⟩ := clone_law (P := Try.prog) (w.alloc (.cells #[] 35)) 22 35 i0 _ 3 16 Try.underlying22 hi hz0 hz1 hz2 rfl (by decide) F w.heap.size (heap_alloc_new _ _) (.slice (some a) n c) n xs
      (H'.out.move (by simp) (fun k hk hl => ⟨hk, Below.heap_alloc _ _ _ hl⟩)) hb 22
    have HR := Lib.hid hr
    clear hr
    go_enter Try.func40, Try.ntmps40
    go_wp2_with (at_builtin; refine wpList_append_run rfl (.tmp 5) (.tmp 6) 22 rfl _ _ rfl rfl v' w' HR.out ?_)
    go_ret
    exact ⟨v', rfl, ((Keep.refl _ _).alloc _).grown hgr (by simp), ho.move (fun k hk hl => ⟨by simp [fresh, none_] at hk ⊢; omega, rfl⟩)⟩

theorem zeroLine (m : Nat) : ∀ u ∈ (Builtin.zeroCells (Value.agg #[.int .u16 0, .int .u16 0, .int .i64 0]).cells m).toList, u.oneCell' = true := by
  intro u hu
  simp only [Builtin.zeroCells, Array.toList_map, List.mem_map] at hu
  obtain ⟨i, -, rfl⟩ := hu
  have h3 : (Value.agg #[.int .u16 0, .int .u16 0, .int .i64 0]).cells = #[.int .u16 0, .int .u16 0, .int .i64 0] := by rfl
  rw [h3]
  have : i % 3 = 0 ∨ i % 3 = 1 ∨ i % 3 = 2 := by omega
  show (#[Value.int .u16 0, .int .u16 0, .int .i64 0][i % 3]!).oneCell' = true
  rcases this with h | h | h <;> rw [h] <;> rfl
theorem Try.zeroLine (w : World) : (zeroValue 35).run Try.prog w = .ok (.agg #[.int .u16 0, .int .u16 0, .int .i64 0]) w := by kernel_rfl

set_option maxRecDepth 100000 in
set_option maxHeartbeats 1000000 in
theorem deleteL (g cap n i : Nat) (xs : List Value) (F : Nat → Prop) (w : World) (h : Own w F 35 3 (.slice (some ⟨g, 0, none⟩) n cap) n xs) (hin : i < n) :
    Calls Try.prog 47 #[.slice (some ⟨g, 0, none⟩) n cap, .int .i64 i, .int .i64 (i + 1)] w fun e w' =>
      e = .returned (.slice (some ⟨g, 0, none⟩) (n - 1) cap) ∧ Own w' F 35 3 (.slice (some ⟨g, 0, none⟩) (n - 1) cap) (n - 1) (xs.take (i * 3) ++ xs.drop ((i + 1) * 3)) ∧ w.grownBy w' (some g) := by
  obtain ⟨i0, hi0, hz0, hz1, hz2⟩ := info_parts Try.infoLine
  obtain ⟨cur, hg, hnc, hcm, hcs, htake⟩ := h.block
  have hd : Own w.drew F 35 3 (.slice (some ⟨g, 0, none⟩) n cap) n xs := h.move (fun k hk _ => ⟨hk, rfl⟩)
  obtain ⟨A, hA⟩ : ∃ A : Addr, (if cap = i + 1 then (⟨g, 0, none⟩ : Addr) else ⟨g, (i + 1) * 3, none⟩) = A := ⟨_, rfl⟩
  have hA' : (if cap = i + 1 then some (⟨g, 0, none⟩ : Addr) else some ⟨g, (i + 1) * 3, none⟩) = some A := by rw [← hA]; split <;> rfl
  obtain ⟨w1, hr1, ho1, hg1⟩ := del_append (P := Try.prog) Try.underlying22 hi0 hz1 (by decide) hd i (i + 1) (by omega) hin A hA.symm 22
  rw [show i + (n - (i + 1)) = n - 1 by omega] at hr1 ho1
  obtain ⟨w2, hr2, ho2, hg2⟩ := del_clear (P := Try.prog) Try.underlying22 Try.zeroLine (by rfl) zeroLine ho1 1 (by omega) (cap - (n - 1)) 0
  have HR1 := Lib.hid hr1
  have HR2 := Lib.hid hr2
  have HO := Lib.hid ho2
  have HG : Hid (w.grownBy w2 (some g)) := ⟨hg2.os.trans hg1.os, hg2.tape.trans hg1.tape, hg2.output.trans hg1.output, Nat.le_trans hg1.size hg2.size, fun k hk hn => (hg2.block k (Nat.lt_of_lt_of_le hk hg1.size) hn).trans (hg1.block k hk hn)⟩
  unfold maxLen at hcm
  have hi1 : (i : Int) < n := by omega
  have hicap : i ≤ cap := by omega
  clear hr1 hr2 ho1 ho2 hg1 hg2 hd h hg hcs htake hA
  go_enter Try.func47, Try.ntmps47
  have hp0 : (0 : Int) ≤ (i : Int) + 1 := by omega
  have hp1 : (i : Int) + 1 ≤ (n : Int) := by omega
  have hp2 : ((i : Int) + 1).toNat = i + 1 := by omega
  have hn1 : n - 1 ≤ cap := by omega
  have hn2 : (n : Int) ≤ cap := by omega
  have hn3 : ((n - 1 : Nat) : Int) ≤ n := by omega
  have hn4 : n - (n - 1) = 1 := by omega
  have hn5 : ¬ cap = n - 1 := by omega
  have hcc : ∀ o, (if cap = n - 1 then some (⟨g, 0, none⟩ : Addr) else o) = o := fun o => if_neg hn5
  go_wp2
  go_region_law (refine step_append_run rfl (.tmp 22) (.tmp 25) 22 rfl _ _ (by rfl) (by rfl) _ _ HR1.out ?_)
  all_goals
    go_wp2_with (refine wpList_clear_run (o := ⟨none, .call { callee := .builtin .clear, args := #[.tmp 31], argTypes := #[22] }, _, _, _, _⟩) rfl (.tmp 31) 22 rfl _ rfl _ _ HR2.out ?_)
    go_ret
    exact ⟨rfl, HO.out, HG.out⟩

theorem free_take (xs : List CbV) {k : Nat} {y : CbV} (hy : xs[k]? = some y) : ((xs.take (k + 1)).filter fun x => !x.c.held).length = ((xs.take k).filter fun x => !x.c.held).length + if y.c.held = true then 0 else 1 := by
  rw [List.take_add_one, hy, Option.toList_some, List.filter_append, List.length_append]
  cases hh : y.c.held <;> simp [hh]
set_option maxHeartbeats 2000000 in
theorem free_any (p g : Nat) (s : WS) (F : Nat → Prop) (w : World) (h : WRep w F p g s) :
    Calls Try.prog 18 #[.pointer (some ⟨p, 0, none⟩)] w fun e w' => e = .returned (.int .i64 s.free) ∧ Keep none_ w w' := by
  obtain ⟨xs, hs⟩ := h.see
  have e : s.free = ((xs.filter fun x => !x.c.held).length : Nat) := by unfold WS.free; rw [← hs.cs, List.filter_map, List.length_map]; rfl
  rw [e]
  have c0 := hs.pc
  have h16 : xs.length ≤ 16 := hs.le.2
  have HS := Lib.hid hs
  clear hs
  clear h e
  refine d_calls (n := 22) Try.func18 rfl rfl (by simp) [(0, .pointer (some ⟨p, 0, none⟩))] (by simp) ?_
  repeat first
    | apply d_seq
    | with_reducible apply kt_normal
    | apply l_nil
    | apply d_region
    | (apply l_off; (focus rfl); (focus rfl))
    | (apply l_val; (focus rfl); (focus rfl); (focus rfl); (focus (go_simp; (try simp (disch := omega) only [wrap_in, wrap_in', wrap_u16, wrap_u8, wrap_u32, wrap_u64, rem_in, quo_in]); first | done | with_reducible rfl | (constructor <;> with_reducible rfl))))
    | (apply l_store; (focus rfl); (focus rfl); (focus rfl); (focus (go_simp; (try simp (disch := omega) only [wrap_in, wrap_in', wrap_u16, wrap_u8, wrap_u32, wrap_u64, rem_in, quo_in]); first | done | with_reducible rfl | (constructor <;> with_reducible rfl))))
    | apply d_block
    | (apply d_true; (focus rfl); (focus rfl))
    | (apply d_false; (focus rfl); (focus rfl))
    | apply d_skip
    | apply d_exit
    | apply d_ret
    | with_reducible apply kt_ret
    | with_reducible apply kt_exit
    | with_reducible apply kb_normal
    | with_reducible apply kb_ret
    | with_reducible apply kb_here
    | with_reducible apply kl_ret
    | with_reducible apply kl_exit
    | with_reducible apply kc_ret
    | with_reducible apply kc_exit
    | (with_reducible apply kb_there; (focus rfl))
  clear c0
  refine d_loop (fun m D wr => ∃ k : Nat, m = xs.length - k ∧ k ≤ xs.length ∧ D = [(3, .int .i64 ((xs.take k).filter fun x => !x.c.held).length), (9, .slice (some ⟨g, 0, none⟩) xs.length xs.length), (10, .int .i64 xs.length), (11, .int .i64 k)] ∧ Hid (Keep none_ w wr)) (xs.length) _ (Subl.cons (t := 3) (by decide) rfl (Subl.cons (t := 9) (by decide) rfl (Subl.cons (t := 10) (by decide) rfl (Subl.cons (t := 11) (by decide) rfl (Subl.nil _ _))))) ?_ (fun m D wr hrel => ?_)
  · exact ⟨0, rfl, Nat.zero_le _, rfl, Lib.hid (Keep.refl _ _)⟩
  · obtain ⟨k, rfl, hk, rfl, HK⟩ := hrel
    by_cases hlt : k < xs.length
    · obtain ⟨y, hy, -⟩ := HS.out.x hlt
      obtain ⟨d0, d1, d2⟩ := (HS.out.cub k y hy).keep HK.out
      obtain ⟨A, n, c, ev⟩ := HS.out.ok y (List.mem_of_getElem? hy)
      rw [ev] at d2
      have hft := free_take xs hy
      have hnl : ((xs.take k).filter fun x => !x.c.held).length ≤ 16 := Nat.le_trans (List.length_filter_le _ _) (by rw [List.length_take]; omega)
      have hBx := heap_alloc_new wr (.cells #[.bool y.c.held, .int .u32 y.c.order, .slice A n c] 74)
      have HK2 := Lib.hid (HK.out.alloc (.cells #[.bool y.c.held, .int .u32 y.c.order, .slice A n c] 74))
      have q0 : decide (((k : Nat) : Int) < ((xs.length : Nat) : Int)) = true := decide_eq_true (by omega)
      clear hy ev
      generalize y.c.held = bb at *
      generalize y.c.order = od at *
      generalize ((xs.take k).filter fun x => !x.c.held).length = z at *
      have HFT := Lib.hid hft
      clear hft
      repeat first
        | ((fail_if_success (with_reducible refine d_at_region (id := 5) ?_)); apply d_seq)
        | with_reducible apply kt_normal
        | apply l_nil
        | apply d_region
        | (apply l_off; (focus rfl); (focus rfl))
        | (apply l_val; (focus rfl); (focus rfl); (focus rfl); (focus (go_simp; (try simp (disch := omega) only [wrap_in, wrap_in', wrap_u16, wrap_u8, wrap_u32, wrap_u64, rem_in, quo_in]); first | done | with_reducible rfl | (constructor <;> with_reducible rfl))))
        | (apply l_store; (focus rfl); (focus rfl); (focus rfl); (focus (go_simp; (try simp (disch := omega) only [wrap_in, wrap_in', wrap_u16, wrap_u8, wrap_u32, wrap_u64, rem_in, quo_in]); first | done | with_reducible rfl | (constructor <;> with_reducible rfl))))
        | apply d_block
        | (apply d_true; (focus rfl); (focus rfl))
        | (apply d_false; (focus rfl); (focus rfl))
        | apply d_skip
        | apply d_exit
        | apply d_ret
        | with_reducible apply kt_ret
        | with_reducible apply kt_exit
        | with_reducible apply kb_normal
        | with_reducible apply kb_ret
        | with_reducible apply kb_here
        | with_reducible apply kl_ret
        | with_reducible apply kl_exit
        | with_reducible apply kc_ret
        | with_reducible apply kc_exit
        | (with_reducible apply kb_there; (focus rfl))
      generalize wr.alloc (.cells #[.bool bb, .int .u32 od, .slice A n c] 74) = W2 at *
      generalize wr.heap.size = xb at *
      obtain ⟨c0, c1, c2, -⟩ := blk3 hBx
      clear d0 d1 d2 hBx
      cases bb with
      | true =>
        repeat first
          | apply d_seq
          | with_reducible apply kt_normal
          | apply l_nil
          | apply d_region
          | (apply l_off; (focus rfl); (focus rfl))
          | (apply l_val; (focus rfl); (focus rfl); (focus rfl); (focus (go_simp; (try simp (disch := omega) only [wrap_in, wrap_in', wrap_u16, wrap_u8, wrap_u32, wrap_u64, rem_in, quo_in]); first | done | with_reducible rfl | (constructor <;> with_reducible rfl))))
          | (apply l_store; (focus rfl); (focus rfl); (focus rfl); (focus (go_simp; (try simp (disch := omega) only [wrap_in, wrap_in', wrap_u16, wrap_u8, wrap_u32, wrap_u64, rem_in, quo_in]); first | done | with_reducible rfl | (constructor <;> with_reducible rfl))))
          | apply d_block
          | (apply d_true; (focus rfl); (focus rfl))
          | (apply d_false; (focus rfl); (focus rfl))
          | apply d_skip
          | apply d_exit
          | apply d_ret
          | with_reducible apply kt_ret
          | with_reducible apply kt_exit
          | with_reducible apply kb_normal
          | with_reducible apply kb_ret
          | with_reducible apply kb_here
          | with_reducible apply kl_ret
          | with_reducible apply kl_exit
          | with_reducible apply kc_ret
          | with_reducible apply kc_exit
          | (with_reducible apply kb_there; (focus rfl))
        refine kl_normal (xs.length - (k + 1)) _ (by omega) (Subl.cons (t := 3) (by decide) rfl (Subl.cons (t := 9) (by decide) rfl (Subl.cons (t := 10) (by decide) rfl (Subl.cons (t := 11) (by decide) rfl (Subl.nil _ _))))) ?_
        exact ⟨k + 1, rfl, by omega, by rw [HFT.out]; rfl, HK2⟩
      | false =>
        repeat first
          | apply d_seq
          | with_reducible apply kt_normal
          | apply l_nil
          | apply d_region
          | (apply l_off; (focus rfl); (focus rfl))
          | (apply l_val; (focus rfl); (focus rfl); (focus rfl); (focus (go_simp; (try simp (disch := omega) only [wrap_in, wrap_in', wrap_u16, wrap_u8, wrap_u32, wrap_u64, rem_in, quo_in]); first | done | with_reducible rfl | (constructor <;> with_reducible rfl))))
          | (apply l_store; (focus rfl); (focus rfl); (focus rfl); (focus (go_simp; (try simp (disch := omega) only [wrap_in, wrap_in', wrap_u16, wrap_u8, wrap_u32, wrap_u64, rem_in, quo_in]); first | done | with_reducible rfl | (constructor <;> with_reducible rfl))))
          | apply d_block
          | (apply d_true; (focus rfl); (focus rfl))
          | (apply d_false; (focus rfl); (focus rfl))
          | apply d_skip
          | apply d_exit
          | apply d_ret
          | with_reducible apply kt_ret
          | with_reducible apply kt_exit
          | with_reducible apply kb_normal
          | with_reducible apply kb_ret
          | with_reducible apply kb_here
          | with_reducible apply kl_ret
          | with_reducible apply kl_exit
          | with_reducible apply kc_ret
          | with_reducible apply kc_exit
          | (with_reducible apply kb_there; (focus rfl))
        refine kl_normal (xs.length - (k + 1)) _ (by omega) (Subl.cons (t := 3) (by decide) rfl (Subl.cons (t := 9) (by decide) rfl (Subl.cons (t := 10) (by decide) rfl (Subl.cons (t := 11) (by decide) rfl (Subl.nil _ _))))) ?_
        exact ⟨k + 1, rfl, by omega, by rw [HFT.out]; rfl, HK2⟩
    · obtain rfl : k = xs.length := by omega
      rw [List.take_length]
      repeat first
        | apply d_seq
        | with_reducible apply kt_normal
        | apply l_nil
        | apply d_region
        | (apply l_off; (focus rfl); (focus rfl))
        | (apply l_val; (focus rfl); (focus rfl); (focus rfl); (focus (go_simp; (try simp (disch := omega) only [wrap_in, wrap_in', wrap_u16, wrap_u8, wrap_u32, wrap_u64, rem_in, quo_in]); first | done | with_reducible rfl | (constructor <;> with_reducible rfl))))
        | (apply l_store; (focus rfl); (focus rfl); (focus rfl); (focus (go_simp; (try simp (disch := omega) only [wrap_in, wrap_in', wrap_u16, wrap_u8, wrap_u32, wrap_u64, rem_in, quo_in]); first | done | with_reducible rfl | (constructor <;> with_reducible rfl))))
        | apply d_block
        | (apply d_true; (focus rfl); (focus rfl))
        | (apply d_false; (focus rfl); (focus rfl))
        | apply d_skip
        | apply d_exit
        | apply d_ret
        | with_reducible apply kt_ret
        | with_reducible apply kt_exit
        | with_reducible apply kb_normal
        | with_reducible apply kb_ret
        | with_reducible apply kb_here
        | with_reducible apply kl_ret
        | with_reducible apply kl_exit
        | with_reducible apply kc_ret
        | with_reducible apply kc_exit
        | (with_reducible apply kb_there; (focus rfl))
      refine ⟨rfl, _, (by first | (simp [resultsG, resOne, Try.results18, rho, List.lookup]; done) | (simp [resultsG, resOne, Try.results18, rho, List.lookup]; rfl)), ?_⟩
      exact ⟨rfl, HK.out⟩
theorem needsW_any (p g : Nat) (n : Int) (s : WS) (F : Nat → Prop) (w : World) (h : WRep w F p g s) :
    Calls Try.prog 21 #[.pointer (some ⟨p, 0, none⟩), .int .i64 n] w fun e w' => ∃ v, e = .returned v ∧ Keep none_ w w' ∧ Own w' (fresh none_ w w') 35 3 v (s.needs n).length (lns (s.needs n)) := by
  have ha := atS_any p g n s F w h
  obtain ⟨xs, hs⟩ := h.see
  unfold WS.needs
  cases hat : s.at n with
  | none =>
    rw [hat] at ha
    dsimp only at ha ⊢
    have HA := Lib.hid ha
    clear ha
    clear hs h hat
    refine d_calls (n := 16) Try.func21 rfl rfl (by simp) [(0, .pointer (some ⟨p, 0, none⟩)), (1, .int .i64 n)] (by simp) ?_
    repeat first
      | apply d_seq
      | with_reducible apply kt_normal
      | apply l_nil
      | apply d_region
      | (apply l_off; (focus rfl); (focus rfl))
      | (apply l_val; (focus rfl); (focus rfl); (focus rfl); (focus (go_simp; (try simp (disch := omega) only [wrap_in, wrap_in', wrap_u16, wrap_u8, wrap_u32, wrap_u64, rem_in, quo_in]); first | done | with_reducible rfl | (constructor <;> with_reducible rfl))))
      | (apply l_store; (focus rfl); (focus rfl); (focus rfl); (focus (go_simp; (try simp (disch := omega) only [wrap_in, wrap_in', wrap_u16, wrap_u8, wrap_u32, wrap_u64, rem_in, quo_in]); first | done | with_reducible rfl | (constructor <;> with_reducible rfl))))
      | apply d_block
      | (apply d_true; (focus rfl); (focus rfl))
      | (apply d_false; (focus rfl); (focus rfl))
      | apply d_skip
      | apply d_exit
      | apply d_ret
      | with_reducible apply kt_ret
      | with_reducible apply kt_exit
      | with_reducible apply kb_normal
      | with_reducible apply kb_ret
      | with_reducible apply kb_here
      | with_reducible apply kl_ret
      | with_reducible apply kl_exit
      | with_reducible apply kc_ret
      | with_reducible apply kc_exit
      | (with_reducible apply kb_there; (focus rfl))
    refine l_call rfl rfl rfl (by first | (go_simp; done) | (go_simp; rfl)) (HA.out) ?_
    rintro e w' ⟨rfl, rfl⟩
    refine ⟨_, rfl, ?_⟩
    repeat first
      | apply d_seq
      | with_reducible apply kt_normal
      | apply l_nil
      | apply d_region
      | (apply l_off; (focus rfl); (focus rfl))
      | (apply l_val; (focus rfl); (focus rfl); (focus rfl); (focus (go_simp; (try simp (disch := omega) only [wrap_in, wrap_in', wrap_u16, wrap_u8, wrap_u32, wrap_u64, rem_in, quo_in]); first | done | with_reducible rfl | (constructor <;> with_reducible rfl))))
      | (apply l_store; (focus rfl); (focus rfl); (focus rfl); (focus (go_simp; (try simp (disch := omega) only [wrap_in, wrap_in', wrap_u16, wrap_u8, wrap_u32, wrap_u64, rem_in, quo_in]); first | done | with_reducible rfl | (constructor <;> with_reducible rfl))))
      | apply d_block
      | (apply d_true; (focus rfl); (focus rfl))
      | (apply d_false; (focus rfl); (focus rfl))
      | apply d_skip
      | apply d_exit
      | apply d_ret
      | with_reducible apply kt_ret
      | with_reducible apply kt_exit
      | with_reducible apply kb_normal
      | with_reducible apply kb_ret
      | with_reducible apply kb_here
      | with_reducible apply kl_ret
      | with_reducible apply kl_exit
      | with_reducible apply kc_ret
      | with_reducible apply kc_exit
      | (with_reducible apply kb_there; (focus rfl))
    refine ⟨rfl, _, (by first | (simp [resultsG, resOne, Try.results21, rho, List.lookup]; done) | (simp [resultsG, resOne, Try.results21, rho, List.lookup]; rfl)), ?_⟩
    exact ⟨_, rfl, Keep.refl _ _, Own.nil _ _ _ _⟩
  | some c =>
    rw [hat] at ha
    dsimp only at ha ⊢
    obtain ⟨h0, h1, h2⟩ := at_in hat
    obtain ⟨x, h3, h4⟩ := hs.x (show n.toNat < xs.length by rw [hs.len]; exact (List.getElem?_eq_some_iff.1 h1).1)
    obtain rfl : x.c = c := Option.some.inj (h4.symm.trans h1)
    obtain ⟨d0, d1, d2⟩ := hs.cub _ x h3
    obtain ⟨G, A, cp, ev, -, -, hsee⟩ := hs.row _ x h3
    rw [ev] at d2
    have hc := cloneL (.slice A x.c.needs.length cp) x.c.needs.length (lns x.c.needs) G w hsee (by have := (hs.good1 h3).need.len; omega)
    have HA := Lib.hid ha
    have HC := Lib.hid hc
    clear ha hc
    clear hs h hat h1 h2 h3 h4 d0 d1 ev hsee
    generalize n.toNat = k at *
    refine d_calls (n := 16) Try.func21 rfl rfl (by simp) [(0, .pointer (some ⟨p, 0, none⟩)), (1, .int .i64 n)] (by simp) ?_
    repeat first
      | apply d_seq
      | with_reducible apply kt_normal
      | apply l_nil
      | apply d_region
      | (apply l_off; (focus rfl); (focus rfl))
      | (apply l_val; (focus rfl); (focus rfl); (focus rfl); (focus (go_simp; (try simp (disch := omega) only [wrap_in, wrap_in', wrap_u16, wrap_u8, wrap_u32, wrap_u64, rem_in, quo_in]); first | done | with_reducible rfl | (constructor <;> with_reducible rfl))))
      | (apply l_store; (focus rfl); (focus rfl); (focus rfl); (focus (go_simp; (try simp (disch := omega) only [wrap_in, wrap_in', wrap_u16, wrap_u8, wrap_u32, wrap_u64, rem_in, quo_in]); first | done | with_reducible rfl | (constructor <;> with_reducible rfl))))
      | apply d_block
      | (apply d_true; (focus rfl); (focus rfl))
      | (apply d_false; (focus rfl); (focus rfl))
      | apply d_skip
      | apply d_exit
      | apply d_ret
      | with_reducible apply kt_ret
      | with_reducible apply kt_exit
      | with_reducible apply kb_normal
      | with_reducible apply kb_ret
      | with_reducible apply kb_here
      | with_reducible apply kl_ret
      | with_reducible apply kl_exit
      | with_reducible apply kc_ret
      | with_reducible apply kc_exit
      | (with_reducible apply kb_there; (focus rfl))
    refine l_call rfl rfl rfl (by first | (go_simp; done) | (go_simp; rfl)) (HA.out) ?_
    rintro e w' ⟨rfl, rfl⟩
    refine ⟨_, rfl, ?_⟩
    repeat first
      | apply d_seq
      | with_reducible apply kt_normal
      | apply l_nil
      | apply d_region
      | (apply l_off; (focus rfl); (focus rfl))
      | (apply l_val; (focus rfl); (focus rfl); (focus rfl); (focus (go_simp; (try simp (disch := omega) only [wrap_in, wrap_in', wrap_u16, wrap_u8, wrap_u32, wrap_u64, rem_in, quo_in]); first | done | with_reducible rfl | (constructor <;> with_reducible rfl))))
      | (apply l_store; (focus rfl); (focus rfl); (focus rfl); (focus (go_simp; (try simp (disch := omega) only [wrap_in, wrap_in', wrap_u16, wrap_u8, wrap_u32, wrap_u64, rem_in, quo_in]); first | done | with_reducible rfl | (constructor <;> with_reducible rfl))))
      | apply d_block
      | (apply d_true; (focus rfl); (focus rfl))
      | (apply d_false; (focus rfl); (focus rfl))
      | apply d_skip
      | apply d_exit
      | apply d_ret
      | with_reducible apply kt_ret
      | with_reducible apply kt_exit
      | with_reducible apply kb_normal
      | with_reducible apply kb_ret
      | with_reducible apply kb_here
      | with_reducible apply kl_ret
      | with_reducible apply kl_exit
      | with_reducible apply kc_ret
      | with_reducible apply kc_exit
      | (with_reducible apply kb_there; (focus rfl))
    refine l_call rfl rfl rfl (by first | (go_simp; done) | (go_simp; rfl)) (HC.out) ?_
    rintro e w' ⟨v, rfl, hk, ho⟩
    have HK := Lib.hid hk
    have HO := Lib.hid ho
    clear ho
    obtain ⟨A2, c2, ev, -⟩ := HO.out.len
    subst ev
    clear hk
    refine ⟨_, rfl, ?_⟩
    repeat first
      | apply d_seq
      | with_reducible apply kt_normal
      | apply l_nil
      | apply d_region
      | (apply l_off; (focus rfl); (focus rfl))
      | (apply l_val; (focus rfl); (focus rfl); (focus rfl); (focus (go_simp; (try simp (disch := omega) only [wrap_in, wrap_in', wrap_u16, wrap_u8, wrap_u32, wrap_u64, rem_in, quo_in]); first | done | with_reducible rfl | (constructor <;> with_reducible rfl))))
      | (apply l_store; (focus rfl); (focus rfl); (focus rfl); (focus (go_simp; (try simp (disch := omega) only [wrap_in, wrap_in', wrap_u16, wrap_u8, wrap_u32, wrap_u64, rem_in, quo_in]); first | done | with_reducible rfl | (constructor <;> with_reducible rfl))))
      | apply d_block
      | (apply d_true; (focus rfl); (focus rfl))
      | (apply d_false; (focus rfl); (focus rfl))
      | apply d_skip
      | apply d_exit
      | apply d_ret
      | with_reducible apply kt_ret
      | with_reducible apply kt_exit
      | with_reducible apply kb_normal
      | with_reducible apply kb_ret
      | with_reducible apply kb_here
      | with_reducible apply kl_ret
      | with_reducible apply kl_exit
      | with_reducible apply kc_ret
      | with_reducible apply kc_exit
      | (with_reducible apply kb_there; (focus rfl))
    refine ⟨rfl, _, (by first | (simp [resultsG, resOne, Try.results21, rho, List.lookup]; done) | (simp [resultsG, resOne, Try.results21, rho, List.lookup]; rfl)), ?_⟩
    exact ⟨_, rfl, HK.out, HO.out⟩
theorem scan_none {s : WS} {it : Int} {xs : List CbV} (hc : xs.map CbV.c = s.cubs) (h : ∀ z ∈ xs.take xs.length, (lk z.c.needs it).isSome = false) : s.scan it = (0, 0, 11) := by
  unfold WS.scan
  rw [← hc, List.findIdx?_map]
  rw [List.take_length] at h
  have : List.findIdx? ((fun c => (lk c.needs it).isSome) ∘ CbV.c) xs = none := by rw [List.findIdx?_eq_none_iff]; exact h
  rw [this]
theorem scan_some {s : WS} {it : Int} {xs : List CbV} (hc : xs.map CbV.c = s.cubs) {k : Nat} {y : CbV} {x : Ln} (hy : xs[k]? = some y) (hl : lk y.c.needs it = some x) (h : ∀ z ∈ xs.take k, (lk z.c.needs it).isSome = false) : s.scan it = ((k : Int), x.qty, 0) := by
  unfold WS.scan
  have hp := pidx_hit (p := fun z : CbV => (lk z.c.needs it).isSome) hy (by simp [hl]) h
  rw [← hc, List.findIdx?_map]
  have : List.findIdx? ((fun c => (lk c.needs it).isSome) ∘ CbV.c) xs = some k := by
    unfold pidx at hp
    have e : ((fun c : Cb => (lk c.needs it).isSome) ∘ CbV.c) = fun z : CbV => (lk z.c.needs it).isSome := rfl
    rw [e]
    cases hf : xs.findIdx? (fun z : CbV => (lk z.c.needs it).isSome) with
    | none => rw [hf] at hp; simp at hp
    | some j =>
      rw [hf] at hp
      have : j = k := by simp at hp; omega
      rw [this]
  rw [this]
  simp only [List.getElem?_map, hy, Option.map_some, hl]
def scanV (r : Int × Int × Int) : Value := .tuple #[.int .i64 r.1, .int .i64 r.2.1, .int .i64 r.2.2]
set_option maxHeartbeats 2000000 in
theorem scan_any (p g : Nat) (it : Int) (s : WS) (F : Nat → Prop) (w : World) (h : WRep w F p g s) :
    Calls Try.prog 22 #[.pointer (some ⟨p, 0, none⟩), .int .u16 it] w fun e w' => e = .returned (scanV (s.scan it)) ∧ Keep none_ w w' := by
  obtain ⟨xs, hs⟩ := h.see
  have h16 : xs.length ≤ 16 := hs.le.2
  have c0 := hs.pc
  have HS := Lib.hid hs
  clear hs
  clear h
  refine d_calls (n := 44) Try.func22 rfl rfl (by simp) [(0, .pointer (some ⟨p, 0, none⟩)), (1, .int .u16 it)] (by simp) ?_
  repeat first
    | apply d_seq
    | with_reducible apply kt_normal
    | apply l_nil
    | apply d_region
    | (apply l_off; (focus rfl); (focus rfl))
    | (apply l_val; (focus rfl); (focus rfl); (focus rfl); (focus (go_simp; (try simp (disch := omega) only [wrap_in, wrap_in', wrap_u16, wrap_u8, wrap_u32, wrap_u64, rem_in, quo_in]); first | done | with_reducible rfl | (constructor <;> with_reducible rfl))))
    | (apply l_store; (focus rfl); (focus rfl); (focus rfl); (focus (go_simp; (try simp (disch := omega) only [wrap_in, wrap_in', wrap_u16, wrap_u8, wrap_u32, wrap_u64, rem_in, quo_in]); first | done | with_reducible rfl | (constructor <;> with_reducible rfl))))
    | apply d_block
    | (apply d_true; (focus rfl); (focus rfl))
    | (apply d_false; (focus rfl); (focus rfl))
    | apply d_skip
    | apply d_exit
    | apply d_ret
    | with_reducible apply kt_ret
    | with_reducible apply kt_exit
    | with_reducible apply kb_normal
    | with_reducible apply kb_ret
    | with_reducible apply kb_here
    | with_reducible apply kl_ret
    | with_reducible apply kl_exit
    | with_reducible apply kc_ret
    | with_reducible apply kc_exit
    | (with_reducible apply kb_there; (focus rfl))
  clear c0
  refine d_loop (fun m D wr => ∃ k : Nat, m = xs.length - k ∧ k ≤ xs.length ∧ D = [(0, .pointer (some ⟨p, 0, none⟩)), (1, .int .u16 it), (14, .int .i64 xs.length), (15, .int .i64 k)] ∧ Hid (Keep none_ w wr) ∧ Hid (∀ z ∈ xs.take k, (lk z.c.needs it).isSome = false)) (xs.length) _ (Subl.cons (t := 0) (by decide) rfl (Subl.cons (t := 1) (by decide) rfl (Subl.cons (t := 14) (by decide) rfl (Subl.cons (t := 15) (by decide) rfl (Subl.nil _ _))))) ?_ (fun m D wr hrel => ?_)
  · exact ⟨0, rfl, Nat.zero_le _, rfl, Lib.hid (Keep.refl _ _), Lib.hid (by simp)⟩
  · obtain ⟨k, rfl, hk, rfl, HK, HZ⟩ := hrel
    by_cases hlt : k < xs.length
    · have hsw := HS.out.keep HK.out
      obtain ⟨y, hy, -⟩ := hsw.x hlt
      obtain ⟨d0, d1, d2⟩ := hsw.cub k y hy
      obtain ⟨G, A, cp, ev, hb1, hb2, hsee⟩ := hsw.row _ y hy
      rw [ev] at d2
      have hneed := (hsw.good1 hy).need
      have hp := placeC_any g k y it A cp G wr d2 hsee hneed
      obtain ⟨hi1, hi2⟩ := isat_lk hneed.asc it
      rw [hi1] at hp
      have c0 := hsw.pc
      have q0 : decide (((k : Nat) : Int) < ((xs.length : Nat) : Int)) = true := decide_eq_true (by omega)
      have HY := Lib.hid hy
      cases hlk : lk y.c.needs it with
      | none =>
        rw [hlk] at hp
        have HN : Hid ((lk y.c.needs it).isSome = false) := Lib.hid (by rw [hlk]; rfl)
        have HP := Lib.hid hp
        clear hp
        clear hsw hy hsee hneed hi1 hi2 hlk ev d0 d1 d2
        repeat first
          | apply d_seq
          | with_reducible apply kt_normal
          | apply l_nil
          | apply d_region
          | (apply l_off; (focus rfl); (focus rfl))
          | (apply l_val; (focus rfl); (focus rfl); (focus rfl); (focus (go_simp; (try simp (disch := omega) only [wrap_in, wrap_in', wrap_u16, wrap_u8, wrap_u32, wrap_u64, rem_in, quo_in]); first | done | with_reducible rfl | (constructor <;> with_reducible rfl))))
          | (apply l_store; (focus rfl); (focus rfl); (focus rfl); (focus (go_simp; (try simp (disch := omega) only [wrap_in, wrap_in', wrap_u16, wrap_u8, wrap_u32, wrap_u64, rem_in, quo_in]); first | done | with_reducible rfl | (constructor <;> with_reducible rfl))))
          | apply d_block
          | (apply d_true; (focus rfl); (focus rfl))
          | (apply d_false; (focus rfl); (focus rfl))
          | apply d_skip
          | apply d_exit
          | apply d_ret
          | with_reducible apply kt_ret
          | with_reducible apply kt_exit
          | with_reducible apply kb_normal
          | with_reducible apply kb_ret
          | with_reducible apply kb_here
          | with_reducible apply kl_ret
          | with_reducible apply kl_exit
          | with_reducible apply kc_ret
          | with_reducible apply kc_exit
          | (with_reducible apply kb_there; (focus rfl))
        refine l_call rfl rfl rfl (by first | (go_simp; done) | (go_simp; rfl)) (HP.out) ?_
        rintro e w' ⟨rfl, hk2⟩
        refine ⟨_, rfl, ?_⟩
        repeat first
          | apply d_seq
          | with_reducible apply kt_normal
          | apply l_nil
          | apply d_region
          | (apply l_off; (focus rfl); (focus rfl))
          | (apply l_val; (focus rfl); (focus rfl); (focus rfl); (focus (go_simp; (try simp (disch := omega) only [wrap_in, wrap_in', wrap_u16, wrap_u8, wrap_u32, wrap_u64, rem_in, quo_in]); first | done | with_reducible rfl | (constructor <;> with_reducible rfl))))
          | (apply l_store; (focus rfl); (focus rfl); (focus rfl); (focus (go_simp; (try simp (disch := omega) only [wrap_in, wrap_in', wrap_u16, wrap_u8, wrap_u32, wrap_u64, rem_in, quo_in]); first | done | with_reducible rfl | (constructor <;> with_reducible rfl))))
          | apply d_block
          | (apply d_true; (focus rfl); (focus rfl))
          | (apply d_false; (focus rfl); (focus rfl))
          | apply d_skip
          | apply d_exit
          | apply d_ret
          | with_reducible apply kt_ret
          | with_reducible apply kt_exit
          | with_reducible apply kb_normal
          | with_reducible apply kb_ret
          | with_reducible apply kb_here
          | with_reducible apply kl_ret
          | with_reducible apply kl_exit
          | with_reducible apply kc_ret
          | with_reducible apply kc_exit
          | (with_reducible apply kb_there; (focus rfl))
        refine kl_normal (xs.length - (k + 1)) _ (by omega) (Subl.cons (t := 0) (by decide) rfl (Subl.cons (t := 1) (by decide) rfl (Subl.cons (t := 14) (by decide) rfl (Subl.cons (t := 15) (by decide) rfl (Subl.nil _ _))))) ?_
        exact ⟨k + 1, rfl, by omega, rfl, Lib.hid (HK.out.next hk2), Lib.hid (take_snoc_all HY.out HN.out HZ.out)⟩
      | some x =>
        rw [hlk] at hp
        have HR := Lib.hid (scan_some HS.out.cs hy hlk HZ.out)
        have hx := hi2 x hlk
        have HX := Lib.hid hx
        have hbl : bpos y.c.needs it < y.c.needs.length := (List.getElem?_eq_some_iff.1 hx).1
        have HSEE := Lib.hid hsee
        have HP := Lib.hid hp
        clear hp
        clear hsw hy hneed hi1 hi2 hlk ev hx
        generalize bpos y.c.needs it = j at *
        have q1 : ((j : Nat) : Int) < ((y.c.needs.length : Nat) : Int) := by omega
        clear hsee
        repeat first
          | apply d_seq
          | with_reducible apply kt_normal
          | apply l_nil
          | apply d_region
          | (apply l_off; (focus rfl); (focus rfl))
          | (apply l_val; (focus rfl); (focus rfl); (focus rfl); (focus (go_simp; (try simp (disch := omega) only [wrap_in, wrap_in', wrap_u16, wrap_u8, wrap_u32, wrap_u64, rem_in, quo_in]); first | done | with_reducible rfl | (constructor <;> with_reducible rfl))))
          | (apply l_store; (focus rfl); (focus rfl); (focus rfl); (focus (go_simp; (try simp (disch := omega) only [wrap_in, wrap_in', wrap_u16, wrap_u8, wrap_u32, wrap_u64, rem_in, quo_in]); first | done | with_reducible rfl | (constructor <;> with_reducible rfl))))
          | apply d_block
          | (apply d_true; (focus rfl); (focus rfl))
          | (apply d_false; (focus rfl); (focus rfl))
          | apply d_skip
          | apply d_exit
          | apply d_ret
          | with_reducible apply kt_ret
          | with_reducible apply kt_exit
          | with_reducible apply kb_normal
          | with_reducible apply kb_ret
          | with_reducible apply kb_here
          | with_reducible apply kl_ret
          | with_reducible apply kl_exit
          | with_reducible apply kc_ret
          | with_reducible apply kc_exit
          | (with_reducible apply kb_there; (focus rfl))
        refine l_call rfl rfl rfl (by first | (go_simp; done) | (go_simp; rfl)) (HP.out) ?_
        rintro e w2 ⟨rfl, hk2⟩
        have HK2 := Lib.hid hk2
        have hsw := HS.out.keep (HK.out.next hk2)
        obtain ⟨e0, e1, e2⟩ := hsw.cub k y HY.out
        obtain ⟨G', A', cp', ev, -⟩ := hsw.row _ y HY.out
        have c0 := hsw.pc
        obtain ⟨g2, o2, rfl, -, -, z0, z1, z2⟩ := sees_ln (HSEE.out.keep hk2) rfl HX.out
        have d2' := d2
        have hd2 : w2.cell? ⟨g, k * 3 + 2, none⟩ = some (.slice (some ⟨g2, o2, none⟩) y.c.needs.length cp) := (hk2.cell (World.block_lt_of_cell? _ _ d2) (fun c => c)).trans d2
        clear hsw ev e0 e1 e2 d0 d1 d2 d2' hk2
        refine ⟨_, rfl, ?_⟩
        repeat first
          | apply d_seq
          | with_reducible apply kt_normal
          | apply l_nil
          | apply d_region
          | (apply l_off; (focus rfl); (focus rfl))
          | (apply l_val; (focus rfl); (focus rfl); (focus rfl); (focus (go_simp; (try simp (disch := omega) only [wrap_in, wrap_in', wrap_u16, wrap_u8, wrap_u32, wrap_u64, rem_in, quo_in]); first | done | with_reducible rfl | (constructor <;> with_reducible rfl))))
          | (apply l_store; (focus rfl); (focus rfl); (focus rfl); (focus (go_simp; (try simp (disch := omega) only [wrap_in, wrap_in', wrap_u16, wrap_u8, wrap_u32, wrap_u64, rem_in, quo_in]); first | done | with_reducible rfl | (constructor <;> with_reducible rfl))))
          | apply d_block
          | (apply d_true; (focus rfl); (focus rfl))
          | (apply d_false; (focus rfl); (focus rfl))
          | apply d_skip
          | apply d_exit
          | apply d_ret
          | with_reducible apply kt_ret
          | with_reducible apply kt_exit
          | with_reducible apply kb_normal
          | with_reducible apply kb_ret
          | with_reducible apply kb_here
          | with_reducible apply kl_ret
          | with_reducible apply kl_exit
          | with_reducible apply kc_ret
          | with_reducible apply kc_exit
          | (with_reducible apply kb_there; (focus rfl))
        refine d_draw (true, [([], []), ([], []), ([1], [1]), ([2], [2]), ([3], [3]), ([], []), ([4, 5], [4, 5]), ([6], [6]), ([7], [7]), ([], []), ([8, 9], [8, 9]), ([10], [10]), ([11], [11]), ([0, 0], [0]), ([12, 13, 0, 1, 2, 3, 4, 5, 6, 7, 8, 9, 10, 11, 12, 13], [12]), ([14, 0, 1, 2, 3, 4, 5, 6, 7, 8, 9, 10, 11, 12, 13, 14], [])]) [(0, 0), (0, 1), (0, 2), (0, 3), (0, 4), (0, 5), (0, 6), (0, 7), (0, 8), (0, 9), (0, 10), (0, 11), (0, 12), (0, 13), (0, 14), (0, 15)] [999999] (fun W => W.cell? ⟨p, 0, none⟩ = some (.slice (some ⟨g, 0, none⟩) xs.length xs.length) ∧ W.cell? ⟨g, k * 3 + 2, none⟩ = some (.slice (some ⟨g2, o2, none⟩) y.c.needs.length cp) ∧ W.cell? ⟨g2, o2 + j * 3 + 2, none⟩ = some (.int .i64 x.qty)) (by kernel_rfl) (by kernel_rfl) (by kernel_rfl) (by kernel_rfl) ⟨c0, hd2, z2⟩ ?_
        iterate 16
          first | (apply s_off; (focus rfl); (focus rfl); (focus rfl)) | (apply s_yield; (focus rfl); (focus rfl); (focus rfl); (focus rfl); (focus (intro W hS; obtain ⟨hS1, hS2, hS3⟩ := hS; go_simp; (try simp (disch := omega) only [wrap_in, wrap_in', wrap_u16, wrap_u8, wrap_u32, wrap_u64, rem_in, quo_in]); first | done | with_reducible rfl | (constructor <;> with_reducible rfl))))
        refine s_done ?_
        repeat first
          | apply d_seq
          | with_reducible apply kt_normal
          | apply l_nil
          | apply d_region
          | (apply l_off; (focus rfl); (focus rfl))
          | (apply l_val; (focus rfl); (focus rfl); (focus rfl); (focus (go_simp; (try simp (disch := omega) only [wrap_in, wrap_in', wrap_u16, wrap_u8, wrap_u32, wrap_u64, rem_in, quo_in]); first | done | with_reducible rfl | (constructor <;> with_reducible rfl))))
          | (apply l_store; (focus rfl); (focus rfl); (focus rfl); (focus (go_simp; (try simp (disch := omega) only [wrap_in, wrap_in', wrap_u16, wrap_u8, wrap_u32, wrap_u64, rem_in, quo_in]); first | done | with_reducible rfl | (constructor <;> with_reducible rfl))))
          | apply d_block
          | (apply d_true; (focus rfl); (focus rfl))
          | (apply d_false; (focus rfl); (focus rfl))
          | apply d_skip
          | apply d_exit
          | apply d_ret
          | with_reducible apply kt_ret
          | with_reducible apply kt_exit
          | with_reducible apply kb_normal
          | with_reducible apply kb_ret
          | with_reducible apply kb_here
          | with_reducible apply kl_ret
          | with_reducible apply kl_exit
          | with_reducible apply kc_ret
          | with_reducible apply kc_exit
          | (with_reducible apply kb_there; (focus rfl))
        refine ⟨rfl, _, (by first | (simp [resultsG, resOne, Try.results22, rho, List.lookup]; done) | (simp [resultsG, resOne, Try.results22, rho, List.lookup]; rfl)), ?_⟩
        rw [HR.out]
        exact ⟨rfl, (HK.out.next HK2.out).drew⟩
    · obtain rfl : k = xs.length := by omega
      have HR := Lib.hid (scan_none HS.out.cs HZ.out)
      rw [HR.out]
      repeat first
        | apply d_seq
        | with_reducible apply kt_normal
        | apply l_nil
        | apply d_region
        | (apply l_off; (focus rfl); (focus rfl))
        | (apply l_val; (focus rfl); (focus rfl); (focus rfl); (focus (go_simp; (try simp (disch := omega) only [wrap_in, wrap_in', wrap_u16, wrap_u8, wrap_u32, wrap_u64, rem_in, quo_in]); first | done | with_reducible rfl | (constructor <;> with_reducible rfl))))
        | (apply l_store; (focus rfl); (focus rfl); (focus rfl); (focus (go_simp; (try simp (disch := omega) only [wrap_in, wrap_in', wrap_u16, wrap_u8, wrap_u32, wrap_u64, rem_in, quo_in]); first | done | with_reducible rfl | (constructor <;> with_reducible rfl))))
        | apply d_block
        | (apply d_true; (focus rfl); (focus rfl))
        | (apply d_false; (focus rfl); (focus rfl))
        | apply d_skip
        | apply d_exit
        | apply d_ret
        | with_reducible apply kt_ret
        | with_reducible apply kt_exit
        | with_reducible apply kb_normal
        | with_reducible apply kb_ret
        | with_reducible apply kb_here
        | with_reducible apply kl_ret
        | with_reducible apply kl_exit
        | with_reducible apply kc_ret
        | with_reducible apply kc_exit
        | (with_reducible apply kb_there; (focus rfl))
      refine ⟨rfl, _, (by first | (simp [resultsG, resOne, Try.results22, rho, List.lookup]; done) | (simp [resultsG, resOne, Try.results22, rho, List.lookup]; rfl)), ?_⟩
      exact ⟨rfl, HK.out⟩
end Go.Proofs.Ytienodnkfohakaa
