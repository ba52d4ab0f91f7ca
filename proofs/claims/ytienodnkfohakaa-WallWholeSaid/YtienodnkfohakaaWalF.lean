import Derived.Test.YtienodnkfohakaaWalArgs
import Derived.Test.YtienodnkfohakaaMasks
namespace Go.Proofs.Ytienodnkfohakaa
set_option linter.unusedVariables false
set_option linter.unusedSimpArgs false
attribute [local go_sem] rho_const rho_func rho_hit rho_miss
open Go.RowKit
attribute [local go_sem] min2_mn min_two' max2_mx max_two'
section
variable {w0 w : World} {L : List (Asrt w0.heap.size)}
theorem newC (c : Int) : ∃ n : Nat, mn (mx c 1) 16 = n ∧ 1 ≤ n ∧ n ≤ 16 := by
  refine ⟨(mn (mx c 1) 16).toNat, ?_, ?_, ?_⟩ <;> (unfold mn mx; split <;> split <;> omega)
theorem new_has (H : Has w0 w L) (c : Int) (n : Nat) (hn : mn (mx c 1) 16 = n) (h1 : 1 ≤ n) (h16 : n ≤ 16) :
    Calls Try.prog 11 #[.int .i64 c] w fun e w' => ∃ p g, e = .returned (.pointer (some ⟨p, 0, none⟩)) ∧ Has w0 w' (L ++ [WA w0.heap.size p g (WS.new n)]) := by
  refine (new_any c n hn h1 h16 w).mono ?_
  rintro e w' ⟨rfl, hk, hz⟩
  exact ⟨_, _, rfl, H.new hk hz⟩
theorem assign_has (H : Has w0 w L) (i p g : Nat) (s : WS) (hi : L[i]? = some (WA w0.heap.size p g s)) (id : Int) (ls : List Ln) (A : Option Addr) (m cp : Nat) (G : Nat → Prop) (hs : SeesIn w G 3 (.slice A m cp) m (lns ls)) (hm : m = ls.length) (hl : m ≤ 12) (hq : ∀ x ∈ ls, x.qty ≤ 9223372036854775807) :
    Calls Try.prog 13 #[.pointer (some ⟨p, 0, none⟩), .int .u32 id, .slice A m cp] w fun e w' => e = .returned (.tuple #[.int .i64 (s.assign id ls).2.1, .int .i64 (s.assign id ls).2.2]) ∧ Has w0 w' (L.set i (WA w0.heap.size p g (s.assign id ls).1)) := by
  obtain ⟨F, hz, hF, hback⟩ := H.call hi
  refine (assign_any p g id ls A m cp G s F w hz hs hm hl hq).mono ?_
  rintro e w' ⟨rfl, hk, hz'⟩
  exact ⟨rfl, hback w' _ hk hz'⟩
/-- Of lines that are ours. -/
theorem assign_own (H : Has w0 w L) (i j p g : Nat) (s : WS) (hi : L[i]? = some (WA w0.heap.size p g s)) (id : Int) (ls : List Ln) (A : Option Addr) (m cp : Nat) (hj : L[j]? = some (OwnA w0.heap.size 35 3 (.slice A m cp) m (lns ls))) (hm : m = ls.length) (hl : m ≤ 12) (hq : ∀ x ∈ ls, x.qty ≤ 9223372036854775807) :
    Calls Try.prog 13 #[.pointer (some ⟨p, 0, none⟩), .int .u32 id, .slice A m cp] w fun e w' => e = .returned (.tuple #[.int .i64 (s.assign id ls).2.1, .int .i64 (s.assign id ls).2.2]) ∧ Has w0 w' (L.set i (WA w0.heap.size p g (s.assign id ls).1)) := by
  obtain ⟨G, hg, -⟩ := H.get hj
  exact assign_has H i p g s hi id ls A m cp G (show Own w G _ _ _ _ _ from hg).sees hm hl hq
theorem put_has (H : Has w0 w L) (i p g : Nat) (s : WS) (hi : L[i]? = some (WA w0.heap.size p g s)) (n it qty : Int) :
    Calls Try.prog 14 #[.pointer (some ⟨p, 0, none⟩), .int .i64 n, .int .u16 it, .int .i64 qty] w fun e w' => e = .returned (.int .i64 (s.put n it qty).2) ∧ Has w0 w' (L.set i (WA w0.heap.size p g (s.put n it qty).1)) := by
  obtain ⟨F, hz, hF, hback⟩ := H.call hi
  refine (put_any p g n it qty s F w hz).mono ?_
  rintro e w' ⟨rfl, hk, hz'⟩
  exact ⟨rfl, hback w' _ hk hz'⟩
theorem less_has (H : Has w0 w L) (i p g : Nat) (s : WS) (hi : L[i]? = some (WA w0.heap.size p g s)) (id it qty : Int) :
    Calls Try.prog 15 #[.pointer (some ⟨p, 0, none⟩), .int .u32 id, .int .u16 it, .int .i64 qty] w fun e w' => e = .returned (.int .i64 (s.less id it qty).2) ∧ Has w0 w' (L.set i (WA w0.heap.size p g (s.less id it qty).1)) := by
  obtain ⟨F, hz, hF, hback⟩ := H.call hi
  refine (less_any p g id it qty s F w hz).mono ?_
  rintro e w' ⟨rfl, hk, hz'⟩
  exact ⟨rfl, hback w' _ hk hz'⟩
theorem release_has (H : Has w0 w L) (i p g : Nat) (s : WS) (hi : L[i]? = some (WA w0.heap.size p g s)) (n : Int) :
    Calls Try.prog 17 #[.pointer (some ⟨p, 0, none⟩), .int .i64 n] w fun e w' => e = .returned (.tuple #[.int .u32 (s.release n).2.1, .int .i64 (s.release n).2.2]) ∧ Has w0 w' (L.set i (WA w0.heap.size p g (s.release n).1)) := by
  obtain ⟨F, hz, hF, hback⟩ := H.call hi
  refine (release_any p g n s F w hz).mono ?_
  rintro e w' ⟨rfl, hk, hz'⟩
  exact ⟨rfl, hback w' _ hk hz'⟩
theorem cubby_has (H : Has w0 w L) (i p g : Nat) (s : WS) (hi : L[i]? = some (WA w0.heap.size p g s)) (id : Int) :
    Calls Try.prog 20 #[.pointer (some ⟨p, 0, none⟩), .int .u32 id] w fun e w' => e = .returned (.tuple #[.int .i64 (mx (s.of id) 0), .bool (decide (0 ≤ s.of id))]) ∧ Has w0 w' L := by
  obtain ⟨F, hz, hF⟩ := H.get hi
  refine (cubby_any p g id s F w hz).mono ?_
  rintro e w' ⟨rfl, hk⟩
  exact ⟨rfl, H.keep hk⟩
theorem order_has (H : Has w0 w L) (i p g : Nat) (s : WS) (hi : L[i]? = some (WA w0.heap.size p g s)) (n : Int) :
    Calls Try.prog 19 #[.pointer (some ⟨p, 0, none⟩), .int .i64 n] w fun e w' => e = .returned (s.order n) ∧ Has w0 w' L := by
  obtain ⟨F, hz, hF⟩ := H.get hi
  refine (order_any p g n s F w hz).mono ?_
  rintro e w' ⟨rfl, rfl⟩
  exact ⟨rfl, H⟩
theorem full_has (H : Has w0 w L) (i p g : Nat) (s : WS) (hi : L[i]? = some (WA w0.heap.size p g s)) (n : Int) :
    Calls Try.prog 16 #[.pointer (some ⟨p, 0, none⟩), .int .i64 n] w fun e w' => e = .returned (.bool (s.full n)) ∧ Has w0 w' L := by
  obtain ⟨F, hz, hF⟩ := H.get hi
  refine (full_any p g n s F w hz).mono ?_
  rintro e w' ⟨rfl, rfl⟩
  exact ⟨rfl, H⟩
theorem free_has (H : Has w0 w L) (i p g : Nat) (s : WS) (hi : L[i]? = some (WA w0.heap.size p g s)) :
    Calls Try.prog 18 #[.pointer (some ⟨p, 0, none⟩)] w fun e w' => e = .returned (.int .i64 s.free) ∧ Has w0 w' L := by
  obtain ⟨F, hz, hF⟩ := H.get hi
  refine (free_any p g s F w hz).mono ?_
  rintro e w' ⟨rfl, hk⟩
  exact ⟨rfl, H.keep hk⟩
theorem needs_has (H : Has w0 w L) (i p g : Nat) (s : WS) (hi : L[i]? = some (WA w0.heap.size p g s)) (n : Int) :
    Calls Try.prog 21 #[.pointer (some ⟨p, 0, none⟩), .int .i64 n] w fun e w' => ∃ A c, e = .returned (.slice A (s.needs n).length c) ∧ (s.needs n).length ≤ c ∧ c ≤ 9223372036854775807 ∧ Has w0 w' (L ++ [OwnA w0.heap.size 35 3 (.slice A (s.needs n).length c) (s.needs n).length (lns (s.needs n))]) := by
  obtain ⟨F, hz, hF⟩ := H.get hi
  refine (needsW_any p g n s F w hz).mono ?_
  rintro e w' ⟨v, rfl, hk, ho⟩
  obtain ⟨A, c, rfl, h1, h2⟩ := ho.len
  exact ⟨A, c, rfl, h1, by unfold maxLen at h2; omega, H.new hk ho⟩
theorem scan_has (H : Has w0 w L) (i p g : Nat) (s : WS) (hi : L[i]? = some (WA w0.heap.size p g s)) (it : Int) :
    Calls Try.prog 22 #[.pointer (some ⟨p, 0, none⟩), .int .u16 it] w fun e w' => e = .returned (scanV (s.scan it)) ∧ Has w0 w' L := by
  obtain ⟨F, hz, hF⟩ := H.get hi
  refine (scan_any p g it s F w hz).mono ?_
  rintro e w' ⟨rfl, hk⟩
  exact ⟨rfl, H.keep hk⟩
theorem Has.goodW (H : Has w0 w L) {i p g : Nat} {s : WS} (hi : L[i]? = some (WA w0.heap.size p g s)) : s.good := by
  obtain ⟨F, hz, hF⟩ := H.get hi
  exact (show WRep w F p g s from hz).1
end
/-! small. -/
def smL (l : List Ln) : List Ln := (l.take 10).map fun x => { x with item := x.item % 32 }
theorem smL_len (l : List Ln) : (smL l).length ≤ 10 := by unfold smL; rw [List.length_map, List.length_take]; omega
theorem smL_snoc {l : List Ln} {k : Nat} {y : Ln} (hy : l[k]? = some y) : ((l.take (k + 1)).map fun x => ({ x with item := x.item % 32 } : Ln)) = ((l.take k).map fun x => ({ x with item := x.item % 32 } : Ln)) ++ [{ y with item := y.item % 32 }] := by
  rw [List.take_add_one, hy, Option.toList_some, List.map_append]; rfl
theorem u16_and31 (n : Int) : bits .and .u16 n 31 = n % 32 := by
  have h127 : (BitVec.ofInt 16 31).toNat = 2 ^ 5 - 1 := by decide
  have key : (BitVec.ofInt 16 n &&& BitVec.ofInt 16 31).toNat = (n % ((2 ^ 16 : Nat) : Int)).toNat % 2 ^ 5 := by
    rw [BitVec.toNat_and, BitVec.toNat_ofInt, h127, Nat.and_two_pow_sub_one_eq_mod]
  show IntKind.u16.wrap ((BitVec.ofInt 16 n &&& BitVec.ofInt 16 31).toNat : Nat) = n % 32
  rw [key, IntKind.wrap_u16]
  omega
attribute [local go_sem] u16_and31
theorem pushF_ln {F : Nat → Prop} {w0 w : World} {L : List (Asrt 0)} (H : HasF F w0 w L) {k m : Nat} {v : Value} {xs : List Ln} (hi : L[k]? = some (OwnA 0 35 3 v m (lns xs))) (hm : m ≤ 1000) (r : Ln) :
    ∃ g cap w', (Builtin.append_ #[22, 22] 22 #[v, .slice (some ⟨w.heap.size, 0, none⟩) 1 1]).run Try.prog (w.alloc (.cells #[.int .u16 r.item, .int .u16 r.loc, .int .i64 r.qty] 35)) = .ok (.slice (some ⟨g, 0, none⟩) (m + 1) cap) w' ∧ m + 1 ≤ cap ∧ cap ≤ 9223372036854775807 ∧
      HasF F w0 w' (L.set k (OwnA 0 35 3 (.slice (some ⟨g, 0, none⟩) (m + 1) cap) (m + 1) (lns (xs ++ [r])))) := by
  obtain ⟨i0, hi0, hz0, hz1, hz2⟩ := info_parts Try.infoLine
  have := H.push (P := Try.prog) hi 22 i0 _ 16 Try.underlying22 hi0 hz0 hz1 hz2 rfl (by decide) #[.int .u16 r.item, .int .u16 r.loc, .int .i64 r.qty] rfl (by simp [Value.oneCell']) (by unfold maxLen; omega) (by omega) 22
  rw [lns_snoc]
  exact this
theorem HasF.sel1 {F : Nat → Prop} {w0 w : World} {P Q : Asrt 0} (H : HasF F w0 w [P, Q]) : HasF F w0 w [P] := by
  have := H.take 1
  simpa using this
set_option maxRecDepth 100000 in
set_option maxHeartbeats 4000000 in
theorem small_any (ls : List Ln) (A : Option Addr) (n c : Nat) (G : Nat → Prop) (w : World) (h : SeesIn w G 3 (.slice A n c) n (lns ls)) (hn : n = ls.length) :
    Calls Try.prog 12 #[.slice A n c] w fun e w' => ∃ B d, e = .returned (.slice B (smL ls).length d) ∧ HasF none_ w w' [OwnA 0 35 3 (.slice B (smL ls).length d) (smL ls).length (lns (smL ls))] := by
  subst hn
  obtain ⟨A', c', e0, hb1, hb2, -⟩ := h.form
  simp only [Value.slice.injEq, true_and] at e0
  obtain ⟨rfl, rfl⟩ := e0
  have hx := (HasF.nil (Keep.refl none_ w)).nilRow 35 3
  simp only [List.nil_append] at hx
  have HX := Lib.hid hx
  have HS := Lib.hid h
  clear hx h
  refine d_calls (n := 29) Try.func12 rfl rfl (by simp) [(0, .slice A ls.length c)] (by simp) ?_
  repeat first
    | apply d_seq
    | with_reducible apply kt_normal
    | apply l_nil
    | apply d_region
    | (apply l_off; (focus rfl); (focus rfl))
    | (apply l_val; (focus rfl); (focus rfl); (focus rfl); (focus (go_simp; (try simp (disch := omega) only [wrap_in, wrap_in', wrap_u16, wrap_u8, wrap_u32, wrap_u64, rem_in, quo_in]); first | done | with_reducible rfl | (constructor <;> with_reducible rfl))))
    | (apply l_store; (focus rfl); (focus rfl); (focus rfl); (focus (go_simp; (try simp (disch := omega) only [wrap_in, wrap_in', wrap_u16, wrap_u8, wrap_u32, wrap_u64, rem_in, quo_in]); first | done | with_reducible rfl | (constructor <;> with_reducible rfl))))
    | apply d_block
    | (apply d_true; (focus rfl); (focus rfl))
    | (apply d_false; (focus rfl); (focus rfl))
    | apply d_skip
    | apply d_exit
    | apply d_ret
    | with_reducible apply kt_ret
    | with_reducible apply kt_exit
    | with_reducible apply kb_normal
    | with_reducible apply kb_ret
    | with_reducible apply kb_here
    | with_reducible apply kl_ret
    | with_reducible apply kl_exit
    | with_reducible apply kc_ret
    | with_reducible apply kc_exit
    | (with_reducible apply kb_there; (focus rfl))
  refine d_loop (fun m D wr => ∃ (k : Nat) (B : Option Addr) (d : Nat), m = 10 - k ∧ k ≤ 10 ∧ k ≤ ls.length ∧ D = [(0, .slice A ls.length c), (3, .slice B k d), (4, .int .i64 k)] ∧ Hid (HasF none_ w wr [OwnA 0 35 3 (.slice B k d) k (lns ((ls.take k).map fun x => ({ x with item := x.item % 32 } : Ln)))])) (10) _ (Subl.cons (t := 0) (by decide) rfl (Subl.cons (t := 3) (by decide) rfl (Subl.cons (t := 4) (by decide) rfl (Subl.nil _ _)))) ?_ (fun m D wr hrel => ?_)
  · exact ⟨0, none, 0, rfl, Nat.zero_le _, Nat.zero_le _, rfl, HX⟩
  · clear HX
    obtain ⟨k, B, d, rfl, hk, hkl, rfl, HX⟩ := hrel
    by_cases h1 : k < ls.length
    · have q0 : decide (((k : Nat) : Int) < ((ls.length : Nat) : Int)) = true := decide_eq_true (by omega)
      by_cases h2 : k < 10
      · have q1 : decide (((k : Nat) : Int) < 10) = true := decide_eq_true (by omega)
        obtain ⟨y, hy⟩ : ∃ y, ls[k]? = some y := ⟨_, List.getElem?_eq_getElem h1⟩
        obtain ⟨g, o, rfl, -, -, d0, d1, d2⟩ := sees_ln (HS.out.keep HX.out.old) rfl hy
        have hsn := smL_snoc hy
        have hx := HX.out.box #[.int .u16 (y.item % 32), .int .u16 y.loc, .int .i64 y.qty] 35
        simp only [List.nil_append, List.cons_append] at hx
        obtain ⟨g2, cap, w3, hr, hc1, hc2, hx3⟩ := pushF_ln hx.sel1 (k := 0) rfl (by omega) { y with item := y.item % 32 }
        rw [show (wr.alloc (.cells #[.int .u16 (y.item % 32), .int .u16 y.loc, .int .i64 y.qty] 35)).heap.size = wr.heap.size + 1 by simp] at hr
        simp only [List.set_cons_zero] at hx3
        rw [← hsn] at hx3
        have HX3 := Lib.hid hx3
        have HR := Lib.hid hr
        clear HX hx hx3 hr hsn hy
        repeat first
          | apply d_seq
          | with_reducible apply kt_normal
          | apply l_nil
          | apply d_region
          | (apply l_off; (focus rfl); (focus rfl))
          | (apply l_val; (focus rfl); (focus rfl); (focus rfl); (focus (go_simp; (try simp (disch := omega) only [wrap_in, wrap_in', wrap_u16, wrap_u8, wrap_u32, wrap_u64, rem_in, quo_in]); first | done | with_reducible rfl | (constructor <;> with_reducible rfl))))
          | (apply l_store; (focus rfl); (focus rfl); (focus rfl); (focus (go_simp; (try simp (disch := omega) only [wrap_in, wrap_in', wrap_u16, wrap_u8, wrap_u32, wrap_u64, rem_in, quo_in]); first | done | with_reducible rfl | (constructor <;> with_reducible rfl))))
          | apply d_block
          | (apply d_true; (focus rfl); (focus rfl))
          | (apply d_false; (focus rfl); (focus rfl))
          | apply d_skip
          | apply d_exit
          | apply d_ret
          | with_reducible apply kt_ret
          | with_reducible apply kt_exit
          | with_reducible apply kb_normal
          | with_reducible apply kb_ret
          | with_reducible apply kb_here
          | with_reducible apply kl_ret
          | with_reducible apply kl_exit
          | with_reducible apply kc_ret
          | with_reducible apply kc_exit
          | (with_reducible apply kb_there; (focus rfl))
        refine l_val rfl rfl rfl (exec_append (.tmp 24) (.tmp 26) 22 rfl _ _ rfl rfl HR.out) ?_
        repeat first
          | apply d_seq
          | with_reducible apply kt_normal
          | apply l_nil
          | apply d_region
          | (apply l_off; (focus rfl); (focus rfl))
          | (apply l_val; (focus rfl); (focus rfl); (focus rfl); (focus (go_simp; (try simp (disch := omega) only [wrap_in, wrap_in', wrap_u16, wrap_u8, wrap_u32, wrap_u64, rem_in, quo_in]); first | done | with_reducible rfl | (constructor <;> with_reducible rfl))))
          | (apply l_store; (focus rfl); (focus rfl); (focus rfl); (focus (go_simp; (try simp (disch := omega) only [wrap_in, wrap_in', wrap_u16, wrap_u8, wrap_u32, wrap_u64, rem_in, quo_in]); first | done | with_reducible rfl | (constructor <;> with_reducible rfl))))
          | apply d_block
          | (apply d_true; (focus rfl); (focus rfl))
          | (apply d_false; (focus rfl); (focus rfl))
          | apply d_skip
          | apply d_exit
          | apply d_ret
          | with_reducible apply kt_ret
          | with_reducible apply kt_exit
          | with_reducible apply kb_normal
          | with_reducible apply kb_ret
          | with_reducible apply kb_here
          | with_reducible apply kl_ret
          | with_reducible apply kl_exit
          | with_reducible apply kc_ret
          | with_reducible apply kc_exit
          | (with_reducible apply kb_there; (focus rfl))
        refine kl_normal (10 - (k + 1)) _ (by omega) (Subl.cons (t := 0) (by decide) rfl (Subl.cons (t := 3) (by decide) rfl (Subl.cons (t := 4) (by decide) rfl (Subl.nil _ _)))) ?_
        exact ⟨k + 1, _, _, rfl, by omega, by omega, rfl, HX3⟩
      · have hk10 : k = 10 := by omega
        have q1 : decide (((k : Nat) : Int) < 10) = false := decide_eq_false (by omega)
        have HE : Hid ((ls.take k).map (fun x => ({ x with item := x.item % 32 } : Ln)) = smL ls) := Lib.hid (by rw [hk10]; rfl)
        have HL : Hid ((smL ls).length = k) := Lib.hid (by unfold smL; rw [List.length_map, List.length_take]; omega)
        clear hk10
        repeat first
          | apply d_seq
          | with_reducible apply kt_normal
          | apply l_nil
          | apply d_region
          | (apply l_off; (focus rfl); (focus rfl))
          | (apply l_val; (focus rfl); (focus rfl); (focus rfl); (focus (go_simp; (try simp (disch := omega) only [wrap_in, wrap_in', wrap_u16, wrap_u8, wrap_u32, wrap_u64, rem_in, quo_in]); first | done | with_reducible rfl | (constructor <;> with_reducible rfl))))
          | (apply l_store; (focus rfl); (focus rfl); (focus rfl); (focus (go_simp; (try simp (disch := omega) only [wrap_in, wrap_in', wrap_u16, wrap_u8, wrap_u32, wrap_u64, rem_in, quo_in]); first | done | with_reducible rfl | (constructor <;> with_reducible rfl))))
          | apply d_block
          | (apply d_true; (focus rfl); (focus rfl))
          | (apply d_false; (focus rfl); (focus rfl))
          | apply d_skip
          | apply d_exit
          | apply d_ret
          | with_reducible apply kt_ret
          | with_reducible apply kt_exit
          | with_reducible apply kb_normal
          | with_reducible apply kb_ret
          | with_reducible apply kb_here
          | with_reducible apply kl_ret
          | with_reducible apply kl_exit
          | with_reducible apply kc_ret
          | with_reducible apply kc_exit
          | (with_reducible apply kb_there; (focus rfl))
        refine ⟨rfl, _, (by first | (simp [resultsG, resOne, Try.results12, rho, List.lookup]; done) | (simp [resultsG, resOne, Try.results12, rho, List.lookup]; rfl)), ?_⟩
        have hx := HX.out
        rw [HE.out] at hx
        rw [HL.out]
        exact ⟨B, d, rfl, hx⟩
    · obtain rfl : k = ls.length := by omega
      have q0 : decide (((ls.length : Nat) : Int) < ((ls.length : Nat) : Int)) = false := by simp
      have HE : Hid ((ls.take ls.length).map (fun x => ({ x with item := x.item % 32 } : Ln)) = smL ls) := Lib.hid (by unfold smL; rw [List.take_of_length_le (Nat.le_refl _), List.take_of_length_le hk])
      have HL : Hid ((smL ls).length = ls.length) := Lib.hid (by unfold smL; rw [List.length_map, List.length_take]; omega)
      repeat first
        | apply d_seq
        | with_reducible apply kt_normal
        | apply l_nil
        | apply d_region
        | (apply l_off; (focus rfl); (focus rfl))
        | (apply l_val; (focus rfl); (focus rfl); (focus rfl); (focus (go_simp; (try simp (disch := omega) only [wrap_in, wrap_in', wrap_u16, wrap_u8, wrap_u32, wrap_u64, rem_in, quo_in]); first | done | with_reducible rfl | (constructor <;> with_reducible rfl))))
        | (apply l_store; (focus rfl); (focus rfl); (focus rfl); (focus (go_simp; (try simp (disch := omega) only [wrap_in, wrap_in', wrap_u16, wrap_u8, wrap_u32, wrap_u64, rem_in, quo_in]); first | done | with_reducible rfl | (constructor <;> with_reducible rfl))))
        | apply d_block
        | (apply d_true; (focus rfl); (focus rfl))
        | (apply d_false; (focus rfl); (focus rfl))
        | apply d_skip
        | apply d_exit
        | apply d_ret
        | with_reducible apply kt_ret
        | with_reducible apply kt_exit
        | with_reducible apply kb_normal
        | with_reducible apply kb_ret
        | with_reducible apply kb_here
        | with_reducible apply kl_ret
        | with_reducible apply kl_exit
        | with_reducible apply kc_ret
        | with_reducible apply kc_exit
        | (with_reducible apply kb_there; (focus rfl))
      refine ⟨rfl, _, (by first | (simp [resultsG, resOne, Try.results12, rho, List.lookup]; done) | (simp [resultsG, resOne, Try.results12, rho, List.lookup]; rfl)), ?_⟩
      have hx := HX.out
      rw [HE.out] at hx
      rw [HL.out]
      exact ⟨B, d, rfl, hx⟩
section
variable {w0 w : World} {L : List (Asrt w0.heap.size)}
theorem small_has (H : Has w0 w L) (ls : List Ln) (A : Option Addr) (n c : Nat) (hn : n = ls.length) (h : OldS w0 3 (.slice A n c) n (lns ls)) :
    Calls Try.prog 12 #[.slice A n c] w fun e w' => ∃ B d, e = .returned (.slice B (smL ls).length d) ∧ (smL ls).length ≤ d ∧ d ≤ 9223372036854775807 ∧ Has w0 w' (L ++ [OwnA w0.heap.size 35 3 (.slice B (smL ls).length d) (smL ls).length (lns (smL ls))]) := by
  refine (small_any ls A n c _ w (H.sees h) hn).mono ?_
  rintro e w' ⟨B, d, rfl, hx⟩
  obtain ⟨G, hg, hl⟩ := hx.get (i := 0) rfl
  have ho : Own w' G 35 3 (.slice B (smL ls).length d) (smL ls).length (lns (smL ls)) := hg
  obtain ⟨A2, c2, e, h1, h2⟩ := ho.len
  simp only [Value.slice.injEq, true_and] at e
  obtain ⟨rfl, rfl⟩ := e
  exact ⟨B, d, rfl, h1, by unfold maxLen at h2; omega, H.new hx.old (ho.move (fun q hq hl' => ⟨.inr ⟨(hl q hq).1.elim (fun c => c.elim) id, (hl q hq).2⟩, rfl⟩))⟩
end
theorem smL_qty {l : List Ln} {W : World} (h : ∀ x ∈ l, x.ok W) : ∀ x ∈ smL l, x.qty ≤ 9223372036854775807 := by
  intro x hx
  unfold smL at hx
  obtain ⟨y, hy, rfl⟩ := List.mem_map.1 hx
  exact (h y (List.mem_of_mem_take hy)).qty.2
end Go.Proofs.Ytienodnkfohakaa
