import Derived.Test.YtimaaaibpadlpaaZoneR4
import Derived.Test.YtimaaaibpadlpaaZoneS
import Derived.Test.YtimaaaibpadlpaaZoneArgs
import Derived.Test.YtimaaaibpadlpaaDW
import Derived.Deep.DeepCutAuto
import Derived.Deep.CutBlock
namespace Go.Proofs.Ytimaaaibpadlpaa
set_option linter.unusedVariables false
set_option linter.unusedSimpArgs false
attribute [local go_sem] rho_const rho_func rho_hit rho_miss
open Go.RowKit

theorem come_form (s : ZS) (tote : Int) (ls : List Ln) : ∃ a b : Int, (s.come tote ls).2 = .tuple #[.int .i64 a, .int .i64 b] := by
  unfold ZS.come
  split <;> exact ⟨_, _, rfl⟩
theorem leave_form (s : ZS) : ∃ a b : Int, s.leave.2 = .tuple #[.int .u16 a, .int .i64 b] := by
  unfold ZS.leave
  split <;> exact ⟨_, _, rfl⟩
theorem pick_form (s : ZS) (loc kind qty : Int) : ∃ a b c d e f : Int, (s.pick loc kind qty).2 = pickV a b c d e f := by
  unfold ZS.pick
  repeat' split
  all_goals exact ⟨_, _, _, _, _, _, rfl⟩
theorem eqL_self (l : List Ln) : eqL l l = true := by unfold eqL; simp
theorem Sim.lines {s : ZS} {t : RS} (h : Sim s t) : vlines s.visit = t.l := by
  obtain ⟨locs, v⟩ := s
  have h2 := h.v
  cases v with
  | none => exact h2.2.2.symm
  | some p => exact h2.2.2.symm
theorem Sim.toteV {s : ZS} {t : RS} (h : Sim s t) : toteV s.visit = .tuple #[.int .u16 t.tote, .bool t.there] := by
  obtain ⟨locs, v⟩ := s
  have h2 := h.v
  cases v with
  | none => obtain ⟨e1, e2, -⟩ := h2; rw [e1, e2]; rfl
  | some p => obtain ⟨e1, e2, -⟩ := h2; rw [e1, e2]; rfl
theorem Sim.over {s : ZS} {t : RS} (h : Sim s t) : overB s.visit = (t.there && ((t.l.length : Int) == 0)) := by
  obtain ⟨locs, v⟩ := s
  have h2 := h.v
  cases v with
  | none => obtain ⟨e1, e2, -⟩ := h2; rw [e1]; rfl
  | some p => obtain ⟨e1, e2, e3⟩ := h2; rw [e1, e3]; show decide _ = (true && (_ == _)); rw [Bool.true_and]; rfl

section
variable {w0 w : World} {L : List (Asrt w0.heap.size)}
theorem new_has (H : Has w0 w L) (lv : Value) (l : List Int) (h : OldS w0 1 lv l.length (ints .u16 l)) (hb : l.length * 2 ≤ 140737488355328) :
    Calls Try.prog 9 #[lv] w fun e w' => ∃ z, e = .returned (.pointer (some ⟨z, 0, none⟩)) ∧ Has w0 w' (L ++ [ZoneA w0.heap.size z ⟨l, none⟩]) := by
  refine (new_any lv l _ w (H.sees h) hb).mono ?_
  rintro e w' ⟨z, rfl, hk, hz⟩
  exact ⟨z, rfl, H.new hk hz⟩
theorem visit_has (H : Has w0 w L) (i z : Nat) (s : ZS) (hi : L[i]? = some (ZoneA w0.heap.size z s)) (tote : Int) (lv : Value) (ls : List Ln) (hl : OldS w0 3 lv ls.length (lns ls)) (hb : ls.length * 16 ≤ 140737488355328) :
    Calls Try.prog 10 #[.pointer (some ⟨z, 0, none⟩), .int .u16 tote, lv] w fun e w' => e = .returned (s.come tote ls).2 ∧ Has w0 w' (L.set i (ZoneA w0.heap.size z (s.come tote ls).1)) := by
  obtain ⟨F, hz, hF, hback⟩ := H.call hi
  refine (visit_any z s tote lv ls F _ w hz (H.sees hl) (fun k hg c => by have := (hF k c).1; omega) hb).mono ?_
  rintro e w' ⟨rfl, hk, hz'⟩
  exact ⟨rfl, hback w' _ hk hz'⟩
theorem picked_has (H : Has w0 w L) (i z : Nat) (s : ZS) (hi : L[i]? = some (ZoneA w0.heap.size z s)) (loc kind qty : Int) (hm : ∀ x ∈ vlines s.visit, x.qty ≤ 9223372036854775807) :
    Calls Try.prog 14 #[.pointer (some ⟨z, 0, none⟩), .int .u16 loc, .int .u8 kind, .int .i64 qty] w fun e w' => e = .returned (s.pick loc kind qty).2 ∧ Has w0 w' (L.set i (ZoneA w0.heap.size z (s.pick loc kind qty).1)) := by
  obtain ⟨F, hz, hF, hback⟩ := H.call hi
  refine (picked_any z s loc kind qty F w hz hm).mono ?_
  rintro e w' ⟨rfl, hk, hz'⟩
  exact ⟨rfl, hback w' _ hk hz'⟩
theorem leave_has (H : Has w0 w L) (i z : Nat) (s : ZS) (hi : L[i]? = some (ZoneA w0.heap.size z s)) :
    Calls Try.prog 18 #[.pointer (some ⟨z, 0, none⟩)] w fun e w' => e = .returned s.leave.2 ∧ Has w0 w' (L.set i (ZoneA w0.heap.size z s.leave.1)) := by
  obtain ⟨F, hz, hF, hback⟩ := H.call hi
  refine (leave_any z s F w hz).mono ?_
  rintro e w' ⟨rfl, hk, hz'⟩
  exact ⟨rfl, hback w' (ZoneA w0.heap.size z s.leave.1) hk (hz'.move (fun k hk _ => ⟨.inl hk, rfl⟩))⟩
theorem rVisit_has (H : Has w0 w L) (i r : Nat) (s : RS) (hi : L[i]? = some (RefA w0.heap.size r s)) (tote : Int) (lv : Value) (ls : List Ln) (hl : OldS w0 3 lv ls.length (lns ls)) (hb : ls.length * 16 ≤ 140737488355328) :
    Calls Try.prog 16 #[.pointer (some ⟨r, 0, none⟩), .int .u16 tote, lv] w fun e w' => e = .returned (s.come tote ls).2 ∧ Has w0 w' (L.set i (RefA w0.heap.size r (s.come tote ls).1)) := by
  obtain ⟨F, hz, hF, hback⟩ := H.call hi
  have hs := H.size
  refine (rVisit_any r s tote lv ls F _ _ w hz (fun k hk c => by have := (hF k c).1; omega) (fun k hk => by omega) (H.sees hl) (fun k hg c => by have := (hF k c).1; omega) hb).mono ?_
  rintro e w' ⟨rfl, hk, hz'⟩
  exact ⟨rfl, hback w' _ hk hz'⟩
theorem rPicked_has (H : Has w0 w L) (i r : Nat) (s : RS) (hi : L[i]? = some (RefA w0.heap.size r s)) (loc kind qty : Int) (hm : ∀ x ∈ s.l, x.qty ≤ 9223372036854775807) (hn : s.l.length ≤ 40) :
    Calls Try.prog 17 #[.pointer (some ⟨r, 0, none⟩), .int .u16 loc, .int .u8 kind, .int .i64 qty] w fun e w' => e = .returned (s.pick loc kind qty).2 ∧ Has w0 w' (L.set i (RefA w0.heap.size r (s.pick loc kind qty).1)) := by
  obtain ⟨F, hz, hF, hback⟩ := H.call hi
  have hs := H.size
  refine (rPicked_any r s loc kind qty F _ w hz (fun k hk c => by have := (hF k c).1; omega) (fun k hk => (hF k hk).2) (fun k hk => by omega) hm hn).mono ?_
  rintro e w' ⟨rfl, hk, hz'⟩
  exact ⟨rfl, hback w' _ hk hz'⟩
theorem rLeave_has (H : Has w0 w L) (i r : Nat) (s : RS) (hi : L[i]? = some (RefA w0.heap.size r s)) :
    Calls Try.prog 19 #[.pointer (some ⟨r, 0, none⟩)] w fun e w' => e = .returned s.leave.2 ∧ Has w0 w' (L.set i (RefA w0.heap.size r s.leave.1)) := by
  obtain ⟨F, hz, hF, hback⟩ := H.call hi
  refine (rLeave_any r F _ s w hz (fun k hk c => by have := (hF k c).1; omega)).mono ?_
  rintro e w' ⟨rfl, hk, hz'⟩
  exact ⟨rfl, hback w' (RefA w0.heap.size r s.leave.1) hk (hz'.move (Nat.le_refl _) (fun k hk _ => ⟨.inl hk, rfl⟩) (fun k hk _ => ⟨hk, rfl⟩))⟩
theorem ref_new (H : Has w0 w L) (lv : Value) (l : List Int) (h : OldS w0 1 lv l.length (ints .u16 l)) :
    Has w0 (w.alloc (.cells #[lv, .bool false, .int .u16 0, .slice none 0 0] 48)) (L ++ [RefA w0.heap.size w.heap.size ⟨l, false, 0, []⟩]) :=
  H.new ((Keep.refl _ _).alloc _) ⟨.inr ⟨Nat.le_refl _, by simp⟩, lv, .slice none 0 0, heap_alloc_new _ _, (H.alloc _).sees h, Own.nil _ _ _ _⟩
end

attribute [local go_sem] min2_mn min_two'

set_option maxRecDepth 100000 in
set_option maxHeartbeats 4000000 in
theorem zoneTells_any {w : World} {A0 : Option Addr} {n0 cq0 : Nat} {l0 : List Int} {A1 : Option Addr} {n1 cq1 : Nat} {l1 : List St}
    (h0 : SeesIn w (fun k => k < w.heap.size) 1 (.slice A0 n0 cq0) l0.length (ints .u16 l0) ∧ ∀ x ∈ l0, 0 ≤ x ∧ x < 65536)
    (h1 : SeesR w (fun k => k < w.heap.size) 6 (fun (y : St) cs => cs = y.cs ∧ y.ok w) (.slice A1 n1 cq1) l1) :
    Calls Try.prog 5 #[.slice A0 n0 cq0, .slice A1 n1 cq1] w fun e w' => e = .returned (.bool true) ∧ Keep none_ w w' := by
  obtain ⟨hs0, -⟩ := h0
  obtain ⟨A', c', e, hn1, hn2, -⟩ := id hs0
  simp only [Value.slice.injEq, true_and] at e
  obtain ⟨rfl, rfl, rfl⟩ := e
  obtain ⟨A', c', e, hn3, hn4, -⟩ := id h1
  simp only [Value.slice.injEq, true_and] at e
  obtain ⟨rfl, rfl, rfl⟩ := e
  obtain ⟨m0, hm0, hm1, hm2, -⟩ := mn_nat l0.length 60
  have hm3 : (m0 : Int) ≤ cq0 := by omega
  simp only [Int.cast_ofNat_Int] at hm0
  have e0 : (l0.take m0).length = m0 := by rw [List.length_take]; omega
  have HS0 : Hid (OldS w 1 (.slice A0 m0 cq0) (l0.take m0).length (ints .u16 (l0.take m0))) := by
    have := hs0.take m0 hm1
    rw [Nat.mul_one, show (ints .u16 l0).take m0 = ints .u16 (l0.take m0) from (List.map_take ..).symm] at this
    rw [e0]; exact this
  have HE0 := Lib.hid e0
  have HS1 := Lib.hid h1
  unfold maxLen at hn2 hn4
  clear hs0 e0 h1
  refine d_calls (n := 248) Try.func5 rfl rfl (by simp) [(0, .slice A0 l0.length cq0), (1, .slice A1 l1.length cq1)] (by simp) ?_
  repeat first
    | apply d_seq
    | with_reducible apply kt_normal
    | apply l_nil
    | apply d_region
    | (apply l_off; (focus rfl); (focus rfl))
    | (apply l_val; (focus rfl); (focus rfl); (focus rfl); (focus (go_simp; (try simp (disch := omega) only [wrap_in, wrap_in', wrap_u16, wrap_u8, wrap_u32, rem_in, quo_in]); first | done | with_reducible rfl | (constructor <;> with_reducible rfl))))
    | (apply l_store; (focus rfl); (focus rfl); (focus rfl); (focus (go_simp; (try simp (disch := omega) only [wrap_in, wrap_in', wrap_u16, wrap_u8, wrap_u32, rem_in, quo_in]); first | done | with_reducible rfl | (constructor <;> with_reducible rfl))))
    | apply d_block
    | (apply d_true; (focus rfl); (focus rfl))
    | (apply d_false; (focus rfl); (focus rfl))
    | apply d_skip
    | apply d_exit
    | apply d_ret
    | with_reducible apply kt_ret
    | with_reducible apply kt_exit
    | with_reducible apply kb_normal
    | with_reducible apply kb_ret
    | with_reducible apply kb_here
    | with_reducible apply kl_ret
    | with_reducible apply kl_exit
    | with_reducible apply kc_ret
    | with_reducible apply kc_exit
    | (with_reducible apply kb_there; (focus rfl))
  refine l_call rfl rfl rfl (by first | (go_simp; done) | (go_simp; rfl)) (shown_any _) ?_
  rintro e w' ⟨rfl, hk1⟩
  have HK1 := Lib.hid (Has.nil hk1)
  clear hk1
  refine ⟨_, rfl, ?_⟩
  repeat first
    | apply d_seq
    | with_reducible apply kt_normal
    | apply l_nil
    | apply d_region
    | (apply l_off; (focus rfl); (focus rfl))
    | (apply l_val; (focus rfl); (focus rfl); (focus rfl); (focus (go_simp; (try simp (disch := omega) only [wrap_in, wrap_in', wrap_u16, wrap_u8, wrap_u32, rem_in, quo_in]); first | done | with_reducible rfl | (constructor <;> with_reducible rfl))))
    | (apply l_store; (focus rfl); (focus rfl); (focus rfl); (focus (go_simp; (try simp (disch := omega) only [wrap_in, wrap_in', wrap_u16, wrap_u8, wrap_u32, rem_in, quo_in]); first | done | with_reducible rfl | (constructor <;> with_reducible rfl))))
    | apply d_block
    | (apply d_true; (focus rfl); (focus rfl))
    | (apply d_false; (focus rfl); (focus rfl))
    | apply d_skip
    | apply d_exit
    | apply d_ret
    | with_reducible apply kt_ret
    | with_reducible apply kt_exit
    | with_reducible apply kb_normal
    | with_reducible apply kb_ret
    | with_reducible apply kb_here
    | with_reducible apply kl_ret
    | with_reducible apply kl_exit
    | with_reducible apply kc_ret
    | with_reducible apply kc_exit
    | (with_reducible apply kb_there; (focus rfl))
  generalize l0.take m0 = L0 at *
  refine l_call rfl rfl rfl (by first | (go_simp; done) | (go_simp; rfl)) (new_has HK1.out _ L0 HS0.out (by rw [HE0.out]; omega)) ?_
  rintro e w' ⟨z, rfl, H2⟩
  have hr0 := ref_new H2 (.slice A0 m0 cq0) L0 HS0.out
  simp only [List.nil_append, List.cons_append] at hr0
  have HR0 := Lib.hid hr0
  clear hr0
  clear H2 HK1
  refine ⟨_, rfl, ?_⟩
  repeat first
    | apply d_seq
    | with_reducible apply kt_normal
    | apply l_nil
    | apply d_region
    | (apply l_off; (focus rfl); (focus rfl))
    | (apply l_val; (focus rfl); (focus rfl); (focus rfl); (focus (go_simp; (try simp (disch := omega) only [wrap_in, wrap_in', wrap_u16, wrap_u8, wrap_u32, rem_in, quo_in]); first | done | with_reducible rfl | (constructor <;> with_reducible rfl))))
    | (apply l_store; (focus rfl); (focus rfl); (focus rfl); (focus (go_simp; (try simp (disch := omega) only [wrap_in, wrap_in', wrap_u16, wrap_u8, wrap_u32, rem_in, quo_in]); first | done | with_reducible rfl | (constructor <;> with_reducible rfl))))
    | apply d_block
    | (apply d_true; (focus rfl); (focus rfl))
    | (apply d_false; (focus rfl); (focus rfl))
    | apply d_skip
    | apply d_exit
    | apply d_ret
    | with_reducible apply kt_ret
    | with_reducible apply kt_exit
    | with_reducible apply kb_normal
    | with_reducible apply kb_ret
    | with_reducible apply kb_here
    | with_reducible apply kl_ret
    | with_reducible apply kl_exit
    | with_reducible apply kc_ret
    | with_reducible apply kc_exit
    | (with_reducible apply kb_there; (focus rfl))
  generalize w'.heap.size = r at *
  refine d_loop (fun m D wr => ∃ (k : Nat) (s : ZS) (t : RS), m = l1.length - k ∧ k ≤ l1.length ∧ D = [(1, .slice A1 l1.length cq1), (5, .bool true), (6, .pointer (some ⟨z, 0, none⟩)), (7, .pointer (some ⟨r, 0, none⟩)), (8, .int .i64 k)] ∧ Hid (Sim s t ∧ Has w wr [ZoneA w.heap.size z s, RefA w.heap.size r t])) (l1.length) _ (Subl.cons (t := 1) (by decide) rfl (Subl.cons (t := 5) (by decide) rfl (Subl.cons (t := 6) (by decide) rfl (Subl.cons (t := 7) (by decide) rfl (Subl.cons (t := 8) (by decide) rfl (Subl.nil _ _)))))) ?_ (fun m D wr hrel => ?_)
  · exact ⟨0, _, _, rfl, Nat.zero_le _, rfl, Lib.hid ⟨Sim.start L0, HR0.out⟩⟩
  · obtain ⟨k, s, t, rfl, hk, rfl, HH⟩ := hrel
    clear HR0
    by_cases hlt : k < l1.length
    · by_cases h200 : (k : Int) < 200
      · obtain ⟨y, hy⟩ : ∃ y, l1[k]? = some y := ⟨_, List.getElem?_eq_getElem hlt⟩
        obtain ⟨hsim, H⟩ := HH.out
        obtain ⟨g, o, cp', e1, hgF, -, hq1, hq2, hyk, c0, c1, c2, c3, c4, c5⟩ := sees_step (HS1.out.move (w' := wr) (G := fun q => q < w.heap.size) H.size (fun q hq hl => ⟨hq, H.old.block q hl (fun c => c)⟩)) hy
        simp only [Value.slice.injEq, true_and] at e1
        obtain ⟨rfl, rfl⟩ := e1
        have hx := H.box #[.int .i64 y.kind, .int .u16 y.tote, .int .u16 y.loc, .int .u8 y.what, .int .i64 y.qty, y.v] 50
        simp only [List.nil_append, List.cons_append] at hx
        have hso := hyk.s
        have hlq := hyk.h
        obtain ⟨sA, sc, hyv, hsn, hsm, -⟩ := id hso
        rw [hyv] at c5 hx hso
        clear hy
        unfold maxLen at hsm
        obtain ⟨m, hm, hml, hmn, -⟩ := mn_nat y.l.length 40
        have hmc : (m : Int) ≤ sc := by omega
        simp only [Int.cast_ofNat_Int] at hm
        have hel : (y.l.take m).length = m := by rw [List.length_take]; omega
        have hsq : OldS w 3 (.slice sA m sc) (y.l.take m).length (lns (y.l.take m)) := by
          have := hso.take m hml
          rw [lns_take] at this
          rw [hel]; exact this
        have hqm : ∀ x ∈ y.l.take m, x.qty ≤ 9223372036854775807 := fun x hx => (hlq x (List.mem_of_mem_take hx)).q1
        have HX := Lib.hid hx
        have HSIM := Lib.hid hsim
        have HYK := Lib.hid hyk
        have HYV := Lib.hid hyv
        have HSO := Lib.hid hso
        have HLQ := Lib.hid hlq
        have HEL := Lib.hid hel
        have HSQ := Lib.hid hsq
        have HQM := Lib.hid hqm
        clear hx hsim hyk hyv hso hlq hel hsq hqm
        clear H HH
        repeat first
          | apply d_seq
          | with_reducible apply kt_normal
          | apply l_nil
          | apply d_region
          | (apply l_off; (focus rfl); (focus rfl))
          | (apply l_val; (focus rfl); (focus rfl); (focus rfl); (focus (go_simp; (try simp (disch := omega) only [wrap_in, wrap_in', wrap_u16, wrap_u8, wrap_u32, rem_in, quo_in]); first | done | with_reducible rfl | (constructor <;> with_reducible rfl))))
          | (apply l_store; (focus rfl); (focus rfl); (focus rfl); (focus (go_simp; (try simp (disch := omega) only [wrap_in, wrap_in', wrap_u16, wrap_u8, wrap_u32, rem_in, quo_in]); first | done | with_reducible rfl | (constructor <;> with_reducible rfl))))
          | ((fail_if_success (with_reducible apply d_block (id := 2))); apply d_block)
          | (apply d_true; (focus rfl); (focus rfl))
          | (apply d_false; (focus rfl); (focus rfl))
          | apply d_skip
          | apply d_exit
          | apply d_ret
          | with_reducible apply kt_ret
          | with_reducible apply kt_exit
          | with_reducible apply kb_normal
          | with_reducible apply kb_ret
          | with_reducible apply kb_here
          | with_reducible apply kl_ret
          | with_reducible apply kl_exit
          | with_reducible apply kc_ret
          | with_reducible apply kc_exit
          | (with_reducible apply kb_there; (focus rfl))
        obtain ⟨x0, x1, x2, x3, x4, x5, -⟩ := blk6 (HX.out.blk (i := 2) rfl)
        generalize wr.alloc (.cells #[.int .i64 y.kind, .int .u16 y.tote, .int .u16 y.loc, .int .u8 y.what, .int .i64 y.qty, .slice sA y.l.length sc] 50) = wx at *
        generalize wr.heap.size = xb at *
        refine d_join (fun D wr => ∃ (s : ZS) (t : RS), D = [(1, .slice (some ⟨g, o, none⟩) l1.length cq1), (5, .bool true), (6, .pointer (some ⟨z, 0, none⟩)), (7, .pointer (some ⟨r, 0, none⟩)), (8, .int .i64 k), (9, .pointer (some ⟨xb, 0, none⟩)), (10, .bool true)] ∧ Hid (Sim s t ∧ Has w wr [ZoneA w.heap.size z s, RefA w.heap.size r t, BlkA w.heap.size xb #[.int .i64 y.kind, .int .u16 y.tote, .int .u16 y.loc, .int .u8 y.what, .int .i64 y.qty, .slice sA y.l.length sc] 50])) ?_ (fun D wr hcut => ?_)
        · by_cases e0 : y.kind = 0
          · have b0 : (y.kind == 0) = true := by simp [e0]
            clear e0
            repeat first
              | apply d_seq
              | with_reducible apply kt_normal
              | apply l_nil
              | apply d_region
              | (apply l_off; (focus rfl); (focus rfl))
              | (apply l_val; (focus rfl); (focus rfl); (focus rfl); (focus (go_simp; (try simp (disch := omega) only [wrap_in, wrap_in', wrap_u16, wrap_u8, wrap_u32, rem_in, quo_in]); first | done | with_reducible rfl | (constructor <;> with_reducible rfl))))
              | (apply l_store; (focus rfl); (focus rfl); (focus rfl); (focus (go_simp; (try simp (disch := omega) only [wrap_in, wrap_in', wrap_u16, wrap_u8, wrap_u32, rem_in, quo_in]); first | done | with_reducible rfl | (constructor <;> with_reducible rfl))))
              | apply d_block
              | (apply d_true; (focus rfl); (focus rfl))
              | (apply d_false; (focus rfl); (focus rfl))
              | apply d_skip
              | apply d_exit
              | apply d_ret
              | with_reducible apply kt_ret
              | with_reducible apply kt_exit
              | with_reducible apply kb_normal
              | with_reducible apply kb_ret
              | with_reducible apply kb_here
              | with_reducible apply kl_ret
              | with_reducible apply kl_exit
              | with_reducible apply kc_ret
              | with_reducible apply kc_exit
              | (with_reducible apply kb_there; (focus rfl))
            refine d_draw (true, [([], []), ([], []), ([1], [1]), ([], []), ([3], [3]), ([], []), ([5], [5]), ([6], [6]), ([7], [7]), ([4, 8], [4, 8]), ([0, 2, 9], [0, 2, 9]), ([10], [10]), ([11], [11]), ([11], [11]), ([12, 10, 0, 1, 2, 3, 4, 5, 6, 7, 8, 9, 10, 11, 12], [12]), ([13, 14, 0, 1, 2, 3, 4, 5, 6, 7, 8, 9, 10, 11, 12, 13, 14], [13])]) [(0, 0), (0, 1), (0, 2), (0, 3), (0, 4), (0, 5), (0, 6), (0, 7), (0, 8), (0, 9), (1, 10), (0, 11), (0, 12), (0, 13), (0, 14), (0, 15)] [999999] (fun W => W.cell? ⟨xb, 1, none⟩ = some (.int .u16 y.tote) ∧ W.cell? ⟨xb, 5, none⟩ = some (.slice sA y.l.length sc)) (by kernel_rfl) (by kernel_rfl) (by kernel_rfl) (by kernel_rfl) ⟨x1, x5⟩ ?_
            iterate 10
              first | (apply s_off; (focus rfl); (focus rfl); (focus rfl)) | (apply s_yield; (focus rfl); (focus rfl); (focus rfl); (focus rfl); (focus (intro W hS; obtain ⟨hS1, hS2⟩ := hS; go_simp; (try simp (disch := omega) only [wrap_in, wrap_in', wrap_u16, wrap_u8, wrap_u32, rem_in, quo_in]); first | done | with_reducible rfl | (constructor <;> with_reducible rfl))))
            refine s_call rfl rfl rfl rfl (by first | (go_simp; done) | (go_simp; rfl)) (visit_has HX.out.drew 0 z s rfl y.tote _ _ HSQ.out (by rw [HEL.out]; omega)) ?_
            rintro e w' ⟨rfl, H1⟩
            have hcm := HSIM.out.come y.tote (y.l.take m) (by rw [HEL.out]; exact hmn) HQM.out
            obtain ⟨a1, a2, hcv⟩ := come_form s y.tote (y.l.take m)
            have hcw := hcm.1.symm.trans hcv
            have H1' := Lib.hid H1
            obtain ⟨y0, y1, y2, y3, y4, y5, -⟩ := blk6 (H1.blk (i := 2) rfl)
            rw [hcv]
            have HCM := Lib.hid hcm
            have HCV := Lib.hid hcv
            have HCW := Lib.hid hcw
            clear hcm hcv hcw
            clear H1
            refine ⟨_, rfl, ⟨y1, y5⟩, ?_⟩
            iterate 5
              first | (apply s_off; (focus rfl); (focus rfl); (focus rfl)) | (apply s_yield; (focus rfl); (focus rfl); (focus rfl); (focus rfl); (focus (intro W hS; obtain ⟨hS1, hS2⟩ := hS; go_simp; (try simp (disch := omega) only [wrap_in, wrap_in', wrap_u16, wrap_u8, wrap_u32, rem_in, quo_in]); first | done | with_reducible rfl | (constructor <;> with_reducible rfl))))
            refine s_done ?_
            repeat first
              | apply d_seq
              | with_reducible apply kt_normal
              | apply l_nil
              | apply d_region
              | (apply l_off; (focus rfl); (focus rfl))
              | (apply l_val; (focus rfl); (focus rfl); (focus rfl); (focus (go_simp; (try simp (disch := omega) only [wrap_in, wrap_in', wrap_u16, wrap_u8, wrap_u32, rem_in, quo_in]); first | done | with_reducible rfl | (constructor <;> with_reducible rfl))))
              | (apply l_store; (focus rfl); (focus rfl); (focus rfl); (focus (go_simp; (try simp (disch := omega) only [wrap_in, wrap_in', wrap_u16, wrap_u8, wrap_u32, rem_in, quo_in]); first | done | with_reducible rfl | (constructor <;> with_reducible rfl))))
              | apply d_block
              | (apply d_true; (focus rfl); (focus rfl))
              | (apply d_false; (focus rfl); (focus rfl))
              | apply d_skip
              | apply d_exit
              | apply d_ret
              | with_reducible apply kt_ret
              | with_reducible apply kt_exit
              | with_reducible apply kb_normal
              | with_reducible apply kb_ret
              | with_reducible apply kb_here
              | with_reducible apply kl_ret
              | with_reducible apply kl_exit
              | with_reducible apply kc_ret
              | with_reducible apply kc_exit
              | (with_reducible apply kb_there; (focus rfl))
            refine d_draw (true, [([], []), ([], []), ([1], [1]), ([], []), ([3], [3]), ([], []), ([5], [5]), ([6], [6]), ([7], [7]), ([4, 8], [4, 8]), ([0, 2, 9], [0, 2, 9]), ([10], [10]), ([11], [11]), ([11], [11]), ([12, 10, 0, 1, 2, 3, 4, 5, 6, 7, 8, 9, 10, 11, 12], [12]), ([13, 14, 0, 1, 2, 3, 4, 5, 6, 7, 8, 9, 10, 11, 12, 13, 14], [13])]) [(0, 0), (0, 1), (0, 2), (0, 3), (0, 4), (0, 5), (0, 6), (0, 7), (0, 8), (0, 9), (1, 10), (0, 11), (0, 12), (0, 13), (0, 14), (0, 15)] [999999] (fun W => W.cell? ⟨xb, 1, none⟩ = some (.int .u16 y.tote) ∧ W.cell? ⟨xb, 5, none⟩ = some (.slice sA y.l.length sc)) (by kernel_rfl) (by kernel_rfl) (by kernel_rfl) (by kernel_rfl) ⟨y1, y5⟩ ?_
            iterate 10
              first | (apply s_off; (focus rfl); (focus rfl); (focus rfl)) | (apply s_yield; (focus rfl); (focus rfl); (focus rfl); (focus rfl); (focus (intro W hS; obtain ⟨hS1, hS2⟩ := hS; go_simp; (try simp (disch := omega) only [wrap_in, wrap_in', wrap_u16, wrap_u8, wrap_u32, rem_in, quo_in]); first | done | with_reducible rfl | (constructor <;> with_reducible rfl))))
            refine s_call rfl rfl rfl rfl (by first | (go_simp; done) | (go_simp; rfl)) (rVisit_has H1'.out.drew 1 r t rfl y.tote _ _ HSQ.out (by rw [HEL.out]; omega)) ?_
            rintro e w' ⟨rfl, H2⟩
            obtain ⟨v0, v1, v2, v3, v4, v5, -⟩ := blk6 (H2.blk (i := 2) rfl)
            have H2' := Lib.hid H2
            rw [HCW.out]
            clear H2
            refine ⟨_, rfl, ⟨v1, v5⟩, ?_⟩
            iterate 5
              first | (apply s_off; (focus rfl); (focus rfl); (focus rfl)) | (apply s_yield; (focus rfl); (focus rfl); (focus rfl); (focus rfl); (focus (intro W hS; obtain ⟨hS1, hS2⟩ := hS; go_simp; (try simp (disch := omega) only [wrap_in, wrap_in', wrap_u16, wrap_u8, wrap_u32, rem_in, quo_in]); first | done | with_reducible rfl | (constructor <;> with_reducible rfl))))
            refine s_done ?_
            repeat first
              | apply d_seq
              | with_reducible apply kt_normal
              | apply l_nil
              | apply d_region
              | (apply l_off; (focus rfl); (focus rfl))
              | (apply l_val; (focus rfl); (focus rfl); (focus rfl); (focus (go_simp; (try simp (disch := omega) only [wrap_in, wrap_in', wrap_u16, wrap_u8, wrap_u32, rem_in, quo_in]); first | done | with_reducible rfl | (constructor <;> with_reducible rfl))))
              | (apply l_store; (focus rfl); (focus rfl); (focus rfl); (focus (go_simp; (try simp (disch := omega) only [wrap_in, wrap_in', wrap_u16, wrap_u8, wrap_u32, rem_in, quo_in]); first | done | with_reducible rfl | (constructor <;> with_reducible rfl))))
              | apply d_block
              | (apply d_true; (focus rfl); (focus rfl))
              | (apply d_false; (focus rfl); (focus rfl))
              | apply d_skip
              | apply d_exit
              | apply d_ret
              | with_reducible apply kt_ret
              | with_reducible apply kt_exit
              | with_reducible apply kb_normal
              | with_reducible apply kb_ret
              | with_reducible apply kb_here
              | with_reducible apply kl_ret
              | with_reducible apply kl_exit
              | with_reducible apply kc_ret
              | with_reducible apply kc_exit
              | (with_reducible apply kb_there; (focus rfl))
            refine kc_normal _ (Subl.cons (t := 1) (by decide) rfl (Subl.cons (t := 5) (by decide) rfl (Subl.cons (t := 6) (by decide) rfl (Subl.cons (t := 7) (by decide) rfl (Subl.cons (t := 8) (by decide) rfl (Subl.cons (t := 9) (by decide) rfl (Subl.cons (t := 10) (by decide) rfl (Subl.nil _ _)))))))) ?_
            exact ⟨_, _, rfl, Lib.hid ⟨HCM.out.2, H2'.out⟩⟩
          · by_cases e1 : y.kind = 1 ∨ y.kind = 2 ∨ y.kind = 3 ∨ y.kind = 4
            · have b0 : (y.kind == 0) = false := by simp [e0]
              clear e0
              have hcm := HSIM.out.pick y.loc y.what y.qty
              obtain ⟨a1, a2, a3, a4, a5, a6, hcv⟩ := pick_form s y.loc y.what y.qty
              have hcw := hcm.1.symm.trans hcv
              have hpm : ∀ x ∈ vlines s.visit, x.qty ≤ 9223372036854775807 := by rw [HSIM.out.lines]; exact fun x hx => (HSIM.out.p x hx).2
              have hpr : ∀ x ∈ t.l, x.qty ≤ 9223372036854775807 := fun x hx => (HSIM.out.p x hx).2
              have HCM := Lib.hid hcm
              have HCV := Lib.hid hcv
              have HCW := Lib.hid hcw
              have HPM := Lib.hid hpm
              have HPR := Lib.hid hpr
              clear hcm hcv hcw hpm hpr
              rcases e1 with e1 | e1 | e1 | e1
              all_goals
                simp only [e1] at b0 x0
                repeat first
                  | apply d_seq
                  | with_reducible apply kt_normal
                  | apply l_nil
                  | apply d_region
                  | (apply l_off; (focus rfl); (focus rfl))
                  | (apply l_val; (focus rfl); (focus rfl); (focus rfl); (focus (go_simp; (try simp (disch := omega) only [wrap_in, wrap_in', wrap_u16, wrap_u8, wrap_u32, rem_in, quo_in]); first | done | with_reducible rfl | (constructor <;> with_reducible rfl))))
                  | (apply l_store; (focus rfl); (focus rfl); (focus rfl); (focus (go_simp; (try simp (disch := omega) only [wrap_in, wrap_in', wrap_u16, wrap_u8, wrap_u32, rem_in, quo_in]); first | done | with_reducible rfl | (constructor <;> with_reducible rfl))))
                  | apply d_block
                  | (apply d_true; (focus rfl); (focus rfl))
                  | (apply d_false; (focus rfl); (focus rfl))
                  | apply d_skip
                  | apply d_exit
                  | apply d_ret
                  | with_reducible apply kt_ret
                  | with_reducible apply kt_exit
                  | with_reducible apply kb_normal
                  | with_reducible apply kb_ret
                  | with_reducible apply kb_here
                  | with_reducible apply kl_ret
                  | with_reducible apply kl_exit
                  | with_reducible apply kc_ret
                  | with_reducible apply kc_exit
                  | (with_reducible apply kb_there; (focus rfl))
                refine l_call rfl rfl rfl (by first | (go_simp; done) | (go_simp; rfl)) (picked_has HX.out 0 z s rfl y.loc y.what y.qty HPM.out) ?_
                rintro e w' ⟨rfl, H1⟩
                have H1' := Lib.hid (H1.box #[.int .u16 a1, .int .u16 a2, .int .u16 a3, .int .i64 a4, .int .i64 a5] 41)
                have hlt1 := lt_of_block (H1.blk (i := 2) rfl)
                obtain ⟨y0, y1, y2, y3, y4, y5, -⟩ := blk6 (H1.blk (i := 2) rfl)
                rw [HCV.out, pickV]
                clear H1
                refine ⟨_, rfl, ?_⟩
                repeat first
                  | apply d_seq
                  | with_reducible apply kt_normal
                  | apply l_nil
                  | apply d_region
                  | (apply l_off; (focus rfl); (focus rfl))
                  | (apply l_val; (focus rfl); (focus rfl); (focus rfl); (focus (go_simp; (try simp (disch := omega) only [wrap_in, wrap_in', wrap_u16, wrap_u8, wrap_u32, rem_in, quo_in]); first | done | with_reducible rfl | (constructor <;> with_reducible rfl))))
                  | (apply l_store; (focus rfl); (focus rfl); (focus rfl); (focus (go_simp; (try simp (disch := omega) only [wrap_in, wrap_in', wrap_u16, wrap_u8, wrap_u32, rem_in, quo_in]); first | done | with_reducible rfl | (constructor <;> with_reducible rfl))))
                  | apply d_block
                  | (apply d_true; (focus rfl); (focus rfl))
                  | (apply d_false; (focus rfl); (focus rfl))
                  | apply d_skip
                  | apply d_exit
                  | apply d_ret
                  | with_reducible apply kt_ret
                  | with_reducible apply kt_exit
                  | with_reducible apply kb_normal
                  | with_reducible apply kb_ret
                  | with_reducible apply kb_here
                  | with_reducible apply kl_ret
                  | with_reducible apply kl_exit
                  | with_reducible apply kc_ret
                  | with_reducible apply kc_exit
                  | (with_reducible apply kb_there; (focus rfl))
                refine l_call rfl rfl rfl (by first | (go_simp; done) | (go_simp; rfl)) (rPicked_has H1'.out 1 r t rfl y.loc y.what y.qty HPR.out HSIM.out.n) ?_
                rintro e w' ⟨rfl, H2⟩
                obtain ⟨p0, p1, p2, p3, p4, -⟩ := blk5 (H2.blk (i := 3) rfl)
                have hlt2 := lt_of_block (H2.blk (i := 3) rfl)
                have H2' := Lib.hid ((H2.alloc (.cells #[.int .u16 a1, .int .u16 a2, .int .u16 a3, .int .i64 a4, .int .i64 a5] 51)).take 3)
                rw [HCW.out, pickV]
                clear H2
                refine ⟨_, rfl, ?_⟩
                repeat first
                  | apply d_seq
                  | with_reducible apply kt_normal
                  | apply l_nil
                  | apply d_region
                  | (apply l_off; (focus rfl); (focus rfl))
                  | (apply l_val; (focus rfl); (focus rfl); (focus rfl); (focus (go_simp; (try simp (disch := omega) only [wrap_in, wrap_in', wrap_u16, wrap_u8, wrap_u32, rem_in, quo_in]); first | done | with_reducible rfl | (constructor <;> with_reducible rfl))))
                  | (apply l_store; (focus rfl); (focus rfl); (focus rfl); (focus (go_simp; (try simp (disch := omega) only [wrap_in, wrap_in', wrap_u16, wrap_u8, wrap_u32, rem_in, quo_in]); first | done | with_reducible rfl | (constructor <;> with_reducible rfl))))
                  | apply d_block
                  | (apply d_true; (focus rfl); (focus rfl))
                  | (apply d_false; (focus rfl); (focus rfl))
                  | apply d_skip
                  | apply d_exit
                  | apply d_ret
                  | with_reducible apply kt_ret
                  | with_reducible apply kt_exit
                  | with_reducible apply kb_normal
                  | with_reducible apply kb_ret
                  | with_reducible apply kb_here
                  | with_reducible apply kl_ret
                  | with_reducible apply kl_exit
                  | with_reducible apply kc_ret
                  | with_reducible apply kc_exit
                  | (with_reducible apply kb_there; (focus rfl))
                refine kc_normal _ (Subl.cons (t := 1) (by decide) rfl (Subl.cons (t := 5) (by decide) rfl (Subl.cons (t := 6) (by decide) rfl (Subl.cons (t := 7) (by decide) rfl (Subl.cons (t := 8) (by decide) rfl (Subl.cons (t := 9) (by decide) rfl (Subl.cons (t := 10) (by decide) rfl (Subl.nil _ _)))))))) ?_
                exact ⟨_, _, rfl, Lib.hid ⟨HCM.out.2, H2'.out⟩⟩
            · have b0 : (y.kind == 0) = false := by simp [e0]
              have b1 : (y.kind == 1) = false := by simp; omega
              have b2 : (y.kind == 2) = false := by simp; omega
              have b3 : (y.kind == 3) = false := by simp; omega
              have b4 : (y.kind == 4) = false := by simp; omega
              clear e0 e1
              by_cases e5 : y.kind = 5
              · have b5 : (y.kind == 5) = true := by simp [e5]
                clear e5
                have hcm := HSIM.out.leave
                obtain ⟨a1, a2, hcv⟩ := leave_form s
                have hcw := hcm.1.symm.trans hcv
                have HCM := Lib.hid hcm
                have HCV := Lib.hid hcv
                have HCW := Lib.hid hcw
                clear hcm hcv hcw
                repeat first
                  | apply d_seq
                  | with_reducible apply kt_normal
                  | apply l_nil
                  | apply d_region
                  | (apply l_off; (focus rfl); (focus rfl))
                  | (apply l_val; (focus rfl); (focus rfl); (focus rfl); (focus (go_simp; (try simp (disch := omega) only [wrap_in, wrap_in', wrap_u16, wrap_u8, wrap_u32, rem_in, quo_in]); first | done | with_reducible rfl | (constructor <;> with_reducible rfl))))
                  | (apply l_store; (focus rfl); (focus rfl); (focus rfl); (focus (go_simp; (try simp (disch := omega) only [wrap_in, wrap_in', wrap_u16, wrap_u8, wrap_u32, rem_in, quo_in]); first | done | with_reducible rfl | (constructor <;> with_reducible rfl))))
                  | apply d_block
                  | (apply d_true; (focus rfl); (focus rfl))
                  | (apply d_false; (focus rfl); (focus rfl))
                  | apply d_skip
                  | apply d_exit
                  | apply d_ret
                  | with_reducible apply kt_ret
                  | with_reducible apply kt_exit
                  | with_reducible apply kb_normal
                  | with_reducible apply kb_ret
                  | with_reducible apply kb_here
                  | with_reducible apply kl_ret
                  | with_reducible apply kl_exit
                  | with_reducible apply kc_ret
                  | with_reducible apply kc_exit
                  | (with_reducible apply kb_there; (focus rfl))
                refine l_call rfl rfl rfl (by first | (go_simp; done) | (go_simp; rfl)) (leave_has HX.out 0 z s rfl) ?_
                rintro e w' ⟨rfl, H1⟩
                have H1' := Lib.hid H1
                rw [HCV.out]
                clear H1
                refine ⟨_, rfl, ?_⟩
                repeat first
                  | apply d_seq
                  | with_reducible apply kt_normal
                  | apply l_nil
                  | apply d_region
                  | (apply l_off; (focus rfl); (focus rfl))
                  | (apply l_val; (focus rfl); (focus rfl); (focus rfl); (focus (go_simp; (try simp (disch := omega) only [wrap_in, wrap_in', wrap_u16, wrap_u8, wrap_u32, rem_in, quo_in]); first | done | with_reducible rfl | (constructor <;> with_reducible rfl))))
                  | (apply l_store; (focus rfl); (focus rfl); (focus rfl); (focus (go_simp; (try simp (disch := omega) only [wrap_in, wrap_in', wrap_u16, wrap_u8, wrap_u32, rem_in, quo_in]); first | done | with_reducible rfl | (constructor <;> with_reducible rfl))))
                  | apply d_block
                  | (apply d_true; (focus rfl); (focus rfl))
                  | (apply d_false; (focus rfl); (focus rfl))
                  | apply d_skip
                  | apply d_exit
                  | apply d_ret
                  | with_reducible apply kt_ret
                  | with_reducible apply kt_exit
                  | with_reducible apply kb_normal
                  | with_reducible apply kb_ret
                  | with_reducible apply kb_here
                  | with_reducible apply kl_ret
                  | with_reducible apply kl_exit
                  | with_reducible apply kc_ret
                  | with_reducible apply kc_exit
                  | (with_reducible apply kb_there; (focus rfl))
                refine l_call rfl rfl rfl (by first | (go_simp; done) | (go_simp; rfl)) (rLeave_has H1'.out 1 r t rfl) ?_
                rintro e w' ⟨rfl, H2⟩
                have H2' := Lib.hid H2
                rw [HCW.out]
                clear H2
                refine ⟨_, rfl, ?_⟩
                repeat first
                  | apply d_seq
                  | with_reducible apply kt_normal
                  | apply l_nil
                  | apply d_region
                  | (apply l_off; (focus rfl); (focus rfl))
                  | (apply l_val; (focus rfl); (focus rfl); (focus rfl); (focus (go_simp; (try simp (disch := omega) only [wrap_in, wrap_in', wrap_u16, wrap_u8, wrap_u32, rem_in, quo_in]); first | done | with_reducible rfl | (constructor <;> with_reducible rfl))))
                  | (apply l_store; (focus rfl); (focus rfl); (focus rfl); (focus (go_simp; (try simp (disch := omega) only [wrap_in, wrap_in', wrap_u16, wrap_u8, wrap_u32, rem_in, quo_in]); first | done | with_reducible rfl | (constructor <;> with_reducible rfl))))
                  | apply d_block
                  | (apply d_true; (focus rfl); (focus rfl))
                  | (apply d_false; (focus rfl); (focus rfl))
                  | apply d_skip
                  | apply d_exit
                  | apply d_ret
                  | with_reducible apply kt_ret
                  | with_reducible apply kt_exit
                  | with_reducible apply kb_normal
                  | with_reducible apply kb_ret
                  | with_reducible apply kb_here
                  | with_reducible apply kl_ret
                  | with_reducible apply kl_exit
                  | with_reducible apply kc_ret
                  | with_reducible apply kc_exit
                  | (with_reducible apply kb_there; (focus rfl))
                refine kc_normal _ (Subl.cons (t := 1) (by decide) rfl (Subl.cons (t := 5) (by decide) rfl (Subl.cons (t := 6) (by decide) rfl (Subl.cons (t := 7) (by decide) rfl (Subl.cons (t := 8) (by decide) rfl (Subl.cons (t := 9) (by decide) rfl (Subl.cons (t := 10) (by decide) rfl (Subl.nil _ _)))))))) ?_
                exact ⟨_, _, rfl, Lib.hid ⟨HCM.out.2, H2'.out⟩⟩
              · have b5 : (y.kind == 5) = false := by simp [e5]
                clear e5
                repeat first
                  | apply d_seq
                  | with_reducible apply kt_normal
                  | apply l_nil
                  | apply d_region
                  | (apply l_off; (focus rfl); (focus rfl))
                  | (apply l_val; (focus rfl); (focus rfl); (focus rfl); (focus (go_simp; (try simp (disch := omega) only [wrap_in, wrap_in', wrap_u16, wrap_u8, wrap_u32, rem_in, quo_in]); first | done | with_reducible rfl | (constructor <;> with_reducible rfl))))
                  | (apply l_store; (focus rfl); (focus rfl); (focus rfl); (focus (go_simp; (try simp (disch := omega) only [wrap_in, wrap_in', wrap_u16, wrap_u8, wrap_u32, rem_in, quo_in]); first | done | with_reducible rfl | (constructor <;> with_reducible rfl))))
                  | apply d_block
                  | (apply d_true; (focus rfl); (focus rfl))
                  | (apply d_false; (focus rfl); (focus rfl))
                  | apply d_skip
                  | apply d_exit
                  | apply d_ret
                  | with_reducible apply kt_ret
                  | with_reducible apply kt_exit
                  | with_reducible apply kb_normal
                  | with_reducible apply kb_ret
                  | with_reducible apply kb_here
                  | with_reducible apply kl_ret
                  | with_reducible apply kl_exit
                  | with_reducible apply kc_ret
                  | with_reducible apply kc_exit
                  | (with_reducible apply kb_there; (focus rfl))
                refine kc_normal _ (Subl.cons (t := 1) (by decide) rfl (Subl.cons (t := 5) (by decide) rfl (Subl.cons (t := 6) (by decide) rfl (Subl.cons (t := 7) (by decide) rfl (Subl.cons (t := 8) (by decide) rfl (Subl.cons (t := 9) (by decide) rfl (Subl.cons (t := 10) (by decide) rfl (Subl.nil _ _)))))))) ?_
                exact ⟨_, _, rfl, Lib.hid ⟨HSIM.out, HX.out⟩⟩
        · obtain ⟨s, t, rfl, HH⟩ := hcut
          clear HX HSIM
          obtain ⟨hsim, H⟩ := HH.out
          obtain ⟨x0, x1, x2, x3, x4, x5, -⟩ := blk6 (H.blk (i := 2) rfl)
          obtain ⟨F, hz, hF⟩ := H.get (i := 0) rfl
          obtain ⟨V, z0, hV⟩ := ZRep.field hz
          obtain ⟨G, hr, hG⟩ := H.get (i := 1) rfl
          obtain ⟨hGr, lv, wv, hrb, hrl, hrw⟩ := hr
          obtain ⟨r0, r1, r2, r3, -⟩ := blk4 hrb
          obtain ⟨Aw, cw, rfl, hw1, hw2⟩ := hrw.len
          have ht := tote_any V s.visit F wr hV
          rw [hsim.toteV] at ht
          -- whatever is called, nothing of this changes
          have hS : ∀ W : World, Keep none_ wr W → W.cell? ⟨r, 1, none⟩ = some (.bool t.there) ∧ W.cell? ⟨r, 2, none⟩ = some (.int .u16 t.tote) ∧ W.cell? ⟨r, 3, none⟩ = some (.slice Aw t.l.length cw) ∧ W.cell? ⟨z, 0, none⟩ = some V ∧ W.cell? ⟨xb, 2, none⟩ = some (.int .u16 y.loc) := fun W hW =>
            have hc : ∀ (b j : Nat) (v : Value), wr.cell? ⟨b, j, none⟩ = some v → W.cell? ⟨b, j, none⟩ = some v := fun b j v h => (hW.cell (p := ⟨b, j, none⟩) (World.block_lt_of_cell? wr _ h) (fun c => c)).trans h
            ⟨hc _ _ _ r1, hc _ _ _ r2, hc _ _ _ r3, hc _ _ _ z0, hc _ _ _ x2⟩
          have hVm : ∀ W : World, Keep none_ wr W → VRep W F V s.visit := fun W hW => hV.move (fun k hk hl => ⟨hk, hW.block k hl (fun c => c)⟩)
          have hzm : ∀ W : World, Keep none_ wr W → ZRep W F z s := fun W hW => hz.move (fun k hk hl => ⟨hk, hW.block k hl (fun c => c)⟩)
          have hrm : ∀ W : World, Keep none_ wr W → RRep W G (fun k => k < w.heap.size) r t := fun W hW => RRep.move ⟨hGr, lv, _, hrb, hrl, hrw⟩ hW.size (fun k hk hl => ⟨hk, hW.block k hl (fun c => c)⟩) (fun k hk hl => ⟨hk, hW.block k hl (fun c => c)⟩)
          have hwm : ∀ W : World, Keep none_ wr W → SeesIn W G 3 (.slice Aw t.l.length cw) t.l.length (lns t.l) := fun W hW => hrw.sees.move hW.size (fun k hk hl => ⟨hk, hW.block k hl (fun c => c)⟩)
          obtain ⟨b, hb⟩ : ∃ b, ((t.l.length : Int) == 0) = b := ⟨_, rfl⟩
          obtain ⟨th, hth⟩ : ∃ th, t.there = th := ⟨_, rfl⟩
          obtain ⟨mm, hmm⟩ : ∃ mm, mem s.locs y.loc = mm := ⟨_, rfl⟩
          have k1 : ∀ W : World, Keep none_ wr W → Calls Try.prog 11 #[V] W fun e w' => ∃ A c, e = .returned (.slice A t.l.length c) ∧ Keep none_ W w' ∧ SeesIn w' (fresh none_ W w') 3 (.slice A t.l.length c) t.l.length (lns t.l) := fun W hW => by
            have := wants_any V s.visit F W (hVm W hW) (by rw [hsim.lines]; have := hsim.n; omega)
            rw [hsim.lines] at this
            refine this.mono ?_
            rintro e w' ⟨v', rfl, hk, ho⟩
            obtain ⟨A, c, rfl, -, -⟩ := ho.len
            exact ⟨A, c, rfl, hk, ho.sees⟩
          have k3 : ∀ W : World, Keep none_ wr W → Calls Try.prog 15 #[V] W fun e w' => e = .returned (.bool (th && b)) ∧ W = w' := fun W hW => by
            have := over_any V s.visit F W (hVm W hW)
            rwa [hsim.over, hth, hb] at this
          have k4 : ∀ W : World, Keep none_ wr W → Calls Try.prog 12 #[.pointer (some ⟨z, 0, none⟩), .int .u16 y.loc] W fun e w' => e = .returned (.bool mm) ∧ W = w' := fun W hW => by
            have := has_any z y.loc F s W (hzm W hW)
            rwa [hmm] at this
          have k5 : ∀ W : World, Keep none_ wr W → Calls Try.prog 21 #[.pointer (some ⟨r, 0, none⟩), .int .u16 y.loc] W fun e w' => e = .returned (.bool mm) ∧ W = w' := fun W hW => by
            have := rHas_any r y.loc G _ t W (hrm W hW)
            rwa [hsim.locs, hmm] at this
          rw [hth] at ht r1 hS
          have HT := Lib.hid ht
          have HS := Lib.hid hS
          have HWM := Lib.hid hwm
          have HB := Lib.hid hb
          have HTH := Lib.hid hth
          have HMM := Lib.hid hmm
          have K1 := Lib.hid k1
          have K3 := Lib.hid k3
          have K4 := Lib.hid k4
          have K5 := Lib.hid k5
          clear ht hS hwm hb hth hmm k1 k3 k4 k5
          clear hz hV hrb hrl hrw H x0 x1 x3 x4 x5 r0 hVm hzm hrm hsim
          repeat first
            | apply d_seq
            | with_reducible apply kt_normal
            | apply l_nil
            | apply d_region
            | (apply l_off; (focus rfl); (focus rfl))
            | (apply l_val; (focus rfl); (focus rfl); (focus rfl); (focus (go_simp; (try simp (disch := omega) only [wrap_in, wrap_in', wrap_u16, wrap_u8, wrap_u32, rem_in, quo_in]); first | done | with_reducible rfl | (constructor <;> with_reducible rfl))))
            | (apply l_store; (focus rfl); (focus rfl); (focus rfl); (focus (go_simp; (try simp (disch := omega) only [wrap_in, wrap_in', wrap_u16, wrap_u8, wrap_u32, rem_in, quo_in]); first | done | with_reducible rfl | (constructor <;> with_reducible rfl))))
            | apply d_block
            | (apply d_true; (focus rfl); (focus rfl))
            | (apply d_false; (focus rfl); (focus rfl))
            | apply d_skip
            | apply d_exit
            | apply d_ret
            | with_reducible apply kt_ret
            | with_reducible apply kt_exit
            | with_reducible apply kb_normal
            | with_reducible apply kb_ret
            | with_reducible apply kb_here
            | with_reducible apply kl_ret
            | with_reducible apply kl_exit
            | with_reducible apply kc_ret
            | with_reducible apply kc_exit
            | (with_reducible apply kb_there; (focus rfl))
          refine l_call rfl rfl rfl (by first | (go_simp; done) | (go_simp; rfl)) (HT.out) ?_
          rintro e w' ⟨rfl, rfl⟩
          refine ⟨_, rfl, ?_⟩
          repeat first
            | apply d_seq
            | with_reducible apply kt_normal
            | apply l_nil
            | apply d_region
            | (apply l_off; (focus rfl); (focus rfl))
            | (apply l_val; (focus rfl); (focus rfl); (focus rfl); (focus (go_simp; (try simp (disch := omega) only [wrap_in, wrap_in', wrap_u16, wrap_u8, wrap_u32, rem_in, quo_in]); first | done | with_reducible rfl | (constructor <;> with_reducible rfl))))
            | (apply l_store; (focus rfl); (focus rfl); (focus rfl); (focus (go_simp; (try simp (disch := omega) only [wrap_in, wrap_in', wrap_u16, wrap_u8, wrap_u32, rem_in, quo_in]); first | done | with_reducible rfl | (constructor <;> with_reducible rfl))))
            | apply d_block
            | (apply d_true; (focus rfl); (focus rfl))
            | (apply d_false; (focus rfl); (focus rfl))
            | apply d_skip
            | apply d_exit
            | apply d_ret
            | with_reducible apply kt_ret
            | with_reducible apply kt_exit
            | with_reducible apply kb_normal
            | with_reducible apply kb_ret
            | with_reducible apply kb_here
            | with_reducible apply kl_ret
            | with_reducible apply kl_exit
            | with_reducible apply kc_ret
            | with_reducible apply kc_exit
            | (with_reducible apply kb_there; (focus rfl))
          refine d_draw (true, [([], []), ([0], [0]), ([1], [1]), ([2], [2]), ([2], [2]), ([4, 2], [2, 4]), ([5, 2], [2, 5]), ([6, 2], [2, 6]), ([3, 7, 2], [2, 3, 7]), ([2, 8], [2, 8]), ([9, 2], [9]), ([10], [10]), ([10], [10]), ([12, 10], [10, 12]), ([13, 10], [10, 13]), ([14, 10], [10, 14]), ([11, 15, 10], [10, 11, 15]), ([10, 16], [10, 16]), ([17, 10], [17]), ([18], [18]), ([19, 18], [18, 19]), ([20, 18], [18, 20]), ([21, 18], [18, 21]), ([22, 18, 18], [18, 22]), ([18], [18]), ([24, 18], [18, 24]), ([25, 18], [18, 25]), ([26, 18], [18, 26]), ([23, 27, 23, 18], [18, 23, 27]), ([28, 18], [18, 28]), ([18, 29], [18, 29]), ([30, 28], [30]), ([31], [31]), ([32, 31], [31, 32]), ([33, 31], [31, 33]), ([34, 31], [31, 34]), ([35, 31, 31], [31, 35]), ([31], [31]), ([37, 31], [31, 37]), ([38, 31], [31, 38]), ([39, 31], [31, 39]), ([40, 36, 31], [31, 40]), ([41], [41]), ([42, 41], [41, 42]), ([43, 41], [41, 43]), ([44, 41], [41, 44]), ([45, 41], [41, 45]), ([46, 41], [41, 46]), ([41, 47, 31], [31, 41, 47]), ([36, 48, 31], [31, 36, 48]), ([31, 49], [31, 49]), ([50, 41], [50]), ([51], [51]), ([51], [51]), ([53, 51], [51, 53]), ([52, 54, 51, 51], [51, 52, 54]), ([51], [51]), ([51], [51]), ([57, 51], [51, 57]), ([56, 58, 55, 51], [51, 56, 58]), ([55, 59, 51], [51, 55, 59]), ([51, 60], [51, 60])]) [(0, 0), (0, 1), (0, 2), (0, 3), (0, 4), (0, 5), (0, 6), (0, 7), (0, 8), (0, 9), (0, 10), (0, 11), (0, 12), (0, 13), (0, 14), (0, 15), (0, 16), (0, 17), (0, 18), (0, 19), (0, 20), (0, 21), (0, 22), (0, 24), (0, 25), (0, 26), (0, 27), (1, 23), (1, 28), (0, 29), (0, 30), (0, 31), (0, 32), (0, 33), (0, 34), (0, 35), (0, 37), (0, 38), (0, 39), (0, 40), (1, 36), (0, 41), (0, 42), (0, 43), (0, 44), (0, 45), (0, 46), (0, 47), (0, 48), (0, 49), (0, 50), (0, 51), (0, 52), (0, 53), (0, 54), (0, 56), (0, 57), (0, 58), (1, 55), (1, 59), (0, 60), (0, 61)] [999999] (fun W => W.cell? ⟨r, 1, none⟩ = some (.bool th) ∧ W.cell? ⟨r, 2, none⟩ = some (.int .u16 t.tote) ∧ W.cell? ⟨r, 3, none⟩ = some (.slice Aw t.l.length cw) ∧ W.cell? ⟨z, 0, none⟩ = some V ∧ W.cell? ⟨xb, 2, none⟩ = some (.int .u16 y.loc)) (by kernel_rfl) (by kernel_rfl) (by kernel_rfl) (by kernel_rfl) (HS.out _ (Keep.refl _ _).drew) ?_
          iterate 27
            first | (apply s_off; (focus rfl); (focus rfl); (focus rfl)) | (apply s_yield; (focus rfl); (focus rfl); (focus rfl); (focus rfl); (focus (intro W hS; obtain ⟨hS1, hS2, hS3, hS4, hS5⟩ := hS; go_simp; (try simp (disch := omega) only [wrap_in, wrap_in', wrap_u16, wrap_u8, wrap_u32, rem_in, quo_in]); first | done | with_reducible rfl | (constructor <;> with_reducible rfl))))
          refine s_call rfl rfl rfl rfl (by first | (go_simp; done) | (go_simp; rfl)) (K1.out _ (Keep.refl _ _).drew) ?_
          rintro e w' ⟨Av, cv, rfl, hk1, hs1⟩
          have HKP := Lib.hid ((Keep.refl none_ wr).drew.next hk1)
          have HSV := Lib.hid hs1
          clear hk1 hs1
          refine ⟨_, rfl, (HS.out _ HKP.out), ?_⟩
          refine s_call rfl rfl rfl rfl (by first | (go_simp; done) | (go_simp; rfl)) (lines_any _ _ t.l t.l _ _ _ HSV.out (HWM.out _ HKP.out)) ?_
          rintro e w' ⟨rfl, nd, rfl⟩
          rw [eqL_self]
          refine ⟨_, rfl, (HS.out _ (HKP.out.drewN nd)), ?_⟩
          iterate 11
            first | (apply s_off; (focus rfl); (focus rfl); (focus rfl)) | (apply s_yield; (focus rfl); (focus rfl); (focus rfl); (focus rfl); (focus (intro W hS; obtain ⟨hS1, hS2, hS3, hS4, hS5⟩ := hS; go_simp; (try simp (disch := omega) only [wrap_in, wrap_in', wrap_u16, wrap_u8, wrap_u32, rem_in, quo_in]); first | done | with_reducible rfl | (constructor <;> with_reducible rfl))))
          refine s_call rfl rfl rfl rfl (by first | (go_simp; done) | (go_simp; rfl)) (K3.out _ (HKP.out.drewN nd)) ?_
          rintro e w' ⟨rfl, rfl⟩
          refine ⟨_, rfl, (HS.out _ (HKP.out.drewN nd)), ?_⟩
          have hb' := HB.out
          have hk' : (k : Int) + 1 ≤ 201 := by omega
          cases th
          all_goals
            simp only [Bool.false_and, Bool.true_and]
            iterate 17
              first | (apply s_off; (focus rfl); (focus rfl); (focus rfl)) | (apply s_yield; (focus rfl); (focus rfl); (focus rfl); (focus rfl); (focus (intro W hS; obtain ⟨hS1, hS2, hS3, hS4, hS5⟩ := hS; go_simp; (try simp (disch := omega) only [wrap_in, wrap_in', wrap_u16, wrap_u8, wrap_u32, rem_in, quo_in]); first | done | with_reducible rfl | (constructor <;> with_reducible rfl))))
            refine s_call rfl rfl rfl rfl (by first | (go_simp; done) | (go_simp; rfl)) (K4.out _ (HKP.out.drewN nd)) ?_
            rintro e w' ⟨rfl, rfl⟩
            refine ⟨_, rfl, (HS.out _ (HKP.out.drewN nd)), ?_⟩
            refine s_call rfl rfl rfl rfl (by first | (go_simp; done) | (go_simp; rfl)) (K5.out _ (HKP.out.drewN nd)) ?_
            rintro e w' ⟨rfl, rfl⟩
            refine ⟨_, rfl, (HS.out _ (HKP.out.drewN nd)), ?_⟩
            iterate 2
              first | (apply s_off; (focus rfl); (focus rfl); (focus rfl)) | (apply s_yield; (focus rfl); (focus rfl); (focus rfl); (focus rfl); (focus (intro W hS; obtain ⟨hS1, hS2, hS3, hS4, hS5⟩ := hS; go_simp; (try simp (disch := omega) only [wrap_in, wrap_in', wrap_u16, wrap_u8, wrap_u32, rem_in, quo_in]); first | done | with_reducible rfl | (constructor <;> with_reducible rfl))))
            refine s_done ?_
            repeat first
              | apply d_seq
              | with_reducible apply kt_normal
              | apply l_nil
              | apply d_region
              | (apply l_off; (focus rfl); (focus rfl))
              | (apply l_val; (focus rfl); (focus rfl); (focus rfl); (focus (go_simp; (try simp (disch := omega) only [wrap_in, wrap_in', wrap_u16, wrap_u8, wrap_u32, rem_in, quo_in]); first | done | with_reducible rfl | (constructor <;> with_reducible rfl))))
              | (apply l_store; (focus rfl); (focus rfl); (focus rfl); (focus (go_simp; (try simp (disch := omega) only [wrap_in, wrap_in', wrap_u16, wrap_u8, wrap_u32, rem_in, quo_in]); first | done | with_reducible rfl | (constructor <;> with_reducible rfl))))
              | apply d_block
              | (apply d_true; (focus rfl); (focus rfl))
              | (apply d_false; (focus rfl); (focus rfl))
              | apply d_skip
              | apply d_exit
              | apply d_ret
              | with_reducible apply kt_ret
              | with_reducible apply kt_exit
              | with_reducible apply kb_normal
              | with_reducible apply kb_ret
              | with_reducible apply kb_here
              | with_reducible apply kl_ret
              | with_reducible apply kl_exit
              | with_reducible apply kc_ret
              | with_reducible apply kc_exit
              | (with_reducible apply kb_there; (focus rfl))
            refine kl_normal (l1.length - (k + 1)) _ (by omega) (Subl.cons (t := 1) (by decide) rfl (Subl.cons (t := 5) (by decide) rfl (Subl.cons (t := 6) (by decide) rfl (Subl.cons (t := 7) (by decide) rfl (Subl.cons (t := 8) (by decide) rfl (Subl.nil _ _)))))) ?_
            exact ⟨k + 1, _, _, rfl, by omega, by simp, Lib.hid ⟨HH.out.1, ((HH.out.2.keep HKP.out).drewN nd).take 2⟩⟩
      · repeat first
          | apply d_seq
          | with_reducible apply kt_normal
          | apply l_nil
          | apply d_region
          | (apply l_off; (focus rfl); (focus rfl))
          | (apply l_val; (focus rfl); (focus rfl); (focus rfl); (focus (go_simp; (try simp (disch := omega) only [wrap_in, wrap_in', wrap_u16, wrap_u8, wrap_u32, rem_in, quo_in]); first | done | with_reducible rfl | (constructor <;> with_reducible rfl))))
          | (apply l_store; (focus rfl); (focus rfl); (focus rfl); (focus (go_simp; (try simp (disch := omega) only [wrap_in, wrap_in', wrap_u16, wrap_u8, wrap_u32, rem_in, quo_in]); first | done | with_reducible rfl | (constructor <;> with_reducible rfl))))
          | apply d_block
          | (apply d_true; (focus rfl); (focus rfl))
          | (apply d_false; (focus rfl); (focus rfl))
          | apply d_skip
          | apply d_exit
          | apply d_ret
          | with_reducible apply kt_ret
          | with_reducible apply kt_exit
          | with_reducible apply kb_normal
          | with_reducible apply kb_ret
          | with_reducible apply kb_here
          | with_reducible apply kl_ret
          | with_reducible apply kl_exit
          | with_reducible apply kc_ret
          | with_reducible apply kc_exit
          | (with_reducible apply kb_there; (focus rfl))
        refine ⟨rfl, _, (by first | (simp [resultsG, resOne, Try.results5, rho, List.lookup]; done) | (simp [resultsG, resOne, Try.results5, rho, List.lookup]; rfl)), ?_⟩
        exact ⟨rfl, HH.out.2.old⟩
    · repeat first
        | apply d_seq
        | with_reducible apply kt_normal
        | apply l_nil
        | apply d_region
        | (apply l_off; (focus rfl); (focus rfl))
        | (apply l_val; (focus rfl); (focus rfl); (focus rfl); (focus (go_simp; (try simp (disch := omega) only [wrap_in, wrap_in', wrap_u16, wrap_u8, wrap_u32, rem_in, quo_in]); first | done | with_reducible rfl | (constructor <;> with_reducible rfl))))
        | (apply l_store; (focus rfl); (focus rfl); (focus rfl); (focus (go_simp; (try simp (disch := omega) only [wrap_in, wrap_in', wrap_u16, wrap_u8, wrap_u32, rem_in, quo_in]); first | done | with_reducible rfl | (constructor <;> with_reducible rfl))))
        | apply d_block
        | (apply d_true; (focus rfl); (focus rfl))
        | (apply d_false; (focus rfl); (focus rfl))
        | apply d_skip
        | apply d_exit
        | apply d_ret
        | with_reducible apply kt_ret
        | with_reducible apply kt_exit
        | with_reducible apply kb_normal
        | with_reducible apply kb_ret
        | with_reducible apply kb_here
        | with_reducible apply kl_ret
        | with_reducible apply kl_exit
        | with_reducible apply kc_ret
        | with_reducible apply kc_exit
        | (with_reducible apply kb_there; (focus rfl))
      refine ⟨rfl, _, (by first | (simp [resultsG, resOne, Try.results5, rho, List.lookup]; done) | (simp [resultsG, resOne, Try.results5, rho, List.lookup]; rfl)), ?_⟩
      exact ⟨rfl, HH.out.2.old⟩
end Go.Proofs.Ytimaaaibpadlpaa
