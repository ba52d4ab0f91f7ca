import Derived.Test.YtkjcmnhhgnlaeaaLed10
namespace Go.Proofs.Ytkjcmnhhgnlaeaa
set_option linter.unusedVariables false
set_option linter.unusedSimpArgs false
attribute [local go_sem] rho_const rho_func rho_hit rho_miss
open Go.RowKit
def Rw.allPut (r : Rw) : Bool := r.put == r.picked
theorem holds_all (s : LS) (id : Int) (b : Bool) (hb : b = (s.get id).isSome) : s.all id Rw.closed = (b && (s.rows id).all Rw.closed) ∧ s.all id Rw.full = ((b && (s.rows id).all Rw.closed) && (b && (s.rows id).all Rw.allPut)) := by
  subst hb
  refine ⟨LS.all_rows _ _ _, ?_⟩
  rw [LS.all_rows]
  have : ∀ l : List Rw, l.all Rw.full = (l.all Rw.closed && l.all Rw.allPut) := by
    intro l
    induction l with
    | nil => rfl
    | cons x l ih => simp only [List.all_cons, ih, Rw.full, Rw.closed, Rw.allPut]; cases (x.left == 0) <;> cases (x.put == x.picked) <;> simp
  rw [this]
  cases (s.get id).isSome <;> simp
theorem all_snoc {α : Type} {l : List α} {p : α → Bool} {k : Nat} {y : α} (hy : l[k]? = some y) : (l.take (k + 1)).all p = ((l.take k).all p && p y) := by
  rw [List.take_add_one, hy]; simp
theorem Rw.closed_eq (r : Rw) : r.closed = (r.picked + r.short == r.wanted) := by
  unfold Rw.closed Rw.left
  rw [Bool.eq_iff_iff]
  simp only [beq_iff_eq]
  constructor <;> intro h <;> omega
attribute [local go_sem] min2_mn min_two'
set_option maxRecDepth 100000 in
set_option maxHeartbeats 4000000 in
theorem ledgerHolds_any {w : World} {A0 : Option Addr} {n0 cq0 : Nat} {l0 : List St} {A1 : Option Addr} {n1 cq1 : Nat} {l1 : List Int}
    (h0 : SeesR w (fun k => k < w.heap.size) 6 (fun (y : St) cs => cs = y.cs ∧ y.ok w) (.slice A0 n0 cq0) l0)
    (h1 : SeesIn w (fun k => k < w.heap.size) 1 (.slice A1 n1 cq1) l1.length (l1.flatMap (fun y => [Value.int .u32 y])) ∧ ∀ x ∈ l1, 0 ≤ x ∧ x ≤ 4294967295) :
    Calls Try.prog 4 #[.slice A0 n0 cq0, .slice A1 n1 cq1] w fun e w' => e = .returned (.bool true) ∧ Keep none_ w w' := by
  obtain ⟨rfl, b0, b0'⟩ := h0.form
  obtain ⟨hs1, -⟩ := h1
  obtain ⟨rfl, b1, b1'⟩ := hs1.form'
  have HX := Lib.hid (Has.nil (Keep.refl none_ w))
  have H0 := Lib.hid h0
  have HS1 := Lib.hid hs1
  clear h0 hs1
  refine d_calls (n := 171) Try.func4 rfl rfl (by simp) [(0, .slice A0 l0.length cq0), (1, .slice A1 l1.length cq1)] (by simp) ?_
  repeat first
    | apply d_seq
    | with_reducible apply kt_normal
    | apply l_nil
    | apply d_region
    | (apply l_off; (focus rfl); (focus rfl))
    | (apply l_val; (focus rfl); (focus rfl); (focus rfl); (focus (go_simp; (try simp (disch := omega) only [wrap_in, wrap_in', wrap_u16, wrap_u8, wrap_u32, rem_in, quo_in]); first | done | with_reducible rfl | (constructor <;> with_reducible rfl))))
    | (apply l_store; (focus rfl); (focus rfl); (focus rfl); (focus (go_simp; (try simp (disch := omega) only [wrap_in, wrap_in', wrap_u16, wrap_u8, wrap_u32, rem_in, quo_in]); first | done | with_reducible rfl | (constructor <;> with_reducible rfl))))
    | apply d_block
    | (apply d_true; (focus rfl); (focus rfl))
    | (apply d_false; (focus rfl); (focus rfl))
    | apply d_skip
    | apply d_exit
    | apply d_ret
    | with_reducible apply kt_ret
    | with_reducible apply kt_exit
    | with_reducible apply kb_normal
    | with_reducible apply kb_ret
    | with_reducible apply kb_here
    | with_reducible apply kl_ret
    | with_reducible apply kl_exit
    | with_reducible apply kc_ret
    | with_reducible apply kc_exit
    | (with_reducible apply kb_there; (focus rfl))
  refine l_call rfl rfl rfl (by first | (go_simp; done) | (go_simp; rfl)) (shown_has HX.out) ?_
  rintro e w' ⟨rfl, hx⟩
  clear HX
  try simp only [List.nil_append, List.cons_append, List.set_cons_zero, List.set_cons_succ] at hx
  have HX := Lib.hid hx
  clear hx
  refine ⟨_, rfl, ?_⟩
  repeat first
    | apply d_seq
    | with_reducible apply kt_normal
    | apply l_nil
    | apply d_region
    | (apply l_off; (focus rfl); (focus rfl))
    | (apply l_val; (focus rfl); (focus rfl); (focus rfl); (focus (go_simp; (try simp (disch := omega) only [wrap_in, wrap_in', wrap_u16, wrap_u8, wrap_u32, rem_in, quo_in]); first | done | with_reducible rfl | (constructor <;> with_reducible rfl))))
    | (apply l_store; (focus rfl); (focus rfl); (focus rfl); (focus (go_simp; (try simp (disch := omega) only [wrap_in, wrap_in', wrap_u16, wrap_u8, wrap_u32, rem_in, quo_in]); first | done | with_reducible rfl | (constructor <;> with_reducible rfl))))
    | apply d_block
    | (apply d_true; (focus rfl); (focus rfl))
    | (apply d_false; (focus rfl); (focus rfl))
    | apply d_skip
    | apply d_exit
    | apply d_ret
    | with_reducible apply kt_ret
    | with_reducible apply kt_exit
    | with_reducible apply kb_normal
    | with_reducible apply kb_ret
    | with_reducible apply kb_here
    | with_reducible apply kl_ret
    | with_reducible apply kl_exit
    | with_reducible apply kc_ret
    | with_reducible apply kc_exit
    | (with_reducible apply kb_there; (focus rfl))
  refine l_call rfl rfl rfl (by first | (go_simp; done) | (go_simp; rfl)) (new_has HX.out) ?_
  rintro e w' ⟨x, rfl, hx⟩
  clear HX
  try simp only [List.nil_append, List.cons_append, List.set_cons_zero, List.set_cons_succ] at hx
  have HX := Lib.hid hx
  clear hx
  refine ⟨_, rfl, ?_⟩
  repeat first
    | apply d_seq
    | with_reducible apply kt_normal
    | apply l_nil
    | apply d_region
    | (apply l_off; (focus rfl); (focus rfl))
    | (apply l_val; (focus rfl); (focus rfl); (focus rfl); (focus (go_simp; (try simp (disch := omega) only [wrap_in, wrap_in', wrap_u16, wrap_u8, wrap_u32, rem_in, quo_in]); first | done | with_reducible rfl | (constructor <;> with_reducible rfl))))
    | (apply l_store; (focus rfl); (focus rfl); (focus rfl); (focus (go_simp; (try simp (disch := omega) only [wrap_in, wrap_in', wrap_u16, wrap_u8, wrap_u32, rem_in, quo_in]); first | done | with_reducible rfl | (constructor <;> with_reducible rfl))))
    | apply d_block
    | (apply d_true; (focus rfl); (focus rfl))
    | (apply d_false; (focus rfl); (focus rfl))
    | apply d_skip
    | apply d_exit
    | apply d_ret
    | with_reducible apply kt_ret
    | with_reducible apply kt_exit
    | with_reducible apply kb_normal
    | with_reducible apply kb_ret
    | with_reducible apply kb_here
    | with_reducible apply kl_ret
    | with_reducible apply kl_exit
    | with_reducible apply kc_ret
    | with_reducible apply kc_exit
    | (with_reducible apply kb_there; (focus rfl))
  refine d_loop (fun m D wr => ∃ (k : Nat) (s : LS), m = l0.length - k ∧ k ≤ l0.length ∧ D = [(0, .slice A0 l0.length cq0), (1, .slice A1 l1.length cq1), (5, .bool true), (6, .pointer (some ⟨x, 0, none⟩)), (7, .int .i64 k)] ∧ Hid (Has w wr [LedA w.heap.size x s])) (l0.length) _ (Subl.cons (t := 0) (by decide) rfl (Subl.cons (t := 1) (by decide) rfl (Subl.cons (t := 5) (by decide) rfl (Subl.cons (t := 6) (by decide) rfl (Subl.cons (t := 7) (by decide) rfl (Subl.nil _ _)))))) ?_ (fun m D wr hrel => ?_)
  · exact ⟨0, _, rfl, Nat.zero_le _, rfl, HX⟩
  · clear HX
    obtain ⟨k, s, rfl, hk, rfl, HX⟩ := hrel
    by_cases hlt : k < l0.length
    · by_cases h120 : (k : Int) < 120
      · obtain ⟨y, hy⟩ : ∃ y, l0[k]? = some y := ⟨_, List.getElem?_eq_getElem hlt⟩
        obtain ⟨g, o, cp, e1, -, -, hq1, hq2, hyk, c0, c1, c2, c3, c4, c5⟩ := sees_Steps (HX.out.seesR H0.out) hy
        simp only [Value.slice.injEq, true_and] at e1
        obtain ⟨rfl, rfl⟩ := e1
        have HYK := Lib.hid hyk
        clear hyk
        clear hy
        repeat first
          | apply d_seq
          | with_reducible apply kt_normal
          | apply l_nil
          | apply d_region
          | (apply l_off; (focus rfl); (focus rfl))
          | (apply l_val; (focus rfl); (focus rfl); (focus rfl); (focus (go_simp; (try simp (disch := omega) only [wrap_in, wrap_in', wrap_u16, wrap_u8, wrap_u32, rem_in, quo_in]); first | done | with_reducible rfl | (constructor <;> with_reducible rfl))))
          | (apply l_store; (focus rfl); (focus rfl); (focus rfl); (focus (go_simp; (try simp (disch := omega) only [wrap_in, wrap_in', wrap_u16, wrap_u8, wrap_u32, rem_in, quo_in]); first | done | with_reducible rfl | (constructor <;> with_reducible rfl))))
          | apply d_block
          | (apply d_true; (focus rfl); (focus rfl))
          | (apply d_false; (focus rfl); (focus rfl))
          | apply d_skip
          | apply d_exit
          | apply d_ret
          | with_reducible apply kt_ret
          | with_reducible apply kt_exit
          | with_reducible apply kb_normal
          | with_reducible apply kb_ret
          | with_reducible apply kb_here
          | with_reducible apply kl_ret
          | with_reducible apply kl_exit
          | with_reducible apply kc_ret
          | with_reducible apply kc_exit
          | (with_reducible apply kb_there; (focus rfl))
        refine l_call rfl rfl rfl (by first | (go_simp; done) | (go_simp; rfl)) (does_has HX.out 0 x s rfl y HYK.out) ?_
        rintro e w' ⟨rfl, hx⟩
        clear HX
        try simp only [List.nil_append, List.cons_append, List.set_cons_zero, List.set_cons_succ] at hx
        have HX := Lib.hid hx
        clear hx
        refine ⟨_, rfl, ?_⟩
        repeat first
          | apply d_seq
          | with_reducible apply kt_normal
          | apply l_nil
          | apply d_region
          | (apply l_off; (focus rfl); (focus rfl))
          | (apply l_val; (focus rfl); (focus rfl); (focus rfl); (focus (go_simp; (try simp (disch := omega) only [wrap_in, wrap_in', wrap_u16, wrap_u8, wrap_u32, rem_in, quo_in]); first | done | with_reducible rfl | (constructor <;> with_reducible rfl))))
          | (apply l_store; (focus rfl); (focus rfl); (focus rfl); (focus (go_simp; (try simp (disch := omega) only [wrap_in, wrap_in', wrap_u16, wrap_u8, wrap_u32, rem_in, quo_in]); first | done | with_reducible rfl | (constructor <;> with_reducible rfl))))
          | apply d_block
          | (apply d_true; (focus rfl); (focus rfl))
          | (apply d_false; (focus rfl); (focus rfl))
          | apply d_skip
          | apply d_exit
          | apply d_ret
          | with_reducible apply kt_ret
          | with_reducible apply kt_exit
          | with_reducible apply kb_normal
          | with_reducible apply kb_ret
          | with_reducible apply kb_here
          | with_reducible apply kl_ret
          | with_reducible apply kl_exit
          | with_reducible apply kc_ret
          | with_reducible apply kc_exit
          | (with_reducible apply kb_there; (focus rfl))
        clear c0 c1 c2 c3 c4 c5 HYK
        generalize (s.step y).1 = s at *
        refine d_loop (fun m D wr => ∃ (q : Nat), m = l1.length - q ∧ q ≤ l1.length ∧ D = [(0, .slice (some ⟨g, o, none⟩) l0.length cq0), (1, .slice A1 l1.length cq1), (5, .bool true), (6, .pointer (some ⟨x, 0, none⟩)), (7, .int .i64 k), (8, .int .i64 q)] ∧ Hid (Has w wr [LedA w.heap.size x s])) (l1.length) _ (Subl.cons (t := 0) (by decide) rfl (Subl.cons (t := 1) (by decide) rfl (Subl.cons (t := 5) (by decide) rfl (Subl.cons (t := 6) (by decide) rfl (Subl.cons (t := 7) (by decide) rfl (Subl.cons (t := 8) (by decide) rfl (Subl.nil _ _))))))) ?_ (fun m D wr hrel => ?_)
        · exact ⟨0, rfl, Nat.zero_le _, rfl, HX⟩
        · clear HX
          obtain ⟨q, rfl, hq, rfl, HX⟩ := hrel
          by_cases hlq : q < l1.length
          · by_cases h10 : (q : Int) < 10
            · obtain ⟨id, hid⟩ : ∃ y, l1[q]? = some y := ⟨_, List.getElem?_eq_getElem hlq⟩
              obtain ⟨g1, o1, cp1, e1, -, -, hq3, hq4, d0⟩ := sees_one (.int .u32) (fun _ => rfl) HS1.out hid
              simp only [Value.slice.injEq, true_and] at e1
              obtain ⟨rfl, rfl⟩ := e1
              have D0 := Lib.hid d0
              clear d0
              have dd := HX.out.cell0 D0.out
              clear hid
              repeat first
                | apply d_seq
                | with_reducible apply kt_normal
                | apply l_nil
                | apply d_region
                | (apply l_off; (focus rfl); (focus rfl))
                | (apply l_val; (focus rfl); (focus rfl); (focus rfl); (focus (go_simp; (try simp (disch := omega) only [wrap_in, wrap_in', wrap_u16, wrap_u8, wrap_u32, rem_in, quo_in]); first | done | with_reducible rfl | (constructor <;> with_reducible rfl))))
                | (apply l_store; (focus rfl); (focus rfl); (focus rfl); (focus (go_simp; (try simp (disch := omega) only [wrap_in, wrap_in', wrap_u16, wrap_u8, wrap_u32, rem_in, quo_in]); first | done | with_reducible rfl | (constructor <;> with_reducible rfl))))
                | apply d_block
                | (apply d_true; (focus rfl); (focus rfl))
                | (apply d_false; (focus rfl); (focus rfl))
                | apply d_skip
                | apply d_exit
                | apply d_ret
                | with_reducible apply kt_ret
                | with_reducible apply kt_exit
                | with_reducible apply kb_normal
                | with_reducible apply kb_ret
                | with_reducible apply kb_here
                | with_reducible apply kl_ret
                | with_reducible apply kl_exit
                | with_reducible apply kc_ret
                | with_reducible apply kc_exit
                | (with_reducible apply kb_there; (focus rfl))
              refine l_call rfl rfl rfl (by first | (go_simp; done) | (go_simp; rfl)) (rows_has HX.out 0 x s rfl id) ?_
              rintro e w' ⟨A2, c2, rfl, hr1, hr2, hx⟩
              clear HX
              try simp only [List.nil_append, List.cons_append, List.set_cons_zero, List.set_cons_succ] at hx
              have HX := Lib.hid hx
              clear hx
              refine ⟨_, rfl, ?_⟩
              repeat first
                | apply d_seq
                | with_reducible apply kt_normal
                | apply l_nil
                | apply d_region
                | (apply l_off; (focus rfl); (focus rfl))
                | (apply l_val; (focus rfl); (focus rfl); (focus rfl); (focus (go_simp; (try simp (disch := omega) only [wrap_in, wrap_in', wrap_u16, wrap_u8, wrap_u32, rem_in, quo_in]); first | done | with_reducible rfl | (constructor <;> with_reducible rfl))))
                | (apply l_store; (focus rfl); (focus rfl); (focus rfl); (focus (go_simp; (try simp (disch := omega) only [wrap_in, wrap_in', wrap_u16, wrap_u8, wrap_u32, rem_in, quo_in]); first | done | with_reducible rfl | (constructor <;> with_reducible rfl))))
                | apply d_block
                | (apply d_true; (focus rfl); (focus rfl))
                | (apply d_false; (focus rfl); (focus rfl))
                | apply d_skip
                | apply d_exit
                | apply d_ret
                | with_reducible apply kt_ret
                | with_reducible apply kt_exit
                | with_reducible apply kb_normal
                | with_reducible apply kb_ret
                | with_reducible apply kb_here
                | with_reducible apply kl_ret
                | with_reducible apply kl_exit
                | with_reducible apply kc_ret
                | with_reducible apply kc_exit
                | (with_reducible apply kb_there; (focus rfl))
              clear dd
              obtain ⟨b, hb⟩ : ∃ b, (s.get id).isSome = b := ⟨_, rfl⟩
              have hgood := (HX.out.good (i := 0) rfl).rows id
              have hca := holds_all s id b hb.symm
              rw [hb]
              generalize s.rows id = rs at *
              have HGOOD := Lib.hid hgood
              clear hgood
              have HCA' := Lib.hid hca
              clear hca
              unfold maxLen at hr2
              repeat first
                | apply d_seq
                | with_reducible apply kt_normal
                | apply l_nil
                | apply d_region
                | (apply l_off; (focus rfl); (focus rfl))
                | (apply l_val; (focus rfl); (focus rfl); (focus rfl); (focus (go_simp; (try simp (disch := omega) only [wrap_in, wrap_in', wrap_u16, wrap_u8, wrap_u32, rem_in, quo_in]); first | done | with_reducible rfl | (constructor <;> with_reducible rfl))))
                | (apply l_store; (focus rfl); (focus rfl); (focus rfl); (focus (go_simp; (try simp (disch := omega) only [wrap_in, wrap_in', wrap_u16, wrap_u8, wrap_u32, rem_in, quo_in]); first | done | with_reducible rfl | (constructor <;> with_reducible rfl))))
                | apply d_block
                | (apply d_true; (focus rfl); (focus rfl))
                | (apply d_false; (focus rfl); (focus rfl))
                | apply d_skip
                | apply d_exit
                | apply d_ret
                | with_reducible apply kt_ret
                | with_reducible apply kt_exit
                | with_reducible apply kb_normal
                | with_reducible apply kb_ret
                | with_reducible apply kb_here
                | with_reducible apply kl_ret
                | with_reducible apply kl_exit
                | with_reducible apply kc_ret
                | with_reducible apply kc_exit
                | (with_reducible apply kb_there; (focus rfl))
              refine d_loop (fun m D wr => ∃ (j : Nat) (cl fu : Bool), m = rs.length - j ∧ j ≤ rs.length ∧ D = [(0, .slice (some ⟨g, o, none⟩) l0.length cq0), (1, .slice (some ⟨g1, o1, none⟩) l1.length cq1), (5, .bool true), (6, .pointer (some ⟨x, 0, none⟩)), (7, .int .i64 k), (8, .int .i64 q), (9, .slice A2 rs.length c2), (11, .bool cl), (12, .bool fu), (13, .int .i64 j)] ∧ Hid (Has w wr [LedA w.heap.size x s, OwnA w.heap.size 52 5 (.slice A2 rs.length c2) rs.length (rws rs)]) ∧ Hid (cl = (b && (rs.take j).all Rw.closed) ∧ fu = (b && (rs.take j).all Rw.allPut))) (rs.length) _ (Subl.cons (t := 0) (by decide) rfl (Subl.cons (t := 1) (by decide) rfl (Subl.cons (t := 5) (by decide) rfl (Subl.cons (t := 6) (by decide) rfl (Subl.cons (t := 7) (by decide) rfl (Subl.cons (t := 8) (by decide) rfl (Subl.cons (t := 9) (by decide) rfl (Subl.cons (t := 11) (by decide) rfl (Subl.cons (t := 12) (by decide) rfl (Subl.cons (t := 13) (by decide) rfl (Subl.nil _ _))))))))))) ?_ (fun m D wr hrel => ?_)
              · exact ⟨0, b, b, rfl, Nat.zero_le _, rfl, HX, Lib.hid ⟨by simp, by simp⟩⟩
              · clear HX
                obtain ⟨j, cl, fu, rfl, hj, rfl, HX, HCF⟩ := hrel
                by_cases hlj : j < rs.length
                · obtain ⟨r, hr⟩ : ∃ y, rs[j]? = some y := ⟨_, List.getElem?_eq_getElem hlj⟩
                  obtain ⟨g2, o2, cp2, e1, hq5, hq6, -, d0, d1, d2, d3, d4⟩ := HX.out.row (i := 1) rfl rfl hr
                  simp only [Value.slice.injEq, true_and] at e1
                  obtain ⟨rfl, rfl⟩ := e1
                  have ok := HGOOD.out r (List.mem_of_getElem? hr)
                  have oa := ok.a
                  have ob := ok.b
                  have q0 : decide (r.put < 0) = false := by simp; omega
                  have q1 : decide (r.picked < r.put) = false := by simp; omega
                  have q2 : decide (r.short < 0) = false := by simp; omega
                  have q3 : decide (r.picked + r.short > r.wanted) = false := by simp; omega
                  have q4 : decide (r.wanted > 9999) = false := by simp; omega
                  have e1 := r.closed_eq
                  have e2 := HCF.out.1
                  have e3 := HCF.out.2
                  have HR := Lib.hid hr
                  have E1 := Lib.hid e1
                  have E2 := Lib.hid e2
                  have E3 := Lib.hid e3
                  clear hr e1 e2 e3
                  clear ok
                  repeat first
                    | apply d_seq
                    | with_reducible apply kt_normal
                    | apply l_nil
                    | apply d_region
                    | (apply l_off; (focus rfl); (focus rfl))
                    | (apply l_val; (focus rfl); (focus rfl); (focus rfl); (focus (go_simp; (try simp (disch := omega) only [wrap_in, wrap_in', wrap_u16, wrap_u8, wrap_u32, rem_in, quo_in]); first | done | with_reducible rfl | (constructor <;> with_reducible rfl))))
                    | (apply l_store; (focus rfl); (focus rfl); (focus rfl); (focus (go_simp; (try simp (disch := omega) only [wrap_in, wrap_in', wrap_u16, wrap_u8, wrap_u32, rem_in, quo_in]); first | done | with_reducible rfl | (constructor <;> with_reducible rfl))))
                    | apply d_block
                    | (apply d_true; (focus rfl); (focus rfl))
                    | (apply d_false; (focus rfl); (focus rfl))
                    | apply d_skip
                    | apply d_exit
                    | apply d_ret
                    | with_reducible apply kt_ret
                    | with_reducible apply kt_exit
                    | with_reducible apply kb_normal
                    | with_reducible apply kb_ret
                    | with_reducible apply kb_here
                    | with_reducible apply kl_ret
                    | with_reducible apply kl_exit
                    | with_reducible apply kc_ret
                    | with_reducible apply kc_exit
                    | (with_reducible apply kb_there; (focus rfl))
                  refine d_draw (true, [([], []), ([], []), ([0, 1], [0, 1]), ([2], [2]), ([3], [3]), ([4], [4]), ([5], [5]), ([6], [6]), ([6], [6]), ([7, 8, 6], [6, 7, 8]), ([9, 6], [6, 9]), ([10, 6], [6, 10]), ([6], [6]), ([6], [6]), ([12, 13, 6], [6, 12, 13]), ([14, 6], [6, 14]), ([15, 6], [6, 15]), ([11, 16, 6], [6, 11, 16]), ([6, 17], [6, 17]), ([18, 6], [18]), ([19], [19]), ([19], [19]), ([20, 21, 19], [19, 20, 21]), ([22, 19], [19, 22]), ([23, 19], [19, 23]), ([24, 19], [19, 24]), ([19, 25], [19, 25]), ([26, 19], [26]), ([27], [27]), ([27], [27]), ([28, 29, 27], [27, 28, 29]), ([30, 27], [27, 30]), ([31, 27], [27, 31]), ([27], [27]), ([27], [27]), ([33, 34, 27], [27, 33, 34]), ([35, 27], [27, 35]), ([36, 27], [27, 36]), ([32, 37, 27], [27, 32, 37]), ([27], [27]), ([27], [27]), ([39, 40, 27], [27, 39, 40]), ([41, 27], [27, 41]), ([42, 27], [27, 42]), ([38, 43, 27], [27, 38, 43]), ([27, 44], [27, 44]), ([45, 27], [45]), ([46], [46]), ([46], [46]), ([47, 48, 46], [46, 47, 48]), ([49, 46], [46, 49]), ([50, 46], [46, 50]), ([51, 46], [46, 51]), ([46, 52], [46, 52])]) [(0, 0), (0, 1), (0, 2), (0, 3), (0, 4), (0, 5), (0, 6), (0, 7), (0, 8), (0, 9), (0, 10), (0, 11), (0, 12), (0, 13), (0, 14), (0, 15), (0, 16), (0, 17), (0, 18), (0, 19), (0, 20), (0, 21), (0, 22), (0, 23), (0, 24), (0, 25), (0, 26), (0, 27), (0, 28), (0, 29), (0, 30), (0, 31), (0, 32), (0, 33), (0, 34), (0, 35), (0, 36), (0, 37), (0, 38), (0, 39), (0, 40), (0, 41), (0, 42), (0, 43), (0, 44), (0, 45), (0, 46), (0, 47), (0, 48), (0, 49), (0, 50), (0, 51), (0, 52), (0, 53)] [999999] (fun W => W.cell? ⟨g2, o2 + j * 5 + 1, none⟩ = some (.int .i64 r.wanted) ∧ W.cell? ⟨g2, o2 + j * 5 + 2, none⟩ = some (.int .i64 r.picked) ∧ W.cell? ⟨g2, o2 + j * 5 + 3, none⟩ = some (.int .i64 r.short) ∧ W.cell? ⟨g2, o2 + j * 5 + 4, none⟩ = some (.int .i64 r.put)) (by kernel_rfl) (by kernel_rfl) (by kernel_rfl) (by kernel_rfl) ⟨d1, d2, d3, d4⟩ ?_
                  iterate 54
                    first | (apply s_off; (focus rfl); (focus rfl); (focus rfl)) | (apply s_yield; (focus rfl); (focus rfl); (focus rfl); (focus rfl); (focus (intro W hS; obtain ⟨hS1, hS2, hS3, hS4⟩ := hS; go_simp; (try simp (disch := omega) only [wrap_in, wrap_in', wrap_u16, wrap_u8, wrap_u32, rem_in, quo_in]); first | done | with_reducible rfl | (constructor <;> with_reducible rfl))))
                  refine s_done ?_
                  repeat first
                    | apply d_seq
                    | with_reducible apply kt_normal
                    | apply l_nil
                    | apply d_region
                    | (apply l_off; (focus rfl); (focus rfl))
                    | (apply l_val; (focus rfl); (focus rfl); (focus rfl); (focus (go_simp; (try simp (disch := omega) only [wrap_in, wrap_in', wrap_u16, wrap_u8, wrap_u32, rem_in, quo_in]); first | done | with_reducible rfl | (constructor <;> with_reducible rfl))))
                    | (apply l_store; (focus rfl); (focus rfl); (focus rfl); (focus (go_simp; (try simp (disch := omega) only [wrap_in, wrap_in', wrap_u16, wrap_u8, wrap_u32, rem_in, quo_in]); first | done | with_reducible rfl | (constructor <;> with_reducible rfl))))
                    | apply d_block
                    | (apply d_true; (focus rfl); (focus rfl))
                    | (apply d_false; (focus rfl); (focus rfl))
                    | apply d_skip
                    | apply d_exit
                    | apply d_ret
                    | with_reducible apply kt_ret
                    | with_reducible apply kt_exit
                    | with_reducible apply kb_normal
                    | with_reducible apply kb_ret
                    | with_reducible apply kb_here
                    | with_reducible apply kl_ret
                    | with_reducible apply kl_exit
                    | with_reducible apply kc_ret
                    | with_reducible apply kc_exit
                    | (with_reducible apply kb_there; (focus rfl))
                  cases cl
                  all_goals
                    refine d_draw (true, [([], []), ([0], [0]), ([1], [1]), ([1], [1]), ([2, 3, 1], [1, 2, 3]), ([4, 1], [1, 4]), ([5, 1], [1, 5]), ([1], [1]), ([1], [1]), ([7, 8, 1], [1, 7, 8]), ([9, 1], [1, 9]), ([10, 1], [1, 10]), ([6, 11, 1], [1, 6, 11]), ([1], [1]), ([1], [1]), ([13, 14, 1], [1, 13, 14]), ([15, 1], [1, 15]), ([16, 1], [1, 16]), ([12, 17, 1], [1, 12, 17]), ([1, 18], [1, 18]), ([19, 1, 0, 1, 2, 3, 4, 5, 6, 7, 8, 9, 10, 11, 12, 13, 14, 15, 16, 17, 18, 19], [0, 19])]) [(0, 0), (0, 1), (0, 2), (0, 3), (0, 4), (0, 5), (0, 6), (0, 7), (0, 8), (0, 9), (0, 10), (0, 11), (0, 12), (0, 13), (0, 14), (0, 15), (0, 16), (0, 17), (0, 18), (0, 19), (0, 20)] [999999] (fun W => W.cell? ⟨g2, o2 + j * 5 + 1, none⟩ = some (.int .i64 r.wanted) ∧ W.cell? ⟨g2, o2 + j * 5 + 2, none⟩ = some (.int .i64 r.picked) ∧ W.cell? ⟨g2, o2 + j * 5 + 3, none⟩ = some (.int .i64 r.short) ∧ W.cell? ⟨g2, o2 + j * 5 + 4, none⟩ = some (.int .i64 r.put)) (by kernel_rfl) (by kernel_rfl) (by kernel_rfl) (by kernel_rfl) ⟨d1, d2, d3, d4⟩ ?_
                    iterate 21
                      first | (apply s_off; (focus rfl); (focus rfl); (focus rfl)) | (apply s_yield; (focus rfl); (focus rfl); (focus rfl); (focus rfl); (focus (intro W hS; obtain ⟨hS1, hS2, hS3, hS4⟩ := hS; go_simp; (try simp (disch := omega) only [wrap_in, wrap_in', wrap_u16, wrap_u8, wrap_u32, rem_in, quo_in]); first | done | with_reducible rfl | (constructor <;> with_reducible rfl))))
                    refine s_done ?_
                    repeat first
                      | apply d_seq
                      | with_reducible apply kt_normal
                      | apply l_nil
                      | apply d_region
                      | (apply l_off; (focus rfl); (focus rfl))
                      | (apply l_val; (focus rfl); (focus rfl); (focus rfl); (focus (go_simp; (try simp (disch := omega) only [wrap_in, wrap_in', wrap_u16, wrap_u8, wrap_u32, rem_in, quo_in]); first | done | with_reducible rfl | (constructor <;> with_reducible rfl))))
                      | (apply l_store; (focus rfl); (focus rfl); (focus rfl); (focus (go_simp; (try simp (disch := omega) only [wrap_in, wrap_in', wrap_u16, wrap_u8, wrap_u32, rem_in, quo_in]); first | done | with_reducible rfl | (constructor <;> with_reducible rfl))))
                      | apply d_block
                      | (apply d_true; (focus rfl); (focus rfl))
                      | (apply d_false; (focus rfl); (focus rfl))
                      | apply d_skip
                      | apply d_exit
                      | apply d_ret
                      | with_reducible apply kt_ret
                      | with_reducible apply kt_exit
                      | with_reducible apply kb_normal
                      | with_reducible apply kb_ret
                      | with_reducible apply kb_here
                      | with_reducible apply kl_ret
                      | with_reducible apply kl_exit
                      | with_reducible apply kc_ret
                      | with_reducible apply kc_exit
                      | (with_reducible apply kb_there; (focus rfl))
                    cases fu
                    all_goals
                      refine d_draw (true, [([], []), ([0], [0]), ([1], [1]), ([1], [1]), ([2, 3, 1], [1, 2, 3]), ([4, 1], [1, 4]), ([5, 1], [1, 5]), ([1], [1]), ([1], [1]), ([7, 8, 1], [1, 7, 8]), ([9, 1], [1, 9]), ([10, 1], [1, 10]), ([6, 11, 1], [1, 6, 11]), ([1, 12], [1, 12]), ([13, 1, 0, 1, 2, 3, 4, 5, 6, 7, 8, 9, 10, 11, 12, 13], [0, 13])]) [(0, 0), (0, 1), (0, 2), (0, 3), (0, 4), (0, 5), (0, 6), (0, 7), (0, 8), (0, 9), (0, 10), (0, 11), (0, 12), (0, 13), (0, 14)] [999999] (fun W => W.cell? ⟨g2, o2 + j * 5 + 1, none⟩ = some (.int .i64 r.wanted) ∧ W.cell? ⟨g2, o2 + j * 5 + 2, none⟩ = some (.int .i64 r.picked) ∧ W.cell? ⟨g2, o2 + j * 5 + 3, none⟩ = some (.int .i64 r.short) ∧ W.cell? ⟨g2, o2 + j * 5 + 4, none⟩ = some (.int .i64 r.put)) (by kernel_rfl) (by kernel_rfl) (by kernel_rfl) (by kernel_rfl) ⟨d1, d2, d3, d4⟩ ?_
                      iterate 15
                        first | (apply s_off; (focus rfl); (focus rfl); (focus rfl)) | (apply s_yield; (focus rfl); (focus rfl); (focus rfl); (focus rfl); (focus (intro W hS; obtain ⟨hS1, hS2, hS3, hS4⟩ := hS; go_simp; (try simp (disch := omega) only [wrap_in, wrap_in', wrap_u16, wrap_u8, wrap_u32, rem_in, quo_in]); first | done | with_reducible rfl | (constructor <;> with_reducible rfl))))
                      refine s_done ?_
                      repeat first
                        | apply d_seq
                        | with_reducible apply kt_normal
                        | apply l_nil
                        | apply d_region
                        | (apply l_off; (focus rfl); (focus rfl))
                        | (apply l_val; (focus rfl); (focus rfl); (focus rfl); (focus (go_simp; (try simp (disch := omega) only [wrap_in, wrap_in', wrap_u16, wrap_u8, wrap_u32, rem_in, quo_in]); first | done | with_reducible rfl | (constructor <;> with_reducible rfl))))
                        | (apply l_store; (focus rfl); (focus rfl); (focus rfl); (focus (go_simp; (try simp (disch := omega) only [wrap_in, wrap_in', wrap_u16, wrap_u8, wrap_u32, rem_in, quo_in]); first | done | with_reducible rfl | (constructor <;> with_reducible rfl))))
                        | apply d_block
                        | (apply d_true; (focus rfl); (focus rfl))
                        | (apply d_false; (focus rfl); (focus rfl))
                        | apply d_skip
                        | apply d_exit
                        | apply d_ret
                        | with_reducible apply kt_ret
                        | with_reducible apply kt_exit
                        | with_reducible apply kb_normal
                        | with_reducible apply kb_ret
                        | with_reducible apply kb_here
                        | with_reducible apply kl_ret
                        | with_reducible apply kl_exit
                        | with_reducible apply kc_ret
                        | with_reducible apply kc_exit
                        | (with_reducible apply kb_there; (focus rfl))
                      refine kl_normal (rs.length - (j + 1)) _ (by omega) (Subl.cons (t := 0) (by decide) rfl (Subl.cons (t := 1) (by decide) rfl (Subl.cons (t := 5) (by decide) rfl (Subl.cons (t := 6) (by decide) rfl (Subl.cons (t := 7) (by decide) rfl (Subl.cons (t := 8) (by decide) rfl (Subl.cons (t := 9) (by decide) rfl (Subl.cons (t := 11) (by decide) rfl (Subl.cons (t := 12) (by decide) rfl (Subl.cons (t := 13) (by decide) rfl (Subl.nil _ _))))))))))) ?_
                      exact ⟨j + 1, _, _, rfl, by omega, rfl, Lib.hid HX.out.drew.drew.drew, Lib.hid ⟨by rw [all_snoc HR.out, ← Bool.and_assoc, ← E2.out, E1.out]; simp, by rw [all_snoc HR.out, ← Bool.and_assoc, ← E3.out, Rw.allPut]; simp⟩⟩
                · have he : j = rs.length := by omega
                  subst he
                  have e2 := HCF.out.1
                  have e3 := HCF.out.2
                  rw [List.take_length] at e2 e3
                  have hca := HCA'.out
                  rw [← e2, ← e3] at hca
                  have HCA := Lib.hid hca
                  clear hca
                  clear e2 e3 HCF HCA'
                  have dd := HX.out.cell0 D0.out
                  have hcc := closed_has HX.out 0 x s rfl id
                  rw [HCA.out.1] at hcc
                  have HCC := Lib.hid hcc
                  clear hcc
                  repeat first
                    | apply d_seq
                    | with_reducible apply kt_normal
                    | apply l_nil
                    | apply d_region
                    | (apply l_off; (focus rfl); (focus rfl))
                    | (apply l_val; (focus rfl); (focus rfl); (focus rfl); (focus (go_simp; (try simp (disch := omega) only [wrap_in, wrap_in', wrap_u16, wrap_u8, wrap_u32, rem_in, quo_in]); first | done | with_reducible rfl | (constructor <;> with_reducible rfl))))
                    | (apply l_store; (focus rfl); (focus rfl); (focus rfl); (focus (go_simp; (try simp (disch := omega) only [wrap_in, wrap_in', wrap_u16, wrap_u8, wrap_u32, rem_in, quo_in]); first | done | with_reducible rfl | (constructor <;> with_reducible rfl))))
                    | apply d_block
                    | (apply d_true; (focus rfl); (focus rfl))
                    | (apply d_false; (focus rfl); (focus rfl))
                    | apply d_skip
                    | apply d_exit
                    | apply d_ret
                    | with_reducible apply kt_ret
                    | with_reducible apply kt_exit
                    | with_reducible apply kb_normal
                    | with_reducible apply kb_ret
                    | with_reducible apply kb_here
                    | with_reducible apply kl_ret
                    | with_reducible apply kl_exit
                    | with_reducible apply kc_ret
                    | with_reducible apply kc_exit
                    | (with_reducible apply kb_there; (focus rfl))
                  refine l_call rfl rfl rfl (by first | (go_simp; done) | (go_simp; rfl)) (HCC.out) ?_
                  rintro e w' ⟨rfl, hx⟩
                  clear HX dd
                  have dd := hx.cell0 D0.out
                  have hff := full_has hx 0 x s rfl id
                  rw [HCA.out.2] at hff
                  have HX := Lib.hid hx
                  have HFF := Lib.hid hff
                  clear hx hff
                  clear HCC
                  refine ⟨_, rfl, ?_⟩
                  cases cl
                  all_goals
                    repeat first
                      | apply d_seq
                      | with_reducible apply kt_normal
                      | apply l_nil
                      | apply d_region
                      | (apply l_off; (focus rfl); (focus rfl))
                      | (apply l_val; (focus rfl); (focus rfl); (focus rfl); (focus (go_simp; (try simp (disch := omega) only [wrap_in, wrap_in', wrap_u16, wrap_u8, wrap_u32, rem_in, quo_in]); first | done | with_reducible rfl | (constructor <;> with_reducible rfl))))
                      | (apply l_store; (focus rfl); (focus rfl); (focus rfl); (focus (go_simp; (try simp (disch := omega) only [wrap_in, wrap_in', wrap_u16, wrap_u8, wrap_u32, rem_in, quo_in]); first | done | with_reducible rfl | (constructor <;> with_reducible rfl))))
                      | apply d_block
                      | (apply d_true; (focus rfl); (focus rfl))
                      | (apply d_false; (focus rfl); (focus rfl))
                      | apply d_skip
                      | apply d_exit
                      | apply d_ret
                      | with_reducible apply kt_ret
                      | with_reducible apply kt_exit
                      | with_reducible apply kb_normal
                      | with_reducible apply kb_ret
                      | with_reducible apply kb_here
                      | with_reducible apply kl_ret
                      | with_reducible apply kl_exit
                      | with_reducible apply kc_ret
                      | with_reducible apply kc_exit
                      | (with_reducible apply kb_there; (focus rfl))
                    refine l_call rfl rfl rfl (by first | (go_simp; done) | (go_simp; rfl)) (HFF.out) ?_
                    rintro e w' ⟨rfl, hx⟩
                    have HX := Lib.hid (hx.take 1)
                    clear hx
                    cases fu
                    all_goals
                      refine ⟨_, rfl, ?_⟩
                      repeat first
                        | apply d_seq
                        | with_reducible apply kt_normal
                        | apply l_nil
                        | apply d_region
                        | (apply l_off; (focus rfl); (focus rfl))
                        | (apply l_val; (focus rfl); (focus rfl); (focus rfl); (focus (go_simp; (try simp (disch := omega) only [wrap_in, wrap_in', wrap_u16, wrap_u8, wrap_u32, rem_in, quo_in]); first | done | with_reducible rfl | (constructor <;> with_reducible rfl))))
                        | (apply l_store; (focus rfl); (focus rfl); (focus rfl); (focus (go_simp; (try simp (disch := omega) only [wrap_in, wrap_in', wrap_u16, wrap_u8, wrap_u32, rem_in, quo_in]); first | done | with_reducible rfl | (constructor <;> with_reducible rfl))))
                        | apply d_block
                        | (apply d_true; (focus rfl); (focus rfl))
                        | (apply d_false; (focus rfl); (focus rfl))
                        | apply d_skip
                        | apply d_exit
                        | apply d_ret
                        | with_reducible apply kt_ret
                        | with_reducible apply kt_exit
                        | with_reducible apply kb_normal
                        | with_reducible apply kb_ret
                        | with_reducible apply kb_here
                        | with_reducible apply kl_ret
                        | with_reducible apply kl_exit
                        | with_reducible apply kc_ret
                        | with_reducible apply kc_exit
                        | (with_reducible apply kb_there; (focus rfl))
                      refine kl_normal (l1.length - (q + 1)) _ (by omega) (Subl.cons (t := 0) (by decide) rfl (Subl.cons (t := 1) (by decide) rfl (Subl.cons (t := 5) (by decide) rfl (Subl.cons (t := 6) (by decide) rfl (Subl.cons (t := 7) (by decide) rfl (Subl.cons (t := 8) (by decide) rfl (Subl.nil _ _))))))) ?_
                      exact ⟨q + 1, rfl, by omega, by simp, HX⟩
            · repeat first
                | apply d_seq
                | with_reducible apply kt_normal
                | apply l_nil
                | apply d_region
                | (apply l_off; (focus rfl); (focus rfl))
                | (apply l_val; (focus rfl); (focus rfl); (focus rfl); (focus (go_simp; (try simp (disch := omega) only [wrap_in, wrap_in', wrap_u16, wrap_u8, wrap_u32, rem_in, quo_in]); first | done | with_reducible rfl | (constructor <;> with_reducible rfl))))
                | (apply l_store; (focus rfl); (focus rfl); (focus rfl); (focus (go_simp; (try simp (disch := omega) only [wrap_in, wrap_in', wrap_u16, wrap_u8, wrap_u32, rem_in, quo_in]); first | done | with_reducible rfl | (constructor <;> with_reducible rfl))))
                | apply d_block
                | (apply d_true; (focus rfl); (focus rfl))
                | (apply d_false; (focus rfl); (focus rfl))
                | apply d_skip
                | apply d_exit
                | apply d_ret
                | with_reducible apply kt_ret
                | with_reducible apply kt_exit
                | with_reducible apply kb_normal
                | with_reducible apply kb_ret
                | with_reducible apply kb_here
                | with_reducible apply kl_ret
                | with_reducible apply kl_exit
                | with_reducible apply kc_ret
                | with_reducible apply kc_exit
                | (with_reducible apply kb_there; (focus rfl))
              refine kl_normal (l0.length - (k + 1)) _ (by omega) (Subl.cons (t := 0) (by decide) rfl (Subl.cons (t := 1) (by decide) rfl (Subl.cons (t := 5) (by decide) rfl (Subl.cons (t := 6) (by decide) rfl (Subl.cons (t := 7) (by decide) rfl (Subl.nil _ _)))))) ?_
              exact ⟨k + 1, s, rfl, by omega, by simp, HX⟩
          · repeat first
              | apply d_seq
              | with_reducible apply kt_normal
              | apply l_nil
              | apply d_region
              | (apply l_off; (focus rfl); (focus rfl))
              | (apply l_val; (focus rfl); (focus rfl); (focus rfl); (focus (go_simp; (try simp (disch := omega) only [wrap_in, wrap_in', wrap_u16, wrap_u8, wrap_u32, rem_in, quo_in]); first | done | with_reducible rfl | (constructor <;> with_reducible rfl))))
              | (apply l_store; (focus rfl); (focus rfl); (focus rfl); (focus (go_simp; (try simp (disch := omega) only [wrap_in, wrap_in', wrap_u16, wrap_u8, wrap_u32, rem_in, quo_in]); first | done | with_reducible rfl | (constructor <;> with_reducible rfl))))
              | apply d_block
              | (apply d_true; (focus rfl); (focus rfl))
              | (apply d_false; (focus rfl); (focus rfl))
              | apply d_skip
              | apply d_exit
              | apply d_ret
              | with_reducible apply kt_ret
              | with_reducible apply kt_exit
              | with_reducible apply kb_normal
              | with_reducible apply kb_ret
              | with_reducible apply kb_here
              | with_reducible apply kl_ret
              | with_reducible apply kl_exit
              | with_reducible apply kc_ret
              | with_reducible apply kc_exit
              | (with_reducible apply kb_there; (focus rfl))
            refine kl_normal (l0.length - (k + 1)) _ (by omega) (Subl.cons (t := 0) (by decide) rfl (Subl.cons (t := 1) (by decide) rfl (Subl.cons (t := 5) (by decide) rfl (Subl.cons (t := 6) (by decide) rfl (Subl.cons (t := 7) (by decide) rfl (Subl.nil _ _)))))) ?_
            exact ⟨k + 1, s, rfl, by omega, by simp, HX⟩
      · repeat first
          | apply d_seq
          | with_reducible apply kt_normal
          | apply l_nil
          | apply d_region
          | (apply l_off; (focus rfl); (focus rfl))
          | (apply l_val; (focus rfl); (focus rfl); (focus rfl); (focus (go_simp; (try simp (disch := omega) only [wrap_in, wrap_in', wrap_u16, wrap_u8, wrap_u32, rem_in, quo_in]); first | done | with_reducible rfl | (constructor <;> with_reducible rfl))))
          | (apply l_store; (focus rfl); (focus rfl); (focus rfl); (focus (go_simp; (try simp (disch := omega) only [wrap_in, wrap_in', wrap_u16, wrap_u8, wrap_u32, rem_in, quo_in]); first | done | with_reducible rfl | (constructor <;> with_reducible rfl))))
          | apply d_block
          | (apply d_true; (focus rfl); (focus rfl))
          | (apply d_false; (focus rfl); (focus rfl))
          | apply d_skip
          | apply d_exit
          | apply d_ret
          | with_reducible apply kt_ret
          | with_reducible apply kt_exit
          | with_reducible apply kb_normal
          | with_reducible apply kb_ret
          | with_reducible apply kb_here
          | with_reducible apply kl_ret
          | with_reducible apply kl_exit
          | with_reducible apply kc_ret
          | with_reducible apply kc_exit
          | (with_reducible apply kb_there; (focus rfl))
        refine ⟨rfl, _, (by first | (simp [resultsG, resOne, Try.results4, rho, List.lookup]; done) | (simp [resultsG, resOne, Try.results4, rho, List.lookup]; rfl)), ?_⟩
        exact ⟨rfl, HX.out.old⟩
    · repeat first
        | apply d_seq
        | with_reducible apply kt_normal
        | apply l_nil
        | apply d_region
        | (apply l_off; (focus rfl); (focus rfl))
        | (apply l_val; (focus rfl); (focus rfl); (focus rfl); (focus (go_simp; (try simp (disch := omega) only [wrap_in, wrap_in', wrap_u16, wrap_u8, wrap_u32, rem_in, quo_in]); first | done | with_reducible rfl | (constructor <;> with_reducible rfl))))
        | (apply l_store; (focus rfl); (focus rfl); (focus rfl); (focus (go_simp; (try simp (disch := omega) only [wrap_in, wrap_in', wrap_u16, wrap_u8, wrap_u32, rem_in, quo_in]); first | done | with_reducible rfl | (constructor <;> with_reducible rfl))))
        | apply d_block
        | (apply d_true; (focus rfl); (focus rfl))
        | (apply d_false; (focus rfl); (focus rfl))
        | apply d_skip
        | apply d_exit
        | apply d_ret
        | with_reducible apply kt_ret
        | with_reducible apply kt_exit
        | with_reducible apply kb_normal
        | with_reducible apply kb_ret
        | with_reducible apply kb_here
        | with_reducible apply kl_ret
        | with_reducible apply kl_exit
        | with_reducible apply kc_ret
        | with_reducible apply kc_exit
        | (with_reducible apply kb_there; (focus rfl))
      refine ⟨rfl, _, (by first | (simp [resultsG, resOne, Try.results4, rho, List.lookup]; done) | (simp [resultsG, resOne, Try.results4, rho, List.lookup]; rfl)), ?_⟩
      exact ⟨rfl, HX.out.old⟩
end Go.Proofs.Ytkjcmnhhgnlaeaa
