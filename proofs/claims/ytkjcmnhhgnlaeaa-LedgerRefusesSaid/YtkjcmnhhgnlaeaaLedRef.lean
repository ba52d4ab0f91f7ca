import Derived.Test.YtkjcmnhhgnlaeaaLedG
namespace Go.Proofs.Ytkjcmnhhgnlaeaa
set_option linter.unusedVariables false
set_option linter.unusedSimpArgs false
attribute [local go_sem] rho_const rho_func rho_hit rho_miss
open Go.RowKit
attribute [local go_sem] min2_mn min_two'
set_option maxRecDepth 100000 in
set_option maxHeartbeats 4000000 in
theorem ledgerRefuses_any {w : World} {A0 : Option Addr} {n0 cq0 : Nat} {l0 : List St} {A1 : Option Addr} {n1 cq1 : Nat} {l1 : List Int}
    (h0 : SeesR w (fun k => k < w.heap.size) 6 (fun (y : St) cs => cs = y.cs ∧ y.ok w) (.slice A0 n0 cq0) l0)
    (h1 : SeesIn w (fun k => k < w.heap.size) 1 (.slice A1 n1 cq1) l1.length (l1.flatMap (fun y => [Value.int .u32 y])) ∧ ∀ x ∈ l1, 0 ≤ x ∧ x ≤ 4294967295) :
    Calls Try.prog 8 #[.slice A0 n0 cq0, .slice A1 n1 cq1] w fun e w' => e = .returned (.bool true) ∧ Keep none_ w w' := by
  obtain ⟨rfl, b0, b0'⟩ := h0.form
  obtain ⟨hs1, -⟩ := h1
  obtain ⟨rfl, b1, b1'⟩ := hs1.form'
  have HX := Lib.hid (Has.nil (Keep.refl none_ w))
  have H0 := Lib.hid h0
  have HS1 := Lib.hid hs1
  clear h0 hs1
  refine d_calls (n := 119) Try.func8 rfl rfl (by simp) [(0, .slice A0 l0.length cq0), (1, .slice A1 l1.length cq1)] (by simp) ?_
  repeat first
    | apply d_seq
    | with_reducible apply kt_normal
    | apply l_nil
    | apply d_region
    | (apply l_off; (focus rfl); (focus rfl))
    | (apply l_val; (focus rfl); (focus rfl); (focus rfl); (focus (go_simp; (try simp (disch := omega) only [wrap_in, wrap_in', wrap_u16, wrap_u8, wrap_u32, rem_in, quo_in]); first | done | with_reducible rfl | (constructor <;> with_reducible rfl))))
    | (apply l_store; (focus rfl); (focus rfl); (focus rfl); (focus (go_simp; (try simp (disch := omega) only [wrap_in, wrap_in', wrap_u16, wrap_u8, wrap_u32, rem_in, quo_in]); first | done | with_reducible rfl | (constructor <;> with_reducible rfl))))
    | apply d_block
    | (apply d_true; (focus rfl); (focus rfl))
    | (apply d_false; (focus rfl); (focus rfl))
    | apply d_skip
    | apply d_exit
    | apply d_ret
    | with_reducible apply kt_ret
    | with_reducible apply kt_exit
    | with_reducible apply kb_normal
    | with_reducible apply kb_ret
    | with_reducible apply kb_here
    | with_reducible apply kl_ret
    | with_reducible apply kl_exit
    | with_reducible apply kc_ret
    | with_reducible apply kc_exit
    | (with_reducible apply kb_there; (focus rfl))
  refine l_call rfl rfl rfl (by first | (go_simp; done) | (go_simp; rfl)) (shown_has HX.out) ?_
  rintro e w' ⟨rfl, hx⟩
  clear HX
  try simp only [List.nil_append, List.cons_append, List.set_cons_zero, List.set_cons_succ] at hx
  have HX := Lib.hid hx
  clear hx
  refine ⟨_, rfl, ?_⟩
  repeat first
    | apply d_seq
    | with_reducible apply kt_normal
    | apply l_nil
    | apply d_region
    | (apply l_off; (focus rfl); (focus rfl))
    | (apply l_val; (focus rfl); (focus rfl); (focus rfl); (focus (go_simp; (try simp (disch := omega) only [wrap_in, wrap_in', wrap_u16, wrap_u8, wrap_u32, rem_in, quo_in]); first | done | with_reducible rfl | (constructor <;> with_reducible rfl))))
    | (apply l_store; (focus rfl); (focus rfl); (focus rfl); (focus (go_simp; (try simp (disch := omega) only [wrap_in, wrap_in', wrap_u16, wrap_u8, wrap_u32, rem_in, quo_in]); first | done | with_reducible rfl | (constructor <;> with_reducible rfl))))
    | apply d_block
    | (apply d_true; (focus rfl); (focus rfl))
    | (apply d_false; (focus rfl); (focus rfl))
    | apply d_skip
    | apply d_exit
    | apply d_ret
    | with_reducible apply kt_ret
    | with_reducible apply kt_exit
    | with_reducible apply kb_normal
    | with_reducible apply kb_ret
    | with_reducible apply kb_here
    | with_reducible apply kl_ret
    | with_reducible apply kl_exit
    | with_reducible apply kc_ret
    | with_reducible apply kc_exit
    | (with_reducible apply kb_there; (focus rfl))
  refine l_call rfl rfl rfl (by first | (go_simp; done) | (go_simp; rfl)) (new_has HX.out) ?_
  rintro e w' ⟨x, rfl, hx⟩
  clear HX
  try simp only [List.nil_append, List.cons_append, List.set_cons_zero, List.set_cons_succ] at hx
  have HX := Lib.hid hx
  clear hx
  refine ⟨_, rfl, ?_⟩
  repeat first
    | apply d_seq
    | with_reducible apply kt_normal
    | apply l_nil
    | apply d_region
    | (apply l_off; (focus rfl); (focus rfl))
    | (apply l_val; (focus rfl); (focus rfl); (focus rfl); (focus (go_simp; (try simp (disch := omega) only [wrap_in, wrap_in', wrap_u16, wrap_u8, wrap_u32, rem_in, quo_in]); first | done | with_reducible rfl | (constructor <;> with_reducible rfl))))
    | (apply l_store; (focus rfl); (focus rfl); (focus rfl); (focus (go_simp; (try simp (disch := omega) only [wrap_in, wrap_in', wrap_u16, wrap_u8, wrap_u32, rem_in, quo_in]); first | done | with_reducible rfl | (constructor <;> with_reducible rfl))))
    | apply d_block
    | (apply d_true; (focus rfl); (focus rfl))
    | (apply d_false; (focus rfl); (focus rfl))
    | apply d_skip
    | apply d_exit
    | apply d_ret
    | with_reducible apply kt_ret
    | with_reducible apply kt_exit
    | with_reducible apply kb_normal
    | with_reducible apply kb_ret
    | with_reducible apply kb_here
    | with_reducible apply kl_ret
    | with_reducible apply kl_exit
    | with_reducible apply kc_ret
    | with_reducible apply kc_exit
    | (with_reducible apply kb_there; (focus rfl))
  refine l_call rfl rfl rfl (by first | (go_simp; done) | (go_simp; rfl)) (new_has HX.out) ?_
  rintro e w' ⟨z, rfl, hx⟩
  clear HX
  try simp only [List.nil_append, List.cons_append, List.set_cons_zero, List.set_cons_succ] at hx
  have HX := Lib.hid hx
  clear hx
  refine ⟨_, rfl, ?_⟩
  repeat first
    | apply d_seq
    | with_reducible apply kt_normal
    | apply l_nil
    | apply d_region
    | (apply l_off; (focus rfl); (focus rfl))
    | (apply l_val; (focus rfl); (focus rfl); (focus rfl); (focus (go_simp; (try simp (disch := omega) only [wrap_in, wrap_in', wrap_u16, wrap_u8, wrap_u32, rem_in, quo_in]); first | done | with_reducible rfl | (constructor <;> with_reducible rfl))))
    | (apply l_store; (focus rfl); (focus rfl); (focus rfl); (focus (go_simp; (try simp (disch := omega) only [wrap_in, wrap_in', wrap_u16, wrap_u8, wrap_u32, rem_in, quo_in]); first | done | with_reducible rfl | (constructor <;> with_reducible rfl))))
    | ((fail_if_success (with_reducible apply d_block (id := 0))); apply d_block)
    | (apply d_true; (focus rfl); (focus rfl))
    | (apply d_false; (focus rfl); (focus rfl))
    | apply d_skip
    | apply d_exit
    | apply d_ret
    | with_reducible apply kt_ret
    | with_reducible apply kt_exit
    | with_reducible apply kb_normal
    | with_reducible apply kb_ret
    | with_reducible apply kb_here
    | with_reducible apply kl_ret
    | with_reducible apply kl_exit
    | with_reducible apply kc_ret
    | with_reducible apply kc_exit
    | (with_reducible apply kb_there; (focus rfl))
  refine d_join (fun D wr => ∃ (s : LS), D = [(1, .slice A1 l1.length cq1), (5, .bool true), (6, .pointer (some ⟨x, 0, none⟩)), (7, .pointer (some ⟨z, 0, none⟩))] ∧ Hid (Has w wr [LedA w.heap.size x s, LedA w.heap.size z s])) ?_ (fun D wr hcut => ?_)
  · repeat first
      | apply d_seq
      | with_reducible apply kt_normal
      | apply l_nil
      | apply d_region
      | (apply l_off; (focus rfl); (focus rfl))
      | (apply l_val; (focus rfl); (focus rfl); (focus rfl); (focus (go_simp; (try simp (disch := omega) only [wrap_in, wrap_in', wrap_u16, wrap_u8, wrap_u32, rem_in, quo_in]); first | done | with_reducible rfl | (constructor <;> with_reducible rfl))))
      | (apply l_store; (focus rfl); (focus rfl); (focus rfl); (focus (go_simp; (try simp (disch := omega) only [wrap_in, wrap_in', wrap_u16, wrap_u8, wrap_u32, rem_in, quo_in]); first | done | with_reducible rfl | (constructor <;> with_reducible rfl))))
      | apply d_block
      | (apply d_true; (focus rfl); (focus rfl))
      | (apply d_false; (focus rfl); (focus rfl))
      | apply d_skip
      | apply d_exit
      | apply d_ret
      | with_reducible apply kt_ret
      | with_reducible apply kt_exit
      | with_reducible apply kb_normal
      | with_reducible apply kb_ret
      | with_reducible apply kb_here
      | with_reducible apply kl_ret
      | with_reducible apply kl_exit
      | with_reducible apply kc_ret
      | with_reducible apply kc_exit
      | (with_reducible apply kb_there; (focus rfl))
    refine d_loop (fun m D wr => ∃ (k : Nat) (s : LS), m = l0.length - k ∧ k ≤ l0.length ∧ D = [(0, .slice A0 l0.length cq0), (1, .slice A1 l1.length cq1), (5, .bool true), (6, .pointer (some ⟨x, 0, none⟩)), (7, .pointer (some ⟨z, 0, none⟩)), (8, .int .i64 k)] ∧ Hid (Has w wr [LedA w.heap.size x s, LedA w.heap.size z s])) (l0.length) _ (Subl.cons (t := 0) (by decide) rfl (Subl.cons (t := 1) (by decide) rfl (Subl.cons (t := 5) (by decide) rfl (Subl.cons (t := 6) (by decide) rfl (Subl.cons (t := 7) (by decide) rfl (Subl.cons (t := 8) (by decide) rfl (Subl.nil _ _))))))) ?_ (fun m D wr hrel => ?_)
    · exact ⟨0, _, rfl, Nat.zero_le _, rfl, HX⟩
    · clear HX
      obtain ⟨k, s, rfl, hk, rfl, HX⟩ := hrel
      by_cases hlt : k < l0.length
      · by_cases h100 : (k : Int) < 100
        · obtain ⟨y, hy⟩ : ∃ y, l0[k]? = some y := ⟨_, List.getElem?_eq_getElem hlt⟩
          obtain ⟨g, o, cp, e1, -, -, hq1, hq2, hyk, c0, c1, c2, c3, c4, c5⟩ := sees_Steps H0.out hy
          simp only [Value.slice.injEq, true_and] at e1
          obtain ⟨rfl, rfl⟩ := e1
          have HYK := Lib.hid hyk
          have C0 := Lib.hid c0
          have C1 := Lib.hid c1
          have C2 := Lib.hid c2
          have C3 := Lib.hid c3
          have C4 := Lib.hid c4
          have C5 := Lib.hid c5
          clear hyk c0 c1 c2 c3 c4 c5
          clear hy
          try clear c0
          have c0 := HX.out.cell0 C0.out
          try clear c1
          have c1 := HX.out.cell0 C1.out
          try clear c2
          have c2 := HX.out.cell0 C2.out
          try clear c3
          have c3 := HX.out.cell0 C3.out
          try clear c4
          have c4 := HX.out.cell0 C4.out
          try clear c5
          have c5 := HX.out.cell0 C5.out
          repeat first
            | apply d_seq
            | with_reducible apply kt_normal
            | apply l_nil
            | apply d_region
            | (apply l_off; (focus rfl); (focus rfl))
            | (apply l_val; (focus rfl); (focus rfl); (focus rfl); (focus (go_simp; (try simp (disch := omega) only [wrap_in, wrap_in', wrap_u16, wrap_u8, wrap_u32, rem_in, quo_in]); first | done | with_reducible rfl | (constructor <;> with_reducible rfl))))
            | (apply l_store; (focus rfl); (focus rfl); (focus rfl); (focus (go_simp; (try simp (disch := omega) only [wrap_in, wrap_in', wrap_u16, wrap_u8, wrap_u32, rem_in, quo_in]); first | done | with_reducible rfl | (constructor <;> with_reducible rfl))))
            | apply d_block
            | (apply d_true; (focus rfl); (focus rfl))
            | (apply d_false; (focus rfl); (focus rfl))
            | apply d_skip
            | apply d_exit
            | apply d_ret
            | with_reducible apply kt_ret
            | with_reducible apply kt_exit
            | with_reducible apply kb_normal
            | with_reducible apply kb_ret
            | with_reducible apply kb_here
            | with_reducible apply kl_ret
            | with_reducible apply kl_exit
            | with_reducible apply kc_ret
            | with_reducible apply kc_exit
            | (with_reducible apply kb_there; (focus rfl))
          have hre := step_refused s y
          rcases Bool.eq_false_or_eq_true ((s.step y).2 == 0) with e | e
          · refine l_call rfl rfl rfl (by first | (go_simp; done) | (go_simp; rfl)) (does_has HX.out 0 x s rfl y HYK.out) ?_
            rintro e w' ⟨rfl, hx⟩
            clear HX
            try simp only [List.nil_append, List.cons_append, List.set_cons_zero, List.set_cons_succ] at hx
            try clear c0
            have c0 := hx.cell0 C0.out
            try clear c1
            have c1 := hx.cell0 C1.out
            try clear c2
            have c2 := hx.cell0 C2.out
            try clear c3
            have c3 := hx.cell0 C3.out
            try clear c4
            have c4 := hx.cell0 C4.out
            try clear c5
            have c5 := hx.cell0 C5.out
            have HX := Lib.hid hx
            clear hx
            refine ⟨_, rfl, ?_⟩
            repeat first
              | apply d_seq
              | with_reducible apply kt_normal
              | apply l_nil
              | apply d_region
              | (apply l_off; (focus rfl); (focus rfl))
              | (apply l_val; (focus rfl); (focus rfl); (focus rfl); (focus (go_simp; (try simp (disch := omega) only [wrap_in, wrap_in', wrap_u16, wrap_u8, wrap_u32, rem_in, quo_in]); first | done | with_reducible rfl | (constructor <;> with_reducible rfl))))
              | (apply l_store; (focus rfl); (focus rfl); (focus rfl); (focus (go_simp; (try simp (disch := omega) only [wrap_in, wrap_in', wrap_u16, wrap_u8, wrap_u32, rem_in, quo_in]); first | done | with_reducible rfl | (constructor <;> with_reducible rfl))))
              | apply d_block
              | (apply d_true; (focus rfl); (focus rfl))
              | (apply d_false; (focus rfl); (focus rfl))
              | apply d_skip
              | apply d_exit
              | apply d_ret
              | with_reducible apply kt_ret
              | with_reducible apply kt_exit
              | with_reducible apply kb_normal
              | with_reducible apply kb_ret
              | with_reducible apply kb_here
              | with_reducible apply kl_ret
              | with_reducible apply kl_exit
              | with_reducible apply kc_ret
              | with_reducible apply kc_exit
              | (with_reducible apply kb_there; (focus rfl))
            have e' : ((s.step y).2 != 0) = false := by simpa using e
            refine l_call rfl rfl rfl (by first | (go_simp; done) | (go_simp; rfl)) (does_has HX.out 1 z s rfl y HYK.out) ?_
            rintro e w' ⟨rfl, hx⟩
            clear HX
            try simp only [List.nil_append, List.cons_append, List.set_cons_zero, List.set_cons_succ] at hx
            have HX := Lib.hid hx
            clear hx
            refine ⟨_, rfl, ?_⟩
            repeat first
              | apply d_seq
              | with_reducible apply kt_normal
              | apply l_nil
              | apply d_region
              | (apply l_off; (focus rfl); (focus rfl))
              | (apply l_val; (focus rfl); (focus rfl); (focus rfl); (focus (go_simp; (try simp (disch := omega) only [wrap_in, wrap_in', wrap_u16, wrap_u8, wrap_u32, rem_in, quo_in]); first | done | with_reducible rfl | (constructor <;> with_reducible rfl))))
              | (apply l_store; (focus rfl); (focus rfl); (focus rfl); (focus (go_simp; (try simp (disch := omega) only [wrap_in, wrap_in', wrap_u16, wrap_u8, wrap_u32, rem_in, quo_in]); first | done | with_reducible rfl | (constructor <;> with_reducible rfl))))
              | apply d_block
              | (apply d_true; (focus rfl); (focus rfl))
              | (apply d_false; (focus rfl); (focus rfl))
              | apply d_skip
              | apply d_exit
              | apply d_ret
              | with_reducible apply kt_ret
              | with_reducible apply kt_exit
              | with_reducible apply kb_normal
              | with_reducible apply kb_ret
              | with_reducible apply kb_here
              | with_reducible apply kl_ret
              | with_reducible apply kl_exit
              | with_reducible apply kc_ret
              | with_reducible apply kc_exit
              | (with_reducible apply kb_there; (focus rfl))
            refine kl_normal (l0.length - (k + 1)) _ (by omega) (Subl.cons (t := 0) (by decide) rfl (Subl.cons (t := 1) (by decide) rfl (Subl.cons (t := 5) (by decide) rfl (Subl.cons (t := 6) (by decide) rfl (Subl.cons (t := 7) (by decide) rfl (Subl.cons (t := 8) (by decide) rfl (Subl.nil _ _))))))) ?_
            exact ⟨k + 1, _, rfl, by omega, rfl, HX⟩
          · have hs : (s.step y).1 = s := hre.resolve_left (by simpa using e)
            have HS := Lib.hid hs
            clear hs
            refine l_call rfl rfl rfl (by first | (go_simp; done) | (go_simp; rfl)) (does_has HX.out 0 x s rfl y HYK.out) ?_
            rintro e w' ⟨rfl, hx⟩
            clear HX
            try simp only [List.nil_append, List.cons_append, List.set_cons_zero, List.set_cons_succ] at hx
            have HX := Lib.hid hx
            clear hx
            refine ⟨_, rfl, ?_⟩
            repeat first
              | apply d_seq
              | with_reducible apply kt_normal
              | apply l_nil
              | apply d_region
              | (apply l_off; (focus rfl); (focus rfl))
              | (apply l_val; (focus rfl); (focus rfl); (focus rfl); (focus (go_simp; (try simp (disch := omega) only [wrap_in, wrap_in', wrap_u16, wrap_u8, wrap_u32, rem_in, quo_in]); first | done | with_reducible rfl | (constructor <;> with_reducible rfl))))
              | (apply l_store; (focus rfl); (focus rfl); (focus rfl); (focus (go_simp; (try simp (disch := omega) only [wrap_in, wrap_in', wrap_u16, wrap_u8, wrap_u32, rem_in, quo_in]); first | done | with_reducible rfl | (constructor <;> with_reducible rfl))))
              | apply d_block
              | (apply d_true; (focus rfl); (focus rfl))
              | (apply d_false; (focus rfl); (focus rfl))
              | apply d_skip
              | apply d_exit
              | apply d_ret
              | with_reducible apply kt_ret
              | with_reducible apply kt_exit
              | with_reducible apply kb_normal
              | with_reducible apply kb_ret
              | with_reducible apply kb_here
              | with_reducible apply kl_ret
              | with_reducible apply kl_exit
              | with_reducible apply kc_ret
              | with_reducible apply kc_exit
              | (with_reducible apply kb_there; (focus rfl))
            refine kl_normal (l0.length - (k + 1)) _ (by omega) (Subl.cons (t := 0) (by decide) rfl (Subl.cons (t := 1) (by decide) rfl (Subl.cons (t := 5) (by decide) rfl (Subl.cons (t := 6) (by decide) rfl (Subl.cons (t := 7) (by decide) rfl (Subl.cons (t := 8) (by decide) rfl (Subl.nil _ _))))))) ?_
            rw [HS.out] at HX
            exact ⟨k + 1, _, rfl, by omega, rfl, HX⟩
        · repeat first
            | apply d_seq
            | with_reducible apply kt_normal
            | apply l_nil
            | apply d_region
            | (apply l_off; (focus rfl); (focus rfl))
            | (apply l_val; (focus rfl); (focus rfl); (focus rfl); (focus (go_simp; (try simp (disch := omega) only [wrap_in, wrap_in', wrap_u16, wrap_u8, wrap_u32, rem_in, quo_in]); first | done | with_reducible rfl | (constructor <;> with_reducible rfl))))
            | (apply l_store; (focus rfl); (focus rfl); (focus rfl); (focus (go_simp; (try simp (disch := omega) only [wrap_in, wrap_in', wrap_u16, wrap_u8, wrap_u32, rem_in, quo_in]); first | done | with_reducible rfl | (constructor <;> with_reducible rfl))))
            | apply d_block
            | (apply d_true; (focus rfl); (focus rfl))
            | (apply d_false; (focus rfl); (focus rfl))
            | apply d_skip
            | apply d_exit
            | apply d_ret
            | with_reducible apply kt_ret
            | with_reducible apply kt_exit
            | with_reducible apply kb_normal
            | with_reducible apply kb_ret
            | with_reducible apply kb_here
            | with_reducible apply kl_ret
            | with_reducible apply kl_exit
            | with_reducible apply kc_ret
            | with_reducible apply kc_exit
            | (with_reducible apply kb_there; (focus rfl))
          refine kc_normal _ (Subl.cons (t := 1) (by decide) rfl (Subl.cons (t := 5) (by decide) rfl (Subl.cons (t := 6) (by decide) rfl (Subl.cons (t := 7) (by decide) rfl (Subl.nil _ _))))) ?_
          exact ⟨s, rfl, HX⟩
      · repeat first
          | apply d_seq
          | with_reducible apply kt_normal
          | apply l_nil
          | apply d_region
          | (apply l_off; (focus rfl); (focus rfl))
          | (apply l_val; (focus rfl); (focus rfl); (focus rfl); (focus (go_simp; (try simp (disch := omega) only [wrap_in, wrap_in', wrap_u16, wrap_u8, wrap_u32, rem_in, quo_in]); first | done | with_reducible rfl | (constructor <;> with_reducible rfl))))
          | (apply l_store; (focus rfl); (focus rfl); (focus rfl); (focus (go_simp; (try simp (disch := omega) only [wrap_in, wrap_in', wrap_u16, wrap_u8, wrap_u32, rem_in, quo_in]); first | done | with_reducible rfl | (constructor <;> with_reducible rfl))))
          | apply d_block
          | (apply d_true; (focus rfl); (focus rfl))
          | (apply d_false; (focus rfl); (focus rfl))
          | apply d_skip
          | apply d_exit
          | apply d_ret
          | with_reducible apply kt_ret
          | with_reducible apply kt_exit
          | with_reducible apply kb_normal
          | with_reducible apply kb_ret
          | with_reducible apply kb_here
          | with_reducible apply kl_ret
          | with_reducible apply kl_exit
          | with_reducible apply kc_ret
          | with_reducible apply kc_exit
          | (with_reducible apply kb_there; (focus rfl))
        refine kc_normal _ (Subl.cons (t := 1) (by decide) rfl (Subl.cons (t := 5) (by decide) rfl (Subl.cons (t := 6) (by decide) rfl (Subl.cons (t := 7) (by decide) rfl (Subl.nil _ _))))) ?_
        exact ⟨s, rfl, HX⟩
  · clear HX
    obtain ⟨s, rfl, HX⟩ := hcut
    repeat first
      | apply d_seq
      | with_reducible apply kt_normal
      | apply l_nil
      | apply d_region
      | (apply l_off; (focus rfl); (focus rfl))
      | (apply l_val; (focus rfl); (focus rfl); (focus rfl); (focus (go_simp; (try simp (disch := omega) only [wrap_in, wrap_in', wrap_u16, wrap_u8, wrap_u32, rem_in, quo_in]); first | done | with_reducible rfl | (constructor <;> with_reducible rfl))))
      | (apply l_store; (focus rfl); (focus rfl); (focus rfl); (focus (go_simp; (try simp (disch := omega) only [wrap_in, wrap_in', wrap_u16, wrap_u8, wrap_u32, rem_in, quo_in]); first | done | with_reducible rfl | (constructor <;> with_reducible rfl))))
      | apply d_block
      | (apply d_true; (focus rfl); (focus rfl))
      | (apply d_false; (focus rfl); (focus rfl))
      | apply d_skip
      | apply d_exit
      | apply d_ret
      | with_reducible apply kt_ret
      | with_reducible apply kt_exit
      | with_reducible apply kb_normal
      | with_reducible apply kb_ret
      | with_reducible apply kb_here
      | with_reducible apply kl_ret
      | with_reducible apply kl_exit
      | with_reducible apply kc_ret
      | with_reducible apply kc_exit
      | (with_reducible apply kb_there; (focus rfl))
    refine d_loop (fun m D wr => ∃ (q : Nat), m = l1.length - q ∧ q ≤ l1.length ∧ D = [(1, .slice A1 l1.length cq1), (5, .bool true), (6, .pointer (some ⟨x, 0, none⟩)), (7, .pointer (some ⟨z, 0, none⟩)), (9, .int .i64 q)] ∧ Hid (Has w wr [LedA w.heap.size x s, LedA w.heap.size z s])) (l1.length) _ (Subl.cons (t := 1) (by decide) rfl (Subl.cons (t := 5) (by decide) rfl (Subl.cons (t := 6) (by decide) rfl (Subl.cons (t := 7) (by decide) rfl (Subl.cons (t := 9) (by decide) rfl (Subl.nil _ _)))))) ?_ (fun m D wr hrel => ?_)
    · exact ⟨0, rfl, Nat.zero_le _, rfl, HX⟩
    · clear HX
      obtain ⟨q, rfl, hq, rfl, HX⟩ := hrel
      by_cases hlq : q < l1.length
      · by_cases h10 : (q : Int) < 10
        · obtain ⟨id, hid⟩ : ∃ y, l1[q]? = some y := ⟨_, List.getElem?_eq_getElem hlq⟩
          obtain ⟨g1, o1, cp1, e1, -, -, hq3, hq4, d0⟩ := sees_one (.int .u32) (fun _ => rfl) HS1.out hid
          simp only [Value.slice.injEq, true_and] at e1
          obtain ⟨rfl, rfl⟩ := e1
          obtain ⟨rs, hrs⟩ : ∃ rs, s.rows id = rs := ⟨_, rfl⟩
          obtain ⟨b, hb⟩ : ∃ b, (s.get id).isSome = b := ⟨_, rfl⟩
          obtain ⟨cl, hcl⟩ : ∃ b, s.all id Rw.closed = b := ⟨_, rfl⟩
          have cr := fun (W : World) (L : List (Asrt w.heap.size)) (H : Has w W L) (i x : Nat) (hi : L[i]? = some (LedA w.heap.size x s)) => rows_has H i x s hi id
          have cc := fun (W : World) (L : List (Asrt w.heap.size)) (H : Has w W L) (i x : Nat) (hi : L[i]? = some (LedA w.heap.size x s)) => closed_has H i x s hi id
          simp only [hrs, hb, hcl] at cr cc
          have D0 := Lib.hid d0
          have CR := Lib.hid cr
          have CC := Lib.hid cc
          clear d0 cr cc
          try clear d0
          have d0 := HX.out.cell0 D0.out
          clear hid hrs hb hcl
          repeat first
            | apply d_seq
            | with_reducible apply kt_normal
            | apply l_nil
            | apply d_region
            | (apply l_off; (focus rfl); (focus rfl))
            | (apply l_val; (focus rfl); (focus rfl); (focus rfl); (focus (go_simp; (try simp (disch := omega) only [wrap_in, wrap_in', wrap_u16, wrap_u8, wrap_u32, rem_in, quo_in]); first | done | with_reducible rfl | (constructor <;> with_reducible rfl))))
            | (apply l_store; (focus rfl); (focus rfl); (focus rfl); (focus (go_simp; (try simp (disch := omega) only [wrap_in, wrap_in', wrap_u16, wrap_u8, wrap_u32, rem_in, quo_in]); first | done | with_reducible rfl | (constructor <;> with_reducible rfl))))
            | apply d_block
            | (apply d_true; (focus rfl); (focus rfl))
            | (apply d_false; (focus rfl); (focus rfl))
            | apply d_skip
            | apply d_exit
            | apply d_ret
            | with_reducible apply kt_ret
            | with_reducible apply kt_exit
            | with_reducible apply kb_normal
            | with_reducible apply kb_ret
            | with_reducible apply kb_here
            | with_reducible apply kl_ret
            | with_reducible apply kl_exit
            | with_reducible apply kc_ret
            | with_reducible apply kc_exit
            | (with_reducible apply kb_there; (focus rfl))
          refine l_call rfl rfl rfl (by first | (go_simp; done) | (go_simp; rfl)) (CR.out _ _ HX.out 0 x rfl) ?_
          rintro e w' ⟨A2, c2, rfl, hr1, hr2, hx⟩
          clear HX
          try simp only [List.nil_append, List.cons_append, List.set_cons_zero, List.set_cons_succ] at hx
          try clear d0
          have d0 := hx.cell0 D0.out
          have HX := Lib.hid hx
          clear hx
          refine ⟨_, rfl, ?_⟩
          repeat first
            | apply d_seq
            | with_reducible apply kt_normal
            | apply l_nil
            | apply d_region
            | (apply l_off; (focus rfl); (focus rfl))
            | (apply l_val; (focus rfl); (focus rfl); (focus rfl); (focus (go_simp; (try simp (disch := omega) only [wrap_in, wrap_in', wrap_u16, wrap_u8, wrap_u32, rem_in, quo_in]); first | done | with_reducible rfl | (constructor <;> with_reducible rfl))))
            | (apply l_store; (focus rfl); (focus rfl); (focus rfl); (focus (go_simp; (try simp (disch := omega) only [wrap_in, wrap_in', wrap_u16, wrap_u8, wrap_u32, rem_in, quo_in]); first | done | with_reducible rfl | (constructor <;> with_reducible rfl))))
            | apply d_block
            | (apply d_true; (focus rfl); (focus rfl))
            | (apply d_false; (focus rfl); (focus rfl))
            | apply d_skip
            | apply d_exit
            | apply d_ret
            | with_reducible apply kt_ret
            | with_reducible apply kt_exit
            | with_reducible apply kb_normal
            | with_reducible apply kb_ret
            | with_reducible apply kb_here
            | with_reducible apply kl_ret
            | with_reducible apply kl_exit
            | with_reducible apply kc_ret
            | with_reducible apply kc_exit
            | (with_reducible apply kb_there; (focus rfl))
          refine l_call rfl rfl rfl (by first | (go_simp; done) | (go_simp; rfl)) (CR.out _ _ HX.out 1 z rfl) ?_
          rintro e w' ⟨A3, c3, rfl, hr3, hr4, hx⟩
          clear HX
          try simp only [List.nil_append, List.cons_append, List.set_cons_zero, List.set_cons_succ] at hx
          try clear d0
          have d0 := hx.cell0 D0.out
          have HX := Lib.hid hx
          clear hx
          refine ⟨_, rfl, ?_⟩
          repeat first
            | apply d_seq
            | with_reducible apply kt_normal
            | apply l_nil
            | apply d_region
            | (apply l_off; (focus rfl); (focus rfl))
            | (apply l_val; (focus rfl); (focus rfl); (focus rfl); (focus (go_simp; (try simp (disch := omega) only [wrap_in, wrap_in', wrap_u16, wrap_u8, wrap_u32, rem_in, quo_in]); first | done | with_reducible rfl | (constructor <;> with_reducible rfl))))
            | (apply l_store; (focus rfl); (focus rfl); (focus rfl); (focus (go_simp; (try simp (disch := omega) only [wrap_in, wrap_in', wrap_u16, wrap_u8, wrap_u32, rem_in, quo_in]); first | done | with_reducible rfl | (constructor <;> with_reducible rfl))))
            | apply d_block
            | (apply d_true; (focus rfl); (focus rfl))
            | (apply d_false; (focus rfl); (focus rfl))
            | apply d_skip
            | apply d_exit
            | apply d_ret
            | with_reducible apply kt_ret
            | with_reducible apply kt_exit
            | with_reducible apply kb_normal
            | with_reducible apply kb_ret
            | with_reducible apply kb_here
            | with_reducible apply kl_ret
            | with_reducible apply kl_exit
            | with_reducible apply kc_ret
            | with_reducible apply kc_exit
            | (with_reducible apply kb_there; (focus rfl))
          unfold maxLen at hr2 hr4
          refine d_draw (true, [([], []), ([], []), ([0, 1], [0, 1]), ([2], [2]), ([3], [3]), ([4, 3], [3, 4]), ([3], [3]), ([6, 3], [3, 6]), ([5, 7, 3], [3, 5, 7]), ([3, 8], [3, 8]), ([9, 3], [9]), ([10], [10]), ([10], [10]), ([10], [10]), ([12, 13, 10], [10, 12, 13]), ([14, 10], [10, 14]), ([11, 15, 10, 10], [10, 11, 15]), ([10], [10]), ([10], [10]), ([10], [10]), ([18, 19, 10], [10, 18, 19]), ([20, 10], [10, 20]), ([17, 21, 16, 10], [10, 17, 21]), ([16, 22, 10], [10, 16, 22]), ([10, 23], [10, 23])]) [(0, 0), (0, 1), (0, 2), (0, 3), (0, 4), (0, 5), (0, 6), (0, 7), (0, 8), (0, 9), (0, 10), (0, 11), (0, 12), (0, 13), (0, 14), (0, 15), (0, 17), (0, 18), (0, 19), (0, 20), (0, 21), (1, 16), (1, 22), (0, 23), (0, 24)] [999999] (fun W => W.cell? ⟨g1, o1 + q, none⟩ = some (.int .u32 id)) (by kernel_rfl) (by kernel_rfl) (by kernel_rfl) (by kernel_rfl) d0 ?_
          iterate 21
            first | (apply s_off; (focus rfl); (focus rfl); (focus rfl)) | (apply s_yield; (focus rfl); (focus rfl); (focus rfl); (focus rfl); (focus (intro W hS; go_simp; (try simp (disch := omega) only [wrap_in, wrap_in', wrap_u16, wrap_u8, wrap_u32, rem_in, quo_in]); first | done | with_reducible rfl | (constructor <;> with_reducible rfl))))
          refine s_call rfl rfl rfl rfl (by first | (go_simp; done) | (go_simp; rfl)) (CC.out _ _ HX.out.drew 0 x rfl) ?_
          rintro e w' ⟨rfl, hx⟩
          clear d0
          have d0 := hx.cell0 D0.out
          have HX' := Lib.hid hx
          clear hx
          refine ⟨_, rfl, d0, ?_⟩
          refine s_call rfl rfl rfl rfl (by first | (go_simp; done) | (go_simp; rfl)) (CC.out _ _ HX'.out 1 z rfl) ?_
          rintro e w' ⟨rfl, hx⟩
          clear d0 HX HX'
          have d0 := hx.cell0 D0.out
          have HX := Lib.hid hx
          clear hx
          refine ⟨_, rfl, d0, ?_⟩
          iterate 2
            first | (apply s_off; (focus rfl); (focus rfl); (focus rfl)) | (apply s_yield; (focus rfl); (focus rfl); (focus rfl); (focus rfl); (focus (intro W hS; go_simp; (try simp (disch := omega) only [wrap_in, wrap_in', wrap_u16, wrap_u8, wrap_u32, rem_in, quo_in]); first | done | with_reducible rfl | (constructor <;> with_reducible rfl))))
          refine s_done ?_
          repeat first
            | apply d_seq
            | with_reducible apply kt_normal
            | apply l_nil
            | apply d_region
            | (apply l_off; (focus rfl); (focus rfl))
            | (apply l_val; (focus rfl); (focus rfl); (focus rfl); (focus (go_simp; (try simp (disch := omega) only [wrap_in, wrap_in', wrap_u16, wrap_u8, wrap_u32, rem_in, quo_in]); first | done | with_reducible rfl | (constructor <;> with_reducible rfl))))
            | (apply l_store; (focus rfl); (focus rfl); (focus rfl); (focus (go_simp; (try simp (disch := omega) only [wrap_in, wrap_in', wrap_u16, wrap_u8, wrap_u32, rem_in, quo_in]); first | done | with_reducible rfl | (constructor <;> with_reducible rfl))))
            | apply d_block
            | (apply d_true; (focus rfl); (focus rfl))
            | (apply d_false; (focus rfl); (focus rfl))
            | apply d_skip
            | apply d_exit
            | apply d_ret
            | with_reducible apply kt_ret
            | with_reducible apply kt_exit
            | with_reducible apply kb_normal
            | with_reducible apply kb_ret
            | with_reducible apply kb_here
            | with_reducible apply kl_ret
            | with_reducible apply kl_exit
            | with_reducible apply kc_ret
            | with_reducible apply kc_exit
            | (with_reducible apply kb_there; (focus rfl))
          refine d_loop (fun m D wr => ∃ (j : Nat), m = rs.length - j ∧ j ≤ rs.length ∧ D = [(1, .slice (some ⟨g1, o1, none⟩) l1.length cq1), (5, .bool true), (6, .pointer (some ⟨x, 0, none⟩)), (7, .pointer (some ⟨z, 0, none⟩)), (9, .int .i64 q), (10, .slice A2 rs.length c2), (12, .slice A3 rs.length c3), (14, .int .i64 j)] ∧ Hid (Has w wr [LedA w.heap.size x s, LedA w.heap.size z s, OwnA w.heap.size 52 5 (.slice A2 rs.length c2) rs.length (rws rs), OwnA w.heap.size 52 5 (.slice A3 rs.length c3) rs.length (rws rs)])) (rs.length) _ (Subl.cons (t := 1) (by decide) rfl (Subl.cons (t := 5) (by decide) rfl (Subl.cons (t := 6) (by decide) rfl (Subl.cons (t := 7) (by decide) rfl (Subl.cons (t := 9) (by decide) rfl (Subl.cons (t := 10) (by decide) rfl (Subl.cons (t := 12) (by decide) rfl (Subl.cons (t := 14) (by decide) rfl (Subl.nil _ _))))))))) ?_ (fun m D wr hrel => ?_)
          · exact ⟨0, rfl, Nat.zero_le _, rfl, HX⟩
          · clear HX d0
            obtain ⟨j, rfl, hj, rfl, HX⟩ := hrel
            by_cases hlj : j < rs.length
            · obtain ⟨r, hr⟩ : ∃ y, rs[j]? = some y := ⟨_, List.getElem?_eq_getElem hlj⟩
              obtain ⟨g2, o2, cp2, e1, hq5, hq6, -, a0, a1, a2, a3, a4⟩ := HX.out.row (i := 2) rfl rfl hr
              simp only [Value.slice.injEq, true_and] at e1
              obtain ⟨rfl, rfl⟩ := e1
              obtain ⟨g3, o3, cp3, e1, hq7, hq8, -, t0, t1, t2, t3, t4⟩ := HX.out.row (i := 3) rfl rfl hr
              simp only [Value.slice.injEq, true_and] at e1
              obtain ⟨rfl, rfl⟩ := e1
              have HR := Lib.hid hr
              clear hr
              repeat first
                | apply d_seq
                | with_reducible apply kt_normal
                | apply l_nil
                | apply d_region
                | (apply l_off; (focus rfl); (focus rfl))
                | (apply l_val; (focus rfl); (focus rfl); (focus rfl); (focus (go_simp; (try simp (disch := omega) only [wrap_in, wrap_in', wrap_u16, wrap_u8, wrap_u32, rem_in, quo_in]); first | done | with_reducible rfl | (constructor <;> with_reducible rfl))))
                | (apply l_store; (focus rfl); (focus rfl); (focus rfl); (focus (go_simp; (try simp (disch := omega) only [wrap_in, wrap_in', wrap_u16, wrap_u8, wrap_u32, rem_in, quo_in]); first | done | with_reducible rfl | (constructor <;> with_reducible rfl))))
                | apply d_block
                | (apply d_true; (focus rfl); (focus rfl))
                | (apply d_false; (focus rfl); (focus rfl))
                | apply d_skip
                | apply d_exit
                | apply d_ret
                | with_reducible apply kt_ret
                | with_reducible apply kt_exit
                | with_reducible apply kb_normal
                | with_reducible apply kb_ret
                | with_reducible apply kb_here
                | with_reducible apply kl_ret
                | with_reducible apply kl_exit
                | with_reducible apply kc_ret
                | with_reducible apply kc_exit
                | (with_reducible apply kb_there; (focus rfl))
              refine d_draw (true, [([], []), ([], []), ([0, 1], [0, 1]), ([2], [2]), ([], []), ([], []), ([4, 5], [4, 5]), ([6], [6]), ([3, 7], [3, 7])]) [(0, 0), (0, 1), (0, 2), (0, 3), (0, 4), (0, 5), (0, 6), (0, 7), (0, 8)] [999999] (fun W => W.cell? ⟨g2, o2 + j * 5, none⟩ = some (.int .u16 r.item) ∧ W.cell? ⟨g2, o2 + j * 5 + 1, none⟩ = some (.int .i64 r.wanted) ∧ W.cell? ⟨g2, o2 + j * 5 + 2, none⟩ = some (.int .i64 r.picked) ∧ W.cell? ⟨g2, o2 + j * 5 + 3, none⟩ = some (.int .i64 r.short) ∧ W.cell? ⟨g2, o2 + j * 5 + 4, none⟩ = some (.int .i64 r.put) ∧ W.cell? ⟨g3, o3 + j * 5, none⟩ = some (.int .u16 r.item) ∧ W.cell? ⟨g3, o3 + j * 5 + 1, none⟩ = some (.int .i64 r.wanted) ∧ W.cell? ⟨g3, o3 + j * 5 + 2, none⟩ = some (.int .i64 r.picked) ∧ W.cell? ⟨g3, o3 + j * 5 + 3, none⟩ = some (.int .i64 r.short) ∧ W.cell? ⟨g3, o3 + j * 5 + 4, none⟩ = some (.int .i64 r.put)) (by kernel_rfl) (by kernel_rfl) (by kernel_rfl) (by kernel_rfl) ⟨a0, a1, a2, a3, a4, t0, t1, t2, t3, t4⟩ ?_
              iterate 9
                first | (apply s_off; (focus rfl); (focus rfl); (focus rfl)) | (apply s_yield; (focus rfl); (focus rfl); (focus rfl); (focus rfl); (focus (intro W hS; obtain ⟨hS1, hS2, hS3, hS4, hS5, hS6, hS7, hS8, hS9, hS10⟩ := hS; go_simp; (try simp (disch := omega) only [wrap_in, wrap_in', wrap_u16, wrap_u8, wrap_u32, rem_in, quo_in]); first | done | with_reducible rfl | (constructor <;> with_reducible rfl))))
              refine s_done ?_
              repeat first
                | apply d_seq
                | with_reducible apply kt_normal
                | apply l_nil
                | apply d_region
                | (apply l_off; (focus rfl); (focus rfl))
                | (apply l_val; (focus rfl); (focus rfl); (focus rfl); (focus (go_simp; (try simp (disch := omega) only [wrap_in, wrap_in', wrap_u16, wrap_u8, wrap_u32, rem_in, quo_in]); first | done | with_reducible rfl | (constructor <;> with_reducible rfl))))
                | (apply l_store; (focus rfl); (focus rfl); (focus rfl); (focus (go_simp; (try simp (disch := omega) only [wrap_in, wrap_in', wrap_u16, wrap_u8, wrap_u32, rem_in, quo_in]); first | done | with_reducible rfl | (constructor <;> with_reducible rfl))))
                | apply d_block
                | (apply d_true; (focus rfl); (focus rfl))
                | (apply d_false; (focus rfl); (focus rfl))
                | apply d_skip
                | apply d_exit
                | apply d_ret
                | with_reducible apply kt_ret
                | with_reducible apply kt_exit
                | with_reducible apply kb_normal
                | with_reducible apply kb_ret
                | with_reducible apply kb_here
                | with_reducible apply kl_ret
                | with_reducible apply kl_exit
                | with_reducible apply kc_ret
                | with_reducible apply kc_exit
                | (with_reducible apply kb_there; (focus rfl))
              refine kl_normal (rs.length - (j + 1)) _ (by omega) (Subl.cons (t := 1) (by decide) rfl (Subl.cons (t := 5) (by decide) rfl (Subl.cons (t := 6) (by decide) rfl (Subl.cons (t := 7) (by decide) rfl (Subl.cons (t := 9) (by decide) rfl (Subl.cons (t := 10) (by decide) rfl (Subl.cons (t := 12) (by decide) rfl (Subl.cons (t := 14) (by decide) rfl (Subl.nil _ _))))))))) ?_
              exact ⟨j + 1, rfl, by omega, rfl, Lib.hid HX.out.drew⟩
            · repeat first
                | apply d_seq
                | with_reducible apply kt_normal
                | apply l_nil
                | apply d_region
                | (apply l_off; (focus rfl); (focus rfl))
                | (apply l_val; (focus rfl); (focus rfl); (focus rfl); (focus (go_simp; (try simp (disch := omega) only [wrap_in, wrap_in', wrap_u16, wrap_u8, wrap_u32, rem_in, quo_in]); first | done | with_reducible rfl | (constructor <;> with_reducible rfl))))
                | (apply l_store; (focus rfl); (focus rfl); (focus rfl); (focus (go_simp; (try simp (disch := omega) only [wrap_in, wrap_in', wrap_u16, wrap_u8, wrap_u32, rem_in, quo_in]); first | done | with_reducible rfl | (constructor <;> with_reducible rfl))))
                | apply d_block
                | (apply d_true; (focus rfl); (focus rfl))
                | (apply d_false; (focus rfl); (focus rfl))
                | apply d_skip
                | apply d_exit
                | apply d_ret
                | with_reducible apply kt_ret
                | with_reducible apply kt_exit
                | with_reducible apply kb_normal
                | with_reducible apply kb_ret
                | with_reducible apply kb_here
                | with_reducible apply kl_ret
                | with_reducible apply kl_exit
                | with_reducible apply kc_ret
                | with_reducible apply kc_exit
                | (with_reducible apply kb_there; (focus rfl))
              refine kl_normal (l1.length - (q + 1)) _ (by omega) (Subl.cons (t := 1) (by decide) rfl (Subl.cons (t := 5) (by decide) rfl (Subl.cons (t := 6) (by decide) rfl (Subl.cons (t := 7) (by decide) rfl (Subl.cons (t := 9) (by decide) rfl (Subl.nil _ _)))))) ?_
              exact ⟨q + 1, rfl, by omega, rfl, Lib.hid (HX.out.take 2)⟩
        · repeat first
            | apply d_seq
            | with_reducible apply kt_normal
            | apply l_nil
            | apply d_region
            | (apply l_off; (focus rfl); (focus rfl))
            | (apply l_val; (focus rfl); (focus rfl); (focus rfl); (focus (go_simp; (try simp (disch := omega) only [wrap_in, wrap_in', wrap_u16, wrap_u8, wrap_u32, rem_in, quo_in]); first | done | with_reducible rfl | (constructor <;> with_reducible rfl))))
            | (apply l_store; (focus rfl); (focus rfl); (focus rfl); (focus (go_simp; (try simp (disch := omega) only [wrap_in, wrap_in', wrap_u16, wrap_u8, wrap_u32, rem_in, quo_in]); first | done | with_reducible rfl | (constructor <;> with_reducible rfl))))
            | apply d_block
            | (apply d_true; (focus rfl); (focus rfl))
            | (apply d_false; (focus rfl); (focus rfl))
            | apply d_skip
            | apply d_exit
            | apply d_ret
            | with_reducible apply kt_ret
            | with_reducible apply kt_exit
            | with_reducible apply kb_normal
            | with_reducible apply kb_ret
            | with_reducible apply kb_here
            | with_reducible apply kl_ret
            | with_reducible apply kl_exit
            | with_reducible apply kc_ret
            | with_reducible apply kc_exit
            | (with_reducible apply kb_there; (focus rfl))
          refine ⟨rfl, _, (by first | (simp [resultsG, resOne, Try.results8, rho, List.lookup]; done) | (simp [resultsG, resOne, Try.results8, rho, List.lookup]; rfl)), ?_⟩
          exact ⟨rfl, HX.out.old⟩
      · repeat first
          | apply d_seq
          | with_reducible apply kt_normal
          | apply l_nil
          | apply d_region
          | (apply l_off; (focus rfl); (focus rfl))
          | (apply l_val; (focus rfl); (focus rfl); (focus rfl); (focus (go_simp; (try simp (disch := omega) only [wrap_in, wrap_in', wrap_u16, wrap_u8, wrap_u32, rem_in, quo_in]); first | done | with_reducible rfl | (constructor <;> with_reducible rfl))))
          | (apply l_store; (focus rfl); (focus rfl); (focus rfl); (focus (go_simp; (try simp (disch := omega) only [wrap_in, wrap_in', wrap_u16, wrap_u8, wrap_u32, rem_in, quo_in]); first | done | with_reducible rfl | (constructor <;> with_reducible rfl))))
          | apply d_block
          | (apply d_true; (focus rfl); (focus rfl))
          | (apply d_false; (focus rfl); (focus rfl))
          | apply d_skip
          | apply d_exit
          | apply d_ret
          | with_reducible apply kt_ret
          | with_reducible apply kt_exit
          | with_reducible apply kb_normal
          | with_reducible apply kb_ret
          | with_reducible apply kb_here
          | with_reducible apply kl_ret
          | with_reducible apply kl_exit
          | with_reducible apply kc_ret
          | with_reducible apply kc_exit
          | (with_reducible apply kb_there; (focus rfl))
        refine ⟨rfl, _, (by first | (simp [resultsG, resOne, Try.results8, rho, List.lookup]; done) | (simp [resultsG, resOne, Try.results8, rho, List.lookup]; rfl)), ?_⟩
        exact ⟨rfl, HX.out.old⟩
end Go.Proofs.Ytkjcmnhhgnlaeaa
