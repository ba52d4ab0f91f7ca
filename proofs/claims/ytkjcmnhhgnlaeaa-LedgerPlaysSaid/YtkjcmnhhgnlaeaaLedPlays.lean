import Derived.Test.YtkjcmnhhgnlaeaaLedPl
namespace Go.Proofs.Ytkjcmnhhgnlaeaa
set_option linter.unusedVariables false
set_option linter.unusedSimpArgs false
attribute [local go_sem] rho_const rho_func rho_hit rho_miss
open Go.RowKit
attribute [local go_sem] min2_mn min_two'
theorem ref_put {l : List Rw} {k : Nat} (h : k < l.length) : (((((rws l).set (k * 5) (.int .u16 0)).set (k * 5 + 1) (.int .i64 0)).set (k * 5 + 2) (.int .i64 0)).set (k * 5 + 3) (.int .i64 0)).set (k * 5 + 4) (.int .i64 0) = rws (l.set k ⟨0, 0, 0, 0, 0⟩) := (rws_set l k ⟨0, 0, 0, 0, 0⟩ h).symm
set_option maxRecDepth 100000 in
set_option maxHeartbeats 8000000 in
theorem ledgerPlays_any {w : World} {A0 : Option Addr} {n0 cq0 : Nat} {l0 : List St}
    (h0 : SeesR w (fun k => k < w.heap.size) 6 (fun (y : St) cs => cs = y.cs ∧ y.ok w) (.slice A0 n0 cq0) l0) :
    Calls Try.prog 3 #[.slice A0 n0 cq0] w fun e w' => e = .returned (.bool true) ∧ Keep none_ w w' := by
  obtain ⟨rfl, b0, b0'⟩ := h0.form
  have HX := Lib.hid (Has.nil (Keep.refl none_ w))
  have H0 := Lib.hid h0
  clear h0
  refine d_calls (n := 210) Try.func3 rfl rfl (by simp) [(0, .slice A0 l0.length cq0)] (by simp) ?_
  repeat first
    | apply d_seq
    | with_reducible apply kt_normal
    | apply l_nil
    | apply d_region
    | (apply l_off; (focus rfl); (focus rfl))
    | (apply l_val; (focus rfl); (focus rfl); (focus rfl); (focus (go_simp; (try simp (disch := omega) only [wrap_in, wrap_in', wrap_u16, wrap_u8, wrap_u32, wrap_u64, rem_in, quo_in]); first | done | with_reducible rfl | (constructor <;> with_reducible rfl))))
    | (apply l_store; (focus rfl); (focus rfl); (focus rfl); (focus (go_simp; (try simp (disch := omega) only [wrap_in, wrap_in', wrap_u16, wrap_u8, wrap_u32, wrap_u64, rem_in, quo_in]); first | done | with_reducible rfl | (constructor <;> with_reducible rfl))))
    | apply d_block
    | (apply d_true; (focus rfl); (focus rfl))
    | (apply d_false; (focus rfl); (focus rfl))
    | apply d_skip
    | apply d_exit
    | apply d_ret
    | with_reducible apply kt_ret
    | with_reducible apply kt_exit
    | with_reducible apply kb_normal
    | with_reducible apply kb_ret
    | with_reducible apply kb_here
    | with_reducible apply kl_ret
    | with_reducible apply kl_exit
    | with_reducible apply kc_ret
    | with_reducible apply kc_exit
    | (with_reducible apply kb_there; (focus rfl))
  refine l_call rfl rfl rfl (by first | (go_simp; done) | (go_simp; rfl)) (shown_has HX.out) ?_
  rintro e w' ⟨rfl, hx⟩
  clear HX
  try simp only [List.nil_append, List.cons_append, List.set_cons_zero, List.set_cons_succ] at hx
  have HX := Lib.hid hx
  clear hx
  refine ⟨_, rfl, ?_⟩
  repeat first
    | apply d_seq
    | with_reducible apply kt_normal
    | apply l_nil
    | apply d_region
    | (apply l_off; (focus rfl); (focus rfl))
    | (apply l_val; (focus rfl); (focus rfl); (focus rfl); (focus (go_simp; (try simp (disch := omega) only [wrap_in, wrap_in', wrap_u16, wrap_u8, wrap_u32, wrap_u64, rem_in, quo_in]); first | done | with_reducible rfl | (constructor <;> with_reducible rfl))))
    | (apply l_store; (focus rfl); (focus rfl); (focus rfl); (focus (go_simp; (try simp (disch := omega) only [wrap_in, wrap_in', wrap_u16, wrap_u8, wrap_u32, wrap_u64, rem_in, quo_in]); first | done | with_reducible rfl | (constructor <;> with_reducible rfl))))
    | apply d_block
    | (apply d_true; (focus rfl); (focus rfl))
    | (apply d_false; (focus rfl); (focus rfl))
    | apply d_skip
    | apply d_exit
    | apply d_ret
    | with_reducible apply kt_ret
    | with_reducible apply kt_exit
    | with_reducible apply kb_normal
    | with_reducible apply kb_ret
    | with_reducible apply kb_here
    | with_reducible apply kl_ret
    | with_reducible apply kl_exit
    | with_reducible apply kc_ret
    | with_reducible apply kc_exit
    | (with_reducible apply kb_there; (focus rfl))
  refine l_call rfl rfl rfl (by first | (go_simp; done) | (go_simp; rfl)) (new_has HX.out) ?_
  rintro e w1 ⟨x, rfl, hx⟩
  clear HX
  try simp only [List.nil_append, List.cons_append, List.set_cons_zero, List.set_cons_succ] at hx
  have HX := Lib.hid hx
  clear hx
  refine ⟨_, rfl, ?_⟩
  repeat first
    | apply d_seq
    | with_reducible apply kt_normal
    | apply l_nil
    | apply d_region
    | (apply l_off; (focus rfl); (focus rfl))
    | (apply l_val; (focus rfl); (focus rfl); (focus rfl); (focus (go_simp; (try simp (disch := omega) only [wrap_in, wrap_in', wrap_u16, wrap_u8, wrap_u32, wrap_u64, rem_in, quo_in]); first | done | with_reducible rfl | (constructor <;> with_reducible rfl))))
    | (apply l_store; (focus rfl); (focus rfl); (focus rfl); (focus (go_simp; (try simp (disch := omega) only [wrap_in, wrap_in', wrap_u16, wrap_u8, wrap_u32, wrap_u64, rem_in, quo_in]); first | done | with_reducible rfl | (constructor <;> with_reducible rfl))))
    | apply d_block
    | (apply d_true; (focus rfl); (focus rfl))
    | (apply d_false; (focus rfl); (focus rfl))
    | apply d_skip
    | apply d_exit
    | apply d_ret
    | with_reducible apply kt_ret
    | with_reducible apply kt_exit
    | with_reducible apply kb_normal
    | with_reducible apply kb_ret
    | with_reducible apply kb_here
    | with_reducible apply kl_ret
    | with_reducible apply kl_exit
    | with_reducible apply kc_ret
    | with_reducible apply kc_exit
    | (with_reducible apply kb_there; (focus rfl))
  have hx := rnew_has HX.out
  simp only [List.cons_append, List.nil_append] at hx
  clear HX
  have HX := Lib.hid hx
  clear hx
  generalize w1.alloc (.cells #[.slice none 0 0, .slice none 0 0] 30) = w2 at *
  generalize w1.heap.size = b at *
  refine d_loop (fun m D wr => ∃ (k : Nat) (d : RL), m = l0.length - k ∧ k ≤ l0.length ∧ D = [(0, .slice A0 l0.length cq0), (3, .bool true), (4, .pointer (some ⟨x, 0, none⟩)), (5, .pointer (some ⟨b, 0, none⟩)), (6, .int .i64 k)] ∧ Hid (Has w wr [LedA w.heap.size x d.ls, RLA w.heap.size b d]) ∧ Hid (d.okay ∧ d.os.length ≤ k ∧ d.ds.length ≤ k)) (l0.length) _ (Subl.cons (t := 0) (by decide) rfl (Subl.cons (t := 3) (by decide) rfl (Subl.cons (t := 4) (by decide) rfl (Subl.cons (t := 5) (by decide) rfl (Subl.cons (t := 6) (by decide) rfl (Subl.nil _ _)))))) ?_ (fun m D wr hrel => ?_)
  · exact ⟨0, ⟨[], []⟩, rfl, Nat.zero_le _, rfl, HX, Lib.hid ⟨⟨fun p hp => by simp at hp, fun x hx => by simp at hx⟩, by simp, by simp⟩⟩
  · clear HX
    obtain ⟨k, d, rfl, hk, rfl, HX, HD⟩ := hrel
    by_cases hlt : k < l0.length
    · by_cases h120 : (k : Int) < 120
      · obtain ⟨y, hy⟩ : ∃ y, l0[k]? = some y := ⟨_, List.getElem?_eq_getElem hlt⟩
        obtain ⟨g, o, cp, e1, -, -, hq1, hq2, hyk, c0, c1, c2, c3, c4, c5⟩ := sees_Steps (HX.out.seesR H0.out) hy
        simp only [Value.slice.injEq, true_and] at e1
        obtain ⟨rfl, rfl⟩ := e1
        obtain ⟨A9, n9, hA9, -, -, -⟩ := hyk.o_lines.form
        rw [hA9] at c2
        have HA9 := Lib.hid hA9
        clear hA9
        have hgood := HX.out.good (i := 0) rfl
        obtain ⟨hok, hlo, hld⟩ := HD.out
        have h1 := open_sim hok y.o_id (y.o_lines.take 12)
        have h2 := fun kk hkk => deed_sim hok hgood y.id y.item y.qty kk hkk
        have h3 := drop_sim hok hgood y.id
        have hbx := HX.out.box #[.int .i64 y.kind, .int .u32 y.o_id, .slice A9 y.o_lines.length n9, .int .u32 y.id, .int .u16 y.item, .int .i64 y.qty] 37
        simp only [List.cons_append, List.nil_append] at hbx
        obtain ⟨x0, x1, x2, x3, x4, x5, -⟩ := blk6 (hbx.blk (i := 2) rfl)
        clear HX HD
        have HX := Lib.hid hbx
        have HO := Lib.hid h1
        have HDE := Lib.hid h2
        have HDR := Lib.hid h3
        have HYK := Lib.hid hyk
        have HOK := Lib.hid hok
        clear hyk hok
        clear hy hbx hgood h1 h2 h3
        have hlo' : d.os.length ≤ 190 := by omega
        have hld' : d.ds.length ≤ 190 := by omega
        repeat first
          | apply d_seq
          | with_reducible apply kt_normal
          | apply l_nil
          | apply d_region
          | (apply l_off; (focus rfl); (focus rfl))
          | (apply l_val; (focus rfl); (focus rfl); (focus rfl); (focus (go_simp; (try simp (disch := omega) only [wrap_in, wrap_in', wrap_u16, wrap_u8, wrap_u32, wrap_u64, rem_in, quo_in]); first | done | with_reducible rfl | (constructor <;> with_reducible rfl))))
          | (apply l_store; (focus rfl); (focus rfl); (focus rfl); (focus (go_simp; (try simp (disch := omega) only [wrap_in, wrap_in', wrap_u16, wrap_u8, wrap_u32, wrap_u64, rem_in, quo_in]); first | done | with_reducible rfl | (constructor <;> with_reducible rfl))))
          | ((fail_if_success (with_reducible apply d_block (id := 2))); apply d_block)
          | (apply d_true; (focus rfl); (focus rfl))
          | (apply d_false; (focus rfl); (focus rfl))
          | apply d_skip
          | apply d_exit
          | apply d_ret
          | with_reducible apply kt_ret
          | with_reducible apply kt_exit
          | with_reducible apply kb_normal
          | with_reducible apply kb_ret
          | with_reducible apply kb_here
          | with_reducible apply kl_ret
          | with_reducible apply kl_exit
          | with_reducible apply kc_ret
          | with_reducible apply kc_exit
          | (with_reducible apply kb_there; (focus rfl))
        have hc := does_has HX.out 0 x d.ls rfl y HYK.out
        rw [HA9.out] at hc
        have HCD := Lib.hid hc
        clear hc
        refine l_call rfl rfl rfl (by first | (go_simp; done) | (go_simp; rfl)) (HCD.out) ?_
        rintro e w' ⟨rfl, hx⟩
        clear HX
        try simp only [List.nil_append, List.cons_append, List.set_cons_zero, List.set_cons_succ] at hx
        try clear x0 x1 x2 x3 x4 x5
        try clear fx0 fx1 fx2 fx3 fx4 fx5
        obtain ⟨x0, x1, x2, x3, x4, x5, -⟩ := blk6 (hx.blk (i := 2) rfl)
        have HX := Lib.hid hx
        clear hx
        refine ⟨_, rfl, ?_⟩
        repeat first
          | apply d_seq
          | with_reducible apply kt_normal
          | apply l_nil
          | apply d_region
          | (apply l_off; (focus rfl); (focus rfl))
          | (apply l_val; (focus rfl); (focus rfl); (focus rfl); (focus (go_simp; (try simp (disch := omega) only [wrap_in, wrap_in', wrap_u16, wrap_u8, wrap_u32, wrap_u64, rem_in, quo_in]); first | done | with_reducible rfl | (constructor <;> with_reducible rfl))))
          | (apply l_store; (focus rfl); (focus rfl); (focus rfl); (focus (go_simp; (try simp (disch := omega) only [wrap_in, wrap_in', wrap_u16, wrap_u8, wrap_u32, wrap_u64, rem_in, quo_in]); first | done | with_reducible rfl | (constructor <;> with_reducible rfl))))
          | ((fail_if_success (with_reducible apply d_block (id := 2))); apply d_block)
          | (apply d_true; (focus rfl); (focus rfl))
          | (apply d_false; (focus rfl); (focus rfl))
          | apply d_skip
          | apply d_exit
          | apply d_ret
          | with_reducible apply kt_ret
          | with_reducible apply kt_exit
          | with_reducible apply kb_normal
          | with_reducible apply kb_ret
          | with_reducible apply kb_here
          | with_reducible apply kl_ret
          | with_reducible apply kl_exit
          | with_reducible apply kc_ret
          | with_reducible apply kc_exit
          | (with_reducible apply kb_there; (focus rfl))
        clear HCD
        clear c0 c1 c2 c3 c4 c5 x0 x1 x2 x3 x4 x5
        refine d_join (fun D wr => ∃ (d : RL) (e id : Int), D = [(0, .slice (some ⟨g, o, none⟩) l0.length cq0), (3, .bool true), (4, .pointer (some ⟨x, 0, none⟩)), (5, .pointer (some ⟨b, 0, none⟩)), (6, .int .i64 k), (8, .int .i64 e), (9, .int .i64 e), (10, .int .u32 id)] ∧ Hid (Has w wr [LedA w.heap.size x d.ls, RLA w.heap.size b d]) ∧ Hid (d.okay ∧ d.os.length ≤ k + 1 ∧ d.ds.length ≤ k + 1)) ?_ (fun D wr hcut => ?_)
        · rcases (by omega : y.kind = 1 ∨ y.kind = 2 ∨ y.kind = 3 ∨ y.kind = 4 ∨ y.kind = 5 ∨ y.kind = 6 ∨ y.kind = 7 ∨ (y.kind ≠ 1 ∧ y.kind ≠ 2 ∧ y.kind ≠ 3 ∧ y.kind ≠ 4 ∧ y.kind ≠ 5 ∧ y.kind ≠ 6 ∧ y.kind ≠ 7)) with e1 | e1 | e1 | e1 | e1 | e1 | e1 | e1
          · have hst : d.ls.step y = ((d.opened y.o_id (y.o_lines.take 12)).1.ls, (d.opened y.o_id (y.o_lines.take 12)).2) := by unfold LS.step LS.does; rw [if_pos e1]; exact HO.out.1
            have hln := opened_len d y.o_id (y.o_lines.take 12)
            have HST := Lib.hid hst
            rw [e1] at HX
            have HLN := Lib.hid hln
            clear hln
            clear hst
            have hx := HX.out
            try clear x0 x1 x2 x3 x4 x5
            try clear fx0 fx1 fx2 fx3 fx4 fx5
            obtain ⟨x0, x1, x2, x3, x4, x5, -⟩ := blk6 (hx.blk (i := 2) rfl)
            clear hx
            repeat first
              | apply d_seq
              | with_reducible apply kt_normal
              | apply l_nil
              | apply d_region
              | (apply l_off; (focus rfl); (focus rfl))
              | (apply l_val; (focus rfl); (focus rfl); (focus rfl); (focus (go_simp; (try simp (disch := omega) only [wrap_in, wrap_in', wrap_u16, wrap_u8, wrap_u32, wrap_u64, rem_in, quo_in]); first | done | with_reducible rfl | (constructor <;> with_reducible rfl))))
              | (apply l_store; (focus rfl); (focus rfl); (focus rfl); (focus (go_simp; (try simp (disch := omega) only [wrap_in, wrap_in', wrap_u16, wrap_u8, wrap_u32, wrap_u64, rem_in, quo_in]); first | done | with_reducible rfl | (constructor <;> with_reducible rfl))))
              | apply d_block
              | (apply d_true; (focus rfl); (focus rfl))
              | (apply d_false; (focus rfl); (focus rfl))
              | apply d_skip
              | apply d_exit
              | apply d_ret
              | with_reducible apply kt_ret
              | with_reducible apply kt_exit
              | with_reducible apply kb_normal
              | with_reducible apply kb_ret
              | with_reducible apply kb_here
              | with_reducible apply kl_ret
              | with_reducible apply kl_exit
              | with_reducible apply kc_ret
              | with_reducible apply kc_exit
              | (with_reducible apply kb_there; (focus rfl))
            refine l_call rfl rfl rfl (by first | (go_simp; done) | (go_simp; rfl)) (few_has HX.out y.o_id (.slice A9 y.o_lines.length n9) y.o_lines (HA9.out ▸ HYK.out.o_lines)) ?_
            rintro e w' ⟨A5, n5, rfl, hx⟩
            clear HX
            try simp only [List.nil_append, List.cons_append, List.set_cons_zero, List.set_cons_succ] at hx
            have HX := Lib.hid hx
            clear hx
            refine ⟨_, rfl, ?_⟩
            repeat first
              | apply d_seq
              | with_reducible apply kt_normal
              | apply l_nil
              | apply d_region
              | (apply l_off; (focus rfl); (focus rfl))
              | (apply l_val; (focus rfl); (focus rfl); (focus rfl); (focus (go_simp; (try simp (disch := omega) only [wrap_in, wrap_in', wrap_u16, wrap_u8, wrap_u32, wrap_u64, rem_in, quo_in]); first | done | with_reducible rfl | (constructor <;> with_reducible rfl))))
              | (apply l_store; (focus rfl); (focus rfl); (focus rfl); (focus (go_simp; (try simp (disch := omega) only [wrap_in, wrap_in', wrap_u16, wrap_u8, wrap_u32, wrap_u64, rem_in, quo_in]); first | done | with_reducible rfl | (constructor <;> with_reducible rfl))))
              | apply d_block
              | (apply d_true; (focus rfl); (focus rfl))
              | (apply d_false; (focus rfl); (focus rfl))
              | apply d_skip
              | apply d_exit
              | apply d_ret
              | with_reducible apply kt_ret
              | with_reducible apply kt_exit
              | with_reducible apply kb_normal
              | with_reducible apply kb_ret
              | with_reducible apply kb_here
              | with_reducible apply kl_ret
              | with_reducible apply kl_exit
              | with_reducible apply kc_ret
              | with_reducible apply kc_exit
              | (with_reducible apply kb_there; (focus rfl))
            refine l_call rfl rfl rfl (by first | (go_simp; done) | (go_simp; rfl)) (ropen_own HX.out 1 3 b d rfl y.o_id _ _ _ rfl (by decide) hlo' HO.out.2) ?_
            rintro e w' ⟨rfl, hx⟩
            clear HX
            try simp only [List.nil_append, List.cons_append, List.set_cons_zero, List.set_cons_succ] at hx
            try clear x0 x1 x2 x3 x4 x5
            try clear fx0 fx1 fx2 fx3 fx4 fx5
            obtain ⟨x0, x1, x2, x3, x4, x5, -⟩ := blk6 (hx.blk (i := 2) rfl)
            have HX := Lib.hid hx
            clear hx
            refine ⟨_, rfl, ?_⟩
            repeat first
              | apply d_seq
              | with_reducible apply kt_normal
              | apply l_nil
              | apply d_region
              | (apply l_off; (focus rfl); (focus rfl))
              | (apply l_val; (focus rfl); (focus rfl); (focus rfl); (focus (go_simp; (try simp (disch := omega) only [wrap_in, wrap_in', wrap_u16, wrap_u8, wrap_u32, wrap_u64, rem_in, quo_in]); first | done | with_reducible rfl | (constructor <;> with_reducible rfl))))
              | (apply l_store; (focus rfl); (focus rfl); (focus rfl); (focus (go_simp; (try simp (disch := omega) only [wrap_in, wrap_in', wrap_u16, wrap_u8, wrap_u32, wrap_u64, rem_in, quo_in]); first | done | with_reducible rfl | (constructor <;> with_reducible rfl))))
              | apply d_block
              | (apply d_true; (focus rfl); (focus rfl))
              | (apply d_false; (focus rfl); (focus rfl))
              | apply d_skip
              | apply d_exit
              | apply d_ret
              | with_reducible apply kt_ret
              | with_reducible apply kt_exit
              | with_reducible apply kb_normal
              | with_reducible apply kb_ret
              | with_reducible apply kb_here
              | with_reducible apply kl_ret
              | with_reducible apply kl_exit
              | with_reducible apply kc_ret
              | with_reducible apply kc_exit
              | (with_reducible apply kb_there; (focus rfl))
            refine kc_normal _ (Subl.cons (t := 0) (by decide) rfl (Subl.cons (t := 3) (by decide) rfl (Subl.cons (t := 4) (by decide) rfl (Subl.cons (t := 5) (by decide) rfl (Subl.cons (t := 6) (by decide) rfl (Subl.cons (t := 8) (by decide) rfl (Subl.cons (t := 9) (by decide) rfl (Subl.cons (t := 10) (by decide) rfl (Subl.nil _ _))))))))) ?_
            exact ⟨(d.opened y.o_id (y.o_lines.take 12)).1, (d.opened y.o_id (y.o_lines.take 12)).2, y.o_id, by first | (rw [HST.out]; done) | (rw [HST.out]; rfl), Lib.hid (by have := HX.out.take 2; rw [HST.out] at this; exact this), Lib.hid ⟨HO.out.2, by have := HLN.out; omega, by have := HLN.out; omega⟩⟩
          · have hst : d.ls.step y = ((d.deed (0 : Nat) y.id y.item y.qty).1.ls, (d.deed (0 : Nat) y.id y.item y.qty).2) := by unfold LS.step LS.does; rw [if_neg (by omega), if_pos (by omega)]; exact (HDE.out 0 (by omega)).1
            have hln := deed_len d (0 : Nat) y.id y.item y.qty
            have HST := Lib.hid hst
            rw [e1] at HX
            have HLN := Lib.hid hln
            clear hln
            clear hst
            have hx := HX.out
            try clear x0 x1 x2 x3 x4 x5
            try clear fx0 fx1 fx2 fx3 fx4 fx5
            obtain ⟨x0, x1, x2, x3, x4, x5, -⟩ := blk6 (hx.blk (i := 2) rfl)
            clear hx
            repeat first
              | apply d_seq
              | with_reducible apply kt_normal
              | apply l_nil
              | apply d_region
              | (apply l_off; (focus rfl); (focus rfl))
              | (apply l_val; (focus rfl); (focus rfl); (focus rfl); (focus (go_simp; (try simp (disch := omega) only [wrap_in, wrap_in', wrap_u16, wrap_u8, wrap_u32, wrap_u64, rem_in, quo_in]); first | done | with_reducible rfl | (constructor <;> with_reducible rfl))))
              | (apply l_store; (focus rfl); (focus rfl); (focus rfl); (focus (go_simp; (try simp (disch := omega) only [wrap_in, wrap_in', wrap_u16, wrap_u8, wrap_u32, wrap_u64, rem_in, quo_in]); first | done | with_reducible rfl | (constructor <;> with_reducible rfl))))
              | apply d_block
              | (apply d_true; (focus rfl); (focus rfl))
              | (apply d_false; (focus rfl); (focus rfl))
              | apply d_skip
              | apply d_exit
              | apply d_ret
              | with_reducible apply kt_ret
              | with_reducible apply kt_exit
              | with_reducible apply kb_normal
              | with_reducible apply kb_ret
              | with_reducible apply kb_here
              | with_reducible apply kl_ret
              | with_reducible apply kl_exit
              | with_reducible apply kc_ret
              | with_reducible apply kc_exit
              | (with_reducible apply kb_there; (focus rfl))
            refine l_call rfl rfl rfl (by first | (go_simp; done) | (go_simp; rfl)) (rdo_has HX.out 1 b d rfl 0 y.id y.item y.qty (by omega) hld' (HDE.out 0 (by omega)).2) ?_
            rintro e w' ⟨rfl, hx⟩
            clear HX
            try simp only [List.nil_append, List.cons_append, List.set_cons_zero, List.set_cons_succ] at hx
            have HX := Lib.hid hx
            clear hx
            refine ⟨_, rfl, ?_⟩
            repeat first
              | apply d_seq
              | with_reducible apply kt_normal
              | apply l_nil
              | apply d_region
              | (apply l_off; (focus rfl); (focus rfl))
              | (apply l_val; (focus rfl); (focus rfl); (focus rfl); (focus (go_simp; (try simp (disch := omega) only [wrap_in, wrap_in', wrap_u16, wrap_u8, wrap_u32, wrap_u64, rem_in, quo_in]); first | done | with_reducible rfl | (constructor <;> with_reducible rfl))))
              | (apply l_store; (focus rfl); (focus rfl); (focus rfl); (focus (go_simp; (try simp (disch := omega) only [wrap_in, wrap_in', wrap_u16, wrap_u8, wrap_u32, wrap_u64, rem_in, quo_in]); first | done | with_reducible rfl | (constructor <;> with_reducible rfl))))
              | apply d_block
              | (apply d_true; (focus rfl); (focus rfl))
              | (apply d_false; (focus rfl); (focus rfl))
              | apply d_skip
              | apply d_exit
              | apply d_ret
              | with_reducible apply kt_ret
              | with_reducible apply kt_exit
              | with_reducible apply kb_normal
              | with_reducible apply kb_ret
              | with_reducible apply kb_here
              | with_reducible apply kl_ret
              | with_reducible apply kl_exit
              | with_reducible apply kc_ret
              | with_reducible apply kc_exit
              | (with_reducible apply kb_there; (focus rfl))
            refine kc_normal _ (Subl.cons (t := 0) (by decide) rfl (Subl.cons (t := 3) (by decide) rfl (Subl.cons (t := 4) (by decide) rfl (Subl.cons (t := 5) (by decide) rfl (Subl.cons (t := 6) (by decide) rfl (Subl.cons (t := 8) (by decide) rfl (Subl.cons (t := 9) (by decide) rfl (Subl.cons (t := 10) (by decide) rfl (Subl.nil _ _))))))))) ?_
            exact ⟨(d.deed (0 : Nat) y.id y.item y.qty).1, (d.deed (0 : Nat) y.id y.item y.qty).2, y.id, by first | (rw [HST.out]; done) | (rw [HST.out]; rfl), Lib.hid (by have := HX.out.take 2; rw [HST.out] at this; exact this), Lib.hid ⟨(HDE.out 0 (by omega)).2, by have := HLN.out; omega, by have := HLN.out; omega⟩⟩
          · have hst : d.ls.step y = ((d.deed (0 : Nat) y.id y.item y.qty).1.ls, (d.deed (0 : Nat) y.id y.item y.qty).2) := by unfold LS.step LS.does; rw [if_neg (by omega), if_pos (by omega)]; exact (HDE.out 0 (by omega)).1
            have hln := deed_len d (0 : Nat) y.id y.item y.qty
            have HST := Lib.hid hst
            rw [e1] at HX
            have HLN := Lib.hid hln
            clear hln
            clear hst
            have hx := HX.out
            try clear x0 x1 x2 x3 x4 x5
            try clear fx0 fx1 fx2 fx3 fx4 fx5
            obtain ⟨x0, x1, x2, x3, x4, x5, -⟩ := blk6 (hx.blk (i := 2) rfl)
            clear hx
            repeat first
              | apply d_seq
              | with_reducible apply kt_normal
              | apply l_nil
              | apply d_region
              | (apply l_off; (focus rfl); (focus rfl))
              | (apply l_val; (focus rfl); (focus rfl); (focus rfl); (focus (go_simp; (try simp (disch := omega) only [wrap_in, wrap_in', wrap_u16, wrap_u8, wrap_u32, wrap_u64, rem_in, quo_in]); first | done | with_reducible rfl | (constructor <;> with_reducible rfl))))
              | (apply l_store; (focus rfl); (focus rfl); (focus rfl); (focus (go_simp; (try simp (disch := omega) only [wrap_in, wrap_in', wrap_u16, wrap_u8, wrap_u32, wrap_u64, rem_in, quo_in]); first | done | with_reducible rfl | (constructor <;> with_reducible rfl))))
              | apply d_block
              | (apply d_true; (focus rfl); (focus rfl))
              | (apply d_false; (focus rfl); (focus rfl))
              | apply d_skip
              | apply d_exit
              | apply d_ret
              | with_reducible apply kt_ret
              | with_reducible apply kt_exit
              | with_reducible apply kb_normal
              | with_reducible apply kb_ret
              | with_reducible apply kb_here
              | with_reducible apply kl_ret
              | with_reducible apply kl_exit
              | with_reducible apply kc_ret
              | with_reducible apply kc_exit
              | (with_reducible apply kb_there; (focus rfl))
            refine l_call rfl rfl rfl (by first | (go_simp; done) | (go_simp; rfl)) (rdo_has HX.out 1 b d rfl 0 y.id y.item y.qty (by omega) hld' (HDE.out 0 (by omega)).2) ?_
            rintro e w' ⟨rfl, hx⟩
            clear HX
            try simp only [List.nil_append, List.cons_append, List.set_cons_zero, List.set_cons_succ] at hx
            have HX := Lib.hid hx
            clear hx
            refine ⟨_, rfl, ?_⟩
            repeat first
              | apply d_seq
              | with_reducible apply kt_normal
              | apply l_nil
              | apply d_region
              | (apply l_off; (focus rfl); (focus rfl))
              | (apply l_val; (focus rfl); (focus rfl); (focus rfl); (focus (go_simp; (try simp (disch := omega) only [wrap_in, wrap_in', wrap_u16, wrap_u8, wrap_u32, wrap_u64, rem_in, quo_in]); first | done | with_reducible rfl | (constructor <;> with_reducible rfl))))
              | (apply l_store; (focus rfl); (focus rfl); (focus rfl); (focus (go_simp; (try simp (disch := omega) only [wrap_in, wrap_in', wrap_u16, wrap_u8, wrap_u32, wrap_u64, rem_in, quo_in]); first | done | with_reducible rfl | (constructor <;> with_reducible rfl))))
              | apply d_block
              | (apply d_true; (focus rfl); (focus rfl))
              | (apply d_false; (focus rfl); (focus rfl))
              | apply d_skip
              | apply d_exit
              | apply d_ret
              | with_reducible apply kt_ret
              | with_reducible apply kt_exit
              | with_reducible apply kb_normal
              | with_reducible apply kb_ret
              | with_reducible apply kb_here
              | with_reducible apply kl_ret
              | with_reducible apply kl_exit
              | with_reducible apply kc_ret
              | with_reducible apply kc_exit
              | (with_reducible apply kb_there; (focus rfl))
            refine kc_normal _ (Subl.cons (t := 0) (by decide) rfl (Subl.cons (t := 3) (by decide) rfl (Subl.cons (t := 4) (by decide) rfl (Subl.cons (t := 5) (by decide) rfl (Subl.cons (t := 6) (by decide) rfl (Subl.cons (t := 8) (by decide) rfl (Subl.cons (t := 9) (by decide) rfl (Subl.cons (t := 10) (by decide) rfl (Subl.nil _ _))))))))) ?_
            exact ⟨(d.deed (0 : Nat) y.id y.item y.qty).1, (d.deed (0 : Nat) y.id y.item y.qty).2, y.id, by first | (rw [HST.out]; done) | (rw [HST.out]; rfl), Lib.hid (by have := HX.out.take 2; rw [HST.out] at this; exact this), Lib.hid ⟨(HDE.out 0 (by omega)).2, by have := HLN.out; omega, by have := HLN.out; omega⟩⟩
          · have hst : d.ls.step y = ((d.deed (1 : Nat) y.id y.item y.qty).1.ls, (d.deed (1 : Nat) y.id y.item y.qty).2) := by unfold LS.step LS.does; rw [if_neg (by omega), if_neg (by omega), if_pos (by omega)]; exact (HDE.out 1 (by omega)).1
            have hln := deed_len d (1 : Nat) y.id y.item y.qty
            have HST := Lib.hid hst
            rw [e1] at HX
            have HLN := Lib.hid hln
            clear hln
            clear hst
            have hx := HX.out
            try clear x0 x1 x2 x3 x4 x5
            try clear fx0 fx1 fx2 fx3 fx4 fx5
            obtain ⟨x0, x1, x2, x3, x4, x5, -⟩ := blk6 (hx.blk (i := 2) rfl)
            clear hx
            repeat first
              | apply d_seq
              | with_reducible apply kt_normal
              | apply l_nil
              | apply d_region
              | (apply l_off; (focus rfl); (focus rfl))
              | (apply l_val; (focus rfl); (focus rfl); (focus rfl); (focus (go_simp; (try simp (disch := omega) only [wrap_in, wrap_in', wrap_u16, wrap_u8, wrap_u32, wrap_u64, rem_in, quo_in]); first | done | with_reducible rfl | (constructor <;> with_reducible rfl))))
              | (apply l_store; (focus rfl); (focus rfl); (focus rfl); (focus (go_simp; (try simp (disch := omega) only [wrap_in, wrap_in', wrap_u16, wrap_u8, wrap_u32, wrap_u64, rem_in, quo_in]); first | done | with_reducible rfl | (constructor <;> with_reducible rfl))))
              | apply d_block
              | (apply d_true; (focus rfl); (focus rfl))
              | (apply d_false; (focus rfl); (focus rfl))
              | apply d_skip
              | apply d_exit
              | apply d_ret
              | with_reducible apply kt_ret
              | with_reducible apply kt_exit
              | with_reducible apply kb_normal
              | with_reducible apply kb_ret
              | with_reducible apply kb_here
              | with_reducible apply kl_ret
              | with_reducible apply kl_exit
              | with_reducible apply kc_ret
              | with_reducible apply kc_exit
              | (with_reducible apply kb_there; (focus rfl))
            refine l_call rfl rfl rfl (by first | (go_simp; done) | (go_simp; rfl)) (rdo_has HX.out 1 b d rfl 1 y.id y.item y.qty (by omega) hld' (HDE.out 1 (by omega)).2) ?_
            rintro e w' ⟨rfl, hx⟩
            clear HX
            try simp only [List.nil_append, List.cons_append, List.set_cons_zero, List.set_cons_succ] at hx
            have HX := Lib.hid hx
            clear hx
            refine ⟨_, rfl, ?_⟩
            repeat first
              | apply d_seq
              | with_reducible apply kt_normal
              | apply l_nil
              | apply d_region
              | (apply l_off; (focus rfl); (focus rfl))
              | (apply l_val; (focus rfl); (focus rfl); (focus rfl); (focus (go_simp; (try simp (disch := omega) only [wrap_in, wrap_in', wrap_u16, wrap_u8, wrap_u32, wrap_u64, rem_in, quo_in]); first | done | with_reducible rfl | (constructor <;> with_reducible rfl))))
              | (apply l_store; (focus rfl); (focus rfl); (focus rfl); (focus (go_simp; (try simp (disch := omega) only [wrap_in, wrap_in', wrap_u16, wrap_u8, wrap_u32, wrap_u64, rem_in, quo_in]); first | done | with_reducible rfl | (constructor <;> with_reducible rfl))))
              | apply d_block
              | (apply d_true; (focus rfl); (focus rfl))
              | (apply d_false; (focus rfl); (focus rfl))
              | apply d_skip
              | apply d_exit
              | apply d_ret
              | with_reducible apply kt_ret
              | with_reducible apply kt_exit
              | with_reducible apply kb_normal
              | with_reducible apply kb_ret
              | with_reducible apply kb_here
              | with_reducible apply kl_ret
              | with_reducible apply kl_exit
              | with_reducible apply kc_ret
              | with_reducible apply kc_exit
              | (with_reducible apply kb_there; (focus rfl))
            refine kc_normal _ (Subl.cons (t := 0) (by decide) rfl (Subl.cons (t := 3) (by decide) rfl (Subl.cons (t := 4) (by decide) rfl (Subl.cons (t := 5) (by decide) rfl (Subl.cons (t := 6) (by decide) rfl (Subl.cons (t := 8) (by decide) rfl (Subl.cons (t := 9) (by decide) rfl (Subl.cons (t := 10) (by decide) rfl (Subl.nil _ _))))))))) ?_
            exact ⟨(d.deed (1 : Nat) y.id y.item y.qty).1, (d.deed (1 : Nat) y.id y.item y.qty).2, y.id, by first | (rw [HST.out]; done) | (rw [HST.out]; rfl), Lib.hid (by have := HX.out.take 2; rw [HST.out] at this; exact this), Lib.hid ⟨(HDE.out 1 (by omega)).2, by have := HLN.out; omega, by have := HLN.out; omega⟩⟩
          · have hst : d.ls.step y = ((d.deed (2 : Nat) y.id y.item y.qty).1.ls, (d.deed (2 : Nat) y.id y.item y.qty).2) := by unfold LS.step LS.does; rw [if_neg (by omega), if_neg (by omega), if_neg (by omega), if_pos (by omega)]; exact (HDE.out 2 (by omega)).1
            have hln := deed_len d (2 : Nat) y.id y.item y.qty
            have HST := Lib.hid hst
            rw [e1] at HX
            have HLN := Lib.hid hln
            clear hln
            clear hst
            have hx := HX.out
            try clear x0 x1 x2 x3 x4 x5
            try clear fx0 fx1 fx2 fx3 fx4 fx5
            obtain ⟨x0, x1, x2, x3, x4, x5, -⟩ := blk6 (hx.blk (i := 2) rfl)
            clear hx
            repeat first
              | apply d_seq
              | with_reducible apply kt_normal
              | apply l_nil
              | apply d_region
              | (apply l_off; (focus rfl); (focus rfl))
              | (apply l_val; (focus rfl); (focus rfl); (focus rfl); (focus (go_simp; (try simp (disch := omega) only [wrap_in, wrap_in', wrap_u16, wrap_u8, wrap_u32, wrap_u64, rem_in, quo_in]); first | done | with_reducible rfl | (constructor <;> with_reducible rfl))))
              | (apply l_store; (focus rfl); (focus rfl); (focus rfl); (focus (go_simp; (try simp (disch := omega) only [wrap_in, wrap_in', wrap_u16, wrap_u8, wrap_u32, wrap_u64, rem_in, quo_in]); first | done | with_reducible rfl | (constructor <;> with_reducible rfl))))
              | apply d_block
              | (apply d_true; (focus rfl); (focus rfl))
              | (apply d_false; (focus rfl); (focus rfl))
              | apply d_skip
              | apply d_exit
              | apply d_ret
              | with_reducible apply kt_ret
              | with_reducible apply kt_exit
              | with_reducible apply kb_normal
              | with_reducible apply kb_ret
              | with_reducible apply kb_here
              | with_reducible apply kl_ret
              | with_reducible apply kl_exit
              | with_reducible apply kc_ret
              | with_reducible apply kc_exit
              | (with_reducible apply kb_there; (focus rfl))
            refine l_call rfl rfl rfl (by first | (go_simp; done) | (go_simp; rfl)) (rdo_has HX.out 1 b d rfl 2 y.id y.item y.qty (by omega) hld' (HDE.out 2 (by omega)).2) ?_
            rintro e w' ⟨rfl, hx⟩
            clear HX
            try simp only [List.nil_append, List.cons_append, List.set_cons_zero, List.set_cons_succ] at hx
            have HX := Lib.hid hx
            clear hx
            refine ⟨_, rfl, ?_⟩
            repeat first
              | apply d_seq
              | with_reducible apply kt_normal
              | apply l_nil
              | apply d_region
              | (apply l_off; (focus rfl); (focus rfl))
              | (apply l_val; (focus rfl); (focus rfl); (focus rfl); (focus (go_simp; (try simp (disch := omega) only [wrap_in, wrap_in', wrap_u16, wrap_u8, wrap_u32, wrap_u64, rem_in, quo_in]); first | done | with_reducible rfl | (constructor <;> with_reducible rfl))))
              | (apply l_store; (focus rfl); (focus rfl); (focus rfl); (focus (go_simp; (try simp (disch := omega) only [wrap_in, wrap_in', wrap_u16, wrap_u8, wrap_u32, wrap_u64, rem_in, quo_in]); first | done | with_reducible rfl | (constructor <;> with_reducible rfl))))
              | apply d_block
              | (apply d_true; (focus rfl); (focus rfl))
              | (apply d_false; (focus rfl); (focus rfl))
              | apply d_skip
              | apply d_exit
              | apply d_ret
              | with_reducible apply kt_ret
              | with_reducible apply kt_exit
              | with_reducible apply kb_normal
              | with_reducible apply kb_ret
              | with_reducible apply kb_here
              | with_reducible apply kl_ret
              | with_reducible apply kl_exit
              | with_reducible apply kc_ret
              | with_reducible apply kc_exit
              | (with_reducible apply kb_there; (focus rfl))
            refine kc_normal _ (Subl.cons (t := 0) (by decide) rfl (Subl.cons (t := 3) (by decide) rfl (Subl.cons (t := 4) (by decide) rfl (Subl.cons (t := 5) (by decide) rfl (Subl.cons (t := 6) (by decide) rfl (Subl.cons (t := 8) (by decide) rfl (Subl.cons (t := 9) (by decide) rfl (Subl.cons (t := 10) (by decide) rfl (Subl.nil _ _))))))))) ?_
            exact ⟨(d.deed (2 : Nat) y.id y.item y.qty).1, (d.deed (2 : Nat) y.id y.item y.qty).2, y.id, by first | (rw [HST.out]; done) | (rw [HST.out]; rfl), Lib.hid (by have := HX.out.take 2; rw [HST.out] at this; exact this), Lib.hid ⟨(HDE.out 2 (by omega)).2, by have := HLN.out; omega, by have := HLN.out; omega⟩⟩
          · have hst : d.ls.step y = ((d.deed (2 : Nat) y.id y.item y.qty).1.ls, (d.deed (2 : Nat) y.id y.item y.qty).2) := by unfold LS.step LS.does; rw [if_neg (by omega), if_neg (by omega), if_neg (by omega), if_pos (by omega)]; exact (HDE.out 2 (by omega)).1
            have hln := deed_len d (2 : Nat) y.id y.item y.qty
            have HST := Lib.hid hst
            rw [e1] at HX
            have HLN := Lib.hid hln
            clear hln
            clear hst
            have hx := HX.out
            try clear x0 x1 x2 x3 x4 x5
            try clear fx0 fx1 fx2 fx3 fx4 fx5
            obtain ⟨x0, x1, x2, x3, x4, x5, -⟩ := blk6 (hx.blk (i := 2) rfl)
            clear hx
            repeat first
              | apply d_seq
              | with_reducible apply kt_normal
              | apply l_nil
              | apply d_region
              | (apply l_off; (focus rfl); (focus rfl))
              | (apply l_val; (focus rfl); (focus rfl); (focus rfl); (focus (go_simp; (try simp (disch := omega) only [wrap_in, wrap_in', wrap_u16, wrap_u8, wrap_u32, wrap_u64, rem_in, quo_in]); first | done | with_reducible rfl | (constructor <;> with_reducible rfl))))
              | (apply l_store; (focus rfl); (focus rfl); (focus rfl); (focus (go_simp; (try simp (disch := omega) only [wrap_in, wrap_in', wrap_u16, wrap_u8, wrap_u32, wrap_u64, rem_in, quo_in]); first | done | with_reducible rfl | (constructor <;> with_reducible rfl))))
              | apply d_block
              | (apply d_true; (focus rfl); (focus rfl))
              | (apply d_false; (focus rfl); (focus rfl))
              | apply d_skip
              | apply d_exit
              | apply d_ret
              | with_reducible apply kt_ret
              | with_reducible apply kt_exit
              | with_reducible apply kb_normal
              | with_reducible apply kb_ret
              | with_reducible apply kb_here
              | with_reducible apply kl_ret
              | with_reducible apply kl_exit
              | with_reducible apply kc_ret
              | with_reducible apply kc_exit
              | (with_reducible apply kb_there; (focus rfl))
            refine l_call rfl rfl rfl (by first | (go_simp; done) | (go_simp; rfl)) (rdo_has HX.out 1 b d rfl 2 y.id y.item y.qty (by omega) hld' (HDE.out 2 (by omega)).2) ?_
            rintro e w' ⟨rfl, hx⟩
            clear HX
            try simp only [List.nil_append, List.cons_append, List.set_cons_zero, List.set_cons_succ] at hx
            have HX := Lib.hid hx
            clear hx
            refine ⟨_, rfl, ?_⟩
            repeat first
              | apply d_seq
              | with_reducible apply kt_normal
              | apply l_nil
              | apply d_region
              | (apply l_off; (focus rfl); (focus rfl))
              | (apply l_val; (focus rfl); (focus rfl); (focus rfl); (focus (go_simp; (try simp (disch := omega) only [wrap_in, wrap_in', wrap_u16, wrap_u8, wrap_u32, wrap_u64, rem_in, quo_in]); first | done | with_reducible rfl | (constructor <;> with_reducible rfl))))
              | (apply l_store; (focus rfl); (focus rfl); (focus rfl); (focus (go_simp; (try simp (disch := omega) only [wrap_in, wrap_in', wrap_u16, wrap_u8, wrap_u32, wrap_u64, rem_in, quo_in]); first | done | with_reducible rfl | (constructor <;> with_reducible rfl))))
              | apply d_block
              | (apply d_true; (focus rfl); (focus rfl))
              | (apply d_false; (focus rfl); (focus rfl))
              | apply d_skip
              | apply d_exit
              | apply d_ret
              | with_reducible apply kt_ret
              | with_reducible apply kt_exit
              | with_reducible apply kb_normal
              | with_reducible apply kb_ret
              | with_reducible apply kb_here
              | with_reducible apply kl_ret
              | with_reducible apply kl_exit
              | with_reducible apply kc_ret
              | with_reducible apply kc_exit
              | (with_reducible apply kb_there; (focus rfl))
            refine kc_normal _ (Subl.cons (t := 0) (by decide) rfl (Subl.cons (t := 3) (by decide) rfl (Subl.cons (t := 4) (by decide) rfl (Subl.cons (t := 5) (by decide) rfl (Subl.cons (t := 6) (by decide) rfl (Subl.cons (t := 8) (by decide) rfl (Subl.cons (t := 9) (by decide) rfl (Subl.cons (t := 10) (by decide) rfl (Subl.nil _ _))))))))) ?_
            exact ⟨(d.deed (2 : Nat) y.id y.item y.qty).1, (d.deed (2 : Nat) y.id y.item y.qty).2, y.id, by first | (rw [HST.out]; done) | (rw [HST.out]; rfl), Lib.hid (by have := HX.out.take 2; rw [HST.out] at this; exact this), Lib.hid ⟨(HDE.out 2 (by omega)).2, by have := HLN.out; omega, by have := HLN.out; omega⟩⟩
          · have hst : d.ls.step y = ((d.dropped y.id).1.ls, (d.dropped y.id).2) := by unfold LS.step LS.does; rw [if_neg (by omega), if_neg (by omega), if_neg (by omega), if_neg (by omega), if_pos e1]; exact HDR.out.1
            have hln := dropped_len d y.id
            have HST := Lib.hid hst
            rw [e1] at HX
            have HLN := Lib.hid hln
            clear hln
            clear hst
            have hx := HX.out
            try clear x0 x1 x2 x3 x4 x5
            try clear fx0 fx1 fx2 fx3 fx4 fx5
            obtain ⟨x0, x1, x2, x3, x4, x5, -⟩ := blk6 (hx.blk (i := 2) rfl)
            clear hx
            repeat first
              | apply d_seq
              | with_reducible apply kt_normal
              | apply l_nil
              | apply d_region
              | (apply l_off; (focus rfl); (focus rfl))
              | (apply l_val; (focus rfl); (focus rfl); (focus rfl); (focus (go_simp; (try simp (disch := omega) only [wrap_in, wrap_in', wrap_u16, wrap_u8, wrap_u32, wrap_u64, rem_in, quo_in]); first | done | with_reducible rfl | (constructor <;> with_reducible rfl))))
              | (apply l_store; (focus rfl); (focus rfl); (focus rfl); (focus (go_simp; (try simp (disch := omega) only [wrap_in, wrap_in', wrap_u16, wrap_u8, wrap_u32, wrap_u64, rem_in, quo_in]); first | done | with_reducible rfl | (constructor <;> with_reducible rfl))))
              | apply d_block
              | (apply d_true; (focus rfl); (focus rfl))
              | (apply d_false; (focus rfl); (focus rfl))
              | apply d_skip
              | apply d_exit
              | apply d_ret
              | with_reducible apply kt_ret
              | with_reducible apply kt_exit
              | with_reducible apply kb_normal
              | with_reducible apply kb_ret
              | with_reducible apply kb_here
              | with_reducible apply kl_ret
              | with_reducible apply kl_exit
              | with_reducible apply kc_ret
              | with_reducible apply kc_exit
              | (with_reducible apply kb_there; (focus rfl))
            refine l_call rfl rfl rfl (by first | (go_simp; done) | (go_simp; rfl)) (rdrop_has HX.out 1 b d rfl y.id hlo' hld' HDR.out.2) ?_
            rintro e w' ⟨rfl, hx⟩
            clear HX
            try simp only [List.nil_append, List.cons_append, List.set_cons_zero, List.set_cons_succ] at hx
            have HX := Lib.hid hx
            clear hx
            refine ⟨_, rfl, ?_⟩
            repeat first
              | apply d_seq
              | with_reducible apply kt_normal
              | apply l_nil
              | apply d_region
              | (apply l_off; (focus rfl); (focus rfl))
              | (apply l_val; (focus rfl); (focus rfl); (focus rfl); (focus (go_simp; (try simp (disch := omega) only [wrap_in, wrap_in', wrap_u16, wrap_u8, wrap_u32, wrap_u64, rem_in, quo_in]); first | done | with_reducible rfl | (constructor <;> with_reducible rfl))))
              | (apply l_store; (focus rfl); (focus rfl); (focus rfl); (focus (go_simp; (try simp (disch := omega) only [wrap_in, wrap_in', wrap_u16, wrap_u8, wrap_u32, wrap_u64, rem_in, quo_in]); first | done | with_reducible rfl | (constructor <;> with_reducible rfl))))
              | apply d_block
              | (apply d_true; (focus rfl); (focus rfl))
              | (apply d_false; (focus rfl); (focus rfl))
              | apply d_skip
              | apply d_exit
              | apply d_ret
              | with_reducible apply kt_ret
              | with_reducible apply kt_exit
              | with_reducible apply kb_normal
              | with_reducible apply kb_ret
              | with_reducible apply kb_here
              | with_reducible apply kl_ret
              | with_reducible apply kl_exit
              | with_reducible apply kc_ret
              | with_reducible apply kc_exit
              | (with_reducible apply kb_there; (focus rfl))
            refine kc_normal _ (Subl.cons (t := 0) (by decide) rfl (Subl.cons (t := 3) (by decide) rfl (Subl.cons (t := 4) (by decide) rfl (Subl.cons (t := 5) (by decide) rfl (Subl.cons (t := 6) (by decide) rfl (Subl.cons (t := 8) (by decide) rfl (Subl.cons (t := 9) (by decide) rfl (Subl.cons (t := 10) (by decide) rfl (Subl.nil _ _))))))))) ?_
            exact ⟨(d.dropped y.id).1, (d.dropped y.id).2, y.id, by first | (rw [HST.out]; done) | (rw [HST.out]; rfl), Lib.hid (by have := HX.out.take 2; rw [HST.out] at this; exact this), Lib.hid ⟨HDR.out.2, by have := HLN.out; omega, by have := HLN.out; omega⟩⟩
          · obtain ⟨d1, d2, d3, d4, d5, d6, d7⟩ := e1
            have hst : d.ls.step y = (d.ls, 0) := by unfold LS.step LS.does; rw [if_neg (by omega), if_neg (by omega), if_neg (by omega), if_neg (by omega), if_neg (by omega)]
            have HST := Lib.hid hst
            clear hst
            have q1 : (y.kind == 1) = false := by simpa using d1
            have q2 : (y.kind == 2) = false := by simpa using d2
            have q3 : (y.kind == 3) = false := by simpa using d3
            have q4 : (y.kind == 4) = false := by simpa using d4
            have q5 : (y.kind == 5) = false := by simpa using d5
            have q6 : (y.kind == 6) = false := by simpa using d6
            have q7 : (y.kind == 7) = false := by simpa using d7
            have hx := HX.out
            try clear x0 x1 x2 x3 x4 x5
            try clear fx0 fx1 fx2 fx3 fx4 fx5
            obtain ⟨x0, x1, x2, x3, x4, x5, -⟩ := blk6 (hx.blk (i := 2) rfl)
            clear hx
            repeat first
              | apply d_seq
              | with_reducible apply kt_normal
              | apply l_nil
              | apply d_region
              | (apply l_off; (focus rfl); (focus rfl))
              | (apply l_val; (focus rfl); (focus rfl); (focus rfl); (focus (go_simp; (try simp (disch := omega) only [wrap_in, wrap_in', wrap_u16, wrap_u8, wrap_u32, wrap_u64, rem_in, quo_in]); first | done | with_reducible rfl | (constructor <;> with_reducible rfl))))
              | (apply l_store; (focus rfl); (focus rfl); (focus rfl); (focus (go_simp; (try simp (disch := omega) only [wrap_in, wrap_in', wrap_u16, wrap_u8, wrap_u32, wrap_u64, rem_in, quo_in]); first | done | with_reducible rfl | (constructor <;> with_reducible rfl))))
              | apply d_block
              | (apply d_true; (focus rfl); (focus rfl))
              | (apply d_false; (focus rfl); (focus rfl))
              | apply d_skip
              | apply d_exit
              | apply d_ret
              | with_reducible apply kt_ret
              | with_reducible apply kt_exit
              | with_reducible apply kb_normal
              | with_reducible apply kb_ret
              | with_reducible apply kb_here
              | with_reducible apply kl_ret
              | with_reducible apply kl_exit
              | with_reducible apply kc_ret
              | with_reducible apply kc_exit
              | (with_reducible apply kb_there; (focus rfl))
            refine kc_normal _ (Subl.cons (t := 0) (by decide) rfl (Subl.cons (t := 3) (by decide) rfl (Subl.cons (t := 4) (by decide) rfl (Subl.cons (t := 5) (by decide) rfl (Subl.cons (t := 6) (by decide) rfl (Subl.cons (t := 8) (by decide) rfl (Subl.cons (t := 9) (by decide) rfl (Subl.cons (t := 10) (by decide) rfl (Subl.nil _ _))))))))) ?_
            exact ⟨d, 0, y.id, by first | (rw [HST.out]; done) | (rw [HST.out]; rfl), Lib.hid (by have := HX.out.take 2; rw [HST.out] at this; exact this), Lib.hid ⟨HOK.out, by omega, by omega⟩⟩
        · clear HX HO HDE HDR HOK hlo' hld' hlo hld HYK
          obtain ⟨d, e, id, rfl, HX, HD⟩ := hcut
          obtain ⟨hok, hlo, hld⟩ := HD.out
          have hld' : d.ds.length ≤ 200 := by omega
          have HOK := Lib.hid hok
          clear hok
          have HC := Lib.hid (closed_sim d id)
          have HF := Lib.hid (full_sim d id)
          obtain ⟨rs, hrs⟩ : ∃ rs, d.rows id = rs := ⟨_, rfl⟩
          obtain ⟨v1, hv1⟩ : ∃ v, (d.ls.get id).isSome = v := ⟨_, rfl⟩
          obtain ⟨v2, hv2⟩ : ∃ v, d.closed id = v := ⟨_, rfl⟩
          obtain ⟨v3, hv3⟩ : ∃ v, d.full id = v := ⟨_, rfl⟩
          have hrs' : d.ls.rows id = rs := hrs
          have HV := Lib.hid (And.intro hrs (And.intro hrs' (And.intro hv1 (And.intro hv2 hv3))))
          clear hrs hrs' hv1 hv2 hv3
          repeat first
            | apply d_seq
            | with_reducible apply kt_normal
            | apply l_nil
            | apply d_region
            | (apply l_off; (focus rfl); (focus rfl))
            | (apply l_val; (focus rfl); (focus rfl); (focus rfl); (focus (go_simp; (try simp (disch := omega) only [wrap_in, wrap_in', wrap_u16, wrap_u8, wrap_u32, wrap_u64, rem_in, quo_in]); first | done | with_reducible rfl | (constructor <;> with_reducible rfl))))
            | (apply l_store; (focus rfl); (focus rfl); (focus rfl); (focus (go_simp; (try simp (disch := omega) only [wrap_in, wrap_in', wrap_u16, wrap_u8, wrap_u32, wrap_u64, rem_in, quo_in]); first | done | with_reducible rfl | (constructor <;> with_reducible rfl))))
            | apply d_block
            | (apply d_true; (focus rfl); (focus rfl))
            | (apply d_false; (focus rfl); (focus rfl))
            | apply d_skip
            | apply d_exit
            | apply d_ret
            | with_reducible apply kt_ret
            | with_reducible apply kt_exit
            | with_reducible apply kb_normal
            | with_reducible apply kb_ret
            | with_reducible apply kb_here
            | with_reducible apply kl_ret
            | with_reducible apply kl_exit
            | with_reducible apply kc_ret
            | with_reducible apply kc_exit
            | (with_reducible apply kb_there; (focus rfl))
          have hc := rows_has HX.out 0 x d.ls rfl id
          rw [HV.out.2.1, HV.out.2.2.1] at hc
          have HCC := Lib.hid hc
          clear hc
          refine l_call rfl rfl rfl (by first | (go_simp; done) | (go_simp; rfl)) (HCC.out) ?_
          rintro e w' ⟨A2, n2, rfl, hr1, hr2, hx⟩
          clear HX
          try simp only [List.nil_append, List.cons_append, List.set_cons_zero, List.set_cons_succ] at hx
          have HX := Lib.hid hx
          clear hx
          refine ⟨_, rfl, ?_⟩
          repeat first
            | apply d_seq
            | with_reducible apply kt_normal
            | apply l_nil
            | apply d_region
            | (apply l_off; (focus rfl); (focus rfl))
            | (apply l_val; (focus rfl); (focus rfl); (focus rfl); (focus (go_simp; (try simp (disch := omega) only [wrap_in, wrap_in', wrap_u16, wrap_u8, wrap_u32, wrap_u64, rem_in, quo_in]); first | done | with_reducible rfl | (constructor <;> with_reducible rfl))))
            | (apply l_store; (focus rfl); (focus rfl); (focus rfl); (focus (go_simp; (try simp (disch := omega) only [wrap_in, wrap_in', wrap_u16, wrap_u8, wrap_u32, wrap_u64, rem_in, quo_in]); first | done | with_reducible rfl | (constructor <;> with_reducible rfl))))
            | apply d_block
            | (apply d_true; (focus rfl); (focus rfl))
            | (apply d_false; (focus rfl); (focus rfl))
            | apply d_skip
            | apply d_exit
            | apply d_ret
            | with_reducible apply kt_ret
            | with_reducible apply kt_exit
            | with_reducible apply kb_normal
            | with_reducible apply kb_ret
            | with_reducible apply kb_here
            | with_reducible apply kl_ret
            | with_reducible apply kl_exit
            | with_reducible apply kc_ret
            | with_reducible apply kc_exit
            | (with_reducible apply kb_there; (focus rfl))
          clear HCC
          have hc := rrows_has HX.out 1 b d rfl id hld'
          rw [HV.out.1, HV.out.2.2.1] at hc
          have HCC := Lib.hid hc
          clear hc
          refine l_call rfl rfl rfl (by first | (go_simp; done) | (go_simp; rfl)) (HCC.out) ?_
          rintro e w' ⟨A3, n3, rfl, hr3, hr4, hx⟩
          clear HX
          try simp only [List.nil_append, List.cons_append, List.set_cons_zero, List.set_cons_succ] at hx
          have HX := Lib.hid hx
          clear hx
          refine ⟨_, rfl, ?_⟩
          repeat first
            | apply d_seq
            | with_reducible apply kt_normal
            | apply l_nil
            | apply d_region
            | (apply l_off; (focus rfl); (focus rfl))
            | (apply l_val; (focus rfl); (focus rfl); (focus rfl); (focus (go_simp; (try simp (disch := omega) only [wrap_in, wrap_in', wrap_u16, wrap_u8, wrap_u32, wrap_u64, rem_in, quo_in]); first | done | with_reducible rfl | (constructor <;> with_reducible rfl))))
            | (apply l_store; (focus rfl); (focus rfl); (focus rfl); (focus (go_simp; (try simp (disch := omega) only [wrap_in, wrap_in', wrap_u16, wrap_u8, wrap_u32, wrap_u64, rem_in, quo_in]); first | done | with_reducible rfl | (constructor <;> with_reducible rfl))))
            | apply d_block
            | (apply d_true; (focus rfl); (focus rfl))
            | (apply d_false; (focus rfl); (focus rfl))
            | apply d_skip
            | apply d_exit
            | apply d_ret
            | with_reducible apply kt_ret
            | with_reducible apply kt_exit
            | with_reducible apply kb_normal
            | with_reducible apply kb_ret
            | with_reducible apply kb_here
            | with_reducible apply kl_ret
            | with_reducible apply kl_exit
            | with_reducible apply kc_ret
            | with_reducible apply kc_exit
            | (with_reducible apply kb_there; (focus rfl))
          clear HCC
          have hc := closed_has HX.out 0 x d.ls rfl id
          rw [HC.out, HV.out.2.2.2.1] at hc
          have HCC := Lib.hid hc
          clear hc
          refine l_call rfl rfl rfl (by first | (go_simp; done) | (go_simp; rfl)) (HCC.out) ?_
          rintro e w' ⟨rfl, hx⟩
          clear HX
          try simp only [List.nil_append, List.cons_append, List.set_cons_zero, List.set_cons_succ] at hx
          have HX := Lib.hid hx
          clear hx
          refine ⟨_, rfl, ?_⟩
          repeat first
            | apply d_seq
            | with_reducible apply kt_normal
            | apply l_nil
            | apply d_region
            | (apply l_off; (focus rfl); (focus rfl))
            | (apply l_val; (focus rfl); (focus rfl); (focus rfl); (focus (go_simp; (try simp (disch := omega) only [wrap_in, wrap_in', wrap_u16, wrap_u8, wrap_u32, wrap_u64, rem_in, quo_in]); first | done | with_reducible rfl | (constructor <;> with_reducible rfl))))
            | (apply l_store; (focus rfl); (focus rfl); (focus rfl); (focus (go_simp; (try simp (disch := omega) only [wrap_in, wrap_in', wrap_u16, wrap_u8, wrap_u32, wrap_u64, rem_in, quo_in]); first | done | with_reducible rfl | (constructor <;> with_reducible rfl))))
            | apply d_block
            | (apply d_true; (focus rfl); (focus rfl))
            | (apply d_false; (focus rfl); (focus rfl))
            | apply d_skip
            | apply d_exit
            | apply d_ret
            | with_reducible apply kt_ret
            | with_reducible apply kt_exit
            | with_reducible apply kb_normal
            | with_reducible apply kb_ret
            | with_reducible apply kb_here
            | with_reducible apply kl_ret
            | with_reducible apply kl_exit
            | with_reducible apply kc_ret
            | with_reducible apply kc_exit
            | (with_reducible apply kb_there; (focus rfl))
          clear HCC
          have hc := rclosed_has HX.out 1 b d rfl id hld'
          rw [HV.out.2.2.2.1] at hc
          have HCC := Lib.hid hc
          clear hc
          refine l_call rfl rfl rfl (by first | (go_simp; done) | (go_simp; rfl)) (HCC.out) ?_
          rintro e w' ⟨rfl, hx⟩
          clear HX
          try simp only [List.nil_append, List.cons_append, List.set_cons_zero, List.set_cons_succ] at hx
          have HX := Lib.hid hx
          clear hx
          refine ⟨_, rfl, ?_⟩
          repeat first
            | apply d_seq
            | with_reducible apply kt_normal
            | apply l_nil
            | apply d_region
            | (apply l_off; (focus rfl); (focus rfl))
            | (apply l_val; (focus rfl); (focus rfl); (focus rfl); (focus (go_simp; (try simp (disch := omega) only [wrap_in, wrap_in', wrap_u16, wrap_u8, wrap_u32, wrap_u64, rem_in, quo_in]); first | done | with_reducible rfl | (constructor <;> with_reducible rfl))))
            | (apply l_store; (focus rfl); (focus rfl); (focus rfl); (focus (go_simp; (try simp (disch := omega) only [wrap_in, wrap_in', wrap_u16, wrap_u8, wrap_u32, wrap_u64, rem_in, quo_in]); first | done | with_reducible rfl | (constructor <;> with_reducible rfl))))
            | apply d_block
            | (apply d_true; (focus rfl); (focus rfl))
            | (apply d_false; (focus rfl); (focus rfl))
            | apply d_skip
            | apply d_exit
            | apply d_ret
            | with_reducible apply kt_ret
            | with_reducible apply kt_exit
            | with_reducible apply kb_normal
            | with_reducible apply kb_ret
            | with_reducible apply kb_here
            | with_reducible apply kl_ret
            | with_reducible apply kl_exit
            | with_reducible apply kc_ret
            | with_reducible apply kc_exit
            | (with_reducible apply kb_there; (focus rfl))
          clear HCC
          have hc := full_has HX.out 0 x d.ls rfl id
          rw [HF.out, HV.out.2.2.2.2] at hc
          have HCC := Lib.hid hc
          clear hc
          refine l_call rfl rfl rfl (by first | (go_simp; done) | (go_simp; rfl)) (HCC.out) ?_
          rintro e w' ⟨rfl, hx⟩
          clear HX
          try simp only [List.nil_append, List.cons_append, List.set_cons_zero, List.set_cons_succ] at hx
          have HX := Lib.hid hx
          clear hx
          refine ⟨_, rfl, ?_⟩
          repeat first
            | apply d_seq
            | with_reducible apply kt_normal
            | apply l_nil
            | apply d_region
            | (apply l_off; (focus rfl); (focus rfl))
            | (apply l_val; (focus rfl); (focus rfl); (focus rfl); (focus (go_simp; (try simp (disch := omega) only [wrap_in, wrap_in', wrap_u16, wrap_u8, wrap_u32, wrap_u64, rem_in, quo_in]); first | done | with_reducible rfl | (constructor <;> with_reducible rfl))))
            | (apply l_store; (focus rfl); (focus rfl); (focus rfl); (focus (go_simp; (try simp (disch := omega) only [wrap_in, wrap_in', wrap_u16, wrap_u8, wrap_u32, wrap_u64, rem_in, quo_in]); first | done | with_reducible rfl | (constructor <;> with_reducible rfl))))
            | apply d_block
            | (apply d_true; (focus rfl); (focus rfl))
            | (apply d_false; (focus rfl); (focus rfl))
            | apply d_skip
            | apply d_exit
            | apply d_ret
            | with_reducible apply kt_ret
            | with_reducible apply kt_exit
            | with_reducible apply kb_normal
            | with_reducible apply kb_ret
            | with_reducible apply kb_here
            | with_reducible apply kl_ret
            | with_reducible apply kl_exit
            | with_reducible apply kc_ret
            | with_reducible apply kc_exit
            | (with_reducible apply kb_there; (focus rfl))
          clear HCC
          have hc := rfull_has HX.out 1 b d rfl id hld'
          rw [HV.out.2.2.2.2] at hc
          have HCC := Lib.hid hc
          clear hc
          refine l_call rfl rfl rfl (by first | (go_simp; done) | (go_simp; rfl)) (HCC.out) ?_
          rintro e w' ⟨rfl, hx⟩
          clear HX
          try simp only [List.nil_append, List.cons_append, List.set_cons_zero, List.set_cons_succ] at hx
          have HX := Lib.hid hx
          clear hx
          refine ⟨_, rfl, ?_⟩
          repeat first
            | apply d_seq
            | with_reducible apply kt_normal
            | apply l_nil
            | apply d_region
            | (apply l_off; (focus rfl); (focus rfl))
            | (apply l_val; (focus rfl); (focus rfl); (focus rfl); (focus (go_simp; (try simp (disch := omega) only [wrap_in, wrap_in', wrap_u16, wrap_u8, wrap_u32, wrap_u64, rem_in, quo_in]); first | done | with_reducible rfl | (constructor <;> with_reducible rfl))))
            | (apply l_store; (focus rfl); (focus rfl); (focus rfl); (focus (go_simp; (try simp (disch := omega) only [wrap_in, wrap_in', wrap_u16, wrap_u8, wrap_u32, wrap_u64, rem_in, quo_in]); first | done | with_reducible rfl | (constructor <;> with_reducible rfl))))
            | apply d_block
            | (apply d_true; (focus rfl); (focus rfl))
            | (apply d_false; (focus rfl); (focus rfl))
            | apply d_skip
            | apply d_exit
            | apply d_ret
            | with_reducible apply kt_ret
            | with_reducible apply kt_exit
            | with_reducible apply kb_normal
            | with_reducible apply kb_ret
            | with_reducible apply kb_here
            | with_reducible apply kl_ret
            | with_reducible apply kl_exit
            | with_reducible apply kc_ret
            | with_reducible apply kc_exit
            | (with_reducible apply kb_there; (focus rfl))
          clear HCC
          refine d_loop (fun m D wr => ∃ (j : Nat) (rt : List Rw), m = rs.length - j ∧ j ≤ rs.length ∧ rt.length = rs.length ∧ D = [(0, .slice (some ⟨g, o, none⟩) l0.length cq0), (3, .bool true), (4, .pointer (some ⟨x, 0, none⟩)), (5, .pointer (some ⟨b, 0, none⟩)), (6, .int .i64 k), (11, .slice A2 rs.length n2), (13, .slice A3 rs.length n3), (15, .int .i64 j)] ∧ Hid (Has w wr [LedA w.heap.size x d.ls, RLA w.heap.size b d, OwnA w.heap.size 52 5 (.slice A2 rs.length n2) rs.length (rws rt), OwnA w.heap.size 53 5 (.slice A3 rs.length n3) rs.length (rws rs)]) ∧ Hid (∀ i, j ≤ i → rt[i]? = rs[i]?)) (rs.length) _ (Subl.cons (t := 0) (by decide) rfl (Subl.cons (t := 3) (by decide) rfl (Subl.cons (t := 4) (by decide) rfl (Subl.cons (t := 5) (by decide) rfl (Subl.cons (t := 6) (by decide) rfl (Subl.cons (t := 11) (by decide) rfl (Subl.cons (t := 13) (by decide) rfl (Subl.cons (t := 15) (by decide) rfl (Subl.nil _ _))))))))) ?_ (fun m D wr hrel => ?_)
          · exact ⟨0, rs, rfl, Nat.zero_le _, rfl, rfl, HX, Lib.hid (fun _ _ => rfl)⟩
          · clear HX
            obtain ⟨j, rt, rfl, hj, hrt, rfl, HX, HRT⟩ := hrel
            by_cases hjl : j < rs.length
            · obtain ⟨r, hr⟩ : ∃ r, rs[j]? = some r := ⟨_, List.getElem?_eq_getElem hjl⟩
              have hr' : rt[j]? = some r := (HRT.out j (Nat.le_refl _)).trans hr
              obtain ⟨g2, o2, n2', e2, -, -, -, p0, p1, p2, p3, p4⟩ := HX.out.row (i := 2) rfl hrt.symm hr'
              obtain ⟨g3, o3, n3', e3, -, -, -, q0, q1, q2, q3, q4⟩ := HX.out.row (i := 3) rfl rfl hr
              simp only [Value.slice.injEq, true_and] at e2 e3
              obtain ⟨rfl, rfl⟩ := e2
              obtain ⟨rfl, rfl⟩ := e3
              have ho2 := HX.out.own0 (i := 2) (o := o2) rfl (by omega)
              subst ho2
              simp only [Nat.zero_add] at p0 p1 p2 p3 p4
              have hl5 : (rws rt).length = rt.length * 5 := rws_len rt
              have z := HX.out.drew
              obtain ⟨f0, -, b0⟩ := z.cellPut (i := 2) rfl (k := j * 5) (by omega)
              have z := b0 (.int .u16 0) rfl
              simp only [List.set_cons_zero, List.set_cons_succ] at z
              obtain ⟨f1, -, b1⟩ := HX.out.cellPut (i := 2) rfl (k := j * 5 + 1) (by omega)
              obtain ⟨-, -, b1⟩ := z.cellPut (i := 2) rfl (k := j * 5 + 1) (by rw [List.length_set]; omega)
              have z := b1 (.int .i64 0) rfl
              simp only [List.set_cons_zero, List.set_cons_succ] at z
              obtain ⟨f2, -, -⟩ := HX.out.cellPut (i := 2) rfl (k := j * 5 + 2) (by omega)
              obtain ⟨-, -, b2⟩ := z.cellPut (i := 2) rfl (k := j * 5 + 2) (by rw [List.length_set, List.length_set]; omega)
              have z := b2 (.int .i64 0) rfl
              simp only [List.set_cons_zero, List.set_cons_succ] at z
              obtain ⟨f3, -, -⟩ := HX.out.cellPut (i := 2) rfl (k := j * 5 + 3) (by omega)
              obtain ⟨-, -, b3⟩ := z.cellPut (i := 2) rfl (k := j * 5 + 3) (by rw [List.length_set, List.length_set, List.length_set]; omega)
              have z := b3 (.int .i64 0) rfl
              simp only [List.set_cons_zero, List.set_cons_succ] at z
              obtain ⟨f4, -, -⟩ := HX.out.cellPut (i := 2) rfl (k := j * 5 + 4) (by omega)
              obtain ⟨-, -, b4⟩ := z.cellPut (i := 2) rfl (k := j * 5 + 4) (by rw [List.length_set, List.length_set, List.length_set, List.length_set]; omega)
              have z := b4 (.int .i64 0) rfl
              simp only [List.set_cons_zero, List.set_cons_succ] at z
              rw [ref_put (by omega)] at z
              have hrt2 : ∀ i, j + 1 ≤ i → (rt.set j ⟨0, 0, 0, 0, 0⟩)[i]? = rs[i]? := fun i hi => by
                rw [List.getElem?_set_ne (by omega)]
                exact HRT.out i (by omega)
              have HZ := Lib.hid z
              have HR2 := Lib.hid hrt2
              have d0 : wr.drew.cell? ⟨g2, j * 5, none⟩ = some (.int .u16 r.item) := p0
              have d1 : wr.drew.cell? ⟨g2, j * 5 + 1, none⟩ = some (.int .i64 r.wanted) := p1
              have d2 : wr.drew.cell? ⟨g2, j * 5 + 2, none⟩ = some (.int .i64 r.picked) := p2
              have d3 : wr.drew.cell? ⟨g2, j * 5 + 3, none⟩ = some (.int .i64 r.short) := p3
              have d4 : wr.drew.cell? ⟨g2, j * 5 + 4, none⟩ = some (.int .i64 r.put) := p4
              have h0 : wr.drew.cell? ⟨g3, o3 + j * 5, none⟩ = some (.int .u16 r.item) := q0
              have h1 : wr.drew.cell? ⟨g3, o3 + j * 5 + 1, none⟩ = some (.int .i64 r.wanted) := q1
              have h2 : wr.drew.cell? ⟨g3, o3 + j * 5 + 2, none⟩ = some (.int .i64 r.picked) := q2
              have h3 : wr.drew.cell? ⟨g3, o3 + j * 5 + 3, none⟩ = some (.int .i64 r.short) := q3
              have h4 : wr.drew.cell? ⟨g3, o3 + j * 5 + 4, none⟩ = some (.int .i64 r.put) := q4
              have HRR := Lib.hid (And.intro hr (And.intro hr' hrt))
              clear z b0 b1 b2 b3 b4 hrt2 hr hr' hl5 q0 q1 q2 q3 q4
              repeat first
                | apply d_seq
                | with_reducible apply kt_normal
                | apply l_nil
                | apply d_region
                | (apply l_off; (focus rfl); (focus rfl))
                | (apply l_val; (focus rfl); (focus rfl); (focus rfl); (focus (go_simp; (try simp (disch := omega) only [wrap_in, wrap_in', wrap_u16, wrap_u8, wrap_u32, wrap_u64, rem_in, quo_in]); first | done | with_reducible rfl | (constructor <;> with_reducible rfl))))
                | (apply l_store; (focus rfl); (focus rfl); (focus rfl); (focus (go_simp; (try simp (disch := omega) only [wrap_in, wrap_in', wrap_u16, wrap_u8, wrap_u32, wrap_u64, rem_in, quo_in]); first | done | with_reducible rfl | (constructor <;> with_reducible rfl))))
                | apply d_block
                | (apply d_true; (focus rfl); (focus rfl))
                | (apply d_false; (focus rfl); (focus rfl))
                | apply d_skip
                | apply d_exit
                | apply d_ret
                | with_reducible apply kt_ret
                | with_reducible apply kt_exit
                | with_reducible apply kb_normal
                | with_reducible apply kb_ret
                | with_reducible apply kb_here
                | with_reducible apply kl_ret
                | with_reducible apply kl_exit
                | with_reducible apply kc_ret
                | with_reducible apply kc_exit
                | (with_reducible apply kb_there; (focus rfl))
              refine d_draw (true, [([], []), ([], []), ([0, 1], [0, 1]), ([2], [2]), ([3], [3]), ([], []), ([], []), ([5, 6], [5, 6]), ([7], [7]), ([8], [8]), ([4, 9], [4, 9]), ([10], [10]), ([11], [11]), ([11], [11]), ([12, 13, 11], [11, 12, 13]), ([14, 11], [11, 14]), ([15, 11], [11, 15]), ([11], [11]), ([11], [11]), ([17, 18, 11], [11, 17, 18]), ([19, 11], [11, 19]), ([20, 11], [11, 20]), ([16, 21, 11], [11, 16, 21]), ([11, 22], [11, 22]), ([23, 11], [23]), ([24], [24]), ([24], [24]), ([25, 26, 24], [24, 25, 26]), ([27, 24], [24, 27]), ([28, 24], [24, 28]), ([24], [24]), ([24], [24]), ([30, 31, 24], [24, 30, 31]), ([32, 24], [24, 32]), ([33, 24], [24, 33]), ([29, 34, 24], [24, 29, 34]), ([24, 35], [24, 35]), ([36, 24], [36]), ([37], [37]), ([37], [37]), ([38, 39, 37], [37, 38, 39]), ([40, 37], [37, 40]), ([41, 37], [37, 41]), ([37], [37]), ([37], [37]), ([43, 44, 37], [37, 43, 44]), ([45, 37], [37, 45]), ([46, 37], [37, 46]), ([42, 47, 37], [37, 42, 47]), ([37, 48], [37, 48]), ([49, 37], [49]), ([50], [50]), ([50], [50]), ([51, 52, 50], [50, 51, 52]), ([53, 50], [50, 53]), ([54, 50], [50, 54]), ([50], [50]), ([50], [50]), ([56, 57, 50], [50, 56, 57]), ([58, 50], [50, 58]), ([59, 50], [50, 59]), ([55, 60, 50], [50, 55, 60]), ([50, 61], [50, 61])]) [(0, 0), (0, 1), (0, 2), (0, 3), (0, 4), (0, 5), (0, 6), (0, 7), (0, 8), (0, 9), (0, 10), (0, 11), (0, 12), (0, 13), (0, 14), (0, 15), (0, 16), (0, 17), (0, 18), (0, 19), (0, 20), (0, 21), (0, 22), (0, 23), (0, 24), (0, 25), (0, 26), (0, 27), (0, 28), (0, 29), (0, 30), (0, 31), (0, 32), (0, 33), (0, 34), (0, 35), (0, 36), (0, 37), (0, 38), (0, 39), (0, 40), (0, 41), (0, 42), (0, 43), (0, 44), (0, 45), (0, 46), (0, 47), (0, 48), (0, 49), (0, 50), (0, 51), (0, 52), (0, 53), (0, 54), (0, 55), (0, 56), (0, 57), (0, 58), (0, 59), (0, 60), (0, 61), (0, 62)] [999999] (fun W => W.cell? ⟨g2, j * 5, none⟩ = some (.int .u16 r.item) ∧ W.cell? ⟨g2, j * 5 + 1, none⟩ = some (.int .i64 r.wanted) ∧ W.cell? ⟨g2, j * 5 + 2, none⟩ = some (.int .i64 r.picked) ∧ W.cell? ⟨g2, j * 5 + 3, none⟩ = some (.int .i64 r.short) ∧ W.cell? ⟨g2, j * 5 + 4, none⟩ = some (.int .i64 r.put) ∧ W.cell? ⟨g3, o3 + j * 5, none⟩ = some (.int .u16 r.item) ∧ W.cell? ⟨g3, o3 + j * 5 + 1, none⟩ = some (.int .i64 r.wanted) ∧ W.cell? ⟨g3, o3 + j * 5 + 2, none⟩ = some (.int .i64 r.picked) ∧ W.cell? ⟨g3, o3 + j * 5 + 3, none⟩ = some (.int .i64 r.short) ∧ W.cell? ⟨g3, o3 + j * 5 + 4, none⟩ = some (.int .i64 r.put)) (by kernel_rfl) (by kernel_rfl) (by kernel_rfl) (by kernel_rfl) ⟨d0, d1, d2, d3, d4, h0, h1, h2, h3, h4⟩ ?_
              iterate 63
                first | (apply s_off; (focus rfl); (focus rfl); (focus rfl)) | (apply s_yield; (focus rfl); (focus rfl); (focus rfl); (focus rfl); (focus (intro W hS; obtain ⟨hS1, hS2, hS3, hS4, hS5, hS6, hS7, hS8, hS9, hS10⟩ := hS; go_simp; (try simp (disch := omega) only [wrap_in, wrap_in', wrap_u16, wrap_u8, wrap_u32, wrap_u64, rem_in, quo_in]); first | done | with_reducible rfl | (constructor <;> with_reducible rfl))))
              refine s_done ?_
              repeat first
                | apply d_seq
                | with_reducible apply kt_normal
                | apply l_nil
                | apply d_region
                | (apply l_off; (focus rfl); (focus rfl))
                | (apply l_val; (focus rfl); (focus rfl); (focus rfl); (focus (go_simp; (try simp (disch := omega) only [wrap_in, wrap_in', wrap_u16, wrap_u8, wrap_u32, wrap_u64, rem_in, quo_in]); first | done | with_reducible rfl | (constructor <;> with_reducible rfl))))
                | (apply l_store; (focus rfl); (focus rfl); (focus rfl); (focus (go_simp; (try simp (disch := omega) only [wrap_in, wrap_in', wrap_u16, wrap_u8, wrap_u32, wrap_u64, rem_in, quo_in]); first | done | with_reducible rfl | (constructor <;> with_reducible rfl))))
                | apply d_block
                | (apply d_true; (focus rfl); (focus rfl))
                | (apply d_false; (focus rfl); (focus rfl))
                | apply d_skip
                | apply d_exit
                | apply d_ret
                | with_reducible apply kt_ret
                | with_reducible apply kt_exit
                | with_reducible apply kb_normal
                | with_reducible apply kb_ret
                | with_reducible apply kb_here
                | with_reducible apply kl_ret
                | with_reducible apply kl_exit
                | with_reducible apply kc_ret
                | with_reducible apply kc_exit
                | (with_reducible apply kb_there; (focus rfl))
              refine kl_normal (rs.length - (j + 1)) _ (by omega) (Subl.cons (t := 0) (by decide) rfl (Subl.cons (t := 3) (by decide) rfl (Subl.cons (t := 4) (by decide) rfl (Subl.cons (t := 5) (by decide) rfl (Subl.cons (t := 6) (by decide) rfl (Subl.cons (t := 11) (by decide) rfl (Subl.cons (t := 13) (by decide) rfl (Subl.cons (t := 15) (by decide) rfl (Subl.nil _ _))))))))) ?_
              exact ⟨j + 1, rt.set j ⟨0, 0, 0, 0, 0⟩, rfl, by omega, by rw [List.length_set]; exact HRR.out.2.2, rfl, HZ, HR2⟩
            · repeat first
                | apply d_seq
                | with_reducible apply kt_normal
                | apply l_nil
                | apply d_region
                | (apply l_off; (focus rfl); (focus rfl))
                | (apply l_val; (focus rfl); (focus rfl); (focus rfl); (focus (go_simp; (try simp (disch := omega) only [wrap_in, wrap_in', wrap_u16, wrap_u8, wrap_u32, wrap_u64, rem_in, quo_in]); first | done | with_reducible rfl | (constructor <;> with_reducible rfl))))
                | (apply l_store; (focus rfl); (focus rfl); (focus rfl); (focus (go_simp; (try simp (disch := omega) only [wrap_in, wrap_in', wrap_u16, wrap_u8, wrap_u32, wrap_u64, rem_in, quo_in]); first | done | with_reducible rfl | (constructor <;> with_reducible rfl))))
                | apply d_block
                | (apply d_true; (focus rfl); (focus rfl))
                | (apply d_false; (focus rfl); (focus rfl))
                | apply d_skip
                | apply d_exit
                | apply d_ret
                | with_reducible apply kt_ret
                | with_reducible apply kt_exit
                | with_reducible apply kb_normal
                | with_reducible apply kb_ret
                | with_reducible apply kb_here
                | with_reducible apply kl_ret
                | with_reducible apply kl_exit
                | with_reducible apply kc_ret
                | with_reducible apply kc_exit
                | (with_reducible apply kb_there; (focus rfl))
              refine kl_normal (l0.length - (k + 1)) _ (by omega) (Subl.cons (t := 0) (by decide) rfl (Subl.cons (t := 3) (by decide) rfl (Subl.cons (t := 4) (by decide) rfl (Subl.cons (t := 5) (by decide) rfl (Subl.cons (t := 6) (by decide) rfl (Subl.nil _ _)))))) ?_
              exact ⟨k + 1, d, rfl, by omega, rfl, Lib.hid (HX.out.take 2), Lib.hid ⟨HOK.out, hlo, hld⟩⟩
      · repeat first
          | apply d_seq
          | with_reducible apply kt_normal
          | apply l_nil
          | apply d_region
          | (apply l_off; (focus rfl); (focus rfl))
          | (apply l_val; (focus rfl); (focus rfl); (focus rfl); (focus (go_simp; (try simp (disch := omega) only [wrap_in, wrap_in', wrap_u16, wrap_u8, wrap_u32, wrap_u64, rem_in, quo_in]); first | done | with_reducible rfl | (constructor <;> with_reducible rfl))))
          | (apply l_store; (focus rfl); (focus rfl); (focus rfl); (focus (go_simp; (try simp (disch := omega) only [wrap_in, wrap_in', wrap_u16, wrap_u8, wrap_u32, wrap_u64, rem_in, quo_in]); first | done | with_reducible rfl | (constructor <;> with_reducible rfl))))
          | apply d_block
          | (apply d_true; (focus rfl); (focus rfl))
          | (apply d_false; (focus rfl); (focus rfl))
          | apply d_skip
          | apply d_exit
          | apply d_ret
          | with_reducible apply kt_ret
          | with_reducible apply kt_exit
          | with_reducible apply kb_normal
          | with_reducible apply kb_ret
          | with_reducible apply kb_here
          | with_reducible apply kl_ret
          | with_reducible apply kl_exit
          | with_reducible apply kc_ret
          | with_reducible apply kc_exit
          | (with_reducible apply kb_there; (focus rfl))
        refine ⟨rfl, _, (by first | (simp [resultsG, resOne, Try.results3, rho, List.lookup]; done) | (simp [resultsG, resOne, Try.results3, rho, List.lookup]; rfl)), ?_⟩
        exact ⟨rfl, HX.out.old⟩
    · repeat first
        | apply d_seq
        | with_reducible apply kt_normal
        | apply l_nil
        | apply d_region
        | (apply l_off; (focus rfl); (focus rfl))
        | (apply l_val; (focus rfl); (focus rfl); (focus rfl); (focus (go_simp; (try simp (disch := omega) only [wrap_in, wrap_in', wrap_u16, wrap_u8, wrap_u32, wrap_u64, rem_in, quo_in]); first | done | with_reducible rfl | (constructor <;> with_reducible rfl))))
        | (apply l_store; (focus rfl); (focus rfl); (focus rfl); (focus (go_simp; (try simp (disch := omega) only [wrap_in, wrap_in', wrap_u16, wrap_u8, wrap_u32, wrap_u64, rem_in, quo_in]); first | done | with_reducible rfl | (constructor <;> with_reducible rfl))))
        | apply d_block
        | (apply d_true; (focus rfl); (focus rfl))
        | (apply d_false; (focus rfl); (focus rfl))
        | apply d_skip
        | apply d_exit
        | apply d_ret
        | with_reducible apply kt_ret
        | with_reducible apply kt_exit
        | with_reducible apply kb_normal
        | with_reducible apply kb_ret
        | with_reducible apply kb_here
        | with_reducible apply kl_ret
        | with_reducible apply kl_exit
        | with_reducible apply kc_ret
        | with_reducible apply kc_exit
        | (with_reducible apply kb_there; (focus rfl))
      refine ⟨rfl, _, (by first | (simp [resultsG, resOne, Try.results3, rho, List.lookup]; done) | (simp [resultsG, resOne, Try.results3, rho, List.lookup]; rfl)), ?_⟩
      exact ⟨rfl, HX.out.old⟩
end Go.Proofs.Ytkjcmnhhgnlaeaa
