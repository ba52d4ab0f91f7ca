import Derived.Test.YtilmodbiimjllaaTotP
namespace Go.Proofs.Ytilmodbiimjllaa
set_option linter.unusedVariables false
set_option linter.unusedSimpArgs false
attribute [local go_sem] rho_const rho_func rho_hit rho_miss
open Go.RowKit
attribute [local go_sem] min2_mn min_two' max2_mx max_two'
set_option maxRecDepth 100000 in
set_option maxHeartbeats 8000000 in
theorem toteOnce_any {w : World} (zn rm : Int) {A0 : Option Addr} {n0 cq0 : Nat} {l0 : List St}
    (h0 : SeesIn w (fun k => k < w.heap.size) 3 (.slice A0 n0 cq0) l0.length (l0.flatMap St.cs) ∧ ∀ x ∈ l0, x.ok w) :
    Calls Try.prog 4 #[.int .i64 zn, .int .i64 rm, .slice A0 n0 cq0] w fun e w' => e = .returned (.bool true) ∧ Keep none_ w w' := by
  obtain ⟨hs0, -⟩ := h0
  obtain ⟨rfl, b0, b0'⟩ := hs0.form'
  obtain ⟨n, hn, hn1, hn8⟩ := mx_mn zn 8 (by decide)
  obtain ⟨r, hr, hr1, hr64⟩ := mx_mn rm 64 (by decide)
  simp only [Int.cast_ofNat_Int] at hn hr
  have HX := Lib.hid (Has.nil (Keep.refl none_ w))
  have HS0 := Lib.hid hs0
  clear hs0
  refine d_calls (n := 139) Try.func4 rfl rfl (by simp) [(0, .int .i64 zn), (1, .int .i64 rm), (2, .slice A0 l0.length cq0)] (by simp) ?_
  repeat first
    | apply d_seq
    | with_reducible apply kt_normal
    | apply l_nil
    | apply d_region
    | (apply l_off; (focus rfl); (focus rfl))
    | (apply l_val; (focus rfl); (focus rfl); (focus rfl); (focus (go_simp; (try simp (disch := omega) only [wrap_in, wrap_in', wrap_u16, wrap_u8, wrap_u32, wrap_u64, rem_in, quo_in]); first | done | with_reducible rfl | (constructor <;> with_reducible rfl))))
    | (apply l_store; (focus rfl); (focus rfl); (focus rfl); (focus (go_simp; (try simp (disch := omega) only [wrap_in, wrap_in', wrap_u16, wrap_u8, wrap_u32, wrap_u64, rem_in, quo_in]); first | done | with_reducible rfl | (constructor <;> with_reducible rfl))))
    | apply d_block
    | (apply d_true; (focus rfl); (focus rfl))
    | (apply d_false; (focus rfl); (focus rfl))
    | apply d_skip
    | apply d_exit
    | apply d_ret
    | with_reducible apply kt_ret
    | with_reducible apply kt_exit
    | with_reducible apply kb_normal
    | with_reducible apply kb_ret
    | with_reducible apply kb_here
    | with_reducible apply kl_ret
    | with_reducible apply kl_exit
    | with_reducible apply kc_ret
    | with_reducible apply kc_exit
    | (with_reducible apply kb_there; (focus rfl))
  refine l_call rfl rfl rfl (by first | (go_simp; done) | (go_simp; rfl)) (shown_has HX.out) ?_
  rintro e w' ⟨rfl, hx⟩
  clear HX
  try simp only [List.nil_append, List.cons_append, List.set_cons_zero, List.set_cons_succ] at hx
  have HX := Lib.hid hx
  clear hx
  refine ⟨_, rfl, ?_⟩
  repeat first
    | apply d_seq
    | with_reducible apply kt_normal
    | apply l_nil
    | apply d_region
    | (apply l_off; (focus rfl); (focus rfl))
    | (apply l_val; (focus rfl); (focus rfl); (focus rfl); (focus (go_simp; (try simp (disch := omega) only [wrap_in, wrap_in', wrap_u16, wrap_u8, wrap_u32, wrap_u64, rem_in, quo_in]); first | done | with_reducible rfl | (constructor <;> with_reducible rfl))))
    | (apply l_store; (focus rfl); (focus rfl); (focus rfl); (focus (go_simp; (try simp (disch := omega) only [wrap_in, wrap_in', wrap_u16, wrap_u8, wrap_u32, wrap_u64, rem_in, quo_in]); first | done | with_reducible rfl | (constructor <;> with_reducible rfl))))
    | apply d_block
    | (apply d_true; (focus rfl); (focus rfl))
    | (apply d_false; (focus rfl); (focus rfl))
    | apply d_skip
    | apply d_exit
    | apply d_ret
    | with_reducible apply kt_ret
    | with_reducible apply kt_exit
    | with_reducible apply kb_normal
    | with_reducible apply kb_ret
    | with_reducible apply kb_here
    | with_reducible apply kl_ret
    | with_reducible apply kl_exit
    | with_reducible apply kc_ret
    | with_reducible apply kc_exit
    | (with_reducible apply kb_there; (focus rfl))
  refine l_call rfl rfl rfl (by first | (go_simp; done) | (go_simp; rfl)) (new_has HX.out zn rm n r hn hr) ?_
  rintro e w' ⟨a, az, rfl, hx⟩
  clear HX
  try simp only [List.nil_append, List.cons_append, List.set_cons_zero, List.set_cons_succ] at hx
  have HX := Lib.hid hx
  clear hx
  refine ⟨_, rfl, ?_⟩
  repeat first
    | apply d_seq
    | with_reducible apply kt_normal
    | apply l_nil
    | apply d_region
    | (apply l_off; (focus rfl); (focus rfl))
    | (apply l_val; (focus rfl); (focus rfl); (focus rfl); (focus (go_simp; (try simp (disch := omega) only [wrap_in, wrap_in', wrap_u16, wrap_u8, wrap_u32, wrap_u64, rem_in, quo_in]); first | done | with_reducible rfl | (constructor <;> with_reducible rfl))))
    | (apply l_store; (focus rfl); (focus rfl); (focus rfl); (focus (go_simp; (try simp (disch := omega) only [wrap_in, wrap_in', wrap_u16, wrap_u8, wrap_u32, wrap_u64, rem_in, quo_in]); first | done | with_reducible rfl | (constructor <;> with_reducible rfl))))
    | apply d_block
    | (apply d_true; (focus rfl); (focus rfl))
    | (apply d_false; (focus rfl); (focus rfl))
    | apply d_skip
    | apply d_exit
    | apply d_ret
    | with_reducible apply kt_ret
    | with_reducible apply kt_exit
    | with_reducible apply kb_normal
    | with_reducible apply kb_ret
    | with_reducible apply kb_here
    | with_reducible apply kl_ret
    | with_reducible apply kl_exit
    | with_reducible apply kc_ret
    | with_reducible apply kc_exit
    | (with_reducible apply kb_there; (focus rfl))
  refine d_loop (fun m D wr => ∃ (k : Nat) (s : TS), m = l0.length - k ∧ k ≤ l0.length ∧ D = [(0, .int .i64 zn), (1, .int .i64 rm), (2, .slice A0 l0.length cq0), (7, .bool true), (8, .pointer (some ⟨a, 0, none⟩)), (9, .int .i64 k)] ∧ Hid (Has w wr [TotA w.heap.size a az s]) ∧ Hid (s.uniq ∧ s.room = r ∧ s.qs.length = n)) (l0.length) _ (Subl.cons (t := 0) (by decide) rfl (Subl.cons (t := 1) (by decide) rfl (Subl.cons (t := 2) (by decide) rfl (Subl.cons (t := 7) (by decide) rfl (Subl.cons (t := 8) (by decide) rfl (Subl.cons (t := 9) (by decide) rfl (Subl.nil _ _))))))) ?_ (fun m D wr hrel => ?_)
  · exact ⟨0, _, rfl, Nat.zero_le _, rfl, HX, Lib.hid ⟨init_uniq _ _, rfl, by simp [TS.init]⟩⟩
  · clear HX
    obtain ⟨k, s, rfl, hk, rfl, HX, HS⟩ := hrel
    by_cases hlt : k < l0.length
    · by_cases h100 : (k : Int) < 150
      · obtain ⟨y, hy⟩ : ∃ y, l0[k]? = some y := ⟨_, List.getElem?_eq_getElem hlt⟩
        obtain ⟨g, o, cp, e1, -, -, hq1, hq2, c0, c1, c2⟩ := sees_Steps HS0.out hy
        simp only [Value.slice.injEq, true_and] at e1
        obtain ⟨rfl, rfl⟩ := e1
        have C0 := Lib.hid c0
        have C1 := Lib.hid c1
        have C2 := Lib.hid c2
        clear c0 c1 c2
        clear hy
        try clear c0
        have c0 := HX.out.cell0 C0.out
        try clear c1
        have c1 := HX.out.cell0 C1.out
        try clear c2
        have c2 := HX.out.cell0 C2.out
        have hx := HX.out.box #[.int .i64 y.kind, .int .u16 y.tote, .int .i64 y.zone] 32
        simp only [List.nil_append, List.cons_append] at hx
        obtain ⟨x0, x1, x2, -⟩ := blk3 (hx.blk (i := 1) rfl)
        clear HX
        have HX := Lib.hid hx
        clear hx
        repeat first
          | apply d_seq
          | with_reducible apply kt_normal
          | apply l_nil
          | apply d_region
          | (apply l_off; (focus rfl); (focus rfl))
          | (apply l_val; (focus rfl); (focus rfl); (focus rfl); (focus (go_simp; (try simp (disch := omega) only [wrap_in, wrap_in', wrap_u16, wrap_u8, wrap_u32, wrap_u64, rem_in, quo_in]); first | done | with_reducible rfl | (constructor <;> with_reducible rfl))))
          | (apply l_store; (focus rfl); (focus rfl); (focus rfl); (focus (go_simp; (try simp (disch := omega) only [wrap_in, wrap_in', wrap_u16, wrap_u8, wrap_u32, wrap_u64, rem_in, quo_in]); first | done | with_reducible rfl | (constructor <;> with_reducible rfl))))
          | ((fail_if_success (with_reducible apply d_block (id := 2))); apply d_block)
          | (apply d_true; (focus rfl); (focus rfl))
          | (apply d_false; (focus rfl); (focus rfl))
          | apply d_skip
          | apply d_exit
          | apply d_ret
          | with_reducible apply kt_ret
          | with_reducible apply kt_exit
          | with_reducible apply kb_normal
          | with_reducible apply kb_ret
          | with_reducible apply kb_here
          | with_reducible apply kl_ret
          | with_reducible apply kl_exit
          | with_reducible apply kc_ret
          | with_reducible apply kc_exit
          | (with_reducible apply kb_there; (focus rfl))
        clear c0 c1 c2
        generalize wr.alloc (.cells #[.int .i64 y.kind, .int .u16 y.tote, .int .i64 y.zone] 32) = wy at *
        generalize wr.heap.size = xb at *
        refine d_join (fun D wr => ∃ (s : TS), D = [(0, .int .i64 zn), (1, .int .i64 rm), (2, .slice (some ⟨g, o, none⟩) l0.length cq0), (7, .bool true), (8, .pointer (some ⟨a, 0, none⟩)), (9, .int .i64 k)] ∧ Hid (Has w wr [TotA w.heap.size a az s]) ∧ Hid (s.uniq ∧ s.room = r ∧ s.qs.length = n)) ?_ (fun D wr hcut => ?_)
        · rcases (by omega : y.kind = 1 ∨ y.kind = 2 ∨ y.kind = 3 ∨ y.kind = 4 ∨ y.kind = 5 ∨ y.kind = 6 ∨ (y.kind ≠ 1 ∧ y.kind ≠ 2 ∧ y.kind ≠ 3 ∧ y.kind ≠ 4 ∧ y.kind ≠ 5 ∧ y.kind ≠ 6)) with e1 | e1 | e1 | e1 | e1 | e1 | e1
          · rw [e1] at x0
            repeat first
              | apply d_seq
              | with_reducible apply kt_normal
              | apply l_nil
              | apply d_region
              | (apply l_off; (focus rfl); (focus rfl))
              | (apply l_val; (focus rfl); (focus rfl); (focus rfl); (focus (go_simp; (try simp (disch := omega) only [wrap_in, wrap_in', wrap_u16, wrap_u8, wrap_u32, wrap_u64, rem_in, quo_in]); first | done | with_reducible rfl | (constructor <;> with_reducible rfl))))
              | (apply l_store; (focus rfl); (focus rfl); (focus rfl); (focus (go_simp; (try simp (disch := omega) only [wrap_in, wrap_in', wrap_u16, wrap_u8, wrap_u32, wrap_u64, rem_in, quo_in]); first | done | with_reducible rfl | (constructor <;> with_reducible rfl))))
              | apply d_block
              | (apply d_true; (focus rfl); (focus rfl))
              | (apply d_false; (focus rfl); (focus rfl))
              | apply d_skip
              | apply d_exit
              | apply d_ret
              | with_reducible apply kt_ret
              | with_reducible apply kt_exit
              | with_reducible apply kb_normal
              | with_reducible apply kb_ret
              | with_reducible apply kb_here
              | with_reducible apply kl_ret
              | with_reducible apply kl_exit
              | with_reducible apply kc_ret
              | with_reducible apply kc_exit
              | (with_reducible apply kb_there; (focus rfl))
            refine l_call rfl rfl rfl (by first | (go_simp; done) | (go_simp; rfl)) (put_has HX.out 0 a az s rfl y.tote y.zone) ?_
            rintro e w' ⟨rfl, hx⟩
            clear HX
            try simp only [List.nil_append, List.cons_append, List.set_cons_zero, List.set_cons_succ] at hx
            have HX := Lib.hid hx
            clear hx
            refine ⟨_, rfl, ?_⟩
            repeat first
              | apply d_seq
              | with_reducible apply kt_normal
              | apply l_nil
              | apply d_region
              | (apply l_off; (focus rfl); (focus rfl))
              | (apply l_val; (focus rfl); (focus rfl); (focus rfl); (focus (go_simp; (try simp (disch := omega) only [wrap_in, wrap_in', wrap_u16, wrap_u8, wrap_u32, wrap_u64, rem_in, quo_in]); first | done | with_reducible rfl | (constructor <;> with_reducible rfl))))
              | (apply l_store; (focus rfl); (focus rfl); (focus rfl); (focus (go_simp; (try simp (disch := omega) only [wrap_in, wrap_in', wrap_u16, wrap_u8, wrap_u32, wrap_u64, rem_in, quo_in]); first | done | with_reducible rfl | (constructor <;> with_reducible rfl))))
              | apply d_block
              | (apply d_true; (focus rfl); (focus rfl))
              | (apply d_false; (focus rfl); (focus rfl))
              | apply d_skip
              | apply d_exit
              | apply d_ret
              | with_reducible apply kt_ret
              | with_reducible apply kt_exit
              | with_reducible apply kb_normal
              | with_reducible apply kb_ret
              | with_reducible apply kb_here
              | with_reducible apply kl_ret
              | with_reducible apply kl_exit
              | with_reducible apply kc_ret
              | with_reducible apply kc_exit
              | (with_reducible apply kb_there; (focus rfl))
            refine kc_normal _ (Subl.cons (t := 0) (by decide) rfl (Subl.cons (t := 1) (by decide) rfl (Subl.cons (t := 2) (by decide) rfl (Subl.cons (t := 7) (by decide) rfl (Subl.cons (t := 8) (by decide) rfl (Subl.cons (t := 9) (by decide) rfl (Subl.nil _ _))))))) ?_
            have hi := put_inv s HS.out.1 y.tote y.zone
            exact ⟨_, rfl, Lib.hid (HX.out.take 1), Lib.hid ⟨hi.1, hi.2.1.trans HS.out.2.1, hi.2.2.trans HS.out.2.2⟩⟩
          · rw [e1] at x0
            repeat first
              | apply d_seq
              | with_reducible apply kt_normal
              | apply l_nil
              | apply d_region
              | (apply l_off; (focus rfl); (focus rfl))
              | (apply l_val; (focus rfl); (focus rfl); (focus rfl); (focus (go_simp; (try simp (disch := omega) only [wrap_in, wrap_in', wrap_u16, wrap_u8, wrap_u32, wrap_u64, rem_in, quo_in]); first | done | with_reducible rfl | (constructor <;> with_reducible rfl))))
              | (apply l_store; (focus rfl); (focus rfl); (focus rfl); (focus (go_simp; (try simp (disch := omega) only [wrap_in, wrap_in', wrap_u16, wrap_u8, wrap_u32, wrap_u64, rem_in, quo_in]); first | done | with_reducible rfl | (constructor <;> with_reducible rfl))))
              | apply d_block
              | (apply d_true; (focus rfl); (focus rfl))
              | (apply d_false; (focus rfl); (focus rfl))
              | apply d_skip
              | apply d_exit
              | apply d_ret
              | with_reducible apply kt_ret
              | with_reducible apply kt_exit
              | with_reducible apply kb_normal
              | with_reducible apply kb_ret
              | with_reducible apply kb_here
              | with_reducible apply kl_ret
              | with_reducible apply kl_exit
              | with_reducible apply kc_ret
              | with_reducible apply kc_exit
              | (with_reducible apply kb_there; (focus rfl))
            refine l_call rfl rfl rfl (by first | (go_simp; done) | (go_simp; rfl)) (put_has HX.out 0 a az s rfl y.tote y.zone) ?_
            rintro e w' ⟨rfl, hx⟩
            clear HX
            try simp only [List.nil_append, List.cons_append, List.set_cons_zero, List.set_cons_succ] at hx
            have HX := Lib.hid hx
            clear hx
            refine ⟨_, rfl, ?_⟩
            repeat first
              | apply d_seq
              | with_reducible apply kt_normal
              | apply l_nil
              | apply d_region
              | (apply l_off; (focus rfl); (focus rfl))
              | (apply l_val; (focus rfl); (focus rfl); (focus rfl); (focus (go_simp; (try simp (disch := omega) only [wrap_in, wrap_in', wrap_u16, wrap_u8, wrap_u32, wrap_u64, rem_in, quo_in]); first | done | with_reducible rfl | (constructor <;> with_reducible rfl))))
              | (apply l_store; (focus rfl); (focus rfl); (focus rfl); (focus (go_simp; (try simp (disch := omega) only [wrap_in, wrap_in', wrap_u16, wrap_u8, wrap_u32, wrap_u64, rem_in, quo_in]); first | done | with_reducible rfl | (constructor <;> with_reducible rfl))))
              | apply d_block
              | (apply d_true; (focus rfl); (focus rfl))
              | (apply d_false; (focus rfl); (focus rfl))
              | apply d_skip
              | apply d_exit
              | apply d_ret
              | with_reducible apply kt_ret
              | with_reducible apply kt_exit
              | with_reducible apply kb_normal
              | with_reducible apply kb_ret
              | with_reducible apply kb_here
              | with_reducible apply kl_ret
              | with_reducible apply kl_exit
              | with_reducible apply kc_ret
              | with_reducible apply kc_exit
              | (with_reducible apply kb_there; (focus rfl))
            refine kc_normal _ (Subl.cons (t := 0) (by decide) rfl (Subl.cons (t := 1) (by decide) rfl (Subl.cons (t := 2) (by decide) rfl (Subl.cons (t := 7) (by decide) rfl (Subl.cons (t := 8) (by decide) rfl (Subl.cons (t := 9) (by decide) rfl (Subl.nil _ _))))))) ?_
            have hi := put_inv s HS.out.1 y.tote y.zone
            exact ⟨_, rfl, Lib.hid (HX.out.take 1), Lib.hid ⟨hi.1, hi.2.1.trans HS.out.2.1, hi.2.2.trans HS.out.2.2⟩⟩
          · rw [e1] at x0
            repeat first
              | apply d_seq
              | with_reducible apply kt_normal
              | apply l_nil
              | apply d_region
              | (apply l_off; (focus rfl); (focus rfl))
              | (apply l_val; (focus rfl); (focus rfl); (focus rfl); (focus (go_simp; (try simp (disch := omega) only [wrap_in, wrap_in', wrap_u16, wrap_u8, wrap_u32, wrap_u64, rem_in, quo_in]); first | done | with_reducible rfl | (constructor <;> with_reducible rfl))))
              | (apply l_store; (focus rfl); (focus rfl); (focus rfl); (focus (go_simp; (try simp (disch := omega) only [wrap_in, wrap_in', wrap_u16, wrap_u8, wrap_u32, wrap_u64, rem_in, quo_in]); first | done | with_reducible rfl | (constructor <;> with_reducible rfl))))
              | apply d_block
              | (apply d_true; (focus rfl); (focus rfl))
              | (apply d_false; (focus rfl); (focus rfl))
              | apply d_skip
              | apply d_exit
              | apply d_ret
              | with_reducible apply kt_ret
              | with_reducible apply kt_exit
              | with_reducible apply kb_normal
              | with_reducible apply kb_ret
              | with_reducible apply kb_here
              | with_reducible apply kl_ret
              | with_reducible apply kl_exit
              | with_reducible apply kc_ret
              | with_reducible apply kc_exit
              | (with_reducible apply kb_there; (focus rfl))
            refine l_call rfl rfl rfl (by first | (go_simp; done) | (go_simp; rfl)) (put_has HX.out 0 a az s rfl y.tote y.zone) ?_
            rintro e w' ⟨rfl, hx⟩
            clear HX
            try simp only [List.nil_append, List.cons_append, List.set_cons_zero, List.set_cons_succ] at hx
            have HX := Lib.hid hx
            clear hx
            refine ⟨_, rfl, ?_⟩
            repeat first
              | apply d_seq
              | with_reducible apply kt_normal
              | apply l_nil
              | apply d_region
              | (apply l_off; (focus rfl); (focus rfl))
              | (apply l_val; (focus rfl); (focus rfl); (focus rfl); (focus (go_simp; (try simp (disch := omega) only [wrap_in, wrap_in', wrap_u16, wrap_u8, wrap_u32, wrap_u64, rem_in, quo_in]); first | done | with_reducible rfl | (constructor <;> with_reducible rfl))))
              | (apply l_store; (focus rfl); (focus rfl); (focus rfl); (focus (go_simp; (try simp (disch := omega) only [wrap_in, wrap_in', wrap_u16, wrap_u8, wrap_u32, wrap_u64, rem_in, quo_in]); first | done | with_reducible rfl | (constructor <;> with_reducible rfl))))
              | apply d_block
              | (apply d_true; (focus rfl); (focus rfl))
              | (apply d_false; (focus rfl); (focus rfl))
              | apply d_skip
              | apply d_exit
              | apply d_ret
              | with_reducible apply kt_ret
              | with_reducible apply kt_exit
              | with_reducible apply kb_normal
              | with_reducible apply kb_ret
              | with_reducible apply kb_here
              | with_reducible apply kl_ret
              | with_reducible apply kl_exit
              | with_reducible apply kc_ret
              | with_reducible apply kc_exit
              | (with_reducible apply kb_there; (focus rfl))
            refine kc_normal _ (Subl.cons (t := 0) (by decide) rfl (Subl.cons (t := 1) (by decide) rfl (Subl.cons (t := 2) (by decide) rfl (Subl.cons (t := 7) (by decide) rfl (Subl.cons (t := 8) (by decide) rfl (Subl.cons (t := 9) (by decide) rfl (Subl.nil _ _))))))) ?_
            have hi := put_inv s HS.out.1 y.tote y.zone
            exact ⟨_, rfl, Lib.hid (HX.out.take 1), Lib.hid ⟨hi.1, hi.2.1.trans HS.out.2.1, hi.2.2.trans HS.out.2.2⟩⟩
          · rw [e1] at x0
            repeat first
              | apply d_seq
              | with_reducible apply kt_normal
              | apply l_nil
              | apply d_region
              | (apply l_off; (focus rfl); (focus rfl))
              | (apply l_val; (focus rfl); (focus rfl); (focus rfl); (focus (go_simp; (try simp (disch := omega) only [wrap_in, wrap_in', wrap_u16, wrap_u8, wrap_u32, wrap_u64, rem_in, quo_in]); first | done | with_reducible rfl | (constructor <;> with_reducible rfl))))
              | (apply l_store; (focus rfl); (focus rfl); (focus rfl); (focus (go_simp; (try simp (disch := omega) only [wrap_in, wrap_in', wrap_u16, wrap_u8, wrap_u32, wrap_u64, rem_in, quo_in]); first | done | with_reducible rfl | (constructor <;> with_reducible rfl))))
              | apply d_block
              | (apply d_true; (focus rfl); (focus rfl))
              | (apply d_false; (focus rfl); (focus rfl))
              | apply d_skip
              | apply d_exit
              | apply d_ret
              | with_reducible apply kt_ret
              | with_reducible apply kt_exit
              | with_reducible apply kb_normal
              | with_reducible apply kb_ret
              | with_reducible apply kb_here
              | with_reducible apply kl_ret
              | with_reducible apply kl_exit
              | with_reducible apply kc_ret
              | with_reducible apply kc_exit
              | (with_reducible apply kb_there; (focus rfl))
            refine l_call rfl rfl rfl (by first | (go_simp; done) | (go_simp; rfl)) (pass_has HX.out 0 a az s rfl y.zone) ?_
            rintro e w' ⟨rfl, hx⟩
            clear HX
            try simp only [List.nil_append, List.cons_append, List.set_cons_zero, List.set_cons_succ] at hx
            have HX := Lib.hid hx
            clear hx
            refine ⟨_, rfl, ?_⟩
            repeat first
              | apply d_seq
              | with_reducible apply kt_normal
              | apply l_nil
              | apply d_region
              | (apply l_off; (focus rfl); (focus rfl))
              | (apply l_val; (focus rfl); (focus rfl); (focus rfl); (focus (go_simp; (try simp (disch := omega) only [wrap_in, wrap_in', wrap_u16, wrap_u8, wrap_u32, wrap_u64, rem_in, quo_in]); first | done | with_reducible rfl | (constructor <;> with_reducible rfl))))
              | (apply l_store; (focus rfl); (focus rfl); (focus rfl); (focus (go_simp; (try simp (disch := omega) only [wrap_in, wrap_in', wrap_u16, wrap_u8, wrap_u32, wrap_u64, rem_in, quo_in]); first | done | with_reducible rfl | (constructor <;> with_reducible rfl))))
              | apply d_block
              | (apply d_true; (focus rfl); (focus rfl))
              | (apply d_false; (focus rfl); (focus rfl))
              | apply d_skip
              | apply d_exit
              | apply d_ret
              | with_reducible apply kt_ret
              | with_reducible apply kt_exit
              | with_reducible apply kb_normal
              | with_reducible apply kb_ret
              | with_reducible apply kb_here
              | with_reducible apply kl_ret
              | with_reducible apply kl_exit
              | with_reducible apply kc_ret
              | with_reducible apply kc_exit
              | (with_reducible apply kb_there; (focus rfl))
            refine kc_normal _ (Subl.cons (t := 0) (by decide) rfl (Subl.cons (t := 1) (by decide) rfl (Subl.cons (t := 2) (by decide) rfl (Subl.cons (t := 7) (by decide) rfl (Subl.cons (t := 8) (by decide) rfl (Subl.cons (t := 9) (by decide) rfl (Subl.nil _ _))))))) ?_
            have hi := pass_inv s HS.out.1 y.zone
            exact ⟨_, rfl, Lib.hid (HX.out.take 1), Lib.hid ⟨hi.1, hi.2.1.trans HS.out.2.1, hi.2.2.trans HS.out.2.2⟩⟩
          · rw [e1] at x0
            repeat first
              | apply d_seq
              | with_reducible apply kt_normal
              | apply l_nil
              | apply d_region
              | (apply l_off; (focus rfl); (focus rfl))
              | (apply l_val; (focus rfl); (focus rfl); (focus rfl); (focus (go_simp; (try simp (disch := omega) only [wrap_in, wrap_in', wrap_u16, wrap_u8, wrap_u32, wrap_u64, rem_in, quo_in]); first | done | with_reducible rfl | (constructor <;> with_reducible rfl))))
              | (apply l_store; (focus rfl); (focus rfl); (focus rfl); (focus (go_simp; (try simp (disch := omega) only [wrap_in, wrap_in', wrap_u16, wrap_u8, wrap_u32, wrap_u64, rem_in, quo_in]); first | done | with_reducible rfl | (constructor <;> with_reducible rfl))))
              | apply d_block
              | (apply d_true; (focus rfl); (focus rfl))
              | (apply d_false; (focus rfl); (focus rfl))
              | apply d_skip
              | apply d_exit
              | apply d_ret
              | with_reducible apply kt_ret
              | with_reducible apply kt_exit
              | with_reducible apply kb_normal
              | with_reducible apply kb_ret
              | with_reducible apply kb_here
              | with_reducible apply kl_ret
              | with_reducible apply kl_exit
              | with_reducible apply kc_ret
              | with_reducible apply kc_exit
              | (with_reducible apply kb_there; (focus rfl))
            refine l_call rfl rfl rfl (by first | (go_simp; done) | (go_simp; rfl)) (pass_has HX.out 0 a az s rfl y.zone) ?_
            rintro e w' ⟨rfl, hx⟩
            clear HX
            try simp only [List.nil_append, List.cons_append, List.set_cons_zero, List.set_cons_succ] at hx
            have HX := Lib.hid hx
            clear hx
            refine ⟨_, rfl, ?_⟩
            repeat first
              | apply d_seq
              | with_reducible apply kt_normal
              | apply l_nil
              | apply d_region
              | (apply l_off; (focus rfl); (focus rfl))
              | (apply l_val; (focus rfl); (focus rfl); (focus rfl); (focus (go_simp; (try simp (disch := omega) only [wrap_in, wrap_in', wrap_u16, wrap_u8, wrap_u32, wrap_u64, rem_in, quo_in]); first | done | with_reducible rfl | (constructor <;> with_reducible rfl))))
              | (apply l_store; (focus rfl); (focus rfl); (focus rfl); (focus (go_simp; (try simp (disch := omega) only [wrap_in, wrap_in', wrap_u16, wrap_u8, wrap_u32, wrap_u64, rem_in, quo_in]); first | done | with_reducible rfl | (constructor <;> with_reducible rfl))))
              | apply d_block
              | (apply d_true; (focus rfl); (focus rfl))
              | (apply d_false; (focus rfl); (focus rfl))
              | apply d_skip
              | apply d_exit
              | apply d_ret
              | with_reducible apply kt_ret
              | with_reducible apply kt_exit
              | with_reducible apply kb_normal
              | with_reducible apply kb_ret
              | with_reducible apply kb_here
              | with_reducible apply kl_ret
              | with_reducible apply kl_exit
              | with_reducible apply kc_ret
              | with_reducible apply kc_exit
              | (with_reducible apply kb_there; (focus rfl))
            refine kc_normal _ (Subl.cons (t := 0) (by decide) rfl (Subl.cons (t := 1) (by decide) rfl (Subl.cons (t := 2) (by decide) rfl (Subl.cons (t := 7) (by decide) rfl (Subl.cons (t := 8) (by decide) rfl (Subl.cons (t := 9) (by decide) rfl (Subl.nil _ _))))))) ?_
            have hi := pass_inv s HS.out.1 y.zone
            exact ⟨_, rfl, Lib.hid (HX.out.take 1), Lib.hid ⟨hi.1, hi.2.1.trans HS.out.2.1, hi.2.2.trans HS.out.2.2⟩⟩
          · rw [e1] at x0
            repeat first
              | apply d_seq
              | with_reducible apply kt_normal
              | apply l_nil
              | apply d_region
              | (apply l_off; (focus rfl); (focus rfl))
              | (apply l_val; (focus rfl); (focus rfl); (focus rfl); (focus (go_simp; (try simp (disch := omega) only [wrap_in, wrap_in', wrap_u16, wrap_u8, wrap_u32, wrap_u64, rem_in, quo_in]); first | done | with_reducible rfl | (constructor <;> with_reducible rfl))))
              | (apply l_store; (focus rfl); (focus rfl); (focus rfl); (focus (go_simp; (try simp (disch := omega) only [wrap_in, wrap_in', wrap_u16, wrap_u8, wrap_u32, wrap_u64, rem_in, quo_in]); first | done | with_reducible rfl | (constructor <;> with_reducible rfl))))
              | apply d_block
              | (apply d_true; (focus rfl); (focus rfl))
              | (apply d_false; (focus rfl); (focus rfl))
              | apply d_skip
              | apply d_exit
              | apply d_ret
              | with_reducible apply kt_ret
              | with_reducible apply kt_exit
              | with_reducible apply kb_normal
              | with_reducible apply kb_ret
              | with_reducible apply kb_here
              | with_reducible apply kl_ret
              | with_reducible apply kl_exit
              | with_reducible apply kc_ret
              | with_reducible apply kc_exit
              | (with_reducible apply kb_there; (focus rfl))
            refine l_call rfl rfl rfl (by first | (go_simp; done) | (go_simp; rfl)) (skip_has HX.out 0 a az s rfl y.zone) ?_
            rintro e w' ⟨rfl, hx⟩
            clear HX
            try simp only [List.nil_append, List.cons_append, List.set_cons_zero, List.set_cons_succ] at hx
            have HX := Lib.hid hx
            clear hx
            refine ⟨_, rfl, ?_⟩
            repeat first
              | apply d_seq
              | with_reducible apply kt_normal
              | apply l_nil
              | apply d_region
              | (apply l_off; (focus rfl); (focus rfl))
              | (apply l_val; (focus rfl); (focus rfl); (focus rfl); (focus (go_simp; (try simp (disch := omega) only [wrap_in, wrap_in', wrap_u16, wrap_u8, wrap_u32, wrap_u64, rem_in, quo_in]); first | done | with_reducible rfl | (constructor <;> with_reducible rfl))))
              | (apply l_store; (focus rfl); (focus rfl); (focus rfl); (focus (go_simp; (try simp (disch := omega) only [wrap_in, wrap_in', wrap_u16, wrap_u8, wrap_u32, wrap_u64, rem_in, quo_in]); first | done | with_reducible rfl | (constructor <;> with_reducible rfl))))
              | apply d_block
              | (apply d_true; (focus rfl); (focus rfl))
              | (apply d_false; (focus rfl); (focus rfl))
              | apply d_skip
              | apply d_exit
              | apply d_ret
              | with_reducible apply kt_ret
              | with_reducible apply kt_exit
              | with_reducible apply kb_normal
              | with_reducible apply kb_ret
              | with_reducible apply kb_here
              | with_reducible apply kl_ret
              | with_reducible apply kl_exit
              | with_reducible apply kc_ret
              | with_reducible apply kc_exit
              | (with_reducible apply kb_there; (focus rfl))
            refine kc_normal _ (Subl.cons (t := 0) (by decide) rfl (Subl.cons (t := 1) (by decide) rfl (Subl.cons (t := 2) (by decide) rfl (Subl.cons (t := 7) (by decide) rfl (Subl.cons (t := 8) (by decide) rfl (Subl.cons (t := 9) (by decide) rfl (Subl.nil _ _))))))) ?_
            have hi := skip_inv s HS.out.1 y.zone
            exact ⟨_, rfl, Lib.hid (HX.out.take 1), Lib.hid ⟨hi.1, hi.2.1.trans HS.out.2.1, hi.2.2.trans HS.out.2.2⟩⟩
          · obtain ⟨d1, d2, d3, d4, d5, d6⟩ := e1
            have q1 : (y.kind == 1) = false := by simpa using d1
            have q2 : (y.kind == 2) = false := by simpa using d2
            have q3 : (y.kind == 3) = false := by simpa using d3
            have q4 : (y.kind == 4) = false := by simpa using d4
            have q5 : (y.kind == 5) = false := by simpa using d5
            have q6 : (y.kind == 6) = false := by simpa using d6
            repeat first
              | apply d_seq
              | with_reducible apply kt_normal
              | apply l_nil
              | apply d_region
              | (apply l_off; (focus rfl); (focus rfl))
              | (apply l_val; (focus rfl); (focus rfl); (focus rfl); (focus (go_simp; (try simp (disch := omega) only [wrap_in, wrap_in', wrap_u16, wrap_u8, wrap_u32, wrap_u64, rem_in, quo_in]); first | done | with_reducible rfl | (constructor <;> with_reducible rfl))))
              | (apply l_store; (focus rfl); (focus rfl); (focus rfl); (focus (go_simp; (try simp (disch := omega) only [wrap_in, wrap_in', wrap_u16, wrap_u8, wrap_u32, wrap_u64, rem_in, quo_in]); first | done | with_reducible rfl | (constructor <;> with_reducible rfl))))
              | apply d_block
              | (apply d_true; (focus rfl); (focus rfl))
              | (apply d_false; (focus rfl); (focus rfl))
              | apply d_skip
              | apply d_exit
              | apply d_ret
              | with_reducible apply kt_ret
              | with_reducible apply kt_exit
              | with_reducible apply kb_normal
              | with_reducible apply kb_ret
              | with_reducible apply kb_here
              | with_reducible apply kl_ret
              | with_reducible apply kl_exit
              | with_reducible apply kc_ret
              | with_reducible apply kc_exit
              | (with_reducible apply kb_there; (focus rfl))
            refine kc_normal _ (Subl.cons (t := 0) (by decide) rfl (Subl.cons (t := 1) (by decide) rfl (Subl.cons (t := 2) (by decide) rfl (Subl.cons (t := 7) (by decide) rfl (Subl.cons (t := 8) (by decide) rfl (Subl.cons (t := 9) (by decide) rfl (Subl.nil _ _))))))) ?_
            exact ⟨s, rfl, Lib.hid (HX.out.take 1), HS⟩
        · clear HX HS x0 x1 x2
          obtain ⟨s, rfl, HX, HS⟩ := hcut
          have hx := HX.out.new (Keep.refl none_ _) (P := OwnA w.heap.size 30 1 (.slice none 0 0) 0 (ints .u16 (s.upTo (-1)))) (by show Own _ _ _ _ _ _ (ints .u16 (s.upTo (-1))); rw [show s.upTo (-1) = [] from rfl]; exact Own.nil _ _ _ _)
          simp only [List.nil_append, List.cons_append] at hx
          clear HX
          have HX := Lib.hid hx
          clear hx
          have hg := HX.out.tgood (i := 0) rfl
          have hg8 := hg.n8
          have hgr := hg.r64
          have HG := Lib.hid hg
          clear hg
          repeat first
            | apply d_seq
            | with_reducible apply kt_normal
            | apply l_nil
            | apply d_region
            | (apply l_off; (focus rfl); (focus rfl))
            | (apply l_val; (focus rfl); (focus rfl); (focus rfl); (focus (go_simp; (try simp (disch := omega) only [wrap_in, wrap_in', wrap_u16, wrap_u8, wrap_u32, wrap_u64, rem_in, quo_in]); first | done | with_reducible rfl | (constructor <;> with_reducible rfl))))
            | (apply l_store; (focus rfl); (focus rfl); (focus rfl); (focus (go_simp; (try simp (disch := omega) only [wrap_in, wrap_in', wrap_u16, wrap_u8, wrap_u32, wrap_u64, rem_in, quo_in]); first | done | with_reducible rfl | (constructor <;> with_reducible rfl))))
            | ((fail_if_success (with_reducible apply d_block (id := 3))); apply d_block)
            | (apply d_true; (focus rfl); (focus rfl))
            | (apply d_false; (focus rfl); (focus rfl))
            | apply d_skip
            | apply d_exit
            | apply d_ret
            | with_reducible apply kt_ret
            | with_reducible apply kt_exit
            | with_reducible apply kb_normal
            | with_reducible apply kb_ret
            | with_reducible apply kb_here
            | with_reducible apply kl_ret
            | with_reducible apply kl_exit
            | with_reducible apply kc_ret
            | with_reducible apply kc_exit
            | (with_reducible apply kb_there; (focus rfl))
          refine d_join (fun D wr => ∃ (A : Option Addr) (c : Nat), D = [(0, .int .i64 zn), (1, .int .i64 rm), (2, .slice (some ⟨g, o, none⟩) l0.length cq0), (7, .bool true), (8, .pointer (some ⟨a, 0, none⟩)), (9, .int .i64 k), (11, .slice A (s.upTo 9).length c)] ∧ (s.upTo 9).length ≤ c ∧ c ≤ 9223372036854775807 ∧ Hid (Has w wr [TotA w.heap.size a az s, OwnA w.heap.size 30 1 (.slice A (s.upTo 9).length c) (s.upTo 9).length (ints .u16 (s.upTo 9))])) ?_ (fun D wr hcut => ?_)
          · repeat first
              | apply d_seq
              | with_reducible apply kt_normal
              | apply l_nil
              | apply d_region
              | (apply l_off; (focus rfl); (focus rfl))
              | (apply l_val; (focus rfl); (focus rfl); (focus rfl); (focus (go_simp; (try simp (disch := omega) only [wrap_in, wrap_in', wrap_u16, wrap_u8, wrap_u32, wrap_u64, rem_in, quo_in]); first | done | with_reducible rfl | (constructor <;> with_reducible rfl))))
              | (apply l_store; (focus rfl); (focus rfl); (focus rfl); (focus (go_simp; (try simp (disch := omega) only [wrap_in, wrap_in', wrap_u16, wrap_u8, wrap_u32, wrap_u64, rem_in, quo_in]); first | done | with_reducible rfl | (constructor <;> with_reducible rfl))))
              | apply d_block
              | (apply d_true; (focus rfl); (focus rfl))
              | (apply d_false; (focus rfl); (focus rfl))
              | apply d_skip
              | apply d_exit
              | apply d_ret
              | with_reducible apply kt_ret
              | with_reducible apply kt_exit
              | with_reducible apply kb_normal
              | with_reducible apply kb_ret
              | with_reducible apply kb_here
              | with_reducible apply kl_ret
              | with_reducible apply kl_exit
              | with_reducible apply kc_ret
              | with_reducible apply kc_exit
              | (with_reducible apply kb_there; (focus rfl))
            refine d_loop (fun m D wr => ∃ (z : Int) (A : Option Addr) (c : Nat), m = (9 - z).toNat ∧ -1 ≤ z ∧ z ≤ 9 ∧ D = [(0, .int .i64 zn), (1, .int .i64 rm), (2, .slice (some ⟨g, o, none⟩) l0.length cq0), (7, .bool true), (8, .pointer (some ⟨a, 0, none⟩)), (9, .int .i64 k), (11, .slice A (s.upTo z).length c), (12, .int .i64 z)] ∧ (s.upTo z).length ≤ c ∧ c ≤ 9223372036854775807 ∧ Hid (Has w wr [TotA w.heap.size a az s, OwnA w.heap.size 30 1 (.slice A (s.upTo z).length c) (s.upTo z).length (ints .u16 (s.upTo z))])) (10) _ (Subl.cons (t := 0) (by decide) rfl (Subl.cons (t := 1) (by decide) rfl (Subl.cons (t := 2) (by decide) rfl (Subl.cons (t := 7) (by decide) rfl (Subl.cons (t := 8) (by decide) rfl (Subl.cons (t := 9) (by decide) rfl (Subl.cons (t := 11) (by decide) rfl (Subl.cons (t := 12) (by decide) rfl (Subl.nil _ _))))))))) ?_ (fun m D wr hrel => ?_)
            · exact ⟨-1, none, 0, rfl, by omega, by omega, rfl, by simp [TS.upTo], by omega, HX⟩
            · clear HX
              obtain ⟨z, A, c, rfl, hz1, hz2, rfl, hA1, hA2, HX⟩ := hrel
              by_cases hz9 : z < 9
              · repeat first
                  | apply d_seq
                  | with_reducible apply kt_normal
                  | apply l_nil
                  | apply d_region
                  | (apply l_off; (focus rfl); (focus rfl))
                  | (apply l_val; (focus rfl); (focus rfl); (focus rfl); (focus (go_simp; (try simp (disch := omega) only [wrap_in, wrap_in', wrap_u16, wrap_u8, wrap_u32, wrap_u64, rem_in, quo_in]); first | done | with_reducible rfl | (constructor <;> with_reducible rfl))))
                  | (apply l_store; (focus rfl); (focus rfl); (focus rfl); (focus (go_simp; (try simp (disch := omega) only [wrap_in, wrap_in', wrap_u16, wrap_u8, wrap_u32, wrap_u64, rem_in, quo_in]); first | done | with_reducible rfl | (constructor <;> with_reducible rfl))))
                  | apply d_block
                  | (apply d_true; (focus rfl); (focus rfl))
                  | (apply d_false; (focus rfl); (focus rfl))
                  | apply d_skip
                  | apply d_exit
                  | apply d_ret
                  | with_reducible apply kt_ret
                  | with_reducible apply kt_exit
                  | with_reducible apply kb_normal
                  | with_reducible apply kb_ret
                  | with_reducible apply kb_here
                  | with_reducible apply kl_ret
                  | with_reducible apply kl_exit
                  | with_reducible apply kc_ret
                  | with_reducible apply kc_exit
                  | (with_reducible apply kb_there; (focus rfl))
                have hrl := rowZ_len s HG.out z
                refine l_call rfl rfl rfl (by first | (go_simp; done) | (go_simp; rfl)) (row_has HX.out 0 a az s rfl z) ?_
                rintro e w' ⟨A2, c2, rfl, hr1, hr2, hx⟩
                clear HX
                simp only [List.cons_append, List.nil_append] at hx
                have HX := Lib.hid hx
                clear hx
                have hroom := HS.out.2.1
                have hnn := HS.out.2.2
                have hwh : ∀ x ∈ s.rowZ z, s.whereV x = .tuple #[.int .i64 z, .bool true] := fun x hx => rowZ_where s HS.out.1 hx
                have hup := upTo_next s hz1
                have hul : (s.upTo z).length ≤ 512 := by
                  have h1 : ∀ (l : List (List Int)), (∀ q ∈ l, q.length ≤ 64) → l.flatten.length ≤ l.length * 64 := by
                    intro l
                    induction l with
                    | nil => simp
                    | cons q l ih =>
                      intro h
                      have h2 := h q (List.mem_cons_self ..)
                      have h3 := ih (fun p hp => h p (List.mem_cons_of_mem _ hp))
                      rw [List.flatten_cons, List.length_append, List.length_cons]; omega
                  have h4 := h1 (s.qs.take z.toNat) (fun q hq => by have := HG.out.q q (List.mem_of_mem_take hq); omega)
                  have h5 : (s.qs.take z.toNat).length ≤ 8 := by rw [List.length_take]; omega
                  unfold TS.upTo; omega
                generalize s.rowZ z = row at *
                have u0 : row.length ≤ r := by
                  have h1 := hrl.1
                  rw [hroom] at h1
                  exact Int.ofNat_le.1 h1
                have u1 : decide ((row.length : Int) > r) = false := by simp; exact u0
                have u2 : decide ((r : Int) < row.length) = false := by simp; exact u0
                have u9 : decide (r < row.length) = false := decide_eq_false (by omega)
                have hul2 : row.length ≤ 64 := Nat.le_trans u0 hr64
                have HROOM := Lib.hid hroom
                have HNN := Lib.hid hnn
                have HWH := Lib.hid hwh
                have HUP := Lib.hid hup
                have HUL := Lib.hid hul
                clear hroom hnn hwh hup hul
                refine ⟨_, rfl, ?_⟩
                have hcases : row.length = 0 ∨ (0 < row.length ∧ 0 ≤ z ∧ z < n) := by have := HNN.out; omega
                rcases hcases with f1 | ⟨f1, f2, f3⟩
                focus
                  have u3 : decide ((row.length : Int) > 0) = false := decide_eq_false (by omega)
                  have u4 : decide (0 < (row.length : Int)) = false := decide_eq_false (by omega)
                  have u5 : decide (0 < row.length) = false := decide_eq_false (by omega)
                  have f1' := Lib.hid f1
                  clear f1
                  repeat first
                    | apply d_seq
                    | with_reducible apply kt_normal
                    | apply l_nil
                    | apply d_region
                    | (apply l_off; (focus rfl); (focus rfl))
                    | (apply l_val; (focus rfl); (focus rfl); (focus rfl); (focus (go_simp; (try simp (disch := omega) only [wrap_in, wrap_in', wrap_u16, wrap_u8, wrap_u32, wrap_u64, rem_in, quo_in]); first | done | with_reducible rfl | (constructor <;> with_reducible rfl))))
                    | (apply l_store; (focus rfl); (focus rfl); (focus rfl); (focus (go_simp; (try simp (disch := omega) only [wrap_in, wrap_in', wrap_u16, wrap_u8, wrap_u32, wrap_u64, rem_in, quo_in]); first | done | with_reducible rfl | (constructor <;> with_reducible rfl))))
                    | apply d_block
                    | (apply d_true; (focus rfl); (focus rfl))
                    | (apply d_false; (focus rfl); (focus rfl))
                    | apply d_skip
                    | apply d_exit
                    | apply d_ret
                    | with_reducible apply kt_ret
                    | with_reducible apply kt_exit
                    | with_reducible apply kb_normal
                    | with_reducible apply kb_ret
                    | with_reducible apply kb_here
                    | with_reducible apply kl_ret
                    | with_reducible apply kl_exit
                    | with_reducible apply kc_ret
                    | with_reducible apply kc_exit
                    | (with_reducible apply kb_there; (focus rfl))
                  clear u3 u4 u5
                rotate_left
                focus
                  have u3 : decide ((row.length : Int) > 0) = true := decide_eq_true (by omega)
                  have u4 : decide (0 < (row.length : Int)) = true := decide_eq_true (by omega)
                  have u5 : decide (0 < row.length) = true := decide_eq_true (by omega)
                  have u6 : decide (z < 0) = false := decide_eq_false (by omega)
                  have u7 : decide (z ≥ n) = false := decide_eq_false (by omega)
                  have u8 : decide ((n : Int) ≤ z) = false := decide_eq_false (by omega)
                  have f1' := Lib.hid f1
                  clear f1
                  repeat first
                    | apply d_seq
                    | with_reducible apply kt_normal
                    | apply l_nil
                    | apply d_region
                    | (apply l_off; (focus rfl); (focus rfl))
                    | (apply l_val; (focus rfl); (focus rfl); (focus rfl); (focus (go_simp; (try simp (disch := omega) only [wrap_in, wrap_in', wrap_u16, wrap_u8, wrap_u32, wrap_u64, rem_in, quo_in]); first | done | with_reducible rfl | (constructor <;> with_reducible rfl))))
                    | (apply l_store; (focus rfl); (focus rfl); (focus rfl); (focus (go_simp; (try simp (disch := omega) only [wrap_in, wrap_in', wrap_u16, wrap_u8, wrap_u32, wrap_u64, rem_in, quo_in]); first | done | with_reducible rfl | (constructor <;> with_reducible rfl))))
                    | apply d_block
                    | (apply d_true; (focus rfl); (focus rfl))
                    | (apply d_false; (focus rfl); (focus rfl))
                    | apply d_skip
                    | apply d_exit
                    | apply d_ret
                    | with_reducible apply kt_ret
                    | with_reducible apply kt_exit
                    | with_reducible apply kb_normal
                    | with_reducible apply kb_ret
                    | with_reducible apply kb_here
                    | with_reducible apply kl_ret
                    | with_reducible apply kl_exit
                    | with_reducible apply kc_ret
                    | with_reducible apply kc_exit
                    | (with_reducible apply kb_there; (focus rfl))
                  clear u3 u4 u5 u6 u7 u8 f2 f3
                all_goals
                  refine d_loop (fun m D wr => ∃ (q : Nat), m = row.length - q ∧ q ≤ row.length ∧ D = [(0, .int .i64 zn), (1, .int .i64 rm), (2, .slice (some ⟨g, o, none⟩) l0.length cq0), (7, .bool true), (8, .pointer (some ⟨a, 0, none⟩)), (9, .int .i64 k), (11, .slice A (s.upTo z).length c), (12, .int .i64 z), (13, .slice A2 row.length c2), (14, .int .i64 q)] ∧ Hid (Has w wr [TotA w.heap.size a az s, OwnA w.heap.size 30 1 (.slice A (s.upTo z).length c) (s.upTo z).length (ints .u16 (s.upTo z)), OwnA w.heap.size 30 1 (.slice A2 row.length c2) row.length (ints .u16 row)])) (row.length) _ (Subl.cons (t := 0) (by decide) rfl (Subl.cons (t := 1) (by decide) rfl (Subl.cons (t := 2) (by decide) rfl (Subl.cons (t := 7) (by decide) rfl (Subl.cons (t := 8) (by decide) rfl (Subl.cons (t := 9) (by decide) rfl (Subl.cons (t := 11) (by decide) rfl (Subl.cons (t := 12) (by decide) rfl (Subl.cons (t := 13) (by decide) rfl (Subl.cons (t := 14) (by decide) rfl (Subl.nil _ _))))))))))) ?_ (fun m D wr hrel => ?_)
                  · exact ⟨0, rfl, Nat.zero_le _, rfl, HX⟩
                  · clear HX
                    obtain ⟨q, rfl, hq, rfl, HX⟩ := hrel
                    by_cases hlq : q < row.length
                    · obtain ⟨v, hv⟩ : ∃ v, row[q]? = some v := ⟨_, List.getElem?_eq_getElem hlq⟩
                      obtain ⟨g2, o2, cp2, e1, hq3, hq4, -, d0⟩ := HX.out.num (i := 2) rfl rfl hv
                      simp only [Value.slice.injEq, true_and] at e1
                      obtain ⟨rfl, rfl⟩ := e1
                      have hw := HWH.out v (List.mem_of_getElem? hv)
                      have HV := Lib.hid hv
                      clear hv
                      repeat first
                        | apply d_seq
                        | with_reducible apply kt_normal
                        | apply l_nil
                        | apply d_region
                        | (apply l_off; (focus rfl); (focus rfl))
                        | (apply l_val; (focus rfl); (focus rfl); (focus rfl); (focus (go_simp; (try simp (disch := omega) only [wrap_in, wrap_in', wrap_u16, wrap_u8, wrap_u32, wrap_u64, rem_in, quo_in]); first | done | with_reducible rfl | (constructor <;> with_reducible rfl))))
                        | (apply l_store; (focus rfl); (focus rfl); (focus rfl); (focus (go_simp; (try simp (disch := omega) only [wrap_in, wrap_in', wrap_u16, wrap_u8, wrap_u32, wrap_u64, rem_in, quo_in]); first | done | with_reducible rfl | (constructor <;> with_reducible rfl))))
                        | apply d_block
                        | (apply d_true; (focus rfl); (focus rfl))
                        | (apply d_false; (focus rfl); (focus rfl))
                        | apply d_skip
                        | apply d_exit
                        | apply d_ret
                        | with_reducible apply kt_ret
                        | with_reducible apply kt_exit
                        | with_reducible apply kb_normal
                        | with_reducible apply kb_ret
                        | with_reducible apply kb_here
                        | with_reducible apply kl_ret
                        | with_reducible apply kl_exit
                        | with_reducible apply kc_ret
                        | with_reducible apply kc_exit
                        | (with_reducible apply kb_there; (focus rfl))
                      have hc := where_has HX.out 0 a az s rfl v
                      rw [hw] at hc
                      have HC := Lib.hid hc
                      clear hc
                      refine l_call rfl rfl rfl (by first | (go_simp; done) | (go_simp; rfl)) (HC.out) ?_
                      rintro e w' ⟨rfl, hx⟩
                      clear HX HC
                      try simp only [List.nil_append, List.cons_append, List.set_cons_zero, List.set_cons_succ] at hx
                      have HX := Lib.hid hx
                      clear hx
                      refine ⟨_, rfl, ?_⟩
                      repeat first
                        | apply d_seq
                        | with_reducible apply kt_normal
                        | apply l_nil
                        | apply d_region
                        | (apply l_off; (focus rfl); (focus rfl))
                        | (apply l_val; (focus rfl); (focus rfl); (focus rfl); (focus (go_simp; (try simp (disch := omega) only [wrap_in, wrap_in', wrap_u16, wrap_u8, wrap_u32, wrap_u64, rem_in, quo_in]); first | done | with_reducible rfl | (constructor <;> with_reducible rfl))))
                        | (apply l_store; (focus rfl); (focus rfl); (focus rfl); (focus (go_simp; (try simp (disch := omega) only [wrap_in, wrap_in', wrap_u16, wrap_u8, wrap_u32, wrap_u64, rem_in, quo_in]); first | done | with_reducible rfl | (constructor <;> with_reducible rfl))))
                        | apply d_block
                        | (apply d_true; (focus rfl); (focus rfl))
                        | (apply d_false; (focus rfl); (focus rfl))
                        | apply d_skip
                        | apply d_exit
                        | apply d_ret
                        | with_reducible apply kt_ret
                        | with_reducible apply kt_exit
                        | with_reducible apply kb_normal
                        | with_reducible apply kb_ret
                        | with_reducible apply kb_here
                        | with_reducible apply kl_ret
                        | with_reducible apply kl_exit
                        | with_reducible apply kc_ret
                        | with_reducible apply kc_exit
                        | (with_reducible apply kb_there; (focus rfl))
                      refine kl_normal (row.length - (q + 1)) _ (by omega) (Subl.cons (t := 0) (by decide) rfl (Subl.cons (t := 1) (by decide) rfl (Subl.cons (t := 2) (by decide) rfl (Subl.cons (t := 7) (by decide) rfl (Subl.cons (t := 8) (by decide) rfl (Subl.cons (t := 9) (by decide) rfl (Subl.cons (t := 11) (by decide) rfl (Subl.cons (t := 12) (by decide) rfl (Subl.cons (t := 13) (by decide) rfl (Subl.cons (t := 14) (by decide) rfl (Subl.nil _ _))))))))))) ?_
                      exact ⟨q + 1, rfl, by omega, rfl, HX⟩
                    · obtain ⟨i0, hi0, hy0, hy1, hy2⟩ := info_parts Try.infoU16
                      obtain ⟨A4, c4, w4, hrun, hc1, hc2, hx⟩ := HX.out.append (P := Try.prog) (k := 1) (j := 2) rfl rfl (by decide) 38 i0 _ 2 Try.underlying38 hi0 hy0 hy1 hy2 rfl (by decide) (by have := HUL.out; unfold maxLen; omega) (by have := HUL.out; omega) 38
                      simp only [List.set_cons_zero, List.set_cons_succ] at hx
                      have hint : ints .u16 (s.upTo z) ++ ints .u16 row = ints .u16 (s.upTo (z + 1)) := by rw [HUP.out]; simp [ints]
                      have hlen : (s.upTo z).length + row.length = (s.upTo (z + 1)).length := by rw [HUP.out]; simp
                      rw [hint, hlen] at hx
                      rw [hlen] at hrun hc1
                      have HRUN := Lib.hid hrun
                      have HINT := Lib.hid hint
                      have HLEN := Lib.hid hlen
                      clear hrun hint hlen
                      repeat first
                        | apply d_seq
                        | with_reducible apply kt_normal
                        | apply l_nil
                        | apply d_region
                        | (apply l_off; (focus rfl); (focus rfl))
                        | (apply l_val; (focus rfl); (focus rfl); (focus rfl); (focus (go_simp; (try simp (disch := omega) only [wrap_in, wrap_in', wrap_u16, wrap_u8, wrap_u32, wrap_u64, rem_in, quo_in]); first | done | with_reducible rfl | (constructor <;> with_reducible rfl))))
                        | (apply l_store; (focus rfl); (focus rfl); (focus rfl); (focus (go_simp; (try simp (disch := omega) only [wrap_in, wrap_in', wrap_u16, wrap_u8, wrap_u32, wrap_u64, rem_in, quo_in]); first | done | with_reducible rfl | (constructor <;> with_reducible rfl))))
                        | apply d_block
                        | (apply d_true; (focus rfl); (focus rfl))
                        | (apply d_false; (focus rfl); (focus rfl))
                        | apply d_skip
                        | apply d_exit
                        | apply d_ret
                        | with_reducible apply kt_ret
                        | with_reducible apply kt_exit
                        | with_reducible apply kb_normal
                        | with_reducible apply kb_ret
                        | with_reducible apply kb_here
                        | with_reducible apply kl_ret
                        | with_reducible apply kl_exit
                        | with_reducible apply kc_ret
                        | with_reducible apply kc_exit
                        | (with_reducible apply kb_there; (focus rfl))
                      refine l_val rfl rfl rfl (exec_append (.tmp 115) (.tmp 116) 38 rfl _ _ rfl rfl HRUN.out) ?_
                      clear HX
                      have HX := Lib.hid hx
                      clear hx
                      repeat first
                        | apply d_seq
                        | with_reducible apply kt_normal
                        | apply l_nil
                        | apply d_region
                        | (apply l_off; (focus rfl); (focus rfl))
                        | (apply l_val; (focus rfl); (focus rfl); (focus rfl); (focus (go_simp; (try simp (disch := omega) only [wrap_in, wrap_in', wrap_u16, wrap_u8, wrap_u32, wrap_u64, rem_in, quo_in]); first | done | with_reducible rfl | (constructor <;> with_reducible rfl))))
                        | (apply l_store; (focus rfl); (focus rfl); (focus rfl); (focus (go_simp; (try simp (disch := omega) only [wrap_in, wrap_in', wrap_u16, wrap_u8, wrap_u32, wrap_u64, rem_in, quo_in]); first | done | with_reducible rfl | (constructor <;> with_reducible rfl))))
                        | apply d_block
                        | (apply d_true; (focus rfl); (focus rfl))
                        | (apply d_false; (focus rfl); (focus rfl))
                        | apply d_skip
                        | apply d_exit
                        | apply d_ret
                        | with_reducible apply kt_ret
                        | with_reducible apply kt_exit
                        | with_reducible apply kb_normal
                        | with_reducible apply kb_ret
                        | with_reducible apply kb_here
                        | with_reducible apply kl_ret
                        | with_reducible apply kl_exit
                        | with_reducible apply kc_ret
                        | with_reducible apply kc_exit
                        | (with_reducible apply kb_there; (focus rfl))
                      refine kl_normal ((9 - (z + 1)).toNat) _ (by omega) (Subl.cons (t := 0) (by decide) rfl (Subl.cons (t := 1) (by decide) rfl (Subl.cons (t := 2) (by decide) rfl (Subl.cons (t := 7) (by decide) rfl (Subl.cons (t := 8) (by decide) rfl (Subl.cons (t := 9) (by decide) rfl (Subl.cons (t := 11) (by decide) rfl (Subl.cons (t := 12) (by decide) rfl (Subl.nil _ _))))))))) ?_
                      exact ⟨z + 1, A4, c4, rfl, by omega, by omega, rfl, hc1, hc2, Lib.hid (HX.out.take 2)⟩
              · obtain rfl : z = 9 := by omega
                repeat first
                  | apply d_seq
                  | with_reducible apply kt_normal
                  | apply l_nil
                  | apply d_region
                  | (apply l_off; (focus rfl); (focus rfl))
                  | (apply l_val; (focus rfl); (focus rfl); (focus rfl); (focus (go_simp; (try simp (disch := omega) only [wrap_in, wrap_in', wrap_u16, wrap_u8, wrap_u32, wrap_u64, rem_in, quo_in]); first | done | with_reducible rfl | (constructor <;> with_reducible rfl))))
                  | (apply l_store; (focus rfl); (focus rfl); (focus rfl); (focus (go_simp; (try simp (disch := omega) only [wrap_in, wrap_in', wrap_u16, wrap_u8, wrap_u32, wrap_u64, rem_in, quo_in]); first | done | with_reducible rfl | (constructor <;> with_reducible rfl))))
                  | apply d_block
                  | (apply d_true; (focus rfl); (focus rfl))
                  | (apply d_false; (focus rfl); (focus rfl))
                  | apply d_skip
                  | apply d_exit
                  | apply d_ret
                  | with_reducible apply kt_ret
                  | with_reducible apply kt_exit
                  | with_reducible apply kb_normal
                  | with_reducible apply kb_ret
                  | with_reducible apply kb_here
                  | with_reducible apply kl_ret
                  | with_reducible apply kl_exit
                  | with_reducible apply kc_ret
                  | with_reducible apply kc_exit
                  | (with_reducible apply kb_there; (focus rfl))
                refine kc_normal _ (Subl.cons (t := 0) (by decide) rfl (Subl.cons (t := 1) (by decide) rfl (Subl.cons (t := 2) (by decide) rfl (Subl.cons (t := 7) (by decide) rfl (Subl.cons (t := 8) (by decide) rfl (Subl.cons (t := 9) (by decide) rfl (Subl.cons (t := 11) (by decide) rfl (Subl.nil _ _)))))))) ?_
                exact ⟨A, c, rfl, hA1, hA2, HX⟩
          · clear HX
            obtain ⟨A, c, rfl, hA1, hA2, HX⟩ := hcut
            have hnd := upTo_nodup s HS.out.1 9
            generalize s.upTo 9 = al at *
            have HND := Lib.hid hnd
            clear hnd
            repeat first
              | apply d_seq
              | with_reducible apply kt_normal
              | apply l_nil
              | apply d_region
              | (apply l_off; (focus rfl); (focus rfl))
              | (apply l_val; (focus rfl); (focus rfl); (focus rfl); (focus (go_simp; (try simp (disch := omega) only [wrap_in, wrap_in', wrap_u16, wrap_u8, wrap_u32, wrap_u64, rem_in, quo_in]); first | done | with_reducible rfl | (constructor <;> with_reducible rfl))))
              | (apply l_store; (focus rfl); (focus rfl); (focus rfl); (focus (go_simp; (try simp (disch := omega) only [wrap_in, wrap_in', wrap_u16, wrap_u8, wrap_u32, wrap_u64, rem_in, quo_in]); first | done | with_reducible rfl | (constructor <;> with_reducible rfl))))
              | apply d_block
              | (apply d_true; (focus rfl); (focus rfl))
              | (apply d_false; (focus rfl); (focus rfl))
              | apply d_skip
              | apply d_exit
              | apply d_ret
              | with_reducible apply kt_ret
              | with_reducible apply kt_exit
              | with_reducible apply kb_normal
              | with_reducible apply kb_ret
              | with_reducible apply kb_here
              | with_reducible apply kl_ret
              | with_reducible apply kl_exit
              | with_reducible apply kc_ret
              | with_reducible apply kc_exit
              | (with_reducible apply kb_there; (focus rfl))
            refine d_loop (fun m D wr => ∃ (q : Nat), m = al.length - q ∧ q ≤ al.length ∧ D = [(0, .int .i64 zn), (1, .int .i64 rm), (2, .slice (some ⟨g, o, none⟩) l0.length cq0), (7, .bool true), (8, .pointer (some ⟨a, 0, none⟩)), (9, .int .i64 k), (11, .slice A al.length c), (17, .int .i64 q)] ∧ Hid (Has w wr [TotA w.heap.size a az s, OwnA w.heap.size 30 1 (.slice A al.length c) al.length (ints .u16 al)])) (al.length) _ (Subl.cons (t := 0) (by decide) rfl (Subl.cons (t := 1) (by decide) rfl (Subl.cons (t := 2) (by decide) rfl (Subl.cons (t := 7) (by decide) rfl (Subl.cons (t := 8) (by decide) rfl (Subl.cons (t := 9) (by decide) rfl (Subl.cons (t := 11) (by decide) rfl (Subl.cons (t := 17) (by decide) rfl (Subl.nil _ _))))))))) ?_ (fun m D wr hrel => ?_)
            · exact ⟨0, rfl, Nat.zero_le _, rfl, HX⟩
            · clear HX
              obtain ⟨q, rfl, hq, rfl, HX⟩ := hrel
              by_cases hlq : q < al.length
              · obtain ⟨v, hv⟩ : ∃ v, al[q]? = some v := ⟨_, List.getElem?_eq_getElem hlq⟩
                have HV := Lib.hid hv
                clear hv
                repeat first
                  | apply d_seq
                  | with_reducible apply kt_normal
                  | apply l_nil
                  | apply d_region
                  | (apply l_off; (focus rfl); (focus rfl))
                  | (apply l_val; (focus rfl); (focus rfl); (focus rfl); (focus (go_simp; (try simp (disch := omega) only [wrap_in, wrap_in', wrap_u16, wrap_u8, wrap_u32, wrap_u64, rem_in, quo_in]); first | done | with_reducible rfl | (constructor <;> with_reducible rfl))))
                  | (apply l_store; (focus rfl); (focus rfl); (focus rfl); (focus (go_simp; (try simp (disch := omega) only [wrap_in, wrap_in', wrap_u16, wrap_u8, wrap_u32, wrap_u64, rem_in, quo_in]); first | done | with_reducible rfl | (constructor <;> with_reducible rfl))))
                  | apply d_block
                  | (apply d_true; (focus rfl); (focus rfl))
                  | (apply d_false; (focus rfl); (focus rfl))
                  | apply d_skip
                  | apply d_exit
                  | apply d_ret
                  | with_reducible apply kt_ret
                  | with_reducible apply kt_exit
                  | with_reducible apply kb_normal
                  | with_reducible apply kb_ret
                  | with_reducible apply kb_here
                  | with_reducible apply kl_ret
                  | with_reducible apply kl_exit
                  | with_reducible apply kc_ret
                  | with_reducible apply kc_exit
                  | (with_reducible apply kb_there; (focus rfl))
                refine d_loop (fun m D wr => ∃ (p : Nat), m = q - p ∧ p ≤ q ∧ D = [(0, .int .i64 zn), (1, .int .i64 rm), (2, .slice (some ⟨g, o, none⟩) l0.length cq0), (7, .bool true), (8, .pointer (some ⟨a, 0, none⟩)), (9, .int .i64 k), (11, .slice A al.length c), (17, .int .i64 q), (18, .int .i64 p)] ∧ Hid (Has w wr [TotA w.heap.size a az s, OwnA w.heap.size 30 1 (.slice A al.length c) al.length (ints .u16 al)])) (q) _ (Subl.cons (t := 0) (by decide) rfl (Subl.cons (t := 1) (by decide) rfl (Subl.cons (t := 2) (by decide) rfl (Subl.cons (t := 7) (by decide) rfl (Subl.cons (t := 8) (by decide) rfl (Subl.cons (t := 9) (by decide) rfl (Subl.cons (t := 11) (by decide) rfl (Subl.cons (t := 17) (by decide) rfl (Subl.cons (t := 18) (by decide) rfl (Subl.nil _ _)))))))))) ?_ (fun m D wr hrel => ?_)
                · exact ⟨0, rfl, Nat.zero_le _, rfl, HX⟩
                · clear HX
                  obtain ⟨p, rfl, hp, rfl, HX⟩ := hrel
                  by_cases hlp : p < q
                  · have hpl : p < al.length := by omega
                    obtain ⟨u, hu⟩ : ∃ v, al[p]? = some v := ⟨_, List.getElem?_eq_getElem hpl⟩
                    obtain ⟨g2, o2, cp2, e1, hq3, hq4, -, d0⟩ := HX.out.num (i := 1) rfl rfl HV.out
                    simp only [Value.slice.injEq, true_and] at e1
                    obtain ⟨rfl, rfl⟩ := e1
                    obtain ⟨g3, o3, cp3, e1, -, -, -, d1⟩ := HX.out.num (i := 1) rfl rfl hu
                    simp only [Value.slice.injEq, Option.some.injEq, Addr.mk.injEq, and_true, true_and] at e1
                    obtain ⟨⟨rfl, rfl⟩, rfl⟩ := e1
                    have hne : v ≠ u := by
                      intro c
                      have h1 : p = q := (List.getElem?_inj hpl HND.out).1 (by rw [hu, HV.out, c])
                      omega
                    have w1 : (v == u) = false := by simpa using hne
                    have HU := Lib.hid hu
                    have HNE := Lib.hid hne
                    clear hu hne
                    repeat first
                      | apply d_seq
                      | with_reducible apply kt_normal
                      | apply l_nil
                      | apply d_region
                      | (apply l_off; (focus rfl); (focus rfl))
                      | (apply l_val; (focus rfl); (focus rfl); (focus rfl); (focus (go_simp; (try simp (disch := omega) only [wrap_in, wrap_in', wrap_u16, wrap_u8, wrap_u32, wrap_u64, rem_in, quo_in]); first | done | with_reducible rfl | (constructor <;> with_reducible rfl))))
                      | (apply l_store; (focus rfl); (focus rfl); (focus rfl); (focus (go_simp; (try simp (disch := omega) only [wrap_in, wrap_in', wrap_u16, wrap_u8, wrap_u32, wrap_u64, rem_in, quo_in]); first | done | with_reducible rfl | (constructor <;> with_reducible rfl))))
                      | apply d_block
                      | (apply d_true; (focus rfl); (focus rfl))
                      | (apply d_false; (focus rfl); (focus rfl))
                      | apply d_skip
                      | apply d_exit
                      | apply d_ret
                      | with_reducible apply kt_ret
                      | with_reducible apply kt_exit
                      | with_reducible apply kb_normal
                      | with_reducible apply kb_ret
                      | with_reducible apply kb_here
                      | with_reducible apply kl_ret
                      | with_reducible apply kl_exit
                      | with_reducible apply kc_ret
                      | with_reducible apply kc_exit
                      | (with_reducible apply kb_there; (focus rfl))
                    refine d_draw (true, [([], []), ([], []), ([0, 1], [0, 1]), ([2], [2]), ([], []), ([], []), ([4, 5], [4, 5]), ([6], [6]), ([3, 7], [3, 7])]) [(0, 0), (0, 1), (0, 2), (0, 3), (0, 4), (0, 5), (0, 6), (0, 7), (0, 8)] [999999] (fun W => W.cell? ⟨g2, o2 + q, none⟩ = some (.int .u16 v) ∧ W.cell? ⟨g2, o2 + p, none⟩ = some (.int .u16 u)) (by kernel_rfl) (by kernel_rfl) (by kernel_rfl) (by kernel_rfl) ⟨d0, d1⟩ ?_
                    iterate 9
                      first | (apply s_off; (focus rfl); (focus rfl); (focus rfl)) | (apply s_yield; (focus rfl); (focus rfl); (focus rfl); (focus rfl); (focus (intro W hS; obtain ⟨hS1, hS2⟩ := hS; go_simp; (try simp (disch := omega) only [wrap_in, wrap_in', wrap_u16, wrap_u8, wrap_u32, wrap_u64, rem_in, quo_in]); first | done | with_reducible rfl | (constructor <;> with_reducible rfl))))
                    refine s_done ?_
                    repeat first
                      | apply d_seq
                      | with_reducible apply kt_normal
                      | apply l_nil
                      | apply d_region
                      | (apply l_off; (focus rfl); (focus rfl))
                      | (apply l_val; (focus rfl); (focus rfl); (focus rfl); (focus (go_simp; (try simp (disch := omega) only [wrap_in, wrap_in', wrap_u16, wrap_u8, wrap_u32, wrap_u64, rem_in, quo_in]); first | done | with_reducible rfl | (constructor <;> with_reducible rfl))))
                      | (apply l_store; (focus rfl); (focus rfl); (focus rfl); (focus (go_simp; (try simp (disch := omega) only [wrap_in, wrap_in', wrap_u16, wrap_u8, wrap_u32, wrap_u64, rem_in, quo_in]); first | done | with_reducible rfl | (constructor <;> with_reducible rfl))))
                      | apply d_block
                      | (apply d_true; (focus rfl); (focus rfl))
                      | (apply d_false; (focus rfl); (focus rfl))
                      | apply d_skip
                      | apply d_exit
                      | apply d_ret
                      | with_reducible apply kt_ret
                      | with_reducible apply kt_exit
                      | with_reducible apply kb_normal
                      | with_reducible apply kb_ret
                      | with_reducible apply kb_here
                      | with_reducible apply kl_ret
                      | with_reducible apply kl_exit
                      | with_reducible apply kc_ret
                      | with_reducible apply kc_exit
                      | (with_reducible apply kb_there; (focus rfl))
                    refine kl_normal (q - (p + 1)) _ (by omega) (Subl.cons (t := 0) (by decide) rfl (Subl.cons (t := 1) (by decide) rfl (Subl.cons (t := 2) (by decide) rfl (Subl.cons (t := 7) (by decide) rfl (Subl.cons (t := 8) (by decide) rfl (Subl.cons (t := 9) (by decide) rfl (Subl.cons (t := 11) (by decide) rfl (Subl.cons (t := 17) (by decide) rfl (Subl.cons (t := 18) (by decide) rfl (Subl.nil _ _)))))))))) ?_
                    exact ⟨p + 1, rfl, by omega, rfl, Lib.hid HX.out.drew⟩
                  · repeat first
                      | apply d_seq
                      | with_reducible apply kt_normal
                      | apply l_nil
                      | apply d_region
                      | (apply l_off; (focus rfl); (focus rfl))
                      | (apply l_val; (focus rfl); (focus rfl); (focus rfl); (focus (go_simp; (try simp (disch := omega) only [wrap_in, wrap_in', wrap_u16, wrap_u8, wrap_u32, wrap_u64, rem_in, quo_in]); first | done | with_reducible rfl | (constructor <;> with_reducible rfl))))
                      | (apply l_store; (focus rfl); (focus rfl); (focus rfl); (focus (go_simp; (try simp (disch := omega) only [wrap_in, wrap_in', wrap_u16, wrap_u8, wrap_u32, wrap_u64, rem_in, quo_in]); first | done | with_reducible rfl | (constructor <;> with_reducible rfl))))
                      | apply d_block
                      | (apply d_true; (focus rfl); (focus rfl))
                      | (apply d_false; (focus rfl); (focus rfl))
                      | apply d_skip
                      | apply d_exit
                      | apply d_ret
                      | with_reducible apply kt_ret
                      | with_reducible apply kt_exit
                      | with_reducible apply kb_normal
                      | with_reducible apply kb_ret
                      | with_reducible apply kb_here
                      | with_reducible apply kl_ret
                      | with_reducible apply kl_exit
                      | with_reducible apply kc_ret
                      | with_reducible apply kc_exit
                      | (with_reducible apply kb_there; (focus rfl))
                    refine kl_normal (al.length - (q + 1)) _ (by omega) (Subl.cons (t := 0) (by decide) rfl (Subl.cons (t := 1) (by decide) rfl (Subl.cons (t := 2) (by decide) rfl (Subl.cons (t := 7) (by decide) rfl (Subl.cons (t := 8) (by decide) rfl (Subl.cons (t := 9) (by decide) rfl (Subl.cons (t := 11) (by decide) rfl (Subl.cons (t := 17) (by decide) rfl (Subl.nil _ _))))))))) ?_
                    exact ⟨q + 1, rfl, by omega, rfl, HX⟩
              · repeat first
                  | apply d_seq
                  | with_reducible apply kt_normal
                  | apply l_nil
                  | apply d_region
                  | (apply l_off; (focus rfl); (focus rfl))
                  | (apply l_val; (focus rfl); (focus rfl); (focus rfl); (focus (go_simp; (try simp (disch := omega) only [wrap_in, wrap_in', wrap_u16, wrap_u8, wrap_u32, wrap_u64, rem_in, quo_in]); first | done | with_reducible rfl | (constructor <;> with_reducible rfl))))
                  | (apply l_store; (focus rfl); (focus rfl); (focus rfl); (focus (go_simp; (try simp (disch := omega) only [wrap_in, wrap_in', wrap_u16, wrap_u8, wrap_u32, wrap_u64, rem_in, quo_in]); first | done | with_reducible rfl | (constructor <;> with_reducible rfl))))
                  | apply d_block
                  | (apply d_true; (focus rfl); (focus rfl))
                  | (apply d_false; (focus rfl); (focus rfl))
                  | apply d_skip
                  | apply d_exit
                  | apply d_ret
                  | with_reducible apply kt_ret
                  | with_reducible apply kt_exit
                  | with_reducible apply kb_normal
                  | with_reducible apply kb_ret
                  | with_reducible apply kb_here
                  | with_reducible apply kl_ret
                  | with_reducible apply kl_exit
                  | with_reducible apply kc_ret
                  | with_reducible apply kc_exit
                  | (with_reducible apply kb_there; (focus rfl))
                refine kl_normal (l0.length - (k + 1)) _ (by omega) (Subl.cons (t := 0) (by decide) rfl (Subl.cons (t := 1) (by decide) rfl (Subl.cons (t := 2) (by decide) rfl (Subl.cons (t := 7) (by decide) rfl (Subl.cons (t := 8) (by decide) rfl (Subl.cons (t := 9) (by decide) rfl (Subl.nil _ _))))))) ?_
                exact ⟨k + 1, s, rfl, by omega, rfl, Lib.hid (HX.out.take 1), HS⟩
      · repeat first
          | apply d_seq
          | with_reducible apply kt_normal
          | apply l_nil
          | apply d_region
          | (apply l_off; (focus rfl); (focus rfl))
          | (apply l_val; (focus rfl); (focus rfl); (focus rfl); (focus (go_simp; (try simp (disch := omega) only [wrap_in, wrap_in', wrap_u16, wrap_u8, wrap_u32, wrap_u64, rem_in, quo_in]); first | done | with_reducible rfl | (constructor <;> with_reducible rfl))))
          | (apply l_store; (focus rfl); (focus rfl); (focus rfl); (focus (go_simp; (try simp (disch := omega) only [wrap_in, wrap_in', wrap_u16, wrap_u8, wrap_u32, wrap_u64, rem_in, quo_in]); first | done | with_reducible rfl | (constructor <;> with_reducible rfl))))
          | apply d_block
          | (apply d_true; (focus rfl); (focus rfl))
          | (apply d_false; (focus rfl); (focus rfl))
          | apply d_skip
          | apply d_exit
          | apply d_ret
          | with_reducible apply kt_ret
          | with_reducible apply kt_exit
          | with_reducible apply kb_normal
          | with_reducible apply kb_ret
          | with_reducible apply kb_here
          | with_reducible apply kl_ret
          | with_reducible apply kl_exit
          | with_reducible apply kc_ret
          | with_reducible apply kc_exit
          | (with_reducible apply kb_there; (focus rfl))
        refine ⟨rfl, _, (by first | (simp [resultsG, resOne, Try.results4, rho, List.lookup]; done) | (simp [resultsG, resOne, Try.results4, rho, List.lookup]; rfl)), ?_⟩
        exact ⟨rfl, HX.out.old⟩
    · repeat first
        | apply d_seq
        | with_reducible apply kt_normal
        | apply l_nil
        | apply d_region
        | (apply l_off; (focus rfl); (focus rfl))
        | (apply l_val; (focus rfl); (focus rfl); (focus rfl); (focus (go_simp; (try simp (disch := omega) only [wrap_in, wrap_in', wrap_u16, wrap_u8, wrap_u32, wrap_u64, rem_in, quo_in]); first | done | with_reducible rfl | (constructor <;> with_reducible rfl))))
        | (apply l_store; (focus rfl); (focus rfl); (focus rfl); (focus (go_simp; (try simp (disch := omega) only [wrap_in, wrap_in', wrap_u16, wrap_u8, wrap_u32, wrap_u64, rem_in, quo_in]); first | done | with_reducible rfl | (constructor <;> with_reducible rfl))))
        | apply d_block
        | (apply d_true; (focus rfl); (focus rfl))
        | (apply d_false; (focus rfl); (focus rfl))
        | apply d_skip
        | apply d_exit
        | apply d_ret
        | with_reducible apply kt_ret
        | with_reducible apply kt_exit
        | with_reducible apply kb_normal
        | with_reducible apply kb_ret
        | with_reducible apply kb_here
        | with_reducible apply kl_ret
        | with_reducible apply kl_exit
        | with_reducible apply kc_ret
        | with_reducible apply kc_exit
        | (with_reducible apply kb_there; (focus rfl))
      refine ⟨rfl, _, (by first | (simp [resultsG, resOne, Try.results4, rho, List.lookup]; done) | (simp [resultsG, resOne, Try.results4, rho, List.lookup]; rfl)), ?_⟩
      exact ⟨rfl, HX.out.old⟩
end Go.Proofs.Ytilmodbiimjllaa
