import Derived.Test.YtkjcmnhhgnlaeaaLedR3
namespace Go.Proofs.Ytkjcmnhhgnlaeaa
set_option linter.unusedVariables false
set_option linter.unusedSimpArgs false
attribute [local go_sem] rho_const rho_func rho_hit rho_miss
open Go.RowKit
/-! The document's order: is it right; a copy. -/
def anyK (ls : List Ln) (k : Nat) (y : Ln) : Bool := (ls.take k).any fun x => x.item == y.item || x.loc == y.loc
theorem anyK_succ {ls : List Ln} {k : Nat} {x : Ln} (h : ls[k]? = some x) (y : Ln) : anyK ls (k + 1) y = (anyK ls k y || (x.item == y.item || x.loc == y.loc)) := by unfold anyK; rw [List.take_add_one, h]; simp
theorem lineE_any (ls : List Ln) (k : Nat) (y : Ln) : lineE (ls.take k) y = if 64 ≤ y.loc then 1 else if y.qty < 1 ∨ 9999 < y.qty then 10 else if anyK ls k y = true then 8 else 0 := rfl
set_option maxRecDepth 100000 in
set_option maxHeartbeats 4000000 in
theorem rRight_any (id : Int) (v : Value) (ls : List Ln) (F : Nat → Prop) (w : World) (h : SeesIn w F 3 v ls.length (lns ls)) :
    Calls Try.prog 29 #[.agg #[.int .u32 id, v]] w fun e w' => e = .returned (.int .i64 (rightE ls)) ∧ Keep none_ w w' := by
  have H := Lib.hid h
  obtain ⟨A, c, rfl, h1, h2, -⟩ := h.form
  have HR : Hid (rightE ls = if ls.length = 0 then 3 else if 8 < ls.length then 5 else errFrom ls ls.length 0) := Lib.hid rfl
  clear h
  by_cases h0 : ls.length = 0
  · rw [if_pos h0] at HR
    have h0' : ((ls.length : Int) == 0) = true := by simp [h0]
    clear h0
    refine d_calls (n := 62) Try.func29 rfl rfl (by simp) [(0, .agg #[.int .u32 id, .slice A ls.length c])] (by simp) ?_
    repeat first
      | apply d_seq
      | with_reducible apply kt_normal
      | apply l_nil
      | apply d_region
      | (apply l_off; (focus rfl); (focus rfl))
      | (apply l_val; (focus rfl); (focus rfl); (focus rfl); (focus (go_simp; (try simp (disch := omega) only [wrap_in, wrap_in', wrap_u16, wrap_u8, wrap_u32, wrap_u64, rem_in, quo_in]); first | done | with_reducible rfl | (constructor <;> with_reducible rfl))))
      | (apply l_store; (focus rfl); (focus rfl); (focus rfl); (focus (go_simp; (try simp (disch := omega) only [wrap_in, wrap_in', wrap_u16, wrap_u8, wrap_u32, wrap_u64, rem_in, quo_in]); first | done | with_reducible rfl | (constructor <;> with_reducible rfl))))
      | apply d_block
      | (apply d_true; (focus rfl); (focus rfl))
      | (apply d_false; (focus rfl); (focus rfl))
      | apply d_skip
      | apply d_exit
      | apply d_ret
      | with_reducible apply kt_ret
      | with_reducible apply kt_exit
      | with_reducible apply kb_normal
      | with_reducible apply kb_ret
      | with_reducible apply kb_here
      | with_reducible apply kl_ret
      | with_reducible apply kl_exit
      | with_reducible apply kc_ret
      | with_reducible apply kc_exit
      | (with_reducible apply kb_there; (focus rfl))
    refine ⟨rfl, _, (by first | (simp [resultsG, resOne, Try.results29, rho, List.lookup]; done) | (simp [resultsG, resOne, Try.results29, rho, List.lookup]; rfl)), ?_⟩
    exact ⟨by rw [HR.out], (Keep.refl _ _).alloc _⟩
  · rw [if_neg h0] at HR
    have h0' : ((ls.length : Int) == 0) = false := by simp; exact fun e => h0 (by simp [e])
    by_cases h8 : 8 < ls.length
    · rw [if_pos h8] at HR
      have h8' : decide ((8 : Int) < ls.length) = true := by simp; omega
      clear h0
      refine d_calls (n := 62) Try.func29 rfl rfl (by simp) [(0, .agg #[.int .u32 id, .slice A ls.length c])] (by simp) ?_
      repeat first
        | apply d_seq
        | with_reducible apply kt_normal
        | apply l_nil
        | apply d_region
        | (apply l_off; (focus rfl); (focus rfl))
        | (apply l_val; (focus rfl); (focus rfl); (focus rfl); (focus (go_simp; (try simp (disch := omega) only [wrap_in, wrap_in', wrap_u16, wrap_u8, wrap_u32, wrap_u64, rem_in, quo_in]); first | done | with_reducible rfl | (constructor <;> with_reducible rfl))))
        | (apply l_store; (focus rfl); (focus rfl); (focus rfl); (focus (go_simp; (try simp (disch := omega) only [wrap_in, wrap_in', wrap_u16, wrap_u8, wrap_u32, wrap_u64, rem_in, quo_in]); first | done | with_reducible rfl | (constructor <;> with_reducible rfl))))
        | apply d_block
        | (apply d_true; (focus rfl); (focus rfl))
        | (apply d_false; (focus rfl); (focus rfl))
        | apply d_skip
        | apply d_exit
        | apply d_ret
        | with_reducible apply kt_ret
        | with_reducible apply kt_exit
        | with_reducible apply kb_normal
        | with_reducible apply kb_ret
        | with_reducible apply kb_here
        | with_reducible apply kl_ret
        | with_reducible apply kl_exit
        | with_reducible apply kc_ret
        | with_reducible apply kc_exit
        | (with_reducible apply kb_there; (focus rfl))
      refine ⟨rfl, _, (by first | (simp [resultsG, resOne, Try.results29, rho, List.lookup]; done) | (simp [resultsG, resOne, Try.results29, rho, List.lookup]; rfl)), ?_⟩
      exact ⟨by rw [HR.out], (Keep.refl _ _).alloc _⟩
    · rw [if_neg h8] at HR
      have h8' : decide ((8 : Int) < ls.length) = false := by simp; omega
      clear h0
      refine d_calls (n := 62) Try.func29 rfl rfl (by simp) [(0, .agg #[.int .u32 id, .slice A ls.length c])] (by simp) ?_
      repeat first
        | apply d_seq
        | with_reducible apply kt_normal
        | apply l_nil
        | apply d_region
        | (apply l_off; (focus rfl); (focus rfl))
        | (apply l_val; (focus rfl); (focus rfl); (focus rfl); (focus (go_simp; (try simp (disch := omega) only [wrap_in, wrap_in', wrap_u16, wrap_u8, wrap_u32, wrap_u64, rem_in, quo_in]); first | done | with_reducible rfl | (constructor <;> with_reducible rfl))))
        | (apply l_store; (focus rfl); (focus rfl); (focus rfl); (focus (go_simp; (try simp (disch := omega) only [wrap_in, wrap_in', wrap_u16, wrap_u8, wrap_u32, wrap_u64, rem_in, quo_in]); first | done | with_reducible rfl | (constructor <;> with_reducible rfl))))
        | apply d_block
        | (apply d_true; (focus rfl); (focus rfl))
        | (apply d_false; (focus rfl); (focus rfl))
        | apply d_skip
        | apply d_exit
        | apply d_ret
        | with_reducible apply kt_ret
        | with_reducible apply kt_exit
        | with_reducible apply kb_normal
        | with_reducible apply kb_ret
        | with_reducible apply kb_here
        | with_reducible apply kl_ret
        | with_reducible apply kl_exit
        | with_reducible apply kc_ret
        | with_reducible apply kc_exit
        | (with_reducible apply kb_there; (focus rfl))
      have hx0 := (HasF.nil (Keep.refl none_ w)).box #[.int .u32 id, .slice A ls.length c] 34
      simp only [List.nil_append] at hx0
      have HX := Lib.hid hx0
      clear hx0
      generalize w.alloc (.cells #[.int .u32 id, .slice A ls.length c] 34) = w0 at *
      generalize w.heap.size = ob at *
      refine d_loop (fun m D wr => ∃ k : Nat, m = ls.length - k ∧ k ≤ ls.length ∧ D = [(1, .pointer (some ⟨ob, 0, none⟩)), (3, .int .i64 k)] ∧ Hid (HasF none_ w wr [BlkA 0 ob #[.int .u32 id, .slice A ls.length c] 34] ∧ errFrom ls ls.length 0 = errFrom ls (ls.length - k) k)) (ls.length) _ (Subl.cons (t := 1) (by decide) rfl (Subl.cons (t := 3) (by decide) rfl (Subl.nil _ _))) ?_ (fun m D wr hrel => ?_)
      · exact ⟨0, rfl, Nat.zero_le _, rfl, Lib.hid ⟨HX.out, rfl⟩⟩
      · clear HX
        obtain ⟨k, rfl, hk, rfl, HH⟩ := hrel
        have hx := HH.out.1
        obtain ⟨b0, b1, -⟩ := blk2 (hx.blk (i := 0) rfl)
        by_cases hlt : k < ls.length
        · obtain ⟨y, hy⟩ : ∃ y, ls[k]? = some y := ⟨_, List.getElem?_eq_getElem hlt⟩
          obtain ⟨g, o, c', e1, -, -, -, -, d0, d1, d2⟩ := sees_line (H.out.keep hx.old) rfl hy
          simp only [Value.slice.injEq, true_and] at e1
          obtain ⟨rfl, rfl⟩ := e1
          have hx2 := hx.box #[.int .u16 y.item, .int .u16 y.loc, .int .i64 y.qty] 59
          simp only [List.cons_append, List.nil_append] at hx2
          obtain ⟨l0, l1, l2, -⟩ := blk3 (hx2.blk (i := 1) rfl)
          have HE : Hid (errFrom ls (ls.length - k) k = if lineE (ls.take k) y = 0 then errFrom ls (ls.length - (k + 1)) (k + 1) else lineE (ls.take k) y) := by
            show _ = _
            rw [show ls.length - k = (ls.length - (k + 1)) + 1 by omega, errFrom, hy]
          have HL : Hid (lineE (ls.take k) y = if 64 ≤ y.loc then 1 else if y.qty < 1 ∨ 9999 < y.qty then 10 else if anyK ls k y = true then 8 else 0) := Lib.hid rfl
          have HX := Lib.hid hx2
          clear hy hx hx2
          have hbb1 : b1 = b1 := rfl
          clear hbb1
          by_cases q1 : 64 ≤ y.loc
          · rw [if_pos q1] at HL
            have q1' : decide (63 < y.loc) = true := decide_eq_true (by omega)
            have q1'' : decide (y.loc > 63) = true := decide_eq_true (by omega)
            rw [HL.out, if_neg (by decide)] at HE
            clear q1
            repeat first
              | apply d_seq
              | with_reducible apply kt_normal
              | apply l_nil
              | apply d_region
              | (apply l_off; (focus rfl); (focus rfl))
              | (apply l_val; (focus rfl); (focus rfl); (focus rfl); (focus (go_simp; (try simp (disch := omega) only [wrap_in, wrap_in', wrap_u16, wrap_u8, wrap_u32, wrap_u64, rem_in, quo_in]); first | done | with_reducible rfl | (constructor <;> with_reducible rfl))))
              | (apply l_store; (focus rfl); (focus rfl); (focus rfl); (focus (go_simp; (try simp (disch := omega) only [wrap_in, wrap_in', wrap_u16, wrap_u8, wrap_u32, wrap_u64, rem_in, quo_in]); first | done | with_reducible rfl | (constructor <;> with_reducible rfl))))
              | apply d_block
              | (apply d_true; (focus rfl); (focus rfl))
              | (apply d_false; (focus rfl); (focus rfl))
              | apply d_skip
              | apply d_exit
              | apply d_ret
              | with_reducible apply kt_ret
              | with_reducible apply kt_exit
              | with_reducible apply kb_normal
              | with_reducible apply kb_ret
              | with_reducible apply kb_here
              | with_reducible apply kl_ret
              | with_reducible apply kl_exit
              | with_reducible apply kc_ret
              | with_reducible apply kc_exit
              | (with_reducible apply kb_there; (focus rfl))
            refine ⟨rfl, _, (by first | (simp [resultsG, resOne, Try.results29, rho, List.lookup]; done) | (simp [resultsG, resOne, Try.results29, rho, List.lookup]; rfl)), ?_⟩
            exact ⟨by rw [HR.out, HH.out.2, HE.out], HX.out.old⟩
          · rw [if_neg q1] at HL
            have q1' : decide (63 < y.loc) = false := decide_eq_false (by omega)
            have q1'' : decide (y.loc > 63) = false := decide_eq_false (by omega)
            clear q1
            by_cases q2 : y.qty < 1 ∨ 9999 < y.qty
            · rw [if_pos q2] at HL
              rw [HL.out, if_neg (by decide)] at HE
              by_cases q3 : y.qty ≤ 0
              · have q3' : decide (y.qty ≤ 0) = true := decide_eq_true q3
                clear q2
                repeat first
                  | apply d_seq
                  | with_reducible apply kt_normal
                  | apply l_nil
                  | apply d_region
                  | (apply l_off; (focus rfl); (focus rfl))
                  | (apply l_val; (focus rfl); (focus rfl); (focus rfl); (focus (go_simp; (try simp (disch := omega) only [wrap_in, wrap_in', wrap_u16, wrap_u8, wrap_u32, wrap_u64, rem_in, quo_in]); first | done | with_reducible rfl | (constructor <;> with_reducible rfl))))
                  | (apply l_store; (focus rfl); (focus rfl); (focus rfl); (focus (go_simp; (try simp (disch := omega) only [wrap_in, wrap_in', wrap_u16, wrap_u8, wrap_u32, wrap_u64, rem_in, quo_in]); first | done | with_reducible rfl | (constructor <;> with_reducible rfl))))
                  | apply d_block
                  | (apply d_true; (focus rfl); (focus rfl))
                  | (apply d_false; (focus rfl); (focus rfl))
                  | apply d_skip
                  | apply d_exit
                  | apply d_ret
                  | with_reducible apply kt_ret
                  | with_reducible apply kt_exit
                  | with_reducible apply kb_normal
                  | with_reducible apply kb_ret
                  | with_reducible apply kb_here
                  | with_reducible apply kl_ret
                  | with_reducible apply kl_exit
                  | with_reducible apply kc_ret
                  | with_reducible apply kc_exit
                  | (with_reducible apply kb_there; (focus rfl))
                refine ⟨rfl, _, (by first | (simp [resultsG, resOne, Try.results29, rho, List.lookup]; done) | (simp [resultsG, resOne, Try.results29, rho, List.lookup]; rfl)), ?_⟩
                exact ⟨by rw [HR.out, HH.out.2, HE.out], HX.out.old⟩
              · have q3' : decide (y.qty ≤ 0) = false := decide_eq_false q3
                have q4 : decide (y.qty ≥ 10000) = true := decide_eq_true (by omega)
                have q4' : decide (10000 ≤ y.qty) = true := decide_eq_true (by omega)
                clear q2
                repeat first
                  | apply d_seq
                  | with_reducible apply kt_normal
                  | apply l_nil
                  | apply d_region
                  | (apply l_off; (focus rfl); (focus rfl))
                  | (apply l_val; (focus rfl); (focus rfl); (focus rfl); (focus (go_simp; (try simp (disch := omega) only [wrap_in, wrap_in', wrap_u16, wrap_u8, wrap_u32, wrap_u64, rem_in, quo_in]); first | done | with_reducible rfl | (constructor <;> with_reducible rfl))))
                  | (apply l_store; (focus rfl); (focus rfl); (focus rfl); (focus (go_simp; (try simp (disch := omega) only [wrap_in, wrap_in', wrap_u16, wrap_u8, wrap_u32, wrap_u64, rem_in, quo_in]); first | done | with_reducible rfl | (constructor <;> with_reducible rfl))))
                  | apply d_block
                  | (apply d_true; (focus rfl); (focus rfl))
                  | (apply d_false; (focus rfl); (focus rfl))
                  | apply d_skip
                  | apply d_exit
                  | apply d_ret
                  | with_reducible apply kt_ret
                  | with_reducible apply kt_exit
                  | with_reducible apply kb_normal
                  | with_reducible apply kb_ret
                  | with_reducible apply kb_here
                  | with_reducible apply kl_ret
                  | with_reducible apply kl_exit
                  | with_reducible apply kc_ret
                  | with_reducible apply kc_exit
                  | (with_reducible apply kb_there; (focus rfl))
                refine ⟨rfl, _, (by first | (simp [resultsG, resOne, Try.results29, rho, List.lookup]; done) | (simp [resultsG, resOne, Try.results29, rho, List.lookup]; rfl)), ?_⟩
                exact ⟨by rw [HR.out, HH.out.2, HE.out], HX.out.old⟩
            · rw [if_neg q2] at HL
              have q3' : decide (y.qty ≤ 0) = false := decide_eq_false (by omega)
              have q4 : decide (y.qty ≥ 10000) = false := decide_eq_false (by omega)
              have q4' : decide (10000 ≤ y.qty) = false := decide_eq_false (by omega)
              clear q2
              repeat first
                | apply d_seq
                | with_reducible apply kt_normal
                | apply l_nil
                | apply d_region
                | (apply l_off; (focus rfl); (focus rfl))
                | (apply l_val; (focus rfl); (focus rfl); (focus rfl); (focus (go_simp; (try simp (disch := omega) only [wrap_in, wrap_in', wrap_u16, wrap_u8, wrap_u32, wrap_u64, rem_in, quo_in]); first | done | with_reducible rfl | (constructor <;> with_reducible rfl))))
                | (apply l_store; (focus rfl); (focus rfl); (focus rfl); (focus (go_simp; (try simp (disch := omega) only [wrap_in, wrap_in', wrap_u16, wrap_u8, wrap_u32, wrap_u64, rem_in, quo_in]); first | done | with_reducible rfl | (constructor <;> with_reducible rfl))))
                | ((fail_if_success (with_reducible apply d_block (id := 2))); apply d_block)
                | (apply d_true; (focus rfl); (focus rfl))
                | (apply d_false; (focus rfl); (focus rfl))
                | apply d_skip
                | apply d_exit
                | apply d_ret
                | with_reducible apply kt_ret
                | with_reducible apply kt_exit
                | with_reducible apply kb_normal
                | with_reducible apply kb_ret
                | with_reducible apply kb_here
                | with_reducible apply kl_ret
                | with_reducible apply kl_exit
                | with_reducible apply kc_ret
                | with_reducible apply kc_exit
                | (with_reducible apply kb_there; (focus rfl))
              clear d0 d1 d2 b0 b1 l0 l1 l2
              generalize wr.alloc (.cells #[.int .u16 y.item, .int .u16 y.loc, .int .i64 y.qty] 59) = wy at *
              generalize wr.heap.size = yb at *
              repeat first
                | apply d_seq
                | with_reducible apply kt_normal
                | apply l_nil
                | apply d_region
                | (apply l_off; (focus rfl); (focus rfl))
                | (apply l_val; (focus rfl); (focus rfl); (focus rfl); (focus (go_simp; (try simp (disch := omega) only [wrap_in, wrap_in', wrap_u16, wrap_u8, wrap_u32, wrap_u64, rem_in, quo_in]); first | done | with_reducible rfl | (constructor <;> with_reducible rfl))))
                | (apply l_store; (focus rfl); (focus rfl); (focus rfl); (focus (go_simp; (try simp (disch := omega) only [wrap_in, wrap_in', wrap_u16, wrap_u8, wrap_u32, wrap_u64, rem_in, quo_in]); first | done | with_reducible rfl | (constructor <;> with_reducible rfl))))
                | apply d_block
                | (apply d_true; (focus rfl); (focus rfl))
                | (apply d_false; (focus rfl); (focus rfl))
                | apply d_skip
                | apply d_exit
                | apply d_ret
                | with_reducible apply kt_ret
                | with_reducible apply kt_exit
                | with_reducible apply kb_normal
                | with_reducible apply kb_ret
                | with_reducible apply kb_here
                | with_reducible apply kl_ret
                | with_reducible apply kl_exit
                | with_reducible apply kc_ret
                | with_reducible apply kc_exit
                | (with_reducible apply kb_there; (focus rfl))
              refine d_loop (fun m D wr => ∃ j : Nat, m = k - j ∧ j ≤ k ∧ D = [(1, .pointer (some ⟨ob, 0, none⟩)), (3, .int .i64 k), (4, .pointer (some ⟨yb, 0, none⟩)), (5, .int .i64 j)] ∧ Hid (HasF none_ w wr [BlkA 0 ob #[.int .u32 id, .slice (some ⟨g, o, none⟩) ls.length c] 34, BlkA 0 yb #[.int .u16 y.item, .int .u16 y.loc, .int .i64 y.qty] 59]) ∧ Hid (anyK ls j y = false)) (k) _ (Subl.cons (t := 1) (by decide) rfl (Subl.cons (t := 3) (by decide) rfl (Subl.cons (t := 4) (by decide) rfl (Subl.cons (t := 5) (by decide) rfl (Subl.nil _ _))))) ?_ (fun m D wr hrel => ?_)
              · exact ⟨0, rfl, Nat.zero_le _, rfl, HX, Lib.hid (by simp [anyK])⟩
              · clear HX
                obtain ⟨j, rfl, hj, rfl, HX, HJ⟩ := hrel
                have hx := HX.out
                obtain ⟨b0, b1, -⟩ := blk2 (hx.blk (i := 0) rfl)
                obtain ⟨l0, l1, l2, -⟩ := blk3 (hx.blk (i := 1) rfl)
                by_cases hjk : j < k
                · obtain ⟨x, hxj⟩ : ∃ x, ls[j]? = some x := ⟨_, List.getElem?_eq_getElem (by omega)⟩
                  obtain ⟨g', o', c', e1, -, -, -, -, d0, d1, d2⟩ := sees_line (H.out.keep hx.old) rfl hxj
                  simp only [Value.slice.injEq, Option.some.injEq, Addr.mk.injEq, and_true, true_and] at e1
                  obtain ⟨⟨rfl, rfl⟩, rfl⟩ := e1
                  have hst := anyK_succ hxj y
                  rw [HJ.out, Bool.false_or] at hst
                  have hjl : j < ls.length := by omega
                  have hmono : anyK ls (j + 1) y = true → anyK ls k y = true := fun c => by
                    unfold anyK at c ⊢
                    rw [List.any_eq_true] at c ⊢
                    obtain ⟨z, hz, hz2⟩ := c
                    exact ⟨z, (List.take_subset_take_left ls (by omega)) hz, hz2⟩
                  have e1 : wr.drew.cell? ⟨ob, 1, none⟩ = some (.slice (some ⟨g, o, none⟩) ls.length c) := b1
                  have e2 : wr.drew.cell? ⟨g, o + j * 3, none⟩ = some (.int .u16 x.item) := d0
                  have e3 : wr.drew.cell? ⟨g, o + j * 3 + 1, none⟩ = some (.int .u16 x.loc) := d1
                  have e4 : wr.drew.cell? ⟨yb, 0, none⟩ = some (.int .u16 y.item) := l0
                  have e5 : wr.drew.cell? ⟨yb, 1, none⟩ = some (.int .u16 y.loc) := l1
                  have hx2 := hx.drew
                  obtain ⟨u1, hu1⟩ : ∃ u, (x.item == y.item) = u := ⟨_, rfl⟩
                  rw [hu1] at hst
                  have HY := Lib.hid hx2
                  have HXJ := Lib.hid hxj
                  have HMONO := Lib.hid hmono
                  clear hxj hmono
                  clear hx hx2 b0 b1 l0 l1 l2 d0 d1 d2 HX
                  cases u1 with
                  | true =>
                    rw [Bool.true_or] at hst
                    have h8 := HMONO.out hst
                    rw [HL.out, if_pos h8, if_neg (by decide)] at HE
                    clear h8 hst
                    repeat first
                      | apply d_seq
                      | with_reducible apply kt_normal
                      | apply l_nil
                      | apply d_region
                      | (apply l_off; (focus rfl); (focus rfl))
                      | (apply l_val; (focus rfl); (focus rfl); (focus rfl); (focus (go_simp; (try simp (disch := omega) only [wrap_in, wrap_in', wrap_u16, wrap_u8, wrap_u32, wrap_u64, rem_in, quo_in]); first | done | with_reducible rfl | (constructor <;> with_reducible rfl))))
                      | (apply l_store; (focus rfl); (focus rfl); (focus rfl); (focus (go_simp; (try simp (disch := omega) only [wrap_in, wrap_in', wrap_u16, wrap_u8, wrap_u32, wrap_u64, rem_in, quo_in]); first | done | with_reducible rfl | (constructor <;> with_reducible rfl))))
                      | apply d_block
                      | (apply d_true; (focus rfl); (focus rfl))
                      | (apply d_false; (focus rfl); (focus rfl))
                      | apply d_skip
                      | apply d_exit
                      | apply d_ret
                      | with_reducible apply kt_ret
                      | with_reducible apply kt_exit
                      | with_reducible apply kb_normal
                      | with_reducible apply kb_ret
                      | with_reducible apply kb_here
                      | with_reducible apply kl_ret
                      | with_reducible apply kl_exit
                      | with_reducible apply kc_ret
                      | with_reducible apply kc_exit
                      | (with_reducible apply kb_there; (focus rfl))
                    refine d_draw (true, [([], []), ([0], [0]), ([], []), ([1, 2], [1, 2]), ([3], [3]), ([4], [4]), ([], []), ([6], [6]), ([5, 7], [5, 7]), ([8], [8]), ([9], [9]), ([10, 9], [9, 10]), ([9], [9]), ([11, 12, 9], [9, 11, 12]), ([13, 9], [9, 13]), ([14, 9], [9, 14]), ([9], [9]), ([16, 9], [9, 16]), ([15, 17, 9], [9, 15, 17]), ([9, 18], [9, 18])]) [(0, 0), (0, 1), (0, 2), (0, 3), (0, 4), (0, 5), (0, 6), (0, 7), (0, 8), (0, 9), (0, 10), (0, 11), (0, 12), (0, 13), (0, 14), (0, 15), (0, 16), (0, 17), (0, 18), (0, 19)] [999999] (fun W => W.cell? ⟨ob, 1, none⟩ = some (.slice (some ⟨g, o, none⟩) ls.length c) ∧ W.cell? ⟨g, o + j * 3, none⟩ = some (.int .u16 x.item) ∧ W.cell? ⟨g, o + j * 3 + 1, none⟩ = some (.int .u16 x.loc) ∧ W.cell? ⟨yb, 0, none⟩ = some (.int .u16 y.item) ∧ W.cell? ⟨yb, 1, none⟩ = some (.int .u16 y.loc)) (by kernel_rfl) (by kernel_rfl) (by kernel_rfl) (by kernel_rfl) ⟨e1, e2, e3, e4, e5⟩ ?_
                    iterate 20
                      first | (apply s_off; (focus rfl); (focus rfl); (focus rfl)) | (apply s_yield; (focus rfl); (focus rfl); (focus rfl); (focus rfl); (focus (intro W hS; obtain ⟨hS1, hS2, hS3, hS4, hS5⟩ := hS; go_simp; (try simp (disch := omega) only [wrap_in, wrap_in', wrap_u16, wrap_u8, wrap_u32, wrap_u64, rem_in, quo_in]); first | done | with_reducible rfl | (constructor <;> with_reducible rfl))))
                    refine s_done ?_
                    repeat first
                      | apply d_seq
                      | with_reducible apply kt_normal
                      | apply l_nil
                      | apply d_region
                      | (apply l_off; (focus rfl); (focus rfl))
                      | (apply l_val; (focus rfl); (focus rfl); (focus rfl); (focus (go_simp; (try simp (disch := omega) only [wrap_in, wrap_in', wrap_u16, wrap_u8, wrap_u32, wrap_u64, rem_in, quo_in]); first | done | with_reducible rfl | (constructor <;> with_reducible rfl))))
                      | (apply l_store; (focus rfl); (focus rfl); (focus rfl); (focus (go_simp; (try simp (disch := omega) only [wrap_in, wrap_in', wrap_u16, wrap_u8, wrap_u32, wrap_u64, rem_in, quo_in]); first | done | with_reducible rfl | (constructor <;> with_reducible rfl))))
                      | apply d_block
                      | (apply d_true; (focus rfl); (focus rfl))
                      | (apply d_false; (focus rfl); (focus rfl))
                      | apply d_skip
                      | apply d_exit
                      | apply d_ret
                      | with_reducible apply kt_ret
                      | with_reducible apply kt_exit
                      | with_reducible apply kb_normal
                      | with_reducible apply kb_ret
                      | with_reducible apply kb_here
                      | with_reducible apply kl_ret
                      | with_reducible apply kl_exit
                      | with_reducible apply kc_ret
                      | with_reducible apply kc_exit
                      | (with_reducible apply kb_there; (focus rfl))
                    refine ⟨rfl, _, (by first | (simp [resultsG, resOne, Try.results29, rho, List.lookup]; done) | (simp [resultsG, resOne, Try.results29, rho, List.lookup]; rfl)), ?_⟩
                    exact ⟨by rw [HR.out, HH.out.2, HE.out], HY.out.old⟩
                  | false =>
                    rw [Bool.false_or] at hst
                    obtain ⟨u2, hu2⟩ : ∃ u, (x.loc == y.loc) = u := ⟨_, rfl⟩
                    rw [hu2] at hst
                    cases u2 with
                    | true =>
                      have h8 := HMONO.out hst
                      rw [HL.out, if_pos h8, if_neg (by decide)] at HE
                      clear h8 hst
                      repeat first
                        | apply d_seq
                        | with_reducible apply kt_normal
                        | apply l_nil
                        | apply d_region
                        | (apply l_off; (focus rfl); (focus rfl))
                        | (apply l_val; (focus rfl); (focus rfl); (focus rfl); (focus (go_simp; (try simp (disch := omega) only [wrap_in, wrap_in', wrap_u16, wrap_u8, wrap_u32, wrap_u64, rem_in, quo_in]); first | done | with_reducible rfl | (constructor <;> with_reducible rfl))))
                        | (apply l_store; (focus rfl); (focus rfl); (focus rfl); (focus (go_simp; (try simp (disch := omega) only [wrap_in, wrap_in', wrap_u16, wrap_u8, wrap_u32, wrap_u64, rem_in, quo_in]); first | done | with_reducible rfl | (constructor <;> with_reducible rfl))))
                        | apply d_block
                        | (apply d_true; (focus rfl); (focus rfl))
                        | (apply d_false; (focus rfl); (focus rfl))
                        | apply d_skip
                        | apply d_exit
                        | apply d_ret
                        | with_reducible apply kt_ret
                        | with_reducible apply kt_exit
                        | with_reducible apply kb_normal
                        | with_reducible apply kb_ret
                        | with_reducible apply kb_here
                        | with_reducible apply kl_ret
                        | with_reducible apply kl_exit
                        | with_reducible apply kc_ret
                        | with_reducible apply kc_exit
                        | (with_reducible apply kb_there; (focus rfl))
                      refine d_draw (true, [([], []), ([0], [0]), ([], []), ([1, 2], [1, 2]), ([3], [3]), ([4], [4]), ([], []), ([6], [6]), ([5, 7], [5, 7]), ([8], [8]), ([9], [9]), ([10, 9], [9, 10]), ([9], [9]), ([11, 12, 9], [9, 11, 12]), ([13, 9], [9, 13]), ([14, 9], [9, 14]), ([9], [9]), ([16, 9], [9, 16]), ([15, 17, 9], [9, 15, 17]), ([9, 18], [9, 18])]) [(0, 0), (0, 1), (0, 2), (0, 3), (0, 4), (0, 5), (0, 6), (0, 7), (0, 8), (0, 9), (0, 10), (0, 11), (0, 12), (0, 13), (0, 14), (0, 15), (0, 16), (0, 17), (0, 18), (0, 19)] [999999] (fun W => W.cell? ⟨ob, 1, none⟩ = some (.slice (some ⟨g, o, none⟩) ls.length c) ∧ W.cell? ⟨g, o + j * 3, none⟩ = some (.int .u16 x.item) ∧ W.cell? ⟨g, o + j * 3 + 1, none⟩ = some (.int .u16 x.loc) ∧ W.cell? ⟨yb, 0, none⟩ = some (.int .u16 y.item) ∧ W.cell? ⟨yb, 1, none⟩ = some (.int .u16 y.loc)) (by kernel_rfl) (by kernel_rfl) (by kernel_rfl) (by kernel_rfl) ⟨e1, e2, e3, e4, e5⟩ ?_
                      iterate 20
                        first | (apply s_off; (focus rfl); (focus rfl); (focus rfl)) | (apply s_yield; (focus rfl); (focus rfl); (focus rfl); (focus rfl); (focus (intro W hS; obtain ⟨hS1, hS2, hS3, hS4, hS5⟩ := hS; go_simp; (try simp (disch := omega) only [wrap_in, wrap_in', wrap_u16, wrap_u8, wrap_u32, wrap_u64, rem_in, quo_in]); first | done | with_reducible rfl | (constructor <;> with_reducible rfl))))
                      refine s_done ?_
                      repeat first
                        | apply d_seq
                        | with_reducible apply kt_normal
                        | apply l_nil
                        | apply d_region
                        | (apply l_off; (focus rfl); (focus rfl))
                        | (apply l_val; (focus rfl); (focus rfl); (focus rfl); (focus (go_simp; (try simp (disch := omega) only [wrap_in, wrap_in', wrap_u16, wrap_u8, wrap_u32, wrap_u64, rem_in, quo_in]); first | done | with_reducible rfl | (constructor <;> with_reducible rfl))))
                        | (apply l_store; (focus rfl); (focus rfl); (focus rfl); (focus (go_simp; (try simp (disch := omega) only [wrap_in, wrap_in', wrap_u16, wrap_u8, wrap_u32, wrap_u64, rem_in, quo_in]); first | done | with_reducible rfl | (constructor <;> with_reducible rfl))))
                        | apply d_block
                        | (apply d_true; (focus rfl); (focus rfl))
                        | (apply d_false; (focus rfl); (focus rfl))
                        | apply d_skip
                        | apply d_exit
                        | apply d_ret
                        | with_reducible apply kt_ret
                        | with_reducible apply kt_exit
                        | with_reducible apply kb_normal
                        | with_reducible apply kb_ret
                        | with_reducible apply kb_here
                        | with_reducible apply kl_ret
                        | with_reducible apply kl_exit
                        | with_reducible apply kc_ret
                        | with_reducible apply kc_exit
                        | (with_reducible apply kb_there; (focus rfl))
                      refine ⟨rfl, _, (by first | (simp [resultsG, resOne, Try.results29, rho, List.lookup]; done) | (simp [resultsG, resOne, Try.results29, rho, List.lookup]; rfl)), ?_⟩
                      exact ⟨by rw [HR.out, HH.out.2, HE.out], HY.out.old⟩
                    | false =>
                      have HST := Lib.hid hst
                      clear hst
                      repeat first
                        | apply d_seq
                        | with_reducible apply kt_normal
                        | apply l_nil
                        | apply d_region
                        | (apply l_off; (focus rfl); (focus rfl))
                        | (apply l_val; (focus rfl); (focus rfl); (focus rfl); (focus (go_simp; (try simp (disch := omega) only [wrap_in, wrap_in', wrap_u16, wrap_u8, wrap_u32, wrap_u64, rem_in, quo_in]); first | done | with_reducible rfl | (constructor <;> with_reducible rfl))))
                        | (apply l_store; (focus rfl); (focus rfl); (focus rfl); (focus (go_simp; (try simp (disch := omega) only [wrap_in, wrap_in', wrap_u16, wrap_u8, wrap_u32, wrap_u64, rem_in, quo_in]); first | done | with_reducible rfl | (constructor <;> with_reducible rfl))))
                        | apply d_block
                        | (apply d_true; (focus rfl); (focus rfl))
                        | (apply d_false; (focus rfl); (focus rfl))
                        | apply d_skip
                        | apply d_exit
                        | apply d_ret
                        | with_reducible apply kt_ret
                        | with_reducible apply kt_exit
                        | with_reducible apply kb_normal
                        | with_reducible apply kb_ret
                        | with_reducible apply kb_here
                        | with_reducible apply kl_ret
                        | with_reducible apply kl_exit
                        | with_reducible apply kc_ret
                        | with_reducible apply kc_exit
                        | (with_reducible apply kb_there; (focus rfl))
                      refine d_draw (true, [([], []), ([0], [0]), ([], []), ([1, 2], [1, 2]), ([3], [3]), ([4], [4]), ([], []), ([6], [6]), ([5, 7], [5, 7]), ([8], [8]), ([9], [9]), ([10, 9], [9, 10]), ([9], [9]), ([11, 12, 9], [9, 11, 12]), ([13, 9], [9, 13]), ([14, 9], [9, 14]), ([9], [9]), ([16, 9], [9, 16]), ([15, 17, 9], [9, 15, 17]), ([9, 18], [9, 18])]) [(0, 0), (0, 1), (0, 2), (0, 3), (0, 4), (0, 5), (0, 6), (0, 7), (0, 8), (0, 9), (0, 10), (0, 11), (0, 12), (0, 13), (0, 14), (0, 15), (0, 16), (0, 17), (0, 18), (0, 19)] [999999] (fun W => W.cell? ⟨ob, 1, none⟩ = some (.slice (some ⟨g, o, none⟩) ls.length c) ∧ W.cell? ⟨g, o + j * 3, none⟩ = some (.int .u16 x.item) ∧ W.cell? ⟨g, o + j * 3 + 1, none⟩ = some (.int .u16 x.loc) ∧ W.cell? ⟨yb, 0, none⟩ = some (.int .u16 y.item) ∧ W.cell? ⟨yb, 1, none⟩ = some (.int .u16 y.loc)) (by kernel_rfl) (by kernel_rfl) (by kernel_rfl) (by kernel_rfl) ⟨e1, e2, e3, e4, e5⟩ ?_
                      iterate 20
                        first | (apply s_off; (focus rfl); (focus rfl); (focus rfl)) | (apply s_yield; (focus rfl); (focus rfl); (focus rfl); (focus rfl); (focus (intro W hS; obtain ⟨hS1, hS2, hS3, hS4, hS5⟩ := hS; go_simp; (try simp (disch := omega) only [wrap_in, wrap_in', wrap_u16, wrap_u8, wrap_u32, wrap_u64, rem_in, quo_in]); first | done | with_reducible rfl | (constructor <;> with_reducible rfl))))
                      refine s_done ?_
                      repeat first
                        | apply d_seq
                        | with_reducible apply kt_normal
                        | apply l_nil
                        | apply d_region
                        | (apply l_off; (focus rfl); (focus rfl))
                        | (apply l_val; (focus rfl); (focus rfl); (focus rfl); (focus (go_simp; (try simp (disch := omega) only [wrap_in, wrap_in', wrap_u16, wrap_u8, wrap_u32, wrap_u64, rem_in, quo_in]); first | done | with_reducible rfl | (constructor <;> with_reducible rfl))))
                        | (apply l_store; (focus rfl); (focus rfl); (focus rfl); (focus (go_simp; (try simp (disch := omega) only [wrap_in, wrap_in', wrap_u16, wrap_u8, wrap_u32, wrap_u64, rem_in, quo_in]); first | done | with_reducible rfl | (constructor <;> with_reducible rfl))))
                        | apply d_block
                        | (apply d_true; (focus rfl); (focus rfl))
                        | (apply d_false; (focus rfl); (focus rfl))
                        | apply d_skip
                        | apply d_exit
                        | apply d_ret
                        | with_reducible apply kt_ret
                        | with_reducible apply kt_exit
                        | with_reducible apply kb_normal
                        | with_reducible apply kb_ret
                        | with_reducible apply kb_here
                        | with_reducible apply kl_ret
                        | with_reducible apply kl_exit
                        | with_reducible apply kc_ret
                        | with_reducible apply kc_exit
                        | (with_reducible apply kb_there; (focus rfl))
                      refine kl_normal (k - (j + 1)) _ (by omega) (Subl.cons (t := 1) (by decide) rfl (Subl.cons (t := 3) (by decide) rfl (Subl.cons (t := 4) (by decide) rfl (Subl.cons (t := 5) (by decide) rfl (Subl.nil _ _))))) ?_
                      exact ⟨j + 1, rfl, by omega, rfl, HY, HST⟩
                · have hjk' : j = k := by omega
                  subst hjk'
                  rw [HL.out, HJ.out, if_neg (show ¬ (false = true) by decide), if_pos rfl] at HE
                  repeat first
                    | apply d_seq
                    | with_reducible apply kt_normal
                    | apply l_nil
                    | apply d_region
                    | (apply l_off; (focus rfl); (focus rfl))
                    | (apply l_val; (focus rfl); (focus rfl); (focus rfl); (focus (go_simp; (try simp (disch := omega) only [wrap_in, wrap_in', wrap_u16, wrap_u8, wrap_u32, wrap_u64, rem_in, quo_in]); first | done | with_reducible rfl | (constructor <;> with_reducible rfl))))
                    | (apply l_store; (focus rfl); (focus rfl); (focus rfl); (focus (go_simp; (try simp (disch := omega) only [wrap_in, wrap_in', wrap_u16, wrap_u8, wrap_u32, wrap_u64, rem_in, quo_in]); first | done | with_reducible rfl | (constructor <;> with_reducible rfl))))
                    | apply d_block
                    | (apply d_true; (focus rfl); (focus rfl))
                    | (apply d_false; (focus rfl); (focus rfl))
                    | apply d_skip
                    | apply d_exit
                    | apply d_ret
                    | with_reducible apply kt_ret
                    | with_reducible apply kt_exit
                    | with_reducible apply kb_normal
                    | with_reducible apply kb_ret
                    | with_reducible apply kb_here
                    | with_reducible apply kl_ret
                    | with_reducible apply kl_exit
                    | with_reducible apply kc_ret
                    | with_reducible apply kc_exit
                    | (with_reducible apply kb_there; (focus rfl))
                  refine kl_normal (ls.length - (j + 1)) _ (by omega) (Subl.cons (t := 1) (by decide) rfl (Subl.cons (t := 3) (by decide) rfl (Subl.nil _ _))) ?_
                  exact ⟨j + 1, rfl, by omega, rfl, Lib.hid ⟨HX.out.only (i := 0) rfl, HH.out.2.trans HE.out⟩⟩
        · repeat first
            | apply d_seq
            | with_reducible apply kt_normal
            | apply l_nil
            | apply d_region
            | (apply l_off; (focus rfl); (focus rfl))
            | (apply l_val; (focus rfl); (focus rfl); (focus rfl); (focus (go_simp; (try simp (disch := omega) only [wrap_in, wrap_in', wrap_u16, wrap_u8, wrap_u32, wrap_u64, rem_in, quo_in]); first | done | with_reducible rfl | (constructor <;> with_reducible rfl))))
            | (apply l_store; (focus rfl); (focus rfl); (focus rfl); (focus (go_simp; (try simp (disch := omega) only [wrap_in, wrap_in', wrap_u16, wrap_u8, wrap_u32, wrap_u64, rem_in, quo_in]); first | done | with_reducible rfl | (constructor <;> with_reducible rfl))))
            | apply d_block
            | (apply d_true; (focus rfl); (focus rfl))
            | (apply d_false; (focus rfl); (focus rfl))
            | apply d_skip
            | apply d_exit
            | apply d_ret
            | with_reducible apply kt_ret
            | with_reducible apply kt_exit
            | with_reducible apply kb_normal
            | with_reducible apply kb_ret
            | with_reducible apply kb_here
            | with_reducible apply kl_ret
            | with_reducible apply kl_exit
            | with_reducible apply kc_ret
            | with_reducible apply kc_exit
            | (with_reducible apply kb_there; (focus rfl))
          refine ⟨rfl, _, (by first | (simp [resultsG, resOne, Try.results29, rho, List.lookup]; done) | (simp [resultsG, resOne, Try.results29, rho, List.lookup]; rfl)), ?_⟩
          exact ⟨by rw [HR.out, HH.out.2, show ls.length - k = 0 by omega]; rfl, HH.out.1.old⟩
/-! A copy, and Open. -/
theorem Try.infoLn5 : (Try.prog.info? 59).map (fun i => (i.zero, i.size, i.bytes)) = some (some (.agg #[.int .u16 0, .int .u16 0, .int .i64 0]), 3, 16) := by kernel_rfl
theorem appF_ln {F : Nat → Prop} {w0 w : World} {L : List (Asrt 0)} (H : HasF F w0 w L) {k n m : Nat} {v x : Value} {xs ys : List Ln} (hi : L[k]? = some (OwnA 0 59 3 v n (lns xs))) {G : Nat → Prop} (hx : SeesIn w G 3 x m (lns ys)) (hm : n + m ≤ 1000) :
    ∃ A cap w', (Builtin.append_ #[32, 32] 32 #[v, x]).run Try.prog w = .ok (.slice A (n + m) cap) w' ∧ n + m ≤ cap ∧ cap ≤ 9223372036854775807 ∧
      HasF F w0 w' (L.set k (OwnA 0 59 3 (.slice A (n + m) cap) (n + m) (lns (xs ++ ys)))) := by
  obtain ⟨i0, hi0, hz0, hz1, hz2⟩ := info_parts Try.infoLn5
  have := H.app (P := Try.prog) hi hx 32 i0 _ 16 Try.underlying32 hi0 hz0 hz1 hz2 rfl (by decide) (by unfold maxLen; omega) (by omega) 32
  unfold lns at *
  rw [List.flatMap_append]
  exact this
theorem run_l0 (w : World) : (Instr.buildSlice 32 0 #[]).run Try.prog w = .ok (.slice (some ⟨w.heap.size, 0, none⟩) 0 0) (w.alloc (.cells #[] 59)) := by kernel_rfl
set_option maxRecDepth 100000 in
set_option maxHeartbeats 2000000 in
theorem rOwn_any (id : Int) (v : Value) (ls : List Ln) (F : Nat → Prop) (w : World) (h : SeesIn w F 3 v ls.length (lns ls)) (hl : ls.length ≤ 100) :
    Calls Try.prog 31 #[.agg #[.int .u32 id, v]] w fun e w' => ∃ A c, e = .returned (.agg #[.int .u32 id, .slice A ls.length c]) ∧ HasF none_ w w' [OwnA 0 59 3 (.slice A ls.length c) ls.length (lns ls)] := by
  have H := Lib.hid h
  obtain ⟨A, c, rfl, h1, h2, -⟩ := h.form
  clear h
  refine d_calls (n := 10) Try.func31 rfl rfl (by simp) [(0, .agg #[.int .u32 id, .slice A ls.length c])] (by simp) ?_
  repeat first
    | apply d_seq
    | with_reducible apply kt_normal
    | apply l_nil
    | apply d_region
    | (apply l_off; (focus rfl); (focus rfl))
    | (apply l_val; (focus rfl); (focus rfl); (focus rfl); (focus (go_simp; (try simp (disch := omega) only [wrap_in, wrap_in', wrap_u16, wrap_u8, wrap_u32, wrap_u64, rem_in, quo_in]); first | done | with_reducible rfl | (constructor <;> with_reducible rfl))))
    | (apply l_store; (focus rfl); (focus rfl); (focus rfl); (focus (go_simp; (try simp (disch := omega) only [wrap_in, wrap_in', wrap_u16, wrap_u8, wrap_u32, wrap_u64, rem_in, quo_in]); first | done | with_reducible rfl | (constructor <;> with_reducible rfl))))
    | apply d_block
    | (apply d_true; (focus rfl); (focus rfl))
    | (apply d_false; (focus rfl); (focus rfl))
    | apply d_skip
    | apply d_exit
    | apply d_ret
    | with_reducible apply kt_ret
    | with_reducible apply kt_exit
    | with_reducible apply kb_normal
    | with_reducible apply kb_ret
    | with_reducible apply kb_here
    | with_reducible apply kl_ret
    | with_reducible apply kl_exit
    | with_reducible apply kc_ret
    | with_reducible apply kc_exit
    | (with_reducible apply kb_there; (focus rfl))
  have hx0 := ((HasF.nil (Keep.refl none_ w)).box #[.int .u32 id, .slice A ls.length c] 34).box #[.int .u32 0, .slice none 0 0] 34
  simp only [List.nil_append, List.cons_append] at hx0
  rw [show (w.alloc (.cells #[.int .u32 id, .slice A ls.length c] 34)).heap.size = w.heap.size + 1 by simp] at hx0
  generalize (w.alloc (.cells #[.int .u32 id, .slice A ls.length c] 34)).alloc (.cells #[.int .u32 0, .slice none 0 0] 34) = w1 at *
  generalize w.heap.size + 1 = rb at *
  generalize w.heap.size = ob at *
  obtain ⟨b0, b1, -⟩ := blk2 (hx0.blk (i := 0) rfl)
  have e0 : w1.drew.cell? ⟨ob, 0, none⟩ = some (.int .u32 id) := b0
  have e1 : w1.drew.cell? ⟨ob, 1, none⟩ = some (.slice A ls.length c) := b1
  have hx1 := hx0.drew.newRow 59 3
  simp only [List.nil_append, List.cons_append] at hx1
  obtain ⟨A2, c2, w2, hr, q1, q2, hx2⟩ := appF_ln hx1 (k := 2) (xs := []) rfl (H.out.keep hx1.old) (by omega)
  simp only [List.set_cons_zero, List.set_cons_succ, List.nil_append, Nat.zero_add] at hx2 hr q1
  obtain ⟨y0, y1, -⟩ := blk2 (hx2.blk (i := 0) rfl)
  obtain ⟨r0, r1, rf0, rf1⟩ := blk2 (hx2.blk (i := 1) rfl)
  have hx3 := (hx2.put (i := 1) rfl 0 (.int .u32 id)).put (i := 1) rfl 1 (.slice A2 ls.length c2)
  simp only [List.set_cons_zero, List.set_cons_succ] at hx3
  have HY := Lib.hid (hx3.only (i := 2) rfl)
  obtain ⟨z0, z1, -⟩ := blk2 (hx3.blk (i := 1) rfl)
  have HZ := Lib.hid (And.intro z0 z1)
  clear hx0 hx1 hx2 hx3 z0 z1 b0 b1
  refine d_draw (true, [([], []), ([0], [0]), ([], []), ([], []), ([3], [3]), ([2, 4], [2, 4]), ([1, 5], [1, 5]), ([6, 5, 0, 1, 2, 3, 4, 5, 6], [6])]) [(0, 0), (0, 1), (0, 3), (0, 4), (1, 2), (1, 5), (0, 6), (2, 7)] [7] (fun W => W.cell? ⟨ob, 0, none⟩ = some (.int .u32 id) ∧ W.cell? ⟨ob, 1, none⟩ = some (.slice A ls.length c)) (by kernel_rfl) (by kernel_rfl) (by kernel_rfl) (by kernel_rfl) ⟨e0, e1⟩ ?_
  iterate 4
    first | (apply s_off; (focus rfl); (focus rfl); (focus rfl)) | (apply s_yield; (focus rfl); (focus rfl); (focus rfl); (focus rfl); (focus (intro W hS; obtain ⟨hS1, hS2⟩ := hS; go_simp; (try simp (disch := omega) only [wrap_in, wrap_in', wrap_u16, wrap_u8, wrap_u32, wrap_u64, rem_in, quo_in]); first | done | with_reducible rfl | (constructor <;> with_reducible rfl))))
  refine s_op rfl rfl rfl rfl (exec_build 32 #[] rfl rfl (run_l0 _)) ⟨cell_old _ e0, cell_old _ e1⟩ ?_
  refine s_op rfl rfl rfl rfl (exec_append (.tmp 5) (.tmp 7) 32 rfl _ _ rfl rfl hr) ⟨y0, y1⟩ ?_
  iterate 1
    first | (apply s_off; (focus rfl); (focus rfl); (focus rfl)) | (apply s_yield; (focus rfl); (focus rfl); (focus rfl); (focus rfl); (focus (intro W hS; obtain ⟨hS1, hS2⟩ := hS; go_simp; (try simp (disch := omega) only [wrap_in, wrap_in', wrap_u16, wrap_u8, wrap_u32, wrap_u64, rem_in, quo_in]); first | done | with_reducible rfl | (constructor <;> with_reducible rfl))))
  first | (apply s_last; (focus rfl); (focus rfl); (focus rfl); (focus rfl); (focus (go_simp; (try simp (disch := omega) only [wrap_in, wrap_in', wrap_u16, wrap_u8, wrap_u32, wrap_u64, rem_in, quo_in]); first | done | with_reducible rfl | (constructor <;> with_reducible rfl)))) | (apply s_laststore; (focus rfl); (focus rfl); (focus rfl); (focus rfl); (focus (go_simp; (try simp (disch := omega) only [wrap_in, wrap_in', wrap_u16, wrap_u8, wrap_u32, wrap_u64, rem_in, quo_in]); first | done | with_reducible rfl | (constructor <;> with_reducible rfl))))
  refine s_done ?_
  clear hr y0 y1 r0 r1 rf0 rf1 e0 e1
  generalize (w2.setCell ⟨rb, 0, none⟩ (.int .u32 id)).setCell ⟨rb, 1, none⟩ (.slice A2 ls.length c2) = w3 at *
  have z0 := HZ.out.1
  have z1 := HZ.out.2
  repeat first
    | apply d_seq
    | with_reducible apply kt_normal
    | apply l_nil
    | apply d_region
    | (apply l_off; (focus rfl); (focus rfl))
    | (apply l_val; (focus rfl); (focus rfl); (focus rfl); (focus (go_simp; (try simp (disch := omega) only [wrap_in, wrap_in', wrap_u16, wrap_u8, wrap_u32, wrap_u64, rem_in, quo_in]); first | done | with_reducible rfl | (constructor <;> with_reducible rfl))))
    | (apply l_store; (focus rfl); (focus rfl); (focus rfl); (focus (go_simp; (try simp (disch := omega) only [wrap_in, wrap_in', wrap_u16, wrap_u8, wrap_u32, wrap_u64, rem_in, quo_in]); first | done | with_reducible rfl | (constructor <;> with_reducible rfl))))
    | apply d_block
    | (apply d_true; (focus rfl); (focus rfl))
    | (apply d_false; (focus rfl); (focus rfl))
    | apply d_skip
    | apply d_exit
    | apply d_ret
    | with_reducible apply kt_ret
    | with_reducible apply kt_exit
    | with_reducible apply kb_normal
    | with_reducible apply kb_ret
    | with_reducible apply kb_here
    | with_reducible apply kl_ret
    | with_reducible apply kl_exit
    | with_reducible apply kc_ret
    | with_reducible apply kc_exit
    | (with_reducible apply kb_there; (focus rfl))
  refine ⟨rfl, .agg #[.int .u32 id, .slice A2 ls.length c2], ?_, A2, c2, rfl, HY.out⟩
  simp [resultsG, resOne, Try.results31, rho, List.lookup]
  go_simp
end Go.Proofs.Ytkjcmnhhgnlaeaa
