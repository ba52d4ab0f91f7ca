import Derived.Test.YtilmodbiimjllaaTot7
namespace Go.Proofs.Ytilmodbiimjllaa
set_option linter.unusedVariables false
set_option linter.unusedSimpArgs false
attribute [local go_sem] rho_const rho_func rho_hit rho_miss
open Go.RowKit
attribute [local go_sem] min2_mn min_two' max2_mx max_two'
def sk (row : List Int) : TS := ⟨64, [[], row, []]⟩
theorem sk_put (row : List Int) (x : Int) : ∃ row', ((sk row).put x 1).1 = sk row' := by
  have hz : (sk row).zone 1 = some 1 := rfl
  unfold TS.put
  rw [hz]
  simp only
  split
  · exact ⟨row, rfl⟩
  · split
    · exact ⟨row, rfl⟩
    · exact ⟨row ++ [x], rfl⟩
theorem rot_step {l : List Int} {k : Nat} {y : Int} (hy : l[k]? = some y) : l.drop k ++ l.take k = y :: (l.drop (k + 1) ++ l.take k) ∧ (l.drop (k + 1) ++ l.take k) ++ [y] = l.drop (k + 1) ++ l.take (k + 1) := by
  have hk := (List.getElem?_eq_some_iff.1 hy)
  refine ⟨?_, ?_⟩
  · rw [List.drop_eq_getElem_cons hk.1, hk.2]; rfl
  · rw [List.append_assoc, List.take_add_one, hy]; rfl
set_option maxRecDepth 100000 in
set_option maxHeartbeats 4000000 in
theorem toteSkips_any {w : World} {A0 : Option Addr} {n0 cq0 : Nat} {l0 : List Int}
    (h0 : SeesIn w (fun k => k < w.heap.size) 1 (.slice A0 n0 cq0) l0.length (l0.flatMap (fun y => [Value.int .u16 y])) ∧ ∀ x ∈ l0, 0 ≤ x ∧ x ≤ 65535) :
    Calls Try.prog 6 #[.slice A0 n0 cq0] w fun e w' => e = .returned (.bool true) ∧ Keep none_ w w' := by
  obtain ⟨hs0, -⟩ := h0
  obtain ⟨rfl, b0, b0'⟩ := hs0.form'
  have HX := Lib.hid (Has.nil (Keep.refl none_ w))
  have HS0 := Lib.hid hs0
  clear hs0
  refine d_calls (n := 75) Try.func6 rfl rfl (by simp) [(0, .slice A0 l0.length cq0)] (by simp) ?_
  repeat first
    | apply d_seq
    | with_reducible apply kt_normal
    | apply l_nil
    | apply d_region
    | (apply l_off; (focus rfl); (focus rfl))
    | (apply l_val; (focus rfl); (focus rfl); (focus rfl); (focus (go_simp; (try simp (disch := omega) only [wrap_in, wrap_in', wrap_u16, wrap_u8, wrap_u32, wrap_u64, rem_in, quo_in]); first | done | with_reducible rfl | (constructor <;> with_reducible rfl))))
    | (apply l_store; (focus rfl); (focus rfl); (focus rfl); (focus (go_simp; (try simp (disch := omega) only [wrap_in, wrap_in', wrap_u16, wrap_u8, wrap_u32, wrap_u64, rem_in, quo_in]); first | done | with_reducible rfl | (constructor <;> with_reducible rfl))))
    | apply d_block
    | (apply d_true; (focus rfl); (focus rfl))
    | (apply d_false; (focus rfl); (focus rfl))
    | apply d_skip
    | apply d_exit
    | apply d_ret
    | with_reducible apply kt_ret
    | with_reducible apply kt_exit
    | with_reducible apply kb_normal
    | with_reducible apply kb_ret
    | with_reducible apply kb_here
    | with_reducible apply kl_ret
    | with_reducible apply kl_exit
    | with_reducible apply kc_ret
    | with_reducible apply kc_exit
    | (with_reducible apply kb_there; (focus rfl))
  refine l_call rfl rfl rfl (by first | (go_simp; done) | (go_simp; rfl)) (shown_has HX.out) ?_
  rintro e w' ⟨rfl, hx⟩
  clear HX
  try simp only [List.nil_append, List.cons_append, List.set_cons_zero, List.set_cons_succ] at hx
  have HX := Lib.hid hx
  clear hx
  refine ⟨_, rfl, ?_⟩
  repeat first
    | apply d_seq
    | with_reducible apply kt_normal
    | apply l_nil
    | apply d_region
    | (apply l_off; (focus rfl); (focus rfl))
    | (apply l_val; (focus rfl); (focus rfl); (focus rfl); (focus (go_simp; (try simp (disch := omega) only [wrap_in, wrap_in', wrap_u16, wrap_u8, wrap_u32, wrap_u64, rem_in, quo_in]); first | done | with_reducible rfl | (constructor <;> with_reducible rfl))))
    | (apply l_store; (focus rfl); (focus rfl); (focus rfl); (focus (go_simp; (try simp (disch := omega) only [wrap_in, wrap_in', wrap_u16, wrap_u8, wrap_u32, wrap_u64, rem_in, quo_in]); first | done | with_reducible rfl | (constructor <;> with_reducible rfl))))
    | apply d_block
    | (apply d_true; (focus rfl); (focus rfl))
    | (apply d_false; (focus rfl); (focus rfl))
    | apply d_skip
    | apply d_exit
    | apply d_ret
    | with_reducible apply kt_ret
    | with_reducible apply kt_exit
    | with_reducible apply kb_normal
    | with_reducible apply kb_ret
    | with_reducible apply kb_here
    | with_reducible apply kl_ret
    | with_reducible apply kl_exit
    | with_reducible apply kc_ret
    | with_reducible apply kc_exit
    | (with_reducible apply kb_there; (focus rfl))
  have hc := new_has HX.out 3 64 3 64 rfl rfl
  rw [show TS.init 64 3 = sk [] from rfl] at hc
  have HC := Lib.hid hc
  clear hc
  refine l_call rfl rfl rfl (by first | (go_simp; done) | (go_simp; rfl)) (HC.out) ?_
  rintro e w' ⟨t, zb, rfl, hx⟩
  clear HX HC
  try simp only [List.nil_append, List.cons_append, List.set_cons_zero, List.set_cons_succ] at hx
  have HX := Lib.hid hx
  clear hx
  refine ⟨_, rfl, ?_⟩
  repeat first
    | apply d_seq
    | with_reducible apply kt_normal
    | apply l_nil
    | apply d_region
    | (apply l_off; (focus rfl); (focus rfl))
    | (apply l_val; (focus rfl); (focus rfl); (focus rfl); (focus (go_simp; (try simp (disch := omega) only [wrap_in, wrap_in', wrap_u16, wrap_u8, wrap_u32, wrap_u64, rem_in, quo_in]); first | done | with_reducible rfl | (constructor <;> with_reducible rfl))))
    | (apply l_store; (focus rfl); (focus rfl); (focus rfl); (focus (go_simp; (try simp (disch := omega) only [wrap_in, wrap_in', wrap_u16, wrap_u8, wrap_u32, wrap_u64, rem_in, quo_in]); first | done | with_reducible rfl | (constructor <;> with_reducible rfl))))
    | ((fail_if_success (with_reducible apply d_block (id := 0))); apply d_block)
    | (apply d_true; (focus rfl); (focus rfl))
    | (apply d_false; (focus rfl); (focus rfl))
    | apply d_skip
    | apply d_exit
    | apply d_ret
    | with_reducible apply kt_ret
    | with_reducible apply kt_exit
    | with_reducible apply kb_normal
    | with_reducible apply kb_ret
    | with_reducible apply kb_here
    | with_reducible apply kl_ret
    | with_reducible apply kl_exit
    | with_reducible apply kc_ret
    | with_reducible apply kc_exit
    | (with_reducible apply kb_there; (focus rfl))
  refine d_join (fun D wr => ∃ row, D = [(3, .bool true), (4, .pointer (some ⟨t, 0, none⟩))] ∧ Hid (Has w wr [TotA w.heap.size t zb (sk row)])) ?_ (fun D wr hcut => ?_)
  · repeat first
      | apply d_seq
      | with_reducible apply kt_normal
      | apply l_nil
      | apply d_region
      | (apply l_off; (focus rfl); (focus rfl))
      | (apply l_val; (focus rfl); (focus rfl); (focus rfl); (focus (go_simp; (try simp (disch := omega) only [wrap_in, wrap_in', wrap_u16, wrap_u8, wrap_u32, wrap_u64, rem_in, quo_in]); first | done | with_reducible rfl | (constructor <;> with_reducible rfl))))
      | (apply l_store; (focus rfl); (focus rfl); (focus rfl); (focus (go_simp; (try simp (disch := omega) only [wrap_in, wrap_in', wrap_u16, wrap_u8, wrap_u32, wrap_u64, rem_in, quo_in]); first | done | with_reducible rfl | (constructor <;> with_reducible rfl))))
      | apply d_block
      | (apply d_true; (focus rfl); (focus rfl))
      | (apply d_false; (focus rfl); (focus rfl))
      | apply d_skip
      | apply d_exit
      | apply d_ret
      | with_reducible apply kt_ret
      | with_reducible apply kt_exit
      | with_reducible apply kb_normal
      | with_reducible apply kb_ret
      | with_reducible apply kb_here
      | with_reducible apply kl_ret
      | with_reducible apply kl_exit
      | with_reducible apply kc_ret
      | with_reducible apply kc_exit
      | (with_reducible apply kb_there; (focus rfl))
    refine d_loop (fun m D wr => ∃ (k : Nat) (row : List Int), m = l0.length - k ∧ k ≤ l0.length ∧ D = [(0, .slice A0 l0.length cq0), (3, .bool true), (4, .pointer (some ⟨t, 0, none⟩)), (5, .int .i64 k)] ∧ Hid (Has w wr [TotA w.heap.size t zb (sk row)])) (l0.length) _ (Subl.cons (t := 0) (by decide) rfl (Subl.cons (t := 3) (by decide) rfl (Subl.cons (t := 4) (by decide) rfl (Subl.cons (t := 5) (by decide) rfl (Subl.nil _ _))))) ?_ (fun m D wr hrel => ?_)
    · exact ⟨0, [], rfl, Nat.zero_le _, rfl, HX⟩
    · clear HX
      obtain ⟨k, row, rfl, hk, rfl, HX⟩ := hrel
      by_cases hlt : k < l0.length
      · by_cases h40 : (k : Int) < 40
        · obtain ⟨y, hy⟩ : ∃ y, l0[k]? = some y := ⟨_, List.getElem?_eq_getElem hlt⟩
          obtain ⟨g1, o1, cp1, e1, -, -, hq3, hq4, d0⟩ := sees_one (.int .u16) (fun _ => rfl) HS0.out hy
          simp only [Value.slice.injEq, true_and] at e1
          obtain ⟨rfl, rfl⟩ := e1
          have D0 := Lib.hid d0
          have HY := Lib.hid hy
          clear d0 hy
          try clear d0
          have d0 := HX.out.cell0 D0.out
          repeat first
            | apply d_seq
            | with_reducible apply kt_normal
            | apply l_nil
            | apply d_region
            | (apply l_off; (focus rfl); (focus rfl))
            | (apply l_val; (focus rfl); (focus rfl); (focus rfl); (focus (go_simp; (try simp (disch := omega) only [wrap_in, wrap_in', wrap_u16, wrap_u8, wrap_u32, wrap_u64, rem_in, quo_in]); first | done | with_reducible rfl | (constructor <;> with_reducible rfl))))
            | (apply l_store; (focus rfl); (focus rfl); (focus rfl); (focus (go_simp; (try simp (disch := omega) only [wrap_in, wrap_in', wrap_u16, wrap_u8, wrap_u32, wrap_u64, rem_in, quo_in]); first | done | with_reducible rfl | (constructor <;> with_reducible rfl))))
            | apply d_block
            | (apply d_true; (focus rfl); (focus rfl))
            | (apply d_false; (focus rfl); (focus rfl))
            | apply d_skip
            | apply d_exit
            | apply d_ret
            | with_reducible apply kt_ret
            | with_reducible apply kt_exit
            | with_reducible apply kb_normal
            | with_reducible apply kb_ret
            | with_reducible apply kb_here
            | with_reducible apply kl_ret
            | with_reducible apply kl_exit
            | with_reducible apply kc_ret
            | with_reducible apply kc_exit
            | (with_reducible apply kb_there; (focus rfl))
          obtain ⟨row', hr⟩ := sk_put row y
          have hc := put_has HX.out 0 t zb _ rfl y 1
          rw [hr] at hc
          have HC := Lib.hid hc
          clear hc
          refine l_call rfl rfl rfl (by first | (go_simp; done) | (go_simp; rfl)) (HC.out) ?_
          rintro e w' ⟨rfl, hx⟩
          clear HX HC
          try simp only [List.nil_append, List.cons_append, List.set_cons_zero, List.set_cons_succ] at hx
          have HX := Lib.hid hx
          clear hx
          refine ⟨_, rfl, ?_⟩
          repeat first
            | apply d_seq
            | with_reducible apply kt_normal
            | apply l_nil
            | apply d_region
            | (apply l_off; (focus rfl); (focus rfl))
            | (apply l_val; (focus rfl); (focus rfl); (focus rfl); (focus (go_simp; (try simp (disch := omega) only [wrap_in, wrap_in', wrap_u16, wrap_u8, wrap_u32, wrap_u64, rem_in, quo_in]); first | done | with_reducible rfl | (constructor <;> with_reducible rfl))))
            | (apply l_store; (focus rfl); (focus rfl); (focus rfl); (focus (go_simp; (try simp (disch := omega) only [wrap_in, wrap_in', wrap_u16, wrap_u8, wrap_u32, wrap_u64, rem_in, quo_in]); first | done | with_reducible rfl | (constructor <;> with_reducible rfl))))
            | apply d_block
            | (apply d_true; (focus rfl); (focus rfl))
            | (apply d_false; (focus rfl); (focus rfl))
            | apply d_skip
            | apply d_exit
            | apply d_ret
            | with_reducible apply kt_ret
            | with_reducible apply kt_exit
            | with_reducible apply kb_normal
            | with_reducible apply kb_ret
            | with_reducible apply kb_here
            | with_reducible apply kl_ret
            | with_reducible apply kl_exit
            | with_reducible apply kc_ret
            | with_reducible apply kc_exit
            | (with_reducible apply kb_there; (focus rfl))
          refine kl_normal (l0.length - (k + 1)) _ (by omega) (Subl.cons (t := 0) (by decide) rfl (Subl.cons (t := 3) (by decide) rfl (Subl.cons (t := 4) (by decide) rfl (Subl.cons (t := 5) (by decide) rfl (Subl.nil _ _))))) ?_
          exact ⟨k + 1, row', rfl, by omega, rfl, HX⟩
        · repeat first
            | apply d_seq
            | with_reducible apply kt_normal
            | apply l_nil
            | apply d_region
            | (apply l_off; (focus rfl); (focus rfl))
            | (apply l_val; (focus rfl); (focus rfl); (focus rfl); (focus (go_simp; (try simp (disch := omega) only [wrap_in, wrap_in', wrap_u16, wrap_u8, wrap_u32, wrap_u64, rem_in, quo_in]); first | done | with_reducible rfl | (constructor <;> with_reducible rfl))))
            | (apply l_store; (focus rfl); (focus rfl); (focus rfl); (focus (go_simp; (try simp (disch := omega) only [wrap_in, wrap_in', wrap_u16, wrap_u8, wrap_u32, wrap_u64, rem_in, quo_in]); first | done | with_reducible rfl | (constructor <;> with_reducible rfl))))
            | apply d_block
            | (apply d_true; (focus rfl); (focus rfl))
            | (apply d_false; (focus rfl); (focus rfl))
            | apply d_skip
            | apply d_exit
            | apply d_ret
            | with_reducible apply kt_ret
            | with_reducible apply kt_exit
            | with_reducible apply kb_normal
            | with_reducible apply kb_ret
            | with_reducible apply kb_here
            | with_reducible apply kl_ret
            | with_reducible apply kl_exit
            | with_reducible apply kc_ret
            | with_reducible apply kc_exit
            | (with_reducible apply kb_there; (focus rfl))
          refine kc_normal _ (Subl.cons (t := 3) (by decide) rfl (Subl.cons (t := 4) (by decide) rfl (Subl.nil _ _))) ?_
          exact ⟨row, rfl, HX⟩
      · repeat first
          | apply d_seq
          | with_reducible apply kt_normal
          | apply l_nil
          | apply d_region
          | (apply l_off; (focus rfl); (focus rfl))
          | (apply l_val; (focus rfl); (focus rfl); (focus rfl); (focus (go_simp; (try simp (disch := omega) only [wrap_in, wrap_in', wrap_u16, wrap_u8, wrap_u32, wrap_u64, rem_in, quo_in]); first | done | with_reducible rfl | (constructor <;> with_reducible rfl))))
          | (apply l_store; (focus rfl); (focus rfl); (focus rfl); (focus (go_simp; (try simp (disch := omega) only [wrap_in, wrap_in', wrap_u16, wrap_u8, wrap_u32, wrap_u64, rem_in, quo_in]); first | done | with_reducible rfl | (constructor <;> with_reducible rfl))))
          | apply d_block
          | (apply d_true; (focus rfl); (focus rfl))
          | (apply d_false; (focus rfl); (focus rfl))
          | apply d_skip
          | apply d_exit
          | apply d_ret
          | with_reducible apply kt_ret
          | with_reducible apply kt_exit
          | with_reducible apply kb_normal
          | with_reducible apply kb_ret
          | with_reducible apply kb_here
          | with_reducible apply kl_ret
          | with_reducible apply kl_exit
          | with_reducible apply kc_ret
          | with_reducible apply kc_exit
          | (with_reducible apply kb_there; (focus rfl))
        refine kc_normal _ (Subl.cons (t := 3) (by decide) rfl (Subl.cons (t := 4) (by decide) rfl (Subl.nil _ _))) ?_
        exact ⟨row, rfl, HX⟩
  clear HX
  obtain ⟨was, rfl, HX⟩ := hcut
  repeat first
    | apply d_seq
    | with_reducible apply kt_normal
    | apply l_nil
    | apply d_region
    | (apply l_off; (focus rfl); (focus rfl))
    | (apply l_val; (focus rfl); (focus rfl); (focus rfl); (focus (go_simp; (try simp (disch := omega) only [wrap_in, wrap_in', wrap_u16, wrap_u8, wrap_u32, wrap_u64, rem_in, quo_in]); first | done | with_reducible rfl | (constructor <;> with_reducible rfl))))
    | (apply l_store; (focus rfl); (focus rfl); (focus rfl); (focus (go_simp; (try simp (disch := omega) only [wrap_in, wrap_in', wrap_u16, wrap_u8, wrap_u32, wrap_u64, rem_in, quo_in]); first | done | with_reducible rfl | (constructor <;> with_reducible rfl))))
    | apply d_block
    | (apply d_true; (focus rfl); (focus rfl))
    | (apply d_false; (focus rfl); (focus rfl))
    | apply d_skip
    | apply d_exit
    | apply d_ret
    | with_reducible apply kt_ret
    | with_reducible apply kt_exit
    | with_reducible apply kb_normal
    | with_reducible apply kb_ret
    | with_reducible apply kb_here
    | with_reducible apply kl_ret
    | with_reducible apply kl_exit
    | with_reducible apply kc_ret
    | with_reducible apply kc_exit
    | (with_reducible apply kb_there; (focus rfl))
  have hc := row_has HX.out 0 t zb _ rfl 1
  rw [show TS.rowZ (sk was) 1 = was from rfl] at hc
  have HC := Lib.hid hc
  clear hc
  refine l_call rfl rfl rfl (by first | (go_simp; done) | (go_simp; rfl)) (HC.out) ?_
  rintro e w' ⟨A, c, rfl, hr1, hr2, hx⟩
  clear HX HC
  try simp only [List.nil_append, List.cons_append, List.set_cons_zero, List.set_cons_succ] at hx
  have HX := Lib.hid hx
  clear hx
  refine ⟨_, rfl, ?_⟩
  repeat first
    | apply d_seq
    | with_reducible apply kt_normal
    | apply l_nil
    | apply d_region
    | (apply l_off; (focus rfl); (focus rfl))
    | (apply l_val; (focus rfl); (focus rfl); (focus rfl); (focus (go_simp; (try simp (disch := omega) only [wrap_in, wrap_in', wrap_u16, wrap_u8, wrap_u32, wrap_u64, rem_in, quo_in]); first | done | with_reducible rfl | (constructor <;> with_reducible rfl))))
    | (apply l_store; (focus rfl); (focus rfl); (focus rfl); (focus (go_simp; (try simp (disch := omega) only [wrap_in, wrap_in', wrap_u16, wrap_u8, wrap_u32, wrap_u64, rem_in, quo_in]); first | done | with_reducible rfl | (constructor <;> with_reducible rfl))))
    | apply d_block
    | (apply d_true; (focus rfl); (focus rfl))
    | (apply d_false; (focus rfl); (focus rfl))
    | apply d_skip
    | apply d_exit
    | apply d_ret
    | with_reducible apply kt_ret
    | with_reducible apply kt_exit
    | with_reducible apply kb_normal
    | with_reducible apply kb_ret
    | with_reducible apply kb_here
    | with_reducible apply kl_ret
    | with_reducible apply kl_exit
    | with_reducible apply kc_ret
    | with_reducible apply kc_exit
    | (with_reducible apply kb_there; (focus rfl))
  refine d_loop (fun m D wr => ∃ (k : Nat), m = was.length - k ∧ k ≤ was.length ∧ D = [(3, .bool true), (4, .pointer (some ⟨t, 0, none⟩)), (6, .slice A was.length c), (7, .int .i64 k)] ∧ Hid (Has w wr [TotA w.heap.size t zb (sk (was.drop k ++ was.take k)), OwnA w.heap.size 30 1 (.slice A was.length c) was.length (ints .u16 was)])) (was.length) _ (Subl.cons (t := 3) (by decide) rfl (Subl.cons (t := 4) (by decide) rfl (Subl.cons (t := 6) (by decide) rfl (Subl.cons (t := 7) (by decide) rfl (Subl.nil _ _))))) ?_ (fun m D wr hrel => ?_)
  · refine ⟨0, rfl, Nat.zero_le _, rfl, ?_⟩
    rw [List.drop_zero, List.take_zero, List.append_nil]; exact HX
  · clear HX
    obtain ⟨k, rfl, hk, rfl, HX⟩ := hrel
    by_cases hlt : k < was.length
    · obtain ⟨y, hy⟩ : ∃ y, was[k]? = some y := ⟨_, List.getElem?_eq_getElem hlt⟩
      obtain ⟨r1, r2⟩ := rot_step hy
      rw [r1] at HX
      generalize was.drop (k + 1) ++ was.take k = tl at *
      repeat first
        | apply d_seq
        | with_reducible apply kt_normal
        | apply l_nil
        | apply d_region
        | (apply l_off; (focus rfl); (focus rfl))
        | (apply l_val; (focus rfl); (focus rfl); (focus rfl); (focus (go_simp; (try simp (disch := omega) only [wrap_in, wrap_in', wrap_u16, wrap_u8, wrap_u32, wrap_u64, rem_in, quo_in]); first | done | with_reducible rfl | (constructor <;> with_reducible rfl))))
        | (apply l_store; (focus rfl); (focus rfl); (focus rfl); (focus (go_simp; (try simp (disch := omega) only [wrap_in, wrap_in', wrap_u16, wrap_u8, wrap_u32, wrap_u64, rem_in, quo_in]); first | done | with_reducible rfl | (constructor <;> with_reducible rfl))))
        | apply d_block
        | (apply d_true; (focus rfl); (focus rfl))
        | (apply d_false; (focus rfl); (focus rfl))
        | apply d_skip
        | apply d_exit
        | apply d_ret
        | with_reducible apply kt_ret
        | with_reducible apply kt_exit
        | with_reducible apply kb_normal
        | with_reducible apply kb_ret
        | with_reducible apply kb_here
        | with_reducible apply kl_ret
        | with_reducible apply kl_exit
        | with_reducible apply kc_ret
        | with_reducible apply kc_exit
        | (with_reducible apply kb_there; (focus rfl))
      have hc := front_has HX.out 0 t zb _ rfl 1
      rw [show TS.frontV (sk (y :: tl)) 1 = .tuple #[.int .u16 y, .bool true] from rfl] at hc
      have HC := Lib.hid hc
      clear hc
      refine l_call rfl rfl rfl (by first | (go_simp; done) | (go_simp; rfl)) (HC.out) ?_
      rintro e w' ⟨rfl, hx⟩
      clear HX HC
      try simp only [List.nil_append, List.cons_append, List.set_cons_zero, List.set_cons_succ] at hx
      have HX := Lib.hid hx
      clear hx
      refine ⟨_, rfl, ?_⟩
      repeat first
        | apply d_seq
        | with_reducible apply kt_normal
        | apply l_nil
        | apply d_region
        | (apply l_off; (focus rfl); (focus rfl))
        | (apply l_val; (focus rfl); (focus rfl); (focus rfl); (focus (go_simp; (try simp (disch := omega) only [wrap_in, wrap_in', wrap_u16, wrap_u8, wrap_u32, wrap_u64, rem_in, quo_in]); first | done | with_reducible rfl | (constructor <;> with_reducible rfl))))
        | (apply l_store; (focus rfl); (focus rfl); (focus rfl); (focus (go_simp; (try simp (disch := omega) only [wrap_in, wrap_in', wrap_u16, wrap_u8, wrap_u32, wrap_u64, rem_in, quo_in]); first | done | with_reducible rfl | (constructor <;> with_reducible rfl))))
        | apply d_block
        | (apply d_true; (focus rfl); (focus rfl))
        | (apply d_false; (focus rfl); (focus rfl))
        | apply d_skip
        | apply d_exit
        | apply d_ret
        | with_reducible apply kt_ret
        | with_reducible apply kt_exit
        | with_reducible apply kb_normal
        | with_reducible apply kb_ret
        | with_reducible apply kb_here
        | with_reducible apply kl_ret
        | with_reducible apply kl_exit
        | with_reducible apply kc_ret
        | with_reducible apply kc_exit
        | (with_reducible apply kb_there; (focus rfl))
      obtain ⟨g1, o1, cp1, e1, hq3, hq4, -, d0⟩ := HX.out.num (i := 1) rfl rfl hy
      simp only [Value.slice.injEq, true_and] at e1
      obtain ⟨rfl, rfl⟩ := e1
      have HY := Lib.hid hy
      clear hy
      repeat first
        | apply d_seq
        | with_reducible apply kt_normal
        | apply l_nil
        | apply d_region
        | (apply l_off; (focus rfl); (focus rfl))
        | (apply l_val; (focus rfl); (focus rfl); (focus rfl); (focus (go_simp; (try simp (disch := omega) only [wrap_in, wrap_in', wrap_u16, wrap_u8, wrap_u32, wrap_u64, rem_in, quo_in]); first | done | with_reducible rfl | (constructor <;> with_reducible rfl))))
        | (apply l_store; (focus rfl); (focus rfl); (focus rfl); (focus (go_simp; (try simp (disch := omega) only [wrap_in, wrap_in', wrap_u16, wrap_u8, wrap_u32, wrap_u64, rem_in, quo_in]); first | done | with_reducible rfl | (constructor <;> with_reducible rfl))))
        | apply d_block
        | (apply d_true; (focus rfl); (focus rfl))
        | (apply d_false; (focus rfl); (focus rfl))
        | apply d_skip
        | apply d_exit
        | apply d_ret
        | with_reducible apply kt_ret
        | with_reducible apply kt_exit
        | with_reducible apply kb_normal
        | with_reducible apply kb_ret
        | with_reducible apply kb_here
        | with_reducible apply kl_ret
        | with_reducible apply kl_exit
        | with_reducible apply kc_ret
        | with_reducible apply kc_exit
        | (with_reducible apply kb_there; (focus rfl))
      clear d0
      have hc := skip_has HX.out 0 t zb _ rfl 1
      rw [show TS.skip (sk (y :: tl)) 1 = (sk (tl ++ [y]), 0) from rfl] at hc
      have HC := Lib.hid hc
      clear hc
      refine l_call rfl rfl rfl (by first | (go_simp; done) | (go_simp; rfl)) (HC.out) ?_
      rintro e w' ⟨rfl, hx⟩
      clear HX HC
      try simp only [List.nil_append, List.cons_append, List.set_cons_zero, List.set_cons_succ] at hx
      have HX := Lib.hid hx
      clear hx
      refine ⟨_, rfl, ?_⟩
      repeat first
        | apply d_seq
        | with_reducible apply kt_normal
        | apply l_nil
        | apply d_region
        | (apply l_off; (focus rfl); (focus rfl))
        | (apply l_val; (focus rfl); (focus rfl); (focus rfl); (focus (go_simp; (try simp (disch := omega) only [wrap_in, wrap_in', wrap_u16, wrap_u8, wrap_u32, wrap_u64, rem_in, quo_in]); first | done | with_reducible rfl | (constructor <;> with_reducible rfl))))
        | (apply l_store; (focus rfl); (focus rfl); (focus rfl); (focus (go_simp; (try simp (disch := omega) only [wrap_in, wrap_in', wrap_u16, wrap_u8, wrap_u32, wrap_u64, rem_in, quo_in]); first | done | with_reducible rfl | (constructor <;> with_reducible rfl))))
        | apply d_block
        | (apply d_true; (focus rfl); (focus rfl))
        | (apply d_false; (focus rfl); (focus rfl))
        | apply d_skip
        | apply d_exit
        | apply d_ret
        | with_reducible apply kt_ret
        | with_reducible apply kt_exit
        | with_reducible apply kb_normal
        | with_reducible apply kb_ret
        | with_reducible apply kb_here
        | with_reducible apply kl_ret
        | with_reducible apply kl_exit
        | with_reducible apply kc_ret
        | with_reducible apply kc_exit
        | (with_reducible apply kb_there; (focus rfl))
      refine kl_normal (was.length - (k + 1)) _ (by omega) (Subl.cons (t := 3) (by decide) rfl (Subl.cons (t := 4) (by decide) rfl (Subl.cons (t := 6) (by decide) rfl (Subl.cons (t := 7) (by decide) rfl (Subl.nil _ _))))) ?_
      rw [r2] at HX
      exact ⟨k + 1, rfl, by omega, rfl, HX⟩
    · have hk' : k = was.length := by omega
      subst hk'
      rw [List.drop_length, List.take_length, List.nil_append] at HX
      repeat first
        | apply d_seq
        | with_reducible apply kt_normal
        | apply l_nil
        | apply d_region
        | (apply l_off; (focus rfl); (focus rfl))
        | (apply l_val; (focus rfl); (focus rfl); (focus rfl); (focus (go_simp; (try simp (disch := omega) only [wrap_in, wrap_in', wrap_u16, wrap_u8, wrap_u32, wrap_u64, rem_in, quo_in]); first | done | with_reducible rfl | (constructor <;> with_reducible rfl))))
        | (apply l_store; (focus rfl); (focus rfl); (focus rfl); (focus (go_simp; (try simp (disch := omega) only [wrap_in, wrap_in', wrap_u16, wrap_u8, wrap_u32, wrap_u64, rem_in, quo_in]); first | done | with_reducible rfl | (constructor <;> with_reducible rfl))))
        | apply d_block
        | (apply d_true; (focus rfl); (focus rfl))
        | (apply d_false; (focus rfl); (focus rfl))
        | apply d_skip
        | apply d_exit
        | apply d_ret
        | with_reducible apply kt_ret
        | with_reducible apply kt_exit
        | with_reducible apply kb_normal
        | with_reducible apply kb_ret
        | with_reducible apply kb_here
        | with_reducible apply kl_ret
        | with_reducible apply kl_exit
        | with_reducible apply kc_ret
        | with_reducible apply kc_exit
        | (with_reducible apply kb_there; (focus rfl))
      have hc := row_has HX.out 0 t zb _ rfl 1
      rw [show TS.rowZ (sk was) 1 = was from rfl] at hc
      have HC := Lib.hid hc
      clear hc
      refine l_call rfl rfl rfl (by first | (go_simp; done) | (go_simp; rfl)) (HC.out) ?_
      rintro e w' ⟨A2, c2, rfl, hr3, hr4, hx⟩
      clear HX HC
      try simp only [List.nil_append, List.cons_append, List.set_cons_zero, List.set_cons_succ] at hx
      have HX := Lib.hid hx
      clear hx
      refine ⟨_, rfl, ?_⟩
      repeat first
        | apply d_seq
        | with_reducible apply kt_normal
        | apply l_nil
        | apply d_region
        | (apply l_off; (focus rfl); (focus rfl))
        | (apply l_val; (focus rfl); (focus rfl); (focus rfl); (focus (go_simp; (try simp (disch := omega) only [wrap_in, wrap_in', wrap_u16, wrap_u8, wrap_u32, wrap_u64, rem_in, quo_in]); first | done | with_reducible rfl | (constructor <;> with_reducible rfl))))
        | (apply l_store; (focus rfl); (focus rfl); (focus rfl); (focus (go_simp; (try simp (disch := omega) only [wrap_in, wrap_in', wrap_u16, wrap_u8, wrap_u32, wrap_u64, rem_in, quo_in]); first | done | with_reducible rfl | (constructor <;> with_reducible rfl))))
        | apply d_block
        | (apply d_true; (focus rfl); (focus rfl))
        | (apply d_false; (focus rfl); (focus rfl))
        | apply d_skip
        | apply d_exit
        | apply d_ret
        | with_reducible apply kt_ret
        | with_reducible apply kt_exit
        | with_reducible apply kb_normal
        | with_reducible apply kb_ret
        | with_reducible apply kb_here
        | with_reducible apply kl_ret
        | with_reducible apply kl_exit
        | with_reducible apply kc_ret
        | with_reducible apply kc_exit
        | (with_reducible apply kb_there; (focus rfl))
      have hc := same_own HX.out 2 1 _ _ _ _ was was rfl rfl
      rw [show (was == was) = true by simp] at hc
      have HC := Lib.hid hc
      clear hc
      refine l_call rfl rfl rfl (by first | (go_simp; done) | (go_simp; rfl)) (HC.out) ?_
      rintro e w' ⟨rfl, hx⟩
      clear HX HC
      try simp only [List.nil_append, List.cons_append, List.set_cons_zero, List.set_cons_succ] at hx
      have HX := Lib.hid hx
      clear hx
      refine ⟨_, rfl, ?_⟩
      repeat first
        | apply d_seq
        | with_reducible apply kt_normal
        | apply l_nil
        | apply d_region
        | (apply l_off; (focus rfl); (focus rfl))
        | (apply l_val; (focus rfl); (focus rfl); (focus rfl); (focus (go_simp; (try simp (disch := omega) only [wrap_in, wrap_in', wrap_u16, wrap_u8, wrap_u32, wrap_u64, rem_in, quo_in]); first | done | with_reducible rfl | (constructor <;> with_reducible rfl))))
        | (apply l_store; (focus rfl); (focus rfl); (focus rfl); (focus (go_simp; (try simp (disch := omega) only [wrap_in, wrap_in', wrap_u16, wrap_u8, wrap_u32, wrap_u64, rem_in, quo_in]); first | done | with_reducible rfl | (constructor <;> with_reducible rfl))))
        | apply d_block
        | (apply d_true; (focus rfl); (focus rfl))
        | (apply d_false; (focus rfl); (focus rfl))
        | apply d_skip
        | apply d_exit
        | apply d_ret
        | with_reducible apply kt_ret
        | with_reducible apply kt_exit
        | with_reducible apply kb_normal
        | with_reducible apply kb_ret
        | with_reducible apply kb_here
        | with_reducible apply kl_ret
        | with_reducible apply kl_exit
        | with_reducible apply kc_ret
        | with_reducible apply kc_exit
        | (with_reducible apply kb_there; (focus rfl))
      have hc := skip_has HX.out 0 t zb _ rfl 0
      rw [show TS.skip (sk was) 0 = (sk was, 6) from rfl] at hc
      have HC := Lib.hid hc
      clear hc
      refine l_call rfl rfl rfl (by first | (go_simp; done) | (go_simp; rfl)) (HC.out) ?_
      rintro e w' ⟨rfl, hx⟩
      clear HX HC
      try simp only [List.nil_append, List.cons_append, List.set_cons_zero, List.set_cons_succ] at hx
      have HX := Lib.hid hx
      clear hx
      refine ⟨_, rfl, ?_⟩
      repeat first
        | apply d_seq
        | with_reducible apply kt_normal
        | apply l_nil
        | apply d_region
        | (apply l_off; (focus rfl); (focus rfl))
        | (apply l_val; (focus rfl); (focus rfl); (focus rfl); (focus (go_simp; (try simp (disch := omega) only [wrap_in, wrap_in', wrap_u16, wrap_u8, wrap_u32, wrap_u64, rem_in, quo_in]); first | done | with_reducible rfl | (constructor <;> with_reducible rfl))))
        | (apply l_store; (focus rfl); (focus rfl); (focus rfl); (focus (go_simp; (try simp (disch := omega) only [wrap_in, wrap_in', wrap_u16, wrap_u8, wrap_u32, wrap_u64, rem_in, quo_in]); first | done | with_reducible rfl | (constructor <;> with_reducible rfl))))
        | apply d_block
        | (apply d_true; (focus rfl); (focus rfl))
        | (apply d_false; (focus rfl); (focus rfl))
        | apply d_skip
        | apply d_exit
        | apply d_ret
        | with_reducible apply kt_ret
        | with_reducible apply kt_exit
        | with_reducible apply kb_normal
        | with_reducible apply kb_ret
        | with_reducible apply kb_here
        | with_reducible apply kl_ret
        | with_reducible apply kl_exit
        | with_reducible apply kc_ret
        | with_reducible apply kc_exit
        | (with_reducible apply kb_there; (focus rfl))
      have hc := skip_has HX.out 0 t zb _ rfl 3
      rw [show TS.skip (sk was) 3 = (sk was, 1) from rfl] at hc
      have HC := Lib.hid hc
      clear hc
      refine l_call rfl rfl rfl (by first | (go_simp; done) | (go_simp; rfl)) (HC.out) ?_
      rintro e w' ⟨rfl, hx⟩
      clear HX HC
      try simp only [List.nil_append, List.cons_append, List.set_cons_zero, List.set_cons_succ] at hx
      have HX := Lib.hid hx
      clear hx
      refine ⟨_, rfl, ?_⟩
      repeat first
        | apply d_seq
        | with_reducible apply kt_normal
        | apply l_nil
        | apply d_region
        | (apply l_off; (focus rfl); (focus rfl))
        | (apply l_val; (focus rfl); (focus rfl); (focus rfl); (focus (go_simp; (try simp (disch := omega) only [wrap_in, wrap_in', wrap_u16, wrap_u8, wrap_u32, wrap_u64, rem_in, quo_in]); first | done | with_reducible rfl | (constructor <;> with_reducible rfl))))
        | (apply l_store; (focus rfl); (focus rfl); (focus rfl); (focus (go_simp; (try simp (disch := omega) only [wrap_in, wrap_in', wrap_u16, wrap_u8, wrap_u32, wrap_u64, rem_in, quo_in]); first | done | with_reducible rfl | (constructor <;> with_reducible rfl))))
        | apply d_block
        | (apply d_true; (focus rfl); (focus rfl))
        | (apply d_false; (focus rfl); (focus rfl))
        | apply d_skip
        | apply d_exit
        | apply d_ret
        | with_reducible apply kt_ret
        | with_reducible apply kt_exit
        | with_reducible apply kb_normal
        | with_reducible apply kb_ret
        | with_reducible apply kb_here
        | with_reducible apply kl_ret
        | with_reducible apply kl_exit
        | with_reducible apply kc_ret
        | with_reducible apply kc_exit
        | (with_reducible apply kb_there; (focus rfl))
      refine ⟨rfl, _, (by first | (simp [resultsG, resOne, Try.results6, rho, List.lookup]; done) | (simp [resultsG, resOne, Try.results6, rho, List.lookup]; rfl)), ?_⟩
      exact ⟨rfl, HX.out.old⟩
end Go.Proofs.Ytilmodbiimjllaa
