import Derived.Test.YtbcjmgocdplfnaaPlcR0
import Derived.Test.YtbcjmgocdplfnaaPushF
import Derived.Test.YtbcjmgocdplfnaaBranch
namespace Go.Proofs.Ytbcjmgocdplfnaa
set_option linter.unusedVariables false
set_option linter.unusedSimpArgs false
attribute [local go_sem] rho_const rho_func rho_hit rho_miss
open Go.RowKit
/-! The document's rows of addresses. -/
theorem run_b0 (w : World) : (Instr.buildSlice 22 0 #[]).run Try.prog w = .ok (.slice (some ⟨w.heap.size, 0, none⟩) 0 0) (w.alloc (.cells #[] 5)) := by kernel_rfl
theorem run_b1 (w : World) (x : Int) : (Instr.buildSlice 22 1 #[(0, .int .u8 x)]).run Try.prog w = .ok (.slice (some ⟨w.heap.size, 0, none⟩) 1 1) (w.alloc (.cells #[.int .u8 x] 5)) := by kernel_rfl
theorem pushF_u8 {F : Nat → Prop} {w0 w : World} {L : List (Asrt 0)} (H : HasF F w0 w L) {k m : Nat} {v : Value} {xs : List Int} (hi : L[k]? = some (OwnA 0 5 1 v m (ints .u8 xs))) (hm : m ≤ 1000) (y : Int) :
    ∃ g cap w', (Builtin.append_ #[22, 22] 22 #[v, .slice (some ⟨w.heap.size, 0, none⟩) 1 1]).run Try.prog (w.alloc (.cells #[.int .u8 y] 5)) = .ok (.slice (some ⟨g, 0, none⟩) (m + 1) cap) w' ∧ m + 1 ≤ cap ∧ cap ≤ 9223372036854775807 ∧
      HasF F w0 w' (L.set k (OwnA 0 5 1 (.slice (some ⟨g, 0, none⟩) (m + 1) cap) (m + 1) (ints .u8 (xs ++ [y])))) := by
  obtain ⟨i0, hi0, hz0, hz1, hz2⟩ := info_parts Try.infoU8
  have := H.push (P := Try.prog) hi 22 i0 _ 1 Try.underlying22 hi0 hz0 hz1 hz2 rfl (by decide) #[.int .u8 y] rfl (by simp [Value.oneCell']) (by unfold maxLen; omega) (by omega) 22
  obtain ⟨g, cap, w', h1, h2, h3, h4⟩ := this
  refine ⟨g, cap, w', h1, h2, h3, ?_⟩
  have e : ints .u8 (xs ++ [y]) = ints .u8 xs ++ [.int .u8 y] := by simp [ints]
  rw [e]
  exact h4
theorem appF_u8 {F : Nat → Prop} {w0 w : World} {L : List (Asrt 0)} (H : HasF F w0 w L) {k n m : Nat} {v x : Value} {xs ys : List Int} (hi : L[k]? = some (OwnA 0 5 1 v n (ints .u8 xs))) {G : Nat → Prop} (hx : SeesIn w G 1 x m (ints .u8 ys)) (hm : n + m ≤ 1000) :
    ∃ A cap w', (Builtin.append_ #[22, 22] 22 #[v, x]).run Try.prog w = .ok (.slice A (n + m) cap) w' ∧ n + m ≤ cap ∧ cap ≤ 9223372036854775807 ∧
      HasF F w0 w' (L.set k (OwnA 0 5 1 (.slice A (n + m) cap) (n + m) (ints .u8 (xs ++ ys)))) := by
  obtain ⟨i0, hi0, hz0, hz1, hz2⟩ := info_parts Try.infoU8
  have := H.app (P := Try.prog) hi hx 22 i0 _ 1 Try.underlying22 hi0 hz0 hz1 hz2 rfl (by decide) (by unfold maxLen; omega) (by omega) 22
  obtain ⟨g, cap, w', h1, h2, h3, h4⟩ := this
  refine ⟨g, cap, w', h1, h2, h3, ?_⟩
  have e : ints .u8 (xs ++ ys) = ints .u8 xs ++ ints .u8 ys := by simp [ints]
  rw [e]
  exact h4
theorem sees_u8 {w : World} {F : Nat → Prop} {A : Option Addr} {n c : Nat} {l : List Int} (h : SeesIn w F 1 (.slice A n c) n (ints .u8 l)) (hn : n = l.length) {k : Nat} {y : Int} (hy : l[k]? = some y) : ∃ g o, A = some ⟨g, o, none⟩ ∧ n ≤ c ∧ c ≤ 9223372036854775807 ∧ w.cell? ⟨g, o + k, none⟩ = some (.int .u8 y) := by
  obtain ⟨A', c', e, h1, h2, h3, h4, h4', h5⟩ := h
  simp only [Value.slice.injEq, true_and] at e
  obtain ⟨rfl, rfl⟩ := e
  have hk := (List.getElem?_eq_some_iff.1 hy).1
  obtain ⟨g, o, rfl, -, -, hc⟩ := h5 (by omega)
  unfold maxLen at h2
  exact ⟨g, o, rfl, h1, by omega, hc k _ (by simp [ints, hy])⟩
theorem wout_snoc {l : List Int} {k : Nat} {y : Int} (hy : l[k]? = some y) (a : Int) : wout (l.take (k + 1)) a = wout (l.take k) a ++ if (y != a) = true then [y] else [] := by
  unfold wout
  rw [List.take_add_one, hy]
  simp only [Option.toList_some, List.filter_append, List.filter_cons, List.filter_nil]
theorem wout_len (l : List Int) (a : Int) : (wout l a).length ≤ l.length := List.length_filter_le _ _
set_option maxHeartbeats 1000000 in
theorem rWithout_any (w : World) (F0 : Nat → Prop) (A : Option Addr) (n c : Nat) (l : List Int) (a : Int) (h : SeesIn w F0 1 (.slice A n c) n (ints .u8 l)) (hn : n = l.length) (hl : n ≤ 900) :
    Calls Try.prog 28 #[.slice A n c, .int .u8 a] w fun e w' => ∃ B d, e = .returned (.slice B (wout l a).length d) ∧ (wout l a).length ≤ d ∧ d ≤ 9223372036854775807 ∧ HasF none_ w w' [OwnA 0 5 1 (.slice B (wout l a).length d) (wout l a).length (ints .u8 (wout l a))] := by
  subst hn
  have HX := Lib.hid ((HasF.nil (Keep.refl none_ w)).newRow 5 1)
  obtain ⟨A', c', e0, hb1, hb2, hb3, -⟩ := h.form
  simp only [Value.slice.injEq, true_and] at e0
  obtain ⟨rfl, rfl⟩ := e0
  have HS := Lib.hid h
  clear h
  refine d_calls (n := 28) Try.func28 rfl rfl (by simp) [(0, .slice A l.length c), (1, .int .u8 a)] (by simp) ?_
  repeat first
    | apply d_seq
    | with_reducible apply kt_normal
    | apply l_nil
    | apply d_region
    | (apply l_off; (focus rfl); (focus rfl))
    | (apply l_val; (focus rfl); (focus rfl); (focus rfl); (focus (go_simp; (try simp (disch := omega) only [wrap_in, wrap_in', wrap_u16, wrap_u8, wrap_u32, wrap_u64, rem_in, quo_in]); first | done | with_reducible rfl | (constructor <;> with_reducible rfl))))
    | (apply l_store; (focus rfl); (focus rfl); (focus rfl); (focus (go_simp; (try simp (disch := omega) only [wrap_in, wrap_in', wrap_u16, wrap_u8, wrap_u32, wrap_u64, rem_in, quo_in]); first | done | with_reducible rfl | (constructor <;> with_reducible rfl))))
    | apply d_block
    | (apply d_true; (focus rfl); (focus rfl))
    | (apply d_false; (focus rfl); (focus rfl))
    | apply d_skip
    | apply d_exit
    | apply d_ret
    | with_reducible apply kt_ret
    | with_reducible apply kt_exit
    | with_reducible apply kb_normal
    | with_reducible apply kb_ret
    | with_reducible apply kb_here
    | with_reducible apply kl_ret
    | with_reducible apply kl_exit
    | with_reducible apply kc_ret
    | with_reducible apply kc_exit
    | (with_reducible apply kb_there; (focus rfl))
  refine d_loop (fun m D wr => ∃ (k : Nat) (B : Option Addr) (d : Nat), m = l.length - k ∧ k ≤ l.length ∧ (wout (l.take k) a).length ≤ d ∧ d ≤ 9223372036854775807 ∧ D = [(0, .slice A l.length c), (1, .int .u8 a), (5, .slice B (wout (l.take k) a).length d), (6, .int .i64 k)] ∧ Hid (HasF none_ w wr [OwnA 0 5 1 (.slice B (wout (l.take k) a).length d) (wout (l.take k) a).length (ints .u8 (wout (l.take k) a))])) (l.length) _ (Subl.cons (t := 0) (by decide) rfl (Subl.cons (t := 1) (by decide) rfl (Subl.cons (t := 5) (by decide) rfl (Subl.cons (t := 6) (by decide) rfl (Subl.nil _ _))))) ?_ (fun m D wr hrel => ?_)
  · exact ⟨0, _, 0, rfl, Nat.zero_le _, Nat.le_refl _, by omega, rfl, HX⟩
  · clear HX
    obtain ⟨k, B, d, rfl, hk, hd1, hd2, rfl, HX⟩ := hrel
    by_cases hlt : k < l.length
    · obtain ⟨y, hy⟩ : ∃ y, l[k]? = some y := ⟨_, List.getElem?_eq_getElem hlt⟩
      obtain ⟨g, o, rfl, -, -, c0⟩ := sees_u8 (HS.out.keep HX.out.old) rfl hy
      have hsn := wout_snoc hy a
      have hlen := wout_len (l.take k) a
      rw [List.length_take] at hlen
      obtain ⟨b, hb⟩ : ∃ b, (y != a) = b := ⟨_, rfl⟩
      rw [hb] at hsn
      generalize wout (l.take k) a = xs at *
      cases b with
      | false =>
        rw [if_neg (by simp), List.append_nil] at hsn
        have HSN := Lib.hid hsn
        have HY := Lib.hid hy
        clear hsn hy
        repeat first
          | apply d_seq
          | with_reducible apply kt_normal
          | apply l_nil
          | apply d_region
          | (apply l_off; (focus rfl); (focus rfl))
          | (apply l_val; (focus rfl); (focus rfl); (focus rfl); (focus (go_simp; (try simp (disch := omega) only [wrap_in, wrap_in', wrap_u16, wrap_u8, wrap_u32, wrap_u64, rem_in, quo_in]); first | done | with_reducible rfl | (constructor <;> with_reducible rfl))))
          | (apply l_store; (focus rfl); (focus rfl); (focus rfl); (focus (go_simp; (try simp (disch := omega) only [wrap_in, wrap_in', wrap_u16, wrap_u8, wrap_u32, wrap_u64, rem_in, quo_in]); first | done | with_reducible rfl | (constructor <;> with_reducible rfl))))
          | apply d_block
          | (apply d_true; (focus rfl); (focus rfl))
          | (apply d_false; (focus rfl); (focus rfl))
          | apply d_skip
          | apply d_exit
          | apply d_ret
          | with_reducible apply kt_ret
          | with_reducible apply kt_exit
          | with_reducible apply kb_normal
          | with_reducible apply kb_ret
          | with_reducible apply kb_here
          | with_reducible apply kl_ret
          | with_reducible apply kl_exit
          | with_reducible apply kc_ret
          | with_reducible apply kc_exit
          | (with_reducible apply kb_there; (focus rfl))
        refine kl_normal (l.length - (k + 1)) _ (by omega) (Subl.cons (t := 0) (by decide) rfl (Subl.cons (t := 1) (by decide) rfl (Subl.cons (t := 5) (by decide) rfl (Subl.cons (t := 6) (by decide) rfl (Subl.nil _ _))))) ?_
        exact ⟨k + 1, B, d, rfl, by omega, by rw [HSN.out]; exact hd1, hd2, by rw [HSN.out]; rfl, by rw [HSN.out]; exact HX⟩
      | true =>
        rw [if_pos rfl] at hsn
        obtain ⟨g2, cap, w2, hr, h1, h2, hx⟩ := pushF_u8 HX.out (k := 0) rfl (by omega) y
        simp only [List.set_cons_zero] at hx
        have HSN := Lib.hid hsn
        have HR := Lib.hid hr
        have HY := Lib.hid hy
        clear hsn hr hy
        repeat first
          | apply d_seq
          | with_reducible apply kt_normal
          | apply l_nil
          | apply d_region
          | (apply l_off; (focus rfl); (focus rfl))
          | (apply l_val; (focus rfl); (focus rfl); (focus rfl); (focus (go_simp; (try simp (disch := omega) only [wrap_in, wrap_in', wrap_u16, wrap_u8, wrap_u32, wrap_u64, rem_in, quo_in]); first | done | with_reducible rfl | (constructor <;> with_reducible rfl))))
          | (apply l_store; (focus rfl); (focus rfl); (focus rfl); (focus (go_simp; (try simp (disch := omega) only [wrap_in, wrap_in', wrap_u16, wrap_u8, wrap_u32, wrap_u64, rem_in, quo_in]); first | done | with_reducible rfl | (constructor <;> with_reducible rfl))))
          | apply d_block
          | (apply d_true; (focus rfl); (focus rfl))
          | (apply d_false; (focus rfl); (focus rfl))
          | apply d_skip
          | apply d_exit
          | apply d_ret
          | with_reducible apply kt_ret
          | with_reducible apply kt_exit
          | with_reducible apply kb_normal
          | with_reducible apply kb_ret
          | with_reducible apply kb_here
          | with_reducible apply kl_ret
          | with_reducible apply kl_exit
          | with_reducible apply kc_ret
          | with_reducible apply kc_exit
          | (with_reducible apply kb_there; (focus rfl))
        refine l_val rfl rfl rfl (exec_append (.tmp 20) (.tmp 25) 22 rfl _ _ rfl rfl HR.out) ?_
        clear HX c0
        have HX := Lib.hid hx
        clear hx
        repeat first
          | apply d_seq
          | with_reducible apply kt_normal
          | apply l_nil
          | apply d_region
          | (apply l_off; (focus rfl); (focus rfl))
          | (apply l_val; (focus rfl); (focus rfl); (focus rfl); (focus (go_simp; (try simp (disch := omega) only [wrap_in, wrap_in', wrap_u16, wrap_u8, wrap_u32, wrap_u64, rem_in, quo_in]); first | done | with_reducible rfl | (constructor <;> with_reducible rfl))))
          | (apply l_store; (focus rfl); (focus rfl); (focus rfl); (focus (go_simp; (try simp (disch := omega) only [wrap_in, wrap_in', wrap_u16, wrap_u8, wrap_u32, wrap_u64, rem_in, quo_in]); first | done | with_reducible rfl | (constructor <;> with_reducible rfl))))
          | apply d_block
          | (apply d_true; (focus rfl); (focus rfl))
          | (apply d_false; (focus rfl); (focus rfl))
          | apply d_skip
          | apply d_exit
          | apply d_ret
          | with_reducible apply kt_ret
          | with_reducible apply kt_exit
          | with_reducible apply kb_normal
          | with_reducible apply kb_ret
          | with_reducible apply kb_here
          | with_reducible apply kl_ret
          | with_reducible apply kl_exit
          | with_reducible apply kc_ret
          | with_reducible apply kc_exit
          | (with_reducible apply kb_there; (focus rfl))
        refine kl_normal (l.length - (k + 1)) _ (by omega) (Subl.cons (t := 0) (by decide) rfl (Subl.cons (t := 1) (by decide) rfl (Subl.cons (t := 5) (by decide) rfl (Subl.cons (t := 6) (by decide) rfl (Subl.nil _ _))))) ?_
        have e1 : (xs ++ [y]).length = xs.length + 1 := by simp
        exact ⟨k + 1, _, cap, rfl, by omega, by rw [HSN.out, e1]; exact h1, h2, by rw [HSN.out, e1]; rfl, by rw [HSN.out, e1]; exact HX⟩
    · have hk' : k = l.length := by omega
      subst hk'
      rw [List.take_length] at hd1 HX
      rw [List.take_length]
      repeat first
        | apply d_seq
        | with_reducible apply kt_normal
        | apply l_nil
        | apply d_region
        | (apply l_off; (focus rfl); (focus rfl))
        | (apply l_val; (focus rfl); (focus rfl); (focus rfl); (focus (go_simp; (try simp (disch := omega) only [wrap_in, wrap_in', wrap_u16, wrap_u8, wrap_u32, wrap_u64, rem_in, quo_in]); first | done | with_reducible rfl | (constructor <;> with_reducible rfl))))
        | (apply l_store; (focus rfl); (focus rfl); (focus rfl); (focus (go_simp; (try simp (disch := omega) only [wrap_in, wrap_in', wrap_u16, wrap_u8, wrap_u32, wrap_u64, rem_in, quo_in]); first | done | with_reducible rfl | (constructor <;> with_reducible rfl))))
        | apply d_block
        | (apply d_true; (focus rfl); (focus rfl))
        | (apply d_false; (focus rfl); (focus rfl))
        | apply d_skip
        | apply d_exit
        | apply d_ret
        | with_reducible apply kt_ret
        | with_reducible apply kt_exit
        | with_reducible apply kb_normal
        | with_reducible apply kb_ret
        | with_reducible apply kb_here
        | with_reducible apply kl_ret
        | with_reducible apply kl_exit
        | with_reducible apply kc_ret
        | with_reducible apply kc_exit
        | (with_reducible apply kb_there; (focus rfl))
      refine ⟨rfl, _, (by first | (simp [resultsG, resOne, Try.results28, rho, List.lookup]; done) | (simp [resultsG, resOne, Try.results28, rho, List.lookup]; rfl)), ?_⟩
      exact ⟨B, d, rfl, hd1, hd2, HX.out⟩
theorem rHas_any (w : World) (F0 : Nat → Prop) (A : Option Addr) (n c : Nat) (l : List Int) (a : Int) (h : SeesIn w F0 1 (.slice A n c) n (ints .u8 l)) (hn : n = l.length) (hl : n ≤ 900) :
    Calls Try.prog 25 #[.slice A n c, .int .u8 a] w fun e w' => e = .returned (.bool (rhas l a)) ∧ Keep none_ w w' := by
  subst hn
  obtain ⟨A', c', e0, hb1, hb2, hb3, -⟩ := h.form
  simp only [Value.slice.injEq, true_and] at e0
  obtain ⟨rfl, rfl⟩ := e0
  have hc := rWithout_any w F0 A l.length c l a h rfl hl
  have HR : Hid (rhas l a = decide ((wout l a).length < l.length)) := Lib.hid rfl
  generalize wout l a = xs at *
  have HC := Lib.hid hc
  clear hc
  obtain ⟨b, hb⟩ : ∃ b, decide (xs.length < l.length) = b := ⟨_, rfl⟩
  refine d_calls (n := 12) Try.func25 rfl rfl (by simp) [(0, .slice A l.length c), (1, .int .u8 a)] (by simp) ?_
  repeat first
    | apply d_seq
    | with_reducible apply kt_normal
    | apply l_nil
    | apply d_region
    | (apply l_off; (focus rfl); (focus rfl))
    | (apply l_val; (focus rfl); (focus rfl); (focus rfl); (focus (go_simp; (try simp (disch := omega) only [wrap_in, wrap_in', wrap_u16, wrap_u8, wrap_u32, wrap_u64, rem_in, quo_in]); first | done | with_reducible rfl | (constructor <;> with_reducible rfl))))
    | (apply l_store; (focus rfl); (focus rfl); (focus rfl); (focus (go_simp; (try simp (disch := omega) only [wrap_in, wrap_in', wrap_u16, wrap_u8, wrap_u32, wrap_u64, rem_in, quo_in]); first | done | with_reducible rfl | (constructor <;> with_reducible rfl))))
    | apply d_block
    | (apply d_true; (focus rfl); (focus rfl))
    | (apply d_false; (focus rfl); (focus rfl))
    | apply d_skip
    | apply d_exit
    | apply d_ret
    | with_reducible apply kt_ret
    | with_reducible apply kt_exit
    | with_reducible apply kb_normal
    | with_reducible apply kb_ret
    | with_reducible apply kb_here
    | with_reducible apply kl_ret
    | with_reducible apply kl_exit
    | with_reducible apply kc_ret
    | with_reducible apply kc_exit
    | (with_reducible apply kb_there; (focus rfl))
  refine l_call rfl rfl rfl (by first | (go_simp; done) | (go_simp; rfl)) (HC.out) ?_
  rintro e w' ⟨B, d, rfl, h1, h2, hx⟩
  have HX := Lib.hid hx
  clear hx
  refine ⟨_, rfl, ?_⟩
  repeat first
    | apply d_seq
    | with_reducible apply kt_normal
    | apply l_nil
    | apply d_region
    | (apply l_off; (focus rfl); (focus rfl))
    | (apply l_val; (focus rfl); (focus rfl); (focus rfl); (focus (go_simp; (try simp (disch := omega) only [wrap_in, wrap_in', wrap_u16, wrap_u8, wrap_u32, wrap_u64, rem_in, quo_in]); first | done | with_reducible rfl | (constructor <;> with_reducible rfl))))
    | (apply l_store; (focus rfl); (focus rfl); (focus rfl); (focus (go_simp; (try simp (disch := omega) only [wrap_in, wrap_in', wrap_u16, wrap_u8, wrap_u32, wrap_u64, rem_in, quo_in]); first | done | with_reducible rfl | (constructor <;> with_reducible rfl))))
    | apply d_block
    | (apply d_true; (focus rfl); (focus rfl))
    | (apply d_false; (focus rfl); (focus rfl))
    | apply d_skip
    | apply d_exit
    | apply d_ret
    | with_reducible apply kt_ret
    | with_reducible apply kt_exit
    | with_reducible apply kb_normal
    | with_reducible apply kb_ret
    | with_reducible apply kb_here
    | with_reducible apply kl_ret
    | with_reducible apply kl_exit
    | with_reducible apply kc_ret
    | with_reducible apply kc_exit
    | (with_reducible apply kb_there; (focus rfl))
  refine ⟨rfl, _, (by first | (simp [resultsG, resOne, Try.results25, rho, List.lookup]; done) | (simp [resultsG, resOne, Try.results25, rho, List.lookup]; rfl)), ?_⟩
  exact ⟨by rw [HR.out, hb], HX.out.old⟩
theorem wth_at {l : List Int} {a : Int} {k : Nat} (h1 : ∀ x ∈ l.take k, x < a) (h2 : ∀ x, l[k]? = some x → ¬ x < a) : wth l a = l.take k ++ a :: l.drop k := by
  unfold wth
  have key : l.takeWhile (fun x => decide (x < a)) = l.take k ∧ l.dropWhile (fun x => decide (x < a)) = l.drop k := by
    induction l generalizing k with
    | nil => simp
    | cons y l ih =>
      cases k with
      | zero =>
        have := h2 y rfl
        rw [List.takeWhile_cons_of_neg (by simpa using this), List.dropWhile_cons_of_neg (by simpa using this)]
        simp
      | succ k =>
        have hy := h1 y (by simp)
        obtain ⟨e1, e2⟩ := ih (k := k) (fun x hx => h1 x (by simp [hx])) (fun x hx => h2 x (by simpa using hx))
        rw [List.takeWhile_cons_of_pos (by simpa using hy), List.dropWhile_cons_of_pos (by simpa using hy), e1, e2]
        simp
  rw [key.1, key.2]
theorem HasF.swap {F : Nat → Prop} {w0 w : World} {A B : Asrt 0} (H : HasF F w0 w [A, B]) : HasF F w0 w [B, A] :=
  H.pick [1, 0] (by simp) [B, A] (fun n R hn => by
    match n with
    | 0 => simp only [List.getElem?_cons_zero, Option.some.injEq] at hn; subst hn; exact ⟨1, rfl, rfl⟩
    | 1 => simp only [List.getElem?_cons_zero, List.getElem?_cons_succ, Option.some.injEq] at hn; subst hn; exact ⟨0, rfl, rfl⟩
    | n + 2 => simp at hn)
theorem HasF.one {F : Nat → Prop} {w0 w : World} {L : List (Asrt 0)} (H : HasF F w0 w L) {i : Nat} {P : Asrt 0} (hi : L[i]? = some P) : HasF F w0 w [P] :=
  H.pick [i] (by simp) [P] (fun n R hn => by
    match n with
    | 0 => simp only [List.getElem?_cons_zero, Option.some.injEq] at hn; subst hn; exact ⟨i, rfl, hi⟩
    | n + 1 => simp at hn)
set_option maxRecDepth 100000 in
set_option maxHeartbeats 2000000 in
theorem rWith_any (w : World) (F0 : Nat → Prop) (A : Option Addr) (n c : Nat) (l : List Int) (a : Int) (h : SeesIn w F0 1 (.slice A n c) n (ints .u8 l)) (hn : n = l.length) (hl : n ≤ 400) :
    Calls Try.prog 26 #[.slice A n c, .int .u8 a] w fun e w' => ∃ B d, e = .returned (.slice B (wth l a).length d) ∧ (wth l a).length ≤ d ∧ d ≤ 9223372036854775807 ∧ HasF none_ w w' [OwnA 0 5 1 (.slice B (wth l a).length d) (wth l a).length (ints .u8 (wth l a))] := by
  subst hn
  obtain ⟨A', c', e0, hb1, hb2, hb3, -⟩ := h.form
  simp only [Value.slice.injEq, true_and] at e0
  obtain ⟨rfl, rfl⟩ := e0
  have HS := Lib.hid h
  clear h
  refine d_calls (n := 32) Try.func26 rfl rfl (by simp) [(0, .slice A l.length c), (1, .int .u8 a)] (by simp) ?_
  repeat first
    | apply d_seq
    | with_reducible apply kt_normal
    | apply l_nil
    | apply d_region
    | (apply l_off; (focus rfl); (focus rfl))
    | (apply l_val; (focus rfl); (focus rfl); (focus rfl); (focus (go_simp; (try simp (disch := omega) only [wrap_in, wrap_in', wrap_u16, wrap_u8, wrap_u32, wrap_u64, rem_in, quo_in]); first | done | with_reducible rfl | (constructor <;> with_reducible rfl))))
    | (apply l_store; (focus rfl); (focus rfl); (focus rfl); (focus (go_simp; (try simp (disch := omega) only [wrap_in, wrap_in', wrap_u16, wrap_u8, wrap_u32, wrap_u64, rem_in, quo_in]); first | done | with_reducible rfl | (constructor <;> with_reducible rfl))))
    | ((fail_if_success (with_reducible apply d_block (id := 0))); apply d_block)
    | (apply d_true; (focus rfl); (focus rfl))
    | (apply d_false; (focus rfl); (focus rfl))
    | apply d_skip
    | apply d_exit
    | apply d_ret
    | with_reducible apply kt_ret
    | with_reducible apply kt_exit
    | with_reducible apply kb_normal
    | with_reducible apply kb_ret
    | with_reducible apply kb_here
    | with_reducible apply kl_ret
    | with_reducible apply kl_exit
    | with_reducible apply kc_ret
    | with_reducible apply kc_exit
    | (with_reducible apply kb_there; (focus rfl))
  refine d_join (fun D wr => ∃ (k : Nat), k ≤ l.length ∧ D = [(0, .slice A l.length c), (1, .int .u8 a), (5, .int .i64 k)] ∧ wr = w ∧ Hid (wth l a = l.take k ++ a :: l.drop k)) ?_ (fun D wr hcut => ?_)
  · repeat first
      | apply d_seq
      | with_reducible apply kt_normal
      | apply l_nil
      | apply d_region
      | (apply l_off; (focus rfl); (focus rfl))
      | (apply l_val; (focus rfl); (focus rfl); (focus rfl); (focus (go_simp; (try simp (disch := omega) only [wrap_in, wrap_in', wrap_u16, wrap_u8, wrap_u32, wrap_u64, rem_in, quo_in]); first | done | with_reducible rfl | (constructor <;> with_reducible rfl))))
      | (apply l_store; (focus rfl); (focus rfl); (focus rfl); (focus (go_simp; (try simp (disch := omega) only [wrap_in, wrap_in', wrap_u16, wrap_u8, wrap_u32, wrap_u64, rem_in, quo_in]); first | done | with_reducible rfl | (constructor <;> with_reducible rfl))))
      | apply d_block
      | (apply d_true; (focus rfl); (focus rfl))
      | (apply d_false; (focus rfl); (focus rfl))
      | apply d_skip
      | apply d_exit
      | apply d_ret
      | with_reducible apply kt_ret
      | with_reducible apply kt_exit
      | with_reducible apply kb_normal
      | with_reducible apply kb_ret
      | with_reducible apply kb_here
      | with_reducible apply kl_ret
      | with_reducible apply kl_exit
      | with_reducible apply kc_ret
      | with_reducible apply kc_exit
      | (with_reducible apply kb_there; (focus rfl))
    refine d_loop (fun m D wr => ∃ (k : Nat), m = l.length - k ∧ k ≤ l.length ∧ D = [(0, .slice A l.length c), (1, .int .u8 a), (5, .int .i64 k)] ∧ wr = w ∧ Hid (∀ x ∈ l.take k, x < a)) (l.length) _ (Subl.cons (t := 0) (by decide) rfl (Subl.cons (t := 1) (by decide) rfl (Subl.cons (t := 5) (by decide) rfl (Subl.nil _ _)))) ?_ (fun m D wr hrel => ?_)
    · exact ⟨0, rfl, Nat.zero_le _, rfl, rfl, Lib.hid (by simp)⟩
    · obtain ⟨k, rfl, hk, rfl, rfl, HK⟩ := hrel
      by_cases hlt : k < l.length
      · obtain ⟨y, hy⟩ : ∃ y, l[k]? = some y := ⟨_, List.getElem?_eq_getElem hlt⟩
        obtain ⟨g, o, rfl, -, -, c0⟩ := sees_u8 HS.out rfl hy
        obtain ⟨b, hb⟩ : ∃ b, decide (y < a) = b := ⟨_, rfl⟩
        have HY := Lib.hid hy
        have HB := Lib.hid hb
        clear hy
        cases b with
        | false =>
          repeat first
            | apply d_seq
            | with_reducible apply kt_normal
            | apply l_nil
            | apply d_region
            | (apply l_off; (focus rfl); (focus rfl))
            | (apply l_val; (focus rfl); (focus rfl); (focus rfl); (focus (go_simp; (try simp (disch := omega) only [wrap_in, wrap_in', wrap_u16, wrap_u8, wrap_u32, wrap_u64, rem_in, quo_in]); first | done | with_reducible rfl | (constructor <;> with_reducible rfl))))
            | (apply l_store; (focus rfl); (focus rfl); (focus rfl); (focus (go_simp; (try simp (disch := omega) only [wrap_in, wrap_in', wrap_u16, wrap_u8, wrap_u32, wrap_u64, rem_in, quo_in]); first | done | with_reducible rfl | (constructor <;> with_reducible rfl))))
            | apply d_block
            | (apply d_true; (focus rfl); (focus rfl))
            | (apply d_false; (focus rfl); (focus rfl))
            | apply d_skip
            | apply d_exit
            | apply d_ret
            | with_reducible apply kt_ret
            | with_reducible apply kt_exit
            | with_reducible apply kb_normal
            | with_reducible apply kb_ret
            | with_reducible apply kb_here
            | with_reducible apply kl_ret
            | with_reducible apply kl_exit
            | with_reducible apply kc_ret
            | with_reducible apply kc_exit
            | (with_reducible apply kb_there; (focus rfl))
          refine kc_normal _ (Subl.cons (t := 0) (by decide) rfl (Subl.cons (t := 1) (by decide) rfl (Subl.cons (t := 5) (by decide) rfl (Subl.nil _ _)))) ?_
          exact ⟨k, hk, rfl, rfl, Lib.hid (wth_at HK.out (fun x hx => by rw [HY.out] at hx; obtain rfl := Option.some.inj hx; exact of_decide_eq_false HB.out))⟩
        | true =>
          repeat first
            | apply d_seq
            | with_reducible apply kt_normal
            | apply l_nil
            | apply d_region
            | (apply l_off; (focus rfl); (focus rfl))
            | (apply l_val; (focus rfl); (focus rfl); (focus rfl); (focus (go_simp; (try simp (disch := omega) only [wrap_in, wrap_in', wrap_u16, wrap_u8, wrap_u32, wrap_u64, rem_in, quo_in]); first | done | with_reducible rfl | (constructor <;> with_reducible rfl))))
            | (apply l_store; (focus rfl); (focus rfl); (focus rfl); (focus (go_simp; (try simp (disch := omega) only [wrap_in, wrap_in', wrap_u16, wrap_u8, wrap_u32, wrap_u64, rem_in, quo_in]); first | done | with_reducible rfl | (constructor <;> with_reducible rfl))))
            | apply d_block
            | (apply d_true; (focus rfl); (focus rfl))
            | (apply d_false; (focus rfl); (focus rfl))
            | apply d_skip
            | apply d_exit
            | apply d_ret
            | with_reducible apply kt_ret
            | with_reducible apply kt_exit
            | with_reducible apply kb_normal
            | with_reducible apply kb_ret
            | with_reducible apply kb_here
            | with_reducible apply kl_ret
            | with_reducible apply kl_exit
            | with_reducible apply kc_ret
            | with_reducible apply kc_exit
            | (with_reducible apply kb_there; (focus rfl))
          refine kl_normal (l.length - (k + 1)) _ (by omega) (Subl.cons (t := 0) (by decide) rfl (Subl.cons (t := 1) (by decide) rfl (Subl.cons (t := 5) (by decide) rfl (Subl.nil _ _)))) ?_
          refine ⟨k + 1, rfl, by omega, rfl, rfl, Lib.hid (fun x hx => ?_)⟩
          rw [List.take_add_one, HY.out] at hx
          rcases List.mem_append.1 hx with hx | hx
          · exact HK.out x hx
          · simp only [Option.toList_some, List.mem_singleton] at hx
            subst hx
            exact of_decide_eq_true HB.out
      · repeat first
          | apply d_seq
          | with_reducible apply kt_normal
          | apply l_nil
          | apply d_region
          | (apply l_off; (focus rfl); (focus rfl))
          | (apply l_val; (focus rfl); (focus rfl); (focus rfl); (focus (go_simp; (try simp (disch := omega) only [wrap_in, wrap_in', wrap_u16, wrap_u8, wrap_u32, wrap_u64, rem_in, quo_in]); first | done | with_reducible rfl | (constructor <;> with_reducible rfl))))
          | (apply l_store; (focus rfl); (focus rfl); (focus rfl); (focus (go_simp; (try simp (disch := omega) only [wrap_in, wrap_in', wrap_u16, wrap_u8, wrap_u32, wrap_u64, rem_in, quo_in]); first | done | with_reducible rfl | (constructor <;> with_reducible rfl))))
          | apply d_block
          | (apply d_true; (focus rfl); (focus rfl))
          | (apply d_false; (focus rfl); (focus rfl))
          | apply d_skip
          | apply d_exit
          | apply d_ret
          | with_reducible apply kt_ret
          | with_reducible apply kt_exit
          | with_reducible apply kb_normal
          | with_reducible apply kb_ret
          | with_reducible apply kb_here
          | with_reducible apply kl_ret
          | with_reducible apply kl_exit
          | with_reducible apply kc_ret
          | with_reducible apply kc_exit
          | (with_reducible apply kb_there; (focus rfl))
        refine kc_normal _ (Subl.cons (t := 0) (by decide) rfl (Subl.cons (t := 1) (by decide) rfl (Subl.cons (t := 5) (by decide) rfl (Subl.nil _ _)))) ?_
        exact ⟨k, hk, rfl, rfl, Lib.hid (wth_at HK.out (fun x hx => absurd (List.getElem?_eq_some_iff.1 hx).1 hlt))⟩
  · obtain ⟨k, hk, rfl, rfl, HW⟩ := hcut
    have hkc : (k : Int) ≤ c := by omega
    obtain ⟨A2, hrest, hpost⟩ := HS.out.rest (P := Try.prog) Try.underlying22 Try.sizeOf5 k hk
    have hpre := HS.out.take k hk
    rw [Nat.mul_one, show (ints .u8 l).take k = ints .u8 (l.take k) from (List.map_take ..).symm] at hpre
    rw [Nat.mul_one, show (ints .u8 l).drop k = ints .u8 (l.drop k) from (List.map_drop ..).symm] at hpost
    have HX := Lib.hid (HasF.nil (Keep.refl none_ wr)).drew
    have hlen : (l.take k ++ a :: l.drop k).length = k + 1 + (l.length - k) := by simp; omega
    rw [HW.out, hlen]
    have HPRE := Lib.hid hpre
    have HPOST := Lib.hid hpost
    have HLEN := Lib.hid hlen
    clear hpre hpost hlen
    clear HS HW
    repeat first
      | apply d_seq
      | with_reducible apply kt_normal
      | apply l_nil
      | apply d_region
      | (apply l_off; (focus rfl); (focus rfl))
      | (apply l_val; (focus rfl); (focus rfl); (focus rfl); (focus (go_simp; (try simp (disch := omega) only [wrap_in, wrap_in', wrap_u16, wrap_u8, wrap_u32, wrap_u64, rem_in, quo_in]); first | done | with_reducible rfl | (constructor <;> with_reducible rfl))))
      | (apply l_store; (focus rfl); (focus rfl); (focus rfl); (focus (go_simp; (try simp (disch := omega) only [wrap_in, wrap_in', wrap_u16, wrap_u8, wrap_u32, wrap_u64, rem_in, quo_in]); first | done | with_reducible rfl | (constructor <;> with_reducible rfl))))
      | apply d_block
      | (apply d_true; (focus rfl); (focus rfl))
      | (apply d_false; (focus rfl); (focus rfl))
      | apply d_skip
      | apply d_exit
      | apply d_ret
      | with_reducible apply kt_ret
      | with_reducible apply kt_exit
      | with_reducible apply kb_normal
      | with_reducible apply kb_ret
      | with_reducible apply kb_here
      | with_reducible apply kl_ret
      | with_reducible apply kl_exit
      | with_reducible apply kc_ret
      | with_reducible apply kc_exit
      | (with_reducible apply kb_there; (focus rfl))
    refine d_drawb (true, [([], []), ([], []), ([], []), ([1, 2], [1, 2]), ([0, 3], [0, 3]), ([], []), ([5], [5]), ([4, 6, 4], [4, 6]), ([], []), ([], []), ([8, 9], [8, 9]), ([7, 10, 7], [7, 10]), ([11, 11, 0, 1, 2, 3, 4, 5, 6, 7, 8, 9, 10, 11], [11])]) 13 [] (fun W => True) (by kernel_rfl) (by kernel_rfl) (by kernel_rfl) trivial ?_
    first | (apply b_off (i := 1); (focus rfl); (focus rfl); (focus rfl); (focus kernel_rfl)) | (apply b_yield (i := 1); (focus rfl); (focus rfl); (focus rfl); (focus rfl); (focus kernel_rfl); (focus (intro W hS; go_simp; (try simp (disch := omega) only [wrap_in, wrap_in', wrap_u16, wrap_u8, wrap_u32, wrap_u64, rem_in, quo_in]); first | done | with_reducible rfl | (constructor <;> with_reducible rfl))))
    first | (apply b_off (i := 2); (focus rfl); (focus rfl); (focus rfl); (focus kernel_rfl)) | (apply b_yield (i := 2); (focus rfl); (focus rfl); (focus rfl); (focus rfl); (focus kernel_rfl); (focus (intro W hS; go_simp; (try simp (disch := omega) only [wrap_in, wrap_in', wrap_u16, wrap_u8, wrap_u32, wrap_u64, rem_in, quo_in]); first | done | with_reducible rfl | (constructor <;> with_reducible rfl))))
    first | (apply b_off (i := 3); (focus rfl); (focus rfl); (focus rfl); (focus kernel_rfl)) | (apply b_yield (i := 3); (focus rfl); (focus rfl); (focus rfl); (focus rfl); (focus kernel_rfl); (focus (intro W hS; go_simp; (try simp (disch := omega) only [wrap_in, wrap_in', wrap_u16, wrap_u8, wrap_u32, wrap_u64, rem_in, quo_in]); first | done | with_reducible rfl | (constructor <;> with_reducible rfl))))
    first | (apply b_off (i := 5); (focus rfl); (focus rfl); (focus rfl); (focus kernel_rfl)) | (apply b_yield (i := 5); (focus rfl); (focus rfl); (focus rfl); (focus rfl); (focus kernel_rfl); (focus (intro W hS; go_simp; (try simp (disch := omega) only [wrap_in, wrap_in', wrap_u16, wrap_u8, wrap_u32, wrap_u64, rem_in, quo_in]); first | done | with_reducible rfl | (constructor <;> with_reducible rfl))))
    first | (apply b_off (i := 8); (focus rfl); (focus rfl); (focus rfl); (focus kernel_rfl)) | (apply b_yield (i := 8); (focus rfl); (focus rfl); (focus rfl); (focus rfl); (focus kernel_rfl); (focus (intro W hS; go_simp; (try simp (disch := omega) only [wrap_in, wrap_in', wrap_u16, wrap_u8, wrap_u32, wrap_u64, rem_in, quo_in]); first | done | with_reducible rfl | (constructor <;> with_reducible rfl))))
    first | (apply b_off (i := 9); (focus rfl); (focus rfl); (focus rfl); (focus kernel_rfl)) | (apply b_yield (i := 9); (focus rfl); (focus rfl); (focus rfl); (focus rfl); (focus kernel_rfl); (focus (intro W hS; go_simp; (try simp (disch := omega) only [wrap_in, wrap_in', wrap_u16, wrap_u8, wrap_u32, wrap_u64, rem_in, quo_in]); first | done | with_reducible rfl | (constructor <;> with_reducible rfl))))
    first | (apply b_off (i := 10); (focus rfl); (focus rfl); (focus rfl); (focus kernel_rfl)) | (apply b_yield (i := 10); (focus rfl); (focus rfl); (focus rfl); (focus rfl); (focus kernel_rfl); (focus (intro W hS; go_simp; (try simp (disch := omega) only [wrap_in, wrap_in', wrap_u16, wrap_u8, wrap_u32, wrap_u64, rem_in, quo_in]); first | done | with_reducible rfl | (constructor <;> with_reducible rfl))))
    refine b_two (i := 0) (j := 6) (by kernel_rfl) ?_ ?_
    · refine st_op rfl rfl rfl rfl (exec_build 22 #[] rfl rfl (run_b0 _)) trivial ?_
      have hx := HX.out.newRow 5 1
      simp only [List.nil_append, List.cons_append] at hx
      skip
      clear HX
      have HX := Lib.hid hx
      clear hx
      refine b_two (i := 4) (j := 6) (by kernel_rfl) ?_ ?_
      · obtain ⟨B4, d4, w4, hr, q1, q2, hx⟩ := appF_u8 HX.out (k := 0) (xs := []) rfl (HPRE.out.keep HX.out.old) (by omega)
        simp only [List.set_cons_zero, List.nil_append] at hx
        refine st_op rfl rfl rfl rfl (exec_append (.tmp 20) (.tmp 23) 22 rfl _ _ rfl rfl hr) trivial ?_
        clear HX hr
        have HX := Lib.hid hx
        clear hx
        refine b_one (i := 6) (by kernel_rfl) ?_
        refine st_op rfl rfl rfl rfl (exec_build 22 #[(0, .int .u8 a)] rfl rfl (run_b1 _ a)) trivial ?_
        have hx := HX.out.litRow #[.int .u8 a] 5 1 1 rfl (by simp [Value.oneCell']) (by decide)
        simp only [List.nil_append, List.cons_append] at hx
        clear HX
        have HX := Lib.hid hx
        clear hx
        refine b_one (i := 7) (by kernel_rfl) ?_
        obtain ⟨G, hs, -⟩ := HX.out.sees (i := 1) rfl
        obtain ⟨B7, d7, w7, hr, q3, q4, hx⟩ := appF_u8 HX.out (k := 0) (ys := [a]) rfl hs (by omega)
        simp only [List.set_cons_zero] at hx
        refine st_op rfl rfl rfl rfl (exec_append (.tmp 24) (.tmp 26) 22 rfl _ _ rfl rfl hr) trivial ?_
        clear HX hr hs
        have HX := Lib.hid hx
        clear hx
        refine b_one (i := 11) (by kernel_rfl) ?_
        obtain ⟨B11, d11, w11, hr, q5, q6, hx⟩ := appF_u8 HX.out (k := 0) rfl (HPOST.out.keep HX.out.old) (by omega)
        simp only [List.set_cons_zero] at hx
        refine st_op rfl rfl rfl rfl (exec_append (.tmp 27) (.tmp 30) 22 rfl _ _ rfl rfl hr) trivial ?_
        clear HX hr
        have HX := Lib.hid hx
        clear hx
        first | (apply b_off (i := 12); (focus rfl); (focus rfl); (focus rfl); (focus kernel_rfl)) | (apply b_yield (i := 12); (focus rfl); (focus rfl); (focus rfl); (focus rfl); (focus kernel_rfl); (focus (intro W hS; go_simp; (try simp (disch := omega) only [wrap_in, wrap_in', wrap_u16, wrap_u8, wrap_u32, wrap_u64, rem_in, quo_in]); first | done | with_reducible rfl | (constructor <;> with_reducible rfl))))
        refine b_done (by kernel_rfl) ?_
        repeat first
          | apply d_seq
          | with_reducible apply kt_normal
          | apply l_nil
          | apply d_region
          | (apply l_off; (focus rfl); (focus rfl))
          | (apply l_val; (focus rfl); (focus rfl); (focus rfl); (focus (go_simp; (try simp (disch := omega) only [wrap_in, wrap_in', wrap_u16, wrap_u8, wrap_u32, wrap_u64, rem_in, quo_in]); first | done | with_reducible rfl | (constructor <;> with_reducible rfl))))
          | (apply l_store; (focus rfl); (focus rfl); (focus rfl); (focus (go_simp; (try simp (disch := omega) only [wrap_in, wrap_in', wrap_u16, wrap_u8, wrap_u32, wrap_u64, rem_in, quo_in]); first | done | with_reducible rfl | (constructor <;> with_reducible rfl))))
          | apply d_block
          | (apply d_true; (focus rfl); (focus rfl))
          | (apply d_false; (focus rfl); (focus rfl))
          | apply d_skip
          | apply d_exit
          | apply d_ret
          | with_reducible apply kt_ret
          | with_reducible apply kt_exit
          | with_reducible apply kb_normal
          | with_reducible apply kb_ret
          | with_reducible apply kb_here
          | with_reducible apply kl_ret
          | with_reducible apply kl_exit
          | with_reducible apply kc_ret
          | with_reducible apply kc_exit
          | (with_reducible apply kb_there; (focus rfl))
        refine ⟨rfl, _, (by first | (simp [resultsG, resOne, Try.results26, rho, List.lookup]; done) | (simp [resultsG, resOne, Try.results26, rho, List.lookup]; rfl)), ?_⟩
        refine ⟨B11, d11, by first | rfl | rw [Nat.zero_add], by omega, q6, ?_⟩
        have hx := HX.out.one (i := 0) rfl
        rw [Nat.zero_add, List.append_assoc] at hx
        exact hx
      · refine st_op rfl rfl rfl rfl (exec_build 22 #[(0, .int .u8 a)] rfl rfl (run_b1 _ a)) trivial ?_
        have hx := HX.out.litRow #[.int .u8 a] 5 1 1 rfl (by simp [Value.oneCell']) (by decide)
        simp only [List.nil_append, List.cons_append] at hx
        clear HX
        have HX := Lib.hid hx
        clear hx
        refine b_one (i := 4) (by kernel_rfl) ?_
        obtain ⟨B4, d4, w4, hr, q1, q2, hx⟩ := appF_u8 HX.out (k := 0) (xs := []) rfl (HPRE.out.keep HX.out.old) (by omega)
        simp only [List.set_cons_zero, List.nil_append] at hx
        refine st_op rfl rfl rfl rfl (exec_append (.tmp 20) (.tmp 23) 22 rfl _ _ rfl rfl hr) trivial ?_
        clear HX hr
        have HX := Lib.hid hx
        clear hx
        refine b_one (i := 7) (by kernel_rfl) ?_
        obtain ⟨G, hs, -⟩ := HX.out.sees (i := 1) rfl
        obtain ⟨B7, d7, w7, hr, q3, q4, hx⟩ := appF_u8 HX.out (k := 0) (ys := [a]) rfl hs (by omega)
        simp only [List.set_cons_zero] at hx
        refine st_op rfl rfl rfl rfl (exec_append (.tmp 24) (.tmp 26) 22 rfl _ _ rfl rfl hr) trivial ?_
        clear HX hr hs
        have HX := Lib.hid hx
        clear hx
        refine b_one (i := 11) (by kernel_rfl) ?_
        obtain ⟨B11, d11, w11, hr, q5, q6, hx⟩ := appF_u8 HX.out (k := 0) rfl (HPOST.out.keep HX.out.old) (by omega)
        simp only [List.set_cons_zero] at hx
        refine st_op rfl rfl rfl rfl (exec_append (.tmp 27) (.tmp 30) 22 rfl _ _ rfl rfl hr) trivial ?_
        clear HX hr
        have HX := Lib.hid hx
        clear hx
        first | (apply b_off (i := 12); (focus rfl); (focus rfl); (focus rfl); (focus kernel_rfl)) | (apply b_yield (i := 12); (focus rfl); (focus rfl); (focus rfl); (focus rfl); (focus kernel_rfl); (focus (intro W hS; go_simp; (try simp (disch := omega) only [wrap_in, wrap_in', wrap_u16, wrap_u8, wrap_u32, wrap_u64, rem_in, quo_in]); first | done | with_reducible rfl | (constructor <;> with_reducible rfl))))
        refine b_done (by kernel_rfl) ?_
        repeat first
          | apply d_seq
          | with_reducible apply kt_normal
          | apply l_nil
          | apply d_region
          | (apply l_off; (focus rfl); (focus rfl))
          | (apply l_val; (focus rfl); (focus rfl); (focus rfl); (focus (go_simp; (try simp (disch := omega) only [wrap_in, wrap_in', wrap_u16, wrap_u8, wrap_u32, wrap_u64, rem_in, quo_in]); first | done | with_reducible rfl | (constructor <;> with_reducible rfl))))
          | (apply l_store; (focus rfl); (focus rfl); (focus rfl); (focus (go_simp; (try simp (disch := omega) only [wrap_in, wrap_in', wrap_u16, wrap_u8, wrap_u32, wrap_u64, rem_in, quo_in]); first | done | with_reducible rfl | (constructor <;> with_reducible rfl))))
          | apply d_block
          | (apply d_true; (focus rfl); (focus rfl))
          | (apply d_false; (focus rfl); (focus rfl))
          | apply d_skip
          | apply d_exit
          | apply d_ret
          | with_reducible apply kt_ret
          | with_reducible apply kt_exit
          | with_reducible apply kb_normal
          | with_reducible apply kb_ret
          | with_reducible apply kb_here
          | with_reducible apply kl_ret
          | with_reducible apply kl_exit
          | with_reducible apply kc_ret
          | with_reducible apply kc_exit
          | (with_reducible apply kb_there; (focus rfl))
        refine ⟨rfl, _, (by first | (simp [resultsG, resOne, Try.results26, rho, List.lookup]; done) | (simp [resultsG, resOne, Try.results26, rho, List.lookup]; rfl)), ?_⟩
        refine ⟨B11, d11, by first | rfl | rw [Nat.zero_add], by omega, q6, ?_⟩
        have hx := HX.out.one (i := 0) rfl
        rw [Nat.zero_add, List.append_assoc] at hx
        exact hx
    · refine st_op rfl rfl rfl rfl (exec_build 22 #[(0, .int .u8 a)] rfl rfl (run_b1 _ a)) trivial ?_
      have hx := HX.out.litRow #[.int .u8 a] 5 1 1 rfl (by simp [Value.oneCell']) (by decide)
      simp only [List.nil_append, List.cons_append] at hx
      clear HX
      have HX := Lib.hid hx
      clear hx
      refine b_one (i := 0) (by kernel_rfl) ?_
      refine st_op rfl rfl rfl rfl (exec_build 22 #[] rfl rfl (run_b0 _)) trivial ?_
      have hx := HX.out.newRow 5 1
      simp only [List.nil_append, List.cons_append] at hx
      have hx := hx.swap
      clear HX
      have HX := Lib.hid hx
      clear hx
      refine b_one (i := 4) (by kernel_rfl) ?_
      obtain ⟨B4, d4, w4, hr, q1, q2, hx⟩ := appF_u8 HX.out (k := 0) (xs := []) rfl (HPRE.out.keep HX.out.old) (by omega)
      simp only [List.set_cons_zero, List.nil_append] at hx
      refine st_op rfl rfl rfl rfl (exec_append (.tmp 20) (.tmp 23) 22 rfl _ _ rfl rfl hr) trivial ?_
      clear HX hr
      have HX := Lib.hid hx
      clear hx
      refine b_one (i := 7) (by kernel_rfl) ?_
      obtain ⟨G, hs, -⟩ := HX.out.sees (i := 1) rfl
      obtain ⟨B7, d7, w7, hr, q3, q4, hx⟩ := appF_u8 HX.out (k := 0) (ys := [a]) rfl hs (by omega)
      simp only [List.set_cons_zero] at hx
      refine st_op rfl rfl rfl rfl (exec_append (.tmp 24) (.tmp 26) 22 rfl _ _ rfl rfl hr) trivial ?_
      clear HX hr hs
      have HX := Lib.hid hx
      clear hx
      refine b_one (i := 11) (by kernel_rfl) ?_
      obtain ⟨B11, d11, w11, hr, q5, q6, hx⟩ := appF_u8 HX.out (k := 0) rfl (HPOST.out.keep HX.out.old) (by omega)
      simp only [List.set_cons_zero] at hx
      refine st_op rfl rfl rfl rfl (exec_append (.tmp 27) (.tmp 30) 22 rfl _ _ rfl rfl hr) trivial ?_
      clear HX hr
      have HX := Lib.hid hx
      clear hx
      first | (apply b_off (i := 12); (focus rfl); (focus rfl); (focus rfl); (focus kernel_rfl)) | (apply b_yield (i := 12); (focus rfl); (focus rfl); (focus rfl); (focus rfl); (focus kernel_rfl); (focus (intro W hS; go_simp; (try simp (disch := omega) only [wrap_in, wrap_in', wrap_u16, wrap_u8, wrap_u32, wrap_u64, rem_in, quo_in]); first | done | with_reducible rfl | (constructor <;> with_reducible rfl))))
      refine b_done (by kernel_rfl) ?_
      repeat first
        | apply d_seq
        | with_reducible apply kt_normal
        | apply l_nil
        | apply d_region
        | (apply l_off; (focus rfl); (focus rfl))
        | (apply l_val; (focus rfl); (focus rfl); (focus rfl); (focus (go_simp; (try simp (disch := omega) only [wrap_in, wrap_in', wrap_u16, wrap_u8, wrap_u32, wrap_u64, rem_in, quo_in]); first | done | with_reducible rfl | (constructor <;> with_reducible rfl))))
        | (apply l_store; (focus rfl); (focus rfl); (focus rfl); (focus (go_simp; (try simp (disch := omega) only [wrap_in, wrap_in', wrap_u16, wrap_u8, wrap_u32, wrap_u64, rem_in, quo_in]); first | done | with_reducible rfl | (constructor <;> with_reducible rfl))))
        | apply d_block
        | (apply d_true; (focus rfl); (focus rfl))
        | (apply d_false; (focus rfl); (focus rfl))
        | apply d_skip
        | apply d_exit
        | apply d_ret
        | with_reducible apply kt_ret
        | with_reducible apply kt_exit
        | with_reducible apply kb_normal
        | with_reducible apply kb_ret
        | with_reducible apply kb_here
        | with_reducible apply kl_ret
        | with_reducible apply kl_exit
        | with_reducible apply kc_ret
        | with_reducible apply kc_exit
        | (with_reducible apply kb_there; (focus rfl))
      refine ⟨rfl, _, (by first | (simp [resultsG, resOne, Try.results26, rho, List.lookup]; done) | (simp [resultsG, resOne, Try.results26, rho, List.lookup]; rfl)), ?_⟩
      refine ⟨B11, d11, by first | rfl | rw [Nat.zero_add], by omega, q6, ?_⟩
      have hx := HX.out.one (i := 0) rfl
      rw [Nat.zero_add, List.append_assoc] at hx
      exact hx
end Go.Proofs.Ytbcjmgocdplfnaa
