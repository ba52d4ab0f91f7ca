import Derived.Test.YtkjcmnhhgnlaeaaMapL
import Derived.Test.YtkjcmnhhgnlaeaaCod
import Derived.Test.YtkjcmnhhgnlaeaaHas
import Derived.Test.YtkjcmnhhgnlaeaaDW
namespace Go.Proofs.Ytkjcmnhhgnlaeaa
set_option linter.unusedVariables false
set_option linter.unusedSimpArgs false
attribute [local go_sem] rho_const rho_func rho_hit rho_miss
open Go.RowKit

structure Rw where
  item : Int
  wanted : Int
  picked : Int
  short : Int
  put : Int
deriving DecidableEq
def Rw.cs (r : Rw) : List Value := [.int .u16 r.item, .int .i64 r.wanted, .int .i64 r.picked, .int .i64 r.short, .int .i64 r.put]
def Rw.v (r : Rw) : Value := .agg #[.int .u16 r.item, .int .i64 r.wanted, .int .i64 r.picked, .int .i64 r.short, .int .i64 r.put]
def rws (l : List Rw) : List Value := l.flatMap Rw.cs
theorem Rw.five (r : Rw) : r.cs.length = 5 := rfl
theorem rws_len (l : List Rw) : (rws l).length = l.length * 5 := fl_len Rw.five l
theorem rws_one (l : List Rw) : ∀ u ∈ rws l, u.oneCell' = true := by
  intro u hu
  obtain ⟨x, _, hx⟩ := List.mem_flatMap.1 hu
  simp only [Rw.cs, List.mem_cons, List.not_mem_nil, or_false] at hx
  rcases hx with rfl | rfl | rfl | rfl | rfl <;> rfl
theorem rws_snoc (l : List Rw) (y : Rw) : rws (l ++ [y]) = rws l ++ y.cs := fl_snoc l y
theorem sees_row {w : World} {F : Nat → Prop} {v : Value} {n : Nat} {l : List Rw} (h : SeesIn w F 5 v n (rws l)) (hn : n = l.length) {k : Nat} {y : Rw} (hy : l[k]? = some y) : ∃ g o c, v = .slice (some ⟨g, o, none⟩) n c ∧ n ≤ c ∧ c ≤ 9223372036854775807 ∧ F g ∧ g < w.heap.size ∧
    w.cell? ⟨g, o + k * 5, none⟩ = some (.int .u16 y.item) ∧ w.cell? ⟨g, o + k * 5 + 1, none⟩ = some (.int .i64 y.wanted) ∧ w.cell? ⟨g, o + k * 5 + 2, none⟩ = some (.int .i64 y.picked) ∧ w.cell? ⟨g, o + k * 5 + 3, none⟩ = some (.int .i64 y.short) ∧ w.cell? ⟨g, o + k * 5 + 4, none⟩ = some (.int .i64 y.put) := by
  obtain ⟨g, o, c, e, h1, h2, hF, hg, hc⟩ := sees_get Rw.five h hn hy
  exact ⟨g, o, c, e, h1, by unfold maxLen at h2; omega, hF, hg, hc 0 _ rfl, by rw [Nat.add_assoc]; exact hc 1 _ rfl, by rw [Nat.add_assoc]; exact hc 2 _ rfl, by rw [Nat.add_assoc]; exact hc 3 _ rfl, by rw [Nat.add_assoc]; exact hc 4 _ rfl⟩
theorem rws_set (l : List Rw) : ∀ (k : Nat) (r : Rw), k < l.length → rws (l.set k r) = (((((rws l).set (k * 5) (.int .u16 r.item)).set (k * 5 + 1) (.int .i64 r.wanted)).set (k * 5 + 2) (.int .i64 r.picked)).set (k * 5 + 3) (.int .i64 r.short)).set (k * 5 + 4) (.int .i64 r.put) := by
  induction l with
  | nil => intro k r h; simp at h
  | cons y l ih =>
    intro k r h
    have e : ∀ z : Rw, ∀ m, rws (z :: m) = z.cs ++ rws m := fun z m => by simp [rws]
    cases k with
    | zero => rw [List.set_cons_zero, e, e]; simp [Rw.cs]
    | succ k =>
      rw [List.set_cons_succ, e, e, ih k r (by simpa using h)]
      have a : ∀ (xs : List Value) (j : Nat) (u : Value), (y.cs ++ xs).set ((k + 1) * 5 + j) u = y.cs ++ xs.set (k * 5 + j) u := fun xs j u => by
        rw [List.set_append_right _ _ (by rw [Rw.five]; omega), Rw.five, show (k + 1) * 5 + j - 5 = k * 5 + j by omega]
      have a0 := fun xs u => a xs 0 u
      simp only [Nat.add_zero] at a0
      rw [a0, a, a, a, a]

theorem Try.infoRow : (Try.prog.info? 52).map (fun i => (i.zero, i.size, i.bytes)) = some (some (.agg #[.int .u16 0, .int .i64 0, .int .i64 0, .int .i64 0, .int .i64 0]), 5, 40) := by kernel_rfl

theorem cloneR (v : Value) (n : Nat) (xs : List Value) (F : Nat → Prop) (w : World) (h : SeesIn w F 5 v n xs) (hb : n * 40 ≤ 140737488355328) :
    Calls Try.prog 32 #[v] w fun e w' => ∃ v', e = .returned v' ∧ Keep none_ w w' ∧ Own w' (fresh none_ w w') 52 5 v' n xs := by
  obtain ⟨i0, hi, hz0, hz1, hz2⟩ := info_parts Try.infoRow
  have H := Lib.hid h
  have hq := fun (w : World) (a : Option Addr) (n c : Nat) => Lib.run_eql_slice_nil (P := Try.prog) w 44 52 a n c 0 0 Try.underlying44
  obtain ⟨A, c, rfl, h1, h2, h2', h3, h3', h4⟩ := h
  clear h3' h4
  cases A with
  | none =>
    obtain rfl := h2' rfl
    obtain rfl : n = 0 := by omega
    obtain rfl : xs = [] := List.eq_nil_of_length_eq_zero (by simpa using h3)
    clear h3 h2'
    refine d_calls (n := 8) Try.func32 rfl rfl (by simp) [(0, .slice none 0 0)] (by simp) ?_
    repeat first
      | apply d_seq
      | with_reducible apply kt_normal
      | apply l_nil
      | apply d_region
      | (apply l_off; (focus rfl); (focus rfl))
      | (apply l_val; (focus rfl); (focus rfl); (focus rfl); (focus (go_simp; (try simp (disch := omega) only [wrap_in, wrap_in', wrap_u16, wrap_u8, wrap_u32, wrap_u64, rem_in, quo_in]); first | done | with_reducible rfl | (constructor <;> with_reducible rfl))))
      | (apply l_store; (focus rfl); (focus rfl); (focus rfl); (focus (go_simp; (try simp (disch := omega) only [wrap_in, wrap_in', wrap_u16, wrap_u8, wrap_u32, wrap_u64, rem_in, quo_in]); first | done | with_reducible rfl | (constructor <;> with_reducible rfl))))
      | apply d_block
      | (apply d_true; (focus rfl); (focus rfl))
      | (apply d_false; (focus rfl); (focus rfl))
      | apply d_skip
      | apply d_exit
      | apply d_ret
      | with_reducible apply kt_ret
      | with_reducible apply kt_exit
      | with_reducible apply kb_normal
      | with_reducible apply kb_ret
      | with_reducible apply kb_here
      | with_reducible apply kl_ret
      | with_reducible apply kl_exit
      | with_reducible apply kc_ret
      | with_reducible apply kc_exit
      | (with_reducible apply kb_there; (focus rfl))
    refine ⟨rfl, _, (by first | (simp [resultsG, resOne, Try.results32, rho, List.lookup]; done) | (simp [resultsG, resOne, Try.results32, rho, List.lookup]; rfl)), ?_⟩
    exact ⟨_, rfl, Keep.refl _ _, Own.nil _ _ _ _⟩
  | some a =>
    obtain ⟨v', w', hr, ho, hgr, -⟩ := clone_law (P := Try.prog) (w.alloc (.cells #[] 52)) 44 52 i0 _ 5 40 Try.underlying44 hi hz0 hz1 hz2 rfl (by decide) F w.heap.size (heap_alloc_new _ _) (.slice (some a) n c) n xs
      (H.out.move (by simp) (fun k hk hl => ⟨hk, Below.heap_alloc _ _ _ hl⟩)) hb 44
    have HO := Lib.hid ho
    have HG := Lib.hid hgr
    clear ho hgr h2' h3 hi hz0 hz1 hz2
    refine d_calls (n := 8) Try.func32 rfl rfl (by simp) [(0, .slice (some a) n c)] (by simp) ?_
    repeat first
      | apply d_seq
      | with_reducible apply kt_normal
      | apply l_nil
      | apply d_region
      | (apply l_off; (focus rfl); (focus rfl))
      | (apply l_val; (focus rfl); (focus rfl); (focus rfl); (focus (go_simp; (try simp (disch := omega) only [wrap_in, wrap_in', wrap_u16, wrap_u8, wrap_u32, wrap_u64, rem_in, quo_in]); first | done | with_reducible rfl | (constructor <;> with_reducible rfl))))
      | (apply l_store; (focus rfl); (focus rfl); (focus rfl); (focus (go_simp; (try simp (disch := omega) only [wrap_in, wrap_in', wrap_u16, wrap_u8, wrap_u32, wrap_u64, rem_in, quo_in]); first | done | with_reducible rfl | (constructor <;> with_reducible rfl))))
      | apply d_block
      | (apply d_true; (focus rfl); (focus rfl))
      | (apply d_false; (focus rfl); (focus rfl))
      | apply d_skip
      | apply d_exit
      | apply d_ret
      | with_reducible apply kt_ret
      | with_reducible apply kt_exit
      | with_reducible apply kb_normal
      | with_reducible apply kb_ret
      | with_reducible apply kb_here
      | with_reducible apply kl_ret
      | with_reducible apply kl_exit
      | with_reducible apply kc_ret
      | with_reducible apply kc_exit
      | (with_reducible apply kb_there; (focus rfl))
    refine l_val rfl rfl rfl (exec_append (.tmp 5) (.tmp 6) 44 rfl _ _ rfl rfl hr) ?_
    clear hr
    repeat first
      | apply d_seq
      | with_reducible apply kt_normal
      | apply l_nil
      | apply d_region
      | (apply l_off; (focus rfl); (focus rfl))
      | (apply l_val; (focus rfl); (focus rfl); (focus rfl); (focus (go_simp; (try simp (disch := omega) only [wrap_in, wrap_in', wrap_u16, wrap_u8, wrap_u32, wrap_u64, rem_in, quo_in]); first | done | with_reducible rfl | (constructor <;> with_reducible rfl))))
      | (apply l_store; (focus rfl); (focus rfl); (focus rfl); (focus (go_simp; (try simp (disch := omega) only [wrap_in, wrap_in', wrap_u16, wrap_u8, wrap_u32, wrap_u64, rem_in, quo_in]); first | done | with_reducible rfl | (constructor <;> with_reducible rfl))))
      | apply d_block
      | (apply d_true; (focus rfl); (focus rfl))
      | (apply d_false; (focus rfl); (focus rfl))
      | apply d_skip
      | apply d_exit
      | apply d_ret
      | with_reducible apply kt_ret
      | with_reducible apply kt_exit
      | with_reducible apply kb_normal
      | with_reducible apply kb_ret
      | with_reducible apply kb_here
      | with_reducible apply kl_ret
      | with_reducible apply kl_exit
      | with_reducible apply kc_ret
      | with_reducible apply kc_exit
      | (with_reducible apply kb_there; (focus rfl))
    refine ⟨rfl, _, (by first | (simp [resultsG, resOne, Try.results32, rho, List.lookup]; done) | (simp [resultsG, resOne, Try.results32, rho, List.lookup]; rfl)), ?_⟩
    exact ⟨v', rfl, ((Keep.refl _ _).alloc _).grown HG.out (by simp), HO.out.move (fun k hk hl => ⟨by simp [fresh, none_] at hk ⊢; omega, rfl⟩)⟩

/-- A closure of one captured pointer, asked of rows; what it makes is new. -/
theorem indexR (v : Value) (l : List Rw) (p : Rw → Bool) (fn : FuncId) (cp : Value) (hcf : ∀ (args : Array Value) (w : World), (callFunc fn args).run Try.prog w = .ok (.enter fn args) w) (F : Nat → Prop) (w : World) (h : SeesIn w F 5 v l.length (rws l))
    (hp : ∀ W : World, Keep none_ w W → ∀ y ∈ l, Calls Try.prog fn #[.agg #[.int .u16 y.item, .int .i64 y.wanted, .int .i64 y.picked, .int .i64 y.short, .int .i64 y.put], cp] W fun e w' => e = .returned (.bool (p y)) ∧ Keep none_ W w') :
    Calls Try.prog 46 #[v, .func (.func fn) #[] #[cp]] w fun e w' => e = .returned (.int .i64 (pidx l p)) ∧ Keep none_ w w' := by
  have H := Lib.hid h
  have HP := Lib.hid hp
  obtain ⟨A, c, rfl, h1, h2, -⟩ := h.form
  clear h hp
  refine d_calls (n := 19) Try.func46 rfl rfl (by simp) [(0, .slice A l.length c), (1, .func (.func fn) #[] #[cp])] (by simp) ?_
  repeat first
    | apply d_seq
    | with_reducible apply kt_normal
    | apply l_nil
    | apply d_region
    | (apply l_off; (focus rfl); (focus rfl))
    | (apply l_val; (focus rfl); (focus rfl); (focus rfl); (focus (go_simp; (try simp (disch := omega) only [wrap_in, wrap_in', wrap_u16, wrap_u8, wrap_u32, wrap_u64, rem_in, quo_in]); first | done | with_reducible rfl | (constructor <;> with_reducible rfl))))
    | (apply l_store; (focus rfl); (focus rfl); (focus rfl); (focus (go_simp; (try simp (disch := omega) only [wrap_in, wrap_in', wrap_u16, wrap_u8, wrap_u32, wrap_u64, rem_in, quo_in]); first | done | with_reducible rfl | (constructor <;> with_reducible rfl))))
    | apply d_block
    | (apply d_true; (focus rfl); (focus rfl))
    | (apply d_false; (focus rfl); (focus rfl))
    | apply d_skip
    | apply d_exit
    | apply d_ret
    | with_reducible apply kt_ret
    | with_reducible apply kt_exit
    | with_reducible apply kb_normal
    | with_reducible apply kb_ret
    | with_reducible apply kb_here
    | with_reducible apply kl_ret
    | with_reducible apply kl_exit
    | with_reducible apply kc_ret
    | with_reducible apply kc_exit
    | (with_reducible apply kb_there; (focus rfl))
  refine d_loop (fun m D wr => ∃ k : Nat, m = l.length - k ∧ k ≤ l.length ∧ D = [(0, .slice A l.length c), (1, .func (.func fn) #[] #[cp]), (7, .int .i64 l.length), (8, .int .i64 k)] ∧ Hid ((∀ z ∈ l.take k, p z = false) ∧ Keep none_ w wr)) (l.length) _ (Subl.cons (t := 0) (by decide) rfl (Subl.cons (t := 1) (by decide) rfl (Subl.cons (t := 7) (by decide) rfl (Subl.cons (t := 8) (by decide) rfl (Subl.nil _ _))))) ?_ (fun m D wr hrel => ?_)
  · exact ⟨0, rfl, Nat.zero_le _, rfl, Lib.hid ⟨by simp, Keep.refl _ _⟩⟩
  · obtain ⟨k, rfl, hk, rfl, HX⟩ := hrel
    by_cases hlt : k < l.length
    · obtain ⟨y, hy⟩ : ∃ y, l[k]? = some y := ⟨_, List.getElem?_eq_getElem hlt⟩
      obtain ⟨g, o, c', e1, -, -, -, -, d0, d1, d2, d3, d4⟩ := sees_row (H.out.move (w' := wr) (G := F) HX.out.2.size (fun q hq hl => ⟨hq, HX.out.2.block q hl (fun c => c)⟩)) rfl hy
      simp only [Value.slice.injEq, true_and] at e1
      obtain ⟨rfl, rfl⟩ := e1
      have HC := Lib.hid (HP.out wr HX.out.2 y (List.mem_of_getElem? hy))
      have HY := Lib.hid hy
      clear hy
      repeat first
        | apply d_seq
        | with_reducible apply kt_normal
        | apply l_nil
        | apply d_region
        | (apply l_off; (focus rfl); (focus rfl))
        | (apply l_val; (focus rfl); (focus rfl); (focus rfl); (focus (go_simp; (try simp (disch := omega) only [wrap_in, wrap_in', wrap_u16, wrap_u8, wrap_u32, wrap_u64, rem_in, quo_in]); first | done | with_reducible rfl | (constructor <;> with_reducible rfl))))
        | (apply l_store; (focus rfl); (focus rfl); (focus rfl); (focus (go_simp; (try simp (disch := omega) only [wrap_in, wrap_in', wrap_u16, wrap_u8, wrap_u32, wrap_u64, rem_in, quo_in]); first | done | with_reducible rfl | (constructor <;> with_reducible rfl))))
        | apply d_block
        | (apply d_true; (focus rfl); (focus rfl))
        | (apply d_false; (focus rfl); (focus rfl))
        | apply d_skip
        | apply d_exit
        | apply d_ret
        | with_reducible apply kt_ret
        | with_reducible apply kt_exit
        | with_reducible apply kb_normal
        | with_reducible apply kb_ret
        | with_reducible apply kb_here
        | with_reducible apply kl_ret
        | with_reducible apply kl_exit
        | with_reducible apply kc_ret
        | with_reducible apply kc_exit
        | (with_reducible apply kb_there; (focus rfl))
      refine l_call rfl rfl rfl (by first | (go_simp; done) | (go_simp; rfl)) (HC.out) ?_
      rintro e w' ⟨rfl, hkq⟩
      have HQ := Lib.hid hkq
      clear hkq
      cases hb : p y with
      | true =>
        have HB := Lib.hid hb
        clear hb
        refine ⟨_, rfl, ?_⟩
        repeat first
          | apply d_seq
          | with_reducible apply kt_normal
          | apply l_nil
          | apply d_region
          | (apply l_off; (focus rfl); (focus rfl))
          | (apply l_val; (focus rfl); (focus rfl); (focus rfl); (focus (go_simp; (try simp (disch := omega) only [wrap_in, wrap_in', wrap_u16, wrap_u8, wrap_u32, wrap_u64, rem_in, quo_in]); first | done | with_reducible rfl | (constructor <;> with_reducible rfl))))
          | (apply l_store; (focus rfl); (focus rfl); (focus rfl); (focus (go_simp; (try simp (disch := omega) only [wrap_in, wrap_in', wrap_u16, wrap_u8, wrap_u32, wrap_u64, rem_in, quo_in]); first | done | with_reducible rfl | (constructor <;> with_reducible rfl))))
          | apply d_block
          | (apply d_true; (focus rfl); (focus rfl))
          | (apply d_false; (focus rfl); (focus rfl))
          | apply d_skip
          | apply d_exit
          | apply d_ret
          | with_reducible apply kt_ret
          | with_reducible apply kt_exit
          | with_reducible apply kb_normal
          | with_reducible apply kb_ret
          | with_reducible apply kb_here
          | with_reducible apply kl_ret
          | with_reducible apply kl_exit
          | with_reducible apply kc_ret
          | with_reducible apply kc_exit
          | (with_reducible apply kb_there; (focus rfl))
        refine ⟨rfl, _, (by first | (simp [resultsG, resOne, Try.results46, rho, List.lookup]; done) | (simp [resultsG, resOne, Try.results46, rho, List.lookup]; rfl)), ?_⟩
        exact ⟨by rw [pidx_hit HY.out HB.out HX.out.1], HX.out.2.next HQ.out⟩
      | false =>
        have HB := Lib.hid hb
        clear hb
        refine ⟨_, rfl, ?_⟩
        repeat first
          | apply d_seq
          | with_reducible apply kt_normal
          | apply l_nil
          | apply d_region
          | (apply l_off; (focus rfl); (focus rfl))
          | (apply l_val; (focus rfl); (focus rfl); (focus rfl); (focus (go_simp; (try simp (disch := omega) only [wrap_in, wrap_in', wrap_u16, wrap_u8, wrap_u32, wrap_u64, rem_in, quo_in]); first | done | with_reducible rfl | (constructor <;> with_reducible rfl))))
          | (apply l_store; (focus rfl); (focus rfl); (focus rfl); (focus (go_simp; (try simp (disch := omega) only [wrap_in, wrap_in', wrap_u16, wrap_u8, wrap_u32, wrap_u64, rem_in, quo_in]); first | done | with_reducible rfl | (constructor <;> with_reducible rfl))))
          | apply d_block
          | (apply d_true; (focus rfl); (focus rfl))
          | (apply d_false; (focus rfl); (focus rfl))
          | apply d_skip
          | apply d_exit
          | apply d_ret
          | with_reducible apply kt_ret
          | with_reducible apply kt_exit
          | with_reducible apply kb_normal
          | with_reducible apply kb_ret
          | with_reducible apply kb_here
          | with_reducible apply kl_ret
          | with_reducible apply kl_exit
          | with_reducible apply kc_ret
          | with_reducible apply kc_exit
          | (with_reducible apply kb_there; (focus rfl))
        refine kl_normal (l.length - (k + 1)) _ (by omega) (Subl.cons (t := 0) (by decide) rfl (Subl.cons (t := 1) (by decide) rfl (Subl.cons (t := 7) (by decide) rfl (Subl.cons (t := 8) (by decide) rfl (Subl.nil _ _))))) ?_
        exact ⟨k + 1, rfl, by omega, by simp, Lib.hid ⟨take_snoc_all HY.out HB.out HX.out.1, HX.out.2.next HQ.out⟩⟩
    · repeat first
        | apply d_seq
        | with_reducible apply kt_normal
        | apply l_nil
        | apply d_region
        | (apply l_off; (focus rfl); (focus rfl))
        | (apply l_val; (focus rfl); (focus rfl); (focus rfl); (focus (go_simp; (try simp (disch := omega) only [wrap_in, wrap_in', wrap_u16, wrap_u8, wrap_u32, wrap_u64, rem_in, quo_in]); first | done | with_reducible rfl | (constructor <;> with_reducible rfl))))
        | (apply l_store; (focus rfl); (focus rfl); (focus rfl); (focus (go_simp; (try simp (disch := omega) only [wrap_in, wrap_in', wrap_u16, wrap_u8, wrap_u32, wrap_u64, rem_in, quo_in]); first | done | with_reducible rfl | (constructor <;> with_reducible rfl))))
        | apply d_block
        | (apply d_true; (focus rfl); (focus rfl))
        | (apply d_false; (focus rfl); (focus rfl))
        | apply d_skip
        | apply d_exit
        | apply d_ret
        | with_reducible apply kt_ret
        | with_reducible apply kt_exit
        | with_reducible apply kb_normal
        | with_reducible apply kb_ret
        | with_reducible apply kb_here
        | with_reducible apply kl_ret
        | with_reducible apply kl_exit
        | with_reducible apply kc_ret
        | with_reducible apply kc_exit
        | (with_reducible apply kb_there; (focus rfl))
      refine ⟨rfl, _, (by first | (simp [resultsG, resOne, Try.results46, rho, List.lookup]; done) | (simp [resultsG, resOne, Try.results46, rho, List.lookup]; rfl)), ?_⟩
      exact ⟨by rw [pidx_miss (by have := HX.out.1; rwa [List.take_of_length_le (by omega)] at this)], HX.out.2⟩
theorem hasR (v : Value) (l : List Rw) (p : Rw → Bool) (fn : FuncId) (cp : Value) (hcf : ∀ (args : Array Value) (w : World), (callFunc fn args).run Try.prog w = .ok (.enter fn args) w) (F : Nat → Prop) (w : World) (h : SeesIn w F 5 v l.length (rws l))
    (hp : ∀ W : World, Keep none_ w W → ∀ y ∈ l, Calls Try.prog fn #[.agg #[.int .u16 y.item, .int .i64 y.wanted, .int .i64 y.picked, .int .i64 y.short, .int .i64 y.put], cp] W fun e w' => e = .returned (.bool (p y)) ∧ Keep none_ W w') :
    Calls Try.prog 43 #[v, .func (.func fn) #[] #[cp]] w fun e w' => e = .returned (.bool (l.any p)) ∧ Keep none_ w w' := by
  have HC := Lib.hid (indexR v l p fn cp hcf F w h hp)
  have HG := Lib.hid (pidx_ge l p)
  clear h hp hcf
  refine d_calls (n := 9) Try.func43 rfl rfl (by simp) [(0, v), (1, .func (.func fn) #[] #[cp])] (by simp) ?_
  repeat first
    | apply d_seq
    | with_reducible apply kt_normal
    | apply l_nil
    | apply d_region
    | (apply l_off; (focus rfl); (focus rfl))
    | (apply l_val; (focus rfl); (focus rfl); (focus rfl); (focus (go_simp; (try simp (disch := omega) only [wrap_in, wrap_in', wrap_u16, wrap_u8, wrap_u32, wrap_u64, rem_in, quo_in]); first | done | with_reducible rfl | (constructor <;> with_reducible rfl))))
    | (apply l_store; (focus rfl); (focus rfl); (focus rfl); (focus (go_simp; (try simp (disch := omega) only [wrap_in, wrap_in', wrap_u16, wrap_u8, wrap_u32, wrap_u64, rem_in, quo_in]); first | done | with_reducible rfl | (constructor <;> with_reducible rfl))))
    | apply d_block
    | (apply d_true; (focus rfl); (focus rfl))
    | (apply d_false; (focus rfl); (focus rfl))
    | apply d_skip
    | apply d_exit
    | apply d_ret
    | with_reducible apply kt_ret
    | with_reducible apply kt_exit
    | with_reducible apply kb_normal
    | with_reducible apply kb_ret
    | with_reducible apply kb_here
    | with_reducible apply kl_ret
    | with_reducible apply kl_exit
    | with_reducible apply kc_ret
    | with_reducible apply kc_exit
    | (with_reducible apply kb_there; (focus rfl))
  refine l_call rfl rfl rfl (by first | (go_simp; done) | (go_simp; rfl)) (HC.out) ?_
  rintro e w' ⟨rfl, hk⟩
  refine ⟨_, rfl, ?_⟩
  repeat first
    | apply d_seq
    | with_reducible apply kt_normal
    | apply l_nil
    | apply d_region
    | (apply l_off; (focus rfl); (focus rfl))
    | (apply l_val; (focus rfl); (focus rfl); (focus rfl); (focus (go_simp; (try simp (disch := omega) only [wrap_in, wrap_in', wrap_u16, wrap_u8, wrap_u32, wrap_u64, rem_in, quo_in]); first | done | with_reducible rfl | (constructor <;> with_reducible rfl))))
    | (apply l_store; (focus rfl); (focus rfl); (focus rfl); (focus (go_simp; (try simp (disch := omega) only [wrap_in, wrap_in', wrap_u16, wrap_u8, wrap_u32, wrap_u64, rem_in, quo_in]); first | done | with_reducible rfl | (constructor <;> with_reducible rfl))))
    | apply d_block
    | (apply d_true; (focus rfl); (focus rfl))
    | (apply d_false; (focus rfl); (focus rfl))
    | apply d_skip
    | apply d_exit
    | apply d_ret
    | with_reducible apply kt_ret
    | with_reducible apply kt_exit
    | with_reducible apply kb_normal
    | with_reducible apply kb_ret
    | with_reducible apply kb_here
    | with_reducible apply kl_ret
    | with_reducible apply kl_exit
    | with_reducible apply kc_ret
    | with_reducible apply kc_exit
    | (with_reducible apply kb_there; (focus rfl))
  refine ⟨rfl, _, (by first | (simp [resultsG, resOne, Try.results43, rho, List.lookup]; done) | (simp [resultsG, resOne, Try.results43, rho, List.lookup]; rfl)), ?_⟩
  exact ⟨by rw [← HG.out], hk⟩
end Go.Proofs.Ytkjcmnhhgnlaeaa
