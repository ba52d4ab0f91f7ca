import Derived.Test.YtkjcmnhhgnlaeaaLnC
import Derived.Test.YtkjcmnhhgnlaeaaHas
import Derived.Test.YtkjcmnhhgnlaeaaDW
namespace Go.Proofs.Ytkjcmnhhgnlaeaa
set_option linter.unusedVariables false
set_option linter.unusedSimpArgs false
attribute [local go_sem] rho_const rho_func rho_hit rho_miss
open Go.RowKit

/-- A closure of one captured pointer, asked of lines; what it makes is new. -/
theorem indexL (v : Value) (l : List Ln) (p : Ln → Bool) (fn : FuncId) (cp : Value) (hcf : ∀ (args : Array Value) (w : World), (callFunc fn args).run Try.prog w = .ok (.enter fn args) w) (F : Nat → Prop) (w : World) (h : SeesIn w F 3 v l.length (lns l))
    (hp : ∀ W : World, Keep none_ w W → ∀ y ∈ l, Calls Try.prog fn #[.agg #[.int .u16 y.item, .int .u16 y.loc, .int .i64 y.qty], cp] W fun e w' => e = .returned (.bool (p y)) ∧ Keep none_ W w') :
    Calls Try.prog 51 #[v, .func (.func fn) #[] #[cp]] w fun e w' => e = .returned (.int .i64 (pidx l p)) ∧ Keep none_ w w' := by
  have H := Lib.hid h
  have HP := Lib.hid hp
  obtain ⟨A, c, rfl, h1, h2, -⟩ := h.form
  clear h hp
  refine d_calls (n := 19) Try.func51 rfl rfl (by simp) [(0, .slice A l.length c), (1, .func (.func fn) #[] #[cp])] (by simp) ?_
  repeat first
    | apply d_seq
    | with_reducible apply kt_normal
    | apply l_nil
    | apply d_region
    | (apply l_off; (focus rfl); (focus rfl))
    | (apply l_val; (focus rfl); (focus rfl); (focus rfl); (focus (go_simp; (try simp (disch := omega) only [wrap_in, wrap_in', wrap_u16, wrap_u8, wrap_u32, wrap_u64, rem_in, quo_in]); first | done | with_reducible rfl | (constructor <;> with_reducible rfl))))
    | (apply l_store; (focus rfl); (focus rfl); (focus rfl); (focus (go_simp; (try simp (disch := omega) only [wrap_in, wrap_in', wrap_u16, wrap_u8, wrap_u32, wrap_u64, rem_in, quo_in]); first | done | with_reducible rfl | (constructor <;> with_reducible rfl))))
    | apply d_block
    | (apply d_true; (focus rfl); (focus rfl))
    | (apply d_false; (focus rfl); (focus rfl))
    | apply d_skip
    | apply d_exit
    | apply d_ret
    | with_reducible apply kt_ret
    | with_reducible apply kt_exit
    | with_reducible apply kb_normal
    | with_reducible apply kb_ret
    | with_reducible apply kb_here
    | with_reducible apply kl_ret
    | with_reducible apply kl_exit
    | with_reducible apply kc_ret
    | with_reducible apply kc_exit
    | (with_reducible apply kb_there; (focus rfl))
  refine d_loop (fun m D wr => ∃ k : Nat, m = l.length - k ∧ k ≤ l.length ∧ D = [(0, .slice A l.length c), (1, .func (.func fn) #[] #[cp]), (7, .int .i64 l.length), (8, .int .i64 k)] ∧ Hid ((∀ z ∈ l.take k, p z = false) ∧ Keep none_ w wr)) (l.length) _ (Subl.cons (t := 0) (by decide) rfl (Subl.cons (t := 1) (by decide) rfl (Subl.cons (t := 7) (by decide) rfl (Subl.cons (t := 8) (by decide) rfl (Subl.nil _ _))))) ?_ (fun m D wr hrel => ?_)
  · exact ⟨0, rfl, Nat.zero_le _, rfl, Lib.hid ⟨by simp, Keep.refl _ _⟩⟩
  · obtain ⟨k, rfl, hk, rfl, HX⟩ := hrel
    by_cases hlt : k < l.length
    · obtain ⟨y, hy⟩ : ∃ y, l[k]? = some y := ⟨_, List.getElem?_eq_getElem hlt⟩
      obtain ⟨g, o, c', e1, -, -, -, -, d0, d1, d2⟩ := sees_line (H.out.move (w' := wr) (G := F) HX.out.2.size (fun q hq hl => ⟨hq, HX.out.2.block q hl (fun c => c)⟩)) rfl hy
      simp only [Value.slice.injEq, true_and] at e1
      obtain ⟨rfl, rfl⟩ := e1
      have HC := Lib.hid (HP.out wr HX.out.2 y (List.mem_of_getElem? hy))
      have HY := Lib.hid hy
      clear hy
      repeat first
        | apply d_seq
        | with_reducible apply kt_normal
        | apply l_nil
        | apply d_region
        | (apply l_off; (focus rfl); (focus rfl))
        | (apply l_val; (focus rfl); (focus rfl); (focus rfl); (focus (go_simp; (try simp (disch := omega) only [wrap_in, wrap_in', wrap_u16, wrap_u8, wrap_u32, wrap_u64, rem_in, quo_in]); first | done | with_reducible rfl | (constructor <;> with_reducible rfl))))
        | (apply l_store; (focus rfl); (focus rfl); (focus rfl); (focus (go_simp; (try simp (disch := omega) only [wrap_in, wrap_in', wrap_u16, wrap_u8, wrap_u32, wrap_u64, rem_in, quo_in]); first | done | with_reducible rfl | (constructor <;> with_reducible rfl))))
        | apply d_block
        | (apply d_true; (focus rfl); (focus rfl))
        | (apply d_false; (focus rfl); (focus rfl))
        | apply d_skip
        | apply d_exit
        | apply d_ret
        | with_reducible apply kt_ret
        | with_reducible apply kt_exit
        | with_reducible apply kb_normal
        | with_reducible apply kb_ret
        | with_reducible apply kb_here
        | with_reducible apply kl_ret
        | with_reducible apply kl_exit
        | with_reducible apply kc_ret
        | with_reducible apply kc_exit
        | (with_reducible apply kb_there; (focus rfl))
      refine l_call rfl rfl rfl (by first | (go_simp; done) | (go_simp; rfl)) (HC.out) ?_
      rintro e w' ⟨rfl, hkq⟩
      have HQ := Lib.hid hkq
      clear hkq
      cases hb : p y with
      | true =>
        have HB := Lib.hid hb
        clear hb
        refine ⟨_, rfl, ?_⟩
        repeat first
          | apply d_seq
          | with_reducible apply kt_normal
          | apply l_nil
          | apply d_region
          | (apply l_off; (focus rfl); (focus rfl))
          | (apply l_val; (focus rfl); (focus rfl); (focus rfl); (focus (go_simp; (try simp (disch := omega) only [wrap_in, wrap_in', wrap_u16, wrap_u8, wrap_u32, wrap_u64, rem_in, quo_in]); first | done | with_reducible rfl | (constructor <;> with_reducible rfl))))
          | (apply l_store; (focus rfl); (focus rfl); (focus rfl); (focus (go_simp; (try simp (disch := omega) only [wrap_in, wrap_in', wrap_u16, wrap_u8, wrap_u32, wrap_u64, rem_in, quo_in]); first | done | with_reducible rfl | (constructor <;> with_reducible rfl))))
          | apply d_block
          | (apply d_true; (focus rfl); (focus rfl))
          | (apply d_false; (focus rfl); (focus rfl))
          | apply d_skip
          | apply d_exit
          | apply d_ret
          | with_reducible apply kt_ret
          | with_reducible apply kt_exit
          | with_reducible apply kb_normal
          | with_reducible apply kb_ret
          | with_reducible apply kb_here
          | with_reducible apply kl_ret
          | with_reducible apply kl_exit
          | with_reducible apply kc_ret
          | with_reducible apply kc_exit
          | (with_reducible apply kb_there; (focus rfl))
        refine ⟨rfl, _, (by first | (simp [resultsG, resOne, Try.results51, rho, List.lookup]; done) | (simp [resultsG, resOne, Try.results51, rho, List.lookup]; rfl)), ?_⟩
        exact ⟨by rw [pidx_hit HY.out HB.out HX.out.1], HX.out.2.next HQ.out⟩
      | false =>
        have HB := Lib.hid hb
        clear hb
        refine ⟨_, rfl, ?_⟩
        repeat first
          | apply d_seq
          | with_reducible apply kt_normal
          | apply l_nil
          | apply d_region
          | (apply l_off; (focus rfl); (focus rfl))
          | (apply l_val; (focus rfl); (focus rfl); (focus rfl); (focus (go_simp; (try simp (disch := omega) only [wrap_in, wrap_in', wrap_u16, wrap_u8, wrap_u32, wrap_u64, rem_in, quo_in]); first | done | with_reducible rfl | (constructor <;> with_reducible rfl))))
          | (apply l_store; (focus rfl); (focus rfl); (focus rfl); (focus (go_simp; (try simp (disch := omega) only [wrap_in, wrap_in', wrap_u16, wrap_u8, wrap_u32, wrap_u64, rem_in, quo_in]); first | done | with_reducible rfl | (constructor <;> with_reducible rfl))))
          | apply d_block
          | (apply d_true; (focus rfl); (focus rfl))
          | (apply d_false; (focus rfl); (focus rfl))
          | apply d_skip
          | apply d_exit
          | apply d_ret
          | with_reducible apply kt_ret
          | with_reducible apply kt_exit
          | with_reducible apply kb_normal
          | with_reducible apply kb_ret
          | with_reducible apply kb_here
          | with_reducible apply kl_ret
          | with_reducible apply kl_exit
          | with_reducible apply kc_ret
          | with_reducible apply kc_exit
          | (with_reducible apply kb_there; (focus rfl))
        refine kl_normal (l.length - (k + 1)) _ (by omega) (Subl.cons (t := 0) (by decide) rfl (Subl.cons (t := 1) (by decide) rfl (Subl.cons (t := 7) (by decide) rfl (Subl.cons (t := 8) (by decide) rfl (Subl.nil _ _))))) ?_
        exact ⟨k + 1, rfl, by omega, by simp, Lib.hid ⟨take_snoc_all HY.out HB.out HX.out.1, HX.out.2.next HQ.out⟩⟩
    · repeat first
        | apply d_seq
        | with_reducible apply kt_normal
        | apply l_nil
        | apply d_region
        | (apply l_off; (focus rfl); (focus rfl))
        | (apply l_val; (focus rfl); (focus rfl); (focus rfl); (focus (go_simp; (try simp (disch := omega) only [wrap_in, wrap_in', wrap_u16, wrap_u8, wrap_u32, wrap_u64, rem_in, quo_in]); first | done | with_reducible rfl | (constructor <;> with_reducible rfl))))
        | (apply l_store; (focus rfl); (focus rfl); (focus rfl); (focus (go_simp; (try simp (disch := omega) only [wrap_in, wrap_in', wrap_u16, wrap_u8, wrap_u32, wrap_u64, rem_in, quo_in]); first | done | with_reducible rfl | (constructor <;> with_reducible rfl))))
        | apply d_block
        | (apply d_true; (focus rfl); (focus rfl))
        | (apply d_false; (focus rfl); (focus rfl))
        | apply d_skip
        | apply d_exit
        | apply d_ret
        | with_reducible apply kt_ret
        | with_reducible apply kt_exit
        | with_reducible apply kb_normal
        | with_reducible apply kb_ret
        | with_reducible apply kb_here
        | with_reducible apply kl_ret
        | with_reducible apply kl_exit
        | with_reducible apply kc_ret
        | with_reducible apply kc_exit
        | (with_reducible apply kb_there; (focus rfl))
      refine ⟨rfl, _, (by first | (simp [resultsG, resOne, Try.results51, rho, List.lookup]; done) | (simp [resultsG, resOne, Try.results51, rho, List.lookup]; rfl)), ?_⟩
      exact ⟨by rw [pidx_miss (by have := HX.out.1; rwa [List.take_of_length_le (by omega)] at this)], HX.out.2⟩
theorem hasL (v : Value) (l : List Ln) (p : Ln → Bool) (fn : FuncId) (cp : Value) (hcf : ∀ (args : Array Value) (w : World), (callFunc fn args).run Try.prog w = .ok (.enter fn args) w) (F : Nat → Prop) (w : World) (h : SeesIn w F 3 v l.length (lns l))
    (hp : ∀ W : World, Keep none_ w W → ∀ y ∈ l, Calls Try.prog fn #[.agg #[.int .u16 y.item, .int .u16 y.loc, .int .i64 y.qty], cp] W fun e w' => e = .returned (.bool (p y)) ∧ Keep none_ W w') :
    Calls Try.prog 50 #[v, .func (.func fn) #[] #[cp]] w fun e w' => e = .returned (.bool (l.any p)) ∧ Keep none_ w w' := by
  have HC := Lib.hid (indexL v l p fn cp hcf F w h hp)
  have HG := Lib.hid (pidx_ge l p)
  clear h hp hcf
  refine d_calls (n := 9) Try.func50 rfl rfl (by simp) [(0, v), (1, .func (.func fn) #[] #[cp])] (by simp) ?_
  repeat first
    | apply d_seq
    | with_reducible apply kt_normal
    | apply l_nil
    | apply d_region
    | (apply l_off; (focus rfl); (focus rfl))
    | (apply l_val; (focus rfl); (focus rfl); (focus rfl); (focus (go_simp; (try simp (disch := omega) only [wrap_in, wrap_in', wrap_u16, wrap_u8, wrap_u32, wrap_u64, rem_in, quo_in]); first | done | with_reducible rfl | (constructor <;> with_reducible rfl))))
    | (apply l_store; (focus rfl); (focus rfl); (focus rfl); (focus (go_simp; (try simp (disch := omega) only [wrap_in, wrap_in', wrap_u16, wrap_u8, wrap_u32, wrap_u64, rem_in, quo_in]); first | done | with_reducible rfl | (constructor <;> with_reducible rfl))))
    | apply d_block
    | (apply d_true; (focus rfl); (focus rfl))
    | (apply d_false; (focus rfl); (focus rfl))
    | apply d_skip
    | apply d_exit
    | apply d_ret
    | with_reducible apply kt_ret
    | with_reducible apply kt_exit
    | with_reducible apply kb_normal
    | with_reducible apply kb_ret
    | with_reducible apply kb_here
    | with_reducible apply kl_ret
    | with_reducible apply kl_exit
    | with_reducible apply kc_ret
    | with_reducible apply kc_exit
    | (with_reducible apply kb_there; (focus rfl))
  refine l_call rfl rfl rfl (by first | (go_simp; done) | (go_simp; rfl)) (HC.out) ?_
  rintro e w' ⟨rfl, hk⟩
  refine ⟨_, rfl, ?_⟩
  repeat first
    | apply d_seq
    | with_reducible apply kt_normal
    | apply l_nil
    | apply d_region
    | (apply l_off; (focus rfl); (focus rfl))
    | (apply l_val; (focus rfl); (focus rfl); (focus rfl); (focus (go_simp; (try simp (disch := omega) only [wrap_in, wrap_in', wrap_u16, wrap_u8, wrap_u32, wrap_u64, rem_in, quo_in]); first | done | with_reducible rfl | (constructor <;> with_reducible rfl))))
    | (apply l_store; (focus rfl); (focus rfl); (focus rfl); (focus (go_simp; (try simp (disch := omega) only [wrap_in, wrap_in', wrap_u16, wrap_u8, wrap_u32, wrap_u64, rem_in, quo_in]); first | done | with_reducible rfl | (constructor <;> with_reducible rfl))))
    | apply d_block
    | (apply d_true; (focus rfl); (focus rfl))
    | (apply d_false; (focus rfl); (focus rfl))
    | apply d_skip
    | apply d_exit
    | apply d_ret
    | with_reducible apply kt_ret
    | with_reducible apply kt_exit
    | with_reducible apply kb_normal
    | with_reducible apply kb_ret
    | with_reducible apply kb_here
    | with_reducible apply kl_ret
    | with_reducible apply kl_exit
    | with_reducible apply kc_ret
    | with_reducible apply kc_exit
    | (with_reducible apply kb_there; (focus rfl))
  refine ⟨rfl, _, (by first | (simp [resultsG, resOne, Try.results50, rho, List.lookup]; done) | (simp [resultsG, resOne, Try.results50, rho, List.lookup]; rfl)), ?_⟩
  exact ⟨by rw [← HG.out], hk⟩

theorem line1_any (x : Ln) (c : Nat) (y : Ln) (w : World) (hb : w.heap[c]? = some (.cells #[.int .u16 y.item, .int .u16 y.loc, .int .i64 y.qty] 59 (0, 0))) :
    Calls Try.prog 49 #[.agg #[.int .u16 x.item, .int .u16 x.loc, .int .i64 x.qty], .pointer (some ⟨c, 0, none⟩)] w fun e w' => e = .returned (.bool (x.item == y.item || x.loc == y.loc)) ∧ Keep none_ w w' := by
  obtain ⟨c0, c1, c2, -⟩ := blk3 hb
  have d0 := cell_old (.cells #[.int .u16 x.item, .int .u16 x.loc, .int .i64 x.qty] 59) c0
  have d1 := cell_old (.cells #[.int .u16 x.item, .int .u16 x.loc, .int .i64 x.qty] 59) c1
  clear hb c0 c1 c2
  cases hi : (x.item == y.item) with
  | true =>
    refine d_calls (n := 16) Try.func49 rfl rfl (by simp) [(0, .agg #[.int .u16 x.item, .int .u16 x.loc, .int .i64 x.qty]), (1, .pointer (some ⟨c, 0, none⟩))] (by simp) ?_
    repeat first
      | apply d_seq
      | with_reducible apply kt_normal
      | apply l_nil
      | apply d_region
      | (apply l_off; (focus rfl); (focus rfl))
      | (apply l_val; (focus rfl); (focus rfl); (focus rfl); (focus (go_simp; (try simp (disch := omega) only [wrap_in, wrap_in', wrap_u16, wrap_u8, wrap_u32, wrap_u64, rem_in, quo_in]); first | done | with_reducible rfl | (constructor <;> with_reducible rfl))))
      | (apply l_store; (focus rfl); (focus rfl); (focus rfl); (focus (go_simp; (try simp (disch := omega) only [wrap_in, wrap_in', wrap_u16, wrap_u8, wrap_u32, wrap_u64, rem_in, quo_in]); first | done | with_reducible rfl | (constructor <;> with_reducible rfl))))
      | apply d_block
      | (apply d_true; (focus rfl); (focus rfl))
      | (apply d_false; (focus rfl); (focus rfl))
      | apply d_skip
      | apply d_exit
      | apply d_ret
      | with_reducible apply kt_ret
      | with_reducible apply kt_exit
      | with_reducible apply kb_normal
      | with_reducible apply kb_ret
      | with_reducible apply kb_here
      | with_reducible apply kl_ret
      | with_reducible apply kl_exit
      | with_reducible apply kc_ret
      | with_reducible apply kc_exit
      | (with_reducible apply kb_there; (focus rfl))
    refine ⟨rfl, _, (by first | (simp [resultsG, resOne, Try.results49, rho, List.lookup]; done) | (simp [resultsG, resOne, Try.results49, rho, List.lookup]; rfl)), ?_⟩
    exact ⟨by simp, (Keep.refl _ _).alloc _⟩
  | false =>
    refine d_calls (n := 16) Try.func49 rfl rfl (by simp) [(0, .agg #[.int .u16 x.item, .int .u16 x.loc, .int .i64 x.qty]), (1, .pointer (some ⟨c, 0, none⟩))] (by simp) ?_
    repeat first
      | apply d_seq
      | with_reducible apply kt_normal
      | apply l_nil
      | apply d_region
      | (apply l_off; (focus rfl); (focus rfl))
      | (apply l_val; (focus rfl); (focus rfl); (focus rfl); (focus (go_simp; (try simp (disch := omega) only [wrap_in, wrap_in', wrap_u16, wrap_u8, wrap_u32, wrap_u64, rem_in, quo_in]); first | done | with_reducible rfl | (constructor <;> with_reducible rfl))))
      | (apply l_store; (focus rfl); (focus rfl); (focus rfl); (focus (go_simp; (try simp (disch := omega) only [wrap_in, wrap_in', wrap_u16, wrap_u8, wrap_u32, wrap_u64, rem_in, quo_in]); first | done | with_reducible rfl | (constructor <;> with_reducible rfl))))
      | apply d_block
      | (apply d_true; (focus rfl); (focus rfl))
      | (apply d_false; (focus rfl); (focus rfl))
      | apply d_skip
      | apply d_exit
      | apply d_ret
      | with_reducible apply kt_ret
      | with_reducible apply kt_exit
      | with_reducible apply kb_normal
      | with_reducible apply kb_ret
      | with_reducible apply kb_here
      | with_reducible apply kl_ret
      | with_reducible apply kl_exit
      | with_reducible apply kc_ret
      | with_reducible apply kc_exit
      | (with_reducible apply kb_there; (focus rfl))
    refine ⟨rfl, _, (by first | (simp [resultsG, resOne, Try.results49, rho, List.lookup]; done) | (simp [resultsG, resOne, Try.results49, rho, List.lookup]; rfl)), ?_⟩
    exact ⟨by simp, (Keep.refl _ _).alloc _⟩
def lineE (ahead : List Ln) (l : Ln) : Int :=
  if 64 ≤ l.loc then 1 else if l.qty < 1 ∨ 9999 < l.qty then 10 else if ahead.any (fun x => x.item == l.item || x.loc == l.loc) = true then 8 else 0
theorem line_any (v : Value) (ahead : List Ln) (l : Ln) (F : Nat → Prop) (w : World) (h : SeesIn w F 3 v ahead.length (lns ahead)) :
    Calls Try.prog 45 #[v, .agg #[.int .u16 l.item, .int .u16 l.loc, .int .i64 l.qty]] w fun e w' => e = .returned (.int .i64 (lineE ahead l)) ∧ Keep none_ w w' := by
  have HR : Hid (lineE ahead l = if 64 ≤ l.loc then 1 else if l.qty < 1 ∨ 9999 < l.qty then 10 else if ahead.any (fun x => x.item == l.item || x.loc == l.loc) = true then 8 else 0) := Lib.hid rfl
  have HC := Lib.hid (hasL v ahead (fun x => x.item == l.item || x.loc == l.loc) 49 (.pointer (some ⟨w.heap.size, 0, none⟩)) (fun args w => by go_simp) F (w.alloc (.cells #[.int .u16 l.item, .int .u16 l.loc, .int .i64 l.qty] 59)) (h.move (by simp) (fun k hk hl => ⟨hk, Below.heap_alloc _ _ _ hl⟩))
    (fun W hW y _ => line1_any y w.heap.size l W ((hW.block _ (by simp) (fun c => c)).trans (heap_alloc_new _ _))))
  clear h
  by_cases h1 : 64 ≤ l.loc
  · rw [if_pos h1] at HR
    refine d_calls (n := 24) Try.func45 rfl rfl (by simp) [(0, v), (1, .agg #[.int .u16 l.item, .int .u16 l.loc, .int .i64 l.qty])] (by simp) ?_
    repeat first
      | apply d_seq
      | with_reducible apply kt_normal
      | apply l_nil
      | apply d_region
      | (apply l_off; (focus rfl); (focus rfl))
      | (apply l_val; (focus rfl); (focus rfl); (focus rfl); (focus (go_simp; (try simp (disch := omega) only [wrap_in, wrap_in', wrap_u16, wrap_u8, wrap_u32, wrap_u64, rem_in, quo_in]); first | done | with_reducible rfl | (constructor <;> with_reducible rfl))))
      | (apply l_store; (focus rfl); (focus rfl); (focus rfl); (focus (go_simp; (try simp (disch := omega) only [wrap_in, wrap_in', wrap_u16, wrap_u8, wrap_u32, wrap_u64, rem_in, quo_in]); first | done | with_reducible rfl | (constructor <;> with_reducible rfl))))
      | apply d_block
      | (apply d_true; (focus rfl); (focus rfl))
      | (apply d_false; (focus rfl); (focus rfl))
      | apply d_skip
      | apply d_exit
      | apply d_ret
      | with_reducible apply kt_ret
      | with_reducible apply kt_exit
      | with_reducible apply kb_normal
      | with_reducible apply kb_ret
      | with_reducible apply kb_here
      | with_reducible apply kl_ret
      | with_reducible apply kl_exit
      | with_reducible apply kc_ret
      | with_reducible apply kc_exit
      | (with_reducible apply kb_there; (focus rfl))
    refine ⟨rfl, _, (by first | (simp [resultsG, resOne, Try.results45, rho, List.lookup]; done) | (simp [resultsG, resOne, Try.results45, rho, List.lookup]; rfl)), ?_⟩
    exact ⟨by rw [HR.out], (Keep.refl _ _).alloc _⟩
  · rw [if_neg h1] at HR
    by_cases h2 : l.qty < 1 ∨ 9999 < l.qty
    · rw [if_pos h2] at HR
      rcases Int.lt_or_le l.qty 1 with h3 | h3
      · clear h2
        refine d_calls (n := 24) Try.func45 rfl rfl (by simp) [(0, v), (1, .agg #[.int .u16 l.item, .int .u16 l.loc, .int .i64 l.qty])] (by simp) ?_
        repeat first
          | apply d_seq
          | with_reducible apply kt_normal
          | apply l_nil
          | apply d_region
          | (apply l_off; (focus rfl); (focus rfl))
          | (apply l_val; (focus rfl); (focus rfl); (focus rfl); (focus (go_simp; (try simp (disch := omega) only [wrap_in, wrap_in', wrap_u16, wrap_u8, wrap_u32, wrap_u64, rem_in, quo_in]); first | done | with_reducible rfl | (constructor <;> with_reducible rfl))))
          | (apply l_store; (focus rfl); (focus rfl); (focus rfl); (focus (go_simp; (try simp (disch := omega) only [wrap_in, wrap_in', wrap_u16, wrap_u8, wrap_u32, wrap_u64, rem_in, quo_in]); first | done | with_reducible rfl | (constructor <;> with_reducible rfl))))
          | apply d_block
          | (apply d_true; (focus rfl); (focus rfl))
          | (apply d_false; (focus rfl); (focus rfl))
          | apply d_skip
          | apply d_exit
          | apply d_ret
          | with_reducible apply kt_ret
          | with_reducible apply kt_exit
          | with_reducible apply kb_normal
          | with_reducible apply kb_ret
          | with_reducible apply kb_here
          | with_reducible apply kl_ret
          | with_reducible apply kl_exit
          | with_reducible apply kc_ret
          | with_reducible apply kc_exit
          | (with_reducible apply kb_there; (focus rfl))
        refine ⟨rfl, _, (by first | (simp [resultsG, resOne, Try.results45, rho, List.lookup]; done) | (simp [resultsG, resOne, Try.results45, rho, List.lookup]; rfl)), ?_⟩
        exact ⟨by rw [HR.out], (Keep.refl _ _).alloc _⟩
      · have h4 : 9999 < l.qty := by omega
        have h5 : decide (l.qty < 1) = false := by simp; omega
        clear h2 h3
        refine d_calls (n := 24) Try.func45 rfl rfl (by simp) [(0, v), (1, .agg #[.int .u16 l.item, .int .u16 l.loc, .int .i64 l.qty])] (by simp) ?_
        repeat first
          | apply d_seq
          | with_reducible apply kt_normal
          | apply l_nil
          | apply d_region
          | (apply l_off; (focus rfl); (focus rfl))
          | (apply l_val; (focus rfl); (focus rfl); (focus rfl); (focus (go_simp; (try simp (disch := omega) only [wrap_in, wrap_in', wrap_u16, wrap_u8, wrap_u32, wrap_u64, rem_in, quo_in]); first | done | with_reducible rfl | (constructor <;> with_reducible rfl))))
          | (apply l_store; (focus rfl); (focus rfl); (focus rfl); (focus (go_simp; (try simp (disch := omega) only [wrap_in, wrap_in', wrap_u16, wrap_u8, wrap_u32, wrap_u64, rem_in, quo_in]); first | done | with_reducible rfl | (constructor <;> with_reducible rfl))))
          | apply d_block
          | (apply d_true; (focus rfl); (focus rfl))
          | (apply d_false; (focus rfl); (focus rfl))
          | apply d_skip
          | apply d_exit
          | apply d_ret
          | with_reducible apply kt_ret
          | with_reducible apply kt_exit
          | with_reducible apply kb_normal
          | with_reducible apply kb_ret
          | with_reducible apply kb_here
          | with_reducible apply kl_ret
          | with_reducible apply kl_exit
          | with_reducible apply kc_ret
          | with_reducible apply kc_exit
          | (with_reducible apply kb_there; (focus rfl))
        refine ⟨rfl, _, (by first | (simp [resultsG, resOne, Try.results45, rho, List.lookup]; done) | (simp [resultsG, resOne, Try.results45, rho, List.lookup]; rfl)), ?_⟩
        exact ⟨by rw [HR.out], (Keep.refl _ _).alloc _⟩
    · rw [if_neg h2] at HR
      have h4 : decide (9999 < l.qty) = false := by simp; omega
      have h5 : decide (l.qty < 1) = false := by simp; omega
      clear h2
      refine d_calls (n := 24) Try.func45 rfl rfl (by simp) [(0, v), (1, .agg #[.int .u16 l.item, .int .u16 l.loc, .int .i64 l.qty])] (by simp) ?_
      repeat first
        | apply d_seq
        | with_reducible apply kt_normal
        | apply l_nil
        | apply d_region
        | (apply l_off; (focus rfl); (focus rfl))
        | (apply l_val; (focus rfl); (focus rfl); (focus rfl); (focus (go_simp; (try simp (disch := omega) only [wrap_in, wrap_in', wrap_u16, wrap_u8, wrap_u32, wrap_u64, rem_in, quo_in]); first | done | with_reducible rfl | (constructor <;> with_reducible rfl))))
        | (apply l_store; (focus rfl); (focus rfl); (focus rfl); (focus (go_simp; (try simp (disch := omega) only [wrap_in, wrap_in', wrap_u16, wrap_u8, wrap_u32, wrap_u64, rem_in, quo_in]); first | done | with_reducible rfl | (constructor <;> with_reducible rfl))))
        | apply d_block
        | (apply d_true; (focus rfl); (focus rfl))
        | (apply d_false; (focus rfl); (focus rfl))
        | apply d_skip
        | apply d_exit
        | apply d_ret
        | with_reducible apply kt_ret
        | with_reducible apply kt_exit
        | with_reducible apply kb_normal
        | with_reducible apply kb_ret
        | with_reducible apply kb_here
        | with_reducible apply kl_ret
        | with_reducible apply kl_exit
        | with_reducible apply kc_ret
        | with_reducible apply kc_exit
        | (with_reducible apply kb_there; (focus rfl))
      refine l_call rfl rfl rfl (by first | (go_simp; done) | (go_simp; rfl)) (HC.out) ?_
      rintro e w' ⟨rfl, hk⟩
      have HK := Lib.hid (((Keep.refl none_ w).alloc _).next hk)
      clear hk
      cases ha : ahead.any (fun x => x.item == l.item || x.loc == l.loc) with
      | true =>
        rw [ha] at HR
        refine ⟨_, rfl, ?_⟩
        repeat first
          | apply d_seq
          | with_reducible apply kt_normal
          | apply l_nil
          | apply d_region
          | (apply l_off; (focus rfl); (focus rfl))
          | (apply l_val; (focus rfl); (focus rfl); (focus rfl); (focus (go_simp; (try simp (disch := omega) only [wrap_in, wrap_in', wrap_u16, wrap_u8, wrap_u32, wrap_u64, rem_in, quo_in]); first | done | with_reducible rfl | (constructor <;> with_reducible rfl))))
          | (apply l_store; (focus rfl); (focus rfl); (focus rfl); (focus (go_simp; (try simp (disch := omega) only [wrap_in, wrap_in', wrap_u16, wrap_u8, wrap_u32, wrap_u64, rem_in, quo_in]); first | done | with_reducible rfl | (constructor <;> with_reducible rfl))))
          | apply d_block
          | (apply d_true; (focus rfl); (focus rfl))
          | (apply d_false; (focus rfl); (focus rfl))
          | apply d_skip
          | apply d_exit
          | apply d_ret
          | with_reducible apply kt_ret
          | with_reducible apply kt_exit
          | with_reducible apply kb_normal
          | with_reducible apply kb_ret
          | with_reducible apply kb_here
          | with_reducible apply kl_ret
          | with_reducible apply kl_exit
          | with_reducible apply kc_ret
          | with_reducible apply kc_exit
          | (with_reducible apply kb_there; (focus rfl))
        refine ⟨rfl, _, (by first | (simp [resultsG, resOne, Try.results45, rho, List.lookup]; done) | (simp [resultsG, resOne, Try.results45, rho, List.lookup]; rfl)), ?_⟩
        exact ⟨by rw [HR.out]; simp, HK.out⟩
      | false =>
        rw [ha] at HR
        refine ⟨_, rfl, ?_⟩
        repeat first
          | apply d_seq
          | with_reducible apply kt_normal
          | apply l_nil
          | apply d_region
          | (apply l_off; (focus rfl); (focus rfl))
          | (apply l_val; (focus rfl); (focus rfl); (focus rfl); (focus (go_simp; (try simp (disch := omega) only [wrap_in, wrap_in', wrap_u16, wrap_u8, wrap_u32, wrap_u64, rem_in, quo_in]); first | done | with_reducible rfl | (constructor <;> with_reducible rfl))))
          | (apply l_store; (focus rfl); (focus rfl); (focus rfl); (focus (go_simp; (try simp (disch := omega) only [wrap_in, wrap_in', wrap_u16, wrap_u8, wrap_u32, wrap_u64, rem_in, quo_in]); first | done | with_reducible rfl | (constructor <;> with_reducible rfl))))
          | apply d_block
          | (apply d_true; (focus rfl); (focus rfl))
          | (apply d_false; (focus rfl); (focus rfl))
          | apply d_skip
          | apply d_exit
          | apply d_ret
          | with_reducible apply kt_ret
          | with_reducible apply kt_exit
          | with_reducible apply kb_normal
          | with_reducible apply kb_ret
          | with_reducible apply kb_here
          | with_reducible apply kl_ret
          | with_reducible apply kl_exit
          | with_reducible apply kc_ret
          | with_reducible apply kc_exit
          | (with_reducible apply kb_there; (focus rfl))
        refine ⟨rfl, _, (by first | (simp [resultsG, resOne, Try.results45, rho, List.lookup]; done) | (simp [resultsG, resOne, Try.results45, rho, List.lookup]; rfl)), ?_⟩
        exact ⟨by rw [HR.out]; simp, HK.out⟩

/-- The first that is wrong with lines, from the k-th on. -/
def errFrom (ls : List Ln) : Nat → Nat → Int
  | 0, _ => 0
  | d + 1, k => match ls[k]? with
    | none => 0
    | some l => if lineE (ls.take k) l = 0 then errFrom ls d (k + 1) else lineE (ls.take k) l
def rightE (ls : List Ln) : Int := if ls.length = 0 then 3 else if 8 < ls.length then 5 else errFrom ls ls.length 0
theorem right_any' (id : Int) (v : Value) (ls : List Ln) (F : Nat → Prop) (w : World) (h : SeesIn w F 3 v ls.length (lns ls)) :
    Calls Try.prog 38 #[.agg #[.int .u32 id, v]] w fun e w' => e = .returned (.int .i64 (rightE ls)) ∧ Keep none_ w w' := by
  have H := Lib.hid h
  obtain ⟨A, c, rfl, h1, h2, -⟩ := h.form
  have HR : Hid (rightE ls = if ls.length = 0 then 3 else if 8 < ls.length then 5 else errFrom ls ls.length 0) := Lib.hid rfl
  clear h
  by_cases h0 : ls.length = 0
  · rw [if_pos h0] at HR
    have h0' : ((ls.length : Int) == 0) = true := by simp [h0]
    clear h0
    refine d_calls (n := 34) Try.func38 rfl rfl (by simp) [(0, .agg #[.int .u32 id, .slice A ls.length c])] (by simp) ?_
    repeat first
      | apply d_seq
      | with_reducible apply kt_normal
      | apply l_nil
      | apply d_region
      | (apply l_off; (focus rfl); (focus rfl))
      | (apply l_val; (focus rfl); (focus rfl); (focus rfl); (focus (go_simp; (try simp (disch := omega) only [wrap_in, wrap_in', wrap_u16, wrap_u8, wrap_u32, wrap_u64, rem_in, quo_in]); first | done | with_reducible rfl | (constructor <;> with_reducible rfl))))
      | (apply l_store; (focus rfl); (focus rfl); (focus rfl); (focus (go_simp; (try simp (disch := omega) only [wrap_in, wrap_in', wrap_u16, wrap_u8, wrap_u32, wrap_u64, rem_in, quo_in]); first | done | with_reducible rfl | (constructor <;> with_reducible rfl))))
      | apply d_block
      | (apply d_true; (focus rfl); (focus rfl))
      | (apply d_false; (focus rfl); (focus rfl))
      | apply d_skip
      | apply d_exit
      | apply d_ret
      | with_reducible apply kt_ret
      | with_reducible apply kt_exit
      | with_reducible apply kb_normal
      | with_reducible apply kb_ret
      | with_reducible apply kb_here
      | with_reducible apply kl_ret
      | with_reducible apply kl_exit
      | with_reducible apply kc_ret
      | with_reducible apply kc_exit
      | (with_reducible apply kb_there; (focus rfl))
    refine ⟨rfl, _, (by first | (simp [resultsG, resOne, Try.results38, rho, List.lookup]; done) | (simp [resultsG, resOne, Try.results38, rho, List.lookup]; rfl)), ?_⟩
    exact ⟨by rw [HR.out], (Keep.refl _ _).alloc _⟩
  · rw [if_neg h0] at HR
    have h0' : ((ls.length : Int) == 0) = false := by simp; exact fun e => h0 (by simp [e])
    by_cases h8 : 8 < ls.length
    · rw [if_pos h8] at HR
      have h8' : decide ((8 : Int) < ls.length) = true := by simp; omega
      clear h0
      refine d_calls (n := 34) Try.func38 rfl rfl (by simp) [(0, .agg #[.int .u32 id, .slice A ls.length c])] (by simp) ?_
      repeat first
        | apply d_seq
        | with_reducible apply kt_normal
        | apply l_nil
        | apply d_region
        | (apply l_off; (focus rfl); (focus rfl))
        | (apply l_val; (focus rfl); (focus rfl); (focus rfl); (focus (go_simp; (try simp (disch := omega) only [wrap_in, wrap_in', wrap_u16, wrap_u8, wrap_u32, wrap_u64, rem_in, quo_in]); first | done | with_reducible rfl | (constructor <;> with_reducible rfl))))
        | (apply l_store; (focus rfl); (focus rfl); (focus rfl); (focus (go_simp; (try simp (disch := omega) only [wrap_in, wrap_in', wrap_u16, wrap_u8, wrap_u32, wrap_u64, rem_in, quo_in]); first | done | with_reducible rfl | (constructor <;> with_reducible rfl))))
        | apply d_block
        | (apply d_true; (focus rfl); (focus rfl))
        | (apply d_false; (focus rfl); (focus rfl))
        | apply d_skip
        | apply d_exit
        | apply d_ret
        | with_reducible apply kt_ret
        | with_reducible apply kt_exit
        | with_reducible apply kb_normal
        | with_reducible apply kb_ret
        | with_reducible apply kb_here
        | with_reducible apply kl_ret
        | with_reducible apply kl_exit
        | with_reducible apply kc_ret
        | with_reducible apply kc_exit
        | (with_reducible apply kb_there; (focus rfl))
      refine ⟨rfl, _, (by first | (simp [resultsG, resOne, Try.results38, rho, List.lookup]; done) | (simp [resultsG, resOne, Try.results38, rho, List.lookup]; rfl)), ?_⟩
      exact ⟨by rw [HR.out], (Keep.refl _ _).alloc _⟩
    · rw [if_neg h8] at HR
      have h8' : decide ((8 : Int) < ls.length) = false := by simp; omega
      clear h0
      refine d_calls (n := 34) Try.func38 rfl rfl (by simp) [(0, .agg #[.int .u32 id, .slice A ls.length c])] (by simp) ?_
      repeat first
        | apply d_seq
        | with_reducible apply kt_normal
        | apply l_nil
        | apply d_region
        | (apply l_off; (focus rfl); (focus rfl))
        | (apply l_val; (focus rfl); (focus rfl); (focus rfl); (focus (go_simp; (try simp (disch := omega) only [wrap_in, wrap_in', wrap_u16, wrap_u8, wrap_u32, wrap_u64, rem_in, quo_in]); first | done | with_reducible rfl | (constructor <;> with_reducible rfl))))
        | (apply l_store; (focus rfl); (focus rfl); (focus rfl); (focus (go_simp; (try simp (disch := omega) only [wrap_in, wrap_in', wrap_u16, wrap_u8, wrap_u32, wrap_u64, rem_in, quo_in]); first | done | with_reducible rfl | (constructor <;> with_reducible rfl))))
        | apply d_block
        | (apply d_true; (focus rfl); (focus rfl))
        | (apply d_false; (focus rfl); (focus rfl))
        | apply d_skip
        | apply d_exit
        | apply d_ret
        | with_reducible apply kt_ret
        | with_reducible apply kt_exit
        | with_reducible apply kb_normal
        | with_reducible apply kb_ret
        | with_reducible apply kb_here
        | with_reducible apply kl_ret
        | with_reducible apply kl_exit
        | with_reducible apply kc_ret
        | with_reducible apply kc_exit
        | (with_reducible apply kb_there; (focus rfl))
      have hob : (w.alloc (.cells #[.int .u32 id, .slice A ls.length c] 34)).heap[w.heap.size]? = some (.cells #[.int .u32 id, .slice A ls.length c] 34 (0, 0)) := heap_alloc_new _ _
      have hk0 := (Keep.refl none_ w).alloc (.cells #[.int .u32 id, .slice A ls.length c] 34)
      have hs0 : w.heap.size < (w.alloc (.cells #[.int .u32 id, .slice A ls.length c] 34)).heap.size := by simp
      have hse := H.out.move (w' := w.alloc (.cells #[.int .u32 id, .slice A ls.length c] 34)) (G := F) (by simp) (fun q hq hl => ⟨hq, Below.heap_alloc _ _ _ hl⟩)
      generalize w.alloc (.cells #[.int .u32 id, .slice A ls.length c] 34) = w0 at *
      generalize w.heap.size = ob at *
      have HOB := Lib.hid hob
      have HK0 := Lib.hid hk0
      have HSE := Lib.hid hse
      clear hob hk0 hse
      clear H
      refine d_loop (fun m D wr => ∃ k : Nat, m = ls.length - k ∧ k ≤ ls.length ∧ D = [(1, .pointer (some ⟨ob, 0, none⟩)), (17, .slice A ls.length c), (18, .int .i64 ls.length), (19, .int .i64 k)] ∧ Hid (Keep none_ w0 wr ∧ errFrom ls ls.length 0 = errFrom ls (ls.length - k) k)) (ls.length) _ (Subl.cons (t := 1) (by decide) rfl (Subl.cons (t := 17) (by decide) rfl (Subl.cons (t := 18) (by decide) rfl (Subl.cons (t := 19) (by decide) rfl (Subl.nil _ _))))) ?_ (fun m D wr hrel => ?_)
      · exact ⟨0, rfl, Nat.zero_le _, rfl, Lib.hid ⟨Keep.refl _ _, rfl⟩⟩
      · obtain ⟨k, rfl, hk, rfl, HH⟩ := hrel
        by_cases hlt : k < ls.length
        · obtain ⟨y, hy⟩ : ∃ y, ls[k]? = some y := ⟨_, List.getElem?_eq_getElem hlt⟩
          have hsw := HSE.out.move (w' := wr) (G := F) HH.out.1.size (fun q hq hl => ⟨hq, HH.out.1.block q hl (fun c => c)⟩)
          obtain ⟨g, o, c', e1, -, -, -, -, d0, d1, d2⟩ := sees_line hsw rfl hy
          simp only [Value.slice.injEq, true_and] at e1
          obtain ⟨rfl, rfl⟩ := e1
          have hcut := SeesIn.cut Ln.three hsw rfl k (by omega)
          have hob1 := (HH.out.1.block ob hs0 (fun c => c)).trans HOB.out
          have hob2 := (Below.heap_alloc wr (.cells #[.int .u16 y.item, .int .u16 y.loc, .int .i64 y.qty] 59) ob (lt_of_block hob1)).trans hob1
          have hlb : (wr.alloc (.cells #[.int .u16 y.item, .int .u16 y.loc, .int .i64 y.qty] 59)).heap[wr.heap.size]? = _ := heap_alloc_new _ _
          obtain ⟨b0, b1, -⟩ := blk2 hob2
          obtain ⟨l0, l1, l2, -⟩ := blk3 hlb
          have hks : (k : Int) ≤ c := by omega
          have HC := Lib.hid (line_any (.slice (some ⟨g, o, none⟩) k c) (ls.take k) y F (wr.alloc (.cells #[.int .u16 y.item, .int .u16 y.loc, .int .i64 y.qty] 59)).drew (by
            have := hcut.move (w' := (wr.alloc (.cells #[.int .u16 y.item, .int .u16 y.loc, .int .i64 y.qty] 59)).drew) (G := F) (by simp) (fun q hq hl => ⟨hq, Below.heap_alloc _ _ _ hl⟩)
            exact this))
          have HE : Hid (errFrom ls (ls.length - k) k = if lineE (ls.take k) y = 0 then errFrom ls (ls.length - (k + 1)) (k + 1) else lineE (ls.take k) y) := by
            show _ = _
            rw [show ls.length - k = (ls.length - (k + 1)) + 1 by omega, errFrom, hy]
          clear hy hsw hcut hob1 hob2 hlb
          repeat first
            | apply d_seq
            | with_reducible apply kt_normal
            | apply l_nil
            | apply d_region
            | (apply l_off; (focus rfl); (focus rfl))
            | (apply l_val; (focus rfl); (focus rfl); (focus rfl); (focus (go_simp; (try simp (disch := omega) only [wrap_in, wrap_in', wrap_u16, wrap_u8, wrap_u32, wrap_u64, rem_in, quo_in]); first | done | with_reducible rfl | (constructor <;> with_reducible rfl))))
            | (apply l_store; (focus rfl); (focus rfl); (focus rfl); (focus (go_simp; (try simp (disch := omega) only [wrap_in, wrap_in', wrap_u16, wrap_u8, wrap_u32, wrap_u64, rem_in, quo_in]); first | done | with_reducible rfl | (constructor <;> with_reducible rfl))))
            | apply d_block
            | (apply d_true; (focus rfl); (focus rfl))
            | (apply d_false; (focus rfl); (focus rfl))
            | apply d_skip
            | apply d_exit
            | apply d_ret
            | with_reducible apply kt_ret
            | with_reducible apply kt_exit
            | with_reducible apply kb_normal
            | with_reducible apply kb_ret
            | with_reducible apply kb_here
            | with_reducible apply kl_ret
            | with_reducible apply kl_exit
            | with_reducible apply kc_ret
            | with_reducible apply kc_exit
            | (with_reducible apply kb_there; (focus rfl))
          refine d_draw (true, [([], []), ([0], [0]), ([], []), ([1, 2], [1, 2]), ([], []), ([3, 4], [3, 4]), ([5, 5, 0, 1, 2, 3, 4, 5], [5])]) [(0, 0), (0, 1), (0, 2), (0, 3), (0, 4), (1, 5), (0, 6)] [999999] (fun W => W.cell? ⟨ob, 1, none⟩ = some (.slice (some ⟨g, o, none⟩) ls.length c) ∧ W.cell? ⟨wr.heap.size, 0, none⟩ = some (.int .u16 y.item) ∧ W.cell? ⟨wr.heap.size, 1, none⟩ = some (.int .u16 y.loc) ∧ W.cell? ⟨wr.heap.size, 2, none⟩ = some (.int .i64 y.qty)) (by kernel_rfl) (by kernel_rfl) (by kernel_rfl) (by kernel_rfl) ⟨b1, l0, l1, l2⟩ ?_
          iterate 5
            first | (apply s_off; (focus rfl); (focus rfl); (focus rfl)) | (apply s_yield; (focus rfl); (focus rfl); (focus rfl); (focus rfl); (focus (intro W hS; obtain ⟨hS1, hS2, hS3, hS4⟩ := hS; go_simp; (try simp (disch := omega) only [wrap_in, wrap_in', wrap_u16, wrap_u8, wrap_u32, wrap_u64, rem_in, quo_in]); first | done | with_reducible rfl | (constructor <;> with_reducible rfl))))
          refine s_call rfl rfl rfl rfl (by first | (go_simp; done) | (go_simp; rfl)) (HC.out) ?_
          rintro e w' ⟨rfl, hk1⟩
          have hkk := hk1.cell (p := ⟨ob, 1, none⟩) (World.block_lt_of_cell? _ _ b1) (fun c => c)
          have e0 := (hk1.cell (p := ⟨wr.heap.size, 0, none⟩) (World.block_lt_of_cell? _ _ l0) (fun c => c)).trans l0
          have e1 := (hk1.cell (p := ⟨wr.heap.size, 1, none⟩) (World.block_lt_of_cell? _ _ l1) (fun c => c)).trans l1
          have e2 := (hk1.cell (p := ⟨wr.heap.size, 2, none⟩) (World.block_lt_of_cell? _ _ l2) (fun c => c)).trans l2
          have HKK := Lib.hid ((HH.out.1.alloc (.cells #[.int .u16 y.item, .int .u16 y.loc, .int .i64 y.qty] 59)).drew.next hk1)
          have hkk' := hkk.trans b1
          clear hk1 hkk
          refine ⟨_, rfl, ⟨hkk', e0, e1, e2⟩, ?_⟩
          iterate 1
            first | (apply s_off; (focus rfl); (focus rfl); (focus rfl)) | (apply s_yield; (focus rfl); (focus rfl); (focus rfl); (focus rfl); (focus (intro W hS; obtain ⟨hS1, hS2, hS3, hS4⟩ := hS; go_simp; (try simp (disch := omega) only [wrap_in, wrap_in', wrap_u16, wrap_u8, wrap_u32, wrap_u64, rem_in, quo_in]); first | done | with_reducible rfl | (constructor <;> with_reducible rfl))))
          refine s_done ?_
          generalize lineE (ls.take k) y = er at *
          by_cases he : er = 0
          · have hbe : (er != 0) = false := by simp [he]
            rw [if_pos he] at HE
            clear he
            repeat first
              | apply d_seq
              | with_reducible apply kt_normal
              | apply l_nil
              | apply d_region
              | (apply l_off; (focus rfl); (focus rfl))
              | (apply l_val; (focus rfl); (focus rfl); (focus rfl); (focus (go_simp; (try simp (disch := omega) only [wrap_in, wrap_in', wrap_u16, wrap_u8, wrap_u32, wrap_u64, rem_in, quo_in]); first | done | with_reducible rfl | (constructor <;> with_reducible rfl))))
              | (apply l_store; (focus rfl); (focus rfl); (focus rfl); (focus (go_simp; (try simp (disch := omega) only [wrap_in, wrap_in', wrap_u16, wrap_u8, wrap_u32, wrap_u64, rem_in, quo_in]); first | done | with_reducible rfl | (constructor <;> with_reducible rfl))))
              | apply d_block
              | (apply d_true; (focus rfl); (focus rfl))
              | (apply d_false; (focus rfl); (focus rfl))
              | apply d_skip
              | apply d_exit
              | apply d_ret
              | with_reducible apply kt_ret
              | with_reducible apply kt_exit
              | with_reducible apply kb_normal
              | with_reducible apply kb_ret
              | with_reducible apply kb_here
              | with_reducible apply kl_ret
              | with_reducible apply kl_exit
              | with_reducible apply kc_ret
              | with_reducible apply kc_exit
              | (with_reducible apply kb_there; (focus rfl))
            refine kl_normal (ls.length - (k + 1)) _ (by omega) (Subl.cons (t := 1) (by decide) rfl (Subl.cons (t := 17) (by decide) rfl (Subl.cons (t := 18) (by decide) rfl (Subl.cons (t := 19) (by decide) rfl (Subl.nil _ _))))) ?_
            exact ⟨k + 1, rfl, by omega, by simp, Lib.hid ⟨HKK.out, HH.out.2.trans HE.out⟩⟩
          · have hbe : (er != 0) = true := by simp [he]
            rw [if_neg he] at HE
            clear he
            repeat first
              | apply d_seq
              | with_reducible apply kt_normal
              | apply l_nil
              | apply d_region
              | (apply l_off; (focus rfl); (focus rfl))
              | (apply l_val; (focus rfl); (focus rfl); (focus rfl); (focus (go_simp; (try simp (disch := omega) only [wrap_in, wrap_in', wrap_u16, wrap_u8, wrap_u32, wrap_u64, rem_in, quo_in]); first | done | with_reducible rfl | (constructor <;> with_reducible rfl))))
              | (apply l_store; (focus rfl); (focus rfl); (focus rfl); (focus (go_simp; (try simp (disch := omega) only [wrap_in, wrap_in', wrap_u16, wrap_u8, wrap_u32, wrap_u64, rem_in, quo_in]); first | done | with_reducible rfl | (constructor <;> with_reducible rfl))))
              | apply d_block
              | (apply d_true; (focus rfl); (focus rfl))
              | (apply d_false; (focus rfl); (focus rfl))
              | apply d_skip
              | apply d_exit
              | apply d_ret
              | with_reducible apply kt_ret
              | with_reducible apply kt_exit
              | with_reducible apply kb_normal
              | with_reducible apply kb_ret
              | with_reducible apply kb_here
              | with_reducible apply kl_ret
              | with_reducible apply kl_exit
              | with_reducible apply kc_ret
              | with_reducible apply kc_exit
              | (with_reducible apply kb_there; (focus rfl))
            refine ⟨rfl, _, (by first | (simp [resultsG, resOne, Try.results38, rho, List.lookup]; done) | (simp [resultsG, resOne, Try.results38, rho, List.lookup]; rfl)), ?_⟩
            exact ⟨by rw [HR.out, HH.out.2, HE.out], HK0.out.next HKK.out⟩
        · repeat first
            | apply d_seq
            | with_reducible apply kt_normal
            | apply l_nil
            | apply d_region
            | (apply l_off; (focus rfl); (focus rfl))
            | (apply l_val; (focus rfl); (focus rfl); (focus rfl); (focus (go_simp; (try simp (disch := omega) only [wrap_in, wrap_in', wrap_u16, wrap_u8, wrap_u32, wrap_u64, rem_in, quo_in]); first | done | with_reducible rfl | (constructor <;> with_reducible rfl))))
            | (apply l_store; (focus rfl); (focus rfl); (focus rfl); (focus (go_simp; (try simp (disch := omega) only [wrap_in, wrap_in', wrap_u16, wrap_u8, wrap_u32, wrap_u64, rem_in, quo_in]); first | done | with_reducible rfl | (constructor <;> with_reducible rfl))))
            | apply d_block
            | (apply d_true; (focus rfl); (focus rfl))
            | (apply d_false; (focus rfl); (focus rfl))
            | apply d_skip
            | apply d_exit
            | apply d_ret
            | with_reducible apply kt_ret
            | with_reducible apply kt_exit
            | with_reducible apply kb_normal
            | with_reducible apply kb_ret
            | with_reducible apply kb_here
            | with_reducible apply kl_ret
            | with_reducible apply kl_exit
            | with_reducible apply kc_ret
            | with_reducible apply kc_exit
            | (with_reducible apply kb_there; (focus rfl))
          refine ⟨rfl, _, (by first | (simp [resultsG, resOne, Try.results38, rho, List.lookup]; done) | (simp [resultsG, resOne, Try.results38, rho, List.lookup]; rfl)), ?_⟩
          exact ⟨by rw [HR.out, HH.out.2, show ls.length - k = 0 by omega]; rfl, HK0.out.next HH.out.1⟩
end Go.Proofs.Ytkjcmnhhgnlaeaa
