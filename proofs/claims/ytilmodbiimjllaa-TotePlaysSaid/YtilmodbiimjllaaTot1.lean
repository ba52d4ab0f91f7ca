import Derived.Test.YtilmodbiimjllaaIntL
import Derived.Laws.CopyRow
import Derived.Deep.WholeRow
namespace Go.Proofs.Ytilmodbiimjllaa
set_option linter.unusedVariables false
set_option linter.unusedSimpArgs false
attribute [local go_sem] rho_const rho_func rho_hit rho_miss
open Go.RowKit
attribute [local go_sem] min2_mn min_two' max2_mx max_two'

/-- copy, of elements of any size. -/
theorem run_copy_wide {P : Program} (w : World) (dT sT ty elem : TypeId) (sz : Nat) (g o dLen dCap : Nat) (a : Addr) (sLen sCap : Nat) (cur : Array Value) (t : TypeId) (cs : List Value)
    (hu : P.underlying dT = some (.slice elem)) (hs : (P.info? elem).map (·.size) = some sz)
    (hg : w.heap[g]? = some (.cells cur t (0, 0))) (hn : cs.length = Nat.min sLen dLen * sz)
    (hsrc : ∀ j v, cs[j]? = some v → w.cell? (a.add j) = some v) (hfit : o + cs.length ≤ cur.size) (h1 : ∀ v ∈ cs, v.oneCell' = true) :
    (Builtin.copy_ #[dT, sT] ty #[.slice (some ⟨g, o, none⟩) dLen dCap, .slice (some a) sLen sCap]).run P w =
      .ok (goInt (Nat.min sLen dLen)) (w.setRow g (cur.toList.take o ++ cs ++ cur.toList.drop (o + cs.length)).toArray) := by
  have hl := run_loadCells_list (P := P) w a cs hsrc
  have hst := run_storeCells_at P g o t cs 0 cur w hg (by simpa using hfit) h1
  cases hq : P.info? elem with
  | none => simp [hq] at hs
  | some i =>
    have hi : i.size = sz := by simpa [hq] using hs
    simp [Builtin.copy_, run_underlying hu, Builtin.lenOf, Builtin.firstCells, sizeOf, typeInfo, hq, hi, ← hn, hl, hst]
theorem exec_copy {P : Program} {w w' : World} {ρ : Operand → Value} {o : Oper} {v' : Value} (s x : Operand) (t : TypeId) (ho : o.op = .call { callee := .builtin .copy, args := #[s, x], argTypes := #[t, t] })
    (sv xv : Value) (hs : ρ s = sv) (hx : ρ x = xv) (hr : (Builtin.copy_ #[t, t] o.type #[sv, xv]).run P w = .ok v' w') : (execOp ρ o).run P w = .ok (.value v') w' := by
  simp [execOp, ho, resolve, invoke, builtin, hs, hx, hr, Result.andThen]

theorem mul64_any (n : Int) (h1 : 1 ≤ n) (h8 : n ≤ 8) (w : World) : Calls Try.prog 39 #[.int .u64 1, .int .u64 n] w fun e w' => e = .returned (.tuple #[.int .u64 0, .int .u64 n]) ∧ w = w' := by
  rcases (by omega : n = 1 ∨ n = 2 ∨ n = 3 ∨ n = 4 ∨ n = 5 ∨ n = 6 ∨ n = 7 ∨ n = 8) with rfl | rfl | rfl | rfl | rfl | rfl | rfl | rfl
  · refine d_calls (n := 51) Try.func39 rfl rfl (by simp) [(0, .int .u64 1), (1, .int .u64 1)] (by simp) ?_
    repeat first
      | apply d_seq
      | with_reducible apply kt_normal
      | apply l_nil
      | apply d_region
      | (apply l_off; (focus rfl); (focus rfl))
      | (apply l_val; (focus rfl); (focus rfl); (focus rfl); (focus (go_simp; (try simp (disch := omega) only [wrap_in, wrap_in', wrap_u16, wrap_u8, wrap_u32, wrap_u64, rem_in, quo_in]); first | done | with_reducible rfl | (constructor <;> with_reducible rfl))))
      | (apply l_store; (focus rfl); (focus rfl); (focus rfl); (focus (go_simp; (try simp (disch := omega) only [wrap_in, wrap_in', wrap_u16, wrap_u8, wrap_u32, wrap_u64, rem_in, quo_in]); first | done | with_reducible rfl | (constructor <;> with_reducible rfl))))
      | apply d_block
      | (apply d_true; (focus rfl); (focus rfl))
      | (apply d_false; (focus rfl); (focus rfl))
      | apply d_skip
      | apply d_exit
      | apply d_ret
      | with_reducible apply kt_ret
      | with_reducible apply kt_exit
      | with_reducible apply kb_normal
      | with_reducible apply kb_ret
      | with_reducible apply kb_here
      | with_reducible apply kl_ret
      | with_reducible apply kl_exit
      | with_reducible apply kc_ret
      | with_reducible apply kc_exit
      | (with_reducible apply kb_there; (focus rfl))
    refine ⟨rfl, _, (by first | (simp [resultsG, resOne, Try.results39, rho, List.lookup]; done) | (simp [resultsG, resOne, Try.results39, rho, List.lookup]; rfl)), ?_⟩
    exact ⟨rfl, rfl⟩
  · refine d_calls (n := 51) Try.func39 rfl rfl (by simp) [(0, .int .u64 1), (1, .int .u64 2)] (by simp) ?_
    repeat first
      | apply d_seq
      | with_reducible apply kt_normal
      | apply l_nil
      | apply d_region
      | (apply l_off; (focus rfl); (focus rfl))
      | (apply l_val; (focus rfl); (focus rfl); (focus rfl); (focus (go_simp; (try simp (disch := omega) only [wrap_in, wrap_in', wrap_u16, wrap_u8, wrap_u32, wrap_u64, rem_in, quo_in]); first | done | with_reducible rfl | (constructor <;> with_reducible rfl))))
      | (apply l_store; (focus rfl); (focus rfl); (focus rfl); (focus (go_simp; (try simp (disch := omega) only [wrap_in, wrap_in', wrap_u16, wrap_u8, wrap_u32, wrap_u64, rem_in, quo_in]); first | done | with_reducible rfl | (constructor <;> with_reducible rfl))))
      | apply d_block
      | (apply d_true; (focus rfl); (focus rfl))
      | (apply d_false; (focus rfl); (focus rfl))
      | apply d_skip
      | apply d_exit
      | apply d_ret
      | with_reducible apply kt_ret
      | with_reducible apply kt_exit
      | with_reducible apply kb_normal
      | with_reducible apply kb_ret
      | with_reducible apply kb_here
      | with_reducible apply kl_ret
      | with_reducible apply kl_exit
      | with_reducible apply kc_ret
      | with_reducible apply kc_exit
      | (with_reducible apply kb_there; (focus rfl))
    refine ⟨rfl, _, (by first | (simp [resultsG, resOne, Try.results39, rho, List.lookup]; done) | (simp [resultsG, resOne, Try.results39, rho, List.lookup]; rfl)), ?_⟩
    exact ⟨rfl, rfl⟩
  · refine d_calls (n := 51) Try.func39 rfl rfl (by simp) [(0, .int .u64 1), (1, .int .u64 3)] (by simp) ?_
    repeat first
      | apply d_seq
      | with_reducible apply kt_normal
      | apply l_nil
      | apply d_region
      | (apply l_off; (focus rfl); (focus rfl))
      | (apply l_val; (focus rfl); (focus rfl); (focus rfl); (focus (go_simp; (try simp (disch := omega) only [wrap_in, wrap_in', wrap_u16, wrap_u8, wrap_u32, wrap_u64, rem_in, quo_in]); first | done | with_reducible rfl | (constructor <;> with_reducible rfl))))
      | (apply l_store; (focus rfl); (focus rfl); (focus rfl); (focus (go_simp; (try simp (disch := omega) only [wrap_in, wrap_in', wrap_u16, wrap_u8, wrap_u32, wrap_u64, rem_in, quo_in]); first | done | with_reducible rfl | (constructor <;> with_reducible rfl))))
      | apply d_block
      | (apply d_true; (focus rfl); (focus rfl))
      | (apply d_false; (focus rfl); (focus rfl))
      | apply d_skip
      | apply d_exit
      | apply d_ret
      | with_reducible apply kt_ret
      | with_reducible apply kt_exit
      | with_reducible apply kb_normal
      | with_reducible apply kb_ret
      | with_reducible apply kb_here
      | with_reducible apply kl_ret
      | with_reducible apply kl_exit
      | with_reducible apply kc_ret
      | with_reducible apply kc_exit
      | (with_reducible apply kb_there; (focus rfl))
    refine ⟨rfl, _, (by first | (simp [resultsG, resOne, Try.results39, rho, List.lookup]; done) | (simp [resultsG, resOne, Try.results39, rho, List.lookup]; rfl)), ?_⟩
    exact ⟨rfl, rfl⟩
  · refine d_calls (n := 51) Try.func39 rfl rfl (by simp) [(0, .int .u64 1), (1, .int .u64 4)] (by simp) ?_
    repeat first
      | apply d_seq
      | with_reducible apply kt_normal
      | apply l_nil
      | apply d_region
      | (apply l_off; (focus rfl); (focus rfl))
      | (apply l_val; (focus rfl); (focus rfl); (focus rfl); (focus (go_simp; (try simp (disch := omega) only [wrap_in, wrap_in', wrap_u16, wrap_u8, wrap_u32, wrap_u64, rem_in, quo_in]); first | done | with_reducible rfl | (constructor <;> with_reducible rfl))))
      | (apply l_store; (focus rfl); (focus rfl); (focus rfl); (focus (go_simp; (try simp (disch := omega) only [wrap_in, wrap_in', wrap_u16, wrap_u8, wrap_u32, wrap_u64, rem_in, quo_in]); first | done | with_reducible rfl | (constructor <;> with_reducible rfl))))
      | apply d_block
      | (apply d_true; (focus rfl); (focus rfl))
      | (apply d_false; (focus rfl); (focus rfl))
      | apply d_skip
      | apply d_exit
      | apply d_ret
      | with_reducible apply kt_ret
      | with_reducible apply kt_exit
      | with_reducible apply kb_normal
      | with_reducible apply kb_ret
      | with_reducible apply kb_here
      | with_reducible apply kl_ret
      | with_reducible apply kl_exit
      | with_reducible apply kc_ret
      | with_reducible apply kc_exit
      | (with_reducible apply kb_there; (focus rfl))
    refine ⟨rfl, _, (by first | (simp [resultsG, resOne, Try.results39, rho, List.lookup]; done) | (simp [resultsG, resOne, Try.results39, rho, List.lookup]; rfl)), ?_⟩
    exact ⟨rfl, rfl⟩
  · refine d_calls (n := 51) Try.func39 rfl rfl (by simp) [(0, .int .u64 1), (1, .int .u64 5)] (by simp) ?_
    repeat first
      | apply d_seq
      | with_reducible apply kt_normal
      | apply l_nil
      | apply d_region
      | (apply l_off; (focus rfl); (focus rfl))
      | (apply l_val; (focus rfl); (focus rfl); (focus rfl); (focus (go_simp; (try simp (disch := omega) only [wrap_in, wrap_in', wrap_u16, wrap_u8, wrap_u32, wrap_u64, rem_in, quo_in]); first | done | with_reducible rfl | (constructor <;> with_reducible rfl))))
      | (apply l_store; (focus rfl); (focus rfl); (focus rfl); (focus (go_simp; (try simp (disch := omega) only [wrap_in, wrap_in', wrap_u16, wrap_u8, wrap_u32, wrap_u64, rem_in, quo_in]); first | done | with_reducible rfl | (constructor <;> with_reducible rfl))))
      | apply d_block
      | (apply d_true; (focus rfl); (focus rfl))
      | (apply d_false; (focus rfl); (focus rfl))
      | apply d_skip
      | apply d_exit
      | apply d_ret
      | with_reducible apply kt_ret
      | with_reducible apply kt_exit
      | with_reducible apply kb_normal
      | with_reducible apply kb_ret
      | with_reducible apply kb_here
      | with_reducible apply kl_ret
      | with_reducible apply kl_exit
      | with_reducible apply kc_ret
      | with_reducible apply kc_exit
      | (with_reducible apply kb_there; (focus rfl))
    refine ⟨rfl, _, (by first | (simp [resultsG, resOne, Try.results39, rho, List.lookup]; done) | (simp [resultsG, resOne, Try.results39, rho, List.lookup]; rfl)), ?_⟩
    exact ⟨rfl, rfl⟩
  · refine d_calls (n := 51) Try.func39 rfl rfl (by simp) [(0, .int .u64 1), (1, .int .u64 6)] (by simp) ?_
    repeat first
      | apply d_seq
      | with_reducible apply kt_normal
      | apply l_nil
      | apply d_region
      | (apply l_off; (focus rfl); (focus rfl))
      | (apply l_val; (focus rfl); (focus rfl); (focus rfl); (focus (go_simp; (try simp (disch := omega) only [wrap_in, wrap_in', wrap_u16, wrap_u8, wrap_u32, wrap_u64, rem_in, quo_in]); first | done | with_reducible rfl | (constructor <;> with_reducible rfl))))
      | (apply l_store; (focus rfl); (focus rfl); (focus rfl); (focus (go_simp; (try simp (disch := omega) only [wrap_in, wrap_in', wrap_u16, wrap_u8, wrap_u32, wrap_u64, rem_in, quo_in]); first | done | with_reducible rfl | (constructor <;> with_reducible rfl))))
      | apply d_block
      | (apply d_true; (focus rfl); (focus rfl))
      | (apply d_false; (focus rfl); (focus rfl))
      | apply d_skip
      | apply d_exit
      | apply d_ret
      | with_reducible apply kt_ret
      | with_reducible apply kt_exit
      | with_reducible apply kb_normal
      | with_reducible apply kb_ret
      | with_reducible apply kb_here
      | with_reducible apply kl_ret
      | with_reducible apply kl_exit
      | with_reducible apply kc_ret
      | with_reducible apply kc_exit
      | (with_reducible apply kb_there; (focus rfl))
    refine ⟨rfl, _, (by first | (simp [resultsG, resOne, Try.results39, rho, List.lookup]; done) | (simp [resultsG, resOne, Try.results39, rho, List.lookup]; rfl)), ?_⟩
    exact ⟨rfl, rfl⟩
  · refine d_calls (n := 51) Try.func39 rfl rfl (by simp) [(0, .int .u64 1), (1, .int .u64 7)] (by simp) ?_
    repeat first
      | apply d_seq
      | with_reducible apply kt_normal
      | apply l_nil
      | apply d_region
      | (apply l_off; (focus rfl); (focus rfl))
      | (apply l_val; (focus rfl); (focus rfl); (focus rfl); (focus (go_simp; (try simp (disch := omega) only [wrap_in, wrap_in', wrap_u16, wrap_u8, wrap_u32, wrap_u64, rem_in, quo_in]); first | done | with_reducible rfl | (constructor <;> with_reducible rfl))))
      | (apply l_store; (focus rfl); (focus rfl); (focus rfl); (focus (go_simp; (try simp (disch := omega) only [wrap_in, wrap_in', wrap_u16, wrap_u8, wrap_u32, wrap_u64, rem_in, quo_in]); first | done | with_reducible rfl | (constructor <;> with_reducible rfl))))
      | apply d_block
      | (apply d_true; (focus rfl); (focus rfl))
      | (apply d_false; (focus rfl); (focus rfl))
      | apply d_skip
      | apply d_exit
      | apply d_ret
      | with_reducible apply kt_ret
      | with_reducible apply kt_exit
      | with_reducible apply kb_normal
      | with_reducible apply kb_ret
      | with_reducible apply kb_here
      | with_reducible apply kl_ret
      | with_reducible apply kl_exit
      | with_reducible apply kc_ret
      | with_reducible apply kc_exit
      | (with_reducible apply kb_there; (focus rfl))
    refine ⟨rfl, _, (by first | (simp [resultsG, resOne, Try.results39, rho, List.lookup]; done) | (simp [resultsG, resOne, Try.results39, rho, List.lookup]; rfl)), ?_⟩
    exact ⟨rfl, rfl⟩
  · refine d_calls (n := 51) Try.func39 rfl rfl (by simp) [(0, .int .u64 1), (1, .int .u64 8)] (by simp) ?_
    repeat first
      | apply d_seq
      | with_reducible apply kt_normal
      | apply l_nil
      | apply d_region
      | (apply l_off; (focus rfl); (focus rfl))
      | (apply l_val; (focus rfl); (focus rfl); (focus rfl); (focus (go_simp; (try simp (disch := omega) only [wrap_in, wrap_in', wrap_u16, wrap_u8, wrap_u32, wrap_u64, rem_in, quo_in]); first | done | with_reducible rfl | (constructor <;> with_reducible rfl))))
      | (apply l_store; (focus rfl); (focus rfl); (focus rfl); (focus (go_simp; (try simp (disch := omega) only [wrap_in, wrap_in', wrap_u16, wrap_u8, wrap_u32, wrap_u64, rem_in, quo_in]); first | done | with_reducible rfl | (constructor <;> with_reducible rfl))))
      | apply d_block
      | (apply d_true; (focus rfl); (focus rfl))
      | (apply d_false; (focus rfl); (focus rfl))
      | apply d_skip
      | apply d_exit
      | apply d_ret
      | with_reducible apply kt_ret
      | with_reducible apply kt_exit
      | with_reducible apply kb_normal
      | with_reducible apply kb_ret
      | with_reducible apply kb_here
      | with_reducible apply kl_ret
      | with_reducible apply kl_exit
      | with_reducible apply kc_ret
      | with_reducible apply kc_exit
      | (with_reducible apply kb_there; (focus rfl))
    refine ⟨rfl, _, (by first | (simp [resultsG, resOne, Try.results39, rho, List.lookup]; done) | (simp [resultsG, resOne, Try.results39, rho, List.lookup]; rfl)), ?_⟩
    exact ⟨rfl, rfl⟩
theorem mul_any (n : Int) (h1 : 1 ≤ n) (h8 : n ≤ 8) (w : World) : Calls Try.prog 36 #[.int .u64 1, .int .u64 n] w fun e w' => e = .returned (.tuple #[.int .u64 0, .int .u64 n]) ∧ w = w' := by
  have HC := Lib.hid (mul64_any n h1 h8 w)
  refine d_calls (n := 30) Try.func36 rfl rfl (by simp) [(0, .int .u64 1), (1, .int .u64 n)] (by simp) ?_
  repeat first
    | apply d_seq
    | with_reducible apply kt_normal
    | apply l_nil
    | apply d_region
    | (apply l_off; (focus rfl); (focus rfl))
    | (apply l_val; (focus rfl); (focus rfl); (focus rfl); (focus (go_simp; (try simp (disch := omega) only [wrap_in, wrap_in', wrap_u16, wrap_u8, wrap_u32, wrap_u64, rem_in, quo_in]); first | done | with_reducible rfl | (constructor <;> with_reducible rfl))))
    | (apply l_store; (focus rfl); (focus rfl); (focus rfl); (focus (go_simp; (try simp (disch := omega) only [wrap_in, wrap_in', wrap_u16, wrap_u8, wrap_u32, wrap_u64, rem_in, quo_in]); first | done | with_reducible rfl | (constructor <;> with_reducible rfl))))
    | apply d_block
    | (apply d_true; (focus rfl); (focus rfl))
    | (apply d_false; (focus rfl); (focus rfl))
    | apply d_skip
    | apply d_exit
    | apply d_ret
    | with_reducible apply kt_ret
    | with_reducible apply kt_exit
    | with_reducible apply kb_normal
    | with_reducible apply kb_ret
    | with_reducible apply kb_here
    | with_reducible apply kl_ret
    | with_reducible apply kl_exit
    | with_reducible apply kc_ret
    | with_reducible apply kc_exit
    | (with_reducible apply kb_there; (focus rfl))
  refine l_call rfl rfl rfl (by first | (go_simp; done) | (go_simp; rfl)) (HC.out) ?_
  rintro e w' ⟨rfl, rfl⟩
  refine ⟨_, rfl, ?_⟩
  repeat first
    | apply d_seq
    | with_reducible apply kt_normal
    | apply l_nil
    | apply d_region
    | (apply l_off; (focus rfl); (focus rfl))
    | (apply l_val; (focus rfl); (focus rfl); (focus rfl); (focus (go_simp; (try simp (disch := omega) only [wrap_in, wrap_in', wrap_u16, wrap_u8, wrap_u32, wrap_u64, rem_in, quo_in]); first | done | with_reducible rfl | (constructor <;> with_reducible rfl))))
    | (apply l_store; (focus rfl); (focus rfl); (focus rfl); (focus (go_simp; (try simp (disch := omega) only [wrap_in, wrap_in', wrap_u16, wrap_u8, wrap_u32, wrap_u64, rem_in, quo_in]); first | done | with_reducible rfl | (constructor <;> with_reducible rfl))))
    | apply d_block
    | (apply d_true; (focus rfl); (focus rfl))
    | (apply d_false; (focus rfl); (focus rfl))
    | apply d_skip
    | apply d_exit
    | apply d_ret
    | with_reducible apply kt_ret
    | with_reducible apply kt_exit
    | with_reducible apply kb_normal
    | with_reducible apply kb_ret
    | with_reducible apply kb_here
    | with_reducible apply kl_ret
    | with_reducible apply kl_exit
    | with_reducible apply kc_ret
    | with_reducible apply kc_exit
    | (with_reducible apply kb_there; (focus rfl))
  refine ⟨rfl, _, (by first | (simp [resultsG, resOne, Try.results36, rho, List.lookup]; done) | (simp [resultsG, resOne, Try.results36, rho, List.lookup]; rfl)), ?_⟩
  exact ⟨rfl, rfl⟩
/-- So many queues alike. -/
def qrow (v : Value) (r : Int) (k : Nat) : List Value := (List.replicate k [v, .int .i64 r]).flatten
theorem qrow_len (v : Value) (r : Int) (k : Nat) : (qrow v r k).length = k * 2 := by simp [qrow]
theorem qrow_add (v : Value) (r : Int) (i j : Nat) : qrow v r (i + j) = qrow v r i ++ qrow v r j := by simp [qrow, ← List.flatten_append, List.replicate_append_replicate]
theorem qrow_one (r : Int) (k : Nat) : ∀ u ∈ qrow (.slice none 0 0) r k, u.oneCell' = true := by
  intro u hu
  simp only [qrow, List.mem_flatten, List.mem_replicate] at hu
  obtain ⟨l, ⟨-, rfl⟩, hu⟩ := hu
  simp only [List.mem_cons, List.not_mem_nil, or_false] at hu
  rcases hu with rfl | rfl <;> rfl
theorem Try.infoQ : (Try.prog.info? 50).map (·.size) = some 2 := by kernel_rfl
theorem qzeros (k : Nat) : (Builtin.zeroCells #[.slice none 0 0, .int .i64 0] k).toList = qrow (.slice none 0 0) 0 k := by
  apply List.ext_getElem?
  intro i
  simp only [Builtin.zeroCells, List.size_toArray, List.length_cons, List.length_nil, Array.toList_map, Array.toList_range, List.getElem?_map]
  by_cases h : i < k * 2
  · rw [List.getElem?_range h]
    induction k with
    | zero => omega
    | succ k ih =>
      rw [qrow_add]
      by_cases h2 : i < k * 2
      · rw [List.getElem?_append_left (by rw [qrow_len]; exact h2)]; exact ih h2
      · rw [List.getElem?_append_right (by rw [qrow_len]; omega), qrow_len]
        obtain rfl | rfl : i = k * 2 ∨ i = k * 2 + 1 := by omega
        · simp [qrow]
        · simp [qrow]
  · rw [List.getElem?_eq_none (by simpa using h), List.getElem?_eq_none (by rw [qrow_len]; omega)]; rfl
theorem qmade (k : Nat) : madeCells #[.slice none 0 0, .int .i64 0] (k * 2) = (qrow (.slice none 0 0) 0 k).toArray := by
  apply Array.ext'
  rw [← qzeros]
  rfl
theorem Try.infoQ' : (Try.prog.info? 50).map (fun i => (i.zero, i.size, i.bytes)) = some (some (.agg #[.slice none 0 0, .int .i64 0]), 2, 32) := by kernel_rfl
theorem run_makeQ (w : World) (n : Nat) (hn : n ≤ 8) : (Instr.makeSlice 51 (.int .i64 n) (.int .i64 n)).run Try.prog w = .ok (.slice (some ⟨w.heap.size, 0, none⟩) n n) (w.alloc (.cells (qrow (.slice none 0 0) 0 n).toArray 50)) := by
  obtain ⟨i0, hi, hz0, hz1, hz2⟩ := info_parts Try.infoQ'
  have := run_makeSlice (P := Try.prog) (w := w) 51 50 i0 _ Try.underlying51 hi hz0 .i64 .i64 n n (by omega) (by omega) (by rw [hz1]; simp; omega) (by rw [hz2]; omega) (by omega)
  rw [this, hz1]
  simp only [Int.toNat_natCast, Value.cells]
  rw [qmade]
theorem exec_make {P : Program} {w w' : World} {ρ : Operand → Value} {o : Oper} {v av bv : Value} (t : TypeId) (a b : Operand) (ho : o.op = .makeSlice t a b) (ha : ρ a = av) (hb : ρ b = bv) (hr : (Instr.makeSlice t av bv).run P w = .ok v w') : (execOp ρ o).run P w = .ok (.value v) w' := by
  simp [execOp, ho, ha, hb, hr, Result.andThen]
/-- What is made, filled as far as k. -/
def qfill (r : Int) (k m : Nat) : List Value := qrow (.slice none 0 0) r k ++ qrow (.slice none 0 0) 0 m
theorem qfill_len (r : Int) (k m : Nat) : (qfill r k m).length = (k + m) * 2 := by rw [qfill, List.length_append, qrow_len, qrow_len]; omega
theorem qfill_one (r : Int) (k m : Nat) : ∀ u ∈ qfill r k m, u.oneCell' = true := by
  intro u hu
  rcases List.mem_append.1 hu with h | h
  · exact qrow_one _ _ u h
  · exact qrow_one _ _ u h
/-- j more, copied to where the k end. -/
theorem run_fill (r : Int) (k m j : Nat) (hj : j ≤ m) (sb so sl sc dl dc : Nat) (w : World) (zb : Nat) (hz : w.heap[zb]? = some (.cells (qfill r k m).toArray 50 (0, 0))) (hmin : Nat.min sl dl = j)
    (hs : ∀ q v, (qrow (.slice none 0 0) r j)[q]? = some v → w.cell? ⟨sb, so + q, none⟩ = some v) (ty : TypeId) :
    (Builtin.copy_ #[51, 51] ty #[.slice (some ⟨zb, k * 2, none⟩) dl dc, .slice (some ⟨sb, so, none⟩) sl sc]).run Try.prog w = .ok (goInt j) (w.setRow zb (qfill r (k + j) (m - j)).toArray) := by
  have := run_copy_wide (P := Try.prog) w 51 51 ty 50 2 zb (k * 2) dl dc ⟨sb, so, none⟩ sl sc _ 50 (qrow (.slice none 0 0) r j) Try.underlying51 Try.infoQ hz (by rw [qrow_len, hmin]) (fun q v h => by rw [Addr.add_lit]; exact hs q v h) (by rw [qrow_len]; simp [qfill_len]; omega) (qrow_one _ _)
  rw [this, hmin]
  congr 3
  simp only [qrow_len]
  rw [qfill, qfill, qrow_add, List.take_append, List.take_of_length_le (by rw [qrow_len]; omega), qrow_len, Nat.sub_self, List.take_zero, List.append_nil, List.append_assoc, List.append_assoc]
  congr 2
  rw [List.drop_append, List.drop_of_length_le (by rw [qrow_len]; omega), List.nil_append, qrow_len]
  have e : m = j + (m - j) := by omega
  conv => lhs; rw [e, qrow_add]
  rw [List.drop_append, List.drop_of_length_le (by rw [qrow_len]; omega), List.nil_append, qrow_len]
  rw [show k * 2 + j * 2 - k * 2 - j * 2 = 0 by omega]; rfl
theorem Keep.setRow {F : Nat → Prop} {a w : World} (h : Keep F a w) {g : Nat} (hg : a.heap.size ≤ g) (cs : Array Value) : Keep F a (w.setRow g cs) :=
  ⟨h.os, h.tape, h.output, by simp [World.setRow]; exact h.size, fun q hq hf => (setRow_other w g q cs (by omega)).trans (h.block q hq hf)⟩
theorem repeat_any (r : Int) (n : Nat) (h1 : 1 ≤ n) (h8 : n ≤ 8) (xb : Nat) (w : World) (hx : w.heap[xb]? = some (.cells #[.slice none 0 0, .int .i64 r] 50 (0, 0))) :
    Calls Try.prog 25 #[.slice (some ⟨xb, 0, none⟩) 1 1, .int .i64 n] w fun e w' => ∃ zb, e = .returned (.slice (some ⟨zb, 0, none⟩) n n) ∧ Keep none_ w w' ∧ w.heap.size ≤ zb ∧ w'.heap[zb]? = some (.cells (qrow (.slice none 0 0) r n).toArray 50 (0, 0)) := by
  have HC := Lib.hid (mul_any n (by omega) (by omega) w)
  have hn0 : (1 : Int) ≤ n := by omega
  have hn8 : (n : Int) ≤ 8 := by omega
  have hng : decide ((n : Int) < 0) = false := by simp
  have q1 : decide ((n : Int) > 9223372036854775807) = false := by simp; omega
  have q2 : decide (9223372036854775807 < (n : Int)) = false := by simp; omega
  have HM := Lib.hid (run_makeQ w n h8)
  have hx' : (w.alloc (.cells (qrow (.slice none 0 0) 0 n).toArray 50)).heap[xb]? = some (.cells #[.slice none 0 0, .int .i64 r] 50 (0, 0)) := (Below.heap_alloc _ _ _ (lt_of_block hx)).trans hx
  have hf := run_fill r 0 n 1 h1 xb 0 1 1 n n (w.alloc (.cells (qrow (.slice none 0 0) 0 n).toArray 50)) w.heap.size (heap_alloc_new _ _) (by show min 1 n = 1; omega) (fun q v h => by
    rw [Nat.zero_add]
    have e : qrow (.slice none 0 0) r 1 = [.slice none 0 0, .int .i64 r] := rfl
    rw [e] at h
    simp only [World.cell?, hx']
    simpa using h) 51
  rw [Nat.zero_mul, Nat.zero_add, World.setRow_alloc_new] at hf
  have HF := Lib.hid hf
  clear hf
  clear hx hx'
  refine d_calls (n := 48) Try.func25 rfl rfl (by simp) [(0, .slice (some ⟨xb, 0, none⟩) 1 1), (1, .int .i64 n)] (by simp) ?_
  repeat first
    | apply d_seq
    | with_reducible apply kt_normal
    | apply l_nil
    | apply d_region
    | (apply l_off; (focus rfl); (focus rfl))
    | (apply l_val; (focus rfl); (focus rfl); (focus rfl); (focus (go_simp; (try simp (disch := omega) only [wrap_in, wrap_in', wrap_u16, wrap_u8, wrap_u32, wrap_u64, rem_in, quo_in]); first | done | with_reducible rfl | (constructor <;> with_reducible rfl))))
    | (apply l_store; (focus rfl); (focus rfl); (focus rfl); (focus (go_simp; (try simp (disch := omega) only [wrap_in, wrap_in', wrap_u16, wrap_u8, wrap_u32, wrap_u64, rem_in, quo_in]); first | done | with_reducible rfl | (constructor <;> with_reducible rfl))))
    | apply d_block
    | (apply d_true; (focus rfl); (focus rfl))
    | (apply d_false; (focus rfl); (focus rfl))
    | apply d_skip
    | apply d_exit
    | apply d_ret
    | with_reducible apply kt_ret
    | with_reducible apply kt_exit
    | with_reducible apply kb_normal
    | with_reducible apply kb_ret
    | with_reducible apply kb_here
    | with_reducible apply kl_ret
    | with_reducible apply kl_exit
    | with_reducible apply kc_ret
    | with_reducible apply kc_exit
    | (with_reducible apply kb_there; (focus rfl))
  refine l_call rfl rfl rfl (by first | (go_simp; done) | (go_simp; rfl)) (HC.out) ?_
  rintro e w' ⟨rfl, rfl⟩
  refine ⟨_, rfl, ?_⟩
  repeat first
    | apply d_seq
    | with_reducible apply kt_normal
    | apply l_nil
    | apply d_region
    | (apply l_off; (focus rfl); (focus rfl))
    | (apply l_val; (focus rfl); (focus rfl); (focus rfl); (focus (go_simp; (try simp (disch := omega) only [wrap_in, wrap_in', wrap_u16, wrap_u8, wrap_u32, wrap_u64, rem_in, quo_in]); first | done | with_reducible rfl | (constructor <;> with_reducible rfl))))
    | (apply l_store; (focus rfl); (focus rfl); (focus rfl); (focus (go_simp; (try simp (disch := omega) only [wrap_in, wrap_in', wrap_u16, wrap_u8, wrap_u32, wrap_u64, rem_in, quo_in]); first | done | with_reducible rfl | (constructor <;> with_reducible rfl))))
    | apply d_block
    | (apply d_true; (focus rfl); (focus rfl))
    | (apply d_false; (focus rfl); (focus rfl))
    | apply d_skip
    | apply d_exit
    | apply d_ret
    | with_reducible apply kt_ret
    | with_reducible apply kt_exit
    | with_reducible apply kb_normal
    | with_reducible apply kb_ret
    | with_reducible apply kb_here
    | with_reducible apply kl_ret
    | with_reducible apply kl_exit
    | with_reducible apply kc_ret
    | with_reducible apply kc_exit
    | (with_reducible apply kb_there; (focus rfl))
  refine l_val rfl rfl rfl (exec_make 51 (.tmp 29) (.tmp 29) rfl rfl rfl HM.out) ?_
  repeat first
    | apply d_seq
    | with_reducible apply kt_normal
    | apply l_nil
    | apply d_region
    | (apply l_off; (focus rfl); (focus rfl))
    | (apply l_val; (focus rfl); (focus rfl); (focus rfl); (focus (go_simp; (try simp (disch := omega) only [wrap_in, wrap_in', wrap_u16, wrap_u8, wrap_u32, wrap_u64, rem_in, quo_in]); first | done | with_reducible rfl | (constructor <;> with_reducible rfl))))
    | (apply l_store; (focus rfl); (focus rfl); (focus rfl); (focus (go_simp; (try simp (disch := omega) only [wrap_in, wrap_in', wrap_u16, wrap_u8, wrap_u32, wrap_u64, rem_in, quo_in]); first | done | with_reducible rfl | (constructor <;> with_reducible rfl))))
    | apply d_block
    | (apply d_true; (focus rfl); (focus rfl))
    | (apply d_false; (focus rfl); (focus rfl))
    | apply d_skip
    | apply d_exit
    | apply d_ret
    | with_reducible apply kt_ret
    | with_reducible apply kt_exit
    | with_reducible apply kb_normal
    | with_reducible apply kb_ret
    | with_reducible apply kb_here
    | with_reducible apply kl_ret
    | with_reducible apply kl_exit
    | with_reducible apply kc_ret
    | with_reducible apply kc_exit
    | (with_reducible apply kb_there; (focus rfl))
  refine l_val rfl rfl rfl (exec_copy (.tmp 31) (.tmp 32) 51 rfl _ _ rfl rfl HF.out) ?_
  repeat first
    | apply d_seq
    | with_reducible apply kt_normal
    | apply l_nil
    | apply d_region
    | (apply l_off; (focus rfl); (focus rfl))
    | (apply l_val; (focus rfl); (focus rfl); (focus rfl); (focus (go_simp; (try simp (disch := omega) only [wrap_in, wrap_in', wrap_u16, wrap_u8, wrap_u32, wrap_u64, rem_in, quo_in]); first | done | with_reducible rfl | (constructor <;> with_reducible rfl))))
    | (apply l_store; (focus rfl); (focus rfl); (focus rfl); (focus (go_simp; (try simp (disch := omega) only [wrap_in, wrap_in', wrap_u16, wrap_u8, wrap_u32, wrap_u64, rem_in, quo_in]); first | done | with_reducible rfl | (constructor <;> with_reducible rfl))))
    | apply d_block
    | (apply d_true; (focus rfl); (focus rfl))
    | (apply d_false; (focus rfl); (focus rfl))
    | apply d_skip
    | apply d_exit
    | apply d_ret
    | with_reducible apply kt_ret
    | with_reducible apply kt_exit
    | with_reducible apply kb_normal
    | with_reducible apply kb_ret
    | with_reducible apply kb_here
    | with_reducible apply kl_ret
    | with_reducible apply kl_exit
    | with_reducible apply kc_ret
    | with_reducible apply kc_exit
    | (with_reducible apply kb_there; (focus rfl))
  refine d_loop (fun m D wr => ∃ k : Nat, m = n - k ∧ 1 ≤ k ∧ k ≤ n ∧ D = [(7, .slice (some ⟨w.heap.size, 0, none⟩) n n), (8, .int .i64 k)] ∧ Hid (Keep none_ w wr ∧ wr.heap[w.heap.size]? = some (.cells (qfill r k (n - k)).toArray 50 (0, 0)))) (n - 1) _ (Subl.cons (t := 7) (by decide) rfl (Subl.cons (t := 8) (by decide) rfl (Subl.nil _ _))) ?_ (fun m D wr hrel => ?_)
  · exact ⟨1, rfl, Nat.le_refl _, h1, rfl, Lib.hid ⟨(Keep.refl _ _).alloc _, heap_alloc_new _ _⟩⟩
  · obtain ⟨k, rfl, hk1, hk, rfl, HK⟩ := hrel
    by_cases hlt : k < n
    · obtain ⟨j, hj⟩ : ∃ j, Nat.min k (n - k) = j := ⟨_, rfl⟩
      have hj1 : 1 ≤ j ∧ j ≤ k ∧ j ≤ n - k := by have : min k (n - k) = j := hj; omega
      have hf := run_fill r k (n - k) j hj1.2.2 w.heap.size 0 k n (n - k) (n - k) wr.drew w.heap.size HK.out.2 hj (fun q v h => by
        have hb := HK.out.2
        rw [Nat.zero_add]
        have hq : q < j * 2 := by rw [← qrow_len (.slice none 0 0) r j]; exact (List.getElem?_eq_some_iff.1 h).1
        have e : wr.drew.cell? ⟨w.heap.size, q, none⟩ = (qfill r k (n - k))[q]? := by
          show wr.cell? _ = _
          simp [World.cell?, hb]
        rw [e, qfill, List.getElem?_append_left (by rw [qrow_len]; omega), show k = j + (k - j) by omega, qrow_add, List.getElem?_append_left (by rw [qrow_len]; omega)]
        exact h) 51
      have hnk : ¬ ((n : Nat) = k) := by omega
      have hnk' : (n == k) = false := by simp; omega
      have hki : (k : Int) ≤ n := by omega
      have HF := Lib.hid hf
      have HJ := Lib.hid hj
      clear hf hj
      repeat first
        | apply d_seq
        | with_reducible apply kt_normal
        | apply l_nil
        | apply d_region
        | (apply l_off; (focus rfl); (focus rfl))
        | (apply l_val; (focus rfl); (focus rfl); (focus rfl); (focus (go_simp; (try simp (disch := omega) only [wrap_in, wrap_in', wrap_u16, wrap_u8, wrap_u32, wrap_u64, rem_in, quo_in]); first | done | with_reducible rfl | (constructor <;> with_reducible rfl))))
        | (apply l_store; (focus rfl); (focus rfl); (focus rfl); (focus (go_simp; (try simp (disch := omega) only [wrap_in, wrap_in', wrap_u16, wrap_u8, wrap_u32, wrap_u64, rem_in, quo_in]); first | done | with_reducible rfl | (constructor <;> with_reducible rfl))))
        | apply d_block
        | (apply d_true; (focus rfl); (focus rfl))
        | (apply d_false; (focus rfl); (focus rfl))
        | apply d_skip
        | apply d_exit
        | apply d_ret
        | with_reducible apply kt_ret
        | with_reducible apply kt_exit
        | with_reducible apply kb_normal
        | with_reducible apply kb_ret
        | with_reducible apply kb_here
        | with_reducible apply kl_ret
        | with_reducible apply kl_exit
        | with_reducible apply kc_ret
        | with_reducible apply kc_exit
        | (with_reducible apply kb_there; (focus rfl))
      refine d_draw (true, [([], []), ([], []), ([], []), ([1, 2], [1, 2]), ([], []), ([], []), ([4, 5], [4, 5]), ([3, 6], [3, 6]), ([0, 7], [0, 7]), ([8, 7, 0, 1, 2, 3, 4, 5, 6, 7, 8], [0, 2, 5, 8])]) [(0, 0), (0, 1), (0, 2), (0, 3), (0, 4), (0, 5), (0, 6), (1, 7), (0, 8), (0, 9)] [999999] (fun W => True) (by kernel_rfl) (by kernel_rfl) (by kernel_rfl) (by kernel_rfl) trivial ?_
      iterate 7
        first | (apply s_off; (focus rfl); (focus rfl); (focus rfl)) | (apply s_yield; (focus rfl); (focus rfl); (focus rfl); (focus rfl); (focus (intro W hS; go_simp; (try simp (disch := omega) only [wrap_in, wrap_in', wrap_u16, wrap_u8, wrap_u32, wrap_u64, rem_in, quo_in]); first | done | with_reducible rfl | (constructor <;> with_reducible rfl))))
      refine s_op rfl rfl rfl rfl (exec_copy (.tmp 41) (.tmp 44) 51 rfl _ _ rfl rfl HF.out) trivial ?_
      iterate 2
        first | (apply s_off; (focus rfl); (focus rfl); (focus rfl)) | (apply s_yield; (focus rfl); (focus rfl); (focus rfl); (focus rfl); (focus (intro W hS; go_simp; (try simp (disch := omega) only [wrap_in, wrap_in', wrap_u16, wrap_u8, wrap_u32, wrap_u64, rem_in, quo_in]); first | done | with_reducible rfl | (constructor <;> with_reducible rfl))))
      refine s_done ?_
      repeat first
        | apply d_seq
        | with_reducible apply kt_normal
        | apply l_nil
        | apply d_region
        | (apply l_off; (focus rfl); (focus rfl))
        | (apply l_val; (focus rfl); (focus rfl); (focus rfl); (focus (go_simp; (try simp (disch := omega) only [wrap_in, wrap_in', wrap_u16, wrap_u8, wrap_u32, wrap_u64, rem_in, quo_in]); first | done | with_reducible rfl | (constructor <;> with_reducible rfl))))
        | (apply l_store; (focus rfl); (focus rfl); (focus rfl); (focus (go_simp; (try simp (disch := omega) only [wrap_in, wrap_in', wrap_u16, wrap_u8, wrap_u32, wrap_u64, rem_in, quo_in]); first | done | with_reducible rfl | (constructor <;> with_reducible rfl))))
        | apply d_block
        | (apply d_true; (focus rfl); (focus rfl))
        | (apply d_false; (focus rfl); (focus rfl))
        | apply d_skip
        | apply d_exit
        | apply d_ret
        | with_reducible apply kt_ret
        | with_reducible apply kt_exit
        | with_reducible apply kb_normal
        | with_reducible apply kb_ret
        | with_reducible apply kb_here
        | with_reducible apply kl_ret
        | with_reducible apply kl_exit
        | with_reducible apply kc_ret
        | with_reducible apply kc_exit
        | (with_reducible apply kb_there; (focus rfl))
      refine kl_normal (n - (k + j)) _ (by omega) (Subl.cons (t := 7) (by decide) rfl (Subl.cons (t := 8) (by decide) rfl (Subl.nil _ _))) ?_
      exact ⟨k + j, rfl, by omega, by omega, rfl, Lib.hid ⟨HK.out.1.drew.setRow (Nat.le_refl _) _, by rw [← show n - k - j = n - (k + j) by omega]; exact setRow_heap wr.drew _ _ _ _ _ HK.out.2⟩⟩
    · obtain rfl : k = n := by omega
      have hx := HK.out.2
      rw [Nat.sub_self] at hx
      have HX := Lib.hid hx
      clear hx
      repeat first
        | apply d_seq
        | with_reducible apply kt_normal
        | apply l_nil
        | apply d_region
        | (apply l_off; (focus rfl); (focus rfl))
        | (apply l_val; (focus rfl); (focus rfl); (focus rfl); (focus (go_simp; (try simp (disch := omega) only [wrap_in, wrap_in', wrap_u16, wrap_u8, wrap_u32, wrap_u64, rem_in, quo_in]); first | done | with_reducible rfl | (constructor <;> with_reducible rfl))))
        | (apply l_store; (focus rfl); (focus rfl); (focus rfl); (focus (go_simp; (try simp (disch := omega) only [wrap_in, wrap_in', wrap_u16, wrap_u8, wrap_u32, wrap_u64, rem_in, quo_in]); first | done | with_reducible rfl | (constructor <;> with_reducible rfl))))
        | apply d_block
        | (apply d_true; (focus rfl); (focus rfl))
        | (apply d_false; (focus rfl); (focus rfl))
        | apply d_skip
        | apply d_exit
        | apply d_ret
        | with_reducible apply kt_ret
        | with_reducible apply kt_exit
        | with_reducible apply kb_normal
        | with_reducible apply kb_ret
        | with_reducible apply kb_here
        | with_reducible apply kl_ret
        | with_reducible apply kl_exit
        | with_reducible apply kc_ret
        | with_reducible apply kc_exit
        | (with_reducible apply kb_there; (focus rfl))
      refine ⟨rfl, _, (by first | (simp [resultsG, resOne, Try.results25, rho, List.lookup]; done) | (simp [resultsG, resOne, Try.results25, rho, List.lookup]; rfl)), ?_⟩
      exact ⟨_, rfl, HK.out.1, Nat.le_refl _, by rw [HX.out, qfill]; simp [qrow]⟩
/-- The room and how many zones there are. -/
theorem new_any' (zn rm : Int) (n : Nat) (r : Int) (hn : mn (mx zn 1) 8 = n) (hr : mn (mx rm 1) 64 = r) (h1 : 1 ≤ n) (h8 : n ≤ 8) (w : World) :
    Calls Try.prog 11 #[.int .i64 zn, .int .i64 rm] w fun e w' => ∃ tb zb, e = .returned (.pointer (some ⟨tb, 0, none⟩)) ∧ Keep none_ w w' ∧ w.heap.size ≤ tb ∧ w.heap.size ≤ zb ∧ w'.heap[tb]? = some (.cells #[.slice (some ⟨zb, 0, none⟩) n n] 54 (0, 0)) ∧ w'.heap[zb]? = some (.cells (qrow (.slice none 0 0) r n).toArray 50 (0, 0)) := by
  have hx : ((w.alloc (.cells #[.slice none 0 0, .int .i64 r] 50)).alloc (.cells #[.slice none 0 0, .int .i64 r] 50)).heap[w.heap.size + 1]? = some (.cells #[.slice none 0 0, .int .i64 r] 50 (0, 0)) :=
    (congrArg (fun k => ((w.alloc (.cells #[.slice none 0 0, .int .i64 r] 50)).alloc (.cells #[.slice none 0 0, .int .i64 r] 50)).heap[k]?) (by simp)).trans (heap_alloc_new (w.alloc (.cells #[.slice none 0 0, .int .i64 r] 50)) _)
  have HC := Lib.hid (repeat_any r n h1 h8 _ _ hx)
  clear hx
  refine d_calls (n := 18) Try.func11 rfl rfl (by simp) [(0, .int .i64 zn), (1, .int .i64 rm)] (by simp) ?_
  repeat first
    | apply d_seq
    | with_reducible apply kt_normal
    | apply l_nil
    | apply d_region
    | (apply l_off; (focus rfl); (focus rfl))
    | (apply l_val; (focus rfl); (focus rfl); (focus rfl); (focus (go_simp; (try simp (disch := omega) only [wrap_in, wrap_in', wrap_u16, wrap_u8, wrap_u32, wrap_u64, rem_in, quo_in]); first | done | with_reducible rfl | (constructor <;> with_reducible rfl))))
    | (apply l_store; (focus rfl); (focus rfl); (focus rfl); (focus (go_simp; (try simp (disch := omega) only [wrap_in, wrap_in', wrap_u16, wrap_u8, wrap_u32, wrap_u64, rem_in, quo_in]); first | done | with_reducible rfl | (constructor <;> with_reducible rfl))))
    | apply d_block
    | (apply d_true; (focus rfl); (focus rfl))
    | (apply d_false; (focus rfl); (focus rfl))
    | apply d_skip
    | apply d_exit
    | apply d_ret
    | with_reducible apply kt_ret
    | with_reducible apply kt_exit
    | with_reducible apply kb_normal
    | with_reducible apply kb_ret
    | with_reducible apply kb_here
    | with_reducible apply kl_ret
    | with_reducible apply kl_exit
    | with_reducible apply kc_ret
    | with_reducible apply kc_exit
    | (with_reducible apply kb_there; (focus rfl))
  refine l_call rfl rfl rfl (by first | (go_simp; done) | (go_simp; rfl)) (HC.out) ?_
  rintro e w1 ⟨zb, rfl, hk, hz, hb⟩
  have HK := Lib.hid (And.intro hk (And.intro hz hb))
  clear hk hz hb
  refine ⟨_, rfl, ?_⟩
  repeat first
    | apply d_seq
    | with_reducible apply kt_normal
    | apply l_nil
    | apply d_region
    | (apply l_off; (focus rfl); (focus rfl))
    | (apply l_val; (focus rfl); (focus rfl); (focus rfl); (focus (go_simp; (try simp (disch := omega) only [wrap_in, wrap_in', wrap_u16, wrap_u8, wrap_u32, wrap_u64, rem_in, quo_in]); first | done | with_reducible rfl | (constructor <;> with_reducible rfl))))
    | (apply l_store; (focus rfl); (focus rfl); (focus rfl); (focus (go_simp; (try simp (disch := omega) only [wrap_in, wrap_in', wrap_u16, wrap_u8, wrap_u32, wrap_u64, rem_in, quo_in]); first | done | with_reducible rfl | (constructor <;> with_reducible rfl))))
    | apply d_block
    | (apply d_true; (focus rfl); (focus rfl))
    | (apply d_false; (focus rfl); (focus rfl))
    | apply d_skip
    | apply d_exit
    | apply d_ret
    | with_reducible apply kt_ret
    | with_reducible apply kt_exit
    | with_reducible apply kb_normal
    | with_reducible apply kb_ret
    | with_reducible apply kb_here
    | with_reducible apply kl_ret
    | with_reducible apply kl_exit
    | with_reducible apply kc_ret
    | with_reducible apply kc_exit
    | (with_reducible apply kb_there; (focus rfl))
  refine ⟨rfl, _, (by first | (simp [resultsG, resOne, Try.results11, rho, List.lookup]; done) | (simp [resultsG, resOne, Try.results11, rho, List.lookup]; rfl)), ?_⟩
  obtain ⟨hk, hz, hb⟩ := HK.out
  have hk' : Keep none_ w w1 := (((Keep.refl none_ w).alloc _).alloc _).next hk
  have hz' : w.heap.size ≤ zb := by simp at hz; omega
  exact ⟨w1.heap.size, zb, rfl, hk'.alloc _, hk'.size, hz', heap_alloc_new _ _, (Below.heap_alloc _ _ _ (lt_of_block hb)).trans hb⟩
end Go.Proofs.Ytilmodbiimjllaa
