import Derived.Test.YtbcjmgocdplfnaaPlc1
namespace Go.Proofs.Ytbcjmgocdplfnaa
set_option linter.unusedVariables false
set_option linter.unusedSimpArgs false
attribute [local go_sem] rho_const rho_func rho_hit rho_miss
open Go.RowKit
theorem Try.infoU8 : (Try.prog.info? 5).map (fun i => (i.zero, i.size, i.bytes)) = some (some (.int .u8 0), 1, 1) := by kernel_rfl
/-- One more at the end of a row of ours. -/
theorem push_u8 {w0 w : World} {L : List (Asrt w0.heap.size)} (H : Has w0 w L) {k : Nat} {v : Value} {xs : List Int} (hi : L[k]? = some (OwnA w0.heap.size 5 1 v xs.length (ints .u8 xs))) (hm : xs.length ≤ 1000) (y : Int) :
    ∃ g cap w', (Builtin.append_ #[22, 22] 22 #[v, .slice (some ⟨w.heap.size, 0, none⟩) 1 1]).run Try.prog (w.alloc (.cells #[.int .u8 y] 5)) = .ok (.slice (some ⟨g, 0, none⟩) (xs.length + 1) cap) w' ∧ xs.length + 1 ≤ cap ∧ cap ≤ 9223372036854775807 ∧
      Has w0 w' (L.set k (OwnA w0.heap.size 5 1 (.slice (some ⟨g, 0, none⟩) (xs.length + 1) cap) (xs ++ [y]).length (ints .u8 (xs ++ [y])))) := by
  obtain ⟨i0, hi0, hz0, hz1, hz2⟩ := info_parts Try.infoU8
  have := H.push (P := Try.prog) hi 22 i0 _ 1 Try.underlying22 hi0 hz0 hz1 hz2 rfl (by decide) #[.int .u8 y] rfl (by simp [Value.oneCell']) (by unfold maxLen; omega) (by omega) 22
  obtain ⟨g, cap, w', h1, h2, h3, h4⟩ := this
  refine ⟨g, cap, w', h1, h2, h3, ?_⟩
  rw [List.length_append, List.length_singleton]
  have e : ints .u8 (xs ++ [y]) = ints .u8 xs ++ [.int .u8 y] := by simp [ints]
  rw [e]
  exact h4
theorem exec_loadArr {P : Program} {w : World} {ρ : Operand → Value} {o : Oper} {n : Nat} {a : Addr} {cs : Array Value} (t : TypeId) (x : Operand) (ho : o.op = .load t x) (hx : ρ x = .pointer (some a)) (h1 : ∀ w, (isAgg t).run P w = .ok true w) (h2 : ∀ w, (sizeOf t).run P w = .ok n w) (h3 : (loadCellsFrom a 0 n #[]).run P w = .ok cs w) : (execOp ρ o).run P w = .ok (.value (.agg cs)) w := by
  simp [execOp, ho, hx, Instr.loadAt, Instr.sureAddr, loadVar, loadCells, h1, h2, h3, Result.andThen]
theorem exec_indexArr {P : Program} {w : World} {ρ : Operand → Value} {o : Oper} {n k : Nat} {e : TypeId} {v : Int} {cs : Array Value} (t : TypeId) (x i : Operand) (ho : o.op = .index t x i) (hx : ρ x = .agg cs) (hi : ρ i = .int .i64 k) (hu : P.underlying t = some (.array n e)) (hs : ∀ w, (sizeOf e).run P w = .ok 1 w) (ha : ∀ w, (isAgg e).run P w = .ok false w) (hk : k < n) (hg : cs[k]? = some (.int .i64 v)) : (execOp ρ o).run P w = .ok (.value (.int .i64 v)) w := by
  have hk' : (k : Int) < n := by omega
  have h0 : (0 : Int) ≤ k := by omega
  simp [execOp, ho, hx, hi, Instr.index, asIntOf, run_underlying hu, hs, ha, hk, hk', h0, hg, part, Result.andThen]
theorem ld_arr {P : Program} {w : World} (p n : Nat) (f : Nat → Int) (h : ∀ i, i < n → w.cell? ⟨p, i, none⟩ = some (.int .i64 (f i))) : (loadCellsFrom ⟨p, 0, none⟩ 0 n #[]).run P w = .ok (arr n f) w := by
  have := run_loadCellsFrom (P := P) w ⟨p, 0, none⟩ (fun i => Value.int .i64 (f i)) n 0 #[] (fun j hj => by rw [Addr.add_lit]; simpa using h j hj)
  rw [this]
  simp [arr]
def PS.spares (s : PS) : List Int := ((List.range 32).filter fun a => s.of a == 1).map (fun a : Nat => (a : Int))
def sparesTo (s : PS) (k : Nat) : List Int := ((List.range k).filter fun a => s.of a == 1).map (fun a : Nat => (a : Int))
theorem sparesTo_succ (s : PS) (k : Nat) : sparesTo s (k + 1) = sparesTo s k ++ if (s.of k == 1) = true then [(k : Int)] else [] := by
  unfold sparesTo
  rw [List.range_succ, List.filter_append, List.map_append]
  cases h : s.of k == 1 <;> simp [h]
theorem sparesTo_len (s : PS) (k : Nat) : (sparesTo s k).length ≤ k := by
  unfold sparesTo
  rw [List.length_map]
  exact Nat.le_trans (List.length_filter_le _ _) (by simp)
set_option maxRecDepth 100000 in
set_option maxHeartbeats 2000000 in
theorem spares_any (p : Nat) (s : PS) (F : Nat → Prop) (w : World) (h : PRep w F p s) :
    Calls Try.prog 23 #[.pointer (some ⟨p, 0, none⟩)] w fun e w' => ∃ v, e = .returned v ∧ Keep none_ w w' ∧ Own w' (fresh none_ w w') 5 1 v s.spares.length (ints .u8 s.spares) := by
  obtain ⟨-, hok, mb, -, -, -, -, h5, -⟩ := h
  have hld := ld_arr (P := Try.prog) (w := w) p 32 s.of (fun i hi => pcell h5 hi)
  have hget := fun k (hk : k < 32) => arr_get s.of hk
  obtain ⟨av, hav⟩ : ∃ av, arr 32 s.of = av := ⟨_, rfl⟩
  rw [hav] at hld hget
  have HG := Lib.hid hget
  clear hav hget
  have HOK := Lib.hid hok
  have HX := Lib.hid (show Has w w [OwnA w.heap.size 5 1 (.slice none 0 0) (sparesTo s 0).length (ints .u8 (sparesTo s 0))] from by
    have := (Has.nil (Keep.refl none_ w)).new (P := OwnA w.heap.size 5 1 (.slice none 0 0) (sparesTo s 0).length (ints .u8 (sparesTo s 0))) (Keep.refl none_ w) (show Own _ _ _ _ _ _ _ from ⟨⟨rfl, .inl ⟨rfl, rfl⟩⟩, (fun q hq => by simp [Value.ownBlock] at hq), by simp [ints, sparesTo]⟩)
    simpa using this)
  clear hok
  refine d_calls (n := 22) Try.func23 rfl rfl (by simp) [(0, .pointer (some ⟨p, 0, none⟩))] (by simp) ?_
  repeat first
    | apply d_seq
    | with_reducible apply kt_normal
    | apply l_nil
    | apply d_region
    | (apply l_off; (focus rfl); (focus rfl))
    | (apply l_val; (focus rfl); (focus rfl); (focus rfl); (focus (go_simp; (try simp (disch := omega) only [wrap_in, wrap_in', wrap_u16, wrap_u8, wrap_u32, wrap_u64, rem_in, quo_in]); first | done | with_reducible rfl | (constructor <;> with_reducible rfl))))
    | (apply l_store; (focus rfl); (focus rfl); (focus rfl); (focus (go_simp; (try simp (disch := omega) only [wrap_in, wrap_in', wrap_u16, wrap_u8, wrap_u32, wrap_u64, rem_in, quo_in]); first | done | with_reducible rfl | (constructor <;> with_reducible rfl))))
    | apply d_block
    | (apply d_true; (focus rfl); (focus rfl))
    | (apply d_false; (focus rfl); (focus rfl))
    | apply d_skip
    | apply d_exit
    | apply d_ret
    | with_reducible apply kt_ret
    | with_reducible apply kt_exit
    | with_reducible apply kb_normal
    | with_reducible apply kb_ret
    | with_reducible apply kb_here
    | with_reducible apply kl_ret
    | with_reducible apply kl_exit
    | with_reducible apply kc_ret
    | with_reducible apply kc_exit
    | (with_reducible apply kb_there; (focus rfl))
  refine l_val (w' := w) (v := .agg av) rfl rfl rfl (exec_loadArr 39 (.tmp 7) rfl rfl Try.isAgg39 Try.sizeOf39 hld) ?_
  clear hld
  have HB := Lib.hid h5
  clear h5
  repeat first
    | apply d_seq
    | with_reducible apply kt_normal
    | apply l_nil
    | apply d_region
    | (apply l_off; (focus rfl); (focus rfl))
    | (apply l_val; (focus rfl); (focus rfl); (focus rfl); (focus (go_simp; (try simp (disch := omega) only [wrap_in, wrap_in', wrap_u16, wrap_u8, wrap_u32, wrap_u64, rem_in, quo_in]); first | done | with_reducible rfl | (constructor <;> with_reducible rfl))))
    | (apply l_store; (focus rfl); (focus rfl); (focus rfl); (focus (go_simp; (try simp (disch := omega) only [wrap_in, wrap_in', wrap_u16, wrap_u8, wrap_u32, wrap_u64, rem_in, quo_in]); first | done | with_reducible rfl | (constructor <;> with_reducible rfl))))
    | apply d_block
    | (apply d_true; (focus rfl); (focus rfl))
    | (apply d_false; (focus rfl); (focus rfl))
    | apply d_skip
    | apply d_exit
    | apply d_ret
    | with_reducible apply kt_ret
    | with_reducible apply kt_exit
    | with_reducible apply kb_normal
    | with_reducible apply kb_ret
    | with_reducible apply kb_here
    | with_reducible apply kl_ret
    | with_reducible apply kl_exit
    | with_reducible apply kc_ret
    | with_reducible apply kc_exit
    | (with_reducible apply kb_there; (focus rfl))
  refine d_loop (fun m D wr => ∃ (k : Nat) (A : Option Addr) (cp : Nat), m = 32 - k ∧ k ≤ 32 ∧ D = [(2, .slice A (sparesTo s k).length cp), (8, .agg av), (9, .int .i64 k)] ∧ Hid (Has w wr [OwnA w.heap.size 5 1 (.slice A (sparesTo s k).length cp) (sparesTo s k).length (ints .u8 (sparesTo s k))])) (32) _ (Subl.cons (t := 2) (by decide) rfl (Subl.cons (t := 8) (by decide) rfl (Subl.cons (t := 9) (by decide) rfl (Subl.nil _ _)))) ?_ (fun m D wr hrel => ?_)
  · exact ⟨0, none, 0, rfl, Nat.zero_le _, rfl, HX⟩
  · clear HX
    obtain ⟨k, A, cp, rfl, hk, rfl, HX⟩ := hrel
    by_cases hlt : k < 32
    · have hq : decide ((k : Int) < 32) = true := decide_eq_true (by omega)
      have hg := HG.out k hlt
      have hsu := sparesTo_succ s k
      have hsl := sparesTo_len s k
      obtain ⟨bb, hb⟩ : ∃ bb, (s.of k == 1) = bb := ⟨_, rfl⟩
      rw [hb] at hsu
      cases bb
      · rw [if_neg (by simp), List.append_nil] at hsu
        have HSU := Lib.hid hsu
        clear hsu
        repeat first
          | apply d_seq
          | with_reducible apply kt_normal
          | apply l_nil
          | apply d_region
          | (apply l_off; (focus rfl); (focus rfl))
          | (apply l_val; (focus rfl); (focus rfl); (focus rfl); (focus (go_simp; (try simp (disch := omega) only [wrap_in, wrap_in', wrap_u16, wrap_u8, wrap_u32, wrap_u64, rem_in, quo_in]); first | done | with_reducible rfl | (constructor <;> with_reducible rfl))))
          | (apply l_store; (focus rfl); (focus rfl); (focus rfl); (focus (go_simp; (try simp (disch := omega) only [wrap_in, wrap_in', wrap_u16, wrap_u8, wrap_u32, wrap_u64, rem_in, quo_in]); first | done | with_reducible rfl | (constructor <;> with_reducible rfl))))
          | apply d_block
          | (apply d_true; (focus rfl); (focus rfl))
          | (apply d_false; (focus rfl); (focus rfl))
          | apply d_skip
          | apply d_exit
          | apply d_ret
          | with_reducible apply kt_ret
          | with_reducible apply kt_exit
          | with_reducible apply kb_normal
          | with_reducible apply kb_ret
          | with_reducible apply kb_here
          | with_reducible apply kl_ret
          | with_reducible apply kl_exit
          | with_reducible apply kc_ret
          | with_reducible apply kc_exit
          | (with_reducible apply kb_there; (focus rfl))
        refine l_val rfl rfl rfl (exec_indexArr 39 (.tmp 8) (.tmp 9) rfl rfl rfl Try.underlying39 Try.sizeOf3 Try.isAgg3 hlt hg) ?_
        repeat first
          | apply d_seq
          | with_reducible apply kt_normal
          | apply l_nil
          | apply d_region
          | (apply l_off; (focus rfl); (focus rfl))
          | (apply l_val; (focus rfl); (focus rfl); (focus rfl); (focus (go_simp; (try simp (disch := omega) only [wrap_in, wrap_in', wrap_u16, wrap_u8, wrap_u32, wrap_u64, rem_in, quo_in]); first | done | with_reducible rfl | (constructor <;> with_reducible rfl))))
          | (apply l_store; (focus rfl); (focus rfl); (focus rfl); (focus (go_simp; (try simp (disch := omega) only [wrap_in, wrap_in', wrap_u16, wrap_u8, wrap_u32, wrap_u64, rem_in, quo_in]); first | done | with_reducible rfl | (constructor <;> with_reducible rfl))))
          | apply d_block
          | (apply d_true; (focus rfl); (focus rfl))
          | (apply d_false; (focus rfl); (focus rfl))
          | apply d_skip
          | apply d_exit
          | apply d_ret
          | with_reducible apply kt_ret
          | with_reducible apply kt_exit
          | with_reducible apply kb_normal
          | with_reducible apply kb_ret
          | with_reducible apply kb_here
          | with_reducible apply kl_ret
          | with_reducible apply kl_exit
          | with_reducible apply kc_ret
          | with_reducible apply kc_exit
          | (with_reducible apply kb_there; (focus rfl))
        refine kl_normal (32 - (k + 1)) _ (by omega) (Subl.cons (t := 2) (by decide) rfl (Subl.cons (t := 8) (by decide) rfl (Subl.cons (t := 9) (by decide) rfl (Subl.nil _ _)))) ?_
        exact ⟨k + 1, A, cp, by omega, by omega, by rw [HSU.out]; rfl, by rw [HSU.out]; exact HX⟩
      · rw [if_pos rfl] at hsu
        obtain ⟨g2, cap, w2, hr, h1, h2, hx⟩ := push_u8 HX.out (k := 0) rfl (by omega) (k : Int)
        simp only [List.set_cons_zero] at hx
        have hw8 : IntKind.u8.wrap (k : Int) = k := wrap_u8 (by omega) (by omega)
        have HRUN := Lib.hid hr
        have HSU := Lib.hid hsu
        clear hsu
        clear hr
        repeat first
          | apply d_seq
          | with_reducible apply kt_normal
          | apply l_nil
          | apply d_region
          | (apply l_off; (focus rfl); (focus rfl))
          | (apply l_val; (focus rfl); (focus rfl); (focus rfl); (focus (go_simp; (try simp (disch := omega) only [wrap_in, wrap_in', wrap_u16, wrap_u8, wrap_u32, wrap_u64, rem_in, quo_in]); first | done | with_reducible rfl | (constructor <;> with_reducible rfl))))
          | (apply l_store; (focus rfl); (focus rfl); (focus rfl); (focus (go_simp; (try simp (disch := omega) only [wrap_in, wrap_in', wrap_u16, wrap_u8, wrap_u32, wrap_u64, rem_in, quo_in]); first | done | with_reducible rfl | (constructor <;> with_reducible rfl))))
          | apply d_block
          | (apply d_true; (focus rfl); (focus rfl))
          | (apply d_false; (focus rfl); (focus rfl))
          | apply d_skip
          | apply d_exit
          | apply d_ret
          | with_reducible apply kt_ret
          | with_reducible apply kt_exit
          | with_reducible apply kb_normal
          | with_reducible apply kb_ret
          | with_reducible apply kb_here
          | with_reducible apply kl_ret
          | with_reducible apply kl_exit
          | with_reducible apply kc_ret
          | with_reducible apply kc_exit
          | (with_reducible apply kb_there; (focus rfl))
        refine l_val rfl rfl rfl (exec_indexArr 39 (.tmp 8) (.tmp 9) rfl rfl rfl Try.underlying39 Try.sizeOf3 Try.isAgg3 hlt hg) ?_
        repeat first
          | apply d_seq
          | with_reducible apply kt_normal
          | apply l_nil
          | apply d_region
          | (apply l_off; (focus rfl); (focus rfl))
          | (apply l_val; (focus rfl); (focus rfl); (focus rfl); (focus (go_simp; (try simp (disch := omega) only [wrap_in, wrap_in', wrap_u16, wrap_u8, wrap_u32, wrap_u64, rem_in, quo_in]); first | done | with_reducible rfl | (constructor <;> with_reducible rfl))))
          | (apply l_store; (focus rfl); (focus rfl); (focus rfl); (focus (go_simp; (try simp (disch := omega) only [wrap_in, wrap_in', wrap_u16, wrap_u8, wrap_u32, wrap_u64, rem_in, quo_in]); first | done | with_reducible rfl | (constructor <;> with_reducible rfl))))
          | apply d_block
          | (apply d_true; (focus rfl); (focus rfl))
          | (apply d_false; (focus rfl); (focus rfl))
          | apply d_skip
          | apply d_exit
          | apply d_ret
          | with_reducible apply kt_ret
          | with_reducible apply kt_exit
          | with_reducible apply kb_normal
          | with_reducible apply kb_ret
          | with_reducible apply kb_here
          | with_reducible apply kl_ret
          | with_reducible apply kl_exit
          | with_reducible apply kc_ret
          | with_reducible apply kc_exit
          | (with_reducible apply kb_there; (focus rfl))
        refine l_val rfl rfl rfl (exec_append (.tmp 15) (.tmp 18) 22 rfl _ _ rfl rfl HRUN.out) ?_
        clear HX
        have HX := Lib.hid hx
        clear hx
        repeat first
          | apply d_seq
          | with_reducible apply kt_normal
          | apply l_nil
          | apply d_region
          | (apply l_off; (focus rfl); (focus rfl))
          | (apply l_val; (focus rfl); (focus rfl); (focus rfl); (focus (go_simp; (try simp (disch := omega) only [wrap_in, wrap_in', wrap_u16, wrap_u8, wrap_u32, wrap_u64, rem_in, quo_in]); first | done | with_reducible rfl | (constructor <;> with_reducible rfl))))
          | (apply l_store; (focus rfl); (focus rfl); (focus rfl); (focus (go_simp; (try simp (disch := omega) only [wrap_in, wrap_in', wrap_u16, wrap_u8, wrap_u32, wrap_u64, rem_in, quo_in]); first | done | with_reducible rfl | (constructor <;> with_reducible rfl))))
          | apply d_block
          | (apply d_true; (focus rfl); (focus rfl))
          | (apply d_false; (focus rfl); (focus rfl))
          | apply d_skip
          | apply d_exit
          | apply d_ret
          | with_reducible apply kt_ret
          | with_reducible apply kt_exit
          | with_reducible apply kb_normal
          | with_reducible apply kb_ret
          | with_reducible apply kb_here
          | with_reducible apply kl_ret
          | with_reducible apply kl_exit
          | with_reducible apply kc_ret
          | with_reducible apply kc_exit
          | (with_reducible apply kb_there; (focus rfl))
        refine kl_normal (32 - (k + 1)) _ (by omega) (Subl.cons (t := 2) (by decide) rfl (Subl.cons (t := 8) (by decide) rfl (Subl.cons (t := 9) (by decide) rfl (Subl.nil _ _)))) ?_
        refine ⟨k + 1, some ⟨g2, 0, none⟩, cap, by omega, by omega, ?_, ?_⟩
        · rw [HSU.out, List.length_append, List.length_singleton]; rfl
        · rw [HSU.out]
          have := HX.out
          rw [List.length_append, List.length_singleton] at this ⊢
          exact Lib.hid this
    · have hk32 : k = 32 := by omega
      subst hk32
      repeat first
        | apply d_seq
        | with_reducible apply kt_normal
        | apply l_nil
        | apply d_region
        | (apply l_off; (focus rfl); (focus rfl))
        | (apply l_val; (focus rfl); (focus rfl); (focus rfl); (focus (go_simp; (try simp (disch := omega) only [wrap_in, wrap_in', wrap_u16, wrap_u8, wrap_u32, wrap_u64, rem_in, quo_in]); first | done | with_reducible rfl | (constructor <;> with_reducible rfl))))
        | (apply l_store; (focus rfl); (focus rfl); (focus rfl); (focus (go_simp; (try simp (disch := omega) only [wrap_in, wrap_in', wrap_u16, wrap_u8, wrap_u32, wrap_u64, rem_in, quo_in]); first | done | with_reducible rfl | (constructor <;> with_reducible rfl))))
        | apply d_block
        | (apply d_true; (focus rfl); (focus rfl))
        | (apply d_false; (focus rfl); (focus rfl))
        | apply d_skip
        | apply d_exit
        | apply d_ret
        | with_reducible apply kt_ret
        | with_reducible apply kt_exit
        | with_reducible apply kb_normal
        | with_reducible apply kb_ret
        | with_reducible apply kb_here
        | with_reducible apply kl_ret
        | with_reducible apply kl_exit
        | with_reducible apply kc_ret
        | with_reducible apply kc_exit
        | (with_reducible apply kb_there; (focus rfl))
      refine ⟨rfl, _, (by first | (simp [resultsG, resOne, Try.results23, rho, List.lookup]; done) | (simp [resultsG, resOne, Try.results23, rho, List.lookup]; rfl)), ?_⟩
      obtain ⟨G, hz, hG⟩ := HX.out.get (i := 0) rfl
      refine ⟨_, rfl, HX.out.old, ?_⟩
      have hown : Own wr G 5 1 (.slice A (sparesTo s 32).length cp) (sparesTo s 32).length (ints .u8 (sparesTo s 32)) := hz
      exact hown.move (fun q hq hl => ⟨.inr (hG q hq), rfl⟩)
end Go.Proofs.Ytbcjmgocdplfnaa
