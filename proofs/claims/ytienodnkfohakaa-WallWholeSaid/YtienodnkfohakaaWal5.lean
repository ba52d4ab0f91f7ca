import Derived.Test.YtienodnkfohakaaWal4
namespace Go.Proofs.Ytienodnkfohakaa
set_option linter.unusedVariables false
set_option linter.unusedSimpArgs false
attribute [local go_sem] rho_const rho_func rho_hit rho_miss
open Go.RowKit Go.Sort
theorem swo_ltLn : SWO ltLn where
  irrefl x := by simp [ltLn]
  trans x y z h1 h2 := by simp only [ltLn, decide_eq_true_eq] at *; omega
  ntrans x y z h1 h2 := by simp only [ltLn, decide_eq_false_iff_not] at *; omega
/-- The lines by rising item. -/
def sortL (ls : List Ln) : List Ln := (insertionSort ltLn ls.toArray 0 ls.length).toList
theorem sortL_facts (ls : List Ln) : (sortL ls).length = ls.length ∧ (sortL ls).Perm ls ∧ (sortL ls).Pairwise fun x y => x.item ≤ y.item := by
  obtain ⟨⟨h1, -, h3⟩, h4⟩ := insertionSort_holds (lt := ltLn) swo_ltLn ls.toArray 0 ls.length (Nat.zero_le _) (by simp)
  unfold sortL
  generalize insertionSort ltLn ls.toArray 0 ls.length = R at *
  have hl : R.toList.length = ls.length := by simpa using h1
  refine ⟨hl, ?_, ?_⟩
  · have e1 : R.extract 0 ls.length = R := by
      have : ls.length = R.size := by rw [h1]; simp
      rw [this, Array.extract_size]
    have e2 : ls.toArray.extract 0 ls.length = ls.toArray := by
      have : ls.length = ls.toArray.size := by simp
      rw [this, Array.extract_size]
    rw [e1, e2] at h3
    exact h3
  · rw [List.pairwise_iff_getElem]
    intro i j hi hj hij
    have := h4 i j (Nat.zero_le _) hij (by omega)
    rw [getElem!_pos R i (by simpa using hi), getElem!_pos R j (by simpa using hj)] at this
    simp only [ltLn, decide_eq_false_iff_not] at this
    simp only [Array.getElem_toList]
    omega
theorem keep_of_below {w w' : World} (h : Go.RowKit.Below w.heap.size w w') : Keep none_ w w' := ⟨h.os, h.tape, h.output, h.size, fun k hk _ => h.block k hk⟩
set_option maxHeartbeats 1000000 in
/-- slices.SortedFunc(slices.Values(l), by item): a new row. -/
theorem sortedF_any (Bs cap : Nat) (A : Option Addr) (ls : List Ln) (hl : ls.length ≤ 12) (w : World) (hBs : w.cell? ⟨Bs, 0, none⟩ = some (.slice A ls.length cap)) (hc : LnsAt w w.heap.size A ls) :
    Calls Try.prog 42 #[.func (.func 53) #[] #[.pointer (some ⟨Bs, 0, none⟩)], .func (.func 44) #[] #[]] w fun e w' => ∃ v, e = .returned v ∧ Keep none_ w w' ∧ Own w' (fresh none_ w w') 35 3 v ls.length (lns (sortL ls)) := by
  have hco := collect_any Bs cap A ls (by omega) w hBs hc
  have HCO := Lib.hid hco
  clear hco
  refine d_calls (n := 12) Try.func42 rfl rfl (by simp) [(0, .func (.func 53) #[] #[.pointer (some ⟨Bs, 0, none⟩)]), (1, .func (.func 44) #[] #[])] (by simp) ?_
  repeat first
    | apply d_seq
    | with_reducible apply kt_normal
    | apply l_nil
    | apply d_region
    | (apply l_off; (focus rfl); (focus rfl))
    | (apply l_val; (focus rfl); (focus rfl); (focus rfl); (focus (go_simp; (try simp (disch := omega) only [wrap_in, wrap_in', wrap_u16, wrap_u8, wrap_u32, wrap_u64, rem_in, quo_in]); first | done | with_reducible rfl | (constructor <;> with_reducible rfl))))
    | (apply l_store; (focus rfl); (focus rfl); (focus rfl); (focus (go_simp; (try simp (disch := omega) only [wrap_in, wrap_in', wrap_u16, wrap_u8, wrap_u32, wrap_u64, rem_in, quo_in]); first | done | with_reducible rfl | (constructor <;> with_reducible rfl))))
    | apply d_block
    | (apply d_true; (focus rfl); (focus rfl))
    | (apply d_false; (focus rfl); (focus rfl))
    | apply d_skip
    | apply d_exit
    | apply d_ret
    | with_reducible apply kt_ret
    | with_reducible apply kt_exit
    | with_reducible apply kb_normal
    | with_reducible apply kb_ret
    | with_reducible apply kb_here
    | with_reducible apply kl_ret
    | with_reducible apply kl_exit
    | with_reducible apply kc_ret
    | with_reducible apply kc_exit
    | (with_reducible apply kb_there; (focus rfl))
  refine l_call rfl rfl rfl (by first | (go_simp; done) | (go_simp; rfl)) (HCO.out) ?_
  rintro e w1 ⟨v, rfl, hrow, hbel⟩
  clear HCO
  have hk := keep_of_below hbel
  rcases hrow.2 with ⟨rfl, h0⟩ | ⟨g, cp, cur, rfl, h1, h2, h3, h4, h5, h6⟩
  · have hss : ls = [] := List.eq_nil_of_length_eq_zero h0
    subst hss
    have hs := sortF_any none 0 0 (by omega) w1 (fun w' => w1 = w') (insF_nil w1)
    have HS := Lib.hid hs
    have HK := Lib.hid hk
    clear hs hk
    refine ⟨_, rfl, ?_⟩
    repeat first
      | apply d_seq
      | with_reducible apply kt_normal
      | apply l_nil
      | apply d_region
      | (apply l_off; (focus rfl); (focus rfl))
      | (apply l_val; (focus rfl); (focus rfl); (focus rfl); (focus (go_simp; (try simp (disch := omega) only [wrap_in, wrap_in', wrap_u16, wrap_u8, wrap_u32, wrap_u64, rem_in, quo_in]); first | done | with_reducible rfl | (constructor <;> with_reducible rfl))))
      | (apply l_store; (focus rfl); (focus rfl); (focus rfl); (focus (go_simp; (try simp (disch := omega) only [wrap_in, wrap_in', wrap_u16, wrap_u8, wrap_u32, wrap_u64, rem_in, quo_in]); first | done | with_reducible rfl | (constructor <;> with_reducible rfl))))
      | apply d_block
      | (apply d_true; (focus rfl); (focus rfl))
      | (apply d_false; (focus rfl); (focus rfl))
      | apply d_skip
      | apply d_exit
      | apply d_ret
      | with_reducible apply kt_ret
      | with_reducible apply kt_exit
      | with_reducible apply kb_normal
      | with_reducible apply kb_ret
      | with_reducible apply kb_here
      | with_reducible apply kl_ret
      | with_reducible apply kl_exit
      | with_reducible apply kc_ret
      | with_reducible apply kc_exit
      | (with_reducible apply kb_there; (focus rfl))
    refine l_call rfl rfl rfl (by first | (go_simp; done) | (go_simp; rfl)) (HS.out) ?_
    rintro e w' ⟨rfl, rfl⟩
    refine ⟨_, rfl, ?_⟩
    repeat first
      | apply d_seq
      | with_reducible apply kt_normal
      | apply l_nil
      | apply d_region
      | (apply l_off; (focus rfl); (focus rfl))
      | (apply l_val; (focus rfl); (focus rfl); (focus rfl); (focus (go_simp; (try simp (disch := omega) only [wrap_in, wrap_in', wrap_u16, wrap_u8, wrap_u32, wrap_u64, rem_in, quo_in]); first | done | with_reducible rfl | (constructor <;> with_reducible rfl))))
      | (apply l_store; (focus rfl); (focus rfl); (focus rfl); (focus (go_simp; (try simp (disch := omega) only [wrap_in, wrap_in', wrap_u16, wrap_u8, wrap_u32, wrap_u64, rem_in, quo_in]); first | done | with_reducible rfl | (constructor <;> with_reducible rfl))))
      | apply d_block
      | (apply d_true; (focus rfl); (focus rfl))
      | (apply d_false; (focus rfl); (focus rfl))
      | apply d_skip
      | apply d_exit
      | apply d_ret
      | with_reducible apply kt_ret
      | with_reducible apply kt_exit
      | with_reducible apply kb_normal
      | with_reducible apply kb_ret
      | with_reducible apply kb_here
      | with_reducible apply kl_ret
      | with_reducible apply kl_exit
      | with_reducible apply kc_ret
      | with_reducible apply kc_exit
      | (with_reducible apply kb_there; (focus rfl))
    refine ⟨rfl, _, (by first | (simp [resultsG, resOne, Try.results42, rho, List.lookup]; done) | (simp [resultsG, resOne, Try.results42, rho, List.lookup]; rfl)), ?_⟩
    exact ⟨_, rfl, HK.out, ⟨⟨by simp [sortL, insertionSort, insOuter, lns], .inl ⟨rfl, rfl⟩⟩, (fun q hq => by simp [Value.ownBlock] at hq), by simp [sortL, insertionSort, insOuter, lns]⟩⟩
  · have hown : RowL w1 g ls.length cp ls.toArray := by
      refine ⟨⟨⟨hrow.1, .inr ⟨g, cp, cur, rfl, Nat.zero_le _, h2, h3, h4, h5, h6⟩⟩, fun q hq => ?_, lns_one _⟩, by simp⟩
      simp only [Value.ownBlock, Option.some.injEq] at hq
      exact hq.symm
    have hi := insF_any g ls.length cp ls.toArray 0 ls.length w1 hown h3 (by unfold maxLen at h4; omega) (by omega) (Nat.zero_le _) (Nat.le_refl _)
    have hs := sortF_any (some ⟨g, 0, none⟩) ls.length cp hl w1 _ hi
    have HF := Lib.hid (And.intro hk h1)
    have HS := Lib.hid hs
    clear hs
    clear hk h1 h2 h3 h4 h5 h6 hrow hbel hown hi
    refine ⟨_, rfl, ?_⟩
    repeat first
      | apply d_seq
      | with_reducible apply kt_normal
      | apply l_nil
      | apply d_region
      | (apply l_off; (focus rfl); (focus rfl))
      | (apply l_val; (focus rfl); (focus rfl); (focus rfl); (focus (go_simp; (try simp (disch := omega) only [wrap_in, wrap_in', wrap_u16, wrap_u8, wrap_u32, wrap_u64, rem_in, quo_in]); first | done | with_reducible rfl | (constructor <;> with_reducible rfl))))
      | (apply l_store; (focus rfl); (focus rfl); (focus rfl); (focus (go_simp; (try simp (disch := omega) only [wrap_in, wrap_in', wrap_u16, wrap_u8, wrap_u32, wrap_u64, rem_in, quo_in]); first | done | with_reducible rfl | (constructor <;> with_reducible rfl))))
      | apply d_block
      | (apply d_true; (focus rfl); (focus rfl))
      | (apply d_false; (focus rfl); (focus rfl))
      | apply d_skip
      | apply d_exit
      | apply d_ret
      | with_reducible apply kt_ret
      | with_reducible apply kt_exit
      | with_reducible apply kb_normal
      | with_reducible apply kb_ret
      | with_reducible apply kb_here
      | with_reducible apply kl_ret
      | with_reducible apply kl_exit
      | with_reducible apply kc_ret
      | with_reducible apply kc_exit
      | (with_reducible apply kb_there; (focus rfl))
    refine l_call rfl rfl rfl (by first | (go_simp; done) | (go_simp; rfl)) (HS.out) ?_
    rintro e w2 ⟨rfl, hk1, hk2⟩
    have HE := Lib.hid (And.intro hk1 hk2)
    clear hk1 hk2 HS
    refine ⟨_, rfl, ?_⟩
    repeat first
      | apply d_seq
      | with_reducible apply kt_normal
      | apply l_nil
      | apply d_region
      | (apply l_off; (focus rfl); (focus rfl))
      | (apply l_val; (focus rfl); (focus rfl); (focus rfl); (focus (go_simp; (try simp (disch := omega) only [wrap_in, wrap_in', wrap_u16, wrap_u8, wrap_u32, wrap_u64, rem_in, quo_in]); first | done | with_reducible rfl | (constructor <;> with_reducible rfl))))
      | (apply l_store; (focus rfl); (focus rfl); (focus rfl); (focus (go_simp; (try simp (disch := omega) only [wrap_in, wrap_in', wrap_u16, wrap_u8, wrap_u32, wrap_u64, rem_in, quo_in]); first | done | with_reducible rfl | (constructor <;> with_reducible rfl))))
      | apply d_block
      | (apply d_true; (focus rfl); (focus rfl))
      | (apply d_false; (focus rfl); (focus rfl))
      | apply d_skip
      | apply d_exit
      | apply d_ret
      | with_reducible apply kt_ret
      | with_reducible apply kt_exit
      | with_reducible apply kb_normal
      | with_reducible apply kb_ret
      | with_reducible apply kb_here
      | with_reducible apply kl_ret
      | with_reducible apply kl_exit
      | with_reducible apply kc_ret
      | with_reducible apply kc_exit
      | (with_reducible apply kb_there; (focus rfl))
    refine ⟨rfl, _, (by first | (simp [resultsG, resOne, Try.results42, rho, List.lookup]; done) | (simp [resultsG, resOne, Try.results42, rho, List.lookup]; rfl)), ?_⟩
    obtain ⟨hk, h1⟩ := HF.out
    obtain ⟨hk1, hk2⟩ := HE.out
    refine ⟨_, rfl, hk.trans (hk1.mono (fun q e => .inr (by subst e; exact h1))), ?_⟩
    exact hk2.1.move (fun q e hl => ⟨.inr ⟨by rw [show q = g from e]; exact h1, hl⟩, rfl⟩)
end Go.Proofs.Ytienodnkfohakaa
