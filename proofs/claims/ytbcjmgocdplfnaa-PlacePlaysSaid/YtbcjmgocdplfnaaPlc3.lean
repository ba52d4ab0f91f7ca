import Derived.Test.YtbcjmgocdplfnaaPlc2
namespace Go.Proofs.Ytbcjmgocdplfnaa
set_option linter.unusedVariables false
set_option linter.unusedSimpArgs false
attribute [local go_sem] rho_const rho_func rho_hit rho_miss
open Go.RowKit
def PS.at? (s : PS) (loc : Int) : Option Int := (s.by_.find? fun q => q.1 == loc).map (·.2)
def PS.of? (s : PS) (a : Int) : Option Int := (s.by_.find? fun q => q.2 == a).map (·.1)
def PS.locs (s : PS) : List Int := (s.by_.map (·.1)).mergeSort fun x y => decide (x ≤ y)
def ansV (k : IntKind) (o : Option Int) : Value := match o with | some x => .tuple #[.int k x, .bool true] | none => .tuple #[.int k 0, .bool false]
theorem look_by (es : List (Int × Value × Nat)) (bs : List (Int × Int)) (h : vals es = bs.map fun q => (q.1, .int .u8 q.2)) (loc : Int) : ((eidx es loc).bind fun j => (es[j]?).map (·.2.1)) = ((bs.find? fun q => q.1 == loc).map (·.2)).map (Value.int .u8) := by
  induction es generalizing bs with
  | nil =>
    cases bs with
    | nil => rfl
    | cons q bs => simp [vals] at h
  | cons e es ih =>
    cases bs with
    | nil => simp [vals] at h
    | cons q bs =>
      simp only [vals, List.map_cons, List.cons.injEq, Prod.mk.injEq] at h
      obtain ⟨⟨h1, h2⟩, h3⟩ := h
      rw [eidx_cons, List.find?_cons, h1]
      by_cases hq : q.1 = loc
      · simp [hq, h2]
      · have hq' : (q.1 == loc) = false := by simpa using hq
        rw [hq']
        simp only [Bool.false_eq_true, if_false]
        rw [← ih bs h3]
        cases eidx es loc <;> simp
theorem zeroU8 (w : World) : (zeroValue 5).run Try.prog w = .ok (.int .u8 0) w := by kernel_rfl
set_option maxHeartbeats 1000000 in
theorem at_any (p : Nat) (s : PS) (loc : Int) (F : Nat → Prop) (w : World) (h : PRep w F p s) :
    Calls Try.prog 18 #[.pointer (some ⟨p, 32, none⟩), .int .u16 loc] w fun e w' => e = .returned (ansV .u8 (s.at? loc)) ∧ w' = w := by
  obtain ⟨-, -, mb, es, clock, -, -, h5, h6, -, h8⟩ := h
  have c0 := pcell_map h5
  have hl := run_lookup (key := loc) Try.underlying42 Try.underlying29 h6 _ (zeroU8 w) true
  have hv := look_by es s.by_ h8 loc
  have hsm : ((eidx es loc).bind fun j => es[j]?).isSome = ((s.by_.find? fun q => q.1 == loc).map (·.2)).isSome := by
    have : (((eidx es loc).bind fun j => (es[j]?).map (·.2.1))).isSome = ((eidx es loc).bind fun j => es[j]?).isSome := by
      cases eidx es loc with
      | none => rfl
      | some j => simp only [Option.bind_some]; cases es[j]? <;> rfl
    rw [← this, hv]
    cases (s.by_.find? fun q => q.1 == loc) <;> rfl
  rw [hv, hsm] at hl
  have HA : Hid (s.at? loc = (s.by_.find? fun q => q.1 == loc).map (·.2)) := Lib.hid rfl
  generalize (s.by_.find? fun q => q.1 == loc).map (·.2) = o at *
  rw [HA.out]
  clear h5 h6 h8 hv hsm
  cases o with
  | none =>
    simp only [Option.map_none, Option.getD_none, Option.isSome_none, if_true] at hl
    refine d_calls (n := 19) Try.func18 rfl rfl (by simp) [(0, .pointer (some ⟨p, 32, none⟩)), (1, .int .u16 loc)] (by simp) ?_
    repeat first
      | apply d_seq
      | with_reducible apply kt_normal
      | apply l_nil
      | apply d_region
      | (apply l_off; (focus rfl); (focus rfl))
      | (apply l_val; (focus rfl); (focus rfl); (focus rfl); (focus (go_simp; (try simp (disch := omega) only [wrap_in, wrap_in', wrap_u16, wrap_u8, wrap_u32, wrap_u64, rem_in, quo_in]); first | done | with_reducible rfl | (constructor <;> with_reducible rfl))))
      | (apply l_store; (focus rfl); (focus rfl); (focus rfl); (focus (go_simp; (try simp (disch := omega) only [wrap_in, wrap_in', wrap_u16, wrap_u8, wrap_u32, wrap_u64, rem_in, quo_in]); first | done | with_reducible rfl | (constructor <;> with_reducible rfl))))
      | apply d_block
      | (apply d_true; (focus rfl); (focus rfl))
      | (apply d_false; (focus rfl); (focus rfl))
      | apply d_skip
      | apply d_exit
      | apply d_ret
      | with_reducible apply kt_ret
      | with_reducible apply kt_exit
      | with_reducible apply kb_normal
      | with_reducible apply kb_ret
      | with_reducible apply kb_here
      | with_reducible apply kl_ret
      | with_reducible apply kl_exit
      | with_reducible apply kc_ret
      | with_reducible apply kc_exit
      | (with_reducible apply kb_there; (focus rfl))
    refine ⟨rfl, _, (by first | (simp [resultsG, resOne, Try.results18, rho, List.lookup]; done) | (simp [resultsG, resOne, Try.results18, rho, List.lookup]; rfl)), ?_⟩
    exact ⟨rfl, rfl⟩
  | some x =>
    simp only [Option.map_some, Option.getD_some, Option.isSome_some, if_true] at hl
    refine d_calls (n := 19) Try.func18 rfl rfl (by simp) [(0, .pointer (some ⟨p, 32, none⟩)), (1, .int .u16 loc)] (by simp) ?_
    repeat first
      | apply d_seq
      | with_reducible apply kt_normal
      | apply l_nil
      | apply d_region
      | (apply l_off; (focus rfl); (focus rfl))
      | (apply l_val; (focus rfl); (focus rfl); (focus rfl); (focus (go_simp; (try simp (disch := omega) only [wrap_in, wrap_in', wrap_u16, wrap_u8, wrap_u32, wrap_u64, rem_in, quo_in]); first | done | with_reducible rfl | (constructor <;> with_reducible rfl))))
      | (apply l_store; (focus rfl); (focus rfl); (focus rfl); (focus (go_simp; (try simp (disch := omega) only [wrap_in, wrap_in', wrap_u16, wrap_u8, wrap_u32, wrap_u64, rem_in, quo_in]); first | done | with_reducible rfl | (constructor <;> with_reducible rfl))))
      | apply d_block
      | (apply d_true; (focus rfl); (focus rfl))
      | (apply d_false; (focus rfl); (focus rfl))
      | apply d_skip
      | apply d_exit
      | apply d_ret
      | with_reducible apply kt_ret
      | with_reducible apply kt_exit
      | with_reducible apply kb_normal
      | with_reducible apply kb_ret
      | with_reducible apply kb_here
      | with_reducible apply kl_ret
      | with_reducible apply kl_exit
      | with_reducible apply kc_ret
      | with_reducible apply kc_exit
      | (with_reducible apply kb_there; (focus rfl))
    refine ⟨rfl, _, (by first | (simp [resultsG, resOne, Try.results18, rho, List.lookup]; done) | (simp [resultsG, resOne, Try.results18, rho, List.lookup]; rfl)), ?_⟩
    exact ⟨rfl, rfl⟩
set_option maxHeartbeats 1000000 in
theorem locs_any (p : Nat) (s : PS) (F : Nat → Prop) (w : World) (h : PRep w F p s) :
    Calls Try.prog 22 #[.pointer (some ⟨p, 32, none⟩)] w fun e w' => ∃ v, e = .returned v ∧ Keep none_ w w' ∧ Own w' (fresh none_ w w') 29 1 v s.locs.length (ints .u16 s.locs) := by
  obtain ⟨-, hok, mb, es, clock, -, -, h5, h6, h7, h8⟩ := h
  have c0 := pcell_map h5
  have hmb := lt_of_block h6
  have hes : es.length = s.by_.length := by have := congrArg List.length h8; simpa [vals] using this
  have hkeys : es.map (·.1) = s.by_.map (·.1) := by
    have := congrArg (List.map (·.1)) h8
    simpa [vals, Function.comp_def] using this
  have hs := sorted_any w.heap.size mb es clock h7 (by have := s.len hok; omega) (w.alloc (.cells #[.map (some mb)] 42)) (blk1 (T := 42) (heap_alloc_new _ _)).1 ((Below.heap_alloc _ _ _ hmb).trans h6)
  have hlen : s.locs.length = es.length := by unfold PS.locs; rw [List.length_mergeSort, List.length_map, hes]
  rw [hkeys] at hs
  have HS := Lib.hid hs
  have HL := Lib.hid hlen
  clear hs hok h5 h6 h7 h8 hes hkeys hlen hmb
  refine d_calls (n := 9) Try.func22 rfl rfl (by simp) [(0, .pointer (some ⟨p, 32, none⟩))] (by simp) ?_
  repeat first
    | apply d_seq
    | with_reducible apply kt_normal
    | apply l_nil
    | apply d_region
    | (apply l_off; (focus rfl); (focus rfl))
    | (apply l_val; (focus rfl); (focus rfl); (focus rfl); (focus (go_simp; (try simp (disch := omega) only [wrap_in, wrap_in', wrap_u16, wrap_u8, wrap_u32, wrap_u64, rem_in, quo_in]); first | done | with_reducible rfl | (constructor <;> with_reducible rfl))))
    | (apply l_store; (focus rfl); (focus rfl); (focus rfl); (focus (go_simp; (try simp (disch := omega) only [wrap_in, wrap_in', wrap_u16, wrap_u8, wrap_u32, wrap_u64, rem_in, quo_in]); first | done | with_reducible rfl | (constructor <;> with_reducible rfl))))
    | apply d_block
    | (apply d_true; (focus rfl); (focus rfl))
    | (apply d_false; (focus rfl); (focus rfl))
    | apply d_skip
    | apply d_exit
    | apply d_ret
    | with_reducible apply kt_ret
    | with_reducible apply kt_exit
    | with_reducible apply kb_normal
    | with_reducible apply kb_ret
    | with_reducible apply kb_here
    | with_reducible apply kl_ret
    | with_reducible apply kl_exit
    | with_reducible apply kc_ret
    | with_reducible apply kc_exit
    | (with_reducible apply kb_there; (focus rfl))
  refine l_call rfl rfl rfl (by first | (go_simp; done) | (go_simp; rfl)) (keys_any (some mb) w) ?_
  rintro e w' ⟨rfl, rfl⟩
  refine ⟨_, rfl, ?_⟩
  repeat first
    | apply d_seq
    | with_reducible apply kt_normal
    | apply l_nil
    | apply d_region
    | (apply l_off; (focus rfl); (focus rfl))
    | (apply l_val; (focus rfl); (focus rfl); (focus rfl); (focus (go_simp; (try simp (disch := omega) only [wrap_in, wrap_in', wrap_u16, wrap_u8, wrap_u32, wrap_u64, rem_in, quo_in]); first | done | with_reducible rfl | (constructor <;> with_reducible rfl))))
    | (apply l_store; (focus rfl); (focus rfl); (focus rfl); (focus (go_simp; (try simp (disch := omega) only [wrap_in, wrap_in', wrap_u16, wrap_u8, wrap_u32, wrap_u64, rem_in, quo_in]); first | done | with_reducible rfl | (constructor <;> with_reducible rfl))))
    | apply d_block
    | (apply d_true; (focus rfl); (focus rfl))
    | (apply d_false; (focus rfl); (focus rfl))
    | apply d_skip
    | apply d_exit
    | apply d_ret
    | with_reducible apply kt_ret
    | with_reducible apply kt_exit
    | with_reducible apply kb_normal
    | with_reducible apply kb_ret
    | with_reducible apply kb_here
    | with_reducible apply kl_ret
    | with_reducible apply kl_exit
    | with_reducible apply kc_ret
    | with_reducible apply kc_exit
    | (with_reducible apply kb_there; (focus rfl))
  refine l_call rfl rfl rfl (by first | (go_simp; done) | (go_simp; rfl)) (HS.out) ?_
  rintro e w' ⟨v, rfl, hk, ho⟩
  have HF := Lib.hid (And.intro hk ho)
  clear hk ho
  refine ⟨_, rfl, ?_⟩
  repeat first
    | apply d_seq
    | with_reducible apply kt_normal
    | apply l_nil
    | apply d_region
    | (apply l_off; (focus rfl); (focus rfl))
    | (apply l_val; (focus rfl); (focus rfl); (focus rfl); (focus (go_simp; (try simp (disch := omega) only [wrap_in, wrap_in', wrap_u16, wrap_u8, wrap_u32, wrap_u64, rem_in, quo_in]); first | done | with_reducible rfl | (constructor <;> with_reducible rfl))))
    | (apply l_store; (focus rfl); (focus rfl); (focus rfl); (focus (go_simp; (try simp (disch := omega) only [wrap_in, wrap_in', wrap_u16, wrap_u8, wrap_u32, wrap_u64, rem_in, quo_in]); first | done | with_reducible rfl | (constructor <;> with_reducible rfl))))
    | apply d_block
    | (apply d_true; (focus rfl); (focus rfl))
    | (apply d_false; (focus rfl); (focus rfl))
    | apply d_skip
    | apply d_exit
    | apply d_ret
    | with_reducible apply kt_ret
    | with_reducible apply kt_exit
    | with_reducible apply kb_normal
    | with_reducible apply kb_ret
    | with_reducible apply kb_here
    | with_reducible apply kl_ret
    | with_reducible apply kl_exit
    | with_reducible apply kc_ret
    | with_reducible apply kc_exit
    | (with_reducible apply kb_there; (focus rfl))
  refine ⟨rfl, _, (by first | (simp [resultsG, resOne, Try.results22, rho, List.lookup]; done) | (simp [resultsG, resOne, Try.results22, rho, List.lookup]; rfl)), ?_⟩
  refine ⟨v, rfl, ((Keep.refl none_ w).alloc _).next HF.out.1, ?_⟩
  rw [HL.out]
  exact HF.out.2.move (fun q hq hl => ⟨by rcases hq with c | c; exact c.elim; exact .inr ⟨by have := c.1; simp at this; omega, c.2⟩, rfl⟩)
section
variable {P : Program} {w w' : World} {ρ : Operand → Value} {o : Oper}
theorem exec_range {v mv : Value} (t : TypeId) (m : Operand) (ho : o.op = .range t m) (hm : ρ m = mv) (hr : (Instr.range t mv).run P w = .ok v w') : (execOp ρ o).run P w = .ok (.value v) w' := by simp [execOp, ho, hm, hr, Result.andThen]
theorem exec_next {v iv : Value} (it : Operand) (ty : TypeId) (ho : o.op = .next it false) (hty : o.type = ty) (hi : ρ it = iv) (hr : (Instr.next iv false ty).run P w = .ok v w') : (execOp ρ o).run P w = .ok (.value v) w' := by simp [execOp, ho, hi, hty, hr, Result.andThen]
theorem exec_entry {v iv : Value} (it : Operand) (ho : o.op = .entry it) (hi : ρ it = iv) (hr : (Instr.entry iv).run P w = .ok v w') : (execOp ρ o).run P w = .ok (.value v) w' := by simp [execOp, ho, hi, hr, Result.andThen]
end
theorem find_addr (bs : List (Int × Int)) (hn : (bs.map (·.2)).Nodup) (b : Int × Int) (hb : b ∈ bs) : bs.find? (fun q => q.2 == b.2) = some b := by
  induction bs with
  | nil => simp at hb
  | cons c bs ih =>
    simp only [List.map_cons, List.nodup_cons] at hn
    rw [List.find?_cons]
    rcases List.mem_cons.1 hb with rfl | hb
    · simp
    · have : (c.2 == b.2) = false := by
        have : c.2 ≠ b.2 := fun e => hn.1 (by rw [e]; exact List.mem_map_of_mem hb)
        simpa using this
      rw [this]
      exact ih hn.2 hb
set_option maxRecDepth 100000 in
set_option maxHeartbeats 2000000 in
theorem of_any (p : Nat) (s : PS) (a : Int) (F : Nat → Prop) (w : World) (h : PRep w F p s) :
    Calls Try.prog 20 #[.pointer (some ⟨p, 32, none⟩), .int .u8 a] w fun e w' => e = .returned (ansV .u16 (s.of? a)) ∧ Keep none_ w w' := by
  obtain ⟨-, hok, mb, es, clock, -, -, h5, h6, h7, h8⟩ := h
  have c0 := pcell_map h5
  have hmb := lt_of_block h6
  have hst := ItR.start (P := Try.prog) 42 _ _ Try.underlying42 h6
  have hin : ∀ q ∈ es, ∃ b ∈ s.by_, b.1 = q.1 ∧ q.2.1 = .int .u8 b.2 := fun q hq => by
    have : (q.1, q.2.1) ∈ vals es := List.mem_map.2 ⟨q, hq, rfl⟩
    rw [h8] at this
    obtain ⟨b, hb, e⟩ := List.mem_map.1 this
    simp only [Prod.mk.injEq] at e
    exact ⟨b, hb, e.1, e.2.symm⟩
  have hfind : ∀ q ∈ es, q.2.1 = .int .u8 a → s.of? a = some q.1 := fun q hq hv => by
    obtain ⟨b, hb, e1, e2⟩ := hin q hq
    rw [e2] at hv
    simp only [Value.int.injEq, true_and] at hv
    have := find_addr s.by_ hok.addrs b hb
    unfold PS.of?
    rw [← hv, this]
    simp [e1]
  have hnone : (∀ q ∈ es, q.2.1 ≠ .int .u8 a) → s.of? a = none := fun hh => by
    unfold PS.of?
    rw [Option.map_eq_none_iff, List.find?_eq_none]
    intro b hb
    have : (b.1, Value.int .u8 b.2) ∈ vals es := by rw [h8]; exact List.mem_map.2 ⟨b, hb, rfl⟩
    obtain ⟨q, hq, e⟩ := List.mem_map.1 this
    simp only [Prod.mk.injEq] at e
    have := hh q hq
    rw [e.2] at this
    simpa using this
  have hval : ∀ q ∈ es, ∃ x, q.2.1 = .int .u8 x := fun q hq => by obtain ⟨b, -, -, e⟩ := hin q hq; exact ⟨_, e⟩
  have hrb : w.heap.size ≠ mb := by omega
  have HST := Lib.hid (show ItR _ w.heap.size mb .u16 es clock [] ∧ Keep none_ w (w.alloc (.mapIter (some mb) clock #[] clock)) from ⟨hst.2, (Keep.refl _ _).alloc _⟩)
  have HRG := Lib.hid hst.1
  have HOK := Lib.hid hok
  have HFIND := Lib.hid hfind
  have HNONE := Lib.hid hnone
  have HVAL := Lib.hid hval
  have H7 := Lib.hid h7
  clear hok hfind hnone hval h7
  clear h5 h6 h8 hin hst hmb
  refine d_calls (n := 22) Try.func20 rfl rfl (by simp) [(0, .pointer (some ⟨p, 32, none⟩)), (1, .int .u8 a)] (by simp) ?_
  repeat first
    | apply d_seq
    | with_reducible apply kt_normal
    | apply l_nil
    | apply d_region
    | (apply l_off; (focus rfl); (focus rfl))
    | (apply l_val; (focus rfl); (focus rfl); (focus rfl); (focus (go_simp; (try simp (disch := omega) only [wrap_in, wrap_in', wrap_u16, wrap_u8, wrap_u32, wrap_u64, rem_in, quo_in]); first | done | with_reducible rfl | (constructor <;> with_reducible rfl))))
    | (apply l_store; (focus rfl); (focus rfl); (focus rfl); (focus (go_simp; (try simp (disch := omega) only [wrap_in, wrap_in', wrap_u16, wrap_u8, wrap_u32, wrap_u64, rem_in, quo_in]); first | done | with_reducible rfl | (constructor <;> with_reducible rfl))))
    | apply d_block
    | (apply d_true; (focus rfl); (focus rfl))
    | (apply d_false; (focus rfl); (focus rfl))
    | apply d_skip
    | apply d_exit
    | apply d_ret
    | with_reducible apply kt_ret
    | with_reducible apply kt_exit
    | with_reducible apply kb_normal
    | with_reducible apply kb_ret
    | with_reducible apply kb_here
    | with_reducible apply kl_ret
    | with_reducible apply kl_exit
    | with_reducible apply kc_ret
    | with_reducible apply kc_exit
    | (with_reducible apply kb_there; (focus rfl))
  refine l_val rfl rfl rfl (exec_range 42 (.tmp 11) rfl rfl HRG.out) ?_
  repeat first
    | apply d_seq
    | with_reducible apply kt_normal
    | apply l_nil
    | apply d_region
    | (apply l_off; (focus rfl); (focus rfl))
    | (apply l_val; (focus rfl); (focus rfl); (focus rfl); (focus (go_simp; (try simp (disch := omega) only [wrap_in, wrap_in', wrap_u16, wrap_u8, wrap_u32, wrap_u64, rem_in, quo_in]); first | done | with_reducible rfl | (constructor <;> with_reducible rfl))))
    | (apply l_store; (focus rfl); (focus rfl); (focus rfl); (focus (go_simp; (try simp (disch := omega) only [wrap_in, wrap_in', wrap_u16, wrap_u8, wrap_u32, wrap_u64, rem_in, quo_in]); first | done | with_reducible rfl | (constructor <;> with_reducible rfl))))
    | apply d_block
    | (apply d_true; (focus rfl); (focus rfl))
    | (apply d_false; (focus rfl); (focus rfl))
    | apply d_skip
    | apply d_exit
    | apply d_ret
    | with_reducible apply kt_ret
    | with_reducible apply kt_exit
    | with_reducible apply kb_normal
    | with_reducible apply kb_ret
    | with_reducible apply kb_here
    | with_reducible apply kl_ret
    | with_reducible apply kl_exit
    | with_reducible apply kc_ret
    | with_reducible apply kc_exit
    | (with_reducible apply kb_there; (focus rfl))
  refine d_loop (fun m D wr => ∃ come : List (Int × Value × Nat), m = es.length - come.length ∧ D = [(1, .int .u8 a), (12, .pointer (some ⟨w.heap.size, 0, none⟩))] ∧ Hid ((ItR wr w.heap.size mb .u16 es clock come ∧ Keep none_ w wr) ∧ ∀ q ∈ come, q.2.1 ≠ .int .u8 a)) (es.length) _ (Subl.cons (t := 1) (by decide) rfl (Subl.cons (t := 12) (by decide) rfl (Subl.nil _ _))) ?_ (fun m D wr hrel => ?_)
  · exact ⟨[], rfl, rfl, Lib.hid ⟨HST.out, fun q hq => by simp at hq⟩⟩
  · obtain ⟨come, rfl, rfl, HX⟩ := hrel
    clear HST HRG c0
    rcases HX.out.1.1.next (P := Try.prog) H7.out hrb 0 with ⟨hperm, hrun⟩ | ⟨q, hq, w1, hw1, hrun, hi2, hlen, hen⟩
    · have hno := HNONE.out (fun q hq => HX.out.2 q (hperm.mem_iff.2 hq))
      have HR := Lib.hid hrun
      have HNO := Lib.hid hno
      clear hno
      clear hperm hrun
      repeat first
        | apply d_seq
        | with_reducible apply kt_normal
        | apply l_nil
        | apply d_region
        | (apply l_off; (focus rfl); (focus rfl))
        | (apply l_val; (focus rfl); (focus rfl); (focus rfl); (focus (go_simp; (try simp (disch := omega) only [wrap_in, wrap_in', wrap_u16, wrap_u8, wrap_u32, wrap_u64, rem_in, quo_in]); first | done | with_reducible rfl | (constructor <;> with_reducible rfl))))
        | (apply l_store; (focus rfl); (focus rfl); (focus rfl); (focus (go_simp; (try simp (disch := omega) only [wrap_in, wrap_in', wrap_u16, wrap_u8, wrap_u32, wrap_u64, rem_in, quo_in]); first | done | with_reducible rfl | (constructor <;> with_reducible rfl))))
        | apply d_block
        | (apply d_true; (focus rfl); (focus rfl))
        | (apply d_false; (focus rfl); (focus rfl))
        | apply d_skip
        | apply d_exit
        | apply d_ret
        | with_reducible apply kt_ret
        | with_reducible apply kt_exit
        | with_reducible apply kb_normal
        | with_reducible apply kb_ret
        | with_reducible apply kb_here
        | with_reducible apply kl_ret
        | with_reducible apply kl_exit
        | with_reducible apply kc_ret
        | with_reducible apply kc_exit
        | (with_reducible apply kb_there; (focus rfl))
      refine l_val rfl rfl rfl (exec_next (.tmp 12) 0 rfl rfl rfl HR.out) ?_
      repeat first
        | apply d_seq
        | with_reducible apply kt_normal
        | apply l_nil
        | apply d_region
        | (apply l_off; (focus rfl); (focus rfl))
        | (apply l_val; (focus rfl); (focus rfl); (focus rfl); (focus (go_simp; (try simp (disch := omega) only [wrap_in, wrap_in', wrap_u16, wrap_u8, wrap_u32, wrap_u64, rem_in, quo_in]); first | done | with_reducible rfl | (constructor <;> with_reducible rfl))))
        | (apply l_store; (focus rfl); (focus rfl); (focus rfl); (focus (go_simp; (try simp (disch := omega) only [wrap_in, wrap_in', wrap_u16, wrap_u8, wrap_u32, wrap_u64, rem_in, quo_in]); first | done | with_reducible rfl | (constructor <;> with_reducible rfl))))
        | apply d_block
        | (apply d_true; (focus rfl); (focus rfl))
        | (apply d_false; (focus rfl); (focus rfl))
        | apply d_skip
        | apply d_exit
        | apply d_ret
        | with_reducible apply kt_ret
        | with_reducible apply kt_exit
        | with_reducible apply kb_normal
        | with_reducible apply kb_ret
        | with_reducible apply kb_here
        | with_reducible apply kl_ret
        | with_reducible apply kl_exit
        | with_reducible apply kc_ret
        | with_reducible apply kc_exit
        | (with_reducible apply kb_there; (focus rfl))
      refine ⟨rfl, _, (by first | (simp [resultsG, resOne, Try.results20, rho, List.lookup]; done) | (simp [resultsG, resOne, Try.results20, rho, List.lookup]; rfl)), ?_⟩
      rw [HNO.out]
      exact ⟨rfl, HX.out.1.2⟩
    · obtain ⟨x, hxv⟩ := HVAL.out q hq
      have hk1 : Keep none_ w w1 := by rcases hw1 with rfl | rfl; exact HX.out.1.2; exact HX.out.1.2.drew
      have hk2 := hk1.putObj (b := w.heap.size) (.inl (Nat.le_refl _)) (.mapIter (some mb) clock ((come ++ [q]).map (·.2.2)).toArray clock)
      rw [hxv] at hrun hen
      simp only [List.map_append, List.map_cons, List.map_nil] at hrun hen hi2 hk2
      have HR := Lib.hid hrun
      have HEN := Lib.hid hen
      have HI := Lib.hid (And.intro hi2 hk2)
      have HQ := Lib.hid hq
      have HXV := Lib.hid hxv
      clear hxv
      clear hrun hen hi2 hk2 hk1 hw1 hq
      by_cases hxa : x = a
      · subst hxa
        have hf := HFIND.out q HQ.out HXV.out
        have HF := Lib.hid hf
        clear hf
        have q1 : (x == x) = true := by simp
        repeat first
          | apply d_seq
          | with_reducible apply kt_normal
          | apply l_nil
          | apply d_region
          | (apply l_off; (focus rfl); (focus rfl))
          | (apply l_val; (focus rfl); (focus rfl); (focus rfl); (focus (go_simp; (try simp (disch := omega) only [wrap_in, wrap_in', wrap_u16, wrap_u8, wrap_u32, wrap_u64, rem_in, quo_in]); first | done | with_reducible rfl | (constructor <;> with_reducible rfl))))
          | (apply l_store; (focus rfl); (focus rfl); (focus rfl); (focus (go_simp; (try simp (disch := omega) only [wrap_in, wrap_in', wrap_u16, wrap_u8, wrap_u32, wrap_u64, rem_in, quo_in]); first | done | with_reducible rfl | (constructor <;> with_reducible rfl))))
          | apply d_block
          | (apply d_true; (focus rfl); (focus rfl))
          | (apply d_false; (focus rfl); (focus rfl))
          | apply d_skip
          | apply d_exit
          | apply d_ret
          | with_reducible apply kt_ret
          | with_reducible apply kt_exit
          | with_reducible apply kb_normal
          | with_reducible apply kb_ret
          | with_reducible apply kb_here
          | with_reducible apply kl_ret
          | with_reducible apply kl_exit
          | with_reducible apply kc_ret
          | with_reducible apply kc_exit
          | (with_reducible apply kb_there; (focus rfl))
        refine l_val rfl rfl rfl (exec_next (.tmp 12) 0 rfl rfl rfl HR.out) ?_
        repeat first
          | apply d_seq
          | with_reducible apply kt_normal
          | apply l_nil
          | apply d_region
          | (apply l_off; (focus rfl); (focus rfl))
          | (apply l_val; (focus rfl); (focus rfl); (focus rfl); (focus (go_simp; (try simp (disch := omega) only [wrap_in, wrap_in', wrap_u16, wrap_u8, wrap_u32, wrap_u64, rem_in, quo_in]); first | done | with_reducible rfl | (constructor <;> with_reducible rfl))))
          | (apply l_store; (focus rfl); (focus rfl); (focus rfl); (focus (go_simp; (try simp (disch := omega) only [wrap_in, wrap_in', wrap_u16, wrap_u8, wrap_u32, wrap_u64, rem_in, quo_in]); first | done | with_reducible rfl | (constructor <;> with_reducible rfl))))
          | apply d_block
          | (apply d_true; (focus rfl); (focus rfl))
          | (apply d_false; (focus rfl); (focus rfl))
          | apply d_skip
          | apply d_exit
          | apply d_ret
          | with_reducible apply kt_ret
          | with_reducible apply kt_exit
          | with_reducible apply kb_normal
          | with_reducible apply kb_ret
          | with_reducible apply kb_here
          | with_reducible apply kl_ret
          | with_reducible apply kl_exit
          | with_reducible apply kc_ret
          | with_reducible apply kc_exit
          | (with_reducible apply kb_there; (focus rfl))
        refine l_val rfl rfl rfl (exec_entry (.tmp 12) rfl rfl HEN.out) ?_
        repeat first
          | apply d_seq
          | with_reducible apply kt_normal
          | apply l_nil
          | apply d_region
          | (apply l_off; (focus rfl); (focus rfl))
          | (apply l_val; (focus rfl); (focus rfl); (focus rfl); (focus (go_simp; (try simp (disch := omega) only [wrap_in, wrap_in', wrap_u16, wrap_u8, wrap_u32, wrap_u64, rem_in, quo_in]); first | done | with_reducible rfl | (constructor <;> with_reducible rfl))))
          | (apply l_store; (focus rfl); (focus rfl); (focus rfl); (focus (go_simp; (try simp (disch := omega) only [wrap_in, wrap_in', wrap_u16, wrap_u8, wrap_u32, wrap_u64, rem_in, quo_in]); first | done | with_reducible rfl | (constructor <;> with_reducible rfl))))
          | apply d_block
          | (apply d_true; (focus rfl); (focus rfl))
          | (apply d_false; (focus rfl); (focus rfl))
          | apply d_skip
          | apply d_exit
          | apply d_ret
          | with_reducible apply kt_ret
          | with_reducible apply kt_exit
          | with_reducible apply kb_normal
          | with_reducible apply kb_ret
          | with_reducible apply kb_here
          | with_reducible apply kl_ret
          | with_reducible apply kl_exit
          | with_reducible apply kc_ret
          | with_reducible apply kc_exit
          | (with_reducible apply kb_there; (focus rfl))
        refine ⟨rfl, _, (by first | (simp [resultsG, resOne, Try.results20, rho, List.lookup]; done) | (simp [resultsG, resOne, Try.results20, rho, List.lookup]; rfl)), ?_⟩
        rw [HF.out]
        exact ⟨rfl, HI.out.2⟩
      · have q1 : (x == a) = false := by simpa using hxa
        repeat first
          | apply d_seq
          | with_reducible apply kt_normal
          | apply l_nil
          | apply d_region
          | (apply l_off; (focus rfl); (focus rfl))
          | (apply l_val; (focus rfl); (focus rfl); (focus rfl); (focus (go_simp; (try simp (disch := omega) only [wrap_in, wrap_in', wrap_u16, wrap_u8, wrap_u32, wrap_u64, rem_in, quo_in]); first | done | with_reducible rfl | (constructor <;> with_reducible rfl))))
          | (apply l_store; (focus rfl); (focus rfl); (focus rfl); (focus (go_simp; (try simp (disch := omega) only [wrap_in, wrap_in', wrap_u16, wrap_u8, wrap_u32, wrap_u64, rem_in, quo_in]); first | done | with_reducible rfl | (constructor <;> with_reducible rfl))))
          | apply d_block
          | (apply d_true; (focus rfl); (focus rfl))
          | (apply d_false; (focus rfl); (focus rfl))
          | apply d_skip
          | apply d_exit
          | apply d_ret
          | with_reducible apply kt_ret
          | with_reducible apply kt_exit
          | with_reducible apply kb_normal
          | with_reducible apply kb_ret
          | with_reducible apply kb_here
          | with_reducible apply kl_ret
          | with_reducible apply kl_exit
          | with_reducible apply kc_ret
          | with_reducible apply kc_exit
          | (with_reducible apply kb_there; (focus rfl))
        refine l_val rfl rfl rfl (exec_next (.tmp 12) 0 rfl rfl rfl HR.out) ?_
        repeat first
          | apply d_seq
          | with_reducible apply kt_normal
          | apply l_nil
          | apply d_region
          | (apply l_off; (focus rfl); (focus rfl))
          | (apply l_val; (focus rfl); (focus rfl); (focus rfl); (focus (go_simp; (try simp (disch := omega) only [wrap_in, wrap_in', wrap_u16, wrap_u8, wrap_u32, wrap_u64, rem_in, quo_in]); first | done | with_reducible rfl | (constructor <;> with_reducible rfl))))
          | (apply l_store; (focus rfl); (focus rfl); (focus rfl); (focus (go_simp; (try simp (disch := omega) only [wrap_in, wrap_in', wrap_u16, wrap_u8, wrap_u32, wrap_u64, rem_in, quo_in]); first | done | with_reducible rfl | (constructor <;> with_reducible rfl))))
          | apply d_block
          | (apply d_true; (focus rfl); (focus rfl))
          | (apply d_false; (focus rfl); (focus rfl))
          | apply d_skip
          | apply d_exit
          | apply d_ret
          | with_reducible apply kt_ret
          | with_reducible apply kt_exit
          | with_reducible apply kb_normal
          | with_reducible apply kb_ret
          | with_reducible apply kb_here
          | with_reducible apply kl_ret
          | with_reducible apply kl_exit
          | with_reducible apply kc_ret
          | with_reducible apply kc_exit
          | (with_reducible apply kb_there; (focus rfl))
        refine l_val rfl rfl rfl (exec_entry (.tmp 12) rfl rfl HEN.out) ?_
        repeat first
          | apply d_seq
          | with_reducible apply kt_normal
          | apply l_nil
          | apply d_region
          | (apply l_off; (focus rfl); (focus rfl))
          | (apply l_val; (focus rfl); (focus rfl); (focus rfl); (focus (go_simp; (try simp (disch := omega) only [wrap_in, wrap_in', wrap_u16, wrap_u8, wrap_u32, wrap_u64, rem_in, quo_in]); first | done | with_reducible rfl | (constructor <;> with_reducible rfl))))
          | (apply l_store; (focus rfl); (focus rfl); (focus rfl); (focus (go_simp; (try simp (disch := omega) only [wrap_in, wrap_in', wrap_u16, wrap_u8, wrap_u32, wrap_u64, rem_in, quo_in]); first | done | with_reducible rfl | (constructor <;> with_reducible rfl))))
          | apply d_block
          | (apply d_true; (focus rfl); (focus rfl))
          | (apply d_false; (focus rfl); (focus rfl))
          | apply d_skip
          | apply d_exit
          | apply d_ret
          | with_reducible apply kt_ret
          | with_reducible apply kt_exit
          | with_reducible apply kb_normal
          | with_reducible apply kb_ret
          | with_reducible apply kb_here
          | with_reducible apply kl_ret
          | with_reducible apply kl_exit
          | with_reducible apply kc_ret
          | with_reducible apply kc_exit
          | (with_reducible apply kb_there; (focus rfl))
        refine kl_normal (es.length - (come.length + 1)) _ (by omega) (Subl.cons (t := 1) (by decide) rfl (Subl.cons (t := 12) (by decide) rfl (Subl.nil _ _))) ?_
        refine ⟨come ++ [q], by simp, rfl, Lib.hid ⟨HI.out, fun q' hq' => ?_⟩⟩
        rcases List.mem_append.1 hq' with c | c
        · exact HX.out.2 q' c
        · simp only [List.mem_singleton] at c
          subst c
          rw [HXV.out]
          simpa using hxa
end Go.Proofs.Ytbcjmgocdplfnaa
