import Derived.Test.YtkjcmnhhgnlaeaaLed
namespace Go.Proofs.Ytkjcmnhhgnlaeaa
set_option linter.unusedVariables false
set_option linter.unusedSimpArgs false
attribute [local go_sem] rho_const rho_func rho_hit rho_miss
open Go.RowKit

/-- What an ledger holds: orders, as they came, with their rows. -/
abbrev LS := List (Int × List Rw)
def sidx (s : LS) (id : Int) : Option Nat := s.findIdx? (fun p => p.1 == id)
def LS.get (s : LS) (id : Int) : Option (List Rw) := (sidx s id).bind fun j => (s[j]?).map (·.2)
/-- A row's numbers. -/
structure Rw.ok (r : Rw) : Prop where
  a : 0 ≤ r.put ∧ r.put ≤ r.picked
  b : 0 ≤ r.short ∧ r.picked + r.short ≤ r.wanted ∧ r.wanted ≤ 9999
structure EntsOk (w : World) (F : Nat → Prop) (es : List (Int × Value × Nat)) (s : LS) : Prop where
  keys : es.map (·.1) = s.map (·.1)
  each : ∀ (i : Nat) (e : Int × Value × Nat) (p : Int × List Rw), es[i]? = some e → s[i]? = some p → Own w F 52 5 e.2.1 p.2.length (rws p.2)
  apart : ∀ (i j : Nat) (e e' : Int × Value × Nat) (g : Nat), es[i]? = some e → es[j]? = some e' → e.2.1.ownBlock = some g → e'.2.1.ownBlock = some g → i = j
structure LS.good (s : LS) : Prop where
  pos : ∀ p ∈ s, 0 < p.2.length ∧ p.2.length ≤ 8
  ok : ∀ p ∈ s, ∀ r ∈ p.2, r.ok
  once : (s.map (·.1)).Nodup
def LRep (w : World) (F : Nat → Prop) (x : Nat) (s : LS) : Prop :=
  F x ∧ s.good ∧ ∃ mb es clock, F mb ∧ w.heap[x]? = some (.cells #[.map (some mb)] 70 (0, 0)) ∧ w.heap[mb]? = some (.map (ents .u32 es) clock) ∧ EntsOk w F es s
theorem EntsOk.move {w w' : World} {F G : Nat → Prop} {es : List (Int × Value × Nat)} {s : LS} (h : EntsOk w F es s) (hk : ∀ k, F k → k < w.heap.size → G k ∧ w'.heap[k]? = w.heap[k]?) : EntsOk w' G es s :=
  ⟨h.keys, fun i e p he hp => (h.each i e p he hp).move hk, h.apart⟩
theorem LRep.move {w w' : World} {F G : Nat → Prop} {x : Nat} {s : LS} (h : LRep w F x s) (hk : ∀ k, F k → k < w.heap.size → G k ∧ w'.heap[k]? = w.heap[k]?) : LRep w' G x s := by
  obtain ⟨hF, hg, mb, es, clock, hm, hx, hb, ho⟩ := h
  exact ⟨(hk x hF (lt_of_block hx)).1, hg, mb, es, clock, (hk mb hm (lt_of_block hb)).1, (hk x hF (lt_of_block hx)).2.trans hx, (hk mb hm (lt_of_block hb)).2.trans hb, ho.move hk⟩
def LedA (n x : Nat) (s : LS) : Asrt n := ⟨fun F w => LRep w F x s, fun h _ hk _ => h.move hk⟩
theorem eidx_sidx {es : List (Int × Value × Nat)} {s : LS} (h : es.map (·.1) = s.map (·.1)) (id : Int) : eidx es id = sidx s id := by
  have e1 : eidx es id = (es.map (·.1)).findIdx? (fun q => q == id) := by unfold eidx; rw [List.findIdx?_map]; rfl
  have e2 : sidx s id = (s.map (·.1)).findIdx? (fun q => q == id) := by unfold sidx; rw [List.findIdx?_map]; rfl
  rw [e1, e2, h]
theorem sidx_some {s : LS} {id : Int} {j : Nat} (h : sidx s id = some j) : ∃ rs, s[j]? = some (id, rs) := by
  unfold sidx at h
  rw [List.findIdx?_eq_some_iff_getElem] at h
  obtain ⟨h1, h2, -⟩ := h
  refine ⟨s[j].2, ?_⟩
  rw [List.getElem?_eq_getElem h1]
  congr 1
  have : s[j].1 = id := by simpa using h2
  rw [← this]
theorem zeroRows (w : World) : (zeroValue 44).run Try.prog w = .ok (.slice none 0 0) w := by kernel_rfl
/-- What is found under an ID. -/
theorem LRep.look {w : World} {F : Nat → Prop} {x : Nat} {s : LS} (h : LRep w F x s) (id : Int) :
    ∃ mb v, w.cell? ⟨x, 0, none⟩ = some (.map (some mb)) ∧ w.frozen? ⟨x, 0, none⟩ = false ∧
      (∀ (W : World) (c : Bool), W.heap[mb]? = w.heap[mb]? → (Instr.lookup 68 (.map (some mb)) (.int .u32 id) c).run Try.prog W = .ok (if c then .tuple #[v, .bool (s.get id).isSome] else v) W) ∧
      F mb ∧ mb < w.heap.size ∧
      match s.get id with
      | none => v = .slice none 0 0
      | some rs => Own w F 52 5 v rs.length (rws rs) ∧ 0 < rs.length ∧ rs.length ≤ 8 ∧ ∀ r ∈ rs, r.ok := by
  obtain ⟨hF, hg, mb, es, clock, hm, hx, hb, ho⟩ := h
  have hlook := fun (W : World) (c : Bool) (hW : W.heap[mb]? = w.heap[mb]?) => run_lookup (P := Try.prog) (t := 68) (kt := 31) (e := 44) (k := .u32) (l := es) (key := id) Try.underlying68 Try.underlying31 (hW.trans hb) (.slice none 0 0) (zeroRows W) c
  have hlen : es.length = s.length := by have := congrArg List.length ho.keys; simpa using this
  rw [eidx_sidx ho.keys] at hlook
  cases hj : sidx s id with
  | none =>
    have hget : s.get id = none := by simp [LS.get, hj]
    simp only [hj, Option.bind_none, Option.getD_none, Option.isSome_none] at hlook
    refine ⟨mb, .slice none 0 0, by simp [World.cell?, hx], by simp [World.frozen?, hx], fun W c hW => ?_, hm, lt_of_block hb, ?_⟩
    · rw [hlook W c hW, hget]; rfl
    · rw [hget]
  | some j =>
    obtain ⟨rs, hrs⟩ := sidx_some hj
    have hjl : j < es.length := by rw [hlen]; exact (List.getElem?_eq_some_iff.1 hrs).1
    have hget : s.get id = some rs := by simp [LS.get, hj, hrs]
    have he := List.getElem?_eq_getElem hjl
    simp only [hj, Option.bind_some, he, Option.map_some, Option.getD_some, Option.isSome_some] at hlook
    refine ⟨mb, es[j].2.1, by simp [World.cell?, hx], by simp [World.frozen?, hx], fun W c hW => ?_, hm, lt_of_block hb, ?_⟩
    · rw [hlook W c hW, hget]; rfl
    · rw [hget]
      have hmem := List.mem_of_getElem? hrs
      exact ⟨ho.each j _ _ he hrs, (hg.pos _ hmem).1, (hg.pos _ hmem).2, hg.ok _ hmem⟩

theorem new_any (w : World) : Calls Try.prog 12 #[] w fun e w' => ∃ x, e = .returned (.pointer (some ⟨x, 0, none⟩)) ∧ Keep none_ w w' ∧ LRep w' (fresh none_ w w') x [] := by
  refine d_calls (n := 4) Try.func12 rfl rfl (by simp) [] (by simp) ?_
  repeat first
    | apply d_seq
    | with_reducible apply kt_normal
    | apply l_nil
    | apply d_region
    | (apply l_off; (focus rfl); (focus rfl))
    | (apply l_val; (focus rfl); (focus rfl); (focus rfl); (focus (go_simp; (try simp (disch := omega) only [wrap_in, wrap_in', wrap_u16, wrap_u8, wrap_u32, wrap_u64, rem_in, quo_in]); first | done | with_reducible rfl | (constructor <;> with_reducible rfl))))
    | (apply l_store; (focus rfl); (focus rfl); (focus rfl); (focus (go_simp; (try simp (disch := omega) only [wrap_in, wrap_in', wrap_u16, wrap_u8, wrap_u32, wrap_u64, rem_in, quo_in]); first | done | with_reducible rfl | (constructor <;> with_reducible rfl))))
    | apply d_block
    | (apply d_true; (focus rfl); (focus rfl))
    | (apply d_false; (focus rfl); (focus rfl))
    | apply d_skip
    | apply d_exit
    | apply d_ret
    | with_reducible apply kt_ret
    | with_reducible apply kt_exit
    | with_reducible apply kb_normal
    | with_reducible apply kb_ret
    | with_reducible apply kb_here
    | with_reducible apply kl_ret
    | with_reducible apply kl_exit
    | with_reducible apply kc_ret
    | with_reducible apply kc_exit
    | (with_reducible apply kb_there; (focus rfl))
  refine ⟨rfl, _, (by first | (simp [resultsG, resOne, Try.results12, rho, List.lookup]; done) | (simp [resultsG, resOne, Try.results12, rho, List.lookup]; rfl)), ?_⟩
  refine ⟨_, rfl, ((Keep.refl _ _).alloc _).alloc _, .inr ⟨by omega, by simp⟩, ⟨by simp, by simp, by simp⟩, w.heap.size, [], 0, .inr ⟨Nat.le_refl _, by simp; omega⟩, ?_, ?_, ⟨rfl, by simp, by simp⟩⟩
  · have := heap_alloc_new (w.alloc (.map #[] 0)) (.cells #[.map (some w.heap.size)] 70)
    simpa using this
  · rw [Below.heap_alloc _ _ _ (by simp)]
    exact heap_alloc_new _ _

/-- left, right -/
def Rw.left (r : Rw) : Int := r.wanted - r.picked - r.short
def Rw.right (r : Rw) : Bool := decide (0 ≤ r.left) && decide (r.put ≤ r.picked)
/-- No number is so large that it wraps. -/
structure Rw.mid (r : Rw) : Prop where
  a : 0 ≤ r.wanted ∧ r.wanted ≤ 9999 ∧ 0 ≤ r.picked ∧ r.picked ≤ 20000 ∧ 0 ≤ r.short ∧ r.short ≤ 20000 ∧ 0 ≤ r.put ∧ r.put ≤ 20000
theorem Rw.ok.mid {r : Rw} (h : r.ok) : r.mid := ⟨by have := h.a; have := h.b; omega⟩
theorem left_any (r : Rw) (hr : r.mid) (w : World) : Calls Try.prog 36 #[.agg #[.int .u16 r.item, .int .i64 r.wanted, .int .i64 r.picked, .int .i64 r.short, .int .i64 r.put]] w fun e w' => e = .returned (.int .i64 r.left) ∧ Keep none_ w w' := by
  obtain ⟨h1, h2, h3, h4, h5, h6, h7, h8⟩ := hr.a
  refine d_calls (n := 11) Try.func36 rfl rfl (by simp) [(0, .agg #[.int .u16 r.item, .int .i64 r.wanted, .int .i64 r.picked, .int .i64 r.short, .int .i64 r.put])] (by simp) ?_
  repeat first
    | apply d_seq
    | with_reducible apply kt_normal
    | apply l_nil
    | apply d_region
    | (apply l_off; (focus rfl); (focus rfl))
    | (apply l_val; (focus rfl); (focus rfl); (focus rfl); (focus (go_simp; (try simp (disch := omega) only [wrap_in, wrap_in', wrap_u16, wrap_u8, wrap_u32, wrap_u64, rem_in, quo_in]); first | done | with_reducible rfl | (constructor <;> with_reducible rfl))))
    | (apply l_store; (focus rfl); (focus rfl); (focus rfl); (focus (go_simp; (try simp (disch := omega) only [wrap_in, wrap_in', wrap_u16, wrap_u8, wrap_u32, wrap_u64, rem_in, quo_in]); first | done | with_reducible rfl | (constructor <;> with_reducible rfl))))
    | apply d_block
    | (apply d_true; (focus rfl); (focus rfl))
    | (apply d_false; (focus rfl); (focus rfl))
    | apply d_skip
    | apply d_exit
    | apply d_ret
    | with_reducible apply kt_ret
    | with_reducible apply kt_exit
    | with_reducible apply kb_normal
    | with_reducible apply kb_ret
    | with_reducible apply kb_here
    | with_reducible apply kl_ret
    | with_reducible apply kl_exit
    | with_reducible apply kc_ret
    | with_reducible apply kc_exit
    | (with_reducible apply kb_there; (focus rfl))
  refine ⟨rfl, _, (by first | (simp [resultsG, resOne, Try.results36, rho, List.lookup]; done) | (simp [resultsG, resOne, Try.results36, rho, List.lookup]; rfl)), ?_⟩
  exact ⟨rfl, (Keep.refl _ _).alloc _⟩
theorem right_any (r : Rw) (hr : r.mid) (w : World) : Calls Try.prog 48 #[.agg #[.int .u16 r.item, .int .i64 r.wanted, .int .i64 r.picked, .int .i64 r.short, .int .i64 r.put]] w fun e w' => e = .returned (.bool r.right) ∧ Keep none_ w w' := by
  have HL := Lib.hid (left_any r hr (w.alloc (.cells #[.int .u16 r.item, .int .i64 r.wanted, .int .i64 r.picked, .int .i64 r.short, .int .i64 r.put] 52)))
  refine d_calls (n := 13) Try.func48 rfl rfl (by simp) [(0, .agg #[.int .u16 r.item, .int .i64 r.wanted, .int .i64 r.picked, .int .i64 r.short, .int .i64 r.put])] (by simp) ?_
  repeat first
    | apply d_seq
    | with_reducible apply kt_normal
    | apply l_nil
    | apply d_region
    | (apply l_off; (focus rfl); (focus rfl))
    | (apply l_val; (focus rfl); (focus rfl); (focus rfl); (focus (go_simp; (try simp (disch := omega) only [wrap_in, wrap_in', wrap_u16, wrap_u8, wrap_u32, wrap_u64, rem_in, quo_in]); first | done | with_reducible rfl | (constructor <;> with_reducible rfl))))
    | (apply l_store; (focus rfl); (focus rfl); (focus rfl); (focus (go_simp; (try simp (disch := omega) only [wrap_in, wrap_in', wrap_u16, wrap_u8, wrap_u32, wrap_u64, rem_in, quo_in]); first | done | with_reducible rfl | (constructor <;> with_reducible rfl))))
    | apply d_block
    | (apply d_true; (focus rfl); (focus rfl))
    | (apply d_false; (focus rfl); (focus rfl))
    | apply d_skip
    | apply d_exit
    | apply d_ret
    | with_reducible apply kt_ret
    | with_reducible apply kt_exit
    | with_reducible apply kb_normal
    | with_reducible apply kb_ret
    | with_reducible apply kb_here
    | with_reducible apply kl_ret
    | with_reducible apply kl_exit
    | with_reducible apply kc_ret
    | with_reducible apply kc_exit
    | (with_reducible apply kb_there; (focus rfl))
  refine l_call rfl rfl rfl (by first | (go_simp; done) | (go_simp; rfl)) (HL.out) ?_
  rintro e w' ⟨rfl, hk⟩
  obtain ⟨c0, c1, c2, c3, c4, -⟩ := blk5 ((hk.block w.heap.size (by simp) (fun c => c)).trans (heap_alloc_new _ _))
  have HK := Lib.hid (((Keep.refl none_ w).alloc _).next hk)
  clear hk
  have HR : Hid (r.right = (decide (0 ≤ r.left) && decide (r.put ≤ r.picked))) := Lib.hid rfl
  by_cases hl : 0 ≤ r.left
  · refine ⟨_, rfl, ?_⟩
    repeat first
      | apply d_seq
      | with_reducible apply kt_normal
      | apply l_nil
      | apply d_region
      | (apply l_off; (focus rfl); (focus rfl))
      | (apply l_val; (focus rfl); (focus rfl); (focus rfl); (focus (go_simp; (try simp (disch := omega) only [wrap_in, wrap_in', wrap_u16, wrap_u8, wrap_u32, wrap_u64, rem_in, quo_in]); first | done | with_reducible rfl | (constructor <;> with_reducible rfl))))
      | (apply l_store; (focus rfl); (focus rfl); (focus rfl); (focus (go_simp; (try simp (disch := omega) only [wrap_in, wrap_in', wrap_u16, wrap_u8, wrap_u32, wrap_u64, rem_in, quo_in]); first | done | with_reducible rfl | (constructor <;> with_reducible rfl))))
      | apply d_block
      | (apply d_true; (focus rfl); (focus rfl))
      | (apply d_false; (focus rfl); (focus rfl))
      | apply d_skip
      | apply d_exit
      | apply d_ret
      | with_reducible apply kt_ret
      | with_reducible apply kt_exit
      | with_reducible apply kb_normal
      | with_reducible apply kb_ret
      | with_reducible apply kb_here
      | with_reducible apply kl_ret
      | with_reducible apply kl_exit
      | with_reducible apply kc_ret
      | with_reducible apply kc_exit
      | (with_reducible apply kb_there; (focus rfl))
    refine ⟨rfl, _, (by first | (simp [resultsG, resOne, Try.results48, rho, List.lookup]; done) | (simp [resultsG, resOne, Try.results48, rho, List.lookup]; rfl)), ?_⟩
    exact ⟨by rw [HR.out]; simp [hl], HK.out⟩
  · have hl' : r.left < 0 := by omega
    refine ⟨_, rfl, ?_⟩
    repeat first
      | apply d_seq
      | with_reducible apply kt_normal
      | apply l_nil
      | apply d_region
      | (apply l_off; (focus rfl); (focus rfl))
      | (apply l_val; (focus rfl); (focus rfl); (focus rfl); (focus (go_simp; (try simp (disch := omega) only [wrap_in, wrap_in', wrap_u16, wrap_u8, wrap_u32, wrap_u64, rem_in, quo_in]); first | done | with_reducible rfl | (constructor <;> with_reducible rfl))))
      | (apply l_store; (focus rfl); (focus rfl); (focus rfl); (focus (go_simp; (try simp (disch := omega) only [wrap_in, wrap_in', wrap_u16, wrap_u8, wrap_u32, wrap_u64, rem_in, quo_in]); first | done | with_reducible rfl | (constructor <;> with_reducible rfl))))
      | apply d_block
      | (apply d_true; (focus rfl); (focus rfl))
      | (apply d_false; (focus rfl); (focus rfl))
      | apply d_skip
      | apply d_exit
      | apply d_ret
      | with_reducible apply kt_ret
      | with_reducible apply kt_exit
      | with_reducible apply kb_normal
      | with_reducible apply kb_ret
      | with_reducible apply kb_here
      | with_reducible apply kl_ret
      | with_reducible apply kl_exit
      | with_reducible apply kc_ret
      | with_reducible apply kc_exit
      | (with_reducible apply kb_there; (focus rfl))
    refine ⟨rfl, _, (by first | (simp [resultsG, resOne, Try.results48, rho, List.lookup]; done) | (simp [resultsG, resOne, Try.results48, rho, List.lookup]; rfl)), ?_⟩
    exact ⟨by rw [HR.out]; simp [hl], HK.out⟩

/-! what is asked of a row -/
theorem turn1_any (r : Rw) (c : Nat) (x : Int) (w : World) (hc : w.cell? ⟨c, 0, none⟩ = some (.int .u16 x)) :
    Calls Try.prog 47 #[.agg #[.int .u16 r.item, .int .i64 r.wanted, .int .i64 r.picked, .int .i64 r.short, .int .i64 r.put], .pointer (some ⟨c, 0, none⟩)] w fun e w' => e = .returned (.bool (r.item == x)) ∧ Keep none_ w w' := by
  have hc2 := cell_old (.cells #[.int .u16 r.item, .int .i64 r.wanted, .int .i64 r.picked, .int .i64 r.short, .int .i64 r.put] 52) hc
  clear hc
  refine d_calls (n := 8) Try.func47 rfl rfl (by simp) [(0, .agg #[.int .u16 r.item, .int .i64 r.wanted, .int .i64 r.picked, .int .i64 r.short, .int .i64 r.put]), (1, .pointer (some ⟨c, 0, none⟩))] (by simp) ?_
  repeat first
    | apply d_seq
    | with_reducible apply kt_normal
    | apply l_nil
    | apply d_region
    | (apply l_off; (focus rfl); (focus rfl))
    | (apply l_val; (focus rfl); (focus rfl); (focus rfl); (focus (go_simp; (try simp (disch := omega) only [wrap_in, wrap_in', wrap_u16, wrap_u8, wrap_u32, wrap_u64, rem_in, quo_in]); first | done | with_reducible rfl | (constructor <;> with_reducible rfl))))
    | (apply l_store; (focus rfl); (focus rfl); (focus rfl); (focus (go_simp; (try simp (disch := omega) only [wrap_in, wrap_in', wrap_u16, wrap_u8, wrap_u32, wrap_u64, rem_in, quo_in]); first | done | with_reducible rfl | (constructor <;> with_reducible rfl))))
    | apply d_block
    | (apply d_true; (focus rfl); (focus rfl))
    | (apply d_false; (focus rfl); (focus rfl))
    | apply d_skip
    | apply d_exit
    | apply d_ret
    | with_reducible apply kt_ret
    | with_reducible apply kt_exit
    | with_reducible apply kb_normal
    | with_reducible apply kb_ret
    | with_reducible apply kb_here
    | with_reducible apply kl_ret
    | with_reducible apply kl_exit
    | with_reducible apply kc_ret
    | with_reducible apply kc_exit
    | (with_reducible apply kb_there; (focus rfl))
  refine ⟨rfl, _, (by first | (simp [resultsG, resOne, Try.results47, rho, List.lookup]; done) | (simp [resultsG, resOne, Try.results47, rho, List.lookup]; rfl)), ?_⟩
  exact ⟨rfl, (Keep.refl _ _).alloc _⟩
def Rw.closed (r : Rw) : Bool := r.left == 0
def Rw.full (r : Rw) : Bool := r.left == 0 && r.put == r.picked
theorem closed1_any (r : Rw) (hr : r.mid) (w : World) : Calls Try.prog 35 #[.agg #[.int .u16 r.item, .int .i64 r.wanted, .int .i64 r.picked, .int .i64 r.short, .int .i64 r.put]] w fun e w' => e = .returned (.bool r.closed) ∧ Keep none_ w w' := by
  have HL := Lib.hid (left_any r hr (w.alloc (.cells #[.int .u16 r.item, .int .i64 r.wanted, .int .i64 r.picked, .int .i64 r.short, .int .i64 r.put] 52)))
  refine d_calls (n := 6) Try.func35 rfl rfl (by simp) [(0, .agg #[.int .u16 r.item, .int .i64 r.wanted, .int .i64 r.picked, .int .i64 r.short, .int .i64 r.put])] (by simp) ?_
  repeat first
    | apply d_seq
    | with_reducible apply kt_normal
    | apply l_nil
    | apply d_region
    | (apply l_off; (focus rfl); (focus rfl))
    | (apply l_val; (focus rfl); (focus rfl); (focus rfl); (focus (go_simp; (try simp (disch := omega) only [wrap_in, wrap_in', wrap_u16, wrap_u8, wrap_u32, wrap_u64, rem_in, quo_in]); first | done | with_reducible rfl | (constructor <;> with_reducible rfl))))
    | (apply l_store; (focus rfl); (focus rfl); (focus rfl); (focus (go_simp; (try simp (disch := omega) only [wrap_in, wrap_in', wrap_u16, wrap_u8, wrap_u32, wrap_u64, rem_in, quo_in]); first | done | with_reducible rfl | (constructor <;> with_reducible rfl))))
    | apply d_block
    | (apply d_true; (focus rfl); (focus rfl))
    | (apply d_false; (focus rfl); (focus rfl))
    | apply d_skip
    | apply d_exit
    | apply d_ret
    | with_reducible apply kt_ret
    | with_reducible apply kt_exit
    | with_reducible apply kb_normal
    | with_reducible apply kb_ret
    | with_reducible apply kb_here
    | with_reducible apply kl_ret
    | with_reducible apply kl_exit
    | with_reducible apply kc_ret
    | with_reducible apply kc_exit
    | (with_reducible apply kb_there; (focus rfl))
  refine l_call rfl rfl rfl (by first | (go_simp; done) | (go_simp; rfl)) (HL.out) ?_
  rintro e w' ⟨rfl, hk⟩
  have HK := Lib.hid (((Keep.refl none_ w).alloc _).next hk)
  clear hk
  refine ⟨_, rfl, ?_⟩
  repeat first
    | apply d_seq
    | with_reducible apply kt_normal
    | apply l_nil
    | apply d_region
    | (apply l_off; (focus rfl); (focus rfl))
    | (apply l_val; (focus rfl); (focus rfl); (focus rfl); (focus (go_simp; (try simp (disch := omega) only [wrap_in, wrap_in', wrap_u16, wrap_u8, wrap_u32, wrap_u64, rem_in, quo_in]); first | done | with_reducible rfl | (constructor <;> with_reducible rfl))))
    | (apply l_store; (focus rfl); (focus rfl); (focus rfl); (focus (go_simp; (try simp (disch := omega) only [wrap_in, wrap_in', wrap_u16, wrap_u8, wrap_u32, wrap_u64, rem_in, quo_in]); first | done | with_reducible rfl | (constructor <;> with_reducible rfl))))
    | apply d_block
    | (apply d_true; (focus rfl); (focus rfl))
    | (apply d_false; (focus rfl); (focus rfl))
    | apply d_skip
    | apply d_exit
    | apply d_ret
    | with_reducible apply kt_ret
    | with_reducible apply kt_exit
    | with_reducible apply kb_normal
    | with_reducible apply kb_ret
    | with_reducible apply kb_here
    | with_reducible apply kl_ret
    | with_reducible apply kl_exit
    | with_reducible apply kc_ret
    | with_reducible apply kc_exit
    | (with_reducible apply kb_there; (focus rfl))
  refine ⟨rfl, _, (by first | (simp [resultsG, resOne, Try.results35, rho, List.lookup]; done) | (simp [resultsG, resOne, Try.results35, rho, List.lookup]; rfl)), ?_⟩
  exact ⟨rfl, HK.out⟩
theorem full1_any (r : Rw) (hr : r.mid) (w : World) : Calls Try.prog 37 #[.agg #[.int .u16 r.item, .int .i64 r.wanted, .int .i64 r.picked, .int .i64 r.short, .int .i64 r.put]] w fun e w' => e = .returned (.bool r.full) ∧ Keep none_ w w' := by
  have HL := Lib.hid (left_any r hr (w.alloc (.cells #[.int .u16 r.item, .int .i64 r.wanted, .int .i64 r.picked, .int .i64 r.short, .int .i64 r.put] 52)))
  refine d_calls (n := 13) Try.func37 rfl rfl (by simp) [(0, .agg #[.int .u16 r.item, .int .i64 r.wanted, .int .i64 r.picked, .int .i64 r.short, .int .i64 r.put])] (by simp) ?_
  repeat first
    | apply d_seq
    | with_reducible apply kt_normal
    | apply l_nil
    | apply d_region
    | (apply l_off; (focus rfl); (focus rfl))
    | (apply l_val; (focus rfl); (focus rfl); (focus rfl); (focus (go_simp; (try simp (disch := omega) only [wrap_in, wrap_in', wrap_u16, wrap_u8, wrap_u32, wrap_u64, rem_in, quo_in]); first | done | with_reducible rfl | (constructor <;> with_reducible rfl))))
    | (apply l_store; (focus rfl); (focus rfl); (focus rfl); (focus (go_simp; (try simp (disch := omega) only [wrap_in, wrap_in', wrap_u16, wrap_u8, wrap_u32, wrap_u64, rem_in, quo_in]); first | done | with_reducible rfl | (constructor <;> with_reducible rfl))))
    | apply d_block
    | (apply d_true; (focus rfl); (focus rfl))
    | (apply d_false; (focus rfl); (focus rfl))
    | apply d_skip
    | apply d_exit
    | apply d_ret
    | with_reducible apply kt_ret
    | with_reducible apply kt_exit
    | with_reducible apply kb_normal
    | with_reducible apply kb_ret
    | with_reducible apply kb_here
    | with_reducible apply kl_ret
    | with_reducible apply kl_exit
    | with_reducible apply kc_ret
    | with_reducible apply kc_exit
    | (with_reducible apply kb_there; (focus rfl))
  refine l_call rfl rfl rfl (by first | (go_simp; done) | (go_simp; rfl)) (HL.out) ?_
  rintro e w' ⟨rfl, hk⟩
  obtain ⟨c0, c1, c2, c3, c4, -⟩ := blk5 ((hk.block w.heap.size (by simp) (fun c => c)).trans (heap_alloc_new _ _))
  have HK := Lib.hid (((Keep.refl none_ w).alloc _).next hk)
  clear hk
  have HR : Hid (r.full = (r.left == 0 && r.put == r.picked)) := Lib.hid rfl
  cases hl : (r.left == 0) with
  | true =>
    rw [hl] at HR
    refine ⟨_, rfl, ?_⟩
    repeat first
      | apply d_seq
      | with_reducible apply kt_normal
      | apply l_nil
      | apply d_region
      | (apply l_off; (focus rfl); (focus rfl))
      | (apply l_val; (focus rfl); (focus rfl); (focus rfl); (focus (go_simp; (try simp (disch := omega) only [wrap_in, wrap_in', wrap_u16, wrap_u8, wrap_u32, wrap_u64, rem_in, quo_in]); first | done | with_reducible rfl | (constructor <;> with_reducible rfl))))
      | (apply l_store; (focus rfl); (focus rfl); (focus rfl); (focus (go_simp; (try simp (disch := omega) only [wrap_in, wrap_in', wrap_u16, wrap_u8, wrap_u32, wrap_u64, rem_in, quo_in]); first | done | with_reducible rfl | (constructor <;> with_reducible rfl))))
      | apply d_block
      | (apply d_true; (focus rfl); (focus rfl))
      | (apply d_false; (focus rfl); (focus rfl))
      | apply d_skip
      | apply d_exit
      | apply d_ret
      | with_reducible apply kt_ret
      | with_reducible apply kt_exit
      | with_reducible apply kb_normal
      | with_reducible apply kb_ret
      | with_reducible apply kb_here
      | with_reducible apply kl_ret
      | with_reducible apply kl_exit
      | with_reducible apply kc_ret
      | with_reducible apply kc_exit
      | (with_reducible apply kb_there; (focus rfl))
    refine ⟨rfl, _, (by first | (simp [resultsG, resOne, Try.results37, rho, List.lookup]; done) | (simp [resultsG, resOne, Try.results37, rho, List.lookup]; rfl)), ?_⟩
    exact ⟨by rw [HR.out]; simp, HK.out⟩
  | false =>
    rw [hl] at HR
    refine ⟨_, rfl, ?_⟩
    repeat first
      | apply d_seq
      | with_reducible apply kt_normal
      | apply l_nil
      | apply d_region
      | (apply l_off; (focus rfl); (focus rfl))
      | (apply l_val; (focus rfl); (focus rfl); (focus rfl); (focus (go_simp; (try simp (disch := omega) only [wrap_in, wrap_in', wrap_u16, wrap_u8, wrap_u32, wrap_u64, rem_in, quo_in]); first | done | with_reducible rfl | (constructor <;> with_reducible rfl))))
      | (apply l_store; (focus rfl); (focus rfl); (focus rfl); (focus (go_simp; (try simp (disch := omega) only [wrap_in, wrap_in', wrap_u16, wrap_u8, wrap_u32, wrap_u64, rem_in, quo_in]); first | done | with_reducible rfl | (constructor <;> with_reducible rfl))))
      | apply d_block
      | (apply d_true; (focus rfl); (focus rfl))
      | (apply d_false; (focus rfl); (focus rfl))
      | apply d_skip
      | apply d_exit
      | apply d_ret
      | with_reducible apply kt_ret
      | with_reducible apply kt_exit
      | with_reducible apply kb_normal
      | with_reducible apply kb_ret
      | with_reducible apply kb_here
      | with_reducible apply kl_ret
      | with_reducible apply kl_exit
      | with_reducible apply kc_ret
      | with_reducible apply kc_exit
      | (with_reducible apply kb_there; (focus rfl))
    refine ⟨rfl, _, (by first | (simp [resultsG, resOne, Try.results37, rho, List.lookup]; done) | (simp [resultsG, resOne, Try.results37, rho, List.lookup]; rfl)), ?_⟩
    exact ⟨by rw [HR.out]; simp, HK.out⟩
theorem all1_any (r : Rw) (q : Rw → Bool) (fk : FuncId) (c : Nat) (hcf : ∀ (args : Array Value) (w : World), (callFunc fk args).run Try.prog w = .ok (.enter fk args) w)
    (hq : ∀ W : World, Calls Try.prog fk #[.agg #[.int .u16 r.item, .int .i64 r.wanted, .int .i64 r.picked, .int .i64 r.short, .int .i64 r.put]] W fun e w' => e = .returned (.bool (q r)) ∧ Keep none_ W w') (w : World) (hc : w.cell? ⟨c, 0, none⟩ = some (.func (.func fk) #[] #[])) :
    Calls Try.prog 44 #[.agg #[.int .u16 r.item, .int .i64 r.wanted, .int .i64 r.picked, .int .i64 r.short, .int .i64 r.put], .pointer (some ⟨c, 0, none⟩)] w fun e w' => e = .returned (.bool (!q r)) ∧ Keep none_ w w' := by
  have hc2 := cell_old (.cells #[.int .u16 r.item, .int .i64 r.wanted, .int .i64 r.picked, .int .i64 r.short, .int .i64 r.put] 52) hc
  have HQ := Lib.hid (hq (w.alloc (.cells #[.int .u16 r.item, .int .i64 r.wanted, .int .i64 r.picked, .int .i64 r.short, .int .i64 r.put] 52)))
  clear hc hq
  refine d_calls (n := 8) Try.func44 rfl rfl (by simp) [(0, .agg #[.int .u16 r.item, .int .i64 r.wanted, .int .i64 r.picked, .int .i64 r.short, .int .i64 r.put]), (1, .pointer (some ⟨c, 0, none⟩))] (by simp) ?_
  repeat first
    | apply d_seq
    | with_reducible apply kt_normal
    | apply l_nil
    | apply d_region
    | (apply l_off; (focus rfl); (focus rfl))
    | (apply l_val; (focus rfl); (focus rfl); (focus rfl); (focus (go_simp; (try simp (disch := omega) only [wrap_in, wrap_in', wrap_u16, wrap_u8, wrap_u32, wrap_u64, rem_in, quo_in]); first | done | with_reducible rfl | (constructor <;> with_reducible rfl))))
    | (apply l_store; (focus rfl); (focus rfl); (focus rfl); (focus (go_simp; (try simp (disch := omega) only [wrap_in, wrap_in', wrap_u16, wrap_u8, wrap_u32, wrap_u64, rem_in, quo_in]); first | done | with_reducible rfl | (constructor <;> with_reducible rfl))))
    | apply d_block
    | (apply d_true; (focus rfl); (focus rfl))
    | (apply d_false; (focus rfl); (focus rfl))
    | apply d_skip
    | apply d_exit
    | apply d_ret
    | with_reducible apply kt_ret
    | with_reducible apply kt_exit
    | with_reducible apply kb_normal
    | with_reducible apply kb_ret
    | with_reducible apply kb_here
    | with_reducible apply kl_ret
    | with_reducible apply kl_exit
    | with_reducible apply kc_ret
    | with_reducible apply kc_exit
    | (with_reducible apply kb_there; (focus rfl))
  refine l_call rfl rfl rfl (by first | (go_simp; done) | (go_simp; rfl)) (HQ.out) ?_
  rintro e w' ⟨rfl, hk⟩
  have HK := Lib.hid (((Keep.refl none_ w).alloc _).next hk)
  clear hk
  refine ⟨_, rfl, ?_⟩
  repeat first
    | apply d_seq
    | with_reducible apply kt_normal
    | apply l_nil
    | apply d_region
    | (apply l_off; (focus rfl); (focus rfl))
    | (apply l_val; (focus rfl); (focus rfl); (focus rfl); (focus (go_simp; (try simp (disch := omega) only [wrap_in, wrap_in', wrap_u16, wrap_u8, wrap_u32, wrap_u64, rem_in, quo_in]); first | done | with_reducible rfl | (constructor <;> with_reducible rfl))))
    | (apply l_store; (focus rfl); (focus rfl); (focus rfl); (focus (go_simp; (try simp (disch := omega) only [wrap_in, wrap_in', wrap_u16, wrap_u8, wrap_u32, wrap_u64, rem_in, quo_in]); first | done | with_reducible rfl | (constructor <;> with_reducible rfl))))
    | apply d_block
    | (apply d_true; (focus rfl); (focus rfl))
    | (apply d_false; (focus rfl); (focus rfl))
    | apply d_skip
    | apply d_exit
    | apply d_ret
    | with_reducible apply kt_ret
    | with_reducible apply kt_exit
    | with_reducible apply kb_normal
    | with_reducible apply kb_ret
    | with_reducible apply kb_here
    | with_reducible apply kl_ret
    | with_reducible apply kl_exit
    | with_reducible apply kc_ret
    | with_reducible apply kc_exit
    | (with_reducible apply kb_there; (focus rfl))
  refine ⟨rfl, _, (by first | (simp [resultsG, resOne, Try.results44, rho, List.lookup]; done) | (simp [resultsG, resOne, Try.results44, rho, List.lookup]; rfl)), ?_⟩
  exact ⟨rfl, HK.out⟩

def LS.all (s : LS) (id : Int) (q : Rw → Bool) : Bool := match s.get id with | none => false | some rs => rs.all q
theorem all_any (x : Nat) (s : LS) (id : Int) (q : Rw → Bool) (fk : FuncId) (hcf : ∀ (args : Array Value) (w : World), (callFunc fk args).run Try.prog w = .ok (.enter fk args) w)
    (hq : ∀ (W : World) (r : Rw), r.ok → Calls Try.prog fk #[.agg #[.int .u16 r.item, .int .i64 r.wanted, .int .i64 r.picked, .int .i64 r.short, .int .i64 r.put]] W fun e w' => e = .returned (.bool (q r)) ∧ Keep none_ W w') (F : Nat → Prop) (w : World) (h : LRep w F x s) :
    Calls Try.prog 34 #[.pointer (some ⟨x, 0, none⟩), .int .u32 id, .func (.func fk) #[] #[]] w fun e w' => e = .returned (.bool (s.all id q)) ∧ Keep none_ w w' := by
  obtain ⟨mb, v, c0, -, hlk, hFm, hmb, hv⟩ := h.look id
  have hx := World.block_lt_of_cell? w _ c0
  have c0' := cell_old (.cells #[.func (.func fk) #[] #[]] 78) c0
  have hlk' := hlk (w.alloc (.cells #[.func (.func fk) #[] #[]] 78)) true (Below.heap_alloc _ _ _ hmb)
  have HG : Hid (s.all id q = match s.get id with | none => false | some rs => rs.all q) := Lib.hid rfl
  have hcf1 : ∀ (args : Array Value) (w : World), (callFunc 44 args).run Try.prog w = .ok (.enter 44 args) w := fun args w => by go_simp
  cases hget : s.get id with
  | none =>
    rw [hget] at HG hlk'
    simp only [if_true, Option.isSome_none] at hlk'
    clear hv hget h c0 hlk hq hcf hcf1
    refine d_calls (n := 25) Try.func34 rfl rfl (by simp) [(0, .pointer (some ⟨x, 0, none⟩)), (1, .int .u32 id), (2, .func (.func fk) #[] #[])] (by simp) ?_
    repeat first
      | apply d_seq
      | with_reducible apply kt_normal
      | apply l_nil
      | apply d_region
      | (apply l_off; (focus rfl); (focus rfl))
      | (apply l_val; (focus rfl); (focus rfl); (focus rfl); (focus (go_simp; (try simp (disch := omega) only [wrap_in, wrap_in', wrap_u16, wrap_u8, wrap_u32, wrap_u64, rem_in, quo_in]); first | done | with_reducible rfl | (constructor <;> with_reducible rfl))))
      | (apply l_store; (focus rfl); (focus rfl); (focus rfl); (focus (go_simp; (try simp (disch := omega) only [wrap_in, wrap_in', wrap_u16, wrap_u8, wrap_u32, wrap_u64, rem_in, quo_in]); first | done | with_reducible rfl | (constructor <;> with_reducible rfl))))
      | apply d_block
      | (apply d_true; (focus rfl); (focus rfl))
      | (apply d_false; (focus rfl); (focus rfl))
      | apply d_skip
      | apply d_exit
      | apply d_ret
      | with_reducible apply kt_ret
      | with_reducible apply kt_exit
      | with_reducible apply kb_normal
      | with_reducible apply kb_ret
      | with_reducible apply kb_here
      | with_reducible apply kl_ret
      | with_reducible apply kl_exit
      | with_reducible apply kc_ret
      | with_reducible apply kc_exit
      | (with_reducible apply kb_there; (focus rfl))
    refine ⟨rfl, _, (by first | (simp [resultsG, resOne, Try.results34, rho, List.lookup]; done) | (simp [resultsG, resOne, Try.results34, rho, List.lookup]; rfl)), ?_⟩
    exact ⟨by rw [HG.out], (Keep.refl _ _).alloc _⟩
  | some rs =>
    rw [hget] at HG hlk' hv
    obtain ⟨ho, hpos, -, hok⟩ := hv
    simp only [if_true, Option.isSome_some] at hlk'
    have HC := Lib.hid (hasR v rs (fun r => !q r) 44 (.pointer (some ⟨w.heap.size, 0, none⟩)) hcf1 F (w.alloc (.cells #[.func (.func fk) #[] #[]] 78)) (ho.sees.move (by simp) (fun k hk hl => ⟨hk, Below.heap_alloc _ _ _ hl⟩))
      (fun W hW y hy => all1_any y q fk w.heap.size hcf (fun W' => hq W' y (hok y hy)) W ((hW.cell (p := ⟨w.heap.size, 0, none⟩) (by simp) (fun c => c)).trans (by rw [World.cell?_alloc_at _ _ _ _ rfl]; rfl))))
    clear hget h c0 hlk hq hcf hcf1 ho hpos hok
    refine d_calls (n := 25) Try.func34 rfl rfl (by simp) [(0, .pointer (some ⟨x, 0, none⟩)), (1, .int .u32 id), (2, .func (.func fk) #[] #[])] (by simp) ?_
    repeat first
      | apply d_seq
      | with_reducible apply kt_normal
      | apply l_nil
      | apply d_region
      | (apply l_off; (focus rfl); (focus rfl))
      | (apply l_val; (focus rfl); (focus rfl); (focus rfl); (focus (go_simp; (try simp (disch := omega) only [wrap_in, wrap_in', wrap_u16, wrap_u8, wrap_u32, wrap_u64, rem_in, quo_in]); first | done | with_reducible rfl | (constructor <;> with_reducible rfl))))
      | (apply l_store; (focus rfl); (focus rfl); (focus rfl); (focus (go_simp; (try simp (disch := omega) only [wrap_in, wrap_in', wrap_u16, wrap_u8, wrap_u32, wrap_u64, rem_in, quo_in]); first | done | with_reducible rfl | (constructor <;> with_reducible rfl))))
      | apply d_block
      | (apply d_true; (focus rfl); (focus rfl))
      | (apply d_false; (focus rfl); (focus rfl))
      | apply d_skip
      | apply d_exit
      | apply d_ret
      | with_reducible apply kt_ret
      | with_reducible apply kt_exit
      | with_reducible apply kb_normal
      | with_reducible apply kb_ret
      | with_reducible apply kb_here
      | with_reducible apply kl_ret
      | with_reducible apply kl_exit
      | with_reducible apply kc_ret
      | with_reducible apply kc_exit
      | (with_reducible apply kb_there; (focus rfl))
    refine l_call rfl rfl rfl (by first | (go_simp; done) | (go_simp; rfl)) (HC.out) ?_
    rintro e w' ⟨rfl, hk⟩
    have HK := Lib.hid (((Keep.refl none_ w).alloc _).next hk)
    clear hk
    refine ⟨_, rfl, ?_⟩
    repeat first
      | apply d_seq
      | with_reducible apply kt_normal
      | apply l_nil
      | apply d_region
      | (apply l_off; (focus rfl); (focus rfl))
      | (apply l_val; (focus rfl); (focus rfl); (focus rfl); (focus (go_simp; (try simp (disch := omega) only [wrap_in, wrap_in', wrap_u16, wrap_u8, wrap_u32, wrap_u64, rem_in, quo_in]); first | done | with_reducible rfl | (constructor <;> with_reducible rfl))))
      | (apply l_store; (focus rfl); (focus rfl); (focus rfl); (focus (go_simp; (try simp (disch := omega) only [wrap_in, wrap_in', wrap_u16, wrap_u8, wrap_u32, wrap_u64, rem_in, quo_in]); first | done | with_reducible rfl | (constructor <;> with_reducible rfl))))
      | apply d_block
      | (apply d_true; (focus rfl); (focus rfl))
      | (apply d_false; (focus rfl); (focus rfl))
      | apply d_skip
      | apply d_exit
      | apply d_ret
      | with_reducible apply kt_ret
      | with_reducible apply kt_exit
      | with_reducible apply kb_normal
      | with_reducible apply kb_ret
      | with_reducible apply kb_here
      | with_reducible apply kl_ret
      | with_reducible apply kl_exit
      | with_reducible apply kc_ret
      | with_reducible apply kc_exit
      | (with_reducible apply kb_there; (focus rfl))
    refine ⟨rfl, _, (by first | (simp [resultsG, resOne, Try.results34, rho, List.lookup]; done) | (simp [resultsG, resOne, Try.results34, rho, List.lookup]; rfl)), ?_⟩
    exact ⟨by rw [HG.out]; simp [List.all_eq_not_any_not], HK.out⟩
theorem closed_any (x : Nat) (s : LS) (id : Int) (F : Nat → Prop) (w : World) (h : LRep w F x s) :
    Calls Try.prog 20 #[.pointer (some ⟨x, 0, none⟩), .int .u32 id] w fun e w' => e = .returned (.bool (s.all id Rw.closed)) ∧ Keep none_ w w' := by
  have HC := Lib.hid (all_any x s id Rw.closed 35 (fun args w => by go_simp) (fun W r hr => closed1_any r hr.mid W) F w h)
  clear h
  refine d_calls (n := 8) Try.func20 rfl rfl (by simp) [(0, .pointer (some ⟨x, 0, none⟩)), (1, .int .u32 id)] (by simp) ?_
  repeat first
    | apply d_seq
    | with_reducible apply kt_normal
    | apply l_nil
    | apply d_region
    | (apply l_off; (focus rfl); (focus rfl))
    | (apply l_val; (focus rfl); (focus rfl); (focus rfl); (focus (go_simp; (try simp (disch := omega) only [wrap_in, wrap_in', wrap_u16, wrap_u8, wrap_u32, wrap_u64, rem_in, quo_in]); first | done | with_reducible rfl | (constructor <;> with_reducible rfl))))
    | (apply l_store; (focus rfl); (focus rfl); (focus rfl); (focus (go_simp; (try simp (disch := omega) only [wrap_in, wrap_in', wrap_u16, wrap_u8, wrap_u32, wrap_u64, rem_in, quo_in]); first | done | with_reducible rfl | (constructor <;> with_reducible rfl))))
    | apply d_block
    | (apply d_true; (focus rfl); (focus rfl))
    | (apply d_false; (focus rfl); (focus rfl))
    | apply d_skip
    | apply d_exit
    | apply d_ret
    | with_reducible apply kt_ret
    | with_reducible apply kt_exit
    | with_reducible apply kb_normal
    | with_reducible apply kb_ret
    | with_reducible apply kb_here
    | with_reducible apply kl_ret
    | with_reducible apply kl_exit
    | with_reducible apply kc_ret
    | with_reducible apply kc_exit
    | (with_reducible apply kb_there; (focus rfl))
  refine l_call rfl rfl rfl (by first | (go_simp; done) | (go_simp; rfl)) (HC.out) ?_
  rintro e w' ⟨rfl, hk⟩
  refine ⟨_, rfl, ?_⟩
  repeat first
    | apply d_seq
    | with_reducible apply kt_normal
    | apply l_nil
    | apply d_region
    | (apply l_off; (focus rfl); (focus rfl))
    | (apply l_val; (focus rfl); (focus rfl); (focus rfl); (focus (go_simp; (try simp (disch := omega) only [wrap_in, wrap_in', wrap_u16, wrap_u8, wrap_u32, wrap_u64, rem_in, quo_in]); first | done | with_reducible rfl | (constructor <;> with_reducible rfl))))
    | (apply l_store; (focus rfl); (focus rfl); (focus rfl); (focus (go_simp; (try simp (disch := omega) only [wrap_in, wrap_in', wrap_u16, wrap_u8, wrap_u32, wrap_u64, rem_in, quo_in]); first | done | with_reducible rfl | (constructor <;> with_reducible rfl))))
    | apply d_block
    | (apply d_true; (focus rfl); (focus rfl))
    | (apply d_false; (focus rfl); (focus rfl))
    | apply d_skip
    | apply d_exit
    | apply d_ret
    | with_reducible apply kt_ret
    | with_reducible apply kt_exit
    | with_reducible apply kb_normal
    | with_reducible apply kb_ret
    | with_reducible apply kb_here
    | with_reducible apply kl_ret
    | with_reducible apply kl_exit
    | with_reducible apply kc_ret
    | with_reducible apply kc_exit
    | (with_reducible apply kb_there; (focus rfl))
  refine ⟨rfl, _, (by first | (simp [resultsG, resOne, Try.results20, rho, List.lookup]; done) | (simp [resultsG, resOne, Try.results20, rho, List.lookup]; rfl)), ?_⟩
  exact ⟨rfl, hk⟩
theorem full_any (x : Nat) (s : LS) (id : Int) (F : Nat → Prop) (w : World) (h : LRep w F x s) :
    Calls Try.prog 22 #[.pointer (some ⟨x, 0, none⟩), .int .u32 id] w fun e w' => e = .returned (.bool (s.all id Rw.full)) ∧ Keep none_ w w' := by
  have HC := Lib.hid (all_any x s id Rw.full 37 (fun args w => by go_simp) (fun W r hr => full1_any r hr.mid W) F w h)
  clear h
  refine d_calls (n := 8) Try.func22 rfl rfl (by simp) [(0, .pointer (some ⟨x, 0, none⟩)), (1, .int .u32 id)] (by simp) ?_
  repeat first
    | apply d_seq
    | with_reducible apply kt_normal
    | apply l_nil
    | apply d_region
    | (apply l_off; (focus rfl); (focus rfl))
    | (apply l_val; (focus rfl); (focus rfl); (focus rfl); (focus (go_simp; (try simp (disch := omega) only [wrap_in, wrap_in', wrap_u16, wrap_u8, wrap_u32, wrap_u64, rem_in, quo_in]); first | done | with_reducible rfl | (constructor <;> with_reducible rfl))))
    | (apply l_store; (focus rfl); (focus rfl); (focus rfl); (focus (go_simp; (try simp (disch := omega) only [wrap_in, wrap_in', wrap_u16, wrap_u8, wrap_u32, wrap_u64, rem_in, quo_in]); first | done | with_reducible rfl | (constructor <;> with_reducible rfl))))
    | apply d_block
    | (apply d_true; (focus rfl); (focus rfl))
    | (apply d_false; (focus rfl); (focus rfl))
    | apply d_skip
    | apply d_exit
    | apply d_ret
    | with_reducible apply kt_ret
    | with_reducible apply kt_exit
    | with_reducible apply kb_normal
    | with_reducible apply kb_ret
    | with_reducible apply kb_here
    | with_reducible apply kl_ret
    | with_reducible apply kl_exit
    | with_reducible apply kc_ret
    | with_reducible apply kc_exit
    | (with_reducible apply kb_there; (focus rfl))
  refine l_call rfl rfl rfl (by first | (go_simp; done) | (go_simp; rfl)) (HC.out) ?_
  rintro e w' ⟨rfl, hk⟩
  refine ⟨_, rfl, ?_⟩
  repeat first
    | apply d_seq
    | with_reducible apply kt_normal
    | apply l_nil
    | apply d_region
    | (apply l_off; (focus rfl); (focus rfl))
    | (apply l_val; (focus rfl); (focus rfl); (focus rfl); (focus (go_simp; (try simp (disch := omega) only [wrap_in, wrap_in', wrap_u16, wrap_u8, wrap_u32, wrap_u64, rem_in, quo_in]); first | done | with_reducible rfl | (constructor <;> with_reducible rfl))))
    | (apply l_store; (focus rfl); (focus rfl); (focus rfl); (focus (go_simp; (try simp (disch := omega) only [wrap_in, wrap_in', wrap_u16, wrap_u8, wrap_u32, wrap_u64, rem_in, quo_in]); first | done | with_reducible rfl | (constructor <;> with_reducible rfl))))
    | apply d_block
    | (apply d_true; (focus rfl); (focus rfl))
    | (apply d_false; (focus rfl); (focus rfl))
    | apply d_skip
    | apply d_exit
    | apply d_ret
    | with_reducible apply kt_ret
    | with_reducible apply kt_exit
    | with_reducible apply kb_normal
    | with_reducible apply kb_ret
    | with_reducible apply kb_here
    | with_reducible apply kl_ret
    | with_reducible apply kl_exit
    | with_reducible apply kc_ret
    | with_reducible apply kc_exit
    | (with_reducible apply kb_there; (focus rfl))
  refine ⟨rfl, _, (by first | (simp [resultsG, resOne, Try.results22, rho, List.lookup]; done) | (simp [resultsG, resOne, Try.results22, rho, List.lookup]; rfl)), ?_⟩
  exact ⟨rfl, hk⟩

/-- Rows: a copy. -/
theorem lRows_any (x : Nat) (s : LS) (id : Int) (F : Nat → Prop) (w : World) (h : LRep w F x s) :
    Calls Try.prog 18 #[.pointer (some ⟨x, 0, none⟩), .int .u32 id] w fun e w' => ∃ v', e = .returned (.tuple #[v', .bool (s.get id).isSome]) ∧ Keep none_ w w' ∧ Own w' (fresh none_ w w') 52 5 v' ((s.get id).getD []).length (rws ((s.get id).getD [])) := by
  obtain ⟨mb, v, c0, -, hlk, hFm, hmb, hv⟩ := h.look id
  have hlk' := hlk w true rfl
  have HC : Hid (Calls Try.prog 32 #[v] w fun e w' => ∃ v', e = .returned v' ∧ Keep none_ w w' ∧ Own w' (fresh none_ w w') 52 5 v' ((s.get id).getD []).length (rws ((s.get id).getD []))) := by
    show Calls _ _ _ _ _
    cases hget : s.get id with
    | none =>
      rw [hget] at hv
      simp only at hv
      subst hv
      exact cloneR _ 0 [] F w (Own.nil w F 52 5).sees (by omega)
    | some rs =>
      rw [hget] at hv
      obtain ⟨ho, -, h8, -⟩ := hv
      exact cloneR v rs.length (rws rs) F w ho.sees (by omega)
  generalize hs : (s.get id).isSome = b at *
  generalize (s.get id).getD [] = rs at *
  simp only [if_true] at hlk'
  clear h hv hlk hs
  refine d_calls (n := 20) Try.func18 rfl rfl (by simp) [(0, .pointer (some ⟨x, 0, none⟩)), (1, .int .u32 id)] (by simp) ?_
  repeat first
    | apply d_seq
    | with_reducible apply kt_normal
    | apply l_nil
    | apply d_region
    | (apply l_off; (focus rfl); (focus rfl))
    | (apply l_val; (focus rfl); (focus rfl); (focus rfl); (focus (go_simp; (try simp (disch := omega) only [wrap_in, wrap_in', wrap_u16, wrap_u8, wrap_u32, wrap_u64, rem_in, quo_in]); first | done | with_reducible rfl | (constructor <;> with_reducible rfl))))
    | (apply l_store; (focus rfl); (focus rfl); (focus rfl); (focus (go_simp; (try simp (disch := omega) only [wrap_in, wrap_in', wrap_u16, wrap_u8, wrap_u32, wrap_u64, rem_in, quo_in]); first | done | with_reducible rfl | (constructor <;> with_reducible rfl))))
    | apply d_block
    | (apply d_true; (focus rfl); (focus rfl))
    | (apply d_false; (focus rfl); (focus rfl))
    | apply d_skip
    | apply d_exit
    | apply d_ret
    | with_reducible apply kt_ret
    | with_reducible apply kt_exit
    | with_reducible apply kb_normal
    | with_reducible apply kb_ret
    | with_reducible apply kb_here
    | with_reducible apply kl_ret
    | with_reducible apply kl_exit
    | with_reducible apply kc_ret
    | with_reducible apply kc_exit
    | (with_reducible apply kb_there; (focus rfl))
  refine l_call rfl rfl rfl (by first | (go_simp; done) | (go_simp; rfl)) (HC.out) ?_
  rintro e w' ⟨v', rfl, hk, ho⟩
  have HK := Lib.hid hk
  have HO := Lib.hid ho
  clear hk ho
  refine ⟨_, rfl, ?_⟩
  repeat first
    | apply d_seq
    | with_reducible apply kt_normal
    | apply l_nil
    | apply d_region
    | (apply l_off; (focus rfl); (focus rfl))
    | (apply l_val; (focus rfl); (focus rfl); (focus rfl); (focus (go_simp; (try simp (disch := omega) only [wrap_in, wrap_in', wrap_u16, wrap_u8, wrap_u32, wrap_u64, rem_in, quo_in]); first | done | with_reducible rfl | (constructor <;> with_reducible rfl))))
    | (apply l_store; (focus rfl); (focus rfl); (focus rfl); (focus (go_simp; (try simp (disch := omega) only [wrap_in, wrap_in', wrap_u16, wrap_u8, wrap_u32, wrap_u64, rem_in, quo_in]); first | done | with_reducible rfl | (constructor <;> with_reducible rfl))))
    | apply d_block
    | (apply d_true; (focus rfl); (focus rfl))
    | (apply d_false; (focus rfl); (focus rfl))
    | apply d_skip
    | apply d_exit
    | apply d_ret
    | with_reducible apply kt_ret
    | with_reducible apply kt_exit
    | with_reducible apply kb_normal
    | with_reducible apply kb_ret
    | with_reducible apply kb_here
    | with_reducible apply kl_ret
    | with_reducible apply kl_exit
    | with_reducible apply kc_ret
    | with_reducible apply kc_exit
    | (with_reducible apply kb_there; (focus rfl))
  refine ⟨rfl, _, (by first | (simp [resultsG, resOne, Try.results18, rho, List.lookup]; done) | (simp [resultsG, resOne, Try.results18, rho, List.lookup]; rfl)), ?_⟩
  exact ⟨v', rfl, HK.out, HO.out⟩
end Go.Proofs.Ytkjcmnhhgnlaeaa
