import Derived.Test.YtbcjmgocdplfnaaIter3
import Derived.Test.YtbcjmgocdplfnaaPushL
import Derived.Test.YtbcjmgocdplfnaaBase3
import Derived.Test.YtbcjmgocdplfnaaCod
namespace Go.Proofs.Ytbcjmgocdplfnaa
set_option linter.unusedVariables false
set_option linter.unusedSimpArgs false
attribute [local go_sem] rho_const rho_func rho_hit rho_miss
open Go.RowKit
/-! Who shows what: of: what each address is (0 free, 1 spare, 2 broken, 3 shows); by: location and address. -/
structure PS where
  of : Nat → Int
  by_ : List (Int × Int)
structure PS.ok (s : PS) : Prop where
  kind : ∀ a, 0 ≤ s.of a ∧ s.of a ≤ 3
  keys : (s.by_.map (·.1)).Nodup
  addrs : (s.by_.map (·.2)).Nodup
  each : ∀ p ∈ s.by_, (0 ≤ p.1 ∧ p.1 < 64) ∧ (1 ≤ p.2 ∧ p.2 ≤ 31) ∧ s.of p.2.toNat = 3
  back : ∀ a : Nat, s.of a = 3 → ∃ p ∈ s.by_, p.2 = (a : Int)
  zero : s.of 0 = 0 ∧ ∀ a, 31 < a → s.of a = 0
def pcells (f : Nat → Int) (mb : Nat) : Array Value := (arr 32 f).push (.map (some mb))
def vals (es : List (Int × Value × Nat)) : List (Int × Value) := es.map fun e => (e.1, e.2.1)
def PRep (w : World) (F : Nat → Prop) (p : Nat) (s : PS) : Prop :=
  F p ∧ s.ok ∧ ∃ mb es clock, F mb ∧ p ≠ mb ∧ w.heap[p]? = some (.cells (pcells s.of mb) 46 (0, 0)) ∧ w.heap[mb]? = some (.map (ents .u16 es) clock) ∧ EGood es clock ∧ vals es = s.by_.map fun q => (q.1, .int .u8 q.2)
theorem PRep.move {w w' : World} {F G : Nat → Prop} {p : Nat} {s : PS} (h : PRep w F p s) (hk : ∀ k, F k → k < w.heap.size → G k ∧ w'.heap[k]? = w.heap[k]?) : PRep w' G p s := by
  obtain ⟨h1, h2, mb, es, clock, h3, h4, h5, h6, h7, h8⟩ := h
  exact ⟨(hk p h1 (lt_of_block h5)).1, h2, mb, es, clock, (hk mb h3 (lt_of_block h6)).1, h4, (hk p h1 (lt_of_block h5)).2.trans h5, (hk mb h3 (lt_of_block h6)).2.trans h6, h7, h8⟩
def PlcA (n p : Nat) (s : PS) : Asrt n := ⟨fun F w => PRep w F p s, fun h _ hk _ => h.move hk⟩
section
variable {w : World} {p mb : Nat} {f : Nat → Int}
theorem pcells_size (f : Nat → Int) (mb : Nat) : (pcells f mb).size = 33 := by simp [pcells, arr]
theorem pcell (h : w.heap[p]? = some (.cells (pcells f mb) 46 (0, 0))) {i : Nat} (hi : i < 32) : w.cell? ⟨p, i, none⟩ = some (.int .i64 (f i)) := by
  simp only [World.cell?, h, pcells]
  rw [Array.getElem?_push_lt (by simpa [arr] using hi)]
  have := arr_get f hi
  rw [Array.getElem?_eq_getElem (by simpa [arr] using hi)] at this
  exact this
theorem pcell_map (h : w.heap[p]? = some (.cells (pcells f mb) 46 (0, 0))) : w.cell? ⟨p, 32, none⟩ = some (.map (some mb)) := by
  simp [World.cell?, h, pcells, arr]
theorem pfrozen (h : w.heap[p]? = some (.cells (pcells f mb) 46 (0, 0))) (i : Nat) : w.frozen? ⟨p, i, none⟩ = false := by simp [World.frozen?, h]
theorem pstore (h : w.heap[p]? = some (.cells (pcells f mb) 46 (0, 0))) {k : Nat} (hk : k < 32) (v : Int) : (w.setCell ⟨p, k, none⟩ (.int .i64 v)).heap[p]? = some (.cells (pcells (upd f k v) mb) 46 (0, 0)) := by
  rw [heap_setCell_same _ _ _ _ _ _ h]
  congr 2
  unfold pcells
  rw [← arr_set f v hk]
  apply Array.ext'
  simp only [Array.toList_setIfInBounds, Array.toList_push]
  rw [List.set_append_left _ _ (by simpa [arr] using hk)]
end
theorem PS.len (s : PS) (h : s.ok) : s.by_.length ≤ 31 := by
  have h1 : (s.by_.map fun q => q.2.toNat).Nodup := by
    have h2 : (s.by_.map (·.2)).Nodup := h.addrs
    rw [List.Nodup, List.pairwise_map] at h2 ⊢
    refine List.Pairwise.imp_of_mem (fun {a b} ha hb hne e => hne ?_) h2
    have := (h.each a ha).2.1
    have := (h.each b hb).2.1
    omega
  have := nodup_len _ (List.range' 1 31) h1 (fun x hx => by
    obtain ⟨q, hq, rfl⟩ := List.mem_map.1 hx
    have := (h.each q hq).2.1
    rw [List.mem_range'_1]
    omega)
  simpa using this
/-! The leaves. -/
def known (a : Int) : Bool := decide (1 ≤ a) && decide (a ≤ 31)
theorem known_any (p : Nat) (a : Int) (w : World) : Calls Try.prog 24 #[.pointer (some ⟨p, 0, none⟩), .int .u8 a] w fun e w' => e = .returned (.bool (known a)) ∧ w' = w := by
  unfold known
  by_cases h1 : 1 ≤ a
  · have q1 : decide (1 ≤ a) = true := decide_eq_true h1
    rw [q1]
    obtain ⟨b, hb⟩ : ∃ b, decide (a ≤ 31) = b := ⟨_, rfl⟩
    refine d_calls (n := 11) Try.func24 rfl rfl (by simp) [(0, .pointer (some ⟨p, 0, none⟩)), (1, .int .u8 a)] (by simp) ?_
    repeat first
      | apply d_seq
      | with_reducible apply kt_normal
      | apply l_nil
      | apply d_region
      | (apply l_off; (focus rfl); (focus rfl))
      | (apply l_val; (focus rfl); (focus rfl); (focus rfl); (focus (go_simp; (try simp (disch := omega) only [wrap_in, wrap_in', wrap_u16, wrap_u8, wrap_u32, wrap_u64, rem_in, quo_in]); first | done | with_reducible rfl | (constructor <;> with_reducible rfl))))
      | (apply l_store; (focus rfl); (focus rfl); (focus rfl); (focus (go_simp; (try simp (disch := omega) only [wrap_in, wrap_in', wrap_u16, wrap_u8, wrap_u32, wrap_u64, rem_in, quo_in]); first | done | with_reducible rfl | (constructor <;> with_reducible rfl))))
      | apply d_block
      | (apply d_true; (focus rfl); (focus rfl))
      | (apply d_false; (focus rfl); (focus rfl))
      | apply d_skip
      | apply d_exit
      | apply d_ret
      | with_reducible apply kt_ret
      | with_reducible apply kt_exit
      | with_reducible apply kb_normal
      | with_reducible apply kb_ret
      | with_reducible apply kb_here
      | with_reducible apply kl_ret
      | with_reducible apply kl_exit
      | with_reducible apply kc_ret
      | with_reducible apply kc_exit
      | (with_reducible apply kb_there; (focus rfl))
    refine ⟨rfl, _, (by first | (simp [resultsG, resOne, Try.results24, rho, List.lookup]; done) | (simp [resultsG, resOne, Try.results24, rho, List.lookup]; rfl)), ?_⟩
    exact ⟨by simp [hb], rfl⟩
  · have q1 : decide (1 ≤ a) = false := decide_eq_false h1
    rw [q1]
    refine d_calls (n := 11) Try.func24 rfl rfl (by simp) [(0, .pointer (some ⟨p, 0, none⟩)), (1, .int .u8 a)] (by simp) ?_
    repeat first
      | apply d_seq
      | with_reducible apply kt_normal
      | apply l_nil
      | apply d_region
      | (apply l_off; (focus rfl); (focus rfl))
      | (apply l_val; (focus rfl); (focus rfl); (focus rfl); (focus (go_simp; (try simp (disch := omega) only [wrap_in, wrap_in', wrap_u16, wrap_u8, wrap_u32, wrap_u64, rem_in, quo_in]); first | done | with_reducible rfl | (constructor <;> with_reducible rfl))))
      | (apply l_store; (focus rfl); (focus rfl); (focus rfl); (focus (go_simp; (try simp (disch := omega) only [wrap_in, wrap_in', wrap_u16, wrap_u8, wrap_u32, wrap_u64, rem_in, quo_in]); first | done | with_reducible rfl | (constructor <;> with_reducible rfl))))
      | apply d_block
      | (apply d_true; (focus rfl); (focus rfl))
      | (apply d_false; (focus rfl); (focus rfl))
      | apply d_skip
      | apply d_exit
      | apply d_ret
      | with_reducible apply kt_ret
      | with_reducible apply kt_exit
      | with_reducible apply kb_normal
      | with_reducible apply kb_ret
      | with_reducible apply kb_here
      | with_reducible apply kl_ret
      | with_reducible apply kl_exit
      | with_reducible apply kc_ret
      | with_reducible apply kc_exit
      | (with_reducible apply kb_there; (focus rfl))
    refine ⟨rfl, _, (by first | (simp [resultsG, resOne, Try.results24, rho, List.lookup]; done) | (simp [resultsG, resOne, Try.results24, rho, List.lookup]; rfl)), ?_⟩
    exact ⟨rfl, rfl⟩
def PS.is (s : PS) (a : Int) : Int := if known a = true then s.of a.toNat else 0
theorem is_any (p : Nat) (s : PS) (a : Int) (F : Nat → Prop) (w : World) (h : PRep w F p s) :
    Calls Try.prog 27 #[.pointer (some ⟨p, 0, none⟩), .int .u8 a] w fun e w' => e = .returned (.int .i64 (s.is a)) ∧ w' = w := by
  obtain ⟨-, -, mb, -, -, -, -, h5, -⟩ := h
  have hk := known_any p a w
  unfold PS.is
  cases hb : known a with
  | false =>
    rw [hb] at hk
    have HK := Lib.hid hk
    clear hk
    refine d_calls (n := 15) Try.func27 rfl rfl (by simp) [(0, .pointer (some ⟨p, 0, none⟩)), (1, .int .u8 a)] (by simp) ?_
    repeat first
      | apply d_seq
      | with_reducible apply kt_normal
      | apply l_nil
      | apply d_region
      | (apply l_off; (focus rfl); (focus rfl))
      | (apply l_val; (focus rfl); (focus rfl); (focus rfl); (focus (go_simp; (try simp (disch := omega) only [wrap_in, wrap_in', wrap_u16, wrap_u8, wrap_u32, wrap_u64, rem_in, quo_in]); first | done | with_reducible rfl | (constructor <;> with_reducible rfl))))
      | (apply l_store; (focus rfl); (focus rfl); (focus rfl); (focus (go_simp; (try simp (disch := omega) only [wrap_in, wrap_in', wrap_u16, wrap_u8, wrap_u32, wrap_u64, rem_in, quo_in]); first | done | with_reducible rfl | (constructor <;> with_reducible rfl))))
      | apply d_block
      | (apply d_true; (focus rfl); (focus rfl))
      | (apply d_false; (focus rfl); (focus rfl))
      | apply d_skip
      | apply d_exit
      | apply d_ret
      | with_reducible apply kt_ret
      | with_reducible apply kt_exit
      | with_reducible apply kb_normal
      | with_reducible apply kb_ret
      | with_reducible apply kb_here
      | with_reducible apply kl_ret
      | with_reducible apply kl_exit
      | with_reducible apply kc_ret
      | with_reducible apply kc_exit
      | (with_reducible apply kb_there; (focus rfl))
    refine l_call rfl rfl rfl (by first | (go_simp; done) | (go_simp; rfl)) (HK.out) ?_
    rintro e w' ⟨rfl, rfl⟩
    refine ⟨_, rfl, ?_⟩
    repeat first
      | apply d_seq
      | with_reducible apply kt_normal
      | apply l_nil
      | apply d_region
      | (apply l_off; (focus rfl); (focus rfl))
      | (apply l_val; (focus rfl); (focus rfl); (focus rfl); (focus (go_simp; (try simp (disch := omega) only [wrap_in, wrap_in', wrap_u16, wrap_u8, wrap_u32, wrap_u64, rem_in, quo_in]); first | done | with_reducible rfl | (constructor <;> with_reducible rfl))))
      | (apply l_store; (focus rfl); (focus rfl); (focus rfl); (focus (go_simp; (try simp (disch := omega) only [wrap_in, wrap_in', wrap_u16, wrap_u8, wrap_u32, wrap_u64, rem_in, quo_in]); first | done | with_reducible rfl | (constructor <;> with_reducible rfl))))
      | apply d_block
      | (apply d_true; (focus rfl); (focus rfl))
      | (apply d_false; (focus rfl); (focus rfl))
      | apply d_skip
      | apply d_exit
      | apply d_ret
      | with_reducible apply kt_ret
      | with_reducible apply kt_exit
      | with_reducible apply kb_normal
      | with_reducible apply kb_ret
      | with_reducible apply kb_here
      | with_reducible apply kl_ret
      | with_reducible apply kl_exit
      | with_reducible apply kc_ret
      | with_reducible apply kc_exit
      | (with_reducible apply kb_there; (focus rfl))
    refine ⟨rfl, _, (by first | (simp [resultsG, resOne, Try.results27, rho, List.lookup]; done) | (simp [resultsG, resOne, Try.results27, rho, List.lookup]; rfl)), ?_⟩
    exact ⟨rfl, rfl⟩
  | true =>
    rw [hb] at hk
    have hr : 1 ≤ a ∧ a ≤ 31 := by unfold known at hb; simpa using hb
    obtain ⟨n, rfl⟩ : ∃ n : Nat, a = n := ⟨a.toNat, by omega⟩
    have hn : n < 32 := by omega
    have c0 := pcell h5 hn
    have hn' : (n : Int) < 32 := by omega
    rw [Int.toNat_natCast]
    have HK := Lib.hid hk
    clear hk
    clear h5 hb hr
    refine d_calls (n := 15) Try.func27 rfl rfl (by simp) [(0, .pointer (some ⟨p, 0, none⟩)), (1, .int .u8 n)] (by simp) ?_
    repeat first
      | apply d_seq
      | with_reducible apply kt_normal
      | apply l_nil
      | apply d_region
      | (apply l_off; (focus rfl); (focus rfl))
      | (apply l_val; (focus rfl); (focus rfl); (focus rfl); (focus (go_simp; (try simp (disch := omega) only [wrap_in, wrap_in', wrap_u16, wrap_u8, wrap_u32, wrap_u64, rem_in, quo_in]); first | done | with_reducible rfl | (constructor <;> with_reducible rfl))))
      | (apply l_store; (focus rfl); (focus rfl); (focus rfl); (focus (go_simp; (try simp (disch := omega) only [wrap_in, wrap_in', wrap_u16, wrap_u8, wrap_u32, wrap_u64, rem_in, quo_in]); first | done | with_reducible rfl | (constructor <;> with_reducible rfl))))
      | apply d_block
      | (apply d_true; (focus rfl); (focus rfl))
      | (apply d_false; (focus rfl); (focus rfl))
      | apply d_skip
      | apply d_exit
      | apply d_ret
      | with_reducible apply kt_ret
      | with_reducible apply kt_exit
      | with_reducible apply kb_normal
      | with_reducible apply kb_ret
      | with_reducible apply kb_here
      | with_reducible apply kl_ret
      | with_reducible apply kl_exit
      | with_reducible apply kc_ret
      | with_reducible apply kc_exit
      | (with_reducible apply kb_there; (focus rfl))
    refine l_call rfl rfl rfl (by first | (go_simp; done) | (go_simp; rfl)) (HK.out) ?_
    rintro e w' ⟨rfl, rfl⟩
    refine ⟨_, rfl, ?_⟩
    repeat first
      | apply d_seq
      | with_reducible apply kt_normal
      | apply l_nil
      | apply d_region
      | (apply l_off; (focus rfl); (focus rfl))
      | (apply l_val; (focus rfl); (focus rfl); (focus rfl); (focus (go_simp; (try simp (disch := omega) only [wrap_in, wrap_in', wrap_u16, wrap_u8, wrap_u32, wrap_u64, rem_in, quo_in]); first | done | with_reducible rfl | (constructor <;> with_reducible rfl))))
      | (apply l_store; (focus rfl); (focus rfl); (focus rfl); (focus (go_simp; (try simp (disch := omega) only [wrap_in, wrap_in', wrap_u16, wrap_u8, wrap_u32, wrap_u64, rem_in, quo_in]); first | done | with_reducible rfl | (constructor <;> with_reducible rfl))))
      | apply d_block
      | (apply d_true; (focus rfl); (focus rfl))
      | (apply d_false; (focus rfl); (focus rfl))
      | apply d_skip
      | apply d_exit
      | apply d_ret
      | with_reducible apply kt_ret
      | with_reducible apply kt_exit
      | with_reducible apply kb_normal
      | with_reducible apply kb_ret
      | with_reducible apply kb_here
      | with_reducible apply kl_ret
      | with_reducible apply kl_exit
      | with_reducible apply kc_ret
      | with_reducible apply kc_exit
      | (with_reducible apply kb_there; (focus rfl))
    refine ⟨rfl, _, (by first | (simp [resultsG, resOne, Try.results27, rho, List.lookup]; done) | (simp [resultsG, resOne, Try.results27, rho, List.lookup]; rfl)), ?_⟩
    exact ⟨rfl, rfl⟩
end Go.Proofs.Ytbcjmgocdplfnaa
