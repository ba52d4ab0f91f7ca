import Derived.Test.YtbcjmgocdplfnaaPlcR1
namespace Go.Proofs.Ytbcjmgocdplfnaa
set_option linter.unusedVariables false
set_option linter.unusedSimpArgs false
attribute [local go_sem] rho_const rho_func rho_hit rho_miss
open Go.RowKit
attribute [local go_sem] min2_mn min_two' max2_mx max_two'
/-! The document's places: rows. -/
def shc (q : Int × Int) : List Value := [.int .u16 q.1, .int .u8 q.2]
theorem shc_len (q : Int × Int) : (shc q).length = 2 := rfl
def rparts (p : Nat) (s : PS) (Lv Sv Bv : Value) : List (Asrt 0) := [BlkA 0 p #[Lv, Sv, Bv] 54, OwnA 0 56 2 Lv s.pairs.length (s.pairs.flatMap shc), SeesA 0 1 Sv s.spares.length (ints .u8 s.spares), SeesA 0 1 Bv s.brok.length (ints .u8 s.brok)]
def RPRep (w : World) (F : Nat → Prop) (p : Nat) (s : PS) : Prop := s.ok ∧ ∃ Lv Sv Bv, Parts F w (rparts p s Lv Sv Bv)
theorem RPRep.move {w w' : World} {F G : Nat → Prop} {p : Nat} {s : PS} (h : RPRep w F p s) (hs : w.heap.size ≤ w'.heap.size) (hk : ∀ k, F k → k < w.heap.size → G k ∧ w'.heap[k]? = w.heap[k]?) : RPRep w' G p s := by
  obtain ⟨h1, Lv, Sv, Bv, h2⟩ := h
  exact ⟨h1, Lv, Sv, Bv, h2.move hs hk⟩
def RPlcA (n p : Nat) (s : PS) : Asrt n := ⟨fun F w => RPRep w F p s, fun h hs hk _ => h.move hs hk⟩
theorem find_first {α : Type} {l : List α} {p : α → Bool} {k : Nat} {y : α} (hy : l[k]? = some y) (he : p y = true) (hx : ∀ z ∈ l.take k, p z = false) : l.find? p = some y := by
  have hk := List.getElem?_eq_some_iff.1 hy
  rw [List.find?_eq_some_iff_append]
  refine ⟨he, l.take k, l.drop (k + 1), ?_, fun z hz => by simpa using hx z hz⟩
  rw [← hk.2, ← List.drop_eq_getElem_cons hk.1, List.take_append_drop]
theorem sees_sh {w : World} {F : Nat → Prop} {A : Option Addr} {n c : Nat} {l : List (Int × Int)} (h : SeesIn w F 2 (.slice A n c) n (l.flatMap shc)) (hn : n = l.length) {k : Nat} {y : Int × Int} (hy : l[k]? = some y) : ∃ g o, A = some ⟨g, o, none⟩ ∧ n ≤ c ∧ c ≤ 9223372036854775807 ∧
    w.cell? ⟨g, o + k * 2, none⟩ = some (.int .u16 y.1) ∧ w.cell? ⟨g, o + k * 2 + 1, none⟩ = some (.int .u8 y.2) := by
  obtain ⟨g, o, c', e, h1, h2, hF, hg, hc⟩ := sees_get (enc := shc) shc_len h hn hy
  simp only [Value.slice.injEq, true_and] at e
  obtain ⟨rfl, rfl⟩ := e
  exact ⟨g, o, rfl, h1, by unfold maxLen at h2; omega, hc 0 _ rfl, by rw [Nat.add_assoc]; exact hc 1 _ rfl⟩
theorem rAt_any (p : Nat) (s : PS) (loc : Int) (F : Nat → Prop) (w : World) (h : RPRep w F p s) :
    Calls Try.prog 19 #[.pointer (some ⟨p, 0, none⟩), .int .u16 loc] w fun e w' => e = .returned (ansV .u8 (s.at? loc)) ∧ w' = w := by
  obtain ⟨hok, Lv, Sv, Bv, hp⟩ := h
  have hx := HasF.start hp
  obtain ⟨c0, -⟩ := blk3 (hx.blk (i := 0) rfl)
  obtain ⟨G, hs, A, c, rfl, hb1, hb2⟩ := hx.own (i := 1) rfl
  have hat := pairs_at hok loc
  generalize s.pairs = l at *
  have HS := Lib.hid hs
  have HAT := Lib.hid hat
  clear hs hat
  clear hx hp
  refine d_calls (n := 34) Try.func19 rfl rfl (by simp) [(0, .pointer (some ⟨p, 0, none⟩)), (1, .int .u16 loc)] (by simp) ?_
  repeat first
    | apply d_seq
    | with_reducible apply kt_normal
    | apply l_nil
    | apply d_region
    | (apply l_off; (focus rfl); (focus rfl))
    | (apply l_val; (focus rfl); (focus rfl); (focus rfl); (focus (go_simp; (try simp (disch := omega) only [wrap_in, wrap_in', wrap_u16, wrap_u8, wrap_u32, wrap_u64, rem_in, quo_in]); first | done | with_reducible rfl | (constructor <;> with_reducible rfl))))
    | (apply l_store; (focus rfl); (focus rfl); (focus rfl); (focus (go_simp; (try simp (disch := omega) only [wrap_in, wrap_in', wrap_u16, wrap_u8, wrap_u32, wrap_u64, rem_in, quo_in]); first | done | with_reducible rfl | (constructor <;> with_reducible rfl))))
    | apply d_block
    | (apply d_true; (focus rfl); (focus rfl))
    | (apply d_false; (focus rfl); (focus rfl))
    | apply d_skip
    | apply d_exit
    | apply d_ret
    | with_reducible apply kt_ret
    | with_reducible apply kt_exit
    | with_reducible apply kb_normal
    | with_reducible apply kb_ret
    | with_reducible apply kb_here
    | with_reducible apply kl_ret
    | with_reducible apply kl_exit
    | with_reducible apply kc_ret
    | with_reducible apply kc_exit
    | (with_reducible apply kb_there; (focus rfl))
  refine d_loop (fun m D wr => ∃ (k : Nat), m = l.length - k ∧ k ≤ l.length ∧ D = [(0, .pointer (some ⟨p, 0, none⟩)), (1, .int .u16 loc), (6, .int .i64 k)] ∧ wr = w ∧ Hid (∀ z ∈ l.take k, (z.1 == loc) = false)) (l.length) _ (Subl.cons (t := 0) (by decide) rfl (Subl.cons (t := 1) (by decide) rfl (Subl.cons (t := 6) (by decide) rfl (Subl.nil _ _)))) ?_ (fun m D wr hrel => ?_)
  · exact ⟨0, rfl, Nat.zero_le _, rfl, rfl, Lib.hid (by simp)⟩
  · obtain ⟨k, rfl, hk, rfl, rfl, HK⟩ := hrel
    by_cases hlt : k < l.length
    · obtain ⟨y, hy⟩ : ∃ y, l[k]? = some y := ⟨_, List.getElem?_eq_getElem hlt⟩
      obtain ⟨g, o, rfl, -, -, d0, d1⟩ := sees_sh HS.out rfl hy
      obtain ⟨b, hb⟩ : ∃ b, (y.1 == loc) = b := ⟨_, rfl⟩
      have HB := Lib.hid hb
      have HY := Lib.hid hy
      clear hy
      cases b with
      | false =>
        repeat first
          | apply d_seq
          | with_reducible apply kt_normal
          | apply l_nil
          | apply d_region
          | (apply l_off; (focus rfl); (focus rfl))
          | (apply l_val; (focus rfl); (focus rfl); (focus rfl); (focus (go_simp; (try simp (disch := omega) only [wrap_in, wrap_in', wrap_u16, wrap_u8, wrap_u32, wrap_u64, rem_in, quo_in]); first | done | with_reducible rfl | (constructor <;> with_reducible rfl))))
          | (apply l_store; (focus rfl); (focus rfl); (focus rfl); (focus (go_simp; (try simp (disch := omega) only [wrap_in, wrap_in', wrap_u16, wrap_u8, wrap_u32, wrap_u64, rem_in, quo_in]); first | done | with_reducible rfl | (constructor <;> with_reducible rfl))))
          | apply d_block
          | (apply d_true; (focus rfl); (focus rfl))
          | (apply d_false; (focus rfl); (focus rfl))
          | apply d_skip
          | apply d_exit
          | apply d_ret
          | with_reducible apply kt_ret
          | with_reducible apply kt_exit
          | with_reducible apply kb_normal
          | with_reducible apply kb_ret
          | with_reducible apply kb_here
          | with_reducible apply kl_ret
          | with_reducible apply kl_exit
          | with_reducible apply kc_ret
          | with_reducible apply kc_exit
          | (with_reducible apply kb_there; (focus rfl))
        refine kl_normal (l.length - (k + 1)) _ (by omega) (Subl.cons (t := 0) (by decide) rfl (Subl.cons (t := 1) (by decide) rfl (Subl.cons (t := 6) (by decide) rfl (Subl.nil _ _)))) ?_
        exact ⟨k + 1, rfl, by omega, rfl, rfl, Lib.hid (take_snoc_all HY.out HB.out HK.out)⟩
      | true =>
        repeat first
          | apply d_seq
          | with_reducible apply kt_normal
          | apply l_nil
          | apply d_region
          | (apply l_off; (focus rfl); (focus rfl))
          | (apply l_val; (focus rfl); (focus rfl); (focus rfl); (focus (go_simp; (try simp (disch := omega) only [wrap_in, wrap_in', wrap_u16, wrap_u8, wrap_u32, wrap_u64, rem_in, quo_in]); first | done | with_reducible rfl | (constructor <;> with_reducible rfl))))
          | (apply l_store; (focus rfl); (focus rfl); (focus rfl); (focus (go_simp; (try simp (disch := omega) only [wrap_in, wrap_in', wrap_u16, wrap_u8, wrap_u32, wrap_u64, rem_in, quo_in]); first | done | with_reducible rfl | (constructor <;> with_reducible rfl))))
          | apply d_block
          | (apply d_true; (focus rfl); (focus rfl))
          | (apply d_false; (focus rfl); (focus rfl))
          | apply d_skip
          | apply d_exit
          | apply d_ret
          | with_reducible apply kt_ret
          | with_reducible apply kt_exit
          | with_reducible apply kb_normal
          | with_reducible apply kb_ret
          | with_reducible apply kb_here
          | with_reducible apply kl_ret
          | with_reducible apply kl_exit
          | with_reducible apply kc_ret
          | with_reducible apply kc_exit
          | (with_reducible apply kb_there; (focus rfl))
        refine ⟨rfl, _, (by first | (simp [resultsG, resOne, Try.results19, rho, List.lookup]; done) | (simp [resultsG, resOne, Try.results19, rho, List.lookup]; rfl)), ?_⟩
        rw [← HAT.out, find_first HY.out HB.out HK.out]
        exact ⟨rfl, rfl⟩
    · have hk' : k = l.length := by omega
      subst hk'
      repeat first
        | apply d_seq
        | with_reducible apply kt_normal
        | apply l_nil
        | apply d_region
        | (apply l_off; (focus rfl); (focus rfl))
        | (apply l_val; (focus rfl); (focus rfl); (focus rfl); (focus (go_simp; (try simp (disch := omega) only [wrap_in, wrap_in', wrap_u16, wrap_u8, wrap_u32, wrap_u64, rem_in, quo_in]); first | done | with_reducible rfl | (constructor <;> with_reducible rfl))))
        | (apply l_store; (focus rfl); (focus rfl); (focus rfl); (focus (go_simp; (try simp (disch := omega) only [wrap_in, wrap_in', wrap_u16, wrap_u8, wrap_u32, wrap_u64, rem_in, quo_in]); first | done | with_reducible rfl | (constructor <;> with_reducible rfl))))
        | apply d_block
        | (apply d_true; (focus rfl); (focus rfl))
        | (apply d_false; (focus rfl); (focus rfl))
        | apply d_skip
        | apply d_exit
        | apply d_ret
        | with_reducible apply kt_ret
        | with_reducible apply kt_exit
        | with_reducible apply kb_normal
        | with_reducible apply kb_ret
        | with_reducible apply kb_here
        | with_reducible apply kl_ret
        | with_reducible apply kl_exit
        | with_reducible apply kc_ret
        | with_reducible apply kc_exit
        | (with_reducible apply kb_there; (focus rfl))
      refine ⟨rfl, _, (by first | (simp [resultsG, resOne, Try.results19, rho, List.lookup]; done) | (simp [resultsG, resOne, Try.results19, rho, List.lookup]; rfl)), ?_⟩
      have := HK.out
      rw [List.take_length] at this
      rw [← HAT.out, List.find?_eq_none.2 (fun z hz => by simpa using this z hz)]
      exact ⟨rfl, rfl⟩
theorem rOf_any (p : Nat) (s : PS) (a : Int) (F : Nat → Prop) (w : World) (h : RPRep w F p s) :
    Calls Try.prog 21 #[.pointer (some ⟨p, 0, none⟩), .int .u8 a] w fun e w' => e = .returned (ansV .u16 (s.of? a)) ∧ w' = w := by
  obtain ⟨hok, Lv, Sv, Bv, hp⟩ := h
  have hx := HasF.start hp
  obtain ⟨c0, -⟩ := blk3 (hx.blk (i := 0) rfl)
  obtain ⟨G, hs, A, c, rfl, hb1, hb2⟩ := hx.own (i := 1) rfl
  have hat := pairs_of hok a
  generalize s.pairs = l at *
  have HS := Lib.hid hs
  have HAT := Lib.hid hat
  clear hs hat
  clear hx hp
  refine d_calls (n := 34) Try.func21 rfl rfl (by simp) [(0, .pointer (some ⟨p, 0, none⟩)), (1, .int .u8 a)] (by simp) ?_
  repeat first
    | apply d_seq
    | with_reducible apply kt_normal
    | apply l_nil
    | apply d_region
    | (apply l_off; (focus rfl); (focus rfl))
    | (apply l_val; (focus rfl); (focus rfl); (focus rfl); (focus (go_simp; (try simp (disch := omega) only [wrap_in, wrap_in', wrap_u16, wrap_u8, wrap_u32, wrap_u64, rem_in, quo_in]); first | done | with_reducible rfl | (constructor <;> with_reducible rfl))))
    | (apply l_store; (focus rfl); (focus rfl); (focus rfl); (focus (go_simp; (try simp (disch := omega) only [wrap_in, wrap_in', wrap_u16, wrap_u8, wrap_u32, wrap_u64, rem_in, quo_in]); first | done | with_reducible rfl | (constructor <;> with_reducible rfl))))
    | apply d_block
    | (apply d_true; (focus rfl); (focus rfl))
    | (apply d_false; (focus rfl); (focus rfl))
    | apply d_skip
    | apply d_exit
    | apply d_ret
    | with_reducible apply kt_ret
    | with_reducible apply kt_exit
    | with_reducible apply kb_normal
    | with_reducible apply kb_ret
    | with_reducible apply kb_here
    | with_reducible apply kl_ret
    | with_reducible apply kl_exit
    | with_reducible apply kc_ret
    | with_reducible apply kc_exit
    | (with_reducible apply kb_there; (focus rfl))
  refine d_loop (fun m D wr => ∃ (k : Nat), m = l.length - k ∧ k ≤ l.length ∧ D = [(0, .pointer (some ⟨p, 0, none⟩)), (1, .int .u8 a), (6, .int .i64 k)] ∧ wr = w ∧ Hid (∀ z ∈ l.take k, (z.2 == a) = false)) (l.length) _ (Subl.cons (t := 0) (by decide) rfl (Subl.cons (t := 1) (by decide) rfl (Subl.cons (t := 6) (by decide) rfl (Subl.nil _ _)))) ?_ (fun m D wr hrel => ?_)
  · exact ⟨0, rfl, Nat.zero_le _, rfl, rfl, Lib.hid (by simp)⟩
  · obtain ⟨k, rfl, hk, rfl, rfl, HK⟩ := hrel
    by_cases hlt : k < l.length
    · obtain ⟨y, hy⟩ : ∃ y, l[k]? = some y := ⟨_, List.getElem?_eq_getElem hlt⟩
      obtain ⟨g, o, rfl, -, -, d0, d1⟩ := sees_sh HS.out rfl hy
      obtain ⟨b, hb⟩ : ∃ b, (y.2 == a) = b := ⟨_, rfl⟩
      have HB := Lib.hid hb
      have HY := Lib.hid hy
      clear hy
      cases b with
      | false =>
        repeat first
          | apply d_seq
          | with_reducible apply kt_normal
          | apply l_nil
          | apply d_region
          | (apply l_off; (focus rfl); (focus rfl))
          | (apply l_val; (focus rfl); (focus rfl); (focus rfl); (focus (go_simp; (try simp (disch := omega) only [wrap_in, wrap_in', wrap_u16, wrap_u8, wrap_u32, wrap_u64, rem_in, quo_in]); first | done | with_reducible rfl | (constructor <;> with_reducible rfl))))
          | (apply l_store; (focus rfl); (focus rfl); (focus rfl); (focus (go_simp; (try simp (disch := omega) only [wrap_in, wrap_in', wrap_u16, wrap_u8, wrap_u32, wrap_u64, rem_in, quo_in]); first | done | with_reducible rfl | (constructor <;> with_reducible rfl))))
          | apply d_block
          | (apply d_true; (focus rfl); (focus rfl))
          | (apply d_false; (focus rfl); (focus rfl))
          | apply d_skip
          | apply d_exit
          | apply d_ret
          | with_reducible apply kt_ret
          | with_reducible apply kt_exit
          | with_reducible apply kb_normal
          | with_reducible apply kb_ret
          | with_reducible apply kb_here
          | with_reducible apply kl_ret
          | with_reducible apply kl_exit
          | with_reducible apply kc_ret
          | with_reducible apply kc_exit
          | (with_reducible apply kb_there; (focus rfl))
        refine kl_normal (l.length - (k + 1)) _ (by omega) (Subl.cons (t := 0) (by decide) rfl (Subl.cons (t := 1) (by decide) rfl (Subl.cons (t := 6) (by decide) rfl (Subl.nil _ _)))) ?_
        exact ⟨k + 1, rfl, by omega, rfl, rfl, Lib.hid (take_snoc_all HY.out HB.out HK.out)⟩
      | true =>
        repeat first
          | apply d_seq
          | with_reducible apply kt_normal
          | apply l_nil
          | apply d_region
          | (apply l_off; (focus rfl); (focus rfl))
          | (apply l_val; (focus rfl); (focus rfl); (focus rfl); (focus (go_simp; (try simp (disch := omega) only [wrap_in, wrap_in', wrap_u16, wrap_u8, wrap_u32, wrap_u64, rem_in, quo_in]); first | done | with_reducible rfl | (constructor <;> with_reducible rfl))))
          | (apply l_store; (focus rfl); (focus rfl); (focus rfl); (focus (go_simp; (try simp (disch := omega) only [wrap_in, wrap_in', wrap_u16, wrap_u8, wrap_u32, wrap_u64, rem_in, quo_in]); first | done | with_reducible rfl | (constructor <;> with_reducible rfl))))
          | apply d_block
          | (apply d_true; (focus rfl); (focus rfl))
          | (apply d_false; (focus rfl); (focus rfl))
          | apply d_skip
          | apply d_exit
          | apply d_ret
          | with_reducible apply kt_ret
          | with_reducible apply kt_exit
          | with_reducible apply kb_normal
          | with_reducible apply kb_ret
          | with_reducible apply kb_here
          | with_reducible apply kl_ret
          | with_reducible apply kl_exit
          | with_reducible apply kc_ret
          | with_reducible apply kc_exit
          | (with_reducible apply kb_there; (focus rfl))
        refine ⟨rfl, _, (by first | (simp [resultsG, resOne, Try.results21, rho, List.lookup]; done) | (simp [resultsG, resOne, Try.results21, rho, List.lookup]; rfl)), ?_⟩
        rw [← HAT.out, find_first HY.out HB.out HK.out]
        exact ⟨rfl, rfl⟩
    · have hk' : k = l.length := by omega
      subst hk'
      repeat first
        | apply d_seq
        | with_reducible apply kt_normal
        | apply l_nil
        | apply d_region
        | (apply l_off; (focus rfl); (focus rfl))
        | (apply l_val; (focus rfl); (focus rfl); (focus rfl); (focus (go_simp; (try simp (disch := omega) only [wrap_in, wrap_in', wrap_u16, wrap_u8, wrap_u32, wrap_u64, rem_in, quo_in]); first | done | with_reducible rfl | (constructor <;> with_reducible rfl))))
        | (apply l_store; (focus rfl); (focus rfl); (focus rfl); (focus (go_simp; (try simp (disch := omega) only [wrap_in, wrap_in', wrap_u16, wrap_u8, wrap_u32, wrap_u64, rem_in, quo_in]); first | done | with_reducible rfl | (constructor <;> with_reducible rfl))))
        | apply d_block
        | (apply d_true; (focus rfl); (focus rfl))
        | (apply d_false; (focus rfl); (focus rfl))
        | apply d_skip
        | apply d_exit
        | apply d_ret
        | with_reducible apply kt_ret
        | with_reducible apply kt_exit
        | with_reducible apply kb_normal
        | with_reducible apply kb_ret
        | with_reducible apply kb_here
        | with_reducible apply kl_ret
        | with_reducible apply kl_exit
        | with_reducible apply kc_ret
        | with_reducible apply kc_exit
        | (with_reducible apply kb_there; (focus rfl))
      refine ⟨rfl, _, (by first | (simp [resultsG, resOne, Try.results21, rho, List.lookup]; done) | (simp [resultsG, resOne, Try.results21, rho, List.lookup]; rfl)), ?_⟩
      have := HK.out
      rw [List.take_length] at this
      rw [← HAT.out, List.find?_eq_none.2 (fun z hz => by simpa using this z hz)]
      exact ⟨rfl, rfl⟩
/-! New. -/
theorem new_pairs (l : List Int) : (PS.new l).pairs = [] := by simp [PS.pairs, PS.locs, PS.new]
theorem new_brok (l : List Int) : (PS.new l).brok = [] := by
  rw [List.eq_nil_iff_forall_not_mem]
  intro x hx
  have := ((PS.mem_brok (PS.ok_new l)).1 hx).2
  have h2 := (kinds0_val l x.toNat).1
  have : kinds0 l x.toNat = 2 := this
  omega
theorem new_step (l : List Int) (x : Int) : (PS.new (l ++ [x])).spares = if known x = true ∧ rhas (PS.new l).spares x = false then wth (PS.new l).spares x else (PS.new l).spares := by
  have hof : (PS.new (l ++ [x])).of = if known x = true then upd (PS.new l).of x.toNat 1 else (PS.new l).of := kinds0_snoc l x
  by_cases hk : known x = true
  · rw [if_pos hk] at hof
    have hx := known_iff.1 hk
    have hm : ∀ y, ((1 ≤ y ∧ y ≤ 31) ∧ (PS.new (l ++ [x])).of y.toNat = 1) ↔ (y = x ∨ y ∈ (PS.new l).spares) := fun y => by
      rw [PS.mem_spares (PS.ok_new l), hof]
      constructor
      · rintro ⟨h1, h2⟩
        rcases (upd_iff _ x y 1 1 hx.1 h1.1).1 h2 with c | c
        · exact .inl c.1
        · exact .inr ⟨h1, c.2⟩
      · rintro (rfl | ⟨h1, h2⟩)
        · exact ⟨hx, (upd_iff _ y y 1 1 hx.1 hx.1).2 (.inl ⟨rfl, rfl⟩)⟩
        · refine ⟨h1, (upd_iff _ x y 1 1 hx.1 h1.1).2 ?_⟩
          by_cases c : y = x
          · exact .inl ⟨c, rfl⟩
          · exact .inr ⟨c, h2⟩
    by_cases hr : rhas (PS.new l).spares x = true
    · rw [if_neg (by rw [hr]; simp)]
      rw [rhas_iff, decide_eq_true_eq] at hr
      refine spares_eq (PS.ok_new _) (PS.spares_sorted _) (fun y => ?_)
      rw [hm]
      constructor
      · exact .inr
      · rintro (rfl | h)
        · exact hr
        · exact h
    · have hr' : rhas (PS.new l).spares x = false := by simpa using hr
      rw [if_pos ⟨hk, hr'⟩]
      rw [rhas_iff, decide_eq_false_iff_not] at hr'
      refine spares_eq (PS.ok_new _) (wth_sorted (PS.spares_sorted _) hr') (fun y => ?_)
      rw [hm, mem_wth]
  · rw [if_neg hk] at hof
    rw [if_neg (fun c => hk c.1)]
    unfold PS.spares
    rw [hof]
theorem spares_short (s : PS) : s.spares.length ≤ 32 := by unfold PS.spares; rw [List.length_map]; exact Nat.le_trans (List.length_filter_le _ _) (by simp)
theorem brok_short (s : PS) : s.brok.length ≤ 32 := by unfold PS.brok; rw [List.length_map]; exact Nat.le_trans (List.length_filter_le _ _) (by simp)
set_option maxRecDepth 100000 in
set_option maxHeartbeats 2000000 in
theorem rNew_any (w : World) (F0 : Nat → Prop) (A : Option Addr) (n c : Nat) (l : List Int) (h : SeesIn w F0 1 (.slice A n c) n (ints .u8 l)) (hn : n = l.length) (hl : n ≤ 100) :
    Calls Try.prog 11 #[.slice A n c] w fun e w' => ∃ p, e = .returned (.pointer (some ⟨p, 0, none⟩)) ∧ Keep none_ w w' ∧ RPRep w' (fresh none_ w w') p (PS.new l) := by
  subst hn
  obtain ⟨A', c', e0, hb1, hb2, hb3, -⟩ := h.form
  simp only [Value.slice.injEq, true_and] at e0
  obtain ⟨rfl, rfl⟩ := e0
  have HX := Lib.hid (((HasF.nil (Keep.refl none_ w)).box #[.slice none 0 0, .slice none 0 0, .slice none 0 0] 54).nilSees 1)
  have HS := Lib.hid h
  clear h
  refine d_calls (n := 52) Try.func11 rfl rfl (by simp) [(0, .slice A l.length c)] (by simp) ?_
  repeat first
    | apply d_seq
    | with_reducible apply kt_normal
    | apply l_nil
    | apply d_region
    | (apply l_off; (focus rfl); (focus rfl))
    | (apply l_val; (focus rfl); (focus rfl); (focus rfl); (focus (go_simp; (try simp (disch := omega) only [wrap_in, wrap_in', wrap_u16, wrap_u8, wrap_u32, wrap_u64, rem_in, quo_in]); first | done | with_reducible rfl | (constructor <;> with_reducible rfl))))
    | (apply l_store; (focus rfl); (focus rfl); (focus rfl); (focus (go_simp; (try simp (disch := omega) only [wrap_in, wrap_in', wrap_u16, wrap_u8, wrap_u32, wrap_u64, rem_in, quo_in]); first | done | with_reducible rfl | (constructor <;> with_reducible rfl))))
    | apply d_block
    | (apply d_true; (focus rfl); (focus rfl))
    | (apply d_false; (focus rfl); (focus rfl))
    | apply d_skip
    | apply d_exit
    | apply d_ret
    | with_reducible apply kt_ret
    | with_reducible apply kt_exit
    | with_reducible apply kb_normal
    | with_reducible apply kb_ret
    | with_reducible apply kb_here
    | with_reducible apply kl_ret
    | with_reducible apply kl_exit
    | with_reducible apply kc_ret
    | with_reducible apply kc_exit
    | (with_reducible apply kb_there; (focus rfl))
  refine d_loop (fun m D wr => ∃ (k : Nat) (Sv : Value), m = l.length - k ∧ k ≤ l.length ∧ D = [(0, .slice A l.length c), (3, .pointer (some ⟨w.heap.size, 0, none⟩)), (4, .int .i64 k)] ∧ Hid (HasF none_ w wr [BlkA 0 w.heap.size #[.slice none 0 0, Sv, .slice none 0 0] 54, SeesA 0 1 Sv (PS.new (l.take k)).spares.length (ints .u8 (PS.new (l.take k)).spares)])) (l.length) _ (Subl.cons (t := 0) (by decide) rfl (Subl.cons (t := 3) (by decide) rfl (Subl.cons (t := 4) (by decide) rfl (Subl.nil _ _)))) ?_ (fun m D wr hrel => ?_)
  · exact ⟨0, .slice none 0 0, rfl, Nat.zero_le _, rfl, HX⟩
  · clear HX
    obtain ⟨k, Sv, rfl, hk, rfl, HX⟩ := hrel
    by_cases hlt : k < l.length
    · obtain ⟨x, hx⟩ : ∃ y, l[k]? = some y := ⟨_, List.getElem?_eq_getElem hlt⟩
      obtain ⟨g, o, rfl, -, -, d0⟩ := sees_u8 (HS.out.keep HX.out.old) rfl hx
      have hst := new_step (l.take k) x
      rw [show l.take k ++ [x] = l.take (k + 1) by rw [List.take_add_one, hx]; rfl] at hst
      obtain ⟨c0, c1, c2, f0, f1, f2⟩ := blk3 (HX.out.blk (i := 0) rfl)
      obtain ⟨G, hsv, B, d, rfl, hd1, hd2⟩ := HX.out.sees (i := 1) rfl
      have hsh := spares_short (PS.new (l.take k))
      generalize (PS.new (l.take k)).spares = sp at *
      obtain ⟨b, hb⟩ : ∃ b, rhas sp x = b := ⟨_, rfl⟩
      have hc := rHas_any wr.drew G B sp.length d sp x hsv rfl (by omega)
      rw [hb] at hc
      have e0 : wr.drew.cell? ⟨w.heap.size, 1, none⟩ = some (.slice B sp.length d) := c1
      have e1 : wr.drew.cell? ⟨g, o + k, none⟩ = some (.int .u8 x) := d0
      have HC := Lib.hid hc
      have HST := Lib.hid hst
      have HSV := Lib.hid hsv
      clear hc hst hsv
      have HXX := Lib.hid hx
      clear hx d0 c0 c1 c2 f0 f1 f2
      repeat first
        | apply d_seq
        | with_reducible apply kt_normal
        | apply l_nil
        | apply d_region
        | (apply l_off; (focus rfl); (focus rfl))
        | (apply l_val; (focus rfl); (focus rfl); (focus rfl); (focus (go_simp; (try simp (disch := omega) only [wrap_in, wrap_in', wrap_u16, wrap_u8, wrap_u32, wrap_u64, rem_in, quo_in]); first | done | with_reducible rfl | (constructor <;> with_reducible rfl))))
        | (apply l_store; (focus rfl); (focus rfl); (focus rfl); (focus (go_simp; (try simp (disch := omega) only [wrap_in, wrap_in', wrap_u16, wrap_u8, wrap_u32, wrap_u64, rem_in, quo_in]); first | done | with_reducible rfl | (constructor <;> with_reducible rfl))))
        | apply d_block
        | (apply d_true; (focus rfl); (focus rfl))
        | (apply d_false; (focus rfl); (focus rfl))
        | apply d_skip
        | apply d_exit
        | apply d_ret
        | with_reducible apply kt_ret
        | with_reducible apply kt_exit
        | with_reducible apply kb_normal
        | with_reducible apply kb_ret
        | with_reducible apply kb_here
        | with_reducible apply kl_ret
        | with_reducible apply kl_exit
        | with_reducible apply kc_ret
        | with_reducible apply kc_exit
        | (with_reducible apply kb_there; (focus rfl))
      refine d_draw (true, [([], []), ([0], [0]), ([1], [1]), ([2], [2]), ([], []), ([], []), ([4, 5], [4, 5]), ([6], [6]), ([3, 7], [3, 7]), ([8, 8, 0, 1, 2, 3, 4, 5, 6, 7, 8], [8])]) [(0, 0), (0, 1), (0, 2), (0, 3), (0, 4), (0, 5), (0, 6), (0, 7), (1, 8), (0, 9)] [999999] (fun W => W.cell? ⟨w.heap.size, 1, none⟩ = some (.slice B sp.length d) ∧ W.cell? ⟨g, o + k, none⟩ = some (.int .u8 x)) (by kernel_rfl) (by kernel_rfl) (by kernel_rfl) (by kernel_rfl) ⟨e0, e1⟩ ?_
      iterate 8
        first | (apply s_off; (focus rfl); (focus rfl); (focus rfl)) | (apply s_yield; (focus rfl); (focus rfl); (focus rfl); (focus rfl); (focus (intro W hS; obtain ⟨hS1, hS2⟩ := hS; go_simp; (try simp (disch := omega) only [wrap_in, wrap_in', wrap_u16, wrap_u8, wrap_u32, wrap_u64, rem_in, quo_in]); first | done | with_reducible rfl | (constructor <;> with_reducible rfl))))
      refine s_call rfl rfl rfl rfl (by first | (go_simp; done) | (go_simp; rfl)) (HC.out) ?_
      rintro e w2 ⟨rfl, hk2⟩
      have hx2 := HX.out.drew.keep hk2
      obtain ⟨c0, c1, c2, f0, f1, f2⟩ := blk3 (hx2.blk (i := 0) rfl)
      obtain ⟨g', o', e', -, -, d0⟩ := sees_u8 (HS.out.keep hx2.old) rfl HXX.out
      simp only [Option.some.injEq, Addr.mk.injEq, and_true] at e'
      obtain ⟨rfl, rfl⟩ := e'
      clear HX HC hk2
      have HX := Lib.hid hx2
      clear hx2
      refine ⟨_, rfl, ⟨c1, d0⟩, ?_⟩
      iterate 1
        first | (apply s_off; (focus rfl); (focus rfl); (focus rfl)) | (apply s_yield; (focus rfl); (focus rfl); (focus rfl); (focus rfl); (focus (intro W hS; obtain ⟨hS1, hS2⟩ := hS; go_simp; (try simp (disch := omega) only [wrap_in, wrap_in', wrap_u16, wrap_u8, wrap_u32, wrap_u64, rem_in, quo_in]); first | done | with_reducible rfl | (constructor <;> with_reducible rfl))))
      refine s_done ?_
      clear e0 e1
      have hst := HST.out
      by_cases hkx : known x = true
      · have hx3 := known_iff.1 hkx
        have q1 : decide (x ≥ 1) = true := decide_eq_true hx3.1
        have q2 : decide (x ≤ 31) = true := decide_eq_true hx3.2
        have q3 : decide (1 ≤ x) = true := decide_eq_true hx3.1
        cases b with
        | true =>
          rw [if_neg (by rw [hb]; simp)] at hst
          clear HST
          have HST := Lib.hid hst
          have HB := Lib.hid hb
          have HKX := Lib.hid hkx
          clear hst hb hkx
          clear c0 c1 c2 f0 f1 f2
          repeat first
            | apply d_seq
            | with_reducible apply kt_normal
            | apply l_nil
            | apply d_region
            | (apply l_off; (focus rfl); (focus rfl))
            | (apply l_val; (focus rfl); (focus rfl); (focus rfl); (focus (go_simp; (try simp (disch := omega) only [wrap_in, wrap_in', wrap_u16, wrap_u8, wrap_u32, wrap_u64, rem_in, quo_in]); first | done | with_reducible rfl | (constructor <;> with_reducible rfl))))
            | (apply l_store; (focus rfl); (focus rfl); (focus rfl); (focus (go_simp; (try simp (disch := omega) only [wrap_in, wrap_in', wrap_u16, wrap_u8, wrap_u32, wrap_u64, rem_in, quo_in]); first | done | with_reducible rfl | (constructor <;> with_reducible rfl))))
            | apply d_block
            | (apply d_true; (focus rfl); (focus rfl))
            | (apply d_false; (focus rfl); (focus rfl))
            | apply d_skip
            | apply d_exit
            | apply d_ret
            | with_reducible apply kt_ret
            | with_reducible apply kt_exit
            | with_reducible apply kb_normal
            | with_reducible apply kb_ret
            | with_reducible apply kb_here
            | with_reducible apply kl_ret
            | with_reducible apply kl_exit
            | with_reducible apply kc_ret
            | with_reducible apply kc_exit
            | (with_reducible apply kb_there; (focus rfl))
          refine kl_normal (l.length - (k + 1)) _ (by omega) (Subl.cons (t := 0) (by decide) rfl (Subl.cons (t := 3) (by decide) rfl (Subl.cons (t := 4) (by decide) rfl (Subl.nil _ _)))) ?_
          exact ⟨k + 1, _, rfl, by omega, rfl, by rw [HST.out]; exact HX⟩
        | false =>
          rw [if_pos ⟨hkx, hb⟩] at hst
          obtain ⟨G2, hs2, -⟩ := HX.out.sees (i := 1) rfl
          have hc := rWith_any w2.drew G2 B sp.length d sp x hs2 rfl (by omega)
          have e1 : w2.drew.cell? ⟨w.heap.size, 1, none⟩ = some (.slice B sp.length d) := c1
          have e2 : w2.drew.cell? ⟨g, o + k, none⟩ = some (.int .u8 x) := d0
          clear HST
          have HST := Lib.hid hst
          have HB := Lib.hid hb
          have HKX := Lib.hid hkx
          have HC := Lib.hid hc
          have HS2 := Lib.hid hs2
          clear hst hb hkx hc hs2
          clear c0 c1 c2 f0 f1 f2
          repeat first
            | apply d_seq
            | with_reducible apply kt_normal
            | apply l_nil
            | apply d_region
            | (apply l_off; (focus rfl); (focus rfl))
            | (apply l_val; (focus rfl); (focus rfl); (focus rfl); (focus (go_simp; (try simp (disch := omega) only [wrap_in, wrap_in', wrap_u16, wrap_u8, wrap_u32, wrap_u64, rem_in, quo_in]); first | done | with_reducible rfl | (constructor <;> with_reducible rfl))))
            | (apply l_store; (focus rfl); (focus rfl); (focus rfl); (focus (go_simp; (try simp (disch := omega) only [wrap_in, wrap_in', wrap_u16, wrap_u8, wrap_u32, wrap_u64, rem_in, quo_in]); first | done | with_reducible rfl | (constructor <;> with_reducible rfl))))
            | ((fail_if_success (with_reducible apply d_block (id := 1))); apply d_block)
            | (apply d_true; (focus rfl); (focus rfl))
            | (apply d_false; (focus rfl); (focus rfl))
            | apply d_skip
            | apply d_exit
            | apply d_ret
            | with_reducible apply kt_ret
            | with_reducible apply kt_exit
            | with_reducible apply kb_normal
            | with_reducible apply kb_ret
            | with_reducible apply kb_here
            | with_reducible apply kl_ret
            | with_reducible apply kl_exit
            | with_reducible apply kc_ret
            | with_reducible apply kc_exit
            | (with_reducible apply kb_there; (focus rfl))
          repeat first
            | apply d_seq
            | with_reducible apply kt_normal
            | apply l_nil
            | apply d_region
            | (apply l_off; (focus rfl); (focus rfl))
            | (apply l_val; (focus rfl); (focus rfl); (focus rfl); (focus (go_simp; (try simp (disch := omega) only [wrap_in, wrap_in', wrap_u16, wrap_u8, wrap_u32, wrap_u64, rem_in, quo_in]); first | done | with_reducible rfl | (constructor <;> with_reducible rfl))))
            | (apply l_store; (focus rfl); (focus rfl); (focus rfl); (focus (go_simp; (try simp (disch := omega) only [wrap_in, wrap_in', wrap_u16, wrap_u8, wrap_u32, wrap_u64, rem_in, quo_in]); first | done | with_reducible rfl | (constructor <;> with_reducible rfl))))
            | apply d_block
            | (apply d_true; (focus rfl); (focus rfl))
            | (apply d_false; (focus rfl); (focus rfl))
            | apply d_skip
            | apply d_exit
            | apply d_ret
            | with_reducible apply kt_ret
            | with_reducible apply kt_exit
            | with_reducible apply kb_normal
            | with_reducible apply kb_ret
            | with_reducible apply kb_here
            | with_reducible apply kl_ret
            | with_reducible apply kl_exit
            | with_reducible apply kc_ret
            | with_reducible apply kc_exit
            | (with_reducible apply kb_there; (focus rfl))
          refine d_draw (true, [([], []), ([], []), ([1], [1]), ([2], [2]), ([3], [3]), ([], []), ([], []), ([5, 6], [5, 6]), ([7], [7]), ([4, 8], [4, 8]), ([0, 0, 1, 2, 3, 4, 5, 6, 7, 8, 9], [0]), ([10, 0, 1, 2, 3, 4, 5, 6, 7, 8, 9], [10]), ([11, 9, 9, 0, 1, 2, 3, 4, 5, 6, 7, 8, 9], [9, 11])]) [(0, 0), (0, 1), (0, 2), (0, 3), (0, 4), (0, 5), (0, 6), (0, 7), (0, 8), (1, 9), (0, 10), (0, 11), (2, 12)] [12] (fun W => W.cell? ⟨w.heap.size, 1, none⟩ = some (.slice B sp.length d) ∧ W.cell? ⟨g, o + k, none⟩ = some (.int .u8 x)) (by kernel_rfl) (by kernel_rfl) (by kernel_rfl) (by kernel_rfl) ⟨e1, e2⟩ ?_
          iterate 9
            first | (apply s_off; (focus rfl); (focus rfl); (focus rfl)) | (apply s_yield; (focus rfl); (focus rfl); (focus rfl); (focus rfl); (focus (intro W hS; obtain ⟨hS1, hS2⟩ := hS; go_simp; (try simp (disch := omega) only [wrap_in, wrap_in', wrap_u16, wrap_u8, wrap_u32, wrap_u64, rem_in, quo_in]); first | done | with_reducible rfl | (constructor <;> with_reducible rfl))))
          refine s_call rfl rfl rfl rfl (by first | (go_simp; done) | (go_simp; rfl)) (HC.out) ?_
          rintro e w3 ⟨B3, d3, rfl, hb3, hb4, hy⟩
          have hx4 := HX.out.drew.more hy
          obtain ⟨c0, c1, c2, f0, f1, f2⟩ := blk3 (hx4.blk (i := 0) rfl)
          obtain ⟨g', o', e', -, -, d0⟩ := sees_u8 (HS.out.keep hx4.old) rfl HXX.out
          simp only [Option.some.injEq, Addr.mk.injEq, and_true] at e'
          obtain ⟨rfl, rfl⟩ := e'
          have hput := hx4.put (i := 0) rfl 1 (.slice B3 (wth sp x).length d3)
          simp only [List.set_cons_zero, List.cons_append, List.nil_append] at hput
          have hz := (hput).sel [0, 2] (by decide)
          simp only [List.map_cons, List.map_nil, List.getElem?_cons_zero, List.getElem?_cons_succ, Option.getD_some] at hz
          have hz := hz.read (i := 1) rfl
          simp only [List.set_cons_zero, List.set_cons_succ] at hz
          clear HX HC hy hx4 hput
          have HX := Lib.hid hz
          clear hz
          refine ⟨_, rfl, ⟨c1, d0⟩, ?_⟩
          iterate 2
            first | (apply s_off; (focus rfl); (focus rfl); (focus rfl)) | (apply s_yield; (focus rfl); (focus rfl); (focus rfl); (focus rfl); (focus (intro W hS; obtain ⟨hS1, hS2⟩ := hS; go_simp; (try simp (disch := omega) only [wrap_in, wrap_in', wrap_u16, wrap_u8, wrap_u32, wrap_u64, rem_in, quo_in]); first | done | with_reducible rfl | (constructor <;> with_reducible rfl))))
          first | (apply s_last; (focus rfl); (focus rfl); (focus rfl); (focus rfl); (focus (go_simp; (try simp (disch := omega) only [wrap_in, wrap_in', wrap_u16, wrap_u8, wrap_u32, wrap_u64, rem_in, quo_in]); first | done | with_reducible rfl | (constructor <;> with_reducible rfl)))) | (apply s_laststore; (focus rfl); (focus rfl); (focus rfl); (focus rfl); (focus (go_simp; (try simp (disch := omega) only [wrap_in, wrap_in', wrap_u16, wrap_u8, wrap_u32, wrap_u64, rem_in, quo_in]); first | done | with_reducible rfl | (constructor <;> with_reducible rfl))))
          refine s_done ?_
          clear c0 c1 c2 f0 f1 f2 e1 e2 d0
          repeat first
            | apply d_seq
            | with_reducible apply kt_normal
            | apply l_nil
            | apply d_region
            | (apply l_off; (focus rfl); (focus rfl))
            | (apply l_val; (focus rfl); (focus rfl); (focus rfl); (focus (go_simp; (try simp (disch := omega) only [wrap_in, wrap_in', wrap_u16, wrap_u8, wrap_u32, wrap_u64, rem_in, quo_in]); first | done | with_reducible rfl | (constructor <;> with_reducible rfl))))
            | (apply l_store; (focus rfl); (focus rfl); (focus rfl); (focus (go_simp; (try simp (disch := omega) only [wrap_in, wrap_in', wrap_u16, wrap_u8, wrap_u32, wrap_u64, rem_in, quo_in]); first | done | with_reducible rfl | (constructor <;> with_reducible rfl))))
            | apply d_block
            | (apply d_true; (focus rfl); (focus rfl))
            | (apply d_false; (focus rfl); (focus rfl))
            | apply d_skip
            | apply d_exit
            | apply d_ret
            | with_reducible apply kt_ret
            | with_reducible apply kt_exit
            | with_reducible apply kb_normal
            | with_reducible apply kb_ret
            | with_reducible apply kb_here
            | with_reducible apply kl_ret
            | with_reducible apply kl_exit
            | with_reducible apply kc_ret
            | with_reducible apply kc_exit
            | (with_reducible apply kb_there; (focus rfl))
          refine kl_normal (l.length - (k + 1)) _ (by omega) (Subl.cons (t := 0) (by decide) rfl (Subl.cons (t := 3) (by decide) rfl (Subl.cons (t := 4) (by decide) rfl (Subl.nil _ _)))) ?_
          exact ⟨k + 1, .slice B3 (wth sp x).length d3, rfl, by omega, rfl, by rw [HST.out]; exact HX⟩
      · rw [if_neg (fun c => hkx c.1)] at hst
        have hkx2 : ¬ (1 ≤ x ∧ x ≤ 31) := fun c => hkx (known_iff.2 c)
        clear HST
        have HST := Lib.hid hst
        have HB := Lib.hid hb
        have HKX := Lib.hid hkx
        clear hst hb hkx
        clear c0 c1 c2 f0 f1 f2
        by_cases h1 : 1 ≤ x
        · have q1 : decide (x ≥ 1) = true := decide_eq_true h1
          have q3 : decide (1 ≤ x) = true := decide_eq_true h1
          have q2 : decide (x ≤ 31) = false := decide_eq_false (fun c => hkx2 ⟨h1, c⟩)
          clear hkx2
          repeat first
            | apply d_seq
            | with_reducible apply kt_normal
            | apply l_nil
            | apply d_region
            | (apply l_off; (focus rfl); (focus rfl))
            | (apply l_val; (focus rfl); (focus rfl); (focus rfl); (focus (go_simp; (try simp (disch := omega) only [wrap_in, wrap_in', wrap_u16, wrap_u8, wrap_u32, wrap_u64, rem_in, quo_in]); first | done | with_reducible rfl | (constructor <;> with_reducible rfl))))
            | (apply l_store; (focus rfl); (focus rfl); (focus rfl); (focus (go_simp; (try simp (disch := omega) only [wrap_in, wrap_in', wrap_u16, wrap_u8, wrap_u32, wrap_u64, rem_in, quo_in]); first | done | with_reducible rfl | (constructor <;> with_reducible rfl))))
            | apply d_block
            | (apply d_true; (focus rfl); (focus rfl))
            | (apply d_false; (focus rfl); (focus rfl))
            | apply d_skip
            | apply d_exit
            | apply d_ret
            | with_reducible apply kt_ret
            | with_reducible apply kt_exit
            | with_reducible apply kb_normal
            | with_reducible apply kb_ret
            | with_reducible apply kb_here
            | with_reducible apply kl_ret
            | with_reducible apply kl_exit
            | with_reducible apply kc_ret
            | with_reducible apply kc_exit
            | (with_reducible apply kb_there; (focus rfl))
          refine kl_normal (l.length - (k + 1)) _ (by omega) (Subl.cons (t := 0) (by decide) rfl (Subl.cons (t := 3) (by decide) rfl (Subl.cons (t := 4) (by decide) rfl (Subl.nil _ _)))) ?_
          exact ⟨k + 1, _, rfl, by omega, rfl, by rw [HST.out]; exact HX⟩
        · have q1 : decide (x ≥ 1) = false := decide_eq_false h1
          have q3 : decide (1 ≤ x) = false := decide_eq_false h1
          clear hkx2
          repeat first
            | apply d_seq
            | with_reducible apply kt_normal
            | apply l_nil
            | apply d_region
            | (apply l_off; (focus rfl); (focus rfl))
            | (apply l_val; (focus rfl); (focus rfl); (focus rfl); (focus (go_simp; (try simp (disch := omega) only [wrap_in, wrap_in', wrap_u16, wrap_u8, wrap_u32, wrap_u64, rem_in, quo_in]); first | done | with_reducible rfl | (constructor <;> with_reducible rfl))))
            | (apply l_store; (focus rfl); (focus rfl); (focus rfl); (focus (go_simp; (try simp (disch := omega) only [wrap_in, wrap_in', wrap_u16, wrap_u8, wrap_u32, wrap_u64, rem_in, quo_in]); first | done | with_reducible rfl | (constructor <;> with_reducible rfl))))
            | apply d_block
            | (apply d_true; (focus rfl); (focus rfl))
            | (apply d_false; (focus rfl); (focus rfl))
            | apply d_skip
            | apply d_exit
            | apply d_ret
            | with_reducible apply kt_ret
            | with_reducible apply kt_exit
            | with_reducible apply kb_normal
            | with_reducible apply kb_ret
            | with_reducible apply kb_here
            | with_reducible apply kl_ret
            | with_reducible apply kl_exit
            | with_reducible apply kc_ret
            | with_reducible apply kc_exit
            | (with_reducible apply kb_there; (focus rfl))
          refine kl_normal (l.length - (k + 1)) _ (by omega) (Subl.cons (t := 0) (by decide) rfl (Subl.cons (t := 3) (by decide) rfl (Subl.cons (t := 4) (by decide) rfl (Subl.nil _ _)))) ?_
          exact ⟨k + 1, _, rfl, by omega, rfl, by rw [HST.out]; exact HX⟩
    · have hk' : k = l.length := by omega
      subst hk'
      rw [List.take_length] at HX
      repeat first
        | apply d_seq
        | with_reducible apply kt_normal
        | apply l_nil
        | apply d_region
        | (apply l_off; (focus rfl); (focus rfl))
        | (apply l_val; (focus rfl); (focus rfl); (focus rfl); (focus (go_simp; (try simp (disch := omega) only [wrap_in, wrap_in', wrap_u16, wrap_u8, wrap_u32, wrap_u64, rem_in, quo_in]); first | done | with_reducible rfl | (constructor <;> with_reducible rfl))))
        | (apply l_store; (focus rfl); (focus rfl); (focus rfl); (focus (go_simp; (try simp (disch := omega) only [wrap_in, wrap_in', wrap_u16, wrap_u8, wrap_u32, wrap_u64, rem_in, quo_in]); first | done | with_reducible rfl | (constructor <;> with_reducible rfl))))
        | apply d_block
        | (apply d_true; (focus rfl); (focus rfl))
        | (apply d_false; (focus rfl); (focus rfl))
        | apply d_skip
        | apply d_exit
        | apply d_ret
        | with_reducible apply kt_ret
        | with_reducible apply kt_exit
        | with_reducible apply kb_normal
        | with_reducible apply kb_ret
        | with_reducible apply kb_here
        | with_reducible apply kl_ret
        | with_reducible apply kl_exit
        | with_reducible apply kc_ret
        | with_reducible apply kc_exit
        | (with_reducible apply kb_there; (focus rfl))
      refine ⟨rfl, _, (by first | (simp [resultsG, resOne, Try.results11, rho, List.lookup]; done) | (simp [resultsG, resOne, Try.results11, rho, List.lookup]; rfl)), ?_⟩
      refine ⟨_, rfl, HX.out.old, PS.ok_new l, .slice none 0 0, Sv, .slice none 0 0, ?_⟩
      have h1 := (HX.out.nilRow 56 2).nilSees 1
      simp only [List.cons_append, List.nil_append] at h1
      have h2 := (h1).sel [0, 2, 1, 3] (by decide)
      simp only [List.map_cons, List.map_nil, List.getElem?_cons_zero, List.getElem?_cons_succ, Option.getD_some] at h2
      unfold rparts
      rw [new_pairs, new_brok]
      exact h2.parts
end Go.Proofs.Ytbcjmgocdplfnaa
