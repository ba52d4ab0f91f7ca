import Derived.Test.YtilmodbiimjllaaTot3
namespace Go.Proofs.Ytilmodbiimjllaa
set_option linter.unusedVariables false
set_option linter.unusedSimpArgs false
attribute [local go_sem] rho_const rho_func rho_hit rho_miss
open Go.RowKit

/-- In which zone a tote is. -/
def TS.at? (s : TS) (x : Int) : Option Nat := s.qs.findIdx? (fun q => mem q x)
def TS.whereV (s : TS) (x : Int) : Value := match s.at? x with | none => .tuple #[.int .i64 0, .bool false] | some i => .tuple #[.int .i64 i, .bool true]
theorem at_hit {s : TS} {x : Int} {k : Nat} {q : List Int} (hy : s.qs[k]? = some q) (he : mem q x = true) (hx : ∀ z ∈ s.qs.take k, mem z x = false) : s.at? x = some k := by
  have hk : k < s.qs.length := (List.getElem?_eq_some_iff.1 hy).1
  unfold TS.at?
  rw [List.findIdx?_eq_some_iff_getElem]
  refine ⟨hk, ?_, fun j hj => ?_⟩
  · rw [(List.getElem?_eq_some_iff.1 hy).2]; exact he
  · have := hx s.qs[j] (List.mem_take_iff_getElem.2 ⟨j, by omega, rfl⟩)
    simpa using this
theorem at_miss {s : TS} {x : Int} (hx : ∀ z ∈ s.qs, mem z x = false) : s.at? x = none := by
  unfold TS.at?
  rw [List.findIdx?_eq_none_iff]; exact hx
theorem where_any (t zb : Nat) (s : TS) (x : Int) (F : Nat → Prop) (w : World) (h : TRep w F t zb s) :
    Calls Try.prog 21 #[.pointer (some ⟨t, 0, none⟩), .int .u16 x] w fun e w' => e = .returned (s.whereV x) ∧ Keep none_ w w' := by
  have H := Lib.hid h
  obtain ⟨vs, hin⟩ := h
  obtain ⟨c0, -⟩ := blk1 hin.tb
  have h8 := hin.good.n8
  clear hin
  refine d_calls (n := 24) Try.func21 rfl rfl (by simp) [(0, .pointer (some ⟨t, 0, none⟩)), (1, .int .u16 x)] (by simp) ?_
  repeat first
    | apply d_seq
    | with_reducible apply kt_normal
    | apply l_nil
    | apply d_region
    | (apply l_off; (focus rfl); (focus rfl))
    | (apply l_val; (focus rfl); (focus rfl); (focus rfl); (focus (go_simp; (try simp (disch := omega) only [wrap_in, wrap_in', wrap_u16, wrap_u8, wrap_u32, wrap_u64, rem_in, quo_in]); first | done | with_reducible rfl | (constructor <;> with_reducible rfl))))
    | (apply l_store; (focus rfl); (focus rfl); (focus rfl); (focus (go_simp; (try simp (disch := omega) only [wrap_in, wrap_in', wrap_u16, wrap_u8, wrap_u32, wrap_u64, rem_in, quo_in]); first | done | with_reducible rfl | (constructor <;> with_reducible rfl))))
    | apply d_block
    | (apply d_true; (focus rfl); (focus rfl))
    | (apply d_false; (focus rfl); (focus rfl))
    | apply d_skip
    | apply d_exit
    | apply d_ret
    | with_reducible apply kt_ret
    | with_reducible apply kt_exit
    | with_reducible apply kb_normal
    | with_reducible apply kb_ret
    | with_reducible apply kb_here
    | with_reducible apply kl_ret
    | with_reducible apply kl_exit
    | with_reducible apply kc_ret
    | with_reducible apply kc_exit
    | (with_reducible apply kb_there; (focus rfl))
  refine d_loop (fun m D wr => ∃ k : Nat, m = s.qs.length - k ∧ k ≤ s.qs.length ∧ D = [(1, .int .u16 x), (11, .slice (some ⟨zb, 0, none⟩) s.qs.length s.qs.length), (12, .int .i64 s.qs.length), (13, .int .i64 k)] ∧ Hid (Keep none_ w wr ∧ ∀ z ∈ s.qs.take k, mem z x = false)) (s.qs.length) _ (Subl.cons (t := 1) (by decide) rfl (Subl.cons (t := 11) (by decide) rfl (Subl.cons (t := 12) (by decide) rfl (Subl.cons (t := 13) (by decide) rfl (Subl.nil _ _))))) ?_ (fun m D wr hrel => ?_)
  · exact ⟨0, rfl, Nat.zero_le _, rfl, Lib.hid ⟨Keep.refl _ _, by simp⟩⟩
  · clear c0
    obtain ⟨k, rfl, hk, rfl, HK⟩ := hrel
    by_cases hlt : k < s.qs.length
    · obtain ⟨q, hq⟩ : ∃ q, s.qs[k]? = some q := ⟨_, List.getElem?_eq_getElem hlt⟩
      have hr := H.out.move (w' := wr) (G := F) (fun j hj hl => ⟨hj, HK.out.1.block j hl (fun c => c)⟩)
      obtain ⟨v, d0, -, d1, ho, -⟩ := hr.at hq
      obtain ⟨A, c, rfl, -, -⟩ := ho.len
      have HC := Lib.hid (contains_any _ q x F (wr.alloc (.cells #[.slice A q.length c, .int .i64 s.room] 50)) (ho.sees.move (by simp) (fun j hj hl => ⟨hj, Below.heap_alloc _ _ _ hl⟩)))
      have HQ := Lib.hid hq
      clear hq
      clear hr ho
      repeat first
        | apply d_seq
        | with_reducible apply kt_normal
        | apply l_nil
        | apply d_region
        | (apply l_off; (focus rfl); (focus rfl))
        | (apply l_val; (focus rfl); (focus rfl); (focus rfl); (focus (go_simp; (try simp (disch := omega) only [wrap_in, wrap_in', wrap_u16, wrap_u8, wrap_u32, wrap_u64, rem_in, quo_in]); first | done | with_reducible rfl | (constructor <;> with_reducible rfl))))
        | (apply l_store; (focus rfl); (focus rfl); (focus rfl); (focus (go_simp; (try simp (disch := omega) only [wrap_in, wrap_in', wrap_u16, wrap_u8, wrap_u32, wrap_u64, rem_in, quo_in]); first | done | with_reducible rfl | (constructor <;> with_reducible rfl))))
        | apply d_block
        | (apply d_true; (focus rfl); (focus rfl))
        | (apply d_false; (focus rfl); (focus rfl))
        | apply d_skip
        | apply d_exit
        | apply d_ret
        | with_reducible apply kt_ret
        | with_reducible apply kt_exit
        | with_reducible apply kb_normal
        | with_reducible apply kb_ret
        | with_reducible apply kb_here
        | with_reducible apply kl_ret
        | with_reducible apply kl_exit
        | with_reducible apply kc_ret
        | with_reducible apply kc_exit
        | (with_reducible apply kb_there; (focus rfl))
      refine l_call rfl rfl rfl (by first | (go_simp; done) | (go_simp; rfl)) (HC.out) ?_
      rintro e w' ⟨rfl, rfl⟩
      have HK' := Lib.hid (HK.out.1.alloc (.cells #[.slice A q.length c, .int .i64 s.room] 50))
      obtain ⟨b, hb⟩ : ∃ b, mem q x = b := ⟨_, rfl⟩
      rw [hb]
      refine ⟨_, rfl, ?_⟩
      have HB := Lib.hid hb
      clear hb
      cases b
      · repeat first
          | apply d_seq
          | with_reducible apply kt_normal
          | apply l_nil
          | apply d_region
          | (apply l_off; (focus rfl); (focus rfl))
          | (apply l_val; (focus rfl); (focus rfl); (focus rfl); (focus (go_simp; (try simp (disch := omega) only [wrap_in, wrap_in', wrap_u16, wrap_u8, wrap_u32, wrap_u64, rem_in, quo_in]); first | done | with_reducible rfl | (constructor <;> with_reducible rfl))))
          | (apply l_store; (focus rfl); (focus rfl); (focus rfl); (focus (go_simp; (try simp (disch := omega) only [wrap_in, wrap_in', wrap_u16, wrap_u8, wrap_u32, wrap_u64, rem_in, quo_in]); first | done | with_reducible rfl | (constructor <;> with_reducible rfl))))
          | apply d_block
          | (apply d_true; (focus rfl); (focus rfl))
          | (apply d_false; (focus rfl); (focus rfl))
          | apply d_skip
          | apply d_exit
          | apply d_ret
          | with_reducible apply kt_ret
          | with_reducible apply kt_exit
          | with_reducible apply kb_normal
          | with_reducible apply kb_ret
          | with_reducible apply kb_here
          | with_reducible apply kl_ret
          | with_reducible apply kl_exit
          | with_reducible apply kc_ret
          | with_reducible apply kc_exit
          | (with_reducible apply kb_there; (focus rfl))
        refine kl_normal (s.qs.length - (k + 1)) _ (by omega) (Subl.cons (t := 1) (by decide) rfl (Subl.cons (t := 11) (by decide) rfl (Subl.cons (t := 12) (by decide) rfl (Subl.cons (t := 13) (by decide) rfl (Subl.nil _ _))))) ?_
        exact ⟨k + 1, rfl, by omega, rfl, Lib.hid ⟨HK'.out, take_snoc_all HQ.out HB.out HK.out.2⟩⟩
      · repeat first
          | apply d_seq
          | with_reducible apply kt_normal
          | apply l_nil
          | apply d_region
          | (apply l_off; (focus rfl); (focus rfl))
          | (apply l_val; (focus rfl); (focus rfl); (focus rfl); (focus (go_simp; (try simp (disch := omega) only [wrap_in, wrap_in', wrap_u16, wrap_u8, wrap_u32, wrap_u64, rem_in, quo_in]); first | done | with_reducible rfl | (constructor <;> with_reducible rfl))))
          | (apply l_store; (focus rfl); (focus rfl); (focus rfl); (focus (go_simp; (try simp (disch := omega) only [wrap_in, wrap_in', wrap_u16, wrap_u8, wrap_u32, wrap_u64, rem_in, quo_in]); first | done | with_reducible rfl | (constructor <;> with_reducible rfl))))
          | apply d_block
          | (apply d_true; (focus rfl); (focus rfl))
          | (apply d_false; (focus rfl); (focus rfl))
          | apply d_skip
          | apply d_exit
          | apply d_ret
          | with_reducible apply kt_ret
          | with_reducible apply kt_exit
          | with_reducible apply kb_normal
          | with_reducible apply kb_ret
          | with_reducible apply kb_here
          | with_reducible apply kl_ret
          | with_reducible apply kl_exit
          | with_reducible apply kc_ret
          | with_reducible apply kc_exit
          | (with_reducible apply kb_there; (focus rfl))
        refine ⟨rfl, _, (by first | (simp [resultsG, resOne, Try.results21, rho, List.lookup]; done) | (simp [resultsG, resOne, Try.results21, rho, List.lookup]; rfl)), ?_⟩
        exact ⟨by rw [TS.whereV, at_hit HQ.out HB.out HK.out.2], HK'.out⟩
    · have hk' : k = s.qs.length := by omega
      repeat first
        | apply d_seq
        | with_reducible apply kt_normal
        | apply l_nil
        | apply d_region
        | (apply l_off; (focus rfl); (focus rfl))
        | (apply l_val; (focus rfl); (focus rfl); (focus rfl); (focus (go_simp; (try simp (disch := omega) only [wrap_in, wrap_in', wrap_u16, wrap_u8, wrap_u32, wrap_u64, rem_in, quo_in]); first | done | with_reducible rfl | (constructor <;> with_reducible rfl))))
        | (apply l_store; (focus rfl); (focus rfl); (focus rfl); (focus (go_simp; (try simp (disch := omega) only [wrap_in, wrap_in', wrap_u16, wrap_u8, wrap_u32, wrap_u64, rem_in, quo_in]); first | done | with_reducible rfl | (constructor <;> with_reducible rfl))))
        | apply d_block
        | (apply d_true; (focus rfl); (focus rfl))
        | (apply d_false; (focus rfl); (focus rfl))
        | apply d_skip
        | apply d_exit
        | apply d_ret
        | with_reducible apply kt_ret
        | with_reducible apply kt_exit
        | with_reducible apply kb_normal
        | with_reducible apply kb_ret
        | with_reducible apply kb_here
        | with_reducible apply kl_ret
        | with_reducible apply kl_exit
        | with_reducible apply kc_ret
        | with_reducible apply kc_exit
        | (with_reducible apply kb_there; (focus rfl))
      refine ⟨rfl, _, (by first | (simp [resultsG, resOne, Try.results21, rho, List.lookup]; done) | (simp [resultsG, resOne, Try.results21, rho, List.lookup]; rfl)), ?_⟩
      have hx := HK.out.2
      rw [hk', List.take_length] at hx
      exact ⟨by rw [TS.whereV, at_miss hx], HK.out.1⟩

/-! Put, Pass, Skip -/
def TS.full (s : TS) (i : Nat) : Bool := decide (s.room ≤ (s.row i).length)
def TS.put (s : TS) (x z : Int) : TS × Int := match s.zone z with
  | none => (s, 1)
  | some i => if (s.at? x).isSome = true then (s, 8) else if s.full i = true then (s, 5) else (s.upd i (s.row i ++ [x]), 0)
theorem TRep.len100 {w : World} {F : Nat → Prop} {t zb : Nat} {s : TS} (h : TRep w F t zb s) {i : Nat} {q : List Int} (hq : s.qs[i]? = some q) : q.length ≤ 64 := by
  obtain ⟨vs, h⟩ := h
  have := h.good.q q (List.mem_of_getElem? hq)
  have := h.good.r64
  omega
section
variable {w : World} {F : Nat → Prop} {t zb : Nat} {s : TS} {i : Nat}
theorem row_of {q : List Int} (hq : s.qs[i]? = some q) : s.row i = q := by unfold TS.row; rw [hq]; rfl
theorem tfull (h : TRep w F t zb s) {q : List Int} (hq : s.qs[i]? = some q) : Calls Try.prog 27 #[.pointer (some ⟨zb, i * 2, none⟩)] w fun e w' => e = .returned (.bool (s.full i)) ∧ Keep none_ w w' := by
  obtain ⟨v, c0, f0, c1, ho, hvb, -, hFz, hback⟩ := h.at hq
  have := full_any zb (i * 2) v q s.room F w c0 c1 ho
  unfold TS.full
  rw [row_of hq]
  exact this
theorem tpush (h : TRep w F t zb s) {q : List Int} (hq : s.qs[i]? = some q) (hl : (q.length : Int) + 1 ≤ s.room) (x : Int) : Calls Try.prog 28 #[.pointer (some ⟨zb, i * 2, none⟩), .int .u16 x] w fun e w' => e = .returned (.tuple #[]) ∧ Keep F w w' ∧ TRep w' (fresh F w w') t zb (s.upd i (q ++ [x])) := by
  obtain ⟨v, c0, f0, c1, ho, hvb, -, hFz, hback⟩ := h.at hq
  have hl64 := h.len100 hq
  refine (push_any zb (i * 2) v q x F w c0 f0 ho (by omega) hvb).mono ?_
  rintro e w' ⟨v', w1, rfl, rfl, hk, ho'⟩
  have := hback w1 v' (q ++ [x]) hk ho' (by simp; omega)
  exact ⟨rfl, this.1, this.2⟩
theorem tpop (h : TRep w F t zb s) {y : Int} {q : List Int} (hq : s.qs[i]? = some (y :: q)) : Calls Try.prog 33 #[.pointer (some ⟨zb, i * 2, none⟩)] w fun e w' => e = .returned (.int .u16 y) ∧ Keep F w w' ∧ TRep w' (fresh F w w') t zb (s.upd i q) := by
  obtain ⟨v, c0, f0, c1, ho, hvb, -, hFz, hback⟩ := h.at hq
  have hl64 := h.len100 hq
  have hqr : ((y :: q).length : Int) ≤ s.room := by
    obtain ⟨vs, hin⟩ := h
    exact hin.good.q _ (List.mem_of_getElem? hq)
  refine (pop_any zb (i * 2) v y q F w c0 f0 ho (by simp at hl64; omega)).mono ?_
  rintro e w' ⟨v', w1, rfl, rfl, hk, ho'⟩
  have := hback w1 v' q hk.none (ho'.move (fun j hj hl => ⟨by rcases hj with c | c; exact c.elim; exact .inr c, rfl⟩)) (by simp at hqr; omega)
  exact ⟨rfl, this.1, this.2⟩
/-- What was read alone is there as it was. -/
theorem TRep.quiet (h : TRep w F t zb s) {w' : World} (hk : Keep none_ w w') : TRep w' F t zb s := h.move (fun j hj hl => ⟨hj, hk.block j hl (fun c => c)⟩)
theorem TRep.same (h : TRep w F t zb s) {w' : World} (hk : Keep none_ w w') : Keep F w w' ∧ TRep w' (fresh F w w') t zb s := ⟨hk.none, h.move (fun j hj hl => ⟨.inl hj, hk.block j hl (fun c => c)⟩)⟩
/-- One change behind another. -/
theorem TRep.then_ {w1 w2 : World} {s' : TS} (h1 : Keep F w w1) (h2 : Keep (fresh F w w1) w1 w2) (h3 : TRep w2 (fresh (fresh F w w1) w1 w2) t zb s') : Keep F w w2 ∧ TRep w2 (fresh F w w2) t zb s' :=
  ⟨h1.trans (h2.mono (fun q hq => by rcases hq with c | c; exact .inl c; exact .inr c.1)), h3.move (fun q hq _ => ⟨by
    have e1 := h1.size
    have e2 := h2.size
    rcases hq with (c | c) | c
    · exact .inl c
    · exact .inr ⟨c.1, by omega⟩
    · exact .inr ⟨by omega, c.2⟩, rfl⟩)⟩
end
set_option maxHeartbeats 1000000 in
theorem put_any (t zb : Nat) (s : TS) (x z : Int) (F : Nat → Prop) (w : World) (h : TRep w F t zb s) :
    Calls Try.prog 12 #[.pointer (some ⟨t, 0, none⟩), .int .u16 x, .int .i64 z] w fun e w' => e = .returned (.int .i64 (s.put x z).2) ∧ Keep F w w' ∧ TRep w' (fresh F w w') t zb (s.put x z).1 := by
  have H := Lib.hid h
  have HC := Lib.hid (zone_any t zb s z F w h)
  have HW := Lib.hid (where_any t zb s x F w h)
  clear h
  cases hz : s.zone z with
  | none =>
    rw [hz] at HC
    have hp : s.put x z = (s, 1) := by simp [TS.put, hz]
    rw [hp]
    clear hz hp
    refine d_calls (n := 30) Try.func12 rfl rfl (by simp) [(0, .pointer (some ⟨t, 0, none⟩)), (1, .int .u16 x), (2, .int .i64 z)] (by simp) ?_
    repeat first
      | apply d_seq
      | with_reducible apply kt_normal
      | apply l_nil
      | apply d_region
      | (apply l_off; (focus rfl); (focus rfl))
      | (apply l_val; (focus rfl); (focus rfl); (focus rfl); (focus (go_simp; (try simp (disch := omega) only [wrap_in, wrap_in', wrap_u16, wrap_u8, wrap_u32, wrap_u64, rem_in, quo_in]); first | done | with_reducible rfl | (constructor <;> with_reducible rfl))))
      | (apply l_store; (focus rfl); (focus rfl); (focus rfl); (focus (go_simp; (try simp (disch := omega) only [wrap_in, wrap_in', wrap_u16, wrap_u8, wrap_u32, wrap_u64, rem_in, quo_in]); first | done | with_reducible rfl | (constructor <;> with_reducible rfl))))
      | apply d_block
      | (apply d_true; (focus rfl); (focus rfl))
      | (apply d_false; (focus rfl); (focus rfl))
      | apply d_skip
      | apply d_exit
      | apply d_ret
      | with_reducible apply kt_ret
      | with_reducible apply kt_exit
      | with_reducible apply kb_normal
      | with_reducible apply kb_ret
      | with_reducible apply kb_here
      | with_reducible apply kl_ret
      | with_reducible apply kl_exit
      | with_reducible apply kc_ret
      | with_reducible apply kc_exit
      | (with_reducible apply kb_there; (focus rfl))
    refine l_call rfl rfl rfl (by first | (go_simp; done) | (go_simp; rfl)) (HC.out) ?_
    rintro e w' ⟨rfl, rfl⟩
    refine ⟨_, rfl, ?_⟩
    simp only [zptr, Option.map_none]
    repeat first
      | apply d_seq
      | with_reducible apply kt_normal
      | apply l_nil
      | apply d_region
      | (apply l_off; (focus rfl); (focus rfl))
      | (apply l_val; (focus rfl); (focus rfl); (focus rfl); (focus (go_simp; (try simp (disch := omega) only [wrap_in, wrap_in', wrap_u16, wrap_u8, wrap_u32, wrap_u64, rem_in, quo_in]); first | done | with_reducible rfl | (constructor <;> with_reducible rfl))))
      | (apply l_store; (focus rfl); (focus rfl); (focus rfl); (focus (go_simp; (try simp (disch := omega) only [wrap_in, wrap_in', wrap_u16, wrap_u8, wrap_u32, wrap_u64, rem_in, quo_in]); first | done | with_reducible rfl | (constructor <;> with_reducible rfl))))
      | apply d_block
      | (apply d_true; (focus rfl); (focus rfl))
      | (apply d_false; (focus rfl); (focus rfl))
      | apply d_skip
      | apply d_exit
      | apply d_ret
      | with_reducible apply kt_ret
      | with_reducible apply kt_exit
      | with_reducible apply kb_normal
      | with_reducible apply kb_ret
      | with_reducible apply kb_here
      | with_reducible apply kl_ret
      | with_reducible apply kl_exit
      | with_reducible apply kc_ret
      | with_reducible apply kc_exit
      | (with_reducible apply kb_there; (focus rfl))
    refine l_call rfl rfl rfl (by first | (go_simp; done) | (go_simp; rfl)) (HW.out) ?_
    rintro e w' ⟨rfl, hk⟩
    have HK := Lib.hid hk
    clear hk
    refine ⟨_, rfl, ?_⟩
    unfold TS.whereV
    cases hw : s.at? x
    · simp only
      repeat first
        | apply d_seq
        | with_reducible apply kt_normal
        | apply l_nil
        | apply d_region
        | (apply l_off; (focus rfl); (focus rfl))
        | (apply l_val; (focus rfl); (focus rfl); (focus rfl); (focus (go_simp; (try simp (disch := omega) only [wrap_in, wrap_in', wrap_u16, wrap_u8, wrap_u32, wrap_u64, rem_in, quo_in]); first | done | with_reducible rfl | (constructor <;> with_reducible rfl))))
        | (apply l_store; (focus rfl); (focus rfl); (focus rfl); (focus (go_simp; (try simp (disch := omega) only [wrap_in, wrap_in', wrap_u16, wrap_u8, wrap_u32, wrap_u64, rem_in, quo_in]); first | done | with_reducible rfl | (constructor <;> with_reducible rfl))))
        | apply d_block
        | (apply d_true; (focus rfl); (focus rfl))
        | (apply d_false; (focus rfl); (focus rfl))
        | apply d_skip
        | apply d_exit
        | apply d_ret
        | with_reducible apply kt_ret
        | with_reducible apply kt_exit
        | with_reducible apply kb_normal
        | with_reducible apply kb_ret
        | with_reducible apply kb_here
        | with_reducible apply kl_ret
        | with_reducible apply kl_exit
        | with_reducible apply kc_ret
        | with_reducible apply kc_exit
        | (with_reducible apply kb_there; (focus rfl))
      refine ⟨rfl, _, (by first | (simp [resultsG, resOne, Try.results12, rho, List.lookup]; done) | (simp [resultsG, resOne, Try.results12, rho, List.lookup]; rfl)), ?_⟩
      exact ⟨rfl, H.out.same HK.out⟩
    · simp only
      repeat first
        | apply d_seq
        | with_reducible apply kt_normal
        | apply l_nil
        | apply d_region
        | (apply l_off; (focus rfl); (focus rfl))
        | (apply l_val; (focus rfl); (focus rfl); (focus rfl); (focus (go_simp; (try simp (disch := omega) only [wrap_in, wrap_in', wrap_u16, wrap_u8, wrap_u32, wrap_u64, rem_in, quo_in]); first | done | with_reducible rfl | (constructor <;> with_reducible rfl))))
        | (apply l_store; (focus rfl); (focus rfl); (focus rfl); (focus (go_simp; (try simp (disch := omega) only [wrap_in, wrap_in', wrap_u16, wrap_u8, wrap_u32, wrap_u64, rem_in, quo_in]); first | done | with_reducible rfl | (constructor <;> with_reducible rfl))))
        | apply d_block
        | (apply d_true; (focus rfl); (focus rfl))
        | (apply d_false; (focus rfl); (focus rfl))
        | apply d_skip
        | apply d_exit
        | apply d_ret
        | with_reducible apply kt_ret
        | with_reducible apply kt_exit
        | with_reducible apply kb_normal
        | with_reducible apply kb_ret
        | with_reducible apply kb_here
        | with_reducible apply kl_ret
        | with_reducible apply kl_exit
        | with_reducible apply kc_ret
        | with_reducible apply kc_exit
        | (with_reducible apply kb_there; (focus rfl))
      refine ⟨rfl, _, (by first | (simp [resultsG, resOne, Try.results12, rho, List.lookup]; done) | (simp [resultsG, resOne, Try.results12, rho, List.lookup]; rfl)), ?_⟩
      exact ⟨rfl, H.out.same HK.out⟩
  | some i =>
    rw [hz] at HC
    obtain ⟨hq, -⟩ := TS.zone_some hz
    cases hw : s.at? x with
    | some j =>
      have hp : s.put x z = (s, 8) := by simp [TS.put, hz, hw]
      rw [hp]
      clear hz hp hq
      refine d_calls (n := 30) Try.func12 rfl rfl (by simp) [(0, .pointer (some ⟨t, 0, none⟩)), (1, .int .u16 x), (2, .int .i64 z)] (by simp) ?_
      repeat first
        | apply d_seq
        | with_reducible apply kt_normal
        | apply l_nil
        | apply d_region
        | (apply l_off; (focus rfl); (focus rfl))
        | (apply l_val; (focus rfl); (focus rfl); (focus rfl); (focus (go_simp; (try simp (disch := omega) only [wrap_in, wrap_in', wrap_u16, wrap_u8, wrap_u32, wrap_u64, rem_in, quo_in]); first | done | with_reducible rfl | (constructor <;> with_reducible rfl))))
        | (apply l_store; (focus rfl); (focus rfl); (focus rfl); (focus (go_simp; (try simp (disch := omega) only [wrap_in, wrap_in', wrap_u16, wrap_u8, wrap_u32, wrap_u64, rem_in, quo_in]); first | done | with_reducible rfl | (constructor <;> with_reducible rfl))))
        | apply d_block
        | (apply d_true; (focus rfl); (focus rfl))
        | (apply d_false; (focus rfl); (focus rfl))
        | apply d_skip
        | apply d_exit
        | apply d_ret
        | with_reducible apply kt_ret
        | with_reducible apply kt_exit
        | with_reducible apply kb_normal
        | with_reducible apply kb_ret
        | with_reducible apply kb_here
        | with_reducible apply kl_ret
        | with_reducible apply kl_exit
        | with_reducible apply kc_ret
        | with_reducible apply kc_exit
        | (with_reducible apply kb_there; (focus rfl))
      refine l_call rfl rfl rfl (by first | (go_simp; done) | (go_simp; rfl)) (HC.out) ?_
      rintro e w' ⟨rfl, rfl⟩
      refine ⟨_, rfl, ?_⟩
      simp only [zptr, Option.map_some]
      repeat first
        | apply d_seq
        | with_reducible apply kt_normal
        | apply l_nil
        | apply d_region
        | (apply l_off; (focus rfl); (focus rfl))
        | (apply l_val; (focus rfl); (focus rfl); (focus rfl); (focus (go_simp; (try simp (disch := omega) only [wrap_in, wrap_in', wrap_u16, wrap_u8, wrap_u32, wrap_u64, rem_in, quo_in]); first | done | with_reducible rfl | (constructor <;> with_reducible rfl))))
        | (apply l_store; (focus rfl); (focus rfl); (focus rfl); (focus (go_simp; (try simp (disch := omega) only [wrap_in, wrap_in', wrap_u16, wrap_u8, wrap_u32, wrap_u64, rem_in, quo_in]); first | done | with_reducible rfl | (constructor <;> with_reducible rfl))))
        | apply d_block
        | (apply d_true; (focus rfl); (focus rfl))
        | (apply d_false; (focus rfl); (focus rfl))
        | apply d_skip
        | apply d_exit
        | apply d_ret
        | with_reducible apply kt_ret
        | with_reducible apply kt_exit
        | with_reducible apply kb_normal
        | with_reducible apply kb_ret
        | with_reducible apply kb_here
        | with_reducible apply kl_ret
        | with_reducible apply kl_exit
        | with_reducible apply kc_ret
        | with_reducible apply kc_exit
        | (with_reducible apply kb_there; (focus rfl))
      refine l_call rfl rfl rfl (by first | (go_simp; done) | (go_simp; rfl)) (HW.out) ?_
      rintro e w' ⟨rfl, hk⟩
      have HK := Lib.hid hk
      clear hk
      refine ⟨_, rfl, ?_⟩
      unfold TS.whereV
      rw [hw]
      simp only
      clear hw
      repeat first
        | apply d_seq
        | with_reducible apply kt_normal
        | apply l_nil
        | apply d_region
        | (apply l_off; (focus rfl); (focus rfl))
        | (apply l_val; (focus rfl); (focus rfl); (focus rfl); (focus (go_simp; (try simp (disch := omega) only [wrap_in, wrap_in', wrap_u16, wrap_u8, wrap_u32, wrap_u64, rem_in, quo_in]); first | done | with_reducible rfl | (constructor <;> with_reducible rfl))))
        | (apply l_store; (focus rfl); (focus rfl); (focus rfl); (focus (go_simp; (try simp (disch := omega) only [wrap_in, wrap_in', wrap_u16, wrap_u8, wrap_u32, wrap_u64, rem_in, quo_in]); first | done | with_reducible rfl | (constructor <;> with_reducible rfl))))
        | apply d_block
        | (apply d_true; (focus rfl); (focus rfl))
        | (apply d_false; (focus rfl); (focus rfl))
        | apply d_skip
        | apply d_exit
        | apply d_ret
        | with_reducible apply kt_ret
        | with_reducible apply kt_exit
        | with_reducible apply kb_normal
        | with_reducible apply kb_ret
        | with_reducible apply kb_here
        | with_reducible apply kl_ret
        | with_reducible apply kl_exit
        | with_reducible apply kc_ret
        | with_reducible apply kc_exit
        | (with_reducible apply kb_there; (focus rfl))
      refine ⟨rfl, _, (by first | (simp [resultsG, resOne, Try.results12, rho, List.lookup]; done) | (simp [resultsG, resOne, Try.results12, rho, List.lookup]; rfl)), ?_⟩
      exact ⟨rfl, H.out.same HK.out⟩
    | none =>
      obtain ⟨b, hb⟩ : ∃ b, s.full i = b := ⟨_, rfl⟩
      have HP : Hid (s.put x z = if b = true then (s, 5) else (s.upd i (s.row i ++ [x]), 0)) := Lib.hid (by simp only [TS.put, hz, hw, hb, Option.isSome_none, Bool.false_eq_true, if_false])
      have HQ := Lib.hid hq
      have hfl : b = false → ((s.row i).length : Int) + 1 ≤ s.room := fun c => by rw [c] at hb; unfold TS.full at hb; simp at hb; omega
      have HFL := Lib.hid hfl
      clear hfl
      clear hz hq
      refine d_calls (n := 30) Try.func12 rfl rfl (by simp) [(0, .pointer (some ⟨t, 0, none⟩)), (1, .int .u16 x), (2, .int .i64 z)] (by simp) ?_
      repeat first
        | apply d_seq
        | with_reducible apply kt_normal
        | apply l_nil
        | apply d_region
        | (apply l_off; (focus rfl); (focus rfl))
        | (apply l_val; (focus rfl); (focus rfl); (focus rfl); (focus (go_simp; (try simp (disch := omega) only [wrap_in, wrap_in', wrap_u16, wrap_u8, wrap_u32, wrap_u64, rem_in, quo_in]); first | done | with_reducible rfl | (constructor <;> with_reducible rfl))))
        | (apply l_store; (focus rfl); (focus rfl); (focus rfl); (focus (go_simp; (try simp (disch := omega) only [wrap_in, wrap_in', wrap_u16, wrap_u8, wrap_u32, wrap_u64, rem_in, quo_in]); first | done | with_reducible rfl | (constructor <;> with_reducible rfl))))
        | apply d_block
        | (apply d_true; (focus rfl); (focus rfl))
        | (apply d_false; (focus rfl); (focus rfl))
        | apply d_skip
        | apply d_exit
        | apply d_ret
        | with_reducible apply kt_ret
        | with_reducible apply kt_exit
        | with_reducible apply kb_normal
        | with_reducible apply kb_ret
        | with_reducible apply kb_here
        | with_reducible apply kl_ret
        | with_reducible apply kl_exit
        | with_reducible apply kc_ret
        | with_reducible apply kc_exit
        | (with_reducible apply kb_there; (focus rfl))
      refine l_call rfl rfl rfl (by first | (go_simp; done) | (go_simp; rfl)) (HC.out) ?_
      rintro e w' ⟨rfl, rfl⟩
      refine ⟨_, rfl, ?_⟩
      simp only [zptr, Option.map_some]
      repeat first
        | apply d_seq
        | with_reducible apply kt_normal
        | apply l_nil
        | apply d_region
        | (apply l_off; (focus rfl); (focus rfl))
        | (apply l_val; (focus rfl); (focus rfl); (focus rfl); (focus (go_simp; (try simp (disch := omega) only [wrap_in, wrap_in', wrap_u16, wrap_u8, wrap_u32, wrap_u64, rem_in, quo_in]); first | done | with_reducible rfl | (constructor <;> with_reducible rfl))))
        | (apply l_store; (focus rfl); (focus rfl); (focus rfl); (focus (go_simp; (try simp (disch := omega) only [wrap_in, wrap_in', wrap_u16, wrap_u8, wrap_u32, wrap_u64, rem_in, quo_in]); first | done | with_reducible rfl | (constructor <;> with_reducible rfl))))
        | apply d_block
        | (apply d_true; (focus rfl); (focus rfl))
        | (apply d_false; (focus rfl); (focus rfl))
        | apply d_skip
        | apply d_exit
        | apply d_ret
        | with_reducible apply kt_ret
        | with_reducible apply kt_exit
        | with_reducible apply kb_normal
        | with_reducible apply kb_ret
        | with_reducible apply kb_here
        | with_reducible apply kl_ret
        | with_reducible apply kl_exit
        | with_reducible apply kc_ret
        | with_reducible apply kc_exit
        | (with_reducible apply kb_there; (focus rfl))
      refine l_call rfl rfl rfl (by first | (go_simp; done) | (go_simp; rfl)) (HW.out) ?_
      rintro e w1 ⟨rfl, hk⟩
      have HR := Lib.hid (H.out.quiet hk)
      have HF := tfull HR.out HQ.out
      rw [hb] at HF
      have HK := Lib.hid hk
      have HF_ := Lib.hid HF
      clear HF
      clear hk hb
      refine ⟨_, rfl, ?_⟩
      unfold TS.whereV
      rw [hw]
      simp only
      clear hw
      repeat first
        | apply d_seq
        | with_reducible apply kt_normal
        | apply l_nil
        | apply d_region
        | (apply l_off; (focus rfl); (focus rfl))
        | (apply l_val; (focus rfl); (focus rfl); (focus rfl); (focus (go_simp; (try simp (disch := omega) only [wrap_in, wrap_in', wrap_u16, wrap_u8, wrap_u32, wrap_u64, rem_in, quo_in]); first | done | with_reducible rfl | (constructor <;> with_reducible rfl))))
        | (apply l_store; (focus rfl); (focus rfl); (focus rfl); (focus (go_simp; (try simp (disch := omega) only [wrap_in, wrap_in', wrap_u16, wrap_u8, wrap_u32, wrap_u64, rem_in, quo_in]); first | done | with_reducible rfl | (constructor <;> with_reducible rfl))))
        | apply d_block
        | (apply d_true; (focus rfl); (focus rfl))
        | (apply d_false; (focus rfl); (focus rfl))
        | apply d_skip
        | apply d_exit
        | apply d_ret
        | with_reducible apply kt_ret
        | with_reducible apply kt_exit
        | with_reducible apply kb_normal
        | with_reducible apply kb_ret
        | with_reducible apply kb_here
        | with_reducible apply kl_ret
        | with_reducible apply kl_exit
        | with_reducible apply kc_ret
        | with_reducible apply kc_exit
        | (with_reducible apply kb_there; (focus rfl))
      refine l_call rfl rfl rfl (by first | (go_simp; done) | (go_simp; rfl)) (HF_.out) ?_
      rintro e w2 ⟨rfl, hk⟩
      have HR2 := Lib.hid (HR.out.quiet hk)
      have HK2 := Lib.hid (HK.out.next hk)
      clear hk
      refine ⟨_, rfl, ?_⟩
      cases b
      · have HPU := Lib.hid (tpush HR2.out HQ.out (HFL.out rfl) x)
        repeat first
          | apply d_seq
          | with_reducible apply kt_normal
          | apply l_nil
          | apply d_region
          | (apply l_off; (focus rfl); (focus rfl))
          | (apply l_val; (focus rfl); (focus rfl); (focus rfl); (focus (go_simp; (try simp (disch := omega) only [wrap_in, wrap_in', wrap_u16, wrap_u8, wrap_u32, wrap_u64, rem_in, quo_in]); first | done | with_reducible rfl | (constructor <;> with_reducible rfl))))
          | (apply l_store; (focus rfl); (focus rfl); (focus rfl); (focus (go_simp; (try simp (disch := omega) only [wrap_in, wrap_in', wrap_u16, wrap_u8, wrap_u32, wrap_u64, rem_in, quo_in]); first | done | with_reducible rfl | (constructor <;> with_reducible rfl))))
          | apply d_block
          | (apply d_true; (focus rfl); (focus rfl))
          | (apply d_false; (focus rfl); (focus rfl))
          | apply d_skip
          | apply d_exit
          | apply d_ret
          | with_reducible apply kt_ret
          | with_reducible apply kt_exit
          | with_reducible apply kb_normal
          | with_reducible apply kb_ret
          | with_reducible apply kb_here
          | with_reducible apply kl_ret
          | with_reducible apply kl_exit
          | with_reducible apply kc_ret
          | with_reducible apply kc_exit
          | (with_reducible apply kb_there; (focus rfl))
        refine l_call rfl rfl rfl (by first | (go_simp; done) | (go_simp; rfl)) (HPU.out) ?_
        rintro e w3 ⟨rfl, hk, hr⟩
        have HKR := Lib.hid (And.intro hk hr)
        clear hk hr
        refine ⟨_, rfl, ?_⟩
        repeat first
          | apply d_seq
          | with_reducible apply kt_normal
          | apply l_nil
          | apply d_region
          | (apply l_off; (focus rfl); (focus rfl))
          | (apply l_val; (focus rfl); (focus rfl); (focus rfl); (focus (go_simp; (try simp (disch := omega) only [wrap_in, wrap_in', wrap_u16, wrap_u8, wrap_u32, wrap_u64, rem_in, quo_in]); first | done | with_reducible rfl | (constructor <;> with_reducible rfl))))
          | (apply l_store; (focus rfl); (focus rfl); (focus rfl); (focus (go_simp; (try simp (disch := omega) only [wrap_in, wrap_in', wrap_u16, wrap_u8, wrap_u32, wrap_u64, rem_in, quo_in]); first | done | with_reducible rfl | (constructor <;> with_reducible rfl))))
          | apply d_block
          | (apply d_true; (focus rfl); (focus rfl))
          | (apply d_false; (focus rfl); (focus rfl))
          | apply d_skip
          | apply d_exit
          | apply d_ret
          | with_reducible apply kt_ret
          | with_reducible apply kt_exit
          | with_reducible apply kb_normal
          | with_reducible apply kb_ret
          | with_reducible apply kb_here
          | with_reducible apply kl_ret
          | with_reducible apply kl_exit
          | with_reducible apply kc_ret
          | with_reducible apply kc_exit
          | (with_reducible apply kb_there; (focus rfl))
        refine ⟨rfl, _, (by first | (simp [resultsG, resOne, Try.results12, rho, List.lookup]; done) | (simp [resultsG, resOne, Try.results12, rho, List.lookup]; rfl)), ?_⟩
        rw [HP.out, if_neg (by simp)]
        have hsz := HK2.out.size
        exact ⟨rfl, HK2.out.none.trans (HKR.out.1.mono (fun q hq => .inl hq)), HKR.out.2.move (fun q hq _ => ⟨by rcases hq with c | c; exact .inl c; exact .inr ⟨by omega, c.2⟩, rfl⟩)⟩
      · repeat first
          | apply d_seq
          | with_reducible apply kt_normal
          | apply l_nil
          | apply d_region
          | (apply l_off; (focus rfl); (focus rfl))
          | (apply l_val; (focus rfl); (focus rfl); (focus rfl); (focus (go_simp; (try simp (disch := omega) only [wrap_in, wrap_in', wrap_u16, wrap_u8, wrap_u32, wrap_u64, rem_in, quo_in]); first | done | with_reducible rfl | (constructor <;> with_reducible rfl))))
          | (apply l_store; (focus rfl); (focus rfl); (focus rfl); (focus (go_simp; (try simp (disch := omega) only [wrap_in, wrap_in', wrap_u16, wrap_u8, wrap_u32, wrap_u64, rem_in, quo_in]); first | done | with_reducible rfl | (constructor <;> with_reducible rfl))))
          | apply d_block
          | (apply d_true; (focus rfl); (focus rfl))
          | (apply d_false; (focus rfl); (focus rfl))
          | apply d_skip
          | apply d_exit
          | apply d_ret
          | with_reducible apply kt_ret
          | with_reducible apply kt_exit
          | with_reducible apply kb_normal
          | with_reducible apply kb_ret
          | with_reducible apply kb_here
          | with_reducible apply kl_ret
          | with_reducible apply kl_exit
          | with_reducible apply kc_ret
          | with_reducible apply kc_exit
          | (with_reducible apply kb_there; (focus rfl))
        refine ⟨rfl, _, (by first | (simp [resultsG, resOne, Try.results12, rho, List.lookup]; done) | (simp [resultsG, resOne, Try.results12, rho, List.lookup]; rfl)), ?_⟩
        rw [HP.out, if_pos rfl]
        exact ⟨rfl, H.out.same HK2.out⟩

def TS.pass (s : TS) (z : Int) : TS × Int × Int := match s.zone z with
  | none => (s, 0, 1)
  | some i => match s.row i with
    | [] => (s, 0, 6)
    | y :: q => match s.zone (z + 1) with
      | none => (s.upd i q, y, 0)
      | some j => if s.full j = true then (s, 0, 5) else ((s.upd i q).upd j (s.row j ++ [y]), y, 0)
def TS.skip (s : TS) (z : Int) : TS × Int := match s.zone z with
  | none => (s, 1)
  | some i => match s.row i with
    | [] => (s, 6)
    | y :: q => (s.upd i (q ++ [y]), 0)
def TS.frontV (s : TS) (z : Int) : Value := match s.zone z with
  | none => .tuple #[.int .u16 0, .bool false]
  | some i => match s.row i with
    | [] => .tuple #[.int .u16 0, .bool false]
    | y :: _ => .tuple #[.int .u16 y, .bool true]
def TS.rowZ (s : TS) (z : Int) : List Int := match s.zone z with | none => [] | some i => s.row i
theorem row_any (t zb : Nat) (s : TS) (z : Int) (F : Nat → Prop) (w : World) (h : TRep w F t zb s) :
    Calls Try.prog 18 #[.pointer (some ⟨t, 0, none⟩), .int .i64 z] w fun e w' => ∃ v', e = .returned v' ∧ Keep none_ w w' ∧ Own w' (fresh none_ w w') 30 1 v' (s.rowZ z).length (ints .u16 (s.rowZ z)) := by
  have HC := Lib.hid (zone_any t zb s z F w h)
  unfold TS.rowZ
  cases hz : s.zone z with
  | none =>
    rw [hz] at HC
    clear h hz
    refine d_calls (n := 16) Try.func18 rfl rfl (by simp) [(0, .pointer (some ⟨t, 0, none⟩)), (1, .int .i64 z)] (by simp) ?_
    repeat first
      | apply d_seq
      | with_reducible apply kt_normal
      | apply l_nil
      | apply d_region
      | (apply l_off; (focus rfl); (focus rfl))
      | (apply l_val; (focus rfl); (focus rfl); (focus rfl); (focus (go_simp; (try simp (disch := omega) only [wrap_in, wrap_in', wrap_u16, wrap_u8, wrap_u32, wrap_u64, rem_in, quo_in]); first | done | with_reducible rfl | (constructor <;> with_reducible rfl))))
      | (apply l_store; (focus rfl); (focus rfl); (focus rfl); (focus (go_simp; (try simp (disch := omega) only [wrap_in, wrap_in', wrap_u16, wrap_u8, wrap_u32, wrap_u64, rem_in, quo_in]); first | done | with_reducible rfl | (constructor <;> with_reducible rfl))))
      | apply d_block
      | (apply d_true; (focus rfl); (focus rfl))
      | (apply d_false; (focus rfl); (focus rfl))
      | apply d_skip
      | apply d_exit
      | apply d_ret
      | with_reducible apply kt_ret
      | with_reducible apply kt_exit
      | with_reducible apply kb_normal
      | with_reducible apply kb_ret
      | with_reducible apply kb_here
      | with_reducible apply kl_ret
      | with_reducible apply kl_exit
      | with_reducible apply kc_ret
      | with_reducible apply kc_exit
      | (with_reducible apply kb_there; (focus rfl))
    refine l_call rfl rfl rfl (by first | (go_simp; done) | (go_simp; rfl)) (HC.out) ?_
    rintro e w' ⟨rfl, rfl⟩
    refine ⟨_, rfl, ?_⟩
    simp only [zptr, Option.map_none]
    repeat first
      | apply d_seq
      | with_reducible apply kt_normal
      | apply l_nil
      | apply d_region
      | (apply l_off; (focus rfl); (focus rfl))
      | (apply l_val; (focus rfl); (focus rfl); (focus rfl); (focus (go_simp; (try simp (disch := omega) only [wrap_in, wrap_in', wrap_u16, wrap_u8, wrap_u32, wrap_u64, rem_in, quo_in]); first | done | with_reducible rfl | (constructor <;> with_reducible rfl))))
      | (apply l_store; (focus rfl); (focus rfl); (focus rfl); (focus (go_simp; (try simp (disch := omega) only [wrap_in, wrap_in', wrap_u16, wrap_u8, wrap_u32, wrap_u64, rem_in, quo_in]); first | done | with_reducible rfl | (constructor <;> with_reducible rfl))))
      | apply d_block
      | (apply d_true; (focus rfl); (focus rfl))
      | (apply d_false; (focus rfl); (focus rfl))
      | apply d_skip
      | apply d_exit
      | apply d_ret
      | with_reducible apply kt_ret
      | with_reducible apply kt_exit
      | with_reducible apply kb_normal
      | with_reducible apply kb_ret
      | with_reducible apply kb_here
      | with_reducible apply kl_ret
      | with_reducible apply kl_exit
      | with_reducible apply kc_ret
      | with_reducible apply kc_exit
      | (with_reducible apply kb_there; (focus rfl))
    refine ⟨rfl, _, (by first | (simp [resultsG, resOne, Try.results18, rho, List.lookup]; done) | (simp [resultsG, resOne, Try.results18, rho, List.lookup]; rfl)), ?_⟩
    exact ⟨_, rfl, Keep.refl _ _, Own.nil _ _ _ _⟩
  | some i =>
    rw [hz] at HC
    obtain ⟨hq, -⟩ := TS.zone_some hz
    obtain ⟨v, c0, f0, c1, ho, -⟩ := h.at hq
    have hl := h.len100 hq
    have HCL := Lib.hid (cloneI v (s.row i).length _ F w ho.sees (by omega))
    obtain ⟨A, c, rfl, -, -⟩ := ho.len
    clear h hz hq ho
    refine d_calls (n := 16) Try.func18 rfl rfl (by simp) [(0, .pointer (some ⟨t, 0, none⟩)), (1, .int .i64 z)] (by simp) ?_
    repeat first
      | apply d_seq
      | with_reducible apply kt_normal
      | apply l_nil
      | apply d_region
      | (apply l_off; (focus rfl); (focus rfl))
      | (apply l_val; (focus rfl); (focus rfl); (focus rfl); (focus (go_simp; (try simp (disch := omega) only [wrap_in, wrap_in', wrap_u16, wrap_u8, wrap_u32, wrap_u64, rem_in, quo_in]); first | done | with_reducible rfl | (constructor <;> with_reducible rfl))))
      | (apply l_store; (focus rfl); (focus rfl); (focus rfl); (focus (go_simp; (try simp (disch := omega) only [wrap_in, wrap_in', wrap_u16, wrap_u8, wrap_u32, wrap_u64, rem_in, quo_in]); first | done | with_reducible rfl | (constructor <;> with_reducible rfl))))
      | apply d_block
      | (apply d_true; (focus rfl); (focus rfl))
      | (apply d_false; (focus rfl); (focus rfl))
      | apply d_skip
      | apply d_exit
      | apply d_ret
      | with_reducible apply kt_ret
      | with_reducible apply kt_exit
      | with_reducible apply kb_normal
      | with_reducible apply kb_ret
      | with_reducible apply kb_here
      | with_reducible apply kl_ret
      | with_reducible apply kl_exit
      | with_reducible apply kc_ret
      | with_reducible apply kc_exit
      | (with_reducible apply kb_there; (focus rfl))
    refine l_call rfl rfl rfl (by first | (go_simp; done) | (go_simp; rfl)) (HC.out) ?_
    rintro e w' ⟨rfl, rfl⟩
    refine ⟨_, rfl, ?_⟩
    simp only [zptr, Option.map_some]
    repeat first
      | apply d_seq
      | with_reducible apply kt_normal
      | apply l_nil
      | apply d_region
      | (apply l_off; (focus rfl); (focus rfl))
      | (apply l_val; (focus rfl); (focus rfl); (focus rfl); (focus (go_simp; (try simp (disch := omega) only [wrap_in, wrap_in', wrap_u16, wrap_u8, wrap_u32, wrap_u64, rem_in, quo_in]); first | done | with_reducible rfl | (constructor <;> with_reducible rfl))))
      | (apply l_store; (focus rfl); (focus rfl); (focus rfl); (focus (go_simp; (try simp (disch := omega) only [wrap_in, wrap_in', wrap_u16, wrap_u8, wrap_u32, wrap_u64, rem_in, quo_in]); first | done | with_reducible rfl | (constructor <;> with_reducible rfl))))
      | apply d_block
      | (apply d_true; (focus rfl); (focus rfl))
      | (apply d_false; (focus rfl); (focus rfl))
      | apply d_skip
      | apply d_exit
      | apply d_ret
      | with_reducible apply kt_ret
      | with_reducible apply kt_exit
      | with_reducible apply kb_normal
      | with_reducible apply kb_ret
      | with_reducible apply kb_here
      | with_reducible apply kl_ret
      | with_reducible apply kl_exit
      | with_reducible apply kc_ret
      | with_reducible apply kc_exit
      | (with_reducible apply kb_there; (focus rfl))
    refine l_call rfl rfl rfl (by first | (go_simp; done) | (go_simp; rfl)) (HCL.out) ?_
    rintro e w' ⟨v', rfl, hk, ho'⟩
    have HO := Lib.hid (And.intro hk ho')
    clear hk ho'
    refine ⟨_, rfl, ?_⟩
    repeat first
      | apply d_seq
      | with_reducible apply kt_normal
      | apply l_nil
      | apply d_region
      | (apply l_off; (focus rfl); (focus rfl))
      | (apply l_val; (focus rfl); (focus rfl); (focus rfl); (focus (go_simp; (try simp (disch := omega) only [wrap_in, wrap_in', wrap_u16, wrap_u8, wrap_u32, wrap_u64, rem_in, quo_in]); first | done | with_reducible rfl | (constructor <;> with_reducible rfl))))
      | (apply l_store; (focus rfl); (focus rfl); (focus rfl); (focus (go_simp; (try simp (disch := omega) only [wrap_in, wrap_in', wrap_u16, wrap_u8, wrap_u32, wrap_u64, rem_in, quo_in]); first | done | with_reducible rfl | (constructor <;> with_reducible rfl))))
      | apply d_block
      | (apply d_true; (focus rfl); (focus rfl))
      | (apply d_false; (focus rfl); (focus rfl))
      | apply d_skip
      | apply d_exit
      | apply d_ret
      | with_reducible apply kt_ret
      | with_reducible apply kt_exit
      | with_reducible apply kb_normal
      | with_reducible apply kb_ret
      | with_reducible apply kb_here
      | with_reducible apply kl_ret
      | with_reducible apply kl_exit
      | with_reducible apply kc_ret
      | with_reducible apply kc_exit
      | (with_reducible apply kb_there; (focus rfl))
    refine ⟨rfl, _, (by first | (simp [resultsG, resOne, Try.results18, rho, List.lookup]; done) | (simp [resultsG, resOne, Try.results18, rho, List.lookup]; rfl)), ?_⟩
    exact ⟨v', rfl, HO.out.1, HO.out.2⟩
theorem len_any (t zb : Nat) (s : TS) (z : Int) (F : Nat → Prop) (w : World) (h : TRep w F t zb s) :
    Calls Try.prog 24 #[.pointer (some ⟨t, 0, none⟩), .int .i64 z] w fun e w' => e = .returned (.int .i64 (s.rowZ z).length) ∧ Keep none_ w w' := by
  have HC := Lib.hid (row_any t zb s z F w h)
  clear h
  refine d_calls (n := 9) Try.func24 rfl rfl (by simp) [(0, .pointer (some ⟨t, 0, none⟩)), (1, .int .i64 z)] (by simp) ?_
  repeat first
    | apply d_seq
    | with_reducible apply kt_normal
    | apply l_nil
    | apply d_region
    | (apply l_off; (focus rfl); (focus rfl))
    | (apply l_val; (focus rfl); (focus rfl); (focus rfl); (focus (go_simp; (try simp (disch := omega) only [wrap_in, wrap_in', wrap_u16, wrap_u8, wrap_u32, wrap_u64, rem_in, quo_in]); first | done | with_reducible rfl | (constructor <;> with_reducible rfl))))
    | (apply l_store; (focus rfl); (focus rfl); (focus rfl); (focus (go_simp; (try simp (disch := omega) only [wrap_in, wrap_in', wrap_u16, wrap_u8, wrap_u32, wrap_u64, rem_in, quo_in]); first | done | with_reducible rfl | (constructor <;> with_reducible rfl))))
    | apply d_block
    | (apply d_true; (focus rfl); (focus rfl))
    | (apply d_false; (focus rfl); (focus rfl))
    | apply d_skip
    | apply d_exit
    | apply d_ret
    | with_reducible apply kt_ret
    | with_reducible apply kt_exit
    | with_reducible apply kb_normal
    | with_reducible apply kb_ret
    | with_reducible apply kb_here
    | with_reducible apply kl_ret
    | with_reducible apply kl_exit
    | with_reducible apply kc_ret
    | with_reducible apply kc_exit
    | (with_reducible apply kb_there; (focus rfl))
  refine l_call rfl rfl rfl (by first | (go_simp; done) | (go_simp; rfl)) (HC.out) ?_
  rintro e w' ⟨v', rfl, hk, ho⟩
  obtain ⟨A, c, rfl, -, -⟩ := ho.len
  have HK := Lib.hid hk
  clear hk ho
  refine ⟨_, rfl, ?_⟩
  repeat first
    | apply d_seq
    | with_reducible apply kt_normal
    | apply l_nil
    | apply d_region
    | (apply l_off; (focus rfl); (focus rfl))
    | (apply l_val; (focus rfl); (focus rfl); (focus rfl); (focus (go_simp; (try simp (disch := omega) only [wrap_in, wrap_in', wrap_u16, wrap_u8, wrap_u32, wrap_u64, rem_in, quo_in]); first | done | with_reducible rfl | (constructor <;> with_reducible rfl))))
    | (apply l_store; (focus rfl); (focus rfl); (focus rfl); (focus (go_simp; (try simp (disch := omega) only [wrap_in, wrap_in', wrap_u16, wrap_u8, wrap_u32, wrap_u64, rem_in, quo_in]); first | done | with_reducible rfl | (constructor <;> with_reducible rfl))))
    | apply d_block
    | (apply d_true; (focus rfl); (focus rfl))
    | (apply d_false; (focus rfl); (focus rfl))
    | apply d_skip
    | apply d_exit
    | apply d_ret
    | with_reducible apply kt_ret
    | with_reducible apply kt_exit
    | with_reducible apply kb_normal
    | with_reducible apply kb_ret
    | with_reducible apply kb_here
    | with_reducible apply kl_ret
    | with_reducible apply kl_exit
    | with_reducible apply kc_ret
    | with_reducible apply kc_exit
    | (with_reducible apply kb_there; (focus rfl))
  refine ⟨rfl, _, (by first | (simp [resultsG, resOne, Try.results24, rho, List.lookup]; done) | (simp [resultsG, resOne, Try.results24, rho, List.lookup]; rfl)), ?_⟩
  exact ⟨rfl, HK.out⟩
end Go.Proofs.Ytilmodbiimjllaa
