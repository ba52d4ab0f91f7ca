import Derived.Test.YtkjcmnhhgnlaeaaLed6
namespace Go.Proofs.Ytkjcmnhhgnlaeaa
set_option linter.unusedVariables false
set_option linter.unusedSimpArgs false
attribute [local go_sem] rho_const rho_func rho_hit rho_miss
open Go.RowKit

/-- A step on what a ledger has. -/
def LS.does (s : LS) (kind oid : Int) (ls : List Ln) (id item qty : Int) : LS × Int :=
  if kind = 1 then s.openUp oid (ls.take 12) else if kind = 2 ∨ kind = 3 then s.turn id item qty 1 else if kind = 4 then s.turn id item qty 2 else if kind = 5 ∨ kind = 6 then s.turn id item qty 3 else if kind = 7 then s.drop id else (s, 0)
theorem does_2 (x : Nat) (s : LS) (oid : Int) (A : Option Addr) (n c : Nat) (id item qty : Int) (F : Nat → Prop) (w : World) (h : LRep w F x s) (hF : ∀ k, F k → k < w.heap.size) :
    Calls Try.prog 13 #[.pointer (some ⟨x, 0, none⟩), .agg #[.int .i64 2, .int .u32 oid, .slice A n c, .int .u32 id, .int .u16 item, .int .i64 qty]] w fun e w' => e = .returned (.int .i64 (s.turn id item qty 1).2) ∧ Keep F w w' ∧ LRep w' (fresh F w w') x (s.turn id item qty 1).1 := by
  have HC := Lib.hid (pPick_any x s id item qty F (w.alloc (.cells #[.int .i64 2, .int .u32 oid, .slice A n c, .int .u32 id, .int .u16 item, .int .i64 qty] 37)) (h.move (fun q hq hl => ⟨hq, Below.heap_alloc _ _ _ hl⟩)) (fun k hk => by have := hF k hk; simp; omega))
  clear h
  refine d_calls (n := 52) Try.func13 rfl rfl (by simp) [(0, .pointer (some ⟨x, 0, none⟩)), (1, .agg #[.int .i64 2, .int .u32 oid, .slice A n c, .int .u32 id, .int .u16 item, .int .i64 qty])] (by simp) ?_
  repeat first
    | apply d_seq
    | with_reducible apply kt_normal
    | apply l_nil
    | apply d_region
    | (apply l_off; (focus rfl); (focus rfl))
    | (apply l_val; (focus rfl); (focus rfl); (focus rfl); (focus (go_simp; (try simp (disch := omega) only [wrap_in, wrap_in', wrap_u16, wrap_u8, wrap_u32, wrap_u64, rem_in, quo_in]); first | done | with_reducible rfl | (constructor <;> with_reducible rfl))))
    | (apply l_store; (focus rfl); (focus rfl); (focus rfl); (focus (go_simp; (try simp (disch := omega) only [wrap_in, wrap_in', wrap_u16, wrap_u8, wrap_u32, wrap_u64, rem_in, quo_in]); first | done | with_reducible rfl | (constructor <;> with_reducible rfl))))
    | apply d_block
    | (apply d_true; (focus rfl); (focus rfl))
    | (apply d_false; (focus rfl); (focus rfl))
    | apply d_skip
    | apply d_exit
    | apply d_ret
    | with_reducible apply kt_ret
    | with_reducible apply kt_exit
    | with_reducible apply kb_normal
    | with_reducible apply kb_ret
    | with_reducible apply kb_here
    | with_reducible apply kl_ret
    | with_reducible apply kl_exit
    | with_reducible apply kc_ret
    | with_reducible apply kc_exit
    | (with_reducible apply kb_there; (focus rfl))
  refine l_call rfl rfl rfl (by first | (go_simp; done) | (go_simp; rfl)) (HC.out) ?_
  rintro e w' ⟨rfl, hk, hr⟩
  have HK := Lib.hid hk
  have HR := Lib.hid hr
  clear hk hr
  refine ⟨_, rfl, ?_⟩
  repeat first
    | apply d_seq
    | with_reducible apply kt_normal
    | apply l_nil
    | apply d_region
    | (apply l_off; (focus rfl); (focus rfl))
    | (apply l_val; (focus rfl); (focus rfl); (focus rfl); (focus (go_simp; (try simp (disch := omega) only [wrap_in, wrap_in', wrap_u16, wrap_u8, wrap_u32, wrap_u64, rem_in, quo_in]); first | done | with_reducible rfl | (constructor <;> with_reducible rfl))))
    | (apply l_store; (focus rfl); (focus rfl); (focus rfl); (focus (go_simp; (try simp (disch := omega) only [wrap_in, wrap_in', wrap_u16, wrap_u8, wrap_u32, wrap_u64, rem_in, quo_in]); first | done | with_reducible rfl | (constructor <;> with_reducible rfl))))
    | apply d_block
    | (apply d_true; (focus rfl); (focus rfl))
    | (apply d_false; (focus rfl); (focus rfl))
    | apply d_skip
    | apply d_exit
    | apply d_ret
    | with_reducible apply kt_ret
    | with_reducible apply kt_exit
    | with_reducible apply kb_normal
    | with_reducible apply kb_ret
    | with_reducible apply kb_here
    | with_reducible apply kl_ret
    | with_reducible apply kl_exit
    | with_reducible apply kc_ret
    | with_reducible apply kc_exit
    | (with_reducible apply kb_there; (focus rfl))
  refine ⟨rfl, _, (by first | (simp [resultsG, resOne, Try.results13, rho, List.lookup]; done) | (simp [resultsG, resOne, Try.results13, rho, List.lookup]; rfl)), ?_⟩
  exact ⟨rfl, ((Keep.refl F w).alloc _).trans (HK.out.mono (fun q c => .inl c)), HR.out.move (fun q hq _ => ⟨by rcases hq with c | c; exact .inl c; simp at c; exact .inr (by omega), rfl⟩)⟩
theorem does_3 (x : Nat) (s : LS) (oid : Int) (A : Option Addr) (n c : Nat) (id item qty : Int) (F : Nat → Prop) (w : World) (h : LRep w F x s) (hF : ∀ k, F k → k < w.heap.size) :
    Calls Try.prog 13 #[.pointer (some ⟨x, 0, none⟩), .agg #[.int .i64 3, .int .u32 oid, .slice A n c, .int .u32 id, .int .u16 item, .int .i64 qty]] w fun e w' => e = .returned (.int .i64 (s.turn id item qty 1).2) ∧ Keep F w w' ∧ LRep w' (fresh F w w') x (s.turn id item qty 1).1 := by
  have HC := Lib.hid (pPick_any x s id item qty F (w.alloc (.cells #[.int .i64 3, .int .u32 oid, .slice A n c, .int .u32 id, .int .u16 item, .int .i64 qty] 37)) (h.move (fun q hq hl => ⟨hq, Below.heap_alloc _ _ _ hl⟩)) (fun k hk => by have := hF k hk; simp; omega))
  clear h
  refine d_calls (n := 52) Try.func13 rfl rfl (by simp) [(0, .pointer (some ⟨x, 0, none⟩)), (1, .agg #[.int .i64 3, .int .u32 oid, .slice A n c, .int .u32 id, .int .u16 item, .int .i64 qty])] (by simp) ?_
  repeat first
    | apply d_seq
    | with_reducible apply kt_normal
    | apply l_nil
    | apply d_region
    | (apply l_off; (focus rfl); (focus rfl))
    | (apply l_val; (focus rfl); (focus rfl); (focus rfl); (focus (go_simp; (try simp (disch := omega) only [wrap_in, wrap_in', wrap_u16, wrap_u8, wrap_u32, wrap_u64, rem_in, quo_in]); first | done | with_reducible rfl | (constructor <;> with_reducible rfl))))
    | (apply l_store; (focus rfl); (focus rfl); (focus rfl); (focus (go_simp; (try simp (disch := omega) only [wrap_in, wrap_in', wrap_u16, wrap_u8, wrap_u32, wrap_u64, rem_in, quo_in]); first | done | with_reducible rfl | (constructor <;> with_reducible rfl))))
    | apply d_block
    | (apply d_true; (focus rfl); (focus rfl))
    | (apply d_false; (focus rfl); (focus rfl))
    | apply d_skip
    | apply d_exit
    | apply d_ret
    | with_reducible apply kt_ret
    | with_reducible apply kt_exit
    | with_reducible apply kb_normal
    | with_reducible apply kb_ret
    | with_reducible apply kb_here
    | with_reducible apply kl_ret
    | with_reducible apply kl_exit
    | with_reducible apply kc_ret
    | with_reducible apply kc_exit
    | (with_reducible apply kb_there; (focus rfl))
  refine l_call rfl rfl rfl (by first | (go_simp; done) | (go_simp; rfl)) (HC.out) ?_
  rintro e w' ⟨rfl, hk, hr⟩
  have HK := Lib.hid hk
  have HR := Lib.hid hr
  clear hk hr
  refine ⟨_, rfl, ?_⟩
  repeat first
    | apply d_seq
    | with_reducible apply kt_normal
    | apply l_nil
    | apply d_region
    | (apply l_off; (focus rfl); (focus rfl))
    | (apply l_val; (focus rfl); (focus rfl); (focus rfl); (focus (go_simp; (try simp (disch := omega) only [wrap_in, wrap_in', wrap_u16, wrap_u8, wrap_u32, wrap_u64, rem_in, quo_in]); first | done | with_reducible rfl | (constructor <;> with_reducible rfl))))
    | (apply l_store; (focus rfl); (focus rfl); (focus rfl); (focus (go_simp; (try simp (disch := omega) only [wrap_in, wrap_in', wrap_u16, wrap_u8, wrap_u32, wrap_u64, rem_in, quo_in]); first | done | with_reducible rfl | (constructor <;> with_reducible rfl))))
    | apply d_block
    | (apply d_true; (focus rfl); (focus rfl))
    | (apply d_false; (focus rfl); (focus rfl))
    | apply d_skip
    | apply d_exit
    | apply d_ret
    | with_reducible apply kt_ret
    | with_reducible apply kt_exit
    | with_reducible apply kb_normal
    | with_reducible apply kb_ret
    | with_reducible apply kb_here
    | with_reducible apply kl_ret
    | with_reducible apply kl_exit
    | with_reducible apply kc_ret
    | with_reducible apply kc_exit
    | (with_reducible apply kb_there; (focus rfl))
  refine ⟨rfl, _, (by first | (simp [resultsG, resOne, Try.results13, rho, List.lookup]; done) | (simp [resultsG, resOne, Try.results13, rho, List.lookup]; rfl)), ?_⟩
  exact ⟨rfl, ((Keep.refl F w).alloc _).trans (HK.out.mono (fun q c => .inl c)), HR.out.move (fun q hq _ => ⟨by rcases hq with c | c; exact .inl c; simp at c; exact .inr (by omega), rfl⟩)⟩
theorem does_4 (x : Nat) (s : LS) (oid : Int) (A : Option Addr) (n c : Nat) (id item qty : Int) (F : Nat → Prop) (w : World) (h : LRep w F x s) (hF : ∀ k, F k → k < w.heap.size) :
    Calls Try.prog 13 #[.pointer (some ⟨x, 0, none⟩), .agg #[.int .i64 4, .int .u32 oid, .slice A n c, .int .u32 id, .int .u16 item, .int .i64 qty]] w fun e w' => e = .returned (.int .i64 (s.turn id item qty 2).2) ∧ Keep F w w' ∧ LRep w' (fresh F w w') x (s.turn id item qty 2).1 := by
  have HC := Lib.hid (pShort_any x s id item qty F (w.alloc (.cells #[.int .i64 4, .int .u32 oid, .slice A n c, .int .u32 id, .int .u16 item, .int .i64 qty] 37)) (h.move (fun q hq hl => ⟨hq, Below.heap_alloc _ _ _ hl⟩)) (fun k hk => by have := hF k hk; simp; omega))
  clear h
  refine d_calls (n := 52) Try.func13 rfl rfl (by simp) [(0, .pointer (some ⟨x, 0, none⟩)), (1, .agg #[.int .i64 4, .int .u32 oid, .slice A n c, .int .u32 id, .int .u16 item, .int .i64 qty])] (by simp) ?_
  repeat first
    | apply d_seq
    | with_reducible apply kt_normal
    | apply l_nil
    | apply d_region
    | (apply l_off; (focus rfl); (focus rfl))
    | (apply l_val; (focus rfl); (focus rfl); (focus rfl); (focus (go_simp; (try simp (disch := omega) only [wrap_in, wrap_in', wrap_u16, wrap_u8, wrap_u32, wrap_u64, rem_in, quo_in]); first | done | with_reducible rfl | (constructor <;> with_reducible rfl))))
    | (apply l_store; (focus rfl); (focus rfl); (focus rfl); (focus (go_simp; (try simp (disch := omega) only [wrap_in, wrap_in', wrap_u16, wrap_u8, wrap_u32, wrap_u64, rem_in, quo_in]); first | done | with_reducible rfl | (constructor <;> with_reducible rfl))))
    | apply d_block
    | (apply d_true; (focus rfl); (focus rfl))
    | (apply d_false; (focus rfl); (focus rfl))
    | apply d_skip
    | apply d_exit
    | apply d_ret
    | with_reducible apply kt_ret
    | with_reducible apply kt_exit
    | with_reducible apply kb_normal
    | with_reducible apply kb_ret
    | with_reducible apply kb_here
    | with_reducible apply kl_ret
    | with_reducible apply kl_exit
    | with_reducible apply kc_ret
    | with_reducible apply kc_exit
    | (with_reducible apply kb_there; (focus rfl))
  refine l_call rfl rfl rfl (by first | (go_simp; done) | (go_simp; rfl)) (HC.out) ?_
  rintro e w' ⟨rfl, hk, hr⟩
  have HK := Lib.hid hk
  have HR := Lib.hid hr
  clear hk hr
  refine ⟨_, rfl, ?_⟩
  repeat first
    | apply d_seq
    | with_reducible apply kt_normal
    | apply l_nil
    | apply d_region
    | (apply l_off; (focus rfl); (focus rfl))
    | (apply l_val; (focus rfl); (focus rfl); (focus rfl); (focus (go_simp; (try simp (disch := omega) only [wrap_in, wrap_in', wrap_u16, wrap_u8, wrap_u32, wrap_u64, rem_in, quo_in]); first | done | with_reducible rfl | (constructor <;> with_reducible rfl))))
    | (apply l_store; (focus rfl); (focus rfl); (focus rfl); (focus (go_simp; (try simp (disch := omega) only [wrap_in, wrap_in', wrap_u16, wrap_u8, wrap_u32, wrap_u64, rem_in, quo_in]); first | done | with_reducible rfl | (constructor <;> with_reducible rfl))))
    | apply d_block
    | (apply d_true; (focus rfl); (focus rfl))
    | (apply d_false; (focus rfl); (focus rfl))
    | apply d_skip
    | apply d_exit
    | apply d_ret
    | with_reducible apply kt_ret
    | with_reducible apply kt_exit
    | with_reducible apply kb_normal
    | with_reducible apply kb_ret
    | with_reducible apply kb_here
    | with_reducible apply kl_ret
    | with_reducible apply kl_exit
    | with_reducible apply kc_ret
    | with_reducible apply kc_exit
    | (with_reducible apply kb_there; (focus rfl))
  refine ⟨rfl, _, (by first | (simp [resultsG, resOne, Try.results13, rho, List.lookup]; done) | (simp [resultsG, resOne, Try.results13, rho, List.lookup]; rfl)), ?_⟩
  exact ⟨rfl, ((Keep.refl F w).alloc _).trans (HK.out.mono (fun q c => .inl c)), HR.out.move (fun q hq _ => ⟨by rcases hq with c | c; exact .inl c; simp at c; exact .inr (by omega), rfl⟩)⟩
theorem does_5 (x : Nat) (s : LS) (oid : Int) (A : Option Addr) (n c : Nat) (id item qty : Int) (F : Nat → Prop) (w : World) (h : LRep w F x s) (hF : ∀ k, F k → k < w.heap.size) :
    Calls Try.prog 13 #[.pointer (some ⟨x, 0, none⟩), .agg #[.int .i64 5, .int .u32 oid, .slice A n c, .int .u32 id, .int .u16 item, .int .i64 qty]] w fun e w' => e = .returned (.int .i64 (s.turn id item qty 3).2) ∧ Keep F w w' ∧ LRep w' (fresh F w w') x (s.turn id item qty 3).1 := by
  have HC := Lib.hid (pPut_any x s id item qty F (w.alloc (.cells #[.int .i64 5, .int .u32 oid, .slice A n c, .int .u32 id, .int .u16 item, .int .i64 qty] 37)) (h.move (fun q hq hl => ⟨hq, Below.heap_alloc _ _ _ hl⟩)) (fun k hk => by have := hF k hk; simp; omega))
  clear h
  refine d_calls (n := 52) Try.func13 rfl rfl (by simp) [(0, .pointer (some ⟨x, 0, none⟩)), (1, .agg #[.int .i64 5, .int .u32 oid, .slice A n c, .int .u32 id, .int .u16 item, .int .i64 qty])] (by simp) ?_
  repeat first
    | apply d_seq
    | with_reducible apply kt_normal
    | apply l_nil
    | apply d_region
    | (apply l_off; (focus rfl); (focus rfl))
    | (apply l_val; (focus rfl); (focus rfl); (focus rfl); (focus (go_simp; (try simp (disch := omega) only [wrap_in, wrap_in', wrap_u16, wrap_u8, wrap_u32, wrap_u64, rem_in, quo_in]); first | done | with_reducible rfl | (constructor <;> with_reducible rfl))))
    | (apply l_store; (focus rfl); (focus rfl); (focus rfl); (focus (go_simp; (try simp (disch := omega) only [wrap_in, wrap_in', wrap_u16, wrap_u8, wrap_u32, wrap_u64, rem_in, quo_in]); first | done | with_reducible rfl | (constructor <;> with_reducible rfl))))
    | apply d_block
    | (apply d_true; (focus rfl); (focus rfl))
    | (apply d_false; (focus rfl); (focus rfl))
    | apply d_skip
    | apply d_exit
    | apply d_ret
    | with_reducible apply kt_ret
    | with_reducible apply kt_exit
    | with_reducible apply kb_normal
    | with_reducible apply kb_ret
    | with_reducible apply kb_here
    | with_reducible apply kl_ret
    | with_reducible apply kl_exit
    | with_reducible apply kc_ret
    | with_reducible apply kc_exit
    | (with_reducible apply kb_there; (focus rfl))
  refine l_call rfl rfl rfl (by first | (go_simp; done) | (go_simp; rfl)) (HC.out) ?_
  rintro e w' ⟨rfl, hk, hr⟩
  have HK := Lib.hid hk
  have HR := Lib.hid hr
  clear hk hr
  refine ⟨_, rfl, ?_⟩
  repeat first
    | apply d_seq
    | with_reducible apply kt_normal
    | apply l_nil
    | apply d_region
    | (apply l_off; (focus rfl); (focus rfl))
    | (apply l_val; (focus rfl); (focus rfl); (focus rfl); (focus (go_simp; (try simp (disch := omega) only [wrap_in, wrap_in', wrap_u16, wrap_u8, wrap_u32, wrap_u64, rem_in, quo_in]); first | done | with_reducible rfl | (constructor <;> with_reducible rfl))))
    | (apply l_store; (focus rfl); (focus rfl); (focus rfl); (focus (go_simp; (try simp (disch := omega) only [wrap_in, wrap_in', wrap_u16, wrap_u8, wrap_u32, wrap_u64, rem_in, quo_in]); first | done | with_reducible rfl | (constructor <;> with_reducible rfl))))
    | apply d_block
    | (apply d_true; (focus rfl); (focus rfl))
    | (apply d_false; (focus rfl); (focus rfl))
    | apply d_skip
    | apply d_exit
    | apply d_ret
    | with_reducible apply kt_ret
    | with_reducible apply kt_exit
    | with_reducible apply kb_normal
    | with_reducible apply kb_ret
    | with_reducible apply kb_here
    | with_reducible apply kl_ret
    | with_reducible apply kl_exit
    | with_reducible apply kc_ret
    | with_reducible apply kc_exit
    | (with_reducible apply kb_there; (focus rfl))
  refine ⟨rfl, _, (by first | (simp [resultsG, resOne, Try.results13, rho, List.lookup]; done) | (simp [resultsG, resOne, Try.results13, rho, List.lookup]; rfl)), ?_⟩
  exact ⟨rfl, ((Keep.refl F w).alloc _).trans (HK.out.mono (fun q c => .inl c)), HR.out.move (fun q hq _ => ⟨by rcases hq with c | c; exact .inl c; simp at c; exact .inr (by omega), rfl⟩)⟩
theorem does_6 (x : Nat) (s : LS) (oid : Int) (A : Option Addr) (n c : Nat) (id item qty : Int) (F : Nat → Prop) (w : World) (h : LRep w F x s) (hF : ∀ k, F k → k < w.heap.size) :
    Calls Try.prog 13 #[.pointer (some ⟨x, 0, none⟩), .agg #[.int .i64 6, .int .u32 oid, .slice A n c, .int .u32 id, .int .u16 item, .int .i64 qty]] w fun e w' => e = .returned (.int .i64 (s.turn id item qty 3).2) ∧ Keep F w w' ∧ LRep w' (fresh F w w') x (s.turn id item qty 3).1 := by
  have HC := Lib.hid (pPut_any x s id item qty F (w.alloc (.cells #[.int .i64 6, .int .u32 oid, .slice A n c, .int .u32 id, .int .u16 item, .int .i64 qty] 37)) (h.move (fun q hq hl => ⟨hq, Below.heap_alloc _ _ _ hl⟩)) (fun k hk => by have := hF k hk; simp; omega))
  clear h
  refine d_calls (n := 52) Try.func13 rfl rfl (by simp) [(0, .pointer (some ⟨x, 0, none⟩)), (1, .agg #[.int .i64 6, .int .u32 oid, .slice A n c, .int .u32 id, .int .u16 item, .int .i64 qty])] (by simp) ?_
  repeat first
    | apply d_seq
    | with_reducible apply kt_normal
    | apply l_nil
    | apply d_region
    | (apply l_off; (focus rfl); (focus rfl))
    | (apply l_val; (focus rfl); (focus rfl); (focus rfl); (focus (go_simp; (try simp (disch := omega) only [wrap_in, wrap_in', wrap_u16, wrap_u8, wrap_u32, wrap_u64, rem_in, quo_in]); first | done | with_reducible rfl | (constructor <;> with_reducible rfl))))
    | (apply l_store; (focus rfl); (focus rfl); (focus rfl); (focus (go_simp; (try simp (disch := omega) only [wrap_in, wrap_in', wrap_u16, wrap_u8, wrap_u32, wrap_u64, rem_in, quo_in]); first | done | with_reducible rfl | (constructor <;> with_reducible rfl))))
    | apply d_block
    | (apply d_true; (focus rfl); (focus rfl))
    | (apply d_false; (focus rfl); (focus rfl))
    | apply d_skip
    | apply d_exit
    | apply d_ret
    | with_reducible apply kt_ret
    | with_reducible apply kt_exit
    | with_reducible apply kb_normal
    | with_reducible apply kb_ret
    | with_reducible apply kb_here
    | with_reducible apply kl_ret
    | with_reducible apply kl_exit
    | with_reducible apply kc_ret
    | with_reducible apply kc_exit
    | (with_reducible apply kb_there; (focus rfl))
  refine l_call rfl rfl rfl (by first | (go_simp; done) | (go_simp; rfl)) (HC.out) ?_
  rintro e w' ⟨rfl, hk, hr⟩
  have HK := Lib.hid hk
  have HR := Lib.hid hr
  clear hk hr
  refine ⟨_, rfl, ?_⟩
  repeat first
    | apply d_seq
    | with_reducible apply kt_normal
    | apply l_nil
    | apply d_region
    | (apply l_off; (focus rfl); (focus rfl))
    | (apply l_val; (focus rfl); (focus rfl); (focus rfl); (focus (go_simp; (try simp (disch := omega) only [wrap_in, wrap_in', wrap_u16, wrap_u8, wrap_u32, wrap_u64, rem_in, quo_in]); first | done | with_reducible rfl | (constructor <;> with_reducible rfl))))
    | (apply l_store; (focus rfl); (focus rfl); (focus rfl); (focus (go_simp; (try simp (disch := omega) only [wrap_in, wrap_in', wrap_u16, wrap_u8, wrap_u32, wrap_u64, rem_in, quo_in]); first | done | with_reducible rfl | (constructor <;> with_reducible rfl))))
    | apply d_block
    | (apply d_true; (focus rfl); (focus rfl))
    | (apply d_false; (focus rfl); (focus rfl))
    | apply d_skip
    | apply d_exit
    | apply d_ret
    | with_reducible apply kt_ret
    | with_reducible apply kt_exit
    | with_reducible apply kb_normal
    | with_reducible apply kb_ret
    | with_reducible apply kb_here
    | with_reducible apply kl_ret
    | with_reducible apply kl_exit
    | with_reducible apply kc_ret
    | with_reducible apply kc_exit
    | (with_reducible apply kb_there; (focus rfl))
  refine ⟨rfl, _, (by first | (simp [resultsG, resOne, Try.results13, rho, List.lookup]; done) | (simp [resultsG, resOne, Try.results13, rho, List.lookup]; rfl)), ?_⟩
  exact ⟨rfl, ((Keep.refl F w).alloc _).trans (HK.out.mono (fun q c => .inl c)), HR.out.move (fun q hq _ => ⟨by rcases hq with c | c; exact .inl c; simp at c; exact .inr (by omega), rfl⟩)⟩
theorem does_7 (x : Nat) (s : LS) (oid : Int) (A : Option Addr) (n c : Nat) (id item qty : Int) (F : Nat → Prop) (w : World) (h : LRep w F x s) :
    Calls Try.prog 13 #[.pointer (some ⟨x, 0, none⟩), .agg #[.int .i64 7, .int .u32 oid, .slice A n c, .int .u32 id, .int .u16 item, .int .i64 qty]] w fun e w' => e = .returned (.int .i64 (s.drop id).2) ∧ Keep F w w' ∧ LRep w' (fresh F w w') x (s.drop id).1 := by
  have HC := Lib.hid (drop_any x s id F (w.alloc (.cells #[.int .i64 7, .int .u32 oid, .slice A n c, .int .u32 id, .int .u16 item, .int .i64 qty] 37)) (h.move (fun q hq hl => ⟨hq, Below.heap_alloc _ _ _ hl⟩)))
  clear h
  refine d_calls (n := 52) Try.func13 rfl rfl (by simp) [(0, .pointer (some ⟨x, 0, none⟩)), (1, .agg #[.int .i64 7, .int .u32 oid, .slice A n c, .int .u32 id, .int .u16 item, .int .i64 qty])] (by simp) ?_
  repeat first
    | apply d_seq
    | with_reducible apply kt_normal
    | apply l_nil
    | apply d_region
    | (apply l_off; (focus rfl); (focus rfl))
    | (apply l_val; (focus rfl); (focus rfl); (focus rfl); (focus (go_simp; (try simp (disch := omega) only [wrap_in, wrap_in', wrap_u16, wrap_u8, wrap_u32, wrap_u64, rem_in, quo_in]); first | done | with_reducible rfl | (constructor <;> with_reducible rfl))))
    | (apply l_store; (focus rfl); (focus rfl); (focus rfl); (focus (go_simp; (try simp (disch := omega) only [wrap_in, wrap_in', wrap_u16, wrap_u8, wrap_u32, wrap_u64, rem_in, quo_in]); first | done | with_reducible rfl | (constructor <;> with_reducible rfl))))
    | apply d_block
    | (apply d_true; (focus rfl); (focus rfl))
    | (apply d_false; (focus rfl); (focus rfl))
    | apply d_skip
    | apply d_exit
    | apply d_ret
    | with_reducible apply kt_ret
    | with_reducible apply kt_exit
    | with_reducible apply kb_normal
    | with_reducible apply kb_ret
    | with_reducible apply kb_here
    | with_reducible apply kl_ret
    | with_reducible apply kl_exit
    | with_reducible apply kc_ret
    | with_reducible apply kc_exit
    | (with_reducible apply kb_there; (focus rfl))
  refine l_call rfl rfl rfl (by first | (go_simp; done) | (go_simp; rfl)) (HC.out) ?_
  rintro e w' ⟨rfl, hk, hr⟩
  have HK := Lib.hid hk
  have HR := Lib.hid hr
  clear hk hr
  refine ⟨_, rfl, ?_⟩
  repeat first
    | apply d_seq
    | with_reducible apply kt_normal
    | apply l_nil
    | apply d_region
    | (apply l_off; (focus rfl); (focus rfl))
    | (apply l_val; (focus rfl); (focus rfl); (focus rfl); (focus (go_simp; (try simp (disch := omega) only [wrap_in, wrap_in', wrap_u16, wrap_u8, wrap_u32, wrap_u64, rem_in, quo_in]); first | done | with_reducible rfl | (constructor <;> with_reducible rfl))))
    | (apply l_store; (focus rfl); (focus rfl); (focus rfl); (focus (go_simp; (try simp (disch := omega) only [wrap_in, wrap_in', wrap_u16, wrap_u8, wrap_u32, wrap_u64, rem_in, quo_in]); first | done | with_reducible rfl | (constructor <;> with_reducible rfl))))
    | apply d_block
    | (apply d_true; (focus rfl); (focus rfl))
    | (apply d_false; (focus rfl); (focus rfl))
    | apply d_skip
    | apply d_exit
    | apply d_ret
    | with_reducible apply kt_ret
    | with_reducible apply kt_exit
    | with_reducible apply kb_normal
    | with_reducible apply kb_ret
    | with_reducible apply kb_here
    | with_reducible apply kl_ret
    | with_reducible apply kl_exit
    | with_reducible apply kc_ret
    | with_reducible apply kc_exit
    | (with_reducible apply kb_there; (focus rfl))
  refine ⟨rfl, _, (by first | (simp [resultsG, resOne, Try.results13, rho, List.lookup]; done) | (simp [resultsG, resOne, Try.results13, rho, List.lookup]; rfl)), ?_⟩
  exact ⟨rfl, ((Keep.refl F w).alloc _).trans (HK.out.mono (fun q c => .inl c)), HR.out.move (fun q hq _ => ⟨by rcases hq with c | c; exact .inl c; simp at c; exact .inr (by omega), rfl⟩)⟩
theorem does_none (x : Nat) (s : LS) (kind oid : Int) (A : Option Addr) (n c : Nat) (id item qty : Int) (F : Nat → Prop) (w : World) (h : LRep w F x s) (hk : ∀ k : Int, 1 ≤ k → k ≤ 7 → (kind == k) = false) :
    Calls Try.prog 13 #[.pointer (some ⟨x, 0, none⟩), .agg #[.int .i64 kind, .int .u32 oid, .slice A n c, .int .u32 id, .int .u16 item, .int .i64 qty]] w fun e w' => e = .returned (.int .i64 0) ∧ Keep F w w' ∧ LRep w' (fresh F w w') x s := by
  have H := Lib.hid h
  have k1 := hk 1 (by decide) (by decide)
  have k2 := hk 2 (by decide) (by decide)
  have k3 := hk 3 (by decide) (by decide)
  have k4 := hk 4 (by decide) (by decide)
  have k5 := hk 5 (by decide) (by decide)
  have k6 := hk 6 (by decide) (by decide)
  have k7 := hk 7 (by decide) (by decide)
  clear h hk
  refine d_calls (n := 52) Try.func13 rfl rfl (by simp) [(0, .pointer (some ⟨x, 0, none⟩)), (1, .agg #[.int .i64 kind, .int .u32 oid, .slice A n c, .int .u32 id, .int .u16 item, .int .i64 qty])] (by simp) ?_
  repeat first
    | apply d_seq
    | with_reducible apply kt_normal
    | apply l_nil
    | apply d_region
    | (apply l_off; (focus rfl); (focus rfl))
    | (apply l_val; (focus rfl); (focus rfl); (focus rfl); (focus (go_simp; (try simp (disch := omega) only [wrap_in, wrap_in', wrap_u16, wrap_u8, wrap_u32, wrap_u64, rem_in, quo_in]); first | done | with_reducible rfl | (constructor <;> with_reducible rfl))))
    | (apply l_store; (focus rfl); (focus rfl); (focus rfl); (focus (go_simp; (try simp (disch := omega) only [wrap_in, wrap_in', wrap_u16, wrap_u8, wrap_u32, wrap_u64, rem_in, quo_in]); first | done | with_reducible rfl | (constructor <;> with_reducible rfl))))
    | apply d_block
    | (apply d_true; (focus rfl); (focus rfl))
    | (apply d_false; (focus rfl); (focus rfl))
    | apply d_skip
    | apply d_exit
    | apply d_ret
    | with_reducible apply kt_ret
    | with_reducible apply kt_exit
    | with_reducible apply kb_normal
    | with_reducible apply kb_ret
    | with_reducible apply kb_here
    | with_reducible apply kl_ret
    | with_reducible apply kl_exit
    | with_reducible apply kc_ret
    | with_reducible apply kc_exit
    | (with_reducible apply kb_there; (focus rfl))
  refine ⟨rfl, _, (by first | (simp [resultsG, resOne, Try.results13, rho, List.lookup]; done) | (simp [resultsG, resOne, Try.results13, rho, List.lookup]; rfl)), ?_⟩
  exact ⟨rfl, (Keep.refl F w).alloc _, H.out.move (fun q hq hl => ⟨.inl hq, Below.heap_alloc _ _ _ hl⟩)⟩
theorem does_1 (x : Nat) (s : LS) (oid : Int) (v : Value) (ls : List Ln) (id item qty : Int) (F G : Nat → Prop) (w : World) (h : LRep w F x s) (hF : ∀ k, F k → k < w.heap.size) (hv : SeesIn w G 3 v ls.length (lns ls)) :
    Calls Try.prog 13 #[.pointer (some ⟨x, 0, none⟩), .agg #[.int .i64 1, .int .u32 oid, v, .int .u32 id, .int .u16 item, .int .i64 qty]] w fun e w' => e = .returned (.int .i64 (s.openUp oid (ls.take 12)).2) ∧ Keep F w w' ∧ LRep w' (fresh F w w') x (s.openUp oid (ls.take 12)).1 := by
  have H := Lib.hid h
  have HF := Lib.hid hF
  obtain ⟨A, c, rfl, -, -, -⟩ := hv.form
  have HC := Lib.hid (few_any oid (.slice A ls.length c) ls G (w.alloc (.cells #[.int .i64 1, .int .u32 oid, .slice A ls.length c, .int .u32 id, .int .u16 item, .int .i64 qty] 37)) (hv.move (by simp) (fun q hq hl => ⟨hq, Below.heap_alloc _ _ _ hl⟩)))
  clear h hv hF
  refine d_calls (n := 52) Try.func13 rfl rfl (by simp) [(0, .pointer (some ⟨x, 0, none⟩)), (1, .agg #[.int .i64 1, .int .u32 oid, .slice A ls.length c, .int .u32 id, .int .u16 item, .int .i64 qty])] (by simp) ?_
  repeat first
    | apply d_seq
    | with_reducible apply kt_normal
    | apply l_nil
    | apply d_region
    | (apply l_off; (focus rfl); (focus rfl))
    | (apply l_val; (focus rfl); (focus rfl); (focus rfl); (focus (go_simp; (try simp (disch := omega) only [wrap_in, wrap_in', wrap_u16, wrap_u8, wrap_u32, wrap_u64, rem_in, quo_in]); first | done | with_reducible rfl | (constructor <;> with_reducible rfl))))
    | (apply l_store; (focus rfl); (focus rfl); (focus rfl); (focus (go_simp; (try simp (disch := omega) only [wrap_in, wrap_in', wrap_u16, wrap_u8, wrap_u32, wrap_u64, rem_in, quo_in]); first | done | with_reducible rfl | (constructor <;> with_reducible rfl))))
    | apply d_block
    | (apply d_true; (focus rfl); (focus rfl))
    | (apply d_false; (focus rfl); (focus rfl))
    | apply d_skip
    | apply d_exit
    | apply d_ret
    | with_reducible apply kt_ret
    | with_reducible apply kt_exit
    | with_reducible apply kb_normal
    | with_reducible apply kb_ret
    | with_reducible apply kb_here
    | with_reducible apply kl_ret
    | with_reducible apply kl_exit
    | with_reducible apply kc_ret
    | with_reducible apply kc_exit
    | (with_reducible apply kb_there; (focus rfl))
  refine l_call rfl rfl rfl (by first | (go_simp; done) | (go_simp; rfl)) (HC.out) ?_
  rintro e w1 ⟨v', rfl, hk, ho⟩
  have hk1 : Keep none_ w w1 := ((Keep.refl none_ w).alloc _).next hk
  have HO := Lib.hid (lOpen_any x s oid v' (ls.take 12) F (fun q => w.heap.size ≤ q) w1 (H.out.move (fun q hq hl => ⟨hq, hk1.block q hl (fun c => c)⟩)) (ho.sees.move (Nat.le_refl _) (fun q hq _ => ⟨by rcases hq with c | c; exact c.elim; simp at c; omega, rfl⟩)) (fun q hq c => by have := HF.out q c; omega))
  have HK := Lib.hid hk1
  clear hk ho hk1
  refine ⟨_, rfl, ?_⟩
  repeat first
    | apply d_seq
    | with_reducible apply kt_normal
    | apply l_nil
    | apply d_region
    | (apply l_off; (focus rfl); (focus rfl))
    | (apply l_val; (focus rfl); (focus rfl); (focus rfl); (focus (go_simp; (try simp (disch := omega) only [wrap_in, wrap_in', wrap_u16, wrap_u8, wrap_u32, wrap_u64, rem_in, quo_in]); first | done | with_reducible rfl | (constructor <;> with_reducible rfl))))
    | (apply l_store; (focus rfl); (focus rfl); (focus rfl); (focus (go_simp; (try simp (disch := omega) only [wrap_in, wrap_in', wrap_u16, wrap_u8, wrap_u32, wrap_u64, rem_in, quo_in]); first | done | with_reducible rfl | (constructor <;> with_reducible rfl))))
    | apply d_block
    | (apply d_true; (focus rfl); (focus rfl))
    | (apply d_false; (focus rfl); (focus rfl))
    | apply d_skip
    | apply d_exit
    | apply d_ret
    | with_reducible apply kt_ret
    | with_reducible apply kt_exit
    | with_reducible apply kb_normal
    | with_reducible apply kb_ret
    | with_reducible apply kb_here
    | with_reducible apply kl_ret
    | with_reducible apply kl_exit
    | with_reducible apply kc_ret
    | with_reducible apply kc_exit
    | (with_reducible apply kb_there; (focus rfl))
  refine l_call rfl rfl rfl (by first | (go_simp; done) | (go_simp; rfl)) (HO.out) ?_
  rintro e w' ⟨rfl, hk, hr⟩
  have HK2 := Lib.hid hk
  have HR := Lib.hid hr
  clear hk hr
  refine ⟨_, rfl, ?_⟩
  repeat first
    | apply d_seq
    | with_reducible apply kt_normal
    | apply l_nil
    | apply d_region
    | (apply l_off; (focus rfl); (focus rfl))
    | (apply l_val; (focus rfl); (focus rfl); (focus rfl); (focus (go_simp; (try simp (disch := omega) only [wrap_in, wrap_in', wrap_u16, wrap_u8, wrap_u32, wrap_u64, rem_in, quo_in]); first | done | with_reducible rfl | (constructor <;> with_reducible rfl))))
    | (apply l_store; (focus rfl); (focus rfl); (focus rfl); (focus (go_simp; (try simp (disch := omega) only [wrap_in, wrap_in', wrap_u16, wrap_u8, wrap_u32, wrap_u64, rem_in, quo_in]); first | done | with_reducible rfl | (constructor <;> with_reducible rfl))))
    | apply d_block
    | (apply d_true; (focus rfl); (focus rfl))
    | (apply d_false; (focus rfl); (focus rfl))
    | apply d_skip
    | apply d_exit
    | apply d_ret
    | with_reducible apply kt_ret
    | with_reducible apply kt_exit
    | with_reducible apply kb_normal
    | with_reducible apply kb_ret
    | with_reducible apply kb_here
    | with_reducible apply kl_ret
    | with_reducible apply kl_exit
    | with_reducible apply kc_ret
    | with_reducible apply kc_exit
    | (with_reducible apply kb_there; (focus rfl))
  refine ⟨rfl, _, (by first | (simp [resultsG, resOne, Try.results13, rho, List.lookup]; done) | (simp [resultsG, resOne, Try.results13, rho, List.lookup]; rfl)), ?_⟩
  exact ⟨rfl, HK.out.none.trans (HK2.out.mono (fun q c => .inl c)), HR.out.move (fun q hq _ => ⟨by rcases hq with c | c; exact .inl c; exact .inr ⟨by have := HK.out.size; omega, c.2⟩, rfl⟩)⟩
theorem does_any (x : Nat) (s : LS) (kind oid : Int) (v : Value) (ls : List Ln) (id item qty : Int) (F G : Nat → Prop) (w : World) (h : LRep w F x s) (hF : ∀ k, F k → k < w.heap.size) (hv : SeesIn w G 3 v ls.length (lns ls)) :
    Calls Try.prog 13 #[.pointer (some ⟨x, 0, none⟩), .agg #[.int .i64 kind, .int .u32 oid, v, .int .u32 id, .int .u16 item, .int .i64 qty]] w fun e w' => e = .returned (.int .i64 (s.does kind oid ls id item qty).2) ∧ Keep F w w' ∧ LRep w' (fresh F w w') x (s.does kind oid ls id item qty).1 := by
  by_cases h1 : kind = 1
  · subst h1
    exact does_1 x s oid v ls id item qty F G w h hF hv
  obtain ⟨A, c, rfl, -, -, -⟩ := hv.form
  by_cases h2 : kind = 2
  · subst h2; exact does_2 x s oid A _ c id item qty F w h hF
  by_cases h3 : kind = 3
  · subst h3; exact does_3 x s oid A _ c id item qty F w h hF
  by_cases h4 : kind = 4
  · subst h4; exact does_4 x s oid A _ c id item qty F w h hF
  by_cases h5 : kind = 5
  · subst h5; exact does_5 x s oid A _ c id item qty F w h hF
  by_cases h6 : kind = 6
  · subst h6; exact does_6 x s oid A _ c id item qty F w h hF
  by_cases h7 : kind = 7
  · subst h7; exact does_7 x s oid A _ c id item qty F w h
  have e : s.does kind oid ls id item qty = (s, 0) := by
    unfold LS.does
    rw [if_neg h1, if_neg (by omega), if_neg h4, if_neg (by omega), if_neg h7]
  rw [e]
  exact does_none x s kind oid A _ c id item qty F w h (fun k _ _ => by simp; omega)
end Go.Proofs.Ytkjcmnhhgnlaeaa
