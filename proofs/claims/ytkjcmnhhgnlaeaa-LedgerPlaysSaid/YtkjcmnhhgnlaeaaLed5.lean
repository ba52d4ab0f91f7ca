import Derived.Test.YtkjcmnhhgnlaeaaLed4
import Derived.WalkSpells
namespace Go.Proofs.Ytkjcmnhhgnlaeaa
set_option linter.unusedVariables false
set_option linter.unusedSimpArgs false
attribute [local go_sem] rho_const rho_func rho_hit rho_miss
open Go.RowKit

theorem lineE_ok {a : List Ln} {l : Ln} (h : lineE a l = 0) : l.loc < 64 ∧ 1 ≤ l.qty ∧ l.qty ≤ 9999 ∧ a.any (fun x => x.item == l.item || x.loc == l.loc) = false := by
  unfold lineE at h
  split at h
  · omega
  · split at h
    · omega
    · split at h
      · omega
      · rename_i h1 h2 h3; exact ⟨by omega, by omega, by omega, by simpa using h3⟩
theorem errFrom_ok {ls : List Ln} : ∀ (d k : Nat), errFrom ls d k = 0 → ∀ j, k ≤ j → j < k + d → ∀ l, ls[j]? = some l → lineE (ls.take j) l = 0 := by
  intro d
  induction d with
  | zero => intro k _ j h1 h2; omega
  | succ d ih =>
    intro k h j h1 h2 l hl
    have hjl := (List.getElem?_eq_some_iff.1 hl).1
    rw [errFrom, List.getElem?_eq_getElem (by omega)] at h
    simp only at h
    split at h
    · rename_i h0
      by_cases e : j = k
      · subst e
        rw [List.getElem?_eq_getElem (by omega)] at hl
        simp only [Option.some.injEq] at hl
        rw [← hl]; exact h0
      · exact ih (k + 1) h j (by omega) (by omega) l hl
    · rename_i h0; exact absurd h h0
theorem right_len {ls : List Ln} (h : rightE ls = 0) : 0 < ls.length ∧ ls.length ≤ 8 := by
  unfold rightE at h
  split at h
  · omega
  · split at h
    · omega
    · omega
theorem right_line {ls : List Ln} (h : rightE ls = 0) {j : Nat} {l : Ln} (hl : ls[j]? = some l) : lineE (ls.take j) l = 0 := by
  have hn := right_len h
  unfold rightE at h
  rw [if_neg (by omega), if_neg (by omega)] at h
  exact errFrom_ok _ _ h j (Nat.zero_le _) (by have := (List.getElem?_eq_some_iff.1 hl).1; omega) l hl
theorem row0_ok {ls : List Ln} (h : rightE ls = 0) {j : Nat} {l : Ln} (hl : ls[j]? = some l) : (row0 l).ok := by
  have := lineE_ok (right_line h hl)
  exact ⟨by simp [row0], by simp only [row0]; omega⟩
theorem sidx_none {s : LS} {id : Int} (h : s.get id = none) : sidx s id = none := by
  cases hj : sidx s id with
  | none => rfl
  | some j =>
    obtain ⟨rs, hrs⟩ := sidx_some hj
    simp [LS.get, hj, hrs] at h
theorem sidx_last {s : LS} {id : Int} (h : s.get id = none) (rs : List Rw) : sidx (s ++ [(id, rs)]) id = some s.length := by
  have h0 := sidx_none h
  unfold sidx at h0 ⊢
  rw [List.findIdx?_append, h0]
  simp
theorem upTo_get {s : LS} {id : Int} {ls : List Ln} {k : Nat} (h : s.get id = none) : ((s.upTo id ls k).get id).getD [] = (ls.take k).map row0 := by
  unfold LS.upTo
  by_cases h0 : k = 0
  · subst h0; rw [if_pos rfl, h]; rfl
  · rw [if_neg h0, LS.get, sidx_last h]; simp
theorem upTo_more {s : LS} {id : Int} {ls : List Ln} {k : Nat} {l : Ln} (h : s.get id = none) (hl : ls[k]? = some l) :
    (match sidx (s.upTo id ls k) id with | some j => (s.upTo id ls k).set j (id, (ls.take k).map row0 ++ [row0 l]) | none => s.upTo id ls k ++ [(id, [row0 l])]) = s.upTo id ls (k + 1) := by
  have ht : ls.take (k + 1) = ls.take k ++ [l] := by rw [List.take_add_one, hl]; rfl
  by_cases h0 : k = 0
  · subst h0
    have e : s.upTo id ls 0 = s := by simp [LS.upTo]
    rw [e, sidx_none h]
    simp only [LS.upTo, ht]
    simp
  · have e : s.upTo id ls k = s ++ [(id, (ls.take k).map row0)] := by simp [LS.upTo, h0]
    rw [e, sidx_last h]
    simp [LS.upTo, ht]
theorem upTo_all {s : LS} {id : Int} {ls : List Ln} (h : 0 < ls.length) : s.upTo id ls ls.length = s ++ [(id, ls.map row0)] := by
  simp [LS.upTo, show ls.length ≠ 0 by omega]

/-- One line more, in memory. -/
theorem open_step {w0 wr : World} {F G' : Nat → Prop} {x ob g o c : Nat} {s : LS} {id : Int} {ls : List Ln} {k : Nat} {y : Ln} (HR : rightE ls = 0) (HG : s.get id = none) (hFG : (∀ k, F k → k < ob) ∧ (∀ k, G' k → k < ob ∧ ¬ F k)) (hs0 : ob < w0.heap.size) (hy : ls[k]? = some y)
    (hkw : Keep F w0 wr) (hl : LRep wr (fresh F w0 wr) x (s.upTo id ls k)) (hob : wr.heap[ob]? = some (.cells #[.int .u32 id, .slice (some ⟨g, o, none⟩) ls.length c] 34 (0, 0))) (hse : SeesIn wr G' 3 (.slice (some ⟨g, o, none⟩) ls.length c) ls.length (lns ls)) :
    ∃ mb v g2 cap n w2 o', ((wr.alloc (.cells #[.int .u16 y.item, .int .u16 y.loc, .int .i64 y.qty] 59)).drew.cell? ⟨x, 0, none⟩ = some (.map (some mb)) ∧ (wr.alloc (.cells #[.int .u16 y.item, .int .u16 y.loc, .int .i64 y.qty] 59)).drew.cell? ⟨ob, 0, none⟩ = some (.int .u32 id) ∧ (wr.alloc (.cells #[.int .u16 y.item, .int .u16 y.loc, .int .i64 y.qty] 59)).drew.cell? ⟨wr.heap.size, 0, none⟩ = some (.int .u16 y.item) ∧ (wr.alloc (.cells #[.int .u16 y.item, .int .u16 y.loc, .int .i64 y.qty] 59)).drew.cell? ⟨wr.heap.size, 2, none⟩ = some (.int .i64 y.qty) ∧ (Instr.lookup 68 (.map (some mb)) (.int .u32 id) false).run Try.prog (wr.alloc (.cells #[.int .u16 y.item, .int .u16 y.loc, .int .i64 y.qty] 59)).drew = .ok v (wr.alloc (.cells #[.int .u16 y.item, .int .u16 y.loc, .int .i64 y.qty] 59)).drew) ∧ (((wr.alloc (.cells #[.int .u16 y.item, .int .u16 y.loc, .int .i64 y.qty] 59)).alloc (.cells #[.int .u16 y.item, .int .i64 y.qty, .int .i64 0, .int .i64 0, .int .i64 0] 52)).drew.cell? ⟨x, 0, none⟩ = some (.map (some mb)) ∧ ((wr.alloc (.cells #[.int .u16 y.item, .int .u16 y.loc, .int .i64 y.qty] 59)).alloc (.cells #[.int .u16 y.item, .int .i64 y.qty, .int .i64 0, .int .i64 0, .int .i64 0] 52)).drew.cell? ⟨ob, 0, none⟩ = some (.int .u32 id) ∧ ((wr.alloc (.cells #[.int .u16 y.item, .int .u16 y.loc, .int .i64 y.qty] 59)).alloc (.cells #[.int .u16 y.item, .int .i64 y.qty, .int .i64 0, .int .i64 0, .int .i64 0] 52)).drew.cell? ⟨wr.heap.size, 0, none⟩ = some (.int .u16 y.item) ∧ ((wr.alloc (.cells #[.int .u16 y.item, .int .u16 y.loc, .int .i64 y.qty] 59)).alloc (.cells #[.int .u16 y.item, .int .i64 y.qty, .int .i64 0, .int .i64 0, .int .i64 0] 52)).drew.cell? ⟨wr.heap.size, 2, none⟩ = some (.int .i64 y.qty) ∧ (Instr.lookup 68 (.map (some mb)) (.int .u32 id) false).run Try.prog ((wr.alloc (.cells #[.int .u16 y.item, .int .u16 y.loc, .int .i64 y.qty] 59)).alloc (.cells #[.int .u16 y.item, .int .i64 y.qty, .int .i64 0, .int .i64 0, .int .i64 0] 52)).drew = .ok v ((wr.alloc (.cells #[.int .u16 y.item, .int .u16 y.loc, .int .i64 y.qty] 59)).alloc (.cells #[.int .u16 y.item, .int .i64 y.qty, .int .i64 0, .int .i64 0, .int .i64 0] 52)).drew) ∧ (w2.cell? ⟨x, 0, none⟩ = some (.map (some mb)) ∧ w2.cell? ⟨ob, 0, none⟩ = some (.int .u32 id) ∧ w2.cell? ⟨wr.heap.size, 0, none⟩ = some (.int .u16 y.item) ∧ w2.cell? ⟨wr.heap.size, 2, none⟩ = some (.int .i64 y.qty) ∧ (Instr.lookup 68 (.map (some mb)) (.int .u32 id) false).run Try.prog w2 = .ok v w2) ∧
      (Builtin.append_ #[44, 44] 44 #[v, .slice (some ⟨wr.heap.size + 1, 0, none⟩) 1 1]).run Try.prog ((wr.alloc (.cells #[.int .u16 y.item, .int .u16 y.loc, .int .i64 y.qty] 59)).alloc (.cells #[.int .u16 y.item, .int .i64 y.qty, .int .i64 0, .int .i64 0, .int .i64 0] 52)).drew = .ok (.slice (some ⟨g2, 0, none⟩) n cap) w2 ∧
      (Instr.mapUpdate 68 (.map (some mb)) (.int .u32 id) (.slice (some ⟨g2, 0, none⟩) n cap)).run Try.prog w2 = .ok () (putObj w2 mb o') ∧
      (Keep F w0 (putObj w2 mb o') ∧ LRep (putObj w2 mb o') (fresh F w0 (putObj w2 mb o')) x (s.upTo id ls (k + 1)) ∧ (putObj w2 mb o').heap[ob]? = some (.cells #[.int .u32 id, .slice (some ⟨g, o, none⟩) ls.length c] 34 (0, 0)) ∧ SeesIn (putObj w2 mb o') G' 3 (.slice (some ⟨g, o, none⟩) ls.length c) ls.length (lns ls)) := by
  have hlt : k < ls.length := (List.getElem?_eq_some_iff.1 hy).1
  have hL1 : LRep (wr.alloc (.cells #[.int .u16 y.item, .int .u16 y.loc, .int .i64 y.qty] 59)).drew (fresh F w0 wr) x (s.upTo id ls k) := hl.move (fun q hq hl => ⟨hq, Below.heap_alloc _ _ _ hl⟩)
  have h8 : ((ls.take k).map row0).length < 8 := by have := (right_len HR).2; simp; omega
  obtain ⟨mb, v, c0, hFm, hmb, hmb2, hlk, hown, hvx, hvm, hfin⟩ := hL1.more (row0 y) (row0_ok HR hy) (upTo_get HG) h8
  obtain ⟨i0, hi, hz0, hz1, hz2⟩ := info_parts Try.infoRow
  obtain ⟨gg, cap, w2, hrun, ho2, hgr, hgs, hgv⟩ := push_law (P := Try.prog) (wr.alloc (.cells #[.int .u16 y.item, .int .u16 y.loc, .int .i64 y.qty] 59)).drew 44 52 i0 _ 5 40 Try.underlying44 hi hz0 hz1 hz2 rfl (by decide) (fresh F w0 wr) #[.int .u16 y.item, .int .i64 y.qty, .int .i64 0, .int .i64 0, .int .i64 0] v _ _ hown rfl (by intro u hu; simp only [List.mem_cons, List.not_mem_nil, or_false] at hu; rcases hu with rfl | rfl | rfl | rfl | rfl <;> rfl) (by unfold maxLen; omega) (by omega) 44
  have hkg : Keep (fun q => v.ownBlock = some q) (wr.alloc (.cells #[.int .u16 y.item, .int .u16 y.loc, .int .i64 y.qty] 59)).drew w2 := ((Keep.refl _ _).alloc _).grown hgr (fun k hk => .inr hk)
  obtain ⟨o', hup, hrep⟩ := hfin w2 gg cap _ (by rw [rws_snoc]; exact ho2) (hgv.imp_right (fun e => by omega)) (fun k hk hl hne => hkg.block k hl hne) hkg.size
  replace hrep : LRep (putObj w2 mb o') (fun q => fresh F w0 wr q ∨ ((wr.alloc (.cells #[.int .u16 y.item, .int .u16 y.loc, .int .i64 y.qty] 59)).drew.heap.size ≤ q ∧ q = gg)) x (s.upTo id ls (k + 1)) := by rw [← upTo_more HG hy]; exact hrep
  have hK : Keep (fresh F w0 wr) wr (putObj w2 mb o') := (((((Keep.refl _ wr).alloc _).drew.alloc _).grown hgr (fun k hk => .inr (hown.2.1 k hk))).putObj (.inr hFm) o')
  have hobn : ¬ fresh F w0 wr ob := fun c => c.elim (fun c => by have := (hFG.1 _ c); omega) (fun c => by omega)
  have hlbn : ¬ fresh F w0 wr wr.heap.size := fun c => c.elim (fun c => by have := (hFG.1 _ c); have := hkw.size; omega) (fun c => by omega)
  have hNEW : (Keep F w0 (putObj w2 mb o') ∧ LRep (putObj w2 mb o') (fresh F w0 (putObj w2 mb o')) x (s.upTo id ls (k + 1)) ∧ (putObj w2 mb o').heap[ob]? = some (.cells #[.int .u32 id, .slice (some ⟨g, o, none⟩) ls.length c] 34 (0, 0)) ∧ SeesIn (putObj w2 mb o') G' 3 (.slice (some ⟨g, o, none⟩) ls.length c) ls.length (lns ls)) :=
    ⟨hkw.trans (hK.mono (fun q hq => hq.imp_right And.left)),
     hrep.move (fun q hq hl' => ⟨by
       rcases hq with (hq | hq) | ⟨hq, -⟩
       · exact .inl hq
       · exact .inr ⟨hq.1, hl'⟩
       · refine .inr ⟨?_, hl'⟩
         have := hkw.size
         simp at hq
         omega, rfl⟩),
     (hK.block _ (lt_of_block hob) hobn).trans hob,
     hse.move hK.size (fun q hq hl' => ⟨hq, hK.block q hl' (fun c => by
       have h1 := hFG.2 q hq
       rcases c with c | c
       · exact h1.2 c
       · omega)⟩)⟩
  have hlb : (wr.alloc (.cells #[.int .u16 y.item, .int .u16 y.loc, .int .i64 y.qty] 59)).drew.heap[wr.heap.size]? = some (.cells #[.int .u16 y.item, .int .u16 y.loc, .int .i64 y.qty] 59 (0, 0)) := heap_alloc_new _ _
  have hob2 : (wr.alloc (.cells #[.int .u16 y.item, .int .u16 y.loc, .int .i64 y.qty] 59)).drew.heap[ob]? = some (.cells #[.int .u32 id, .slice (some ⟨g, o, none⟩) ls.length c] 34 (0, 0)) := (Below.heap_alloc wr _ _ (lt_of_block hob)).trans hob
  obtain ⟨b0, b1, -⟩ := blk2 hob2
  obtain ⟨l0, l1, l2, -⟩ := blk3 hlb
  have hlk1 := hlk _ false rfl
  have hlk2 := hlk ((wr.alloc (.cells #[.int .u16 y.item, .int .u16 y.loc, .int .i64 y.qty] 59)).drew.alloc (.cells #[.int .u16 y.item, .int .i64 y.qty, .int .i64 0, .int .i64 0, .int .i64 0] 52)) false (Below.heap_alloc _ _ _ hmb)
  have hlk3 := hlk w2 false (hkg.block _ hmb hvm)
  simp only [Bool.false_eq_true, if_false] at hlk1 hlk2 hlk3
  have a1 : w2.cell? ⟨x, 0, none⟩ = some (.map (some mb)) := (hkg.cell (p := ⟨x, 0, none⟩) (World.block_lt_of_cell? _ _ c0) hvx).trans c0
  have a2 : w2.cell? ⟨ob, 0, none⟩ = some (.int .u32 id) := (hkg.cell (p := ⟨ob, 0, none⟩) (World.block_lt_of_cell? _ _ b0) (fun c => hobn (hown.2.1 _ c))).trans b0
  have a3 : w2.cell? ⟨wr.heap.size, 0, none⟩ = some (.int .u16 y.item) := (hkg.cell (p := ⟨wr.heap.size, 0, none⟩) (World.block_lt_of_cell? _ _ l0) (fun c => hlbn (hown.2.1 _ c))).trans l0
  have a4 : w2.cell? ⟨wr.heap.size, 2, none⟩ = some (.int .i64 y.qty) := (hkg.cell (p := ⟨wr.heap.size, 2, none⟩) (World.block_lt_of_cell? _ _ l2) (fun c => hlbn (hown.2.1 _ c))).trans l2
  have E1 : (wr.alloc (.cells #[.int .u16 y.item, .int .u16 y.loc, .int .i64 y.qty] 59)).drew.alloc (.cells #[.int .u16 y.item, .int .i64 y.qty, .int .i64 0, .int .i64 0, .int .i64 0] 52) = ((wr.alloc (.cells #[.int .u16 y.item, .int .u16 y.loc, .int .i64 y.qty] 59)).alloc (.cells #[.int .u16 y.item, .int .i64 y.qty, .int .i64 0, .int .i64 0, .int .i64 0] 52)).drew := rfl
  have E2 : (wr.alloc (.cells #[.int .u16 y.item, .int .u16 y.loc, .int .i64 y.qty] 59)).drew.heap.size = wr.heap.size + 1 := by simp
  have q0 := cell_old (.cells #[.int .u16 y.item, .int .i64 y.qty, .int .i64 0, .int .i64 0, .int .i64 0] 52) c0
  have q1 := cell_old (.cells #[.int .u16 y.item, .int .i64 y.qty, .int .i64 0, .int .i64 0, .int .i64 0] 52) b0
  have q2 := cell_old (.cells #[.int .u16 y.item, .int .i64 y.qty, .int .i64 0, .int .i64 0, .int .i64 0] 52) l0
  have q3 := cell_old (.cells #[.int .u16 y.item, .int .i64 y.qty, .int .i64 0, .int .i64 0, .int .i64 0] 52) l2
  rw [E1] at hrun hlk2 q0 q1 q2 q3
  rw [E2] at hrun
  exact ⟨mb, v, gg, cap, _, w2, o', ⟨c0, b0, l0, l2, hlk1⟩, ⟨q0, q1, q2, q3, hlk2⟩, ⟨a1, a2, a3, a4, hlk3⟩, hrun, hup, hNEW⟩

set_option maxHeartbeats 1000000 in
theorem lOpen_any (x : Nat) (s : LS) (id : Int) (v : Value) (ls : List Ln) (F0 G : Nat → Prop) (w : World) (h : LRep w F0 x s) (hv : SeesIn w G 3 v ls.length (lns ls)) (hd : ∀ k, G k → ¬ F0 k) :
    Calls Try.prog 24 #[.pointer (some ⟨x, 0, none⟩), .agg #[.int .u32 id, v]] w fun e w' => e = .returned (.int .i64 (s.openUp id ls).2) ∧ Keep F0 w w' ∧ LRep w' (fresh F0 w w') x (s.openUp id ls).1 := by
  have HO : Hid (s.openUp id ls = if rightE ls ≠ 0 then (s, rightE ls) else if (s.get id).isSome = true then (s, 8) else (s ++ [(id, ls.map row0)], 0)) := Lib.hid rfl
  have H := Lib.hid h
  have HV := Lib.hid hv
  have HD := Lib.hid hd
  have hq := fun (w : World) (a : Option Addr) (n c : Nat) => run_neq_slice_nil_any (P := Try.prog) w 44 52 a n c 0 0 Try.underlying44
  obtain ⟨A, c, rfl, h1, h2, -⟩ := hv.form
  have HC := Lib.hid (right_any' id (.slice A ls.length c) ls G (w.alloc (.cells #[.int .u32 id, .slice A ls.length c] 34)) (hv.move (by simp) (fun k hk hl => ⟨hk, Below.heap_alloc _ _ _ hl⟩)))
  clear h hv hd
  refine d_calls (n := 49) Try.func24 rfl rfl (by simp) [(0, .pointer (some ⟨x, 0, none⟩)), (1, .agg #[.int .u32 id, .slice A ls.length c])] (by simp) ?_
  repeat first
    | apply d_seq
    | with_reducible apply kt_normal
    | apply l_nil
    | apply d_region
    | (apply l_off; (focus rfl); (focus rfl))
    | (apply l_val; (focus rfl); (focus rfl); (focus rfl); (focus (go_simp; (try simp (disch := omega) only [wrap_in, wrap_in', wrap_u16, wrap_u8, wrap_u32, wrap_u64, rem_in, quo_in]); first | done | with_reducible rfl | (constructor <;> with_reducible rfl))))
    | (apply l_store; (focus rfl); (focus rfl); (focus rfl); (focus (go_simp; (try simp (disch := omega) only [wrap_in, wrap_in', wrap_u16, wrap_u8, wrap_u32, wrap_u64, rem_in, quo_in]); first | done | with_reducible rfl | (constructor <;> with_reducible rfl))))
    | apply d_block
    | (apply d_true; (focus rfl); (focus rfl))
    | (apply d_false; (focus rfl); (focus rfl))
    | apply d_skip
    | apply d_exit
    | apply d_ret
    | with_reducible apply kt_ret
    | with_reducible apply kt_exit
    | with_reducible apply kb_normal
    | with_reducible apply kb_ret
    | with_reducible apply kb_here
    | with_reducible apply kl_ret
    | with_reducible apply kl_exit
    | with_reducible apply kc_ret
    | with_reducible apply kc_exit
    | (with_reducible apply kb_there; (focus rfl))
  refine l_call rfl rfl rfl (by first | (go_simp; done) | (go_simp; rfl)) (HC.out) ?_
  rintro e w' ⟨rfl, hk⟩
  have HK0 := Lib.hid (((Keep.refl none_ w).alloc _).next hk)
  have hob := (hk.block w.heap.size (by simp) (fun c => c)).trans (heap_alloc_new _ _)
  clear hk
  refine ⟨_, rfl, ?_⟩
  by_cases hr : rightE ls = 0
  · rw [if_neg (by omega)] at HO
    have HR := Lib.hid hr
    rw [hr]
    clear hr
    repeat first
      | apply d_seq
      | with_reducible apply kt_normal
      | apply l_nil
      | apply d_region
      | (apply l_off; (focus rfl); (focus rfl))
      | (apply l_val; (focus rfl); (focus rfl); (focus rfl); (focus (go_simp; (try simp (disch := omega) only [wrap_in, wrap_in', wrap_u16, wrap_u8, wrap_u32, wrap_u64, rem_in, quo_in]); first | done | with_reducible rfl | (constructor <;> with_reducible rfl))))
      | (apply l_store; (focus rfl); (focus rfl); (focus rfl); (focus (go_simp; (try simp (disch := omega) only [wrap_in, wrap_in', wrap_u16, wrap_u8, wrap_u32, wrap_u64, rem_in, quo_in]); first | done | with_reducible rfl | (constructor <;> with_reducible rfl))))
      | apply d_block
      | (apply d_true; (focus rfl); (focus rfl))
      | (apply d_false; (focus rfl); (focus rfl))
      | apply d_skip
      | apply d_exit
      | apply d_ret
      | with_reducible apply kt_ret
      | with_reducible apply kt_exit
      | with_reducible apply kb_normal
      | with_reducible apply kb_ret
      | with_reducible apply kb_here
      | with_reducible apply kl_ret
      | with_reducible apply kl_exit
      | with_reducible apply kc_ret
      | with_reducible apply kc_exit
      | (with_reducible apply kb_there; (focus rfl))
    have hL : LRep w' (fun k => F0 k ∧ k < w.heap.size) x s := H.out.move (fun q hq hl => ⟨⟨hq, hl⟩, HK0.out.block q hl (fun c => c)⟩)
    obtain ⟨mb, v, c0, -, hlk, hFm, hmb, hvv⟩ := hL.look id
    obtain ⟨b0, b1, -⟩ := blk2 hob
    cases hg : s.get id with
    | some rs =>
      rw [hg] at HO
      simp only [Option.isSome_some, if_true] at HO
      rw [hg] at hvv
      obtain ⟨ho, hpos, -, -⟩ := hvv
      obtain ⟨g, cp, rfl, -⟩ := ho.form hpos
      have hlk1 := hlk w'.drew false rfl
      simp only [Bool.false_eq_true, if_false] at hlk1
      clear hlk hL hg ho hpos hFm hmb hob
      refine d_draw (true, [([], []), ([0], [0]), ([1], [1]), ([2], [2]), ([], []), ([4], [4]), ([3, 5], [3, 5]), ([6], [6])]) [(0, 0), (0, 1), (0, 2), (0, 3), (0, 4), (0, 5), (0, 6), (0, 7)] [999999] (fun W => W.cell? ⟨x, 0, none⟩ = some (.map (some mb)) ∧ W.cell? ⟨w.heap.size, 0, none⟩ = some (.int .u32 id) ∧ (Instr.lookup 68 (.map (some mb)) (.int .u32 id) false).run Try.prog W = .ok (.slice (some ⟨g, 0, none⟩) rs.length cp) W) (by kernel_rfl) (by kernel_rfl) (by kernel_rfl) (by kernel_rfl) ⟨c0, b0, hlk1⟩ ?_
      iterate 8
        first | (apply s_off; (focus rfl); (focus rfl); (focus rfl)) | (apply s_yield; (focus rfl); (focus rfl); (focus rfl); (focus rfl); (focus (intro W hS; obtain ⟨hS1, hS2, hS3⟩ := hS; go_simp; (try simp (disch := omega) only [wrap_in, wrap_in', wrap_u16, wrap_u8, wrap_u32, wrap_u64, rem_in, quo_in]); first | done | with_reducible rfl | (constructor <;> with_reducible rfl))))
      refine s_done ?_
      repeat first
        | apply d_seq
        | with_reducible apply kt_normal
        | apply l_nil
        | apply d_region
        | (apply l_off; (focus rfl); (focus rfl))
        | (apply l_val; (focus rfl); (focus rfl); (focus rfl); (focus (go_simp; (try simp (disch := omega) only [wrap_in, wrap_in', wrap_u16, wrap_u8, wrap_u32, wrap_u64, rem_in, quo_in]); first | done | with_reducible rfl | (constructor <;> with_reducible rfl))))
        | (apply l_store; (focus rfl); (focus rfl); (focus rfl); (focus (go_simp; (try simp (disch := omega) only [wrap_in, wrap_in', wrap_u16, wrap_u8, wrap_u32, wrap_u64, rem_in, quo_in]); first | done | with_reducible rfl | (constructor <;> with_reducible rfl))))
        | apply d_block
        | (apply d_true; (focus rfl); (focus rfl))
        | (apply d_false; (focus rfl); (focus rfl))
        | apply d_skip
        | apply d_exit
        | apply d_ret
        | with_reducible apply kt_ret
        | with_reducible apply kt_exit
        | with_reducible apply kb_normal
        | with_reducible apply kb_ret
        | with_reducible apply kb_here
        | with_reducible apply kl_ret
        | with_reducible apply kl_exit
        | with_reducible apply kc_ret
        | with_reducible apply kc_exit
        | (with_reducible apply kb_there; (focus rfl))
      refine ⟨rfl, _, (by first | (simp [resultsG, resOne, Try.results24, rho, List.lookup]; done) | (simp [resultsG, resOne, Try.results24, rho, List.lookup]; rfl)), ?_⟩
      exact ⟨by rw [HO.out], HK0.out.drew.none, by rw [HO.out]; exact H.out.move (fun q hq hl => ⟨.inl hq, HK0.out.block q hl (fun c => c)⟩)⟩
    | none =>
      rw [hg] at HO
      simp only [Option.isSome_none, Bool.false_eq_true, if_false] at HO
      rw [hg] at hvv
      simp only at hvv
      subst hvv
      have hlk1 := hlk w'.drew false rfl
      simp only [Bool.false_eq_true, if_false] at hlk1
      clear hlk
      refine d_draw (true, [([], []), ([0], [0]), ([1], [1]), ([2], [2]), ([], []), ([4], [4]), ([3, 5], [3, 5]), ([6], [6])]) [(0, 0), (0, 1), (0, 2), (0, 3), (0, 4), (0, 5), (0, 6), (0, 7)] [999999] (fun W => W.cell? ⟨x, 0, none⟩ = some (.map (some mb)) ∧ W.cell? ⟨w.heap.size, 0, none⟩ = some (.int .u32 id) ∧ (Instr.lookup 68 (.map (some mb)) (.int .u32 id) false).run Try.prog W = .ok (.slice none 0 0) W) (by kernel_rfl) (by kernel_rfl) (by kernel_rfl) (by kernel_rfl) ⟨c0, b0, hlk1⟩ ?_
      iterate 8
        first | (apply s_off; (focus rfl); (focus rfl); (focus rfl)) | (apply s_yield; (focus rfl); (focus rfl); (focus rfl); (focus rfl); (focus (intro W hS; obtain ⟨hS1, hS2, hS3⟩ := hS; go_simp; (try simp (disch := omega) only [wrap_in, wrap_in', wrap_u16, wrap_u8, wrap_u32, wrap_u64, rem_in, quo_in]); first | done | with_reducible rfl | (constructor <;> with_reducible rfl))))
      refine s_done ?_
      repeat first
        | apply d_seq
        | with_reducible apply kt_normal
        | apply l_nil
        | apply d_region
        | (apply l_off; (focus rfl); (focus rfl))
        | (apply l_val; (focus rfl); (focus rfl); (focus rfl); (focus (go_simp; (try simp (disch := omega) only [wrap_in, wrap_in', wrap_u16, wrap_u8, wrap_u32, wrap_u64, rem_in, quo_in]); first | done | with_reducible rfl | (constructor <;> with_reducible rfl))))
        | (apply l_store; (focus rfl); (focus rfl); (focus rfl); (focus (go_simp; (try simp (disch := omega) only [wrap_in, wrap_in', wrap_u16, wrap_u8, wrap_u32, wrap_u64, rem_in, quo_in]); first | done | with_reducible rfl | (constructor <;> with_reducible rfl))))
        | apply d_block
        | (apply d_true; (focus rfl); (focus rfl))
        | (apply d_false; (focus rfl); (focus rfl))
        | apply d_skip
        | apply d_exit
        | apply d_ret
        | with_reducible apply kt_ret
        | with_reducible apply kt_exit
        | with_reducible apply kb_normal
        | with_reducible apply kb_ret
        | with_reducible apply kb_here
        | with_reducible apply kl_ret
        | with_reducible apply kl_exit
        | with_reducible apply kc_ret
        | with_reducible apply kc_exit
        | (with_reducible apply kb_there; (focus rfl))
      have HG := Lib.hid hg
      obtain ⟨F, hF⟩ : ∃ F : Nat → Prop, ∀ k, F k ↔ (F0 k ∧ k < w.heap.size) := ⟨_, fun _ => Iff.rfl⟩
      obtain ⟨G', hG⟩ : ∃ F : Nat → Prop, ∀ k, F k ↔ (G k ∧ k < w.heap.size) := ⟨_, fun _ => Iff.rfl⟩
      have hob0 : w'.drew.heap[w.heap.size]? = some (.cells #[.int .u32 id, .slice A ls.length c] 34 (0, 0)) := hob
      have hk0 : Keep none_ w w'.drew := HK0.out.drew
      have hl0 : LRep w'.drew F x s := hL.move (fun q hq _ => ⟨(hF q).2 hq, rfl⟩)
      have hs0 : w.heap.size < w'.drew.heap.size := lt_of_block hob0
      have hv0 : SeesIn w'.drew G' 3 (.slice A ls.length c) ls.length (lns ls) := HV.out.move hk0.size (fun q hq hl => ⟨(hG q).2 ⟨hq, hl⟩, hk0.block q hl (fun c => c)⟩)
      have HFG : Hid ((∀ k, F k → F0 k ∧ k < w.heap.size) ∧ (∀ k, G' k → k < w.heap.size ∧ ¬ F k)) := Lib.hid ⟨fun k hk => (hF k).1 hk, fun k hk => ⟨((hG k).1 hk).2, fun c => HD.out k ((hG k).1 hk).1 ((hF k).1 c).1⟩⟩
      have HL0 := Lib.hid hl0
      have HV0 := Lib.hid hv0
      have HOB0 := Lib.hid hob0
      have HK1 := Lib.hid hk0
      clear hlk1 hL hg hob hob0 hk0 hl0 hv0 c0 b0 b1 hFm hmb hF hG HK0 HV HC
      generalize w'.drew = w0 at *
      refine d_loop (fun m D wr => ∃ k : Nat, m = ls.length - k ∧ k ≤ ls.length ∧ D = [(0, .pointer (some ⟨x, 0, none⟩)), (3, .pointer (some ⟨w.heap.size, 0, none⟩)), (22, .slice A ls.length c), (23, .int .i64 ls.length), (24, .int .i64 k)] ∧ Hid (Keep F w0 wr ∧ LRep wr (fresh F w0 wr) x (s.upTo id ls k) ∧ wr.heap[w.heap.size]? = some (.cells #[.int .u32 id, .slice A ls.length c] 34 (0, 0)) ∧ SeesIn wr G' 3 (.slice A ls.length c) ls.length (lns ls))) (ls.length) _ (Subl.cons (t := 0) (by decide) rfl (Subl.cons (t := 3) (by decide) rfl (Subl.cons (t := 22) (by decide) rfl (Subl.cons (t := 23) (by decide) rfl (Subl.cons (t := 24) (by decide) rfl (Subl.nil _ _)))))) ?_ (fun m D wr hrel => ?_)
      · exact ⟨0, rfl, Nat.zero_le _, rfl, Lib.hid ⟨Keep.refl _ _, by simpa [LS.upTo] using HL0.out.move (fun q hq hl => ⟨.inl hq, rfl⟩), HOB0.out, HV0.out⟩⟩
      · obtain ⟨k, rfl, hk, rfl, HH⟩ := hrel
        by_cases hlt : k < ls.length
        · obtain ⟨y, hy⟩ : ∃ y, ls[k]? = some y := ⟨_, List.getElem?_eq_getElem hlt⟩
          obtain ⟨hkw, hl, hob, hse⟩ := HH.out
          obtain ⟨g, o, c', e1, -, -, -, -, d0, d1, d2⟩ := sees_line hse rfl hy
          simp only [Value.slice.injEq, true_and] at e1
          obtain ⟨rfl, rfl⟩ := e1
          obtain ⟨mb, v, g2, cap, n, w2, o', ⟨c0, b0, l0, l2, hlk1⟩, hB, hA, hrun, hup, hnew⟩ := open_step HR.out HG.out ⟨fun k hk => (HFG.out.1 k hk).2, HFG.out.2⟩ hs0 hy hkw hl hob hse
          have hNEW := Lib.hid hnew
          have HB := Lib.hid hB
          have HA := Lib.hid hA
          have hks : (k : Int) ≤ c := by omega
          clear hy hkw hl hob hse hnew hB hA
          repeat first
            | apply d_seq
            | with_reducible apply kt_normal
            | apply l_nil
            | apply d_region
            | (apply l_off; (focus rfl); (focus rfl))
            | (apply l_val; (focus rfl); (focus rfl); (focus rfl); (focus (go_simp; (try simp (disch := omega) only [wrap_in, wrap_in', wrap_u16, wrap_u8, wrap_u32, wrap_u64, rem_in, quo_in]); first | done | with_reducible rfl | (constructor <;> with_reducible rfl))))
            | (apply l_store; (focus rfl); (focus rfl); (focus rfl); (focus (go_simp; (try simp (disch := omega) only [wrap_in, wrap_in', wrap_u16, wrap_u8, wrap_u32, wrap_u64, rem_in, quo_in]); first | done | with_reducible rfl | (constructor <;> with_reducible rfl))))
            | apply d_block
            | (apply d_true; (focus rfl); (focus rfl))
            | (apply d_false; (focus rfl); (focus rfl))
            | apply d_skip
            | apply d_exit
            | apply d_ret
            | with_reducible apply kt_ret
            | with_reducible apply kt_exit
            | with_reducible apply kb_normal
            | with_reducible apply kb_ret
            | with_reducible apply kb_here
            | with_reducible apply kl_ret
            | with_reducible apply kl_exit
            | with_reducible apply kc_ret
            | with_reducible apply kc_exit
            | (with_reducible apply kb_there; (focus rfl))
          refine d_draw (true, [([], []), ([0], [0]), ([1], [1]), ([2], [2]), ([], []), ([4], [4]), ([], []), ([6], [6]), ([7], [7]), ([8], [8]), ([], []), ([10], [10]), ([9, 11], [9, 11]), ([], []), ([13], [13]), ([], []), ([15], [15]), ([14, 16], [14, 16]), ([17], [17]), ([12, 18], [12, 18]), ([3, 5, 19, 19, 0, 1, 2, 3, 4, 5, 6, 7, 8, 9, 10, 11, 12, 13, 14, 15, 16, 17, 18, 19], [3, 5, 19])]) [(0, 0), (0, 1), (0, 2), (0, 3), (0, 4), (0, 5), (0, 6), (0, 7), (0, 8), (0, 9), (0, 10), (0, 11), (0, 12), (0, 13), (0, 14), (0, 15), (0, 16), (0, 17), (1, 18), (1, 19), (2, 20)] [20] (fun W => W.cell? ⟨x, 0, none⟩ = some (.map (some mb)) ∧ W.cell? ⟨w.heap.size, 0, none⟩ = some (.int .u32 id) ∧ W.cell? ⟨wr.heap.size, 0, none⟩ = some (.int .u16 y.item) ∧ W.cell? ⟨wr.heap.size, 2, none⟩ = some (.int .i64 y.qty) ∧ (Instr.lookup 68 (.map (some mb)) (.int .u32 id) false).run Try.prog W = .ok v W) (by kernel_rfl) (by kernel_rfl) (by kernel_rfl) (by kernel_rfl) ⟨c0, b0, l0, l2, hlk1⟩ ?_
          iterate 18
            first | (apply s_off; (focus rfl); (focus rfl); (focus rfl)) | (apply s_yield; (focus rfl); (focus rfl); (focus rfl); (focus rfl); (focus (intro W hS; obtain ⟨hS1, hS2, hS3, hS4, hS5⟩ := hS; go_simp; (try simp (disch := omega) only [wrap_in, wrap_in', wrap_u16, wrap_u8, wrap_u32, wrap_u64, rem_in, quo_in]); first | done | with_reducible rfl | (constructor <;> with_reducible rfl))))
          refine s_op (v := ?_) (w' := ?_) rfl rfl rfl rfl ?_ ?_ ?_
          rotate_left 2
          focus (go_simp; (try simp (disch := omega) only [wrap_in, wrap_in', wrap_u16, wrap_u8, wrap_u32, wrap_u64, rem_in, quo_in]); first | done | with_reducible rfl | (constructor <;> with_reducible rfl))
          · exact HB.out
          refine s_op rfl rfl rfl rfl (exec_append (.tmp 40) (.tmp 46) 44 rfl _ _ rfl rfl hrun) HA.out ?_
          refine s_laststore rfl rfl rfl rfl (exec_mapUpdate (.tmp 31) (.tmp 33) (.tmp 47) rfl _ _ _ rfl rfl rfl hup) ?_
          clear hrun hup c0 b0 l0 l2 hlk1 HA HB
          refine s_done ?_
          repeat first
            | apply d_seq
            | with_reducible apply kt_normal
            | apply l_nil
            | apply d_region
            | (apply l_off; (focus rfl); (focus rfl))
            | (apply l_val; (focus rfl); (focus rfl); (focus rfl); (focus (go_simp; (try simp (disch := omega) only [wrap_in, wrap_in', wrap_u16, wrap_u8, wrap_u32, wrap_u64, rem_in, quo_in]); first | done | with_reducible rfl | (constructor <;> with_reducible rfl))))
            | (apply l_store; (focus rfl); (focus rfl); (focus rfl); (focus (go_simp; (try simp (disch := omega) only [wrap_in, wrap_in', wrap_u16, wrap_u8, wrap_u32, wrap_u64, rem_in, quo_in]); first | done | with_reducible rfl | (constructor <;> with_reducible rfl))))
            | apply d_block
            | (apply d_true; (focus rfl); (focus rfl))
            | (apply d_false; (focus rfl); (focus rfl))
            | apply d_skip
            | apply d_exit
            | apply d_ret
            | with_reducible apply kt_ret
            | with_reducible apply kt_exit
            | with_reducible apply kb_normal
            | with_reducible apply kb_ret
            | with_reducible apply kb_here
            | with_reducible apply kl_ret
            | with_reducible apply kl_exit
            | with_reducible apply kc_ret
            | with_reducible apply kc_exit
            | (with_reducible apply kb_there; (focus rfl))
          refine kl_normal (ls.length - (k + 1)) _ (by omega) (Subl.cons (t := 0) (by decide) rfl (Subl.cons (t := 3) (by decide) rfl (Subl.cons (t := 22) (by decide) rfl (Subl.cons (t := 23) (by decide) rfl (Subl.cons (t := 24) (by decide) rfl (Subl.nil _ _)))))) ?_
          exact ⟨k + 1, rfl, by omega, by simp, hNEW⟩
        · have hk' : k = ls.length := by omega
          subst hk'
          repeat first
            | apply d_seq
            | with_reducible apply kt_normal
            | apply l_nil
            | apply d_region
            | (apply l_off; (focus rfl); (focus rfl))
            | (apply l_val; (focus rfl); (focus rfl); (focus rfl); (focus (go_simp; (try simp (disch := omega) only [wrap_in, wrap_in', wrap_u16, wrap_u8, wrap_u32, wrap_u64, rem_in, quo_in]); first | done | with_reducible rfl | (constructor <;> with_reducible rfl))))
            | (apply l_store; (focus rfl); (focus rfl); (focus rfl); (focus (go_simp; (try simp (disch := omega) only [wrap_in, wrap_in', wrap_u16, wrap_u8, wrap_u32, wrap_u64, rem_in, quo_in]); first | done | with_reducible rfl | (constructor <;> with_reducible rfl))))
            | apply d_block
            | (apply d_true; (focus rfl); (focus rfl))
            | (apply d_false; (focus rfl); (focus rfl))
            | apply d_skip
            | apply d_exit
            | apply d_ret
            | with_reducible apply kt_ret
            | with_reducible apply kt_exit
            | with_reducible apply kb_normal
            | with_reducible apply kb_ret
            | with_reducible apply kb_here
            | with_reducible apply kl_ret
            | with_reducible apply kl_exit
            | with_reducible apply kc_ret
            | with_reducible apply kc_exit
            | (with_reducible apply kb_there; (focus rfl))
          refine ⟨rfl, _, (by first | (simp [resultsG, resOne, Try.results24, rho, List.lookup]; done) | (simp [resultsG, resOne, Try.results24, rho, List.lookup]; rfl)), ?_⟩
          refine ⟨by rw [HO.out], HK1.out.none.trans (HH.out.1.mono (fun q hq => .inl (HFG.out.1 q hq).1)), ?_⟩
          rw [HO.out, ← upTo_all (id := id) (s := s) (right_len HR.out).1]
          refine HH.out.2.1.move (fun q hq hl => ⟨hq.elim (fun c => .inl (HFG.out.1 q c).1) (fun c => .inr ⟨by omega, c.2⟩), rfl⟩)
  · rw [if_pos hr] at HO
    have hbe : (rightE ls != 0) = true := by simp [hr]
    clear hr
    repeat first
      | apply d_seq
      | with_reducible apply kt_normal
      | apply l_nil
      | apply d_region
      | (apply l_off; (focus rfl); (focus rfl))
      | (apply l_val; (focus rfl); (focus rfl); (focus rfl); (focus (go_simp; (try simp (disch := omega) only [wrap_in, wrap_in', wrap_u16, wrap_u8, wrap_u32, wrap_u64, rem_in, quo_in]); first | done | with_reducible rfl | (constructor <;> with_reducible rfl))))
      | (apply l_store; (focus rfl); (focus rfl); (focus rfl); (focus (go_simp; (try simp (disch := omega) only [wrap_in, wrap_in', wrap_u16, wrap_u8, wrap_u32, wrap_u64, rem_in, quo_in]); first | done | with_reducible rfl | (constructor <;> with_reducible rfl))))
      | apply d_block
      | (apply d_true; (focus rfl); (focus rfl))
      | (apply d_false; (focus rfl); (focus rfl))
      | apply d_skip
      | apply d_exit
      | apply d_ret
      | with_reducible apply kt_ret
      | with_reducible apply kt_exit
      | with_reducible apply kb_normal
      | with_reducible apply kb_ret
      | with_reducible apply kb_here
      | with_reducible apply kl_ret
      | with_reducible apply kl_exit
      | with_reducible apply kc_ret
      | with_reducible apply kc_exit
      | (with_reducible apply kb_there; (focus rfl))
    refine ⟨rfl, _, (by first | (simp [resultsG, resOne, Try.results24, rho, List.lookup]; done) | (simp [resultsG, resOne, Try.results24, rho, List.lookup]; rfl)), ?_⟩
    exact ⟨by rw [HO.out], HK0.out.none, by rw [HO.out]; exact H.out.move (fun q hq hl => ⟨.inl hq, HK0.out.block q hl (fun c => c)⟩)⟩
end Go.Proofs.Ytkjcmnhhgnlaeaa
