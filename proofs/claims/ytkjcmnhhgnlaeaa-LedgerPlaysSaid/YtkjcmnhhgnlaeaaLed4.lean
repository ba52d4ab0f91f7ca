import Derived.Test.YtkjcmnhhgnlaeaaLed3
import Derived.Test.YtkjcmnhhgnlaeaaOrd
namespace Go.Proofs.Ytkjcmnhhgnlaeaa
set_option linter.unusedVariables false
set_option linter.unusedSimpArgs false
attribute [local go_sem] rho_const rho_func rho_hit rho_miss
open Go.RowKit

def LS.drop (s : LS) (id : Int) : LS × Int := match sidx s id with | none => (s, 6) | some j => (s.eraseIdx j, 0)
theorem LRep.dropped {w : World} {F : Nat → Prop} {x : Nat} {s : LS} (h : LRep w F x s) {id : Int} {j : Nat} (hj : sidx s id = some j) :
    ∃ mb o w', w.cell? ⟨x, 0, none⟩ = some (.map (some mb)) ∧ F mb ∧ w' = putObj w mb o ∧ (∀ ty, (Builtin.delete_ #[68, 31] ty #[.map (some mb), .int .u32 id]).run Try.prog w = .ok (.tuple #[]) w') ∧ LRep w' F x (s.eraseIdx j) := by
  obtain ⟨hF, hg, mb, es, clock, hm, hx, hb, ho⟩ := h
  have hlen : es.length = s.length := by have := congrArg List.length ho.keys; simpa using this
  obtain ⟨rs, hrs⟩ := sidx_some hj
  have hjl : j < s.length := (List.getElem?_eq_some_iff.1 hrs).1
  have hd := fun ty => run_delete (P := Try.prog) (t := 68) (kt := 31) (e := 44) (k := .u32) (l := es) (key := id) Try.underlying68 Try.underlying31 hb ty
  rw [eidx_sidx ho.keys, hj] at hd
  have hxm : x ≠ mb := by rintro rfl; rw [hx] at hb; simp at hb
  refine ⟨mb, _, _, by simp [World.cell?, hx], hm, rfl, hd, hF, ⟨fun p hp => hg.pos p (List.mem_of_mem_eraseIdx hp), fun p hp => hg.ok p (List.mem_of_mem_eraseIdx hp), ?_⟩, mb, es.eraseIdx j, clock, hm, ?_, ?_, ?_, ?_, ?_⟩
  · rw [← erase_map]
    exact (List.eraseIdx_sublist ..).nodup hg.once
  · rw [putObj_there _ _ _ _ hxm]; exact hx
  · exact putObj_here _ _ _ _ hb
  · rw [← erase_map, ← erase_map, ho.keys]
  · intro i e p he hp
    rw [List.getElem?_eraseIdx] at he hp
    have hown : Own w F 52 5 e.2.1 p.2.length (rws p.2) := by
      split at he
      · rename_i c; rw [if_pos c] at hp; exact ho.each i e p he hp
      · rename_i c; rw [if_neg c] at hp; exact ho.each (i + 1) e p he hp
    refine (Own.move (F := fun q => F q ∧ q ≠ mb) (G := F) (w' := putObj w mb _) ⟨hown.1, fun g hgb => ⟨hown.2.1 g hgb, fun c => ?_⟩, hown.2.2⟩ (fun q hq hl => ⟨hq.1, putObj_there _ _ _ _ hq.2⟩))
    subst c
    rcases hown.1.2 with ⟨e1, -⟩ | ⟨g', cap', cur, e1, hg0, hgg, -⟩
    · rw [e1] at hgb; simp [Value.ownBlock] at hgb
    · rw [e1] at hgb
      simp only [Value.ownBlock, Option.some.injEq] at hgb
      subst hgb
      rw [hb] at hgg; simp at hgg
  · intro i i' e e' g he he' h1 h2
    rw [List.getElem?_eraseIdx] at he he'
    split at he <;> split at he'
    · exact ho.apart i i' e e' g he he' h1 h2
    · have := ho.apart i (i' + 1) e e' g he he' h1 h2; omega
    · have := ho.apart (i + 1) i' e e' g he he' h1 h2; omega
    · have := ho.apart (i + 1) (i' + 1) e e' g he he' h1 h2; omega
theorem drop_any (x : Nat) (s : LS) (id : Int) (F : Nat → Prop) (w : World) (h : LRep w F x s) :
    Calls Try.prog 28 #[.pointer (some ⟨x, 0, none⟩), .int .u32 id] w fun e w' => e = .returned (.int .i64 (s.drop id).2) ∧ Keep F w w' ∧ LRep w' (fresh F w w') x (s.drop id).1 := by
  obtain ⟨mb, v, c0, -, hlk, hFm, hmb, hv⟩ := h.look id
  have hlk' := hlk w true rfl
  simp only [if_true] at hlk'
  have HH := Lib.hid h
  cases hj : sidx s id with
  | none =>
    have hget : s.get id = none := by simp [LS.get, hj]
    rw [hget] at hlk'
    have hT : s.drop id = (s, 6) := by simp [LS.drop, hj]
    rw [hT]
    simp only [Option.isSome_none] at hlk'
    clear h hv hlk hj hget hT
    refine d_calls (n := 23) Try.func28 rfl rfl (by simp) [(0, .pointer (some ⟨x, 0, none⟩)), (1, .int .u32 id)] (by simp) ?_
    repeat first
      | apply d_seq
      | with_reducible apply kt_normal
      | apply l_nil
      | apply d_region
      | (apply l_off; (focus rfl); (focus rfl))
      | (apply l_val; (focus rfl); (focus rfl); (focus rfl); (focus (go_simp; (try simp (disch := omega) only [wrap_in, wrap_in', wrap_u16, wrap_u8, wrap_u32, wrap_u64, rem_in, quo_in]); first | done | with_reducible rfl | (constructor <;> with_reducible rfl))))
      | (apply l_store; (focus rfl); (focus rfl); (focus rfl); (focus (go_simp; (try simp (disch := omega) only [wrap_in, wrap_in', wrap_u16, wrap_u8, wrap_u32, wrap_u64, rem_in, quo_in]); first | done | with_reducible rfl | (constructor <;> with_reducible rfl))))
      | apply d_block
      | (apply d_true; (focus rfl); (focus rfl))
      | (apply d_false; (focus rfl); (focus rfl))
      | apply d_skip
      | apply d_exit
      | apply d_ret
      | with_reducible apply kt_ret
      | with_reducible apply kt_exit
      | with_reducible apply kb_normal
      | with_reducible apply kb_ret
      | with_reducible apply kb_here
      | with_reducible apply kl_ret
      | with_reducible apply kl_exit
      | with_reducible apply kc_ret
      | with_reducible apply kc_exit
      | (with_reducible apply kb_there; (focus rfl))
    refine ⟨rfl, _, (by first | (simp [resultsG, resOne, Try.results28, rho, List.lookup]; done) | (simp [resultsG, resOne, Try.results28, rho, List.lookup]; rfl)), ?_⟩
    exact ⟨rfl, Keep.refl _ _, HH.out.move (fun q hq _ => ⟨.inl hq, rfl⟩)⟩
  | some j =>
    obtain ⟨rs, hrs⟩ := sidx_some hj
    have hget : s.get id = some rs := by simp [LS.get, hj, hrs]
    rw [hget] at hlk'
    have hT : s.drop id = (s.eraseIdx j, 0) := by simp [LS.drop, hj]
    rw [hT]
    simp only [Option.isSome_some] at hlk'
    obtain ⟨mb', o, w', c0', hFm', hw', hdel, hrep⟩ := h.dropped hj
    rw [c0] at c0'
    simp only [Option.some.injEq, Value.map.injEq] at c0'
    subst c0'
    have HREP := Lib.hid hrep
    have HK : Hid (Keep F w w') := Lib.hid (by rw [hw']; exact (Keep.refl F w).putObj (.inr hFm) o)
    clear h hv hlk hj hget hT hrs hrep hw'
    refine d_calls (n := 23) Try.func28 rfl rfl (by simp) [(0, .pointer (some ⟨x, 0, none⟩)), (1, .int .u32 id)] (by simp) ?_
    repeat first
      | apply d_seq
      | with_reducible apply kt_normal
      | apply l_nil
      | apply d_region
      | (apply l_off; (focus rfl); (focus rfl))
      | (apply l_val; (focus rfl); (focus rfl); (focus rfl); (focus (go_simp; (try simp (disch := omega) only [wrap_in, wrap_in', wrap_u16, wrap_u8, wrap_u32, wrap_u64, rem_in, quo_in]); first | done | with_reducible rfl | (constructor <;> with_reducible rfl))))
      | (apply l_store; (focus rfl); (focus rfl); (focus rfl); (focus (go_simp; (try simp (disch := omega) only [wrap_in, wrap_in', wrap_u16, wrap_u8, wrap_u32, wrap_u64, rem_in, quo_in]); first | done | with_reducible rfl | (constructor <;> with_reducible rfl))))
      | apply d_block
      | (apply d_true; (focus rfl); (focus rfl))
      | (apply d_false; (focus rfl); (focus rfl))
      | apply d_skip
      | apply d_exit
      | apply d_ret
      | with_reducible apply kt_ret
      | with_reducible apply kt_exit
      | with_reducible apply kb_normal
      | with_reducible apply kb_ret
      | with_reducible apply kb_here
      | with_reducible apply kl_ret
      | with_reducible apply kl_exit
      | with_reducible apply kc_ret
      | with_reducible apply kc_exit
      | (with_reducible apply kb_there; (focus rfl))
    refine l_none rfl rfl rfl (exec_delete (.tmp 21) (.tmp 22) rfl _ _ _ rfl rfl (hdel _)) ?_
    clear hdel
    repeat first
      | apply d_seq
      | with_reducible apply kt_normal
      | apply l_nil
      | apply d_region
      | (apply l_off; (focus rfl); (focus rfl))
      | (apply l_val; (focus rfl); (focus rfl); (focus rfl); (focus (go_simp; (try simp (disch := omega) only [wrap_in, wrap_in', wrap_u16, wrap_u8, wrap_u32, wrap_u64, rem_in, quo_in]); first | done | with_reducible rfl | (constructor <;> with_reducible rfl))))
      | (apply l_store; (focus rfl); (focus rfl); (focus rfl); (focus (go_simp; (try simp (disch := omega) only [wrap_in, wrap_in', wrap_u16, wrap_u8, wrap_u32, wrap_u64, rem_in, quo_in]); first | done | with_reducible rfl | (constructor <;> with_reducible rfl))))
      | apply d_block
      | (apply d_true; (focus rfl); (focus rfl))
      | (apply d_false; (focus rfl); (focus rfl))
      | apply d_skip
      | apply d_exit
      | apply d_ret
      | with_reducible apply kt_ret
      | with_reducible apply kt_exit
      | with_reducible apply kb_normal
      | with_reducible apply kb_ret
      | with_reducible apply kb_here
      | with_reducible apply kl_ret
      | with_reducible apply kl_exit
      | with_reducible apply kc_ret
      | with_reducible apply kc_exit
      | (with_reducible apply kb_there; (focus rfl))
    refine ⟨rfl, _, (by first | (simp [resultsG, resOne, Try.results28, rho, List.lookup]; done) | (simp [resultsG, resOne, Try.results28, rho, List.lookup]; rfl)), ?_⟩
    exact ⟨rfl, HK.out, HREP.out.move (fun q hq _ => ⟨.inl hq, rfl⟩)⟩

/-! Open -/
def row0 (l : Ln) : Rw := ⟨l.item, l.qty, 0, 0, 0⟩
def LS.openUp (s : LS) (id : Int) (ls : List Ln) : LS × Int := if rightE ls ≠ 0 then (s, rightE ls) else if (s.get id).isSome = true then (s, 8) else (s ++ [(id, ls.map row0)], 0)
/-- Behind some lines. -/
def LS.upTo (s : LS) (id : Int) (ls : List Ln) (k : Nat) : LS := if k = 0 then s else s ++ [(id, (ls.take k).map row0)]
theorem mod_get {α : Type _} (l : List α) (j q : Nat) (f : α → α) : (l.modify j f)[q]? = if j = q then (l[q]?).map f else l[q]? := by
  rw [List.getElem?_modify]
  cases l[q]? with
  | none => simp
  | some a => by_cases e : j = q <;> simp [e]
/-- One more row. -/
theorem LRep.more {w : World} {F : Nat → Prop} {x : Nat} {s : LS} (h : LRep w F x s) {id : Int} {rs : List Rw} (r : Rw) (hr : r.ok) (hrs : (s.get id).getD [] = rs) (h8 : rs.length < 8) :
    ∃ mb v, w.cell? ⟨x, 0, none⟩ = some (.map (some mb)) ∧ F mb ∧ mb < w.heap.size ∧ w.heap[mb]? ≠ none ∧
      (∀ (W : World) (c : Bool), W.heap[mb]? = w.heap[mb]? → (Instr.lookup 68 (.map (some mb)) (.int .u32 id) c).run Try.prog W = .ok (if c then .tuple #[v, .bool (s.get id).isSome] else v) W) ∧
      Own w F 52 5 v rs.length (rws rs) ∧ v.ownBlock ≠ some x ∧ v.ownBlock ≠ some mb ∧
      ∀ (w1 : World) (g cap : Nat) (G : Nat → Prop), Own w1 G 52 5 (.slice (some ⟨g, 0, none⟩) (rs.length + 1) cap) (rs.length + 1) (rws (rs ++ [r])) → (v.ownBlock = some g ∨ w.heap.size ≤ g) → (∀ k, F k → k < w.heap.size → v.ownBlock ≠ some k → w1.heap[k]? = w.heap[k]?) → w.heap.size ≤ w1.heap.size →
        ∃ o, (Instr.mapUpdate 68 (.map (some mb)) (.int .u32 id) (.slice (some ⟨g, 0, none⟩) (rs.length + 1) cap)).run Try.prog w1 = .ok () (putObj w1 mb o) ∧
          LRep (putObj w1 mb o) (fun q => F q ∨ (w.heap.size ≤ q ∧ q = g)) x (match sidx s id with | some j => s.set j (id, rs ++ [r]) | none => s ++ [(id, [r])]) := by
  obtain ⟨mb, v, c0, -, hlk, hFm, hmb, hv⟩ := h.look id
  obtain ⟨hF, hg, mb', es, clock, hm, hx, hb, ho⟩ := h
  have hmm : mb' = mb := by simp [World.cell?, hx] at c0; exact c0
  subst hmm
  have hlen : es.length = s.length := by have := congrArg List.length ho.keys; simpa using this
  -- a row's block is no map, and not the ledger's
  have hnb : ∀ (W : World) (G : Nat → Prop) (u : Value) (n : Nat) (xs : List Value) (q : Nat) (o : Array MapEntry) (c : Nat), Own W G 52 5 u n xs → u.ownBlock = some q → W.heap[q]? ≠ some (.map o c) := by
    intro W G u n xs q o c hu hq hc
    rcases hu.1.2 with ⟨e1, -⟩ | ⟨g', cap', cur, e1, hg0, hgg, -⟩
    · rw [e1] at hq; simp [Value.ownBlock] at hq
    · rw [e1] at hq
      simp only [Value.ownBlock, Option.some.injEq] at hq
      subst hq
      rw [hc] at hgg; simp at hgg
  have hown : Own w F 52 5 v rs.length (rws rs) := by
    cases hget : s.get id with
    | none =>
      rw [hget] at hv hrs
      simp only [Option.getD_none] at hrs
      subst hrs
      simp only at hv
      subst hv
      exact Own.nil _ _ _ _
    | some rs' =>
      rw [hget] at hv hrs
      simp only [Option.getD_some] at hrs
      subst hrs
      exact hv.1
  refine ⟨mb', v, c0, hFm, hmb, by rw [hb]; simp, hlk, hown, hown.ne hx (by decide), fun e => hnb _ _ _ _ _ _ _ _ hown e hb, ?_⟩
  intro w1 g cap G ho1 hgv hw1 hsz
  have hbw : w1.heap[mb']? = some (.map (ents .u32 es) clock) := (hw1 mb' hm hmb (fun e => hnb _ _ _ _ _ _ _ _ hown e hb)).trans hb
  have hxw : w1.heap[x]? = _ := (hw1 x hF (lt_of_block hx) (hown.ne hx (by decide))).trans hx
  have hgm : g ≠ mb' := fun e => hnb _ _ _ _ _ _ _ _ ho1 rfl (e ▸ hbw)
  have hxm : x ≠ mb' := by rintro rfl; rw [hx] at hb; simp at hb
  have hup := run_mapUpdate (P := Try.prog) (t := 68) (kt := 31) (e := 44) (k := .u32) (l := es) (key := id) Try.underlying68 Try.underlying31 hbw (.slice (some ⟨g, 0, none⟩) (rs.length + 1) cap)
  refine ⟨_, hup, ?_⟩
  generalize hoo : Obj.map (ents .u32 (eput es clock id (.slice (some ⟨g, 0, none⟩) (rs.length + 1) cap)).1) (eput es clock id (.slice (some ⟨g, 0, none⟩) (rs.length + 1) cap)).2 = o
  have kept : ∀ (u : Value) (n : Nat) (xs : List Value), Own w F 52 5 u n xs → (∀ q, u.ownBlock = some q → v.ownBlock ≠ some q) → Own (putObj w1 mb' o) (fun q => F q ∨ (w.heap.size ≤ q ∧ q = g)) 52 5 u n xs := fun u n xs hu hne => by
    have h1 : Own w (fun q => u.ownBlock = some q ∧ F q) 52 5 u n xs := ⟨hu.1, fun q hq => ⟨hq, hu.2.1 q hq⟩, hu.2.2⟩
    exact h1.move (fun q hq hl => ⟨.inl hq.2, (putObj_there _ _ _ _ (fun e => hnb _ _ _ _ _ _ _ _ hu (e ▸ hq.1) hb)).trans (hw1 q hq.2 hl (hne q hq.1))⟩)
  have new : Own (putObj w1 mb' o) (fun q => F q ∨ (w.heap.size ≤ q ∧ q = g)) 52 5 (.slice (some ⟨g, 0, none⟩) (rs.length + 1) cap) (rs.length + 1) (rws (rs ++ [r])) := by
    have h1 : Own w1 (fun q => q = g) 52 5 (.slice (some ⟨g, 0, none⟩) (rs.length + 1) cap) (rs.length + 1) (rws (rs ++ [r])) := ⟨ho1.1, fun q hq => by simpa [Value.ownBlock] using hq.symm, ho1.2.2⟩
    refine h1.move (fun q hq _ => ⟨?_, putObj_there _ _ _ _ (by rw [hq]; exact hgm)⟩)
    subst hq
    rcases hgv with hgv | hgv
    · exact .inl (hown.2.1 _ hgv)
    · exact .inr ⟨hgv, rfl⟩
  cases hj : sidx s id with
  | none =>
    have hget : s.get id = none := by simp [LS.get, hj]
    rw [hget] at hrs hv
    simp only [Option.getD_none] at hrs
    subst hrs
    simp only at hv
    subst hv
    have hgw : w.heap.size ≤ g := by
      rcases hgv with e | e
      · simp [Value.ownBlock] at e
      · exact e
    have he : eput es clock id (.slice (some ⟨g, 0, none⟩) (([] : List Rw).length + 1) cap) = (es ++ [(id, .slice (some ⟨g, 0, none⟩) (([] : List Rw).length + 1) cap, clock)], clock + 1) := by
      unfold eput; rw [eidx_sidx ho.keys, hj]
    rw [he] at hoo
    have hnin : id ∉ s.map (·.1) := by
      intro hin
      obtain ⟨p, hp, hpe⟩ := List.mem_map.1 hin
      have := List.findIdx?_eq_none_iff.1 hj p hp
      simp [hpe] at this
    refine ⟨.inl hF, ⟨?_, ?_, ?_⟩, mb', es ++ [(id, .slice (some ⟨g, 0, none⟩) (([] : List Rw).length + 1) cap, clock)], clock + 1, .inl hm, ?_, ?_, ?_, ?_, ?_⟩
    · intro p hp
      rcases List.mem_append.1 hp with hp | hp
      · exact hg.pos p hp
      · simp only [List.mem_singleton] at hp; subst hp; simp
    · intro p hp
      rcases List.mem_append.1 hp with hp | hp
      · exact hg.ok p hp
      · simp only [List.mem_singleton] at hp; subst hp; intro q hq; simp only [List.mem_singleton] at hq; subst hq; exact hr
    · rw [List.map_append, List.nodup_append]
      refine ⟨hg.once, by simp, ?_⟩
      intro a ha b hb' e
      simp only [List.map_cons, List.map_nil, List.mem_singleton] at hb'
      subst hb' e
      exact hnin ha
    · rw [putObj_there _ _ _ _ hxm]; exact hxw
    · rw [← hoo]; exact putObj_here _ _ _ _ hbw
    · simp [ho.keys]
    · intro i e p he' hp
      by_cases hi : i < es.length
      · rw [List.getElem?_append_left hi] at he'
        rw [List.getElem?_append_left (by omega)] at hp
        exact kept _ _ _ (ho.each i e p he' hp) (fun q _ => by simp [Value.ownBlock])
      · have hil : i = es.length := by
          have := (List.getElem?_eq_some_iff.1 he').1
          simp only [List.length_append, List.length_singleton] at this
          omega
        subst hil
        rw [List.getElem?_append_right (Nat.le_refl _)] at he'
        rw [hlen, List.getElem?_append_right (Nat.le_refl _)] at hp
        simp only [Nat.sub_self, List.getElem?_cons_zero, Option.some.injEq] at he' hp
        subst he' hp
        simpa using new
    · intro i i' e e' q he1 he2 h1 h2
      by_cases hi : i < es.length <;> by_cases hi' : i' < es.length
      · rw [List.getElem?_append_left hi] at he1
        rw [List.getElem?_append_left hi'] at he2
        exact ho.apart i i' e e' q he1 he2 h1 h2
      · exfalso
        rw [List.getElem?_append_left hi] at he1
        rw [List.getElem?_append_right (by omega)] at he2
        have hq := (ho.each i e _ he1 (List.getElem?_eq_getElem (by omega))).lt h1
        have e2 : i' - es.length = 0 := by
          have := (List.getElem?_eq_some_iff.1 he2).1
          simp at this; omega
        rw [e2] at he2
        simp only [List.getElem?_cons_zero, Option.some.injEq] at he2
        subst he2
        simp only [Value.ownBlock, Option.some.injEq] at h2
        omega
      · exfalso
        rw [List.getElem?_append_left hi'] at he2
        rw [List.getElem?_append_right (by omega)] at he1
        have hq := (ho.each i' e' _ he2 (List.getElem?_eq_getElem (by omega))).lt h2
        have e2 : i - es.length = 0 := by
          have := (List.getElem?_eq_some_iff.1 he1).1
          simp at this; omega
        rw [e2] at he1
        simp only [List.getElem?_cons_zero, Option.some.injEq] at he1
        subst he1
        simp only [Value.ownBlock, Option.some.injEq] at h1
        omega
      · have a1 := (List.getElem?_eq_some_iff.1 he1).1
        have a2 := (List.getElem?_eq_some_iff.1 he2).1
        simp only [List.length_append, List.length_singleton] at a1 a2
        omega
  | some j =>
    obtain ⟨rs', hrs'⟩ := sidx_some hj
    have hget : s.get id = some rs' := by simp [LS.get, hj, hrs']
    rw [hget] at hrs hv
    simp only [Option.getD_some] at hrs
    subst hrs
    have hjs : j < s.length := (List.getElem?_eq_some_iff.1 hrs').1
    have hjl : j < es.length := by omega
    have hej := List.getElem?_eq_getElem hjl
    -- what is found is the j-th
    have hvj : v = es[j].2.1 := by
      have h1 := hlk w false rfl
      have h2 := run_lookup (P := Try.prog) (t := 68) (kt := 31) (e := 44) (k := .u32) (l := es) (key := id) Try.underlying68 Try.underlying31 hb (.slice none 0 0) (zeroRows w) false
      rw [eidx_sidx ho.keys] at h2
      simp only [hj, Option.bind_some, hej, Option.map_some, Option.getD_some, Bool.false_eq_true, if_false] at h1 h2
      rw [h1] at h2
      injection h2
    have he : eput es clock id (.slice (some ⟨g, 0, none⟩) (rs'.length + 1) cap) = (es.modify j fun p => (p.1, .slice (some ⟨g, 0, none⟩) (rs'.length + 1) cap, p.2.2), clock) := by
      unfold eput; rw [eidx_sidx ho.keys, hj]
    rw [he] at hoo
    have hmem := List.mem_of_getElem? hrs'
    refine ⟨.inl hF, ⟨?_, ?_, ?_⟩, mb', es.modify j fun p => (p.1, .slice (some ⟨g, 0, none⟩) (rs'.length + 1) cap, p.2.2), clock, .inl hm, ?_, ?_, ?_, ?_, ?_⟩
    · intro p hp
      rcases List.mem_or_eq_of_mem_set hp with hp | rfl
      · exact hg.pos p hp
      · simp only [List.length_append, List.length_singleton]; omega
    · intro p hp
      rcases List.mem_or_eq_of_mem_set hp with hp | rfl
      · exact hg.ok p hp
      · intro q hq
        rcases List.mem_append.1 hq with hq | hq
        · exact hg.ok _ hmem q hq
        · simp only [List.mem_singleton] at hq; subst hq; exact hr
    · have : (s.set j (id, rs' ++ [r])).map (·.1) = s.map (·.1) := by
        rw [List.map_set]
        refine List.ext_getElem? (fun q => ?_)
        by_cases e : j = q
        · subst e; simp only [List.getElem?_set_self (by rw [List.length_map]; exact hjs : j < (s.map (·.1)).length), List.getElem?_map, hrs']; rfl
        · rw [List.getElem?_set_ne e]
      rw [this]; exact hg.once
    · rw [putObj_there _ _ _ _ hxm]; exact hxw
    · rw [← hoo]; exact putObj_here _ _ _ _ hbw
    · refine List.ext_getElem? (fun q => ?_)
      have hk := congrArg (fun l => l[q]?) ho.keys
      simp only [List.getElem?_map] at hk
      rw [List.getElem?_map, List.getElem?_map, mod_get]
      by_cases e : j = q
      · subst e
        rw [List.getElem?_set_self hjs, hej]
        rw [hej, hrs'] at hk
        simp only [Option.map_some, if_true, Option.some.injEq] at hk ⊢
        exact hk
      · rw [List.getElem?_set_ne e, if_neg e]
        exact hk
    · intro i e p he' hp
      rw [mod_get] at he'
      by_cases c : j = i
      · subst c
        rw [List.getElem?_set_self hjs] at hp
        rw [hej] at he'
        simp only [if_true, Option.map_some, Option.some.injEq] at he' hp
        subst he' hp
        simpa using new
      · rw [List.getElem?_set_ne c] at hp
        rw [if_neg c] at he'
        have he2 : es[i]? = some e := he'
        refine kept _ _ _ (ho.each i e p he2 hp) (fun q hq hvq => c ?_)
        exact ho.apart j i _ e q hej he2 (by rw [← hvj]; exact hvq) hq
    · intro i i' e e' q he1 he2 h1 h2
      rw [mod_get] at he1 he2
      by_cases ci : j = i <;> by_cases ci' : j = i'
      · omega
      · exfalso
        subst ci
        rw [if_neg ci'] at he2
        have he2' : es[i']? = some e' := he2
        rw [hej] at he1
        simp only [if_true, Option.map_some, Option.some.injEq] at he1
        subst he1
        simp only [Value.ownBlock, Option.some.injEq] at h1
        have hlt := (ho.each i' e' _ he2' (List.getElem?_eq_getElem (by have := (List.getElem?_eq_some_iff.1 he2').1; omega))).lt h2
        rcases hgv with hgv | hgv
        · exact ci' (ho.apart j i' _ e' q hej he2' (by rw [← hvj, ← h1]; exact hgv) h2)
        · omega
      · exfalso
        subst ci'
        rw [if_neg ci] at he1
        have he1' : es[i]? = some e := he1
        rw [hej] at he2
        simp only [if_true, Option.map_some, Option.some.injEq] at he2
        subst he2
        simp only [Value.ownBlock, Option.some.injEq] at h2
        have hlt := (ho.each i e _ he1' (List.getElem?_eq_getElem (by have := (List.getElem?_eq_some_iff.1 he1').1; omega))).lt h1
        rcases hgv with hgv | hgv
        · exact ci (ho.apart j i _ e q hej he1' (by rw [← hvj, ← h2]; exact hgv) h1)
        · omega
      · rw [if_neg ci] at he1
        rw [if_neg ci'] at he2
        exact ho.apart i i' e e' q he1 he2 h1 h2
end Go.Proofs.Ytkjcmnhhgnlaeaa
