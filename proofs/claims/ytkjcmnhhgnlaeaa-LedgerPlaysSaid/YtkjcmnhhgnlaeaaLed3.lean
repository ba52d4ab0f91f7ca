import Derived.Test.YtkjcmnhhgnlaeaaLed2
namespace Go.Proofs.Ytkjcmnhhgnlaeaa
set_option linter.unusedVariables false
set_option linter.unusedSimpArgs false
attribute [local go_sem] rho_const rho_func rho_hit rho_miss
open Go.RowKit

/-- A row's cells written over. -/
def set5 (w : World) (g k : Nat) (r : Rw) : World := ((((w.setCell ⟨g, k, none⟩ (.int .u16 r.item)).setCell ⟨g, k + 1, none⟩ (.int .i64 r.wanted)).setCell ⟨g, k + 2, none⟩ (.int .i64 r.picked)).setCell ⟨g, k + 3, none⟩ (.int .i64 r.short)).setCell ⟨g, k + 4, none⟩ (.int .i64 r.put)
theorem set5_there (w : World) (g k q : Nat) (r : Rw) (h : q ≠ g) : (set5 w g k r).heap[q]? = w.heap[q]? := by
  unfold set5
  rw [Below.heap_setCell _ _ _ _ h, Below.heap_setCell _ _ _ _ h, Below.heap_setCell _ _ _ _ h, Below.heap_setCell _ _ _ _ h, Below.heap_setCell _ _ _ _ h]
theorem Keep.set5 {F : Nat → Prop} {a w : World} (h : Keep F a w) {g : Nat} (hg : a.heap.size ≤ g ∨ F g) (k : Nat) (r : Rw) : Keep F a (set5 w g k r) :=
  ((((h.setCell (p := ⟨g, k, Option.none⟩) hg _).setCell (p := ⟨g, k + 1, Option.none⟩) hg _).setCell (p := ⟨g, k + 2, Option.none⟩) hg _).setCell (p := ⟨g, k + 3, Option.none⟩) hg _).setCell (p := ⟨g, k + 4, Option.none⟩) hg _
theorem Own.set5 {w : World} {F : Nat → Prop} {rs : List Rw} {g cap : Nat} (h : Own w F 52 5 (.slice (some ⟨g, 0, none⟩) rs.length cap) rs.length (rws rs)) (i : Nat) (hi : i < rs.length) (r : Rw) : Own (set5 w g (i * 5) r) F 52 5 (.slice (some ⟨g, 0, none⟩) rs.length cap) rs.length (rws (rs.set i r)) := by
  rw [rws_set rs i r hi]
  exact ((((h.store (i * 5) _ rfl).store (i * 5 + 1) _ rfl).store (i * 5 + 2) _ rfl).store (i * 5 + 3) _ rfl).store (i * 5 + 4) _ rfl
theorem Own.set5_far {w : World} {F : Nat → Prop} {v : Value} {n : Nat} {xs : List Value} (h : Own w F 52 5 v n xs) {g : Nat} (hg : v.ownBlock ≠ some g) (k : Nat) (r : Rw) : Own (Go.Proofs.Ytkjcmnhhgnlaeaa.set5 w g k r) F 52 5 v n xs :=
  ((((h.setCell (a := ⟨g, k, none⟩) hg _).setCell (a := ⟨g, k + 1, none⟩) hg _).setCell (a := ⟨g, k + 2, none⟩) hg _).setCell (a := ⟨g, k + 3, none⟩) hg _).setCell (a := ⟨g, k + 4, none⟩) hg _
/-- An order that is there. -/
theorem LRep.there {w : World} {F : Nat → Prop} {x : Nat} {s : LS} (h : LRep w F x s) {id : Int} {j : Nat} {rs : List Rw} (hj : sidx s id = some j) (hrs : s[j]? = some (id, rs)) :
    ∃ mb g cap, w.cell? ⟨x, 0, none⟩ = some (.map (some mb)) ∧ F g ∧ g < w.heap.size ∧ x ≠ g ∧ mb ≠ g ∧ mb < w.heap.size ∧
      (∀ (W : World) (c : Bool), W.heap[mb]? = w.heap[mb]? → (Instr.lookup 68 (.map (some mb)) (.int .u32 id) c).run Try.prog W = .ok (if c then .tuple #[.slice (some ⟨g, 0, none⟩) rs.length cap, .bool true] else .slice (some ⟨g, 0, none⟩) rs.length cap) W) ∧
      Own w F 52 5 (.slice (some ⟨g, 0, none⟩) rs.length cap) rs.length (rws rs) ∧ rs.length ≤ cap ∧ cap ≤ 9223372036854775807 ∧ (∀ r ∈ rs, r.ok) ∧
      ∀ (w' : World) (i : Nat) (r : Rw), (∀ k, F k → k < w.heap.size → w'.heap[k]? = w.heap[k]?) → i < rs.length → r.ok → LRep (set5 w' g (i * 5) r) F x (s.set j (id, rs.set i r)) := by
  obtain ⟨hF, hg, mb, es, clock, hm, hx, hb, ho⟩ := h
  have hlen : es.length = s.length := by have := congrArg List.length ho.keys; simpa using this
  have hjl : j < es.length := by rw [hlen]; exact (List.getElem?_eq_some_iff.1 hrs).1
  have he := List.getElem?_eq_getElem hjl
  have hmem := List.mem_of_getElem? hrs
  have hown := ho.each j _ _ he hrs
  have hpos := hg.pos _ hmem
  obtain ⟨g, cap, hv, hFg, hgw, hnc, hcm⟩ := hown.form hpos.1
  simp only at hv hown hpos
  rw [hv] at hown
  obtain ⟨cur, hgb, -⟩ := hown.block
  have hxg : x ≠ g := by rintro rfl; rw [hx] at hgb; simp at hgb
  have hmg : mb ≠ g := by rintro rfl; rw [hb] at hgb; simp at hgb
  refine ⟨mb, g, cap, by simp [World.cell?, hx], hFg, hgw, hxg, hmg, lt_of_block hb, fun W c hW => ?_, hown, hnc, by unfold maxLen at hcm; omega, hg.ok _ hmem, fun w' i r hw' hi hr => ?_⟩
  · have hlook := run_lookup (P := Try.prog) (t := 68) (kt := 31) (e := 44) (k := .u32) (l := es) (key := id) Try.underlying68 Try.underlying31 (hW.trans hb) (.slice none 0 0) (zeroRows W) c
    rw [eidx_sidx ho.keys] at hlook
    simp only [hj, Option.bind_some, he, Option.map_some, Option.getD_some, Option.isSome_some, hv] at hlook
    exact hlook
  · refine ⟨hF, ⟨?_, ?_, ?_⟩, mb, es, clock, hm, ?_, ?_, ?_, ?_, ho.apart⟩
    · intro p hp
      rcases List.mem_or_eq_of_mem_set hp with hp | rfl
      · exact hg.pos p hp
      · simpa using hpos
    · intro p hp
      rcases List.mem_or_eq_of_mem_set hp with hp | rfl
      · exact hg.ok p hp
      · intro q hq
        rcases List.mem_or_eq_of_mem_set hq with hq | rfl
        · exact hg.ok _ hmem q hq
        · exact hr
    · have : (s.set j (id, rs.set i r)).map (·.1) = s.map (·.1) := by
        rw [List.map_set]
        refine List.ext_getElem? (fun q => ?_)
        by_cases e : j = q
        · subst e; simp only [List.getElem?_set_self (by rw [List.length_map]; rw [hlen] at hjl; exact hjl : j < (s.map (·.1)).length), List.getElem?_map, hrs]; rfl
        · rw [List.getElem?_set_ne e]
      rw [this]; exact hg.once
    · rw [set5_there _ _ _ _ _ hxg, hw' x hF (lt_of_block hx)]; exact hx
    · rw [set5_there _ _ _ _ _ hmg, hw' mb hm (lt_of_block hb)]; exact hb
    · rw [ho.keys]
      refine List.ext_getElem? (fun q => ?_)
      simp only [List.getElem?_map]
      by_cases e : j = q
      · subst e; rw [hrs, List.getElem?_set_self (by rw [hlen] at hjl; exact hjl)]; rfl
      · rw [List.getElem?_set_ne e]
    · intro q e p hq hp
      by_cases c : j = q
      · subst c
        rw [he] at hq
        obtain rfl := Option.some.inj hq
        rw [List.getElem?_set_self (by rw [hlen] at hjl; exact hjl)] at hp
        obtain rfl := Option.some.inj hp
        rw [hv]
        have := (hown.move (w' := w') (G := F) (fun k hk hl => ⟨hk, hw' k hk hl⟩)).set5 i hi r
        simpa using this
      · rw [List.getElem?_set_ne c] at hp
        refine ((ho.each q e p hq hp).move (w' := w') (G := F) (fun k hk hl => ⟨hk, hw' k hk hl⟩)).set5_far (fun hb => ?_) _ _
        exact c (ho.apart j q _ e g he hq (by rw [hv]; rfl) hb)

/-- What may be added: k 1: picked, 2: short, 3: put. -/
def Rw.add (r : Rw) (k : Nat) (q : Int) : Rw := match k with | 1 => { r with picked := r.picked + q } | 2 => { r with short := r.short + q } | _ => { r with put := r.put + q }
theorem Rw.add_mid {r : Rw} (h : r.ok) (k : Nat) {q : Int} (h1 : 1 ≤ q) (h2 : q ≤ 9999) : (r.add k q).mid := by
  have := h.a; have := h.b
  unfold Rw.add
  split <;> exact ⟨by simp only; omega⟩
theorem Rw.add_ok {r : Rw} (h : r.ok) (k : Nat) {q : Int} (h1 : 1 ≤ q) (hr : (r.add k q).right = true) : (r.add k q).ok := by
  have ha := h.a; have hb := h.b
  unfold Rw.right Rw.left at hr
  simp only [Bool.and_eq_true, decide_eq_true_eq] at hr
  obtain ⟨h3, h4⟩ := hr
  unfold Rw.add at *
  split at h3 <;> simp only at h3 h4 ⊢ <;> exact ⟨by simp only; omega, by simp only; omega⟩
/-- What is done with a row. -/
def Does (fk : FuncId) (k : Nat) : Prop := ∀ (W : World) (b qc : Nat) (r : Rw) (q : Int), r.ok → 1 ≤ q → q ≤ 9999 → b ≠ qc → W.heap[b]? = some (.cells #[.int .u16 r.item, .int .i64 r.wanted, .int .i64 r.picked, .int .i64 r.short, .int .i64 r.put] 52 (0, 0)) → W.cell? ⟨qc, 0, none⟩ = some (.int .i64 q) →
  Calls Try.prog fk #[.pointer (some ⟨b, 0, none⟩), .pointer (some ⟨qc, 0, none⟩)] W fun e w' => e = .returned (.tuple #[]) ∧ Keep (fun z => z = b) W w' ∧ w'.heap[b]? = some (.cells #[.int .u16 (r.add k q).item, .int .i64 (r.add k q).wanted, .int .i64 (r.add k q).picked, .int .i64 (r.add k q).short, .int .i64 (r.add k q).put] 52 (0, 0))
theorem does1 : Does 40 1 := by
  intro W b qc r q hr h1 h2 hbq hb hq
  obtain ⟨c0, c1, c2, c3, c4, f0, f1, f2, f3, f4⟩ := blk5 hb
  have hs := heap_setCell_same _ _ 2 _ _ (.int .i64 (r.picked + q)) hb
  have ha := hr.a
  have hbb := hr.b
  have hsum : IntKind.i64.wrap (r.picked + q) = r.picked + q := wrap_in (by omega) (by omega)
  have HS := Lib.hid hs
  clear hb hs c0 c1 f0 f1
  refine d_calls (n := 11) Try.func40 rfl rfl (by simp) [(0, .pointer (some ⟨b, 0, none⟩)), (1, .pointer (some ⟨qc, 0, none⟩))] (by simp) ?_
  repeat first
    | apply d_seq
    | with_reducible apply kt_normal
    | apply l_nil
    | apply d_region
    | (apply l_off; (focus rfl); (focus rfl))
    | (apply l_val; (focus rfl); (focus rfl); (focus rfl); (focus (go_simp; (try simp (disch := omega) only [wrap_in, wrap_in', wrap_u16, wrap_u8, wrap_u32, wrap_u64, rem_in, quo_in]); first | done | with_reducible rfl | (constructor <;> with_reducible rfl))))
    | (apply l_store; (focus rfl); (focus rfl); (focus rfl); (focus (go_simp; (try simp (disch := omega) only [wrap_in, wrap_in', wrap_u16, wrap_u8, wrap_u32, wrap_u64, rem_in, quo_in]); first | done | with_reducible rfl | (constructor <;> with_reducible rfl))))
    | apply d_block
    | (apply d_true; (focus rfl); (focus rfl))
    | (apply d_false; (focus rfl); (focus rfl))
    | apply d_skip
    | apply d_exit
    | apply d_ret
    | with_reducible apply kt_ret
    | with_reducible apply kt_exit
    | with_reducible apply kb_normal
    | with_reducible apply kb_ret
    | with_reducible apply kb_here
    | with_reducible apply kl_ret
    | with_reducible apply kl_exit
    | with_reducible apply kc_ret
    | with_reducible apply kc_exit
    | (with_reducible apply kb_there; (focus rfl))
  refine d_draw (true, [([], []), ([0], [0]), ([1], [1]), ([2], [2]), ([], []), ([3, 4], [3, 4]), ([0, 0, 1, 2, 3, 4, 5], [0]), ([6, 0, 1, 2, 3, 4, 5], [6]), ([7, 5, 0, 1, 2, 3, 4, 5], [5, 7])]) [(0, 0), (0, 1), (0, 2), (0, 3), (0, 4), (0, 5), (0, 6), (0, 7), (2, 8)] [8] (fun W => W.cell? ⟨b, 2, none⟩ = some (.int .i64 r.picked) ∧ W.cell? ⟨qc, 0, none⟩ = some (.int .i64 q)) (by kernel_rfl) (by kernel_rfl) (by kernel_rfl) (by kernel_rfl) ⟨c2, hq⟩ ?_
  iterate 8
    first | (apply s_off; (focus rfl); (focus rfl); (focus rfl)) | (apply s_yield; (focus rfl); (focus rfl); (focus rfl); (focus rfl); (focus (intro W hS; obtain ⟨hS1, hS2⟩ := hS; go_simp; (try simp (disch := omega) only [wrap_in, wrap_in', wrap_u16, wrap_u8, wrap_u32, wrap_u64, rem_in, quo_in]); first | done | with_reducible rfl | (constructor <;> with_reducible rfl))))
  first | (apply s_last; (focus rfl); (focus rfl); (focus rfl); (focus rfl); (focus (go_simp; (try simp (disch := omega) only [wrap_in, wrap_in', wrap_u16, wrap_u8, wrap_u32, wrap_u64, rem_in, quo_in]); first | done | with_reducible rfl | (constructor <;> with_reducible rfl)))) | (apply s_laststore; (focus rfl); (focus rfl); (focus rfl); (focus rfl); (focus (go_simp; (try simp (disch := omega) only [wrap_in, wrap_in', wrap_u16, wrap_u8, wrap_u32, wrap_u64, rem_in, quo_in]); first | done | with_reducible rfl | (constructor <;> with_reducible rfl))))
  refine s_done ?_
  repeat first
    | apply d_seq
    | with_reducible apply kt_normal
    | apply l_nil
    | apply d_region
    | (apply l_off; (focus rfl); (focus rfl))
    | (apply l_val; (focus rfl); (focus rfl); (focus rfl); (focus (go_simp; (try simp (disch := omega) only [wrap_in, wrap_in', wrap_u16, wrap_u8, wrap_u32, wrap_u64, rem_in, quo_in]); first | done | with_reducible rfl | (constructor <;> with_reducible rfl))))
    | (apply l_store; (focus rfl); (focus rfl); (focus rfl); (focus (go_simp; (try simp (disch := omega) only [wrap_in, wrap_in', wrap_u16, wrap_u8, wrap_u32, wrap_u64, rem_in, quo_in]); first | done | with_reducible rfl | (constructor <;> with_reducible rfl))))
    | apply d_block
    | (apply d_true; (focus rfl); (focus rfl))
    | (apply d_false; (focus rfl); (focus rfl))
    | apply d_skip
    | apply d_exit
    | apply d_ret
    | with_reducible apply kt_ret
    | with_reducible apply kt_exit
    | with_reducible apply kb_normal
    | with_reducible apply kb_ret
    | with_reducible apply kb_here
    | with_reducible apply kl_ret
    | with_reducible apply kl_exit
    | with_reducible apply kc_ret
    | with_reducible apply kc_exit
    | (with_reducible apply kb_there; (focus rfl))
  refine ⟨rfl, _, (by first | (simp [resultsG, resOne, Try.results40, rho, List.lookup]; done) | (simp [resultsG, resOne, Try.results40, rho, List.lookup]; rfl)), ?_⟩
  exact ⟨rfl, ((Keep.refl (fun z => z = b) W).setCell (p := ⟨b, 2, none⟩) (.inr rfl) _).drew, HS.out⟩
theorem does2 : Does 42 2 := by
  intro W b qc r q hr h1 h2 hbq hb hq
  obtain ⟨c0, c1, c2, c3, c4, f0, f1, f2, f3, f4⟩ := blk5 hb
  have hs := heap_setCell_same _ _ 3 _ _ (.int .i64 (r.short + q)) hb
  have ha := hr.a
  have hbb := hr.b
  have hsum : IntKind.i64.wrap (r.short + q) = r.short + q := wrap_in (by omega) (by omega)
  have HS := Lib.hid hs
  clear hb hs c0 c1 f0 f1
  refine d_calls (n := 11) Try.func42 rfl rfl (by simp) [(0, .pointer (some ⟨b, 0, none⟩)), (1, .pointer (some ⟨qc, 0, none⟩))] (by simp) ?_
  repeat first
    | apply d_seq
    | with_reducible apply kt_normal
    | apply l_nil
    | apply d_region
    | (apply l_off; (focus rfl); (focus rfl))
    | (apply l_val; (focus rfl); (focus rfl); (focus rfl); (focus (go_simp; (try simp (disch := omega) only [wrap_in, wrap_in', wrap_u16, wrap_u8, wrap_u32, wrap_u64, rem_in, quo_in]); first | done | with_reducible rfl | (constructor <;> with_reducible rfl))))
    | (apply l_store; (focus rfl); (focus rfl); (focus rfl); (focus (go_simp; (try simp (disch := omega) only [wrap_in, wrap_in', wrap_u16, wrap_u8, wrap_u32, wrap_u64, rem_in, quo_in]); first | done | with_reducible rfl | (constructor <;> with_reducible rfl))))
    | apply d_block
    | (apply d_true; (focus rfl); (focus rfl))
    | (apply d_false; (focus rfl); (focus rfl))
    | apply d_skip
    | apply d_exit
    | apply d_ret
    | with_reducible apply kt_ret
    | with_reducible apply kt_exit
    | with_reducible apply kb_normal
    | with_reducible apply kb_ret
    | with_reducible apply kb_here
    | with_reducible apply kl_ret
    | with_reducible apply kl_exit
    | with_reducible apply kc_ret
    | with_reducible apply kc_exit
    | (with_reducible apply kb_there; (focus rfl))
  refine d_draw (true, [([], []), ([0], [0]), ([1], [1]), ([2], [2]), ([], []), ([3, 4], [3, 4]), ([0, 0, 1, 2, 3, 4, 5], [0]), ([6, 0, 1, 2, 3, 4, 5], [6]), ([7, 5, 0, 1, 2, 3, 4, 5], [5, 7])]) [(0, 0), (0, 1), (0, 2), (0, 3), (0, 4), (0, 5), (0, 6), (0, 7), (2, 8)] [8] (fun W => W.cell? ⟨b, 3, none⟩ = some (.int .i64 r.short) ∧ W.cell? ⟨qc, 0, none⟩ = some (.int .i64 q)) (by kernel_rfl) (by kernel_rfl) (by kernel_rfl) (by kernel_rfl) ⟨c3, hq⟩ ?_
  iterate 8
    first | (apply s_off; (focus rfl); (focus rfl); (focus rfl)) | (apply s_yield; (focus rfl); (focus rfl); (focus rfl); (focus rfl); (focus (intro W hS; obtain ⟨hS1, hS2⟩ := hS; go_simp; (try simp (disch := omega) only [wrap_in, wrap_in', wrap_u16, wrap_u8, wrap_u32, wrap_u64, rem_in, quo_in]); first | done | with_reducible rfl | (constructor <;> with_reducible rfl))))
  first | (apply s_last; (focus rfl); (focus rfl); (focus rfl); (focus rfl); (focus (go_simp; (try simp (disch := omega) only [wrap_in, wrap_in', wrap_u16, wrap_u8, wrap_u32, wrap_u64, rem_in, quo_in]); first | done | with_reducible rfl | (constructor <;> with_reducible rfl)))) | (apply s_laststore; (focus rfl); (focus rfl); (focus rfl); (focus rfl); (focus (go_simp; (try simp (disch := omega) only [wrap_in, wrap_in', wrap_u16, wrap_u8, wrap_u32, wrap_u64, rem_in, quo_in]); first | done | with_reducible rfl | (constructor <;> with_reducible rfl))))
  refine s_done ?_
  repeat first
    | apply d_seq
    | with_reducible apply kt_normal
    | apply l_nil
    | apply d_region
    | (apply l_off; (focus rfl); (focus rfl))
    | (apply l_val; (focus rfl); (focus rfl); (focus rfl); (focus (go_simp; (try simp (disch := omega) only [wrap_in, wrap_in', wrap_u16, wrap_u8, wrap_u32, wrap_u64, rem_in, quo_in]); first | done | with_reducible rfl | (constructor <;> with_reducible rfl))))
    | (apply l_store; (focus rfl); (focus rfl); (focus rfl); (focus (go_simp; (try simp (disch := omega) only [wrap_in, wrap_in', wrap_u16, wrap_u8, wrap_u32, wrap_u64, rem_in, quo_in]); first | done | with_reducible rfl | (constructor <;> with_reducible rfl))))
    | apply d_block
    | (apply d_true; (focus rfl); (focus rfl))
    | (apply d_false; (focus rfl); (focus rfl))
    | apply d_skip
    | apply d_exit
    | apply d_ret
    | with_reducible apply kt_ret
    | with_reducible apply kt_exit
    | with_reducible apply kb_normal
    | with_reducible apply kb_ret
    | with_reducible apply kb_here
    | with_reducible apply kl_ret
    | with_reducible apply kl_exit
    | with_reducible apply kc_ret
    | with_reducible apply kc_exit
    | (with_reducible apply kb_there; (focus rfl))
  refine ⟨rfl, _, (by first | (simp [resultsG, resOne, Try.results42, rho, List.lookup]; done) | (simp [resultsG, resOne, Try.results42, rho, List.lookup]; rfl)), ?_⟩
  exact ⟨rfl, ((Keep.refl (fun z => z = b) W).setCell (p := ⟨b, 3, none⟩) (.inr rfl) _).drew, HS.out⟩
theorem does3 : Does 41 3 := by
  intro W b qc r q hr h1 h2 hbq hb hq
  obtain ⟨c0, c1, c2, c3, c4, f0, f1, f2, f3, f4⟩ := blk5 hb
  have hs := heap_setCell_same _ _ 4 _ _ (.int .i64 (r.put + q)) hb
  have ha := hr.a
  have hbb := hr.b
  have hsum : IntKind.i64.wrap (r.put + q) = r.put + q := wrap_in (by omega) (by omega)
  have HS := Lib.hid hs
  clear hb hs c0 c1 f0 f1
  refine d_calls (n := 11) Try.func41 rfl rfl (by simp) [(0, .pointer (some ⟨b, 0, none⟩)), (1, .pointer (some ⟨qc, 0, none⟩))] (by simp) ?_
  repeat first
    | apply d_seq
    | with_reducible apply kt_normal
    | apply l_nil
    | apply d_region
    | (apply l_off; (focus rfl); (focus rfl))
    | (apply l_val; (focus rfl); (focus rfl); (focus rfl); (focus (go_simp; (try simp (disch := omega) only [wrap_in, wrap_in', wrap_u16, wrap_u8, wrap_u32, wrap_u64, rem_in, quo_in]); first | done | with_reducible rfl | (constructor <;> with_reducible rfl))))
    | (apply l_store; (focus rfl); (focus rfl); (focus rfl); (focus (go_simp; (try simp (disch := omega) only [wrap_in, wrap_in', wrap_u16, wrap_u8, wrap_u32, wrap_u64, rem_in, quo_in]); first | done | with_reducible rfl | (constructor <;> with_reducible rfl))))
    | apply d_block
    | (apply d_true; (focus rfl); (focus rfl))
    | (apply d_false; (focus rfl); (focus rfl))
    | apply d_skip
    | apply d_exit
    | apply d_ret
    | with_reducible apply kt_ret
    | with_reducible apply kt_exit
    | with_reducible apply kb_normal
    | with_reducible apply kb_ret
    | with_reducible apply kb_here
    | with_reducible apply kl_ret
    | with_reducible apply kl_exit
    | with_reducible apply kc_ret
    | with_reducible apply kc_exit
    | (with_reducible apply kb_there; (focus rfl))
  refine d_draw (true, [([], []), ([0], [0]), ([1], [1]), ([2], [2]), ([], []), ([3, 4], [3, 4]), ([0, 0, 1, 2, 3, 4, 5], [0]), ([6, 0, 1, 2, 3, 4, 5], [6]), ([7, 5, 0, 1, 2, 3, 4, 5], [5, 7])]) [(0, 0), (0, 1), (0, 2), (0, 3), (0, 4), (0, 5), (0, 6), (0, 7), (2, 8)] [8] (fun W => W.cell? ⟨b, 4, none⟩ = some (.int .i64 r.put) ∧ W.cell? ⟨qc, 0, none⟩ = some (.int .i64 q)) (by kernel_rfl) (by kernel_rfl) (by kernel_rfl) (by kernel_rfl) ⟨c4, hq⟩ ?_
  iterate 8
    first | (apply s_off; (focus rfl); (focus rfl); (focus rfl)) | (apply s_yield; (focus rfl); (focus rfl); (focus rfl); (focus rfl); (focus (intro W hS; obtain ⟨hS1, hS2⟩ := hS; go_simp; (try simp (disch := omega) only [wrap_in, wrap_in', wrap_u16, wrap_u8, wrap_u32, wrap_u64, rem_in, quo_in]); first | done | with_reducible rfl | (constructor <;> with_reducible rfl))))
  first | (apply s_last; (focus rfl); (focus rfl); (focus rfl); (focus rfl); (focus (go_simp; (try simp (disch := omega) only [wrap_in, wrap_in', wrap_u16, wrap_u8, wrap_u32, wrap_u64, rem_in, quo_in]); first | done | with_reducible rfl | (constructor <;> with_reducible rfl)))) | (apply s_laststore; (focus rfl); (focus rfl); (focus rfl); (focus rfl); (focus (go_simp; (try simp (disch := omega) only [wrap_in, wrap_in', wrap_u16, wrap_u8, wrap_u32, wrap_u64, rem_in, quo_in]); first | done | with_reducible rfl | (constructor <;> with_reducible rfl))))
  refine s_done ?_
  repeat first
    | apply d_seq
    | with_reducible apply kt_normal
    | apply l_nil
    | apply d_region
    | (apply l_off; (focus rfl); (focus rfl))
    | (apply l_val; (focus rfl); (focus rfl); (focus rfl); (focus (go_simp; (try simp (disch := omega) only [wrap_in, wrap_in', wrap_u16, wrap_u8, wrap_u32, wrap_u64, rem_in, quo_in]); first | done | with_reducible rfl | (constructor <;> with_reducible rfl))))
    | (apply l_store; (focus rfl); (focus rfl); (focus rfl); (focus (go_simp; (try simp (disch := omega) only [wrap_in, wrap_in', wrap_u16, wrap_u8, wrap_u32, wrap_u64, rem_in, quo_in]); first | done | with_reducible rfl | (constructor <;> with_reducible rfl))))
    | apply d_block
    | (apply d_true; (focus rfl); (focus rfl))
    | (apply d_false; (focus rfl); (focus rfl))
    | apply d_skip
    | apply d_exit
    | apply d_ret
    | with_reducible apply kt_ret
    | with_reducible apply kt_exit
    | with_reducible apply kb_normal
    | with_reducible apply kb_ret
    | with_reducible apply kb_here
    | with_reducible apply kl_ret
    | with_reducible apply kl_exit
    | with_reducible apply kc_ret
    | with_reducible apply kc_exit
    | (with_reducible apply kb_there; (focus rfl))
  refine ⟨rfl, _, (by first | (simp [resultsG, resOne, Try.results41, rho, List.lookup]; done) | (simp [resultsG, resOne, Try.results41, rho, List.lookup]; rfl)), ?_⟩
  exact ⟨rfl, ((Keep.refl (fun z => z = b) W).setCell (p := ⟨b, 4, none⟩) (.inr rfl) _).drew, HS.out⟩

def LS.turn (s : LS) (id item qty : Int) (k : Nat) : LS × Int :=
  match sidx s id with
  | none => (s, 6)
  | some j => match s[j]? with
    | none => (s, 6)
    | some p => match p.2.findIdx? (fun r => r.item == item) with
      | none => (s, 11)
      | some i => match p.2[i]? with
        | none => (s, 11)
        | some r => if qty < 1 ∨ 9999 < qty then (s, 10) else if (r.add k qty).right = true then (s.set j (id, p.2.set i (r.add k qty)), 0) else (s, 10)

set_option maxHeartbeats 1000000 in
theorem turn_any (x : Nat) (s : LS) (id item qty : Int) (fk : FuncId) (k qc : Nat) (hd : Does fk k) (hcf : ∀ (args : Array Value) (w : World), (callFunc fk args).run Try.prog w = .ok (.enter fk args) w) (F : Nat → Prop) (w : World) (h : LRep w F x s) (hq : w.cell? ⟨qc, 0, none⟩ = some (.int .i64 qty)) (hqF : ¬ F qc) :
    Calls Try.prog 39 #[.pointer (some ⟨x, 0, none⟩), .int .u32 id, .int .u16 item, .int .i64 qty, .func (.func fk) #[] #[.pointer (some ⟨qc, 0, none⟩)]] w fun e w' => e = .returned (.int .i64 (s.turn id item qty k).2) ∧ Keep F w w' ∧ LRep w' (fresh F w w') x (s.turn id item qty k).1 := by
  have same : ∀ w' : World, Keep none_ w w' → Keep F w w' ∧ LRep w' (fresh F w w') x s := fun w' hk => ⟨hk.none, h.move (fun q hq hl => ⟨.inl hq, hk.block q hl (fun c => c)⟩)⟩
  have SAME := Lib.hid same
  have hql := World.block_lt_of_cell? w _ hq
  have hcf1 : ∀ (args : Array Value) (w : World), (callFunc 47 args).run Try.prog w = .ok (.enter 47 args) w := fun args w => by go_simp
  have hnil := fun (w : World) (a : Option Addr) (n c : Nat) => Lib.run_eql_slice_nil (P := Try.prog) w 44 52 a n c 0 0 Try.underlying44
  have hask : ∀ (rs : List Rw) (v : Value) (G : Nat → Prop), SeesIn (w.alloc (.cells #[.int .u16 item] 35)) G 5 v rs.length (rws rs) → Calls Try.prog 46 #[v, .func (.func 47) #[] #[.pointer (some ⟨w.heap.size, 0, none⟩)]] (w.alloc (.cells #[.int .u16 item] 35)) fun e w' => e = .returned (.int .i64 (pidx rs (fun r => r.item == item))) ∧ Keep none_ (w.alloc (.cells #[.int .u16 item] 35)) w' := fun rs v G hs =>
    indexR v rs (fun r => r.item == item) 47 (.pointer (some ⟨w.heap.size, 0, none⟩)) hcf1 G _ hs (fun W hW y hy => turn1_any y w.heap.size item W ((hW.cell (p := ⟨w.heap.size, 0, none⟩) (by simp) (fun c => c)).trans (by rw [World.cell?_alloc_at _ _ _ _ rfl]; rfl)))
  cases hj : sidx s id with
  | none =>
    have hT : s.turn id item qty k = (s, 6) := by simp [LS.turn, hj]
    obtain ⟨mb, v, c0, -, hlk, hFm, hmb, hv⟩ := h.look id
    have hget : s.get id = none := by simp [LS.get, hj]
    rw [hget] at hv hlk
    simp only at hv
    subst hv
    have hlk' := hlk (w.alloc (.cells #[.int .u16 item] 35)) false (Below.heap_alloc _ _ _ hmb)
    simp only [Bool.false_eq_true, if_false] at hlk'
    have c0' := cell_old (.cells #[.int .u16 item] 35) c0
    have HC := Lib.hid (hask [] (.slice none 0 0) none_ (Own.nil _ _ 52 5).sees)
    rw [hT]
    clear same hcf hd hq hqF hcf1 hask h hlk c0 hget hj hT
    refine d_calls (n := 49) Try.func39 rfl rfl (by simp) [(0, .pointer (some ⟨x, 0, none⟩)), (1, .int .u32 id), (2, .int .u16 item), (3, .int .i64 qty), (4, .func (.func fk) #[] #[.pointer (some ⟨qc, 0, none⟩)])] (by simp) ?_
    repeat first
      | apply d_seq
      | with_reducible apply kt_normal
      | apply l_nil
      | apply d_region
      | (apply l_off; (focus rfl); (focus rfl))
      | (apply l_val; (focus rfl); (focus rfl); (focus rfl); (focus (go_simp; (try simp (disch := omega) only [wrap_in, wrap_in', wrap_u16, wrap_u8, wrap_u32, wrap_u64, rem_in, quo_in]); first | done | with_reducible rfl | (constructor <;> with_reducible rfl))))
      | (apply l_store; (focus rfl); (focus rfl); (focus rfl); (focus (go_simp; (try simp (disch := omega) only [wrap_in, wrap_in', wrap_u16, wrap_u8, wrap_u32, wrap_u64, rem_in, quo_in]); first | done | with_reducible rfl | (constructor <;> with_reducible rfl))))
      | apply d_block
      | (apply d_true; (focus rfl); (focus rfl))
      | (apply d_false; (focus rfl); (focus rfl))
      | apply d_skip
      | apply d_exit
      | apply d_ret
      | with_reducible apply kt_ret
      | with_reducible apply kt_exit
      | with_reducible apply kb_normal
      | with_reducible apply kb_ret
      | with_reducible apply kb_here
      | with_reducible apply kl_ret
      | with_reducible apply kl_exit
      | with_reducible apply kc_ret
      | with_reducible apply kc_exit
      | (with_reducible apply kb_there; (focus rfl))
    refine l_call rfl rfl rfl (by first | (go_simp; done) | (go_simp; rfl)) (HC.out) ?_
    rintro e w' ⟨rfl, hk⟩
    have HK := Lib.hid (((Keep.refl none_ w).alloc _).next hk)
    clear hk
    refine ⟨_, rfl, ?_⟩
    repeat first
      | apply d_seq
      | with_reducible apply kt_normal
      | apply l_nil
      | apply d_region
      | (apply l_off; (focus rfl); (focus rfl))
      | (apply l_val; (focus rfl); (focus rfl); (focus rfl); (focus (go_simp; (try simp (disch := omega) only [wrap_in, wrap_in', wrap_u16, wrap_u8, wrap_u32, wrap_u64, rem_in, quo_in]); first | done | with_reducible rfl | (constructor <;> with_reducible rfl))))
      | (apply l_store; (focus rfl); (focus rfl); (focus rfl); (focus (go_simp; (try simp (disch := omega) only [wrap_in, wrap_in', wrap_u16, wrap_u8, wrap_u32, wrap_u64, rem_in, quo_in]); first | done | with_reducible rfl | (constructor <;> with_reducible rfl))))
      | apply d_block
      | (apply d_true; (focus rfl); (focus rfl))
      | (apply d_false; (focus rfl); (focus rfl))
      | apply d_skip
      | apply d_exit
      | apply d_ret
      | with_reducible apply kt_ret
      | with_reducible apply kt_exit
      | with_reducible apply kb_normal
      | with_reducible apply kb_ret
      | with_reducible apply kb_here
      | with_reducible apply kl_ret
      | with_reducible apply kl_exit
      | with_reducible apply kc_ret
      | with_reducible apply kc_exit
      | (with_reducible apply kb_there; (focus rfl))
    refine ⟨rfl, _, (by first | (simp [resultsG, resOne, Try.results39, rho, List.lookup]; done) | (simp [resultsG, resOne, Try.results39, rho, List.lookup]; rfl)), ?_⟩
    exact ⟨rfl, SAME.out _ HK.out⟩
  | some j =>
    obtain ⟨rs, hrs⟩ := sidx_some hj
    obtain ⟨mb, g, cap, c0, hFg, hgw, hxg, hmg, hmb, hlk, hown, hnc, hcm, hok, hupd⟩ := h.there hj hrs
    have hlk' := hlk (w.alloc (.cells #[.int .u16 item] 35)) false (Below.heap_alloc _ _ _ hmb)
    simp only [Bool.false_eq_true, if_false] at hlk'
    have c0' := cell_old (.cells #[.int .u16 item] 35) c0
    have HC := Lib.hid (hask rs _ F (hown.sees.move (by simp) (fun q hq hl => ⟨hq, Below.heap_alloc _ _ _ hl⟩)))
    cases hi : rs.findIdx? (fun r => r.item == item) with
    | none =>
      have hT : s.turn id item qty k = (s, 11) := by simp [LS.turn, hj, hrs, hi]
      have hp : pidx rs (fun r => r.item == item) = -1 := by simp [pidx, hi]
      rw [hp] at HC
      rw [hT]
      clear same hcf hd hq hqF hcf1 hask h hlk c0 hj hT hrs hown hok hupd hi hp
      refine d_calls (n := 49) Try.func39 rfl rfl (by simp) [(0, .pointer (some ⟨x, 0, none⟩)), (1, .int .u32 id), (2, .int .u16 item), (3, .int .i64 qty), (4, .func (.func fk) #[] #[.pointer (some ⟨qc, 0, none⟩)])] (by simp) ?_
      repeat first
        | apply d_seq
        | with_reducible apply kt_normal
        | apply l_nil
        | apply d_region
        | (apply l_off; (focus rfl); (focus rfl))
        | (apply l_val; (focus rfl); (focus rfl); (focus rfl); (focus (go_simp; (try simp (disch := omega) only [wrap_in, wrap_in', wrap_u16, wrap_u8, wrap_u32, wrap_u64, rem_in, quo_in]); first | done | with_reducible rfl | (constructor <;> with_reducible rfl))))
        | (apply l_store; (focus rfl); (focus rfl); (focus rfl); (focus (go_simp; (try simp (disch := omega) only [wrap_in, wrap_in', wrap_u16, wrap_u8, wrap_u32, wrap_u64, rem_in, quo_in]); first | done | with_reducible rfl | (constructor <;> with_reducible rfl))))
        | apply d_block
        | (apply d_true; (focus rfl); (focus rfl))
        | (apply d_false; (focus rfl); (focus rfl))
        | apply d_skip
        | apply d_exit
        | apply d_ret
        | with_reducible apply kt_ret
        | with_reducible apply kt_exit
        | with_reducible apply kb_normal
        | with_reducible apply kb_ret
        | with_reducible apply kb_here
        | with_reducible apply kl_ret
        | with_reducible apply kl_exit
        | with_reducible apply kc_ret
        | with_reducible apply kc_exit
        | (with_reducible apply kb_there; (focus rfl))
      refine l_call rfl rfl rfl (by first | (go_simp; done) | (go_simp; rfl)) (HC.out) ?_
      rintro e w' ⟨rfl, hk⟩
      have HK := Lib.hid (((Keep.refl none_ w).alloc _).next hk)
      clear hk
      refine ⟨_, rfl, ?_⟩
      repeat first
        | apply d_seq
        | with_reducible apply kt_normal
        | apply l_nil
        | apply d_region
        | (apply l_off; (focus rfl); (focus rfl))
        | (apply l_val; (focus rfl); (focus rfl); (focus rfl); (focus (go_simp; (try simp (disch := omega) only [wrap_in, wrap_in', wrap_u16, wrap_u8, wrap_u32, wrap_u64, rem_in, quo_in]); first | done | with_reducible rfl | (constructor <;> with_reducible rfl))))
        | (apply l_store; (focus rfl); (focus rfl); (focus rfl); (focus (go_simp; (try simp (disch := omega) only [wrap_in, wrap_in', wrap_u16, wrap_u8, wrap_u32, wrap_u64, rem_in, quo_in]); first | done | with_reducible rfl | (constructor <;> with_reducible rfl))))
        | apply d_block
        | (apply d_true; (focus rfl); (focus rfl))
        | (apply d_false; (focus rfl); (focus rfl))
        | apply d_skip
        | apply d_exit
        | apply d_ret
        | with_reducible apply kt_ret
        | with_reducible apply kt_exit
        | with_reducible apply kb_normal
        | with_reducible apply kb_ret
        | with_reducible apply kb_here
        | with_reducible apply kl_ret
        | with_reducible apply kl_exit
        | with_reducible apply kc_ret
        | with_reducible apply kc_exit
        | (with_reducible apply kb_there; (focus rfl))
      refine ⟨rfl, _, (by first | (simp [resultsG, resOne, Try.results39, rho, List.lookup]; done) | (simp [resultsG, resOne, Try.results39, rho, List.lookup]; rfl)), ?_⟩
      exact ⟨rfl, SAME.out _ HK.out⟩
    | some i =>
      have hil : i < rs.length := (List.findIdx?_eq_some_iff_getElem.1 hi).1
      obtain ⟨r, hr⟩ : ∃ r, rs[i]? = some r := ⟨_, List.getElem?_eq_getElem hil⟩
      have hrok := hok r (List.mem_of_getElem? hr)
      have hp : pidx rs (fun r => r.item == item) = i := by simp [pidx, hi]
      rw [hp] at HC
      have hi0 : decide ((i : Int) < 0) = false := by simp
      by_cases hq9 : qty < 1 ∨ 9999 < qty
      · have hT : s.turn id item qty k = (s, 10) := by simp [LS.turn, hj, hrs, hi, hr, hq9]
        rw [hT]
        clear same hcf hd hq hqF hcf1 hask h hlk c0 hj hT hrs hown hok hupd hi hp hr hrok
        rcases Int.lt_or_le qty 1 with hq1 | hq1
        · clear hq9
          refine d_calls (n := 49) Try.func39 rfl rfl (by simp) [(0, .pointer (some ⟨x, 0, none⟩)), (1, .int .u32 id), (2, .int .u16 item), (3, .int .i64 qty), (4, .func (.func fk) #[] #[.pointer (some ⟨qc, 0, none⟩)])] (by simp) ?_
          repeat first
            | apply d_seq
            | with_reducible apply kt_normal
            | apply l_nil
            | apply d_region
            | (apply l_off; (focus rfl); (focus rfl))
            | (apply l_val; (focus rfl); (focus rfl); (focus rfl); (focus (go_simp; (try simp (disch := omega) only [wrap_in, wrap_in', wrap_u16, wrap_u8, wrap_u32, wrap_u64, rem_in, quo_in]); first | done | with_reducible rfl | (constructor <;> with_reducible rfl))))
            | (apply l_store; (focus rfl); (focus rfl); (focus rfl); (focus (go_simp; (try simp (disch := omega) only [wrap_in, wrap_in', wrap_u16, wrap_u8, wrap_u32, wrap_u64, rem_in, quo_in]); first | done | with_reducible rfl | (constructor <;> with_reducible rfl))))
            | apply d_block
            | (apply d_true; (focus rfl); (focus rfl))
            | (apply d_false; (focus rfl); (focus rfl))
            | apply d_skip
            | apply d_exit
            | apply d_ret
            | with_reducible apply kt_ret
            | with_reducible apply kt_exit
            | with_reducible apply kb_normal
            | with_reducible apply kb_ret
            | with_reducible apply kb_here
            | with_reducible apply kl_ret
            | with_reducible apply kl_exit
            | with_reducible apply kc_ret
            | with_reducible apply kc_exit
            | (with_reducible apply kb_there; (focus rfl))
          refine l_call rfl rfl rfl (by first | (go_simp; done) | (go_simp; rfl)) (HC.out) ?_
          rintro e w' ⟨rfl, hk⟩
          have HK := Lib.hid (((Keep.refl none_ w).alloc _).next hk)
          clear hk
          refine ⟨_, rfl, ?_⟩
          repeat first
            | apply d_seq
            | with_reducible apply kt_normal
            | apply l_nil
            | apply d_region
            | (apply l_off; (focus rfl); (focus rfl))
            | (apply l_val; (focus rfl); (focus rfl); (focus rfl); (focus (go_simp; (try simp (disch := omega) only [wrap_in, wrap_in', wrap_u16, wrap_u8, wrap_u32, wrap_u64, rem_in, quo_in]); first | done | with_reducible rfl | (constructor <;> with_reducible rfl))))
            | (apply l_store; (focus rfl); (focus rfl); (focus rfl); (focus (go_simp; (try simp (disch := omega) only [wrap_in, wrap_in', wrap_u16, wrap_u8, wrap_u32, wrap_u64, rem_in, quo_in]); first | done | with_reducible rfl | (constructor <;> with_reducible rfl))))
            | apply d_block
            | (apply d_true; (focus rfl); (focus rfl))
            | (apply d_false; (focus rfl); (focus rfl))
            | apply d_skip
            | apply d_exit
            | apply d_ret
            | with_reducible apply kt_ret
            | with_reducible apply kt_exit
            | with_reducible apply kb_normal
            | with_reducible apply kb_ret
            | with_reducible apply kb_here
            | with_reducible apply kl_ret
            | with_reducible apply kl_exit
            | with_reducible apply kc_ret
            | with_reducible apply kc_exit
            | (with_reducible apply kb_there; (focus rfl))
          refine ⟨rfl, _, (by first | (simp [resultsG, resOne, Try.results39, rho, List.lookup]; done) | (simp [resultsG, resOne, Try.results39, rho, List.lookup]; rfl)), ?_⟩
          exact ⟨rfl, SAME.out _ HK.out⟩
        · have hq2 : 9999 < qty := by omega
          have hq3 : decide (qty < 1) = false := by simp; omega
          clear hq9 hq1
          refine d_calls (n := 49) Try.func39 rfl rfl (by simp) [(0, .pointer (some ⟨x, 0, none⟩)), (1, .int .u32 id), (2, .int .u16 item), (3, .int .i64 qty), (4, .func (.func fk) #[] #[.pointer (some ⟨qc, 0, none⟩)])] (by simp) ?_
          repeat first
            | apply d_seq
            | with_reducible apply kt_normal
            | apply l_nil
            | apply d_region
            | (apply l_off; (focus rfl); (focus rfl))
            | (apply l_val; (focus rfl); (focus rfl); (focus rfl); (focus (go_simp; (try simp (disch := omega) only [wrap_in, wrap_in', wrap_u16, wrap_u8, wrap_u32, wrap_u64, rem_in, quo_in]); first | done | with_reducible rfl | (constructor <;> with_reducible rfl))))
            | (apply l_store; (focus rfl); (focus rfl); (focus rfl); (focus (go_simp; (try simp (disch := omega) only [wrap_in, wrap_in', wrap_u16, wrap_u8, wrap_u32, wrap_u64, rem_in, quo_in]); first | done | with_reducible rfl | (constructor <;> with_reducible rfl))))
            | apply d_block
            | (apply d_true; (focus rfl); (focus rfl))
            | (apply d_false; (focus rfl); (focus rfl))
            | apply d_skip
            | apply d_exit
            | apply d_ret
            | with_reducible apply kt_ret
            | with_reducible apply kt_exit
            | with_reducible apply kb_normal
            | with_reducible apply kb_ret
            | with_reducible apply kb_here
            | with_reducible apply kl_ret
            | with_reducible apply kl_exit
            | with_reducible apply kc_ret
            | with_reducible apply kc_exit
            | (with_reducible apply kb_there; (focus rfl))
          refine l_call rfl rfl rfl (by first | (go_simp; done) | (go_simp; rfl)) (HC.out) ?_
          rintro e w' ⟨rfl, hk⟩
          have HK := Lib.hid (((Keep.refl none_ w).alloc _).next hk)
          clear hk
          refine ⟨_, rfl, ?_⟩
          repeat first
            | apply d_seq
            | with_reducible apply kt_normal
            | apply l_nil
            | apply d_region
            | (apply l_off; (focus rfl); (focus rfl))
            | (apply l_val; (focus rfl); (focus rfl); (focus rfl); (focus (go_simp; (try simp (disch := omega) only [wrap_in, wrap_in', wrap_u16, wrap_u8, wrap_u32, wrap_u64, rem_in, quo_in]); first | done | with_reducible rfl | (constructor <;> with_reducible rfl))))
            | (apply l_store; (focus rfl); (focus rfl); (focus rfl); (focus (go_simp; (try simp (disch := omega) only [wrap_in, wrap_in', wrap_u16, wrap_u8, wrap_u32, wrap_u64, rem_in, quo_in]); first | done | with_reducible rfl | (constructor <;> with_reducible rfl))))
            | apply d_block
            | (apply d_true; (focus rfl); (focus rfl))
            | (apply d_false; (focus rfl); (focus rfl))
            | apply d_skip
            | apply d_exit
            | apply d_ret
            | with_reducible apply kt_ret
            | with_reducible apply kt_exit
            | with_reducible apply kb_normal
            | with_reducible apply kb_ret
            | with_reducible apply kb_here
            | with_reducible apply kl_ret
            | with_reducible apply kl_exit
            | with_reducible apply kc_ret
            | with_reducible apply kc_exit
            | (with_reducible apply kb_there; (focus rfl))
          refine ⟨rfl, _, (by first | (simp [resultsG, resOne, Try.results39, rho, List.lookup]; done) | (simp [resultsG, resOne, Try.results39, rho, List.lookup]; rfl)), ?_⟩
          exact ⟨rfl, SAME.out _ HK.out⟩
      · have hq1 : 1 ≤ qty := by omega
        have hq2 : qty ≤ 9999 := by omega
        have HD := Lib.hid hd
        have HUPD := Lib.hid hupd
        have HOWN := Lib.hid hown
        have HR := Lib.hid hr
        have HROK := Lib.hid hrok
        have hq3 : decide (qty < 1) = false := by simp; omega
        have hq4 : decide (9999 < qty) = false := by simp; omega
        have HT : Hid (s.turn id item qty k = if (r.add k qty).right = true then (s.set j (id, rs.set i (r.add k qty)), 0) else (s, 10)) := by
          show _ = _
          simp only [LS.turn, hj, hrs, hi, hr, if_neg hq9]
        have HH := Lib.hid h
        have HQ := Lib.hid hq
        have hilz : (i : Int) < rs.length := by omega
        clear same hd hq hcf1 hask h hlk c0 hj hrs hown hok hupd hi hp hr hrok hq9
        refine d_calls (n := 49) Try.func39 rfl rfl (by simp) [(0, .pointer (some ⟨x, 0, none⟩)), (1, .int .u32 id), (2, .int .u16 item), (3, .int .i64 qty), (4, .func (.func fk) #[] #[.pointer (some ⟨qc, 0, none⟩)])] (by simp) ?_
        repeat first
          | apply d_seq
          | with_reducible apply kt_normal
          | apply l_nil
          | apply d_region
          | (apply l_off; (focus rfl); (focus rfl))
          | (apply l_val; (focus rfl); (focus rfl); (focus rfl); (focus (go_simp; (try simp (disch := omega) only [wrap_in, wrap_in', wrap_u16, wrap_u8, wrap_u32, wrap_u64, rem_in, quo_in]); first | done | with_reducible rfl | (constructor <;> with_reducible rfl))))
          | (apply l_store; (focus rfl); (focus rfl); (focus rfl); (focus (go_simp; (try simp (disch := omega) only [wrap_in, wrap_in', wrap_u16, wrap_u8, wrap_u32, wrap_u64, rem_in, quo_in]); first | done | with_reducible rfl | (constructor <;> with_reducible rfl))))
          | apply d_block
          | (apply d_true; (focus rfl); (focus rfl))
          | (apply d_false; (focus rfl); (focus rfl))
          | apply d_skip
          | apply d_exit
          | apply d_ret
          | with_reducible apply kt_ret
          | with_reducible apply kt_exit
          | with_reducible apply kb_normal
          | with_reducible apply kb_ret
          | with_reducible apply kb_here
          | with_reducible apply kl_ret
          | with_reducible apply kl_exit
          | with_reducible apply kc_ret
          | with_reducible apply kc_exit
          | (with_reducible apply kb_there; (focus rfl))
        refine l_call rfl rfl rfl (by first | (go_simp; done) | (go_simp; rfl)) (HC.out) ?_
        rintro e w1 ⟨rfl, hk1⟩
        have HK1 := Lib.hid (((Keep.refl none_ w).alloc _).next hk1)
        obtain ⟨g', o', c', e1, -, -, -, -, d0, d1, d2, d3, d4⟩ := sees_row ((HOWN.out.keep HK1.out (fun _ _ c => c)).sees) rfl HR.out
        simp only [Value.slice.injEq, Option.some.injEq, true_and] at e1
        obtain ⟨e1, rfl⟩ := e1
        injection e1 with e1 e2
        subst e1 e2
        simp only [Nat.zero_add] at d0 d1 d2 d3 d4
        clear hk1 hlk' c0'
        refine ⟨_, rfl, ?_⟩
        repeat first
          | apply d_seq
          | with_reducible apply kt_normal
          | apply l_nil
          | apply d_region
          | (apply l_off; (focus rfl); (focus rfl))
          | (apply l_val; (focus rfl); (focus rfl); (focus rfl); (focus (go_simp; (try simp (disch := omega) only [wrap_in, wrap_in', wrap_u16, wrap_u8, wrap_u32, wrap_u64, rem_in, quo_in]); first | done | with_reducible rfl | (constructor <;> with_reducible rfl))))
          | (apply l_store; (focus rfl); (focus rfl); (focus rfl); (focus (go_simp; (try simp (disch := omega) only [wrap_in, wrap_in', wrap_u16, wrap_u8, wrap_u32, wrap_u64, rem_in, quo_in]); first | done | with_reducible rfl | (constructor <;> with_reducible rfl))))
          | apply d_block
          | (apply d_true; (focus rfl); (focus rfl))
          | (apply d_false; (focus rfl); (focus rfl))
          | apply d_skip
          | apply d_exit
          | apply d_ret
          | with_reducible apply kt_ret
          | with_reducible apply kt_exit
          | with_reducible apply kb_normal
          | with_reducible apply kb_ret
          | with_reducible apply kb_here
          | with_reducible apply kl_ret
          | with_reducible apply kl_exit
          | with_reducible apply kc_ret
          | with_reducible apply kc_exit
          | (with_reducible apply kb_there; (focus rfl))
        have hsz := HK1.out.size
        have hqa := cell_old (.cells #[.int .u16 r.item, .int .i64 r.wanted, .int .i64 r.picked, .int .i64 r.short, .int .i64 r.put] 52) ((HK1.out.cell (p := ⟨qc, 0, none⟩) hql (fun c => c)).trans HQ.out)
        have HC2 := Lib.hid (HD.out (w1.alloc (.cells #[.int .u16 r.item, .int .i64 r.wanted, .int .i64 r.picked, .int .i64 r.short, .int .i64 r.put] 52)) w1.heap.size qc r qty HROK.out hq1 hq2 (by simp only at hql; omega) (heap_alloc_new _ _) hqa)
        clear hqa
        refine l_call rfl rfl rfl (by first | (go_simp; done) | (go_simp; rfl)) (HC2.out) ?_
        rintro e w2 ⟨rfl, hk2, hb2⟩
        obtain ⟨c0, c1, c2, c3, c4, f0, f1, f2, f3, f4⟩ := blk5 hb2
        have hk2' := (HK1.out.alloc (.cells #[.int .u16 r.item, .int .i64 r.wanted, .int .i64 r.picked, .int .i64 r.short, .int .i64 r.put] 52)).trans (hk2.mono (fun q e => .inr (by subst e; exact hsz)))
        have HCR := Lib.hid (right_any (r.add k qty) (Rw.add_mid HROK.out k hq1 hq2) w2)
        have hbl := lt_of_block hb2
        have HK2 := Lib.hid hk2'
        have HB2 := Lib.hid hb2
        clear hk2 hk2' hb2 HC2
        refine ⟨_, rfl, ?_⟩
        repeat first
          | apply d_seq
          | with_reducible apply kt_normal
          | apply l_nil
          | apply d_region
          | (apply l_off; (focus rfl); (focus rfl))
          | (apply l_val; (focus rfl); (focus rfl); (focus rfl); (focus (go_simp; (try simp (disch := omega) only [wrap_in, wrap_in', wrap_u16, wrap_u8, wrap_u32, wrap_u64, rem_in, quo_in]); first | done | with_reducible rfl | (constructor <;> with_reducible rfl))))
          | (apply l_store; (focus rfl); (focus rfl); (focus rfl); (focus (go_simp; (try simp (disch := omega) only [wrap_in, wrap_in', wrap_u16, wrap_u8, wrap_u32, wrap_u64, rem_in, quo_in]); first | done | with_reducible rfl | (constructor <;> with_reducible rfl))))
          | apply d_block
          | (apply d_true; (focus rfl); (focus rfl))
          | (apply d_false; (focus rfl); (focus rfl))
          | apply d_skip
          | apply d_exit
          | apply d_ret
          | with_reducible apply kt_ret
          | with_reducible apply kt_exit
          | with_reducible apply kb_normal
          | with_reducible apply kb_ret
          | with_reducible apply kb_here
          | with_reducible apply kl_ret
          | with_reducible apply kl_exit
          | with_reducible apply kc_ret
          | with_reducible apply kc_exit
          | (with_reducible apply kb_there; (focus rfl))
        refine l_call rfl rfl rfl (by first | (go_simp; done) | (go_simp; rfl)) (HCR.out) ?_
        rintro e w3 ⟨rfl, hk3⟩
        have hb3 := (hk3.block _ hbl (fun c => c)).trans HB2.out
        obtain ⟨e0, e1, e2, e3, e4, -⟩ := blk5 hb3
        have HK3 := Lib.hid (HK2.out.next hk3)
        clear hb3 hk3 c0 c1 c2 c3 c4 f0 f1 f2 f3 f4 d0 d1 d2 d3 d4 HCR
        have HOKA := fun hr => Lib.hid (Rw.add_ok HROK.out k hq1 hr)
        generalize hra : r.add k qty = ra at *
        generalize w1.heap.size = b at *
        clear hra
        cases hrt : ra.right with
        | false =>
          rw [hrt] at HT
          refine ⟨_, rfl, ?_⟩
          repeat first
            | apply d_seq
            | with_reducible apply kt_normal
            | apply l_nil
            | apply d_region
            | (apply l_off; (focus rfl); (focus rfl))
            | (apply l_val; (focus rfl); (focus rfl); (focus rfl); (focus (go_simp; (try simp (disch := omega) only [wrap_in, wrap_in', wrap_u16, wrap_u8, wrap_u32, wrap_u64, rem_in, quo_in]); first | done | with_reducible rfl | (constructor <;> with_reducible rfl))))
            | (apply l_store; (focus rfl); (focus rfl); (focus rfl); (focus (go_simp; (try simp (disch := omega) only [wrap_in, wrap_in', wrap_u16, wrap_u8, wrap_u32, wrap_u64, rem_in, quo_in]); first | done | with_reducible rfl | (constructor <;> with_reducible rfl))))
            | apply d_block
            | (apply d_true; (focus rfl); (focus rfl))
            | (apply d_false; (focus rfl); (focus rfl))
            | apply d_skip
            | apply d_exit
            | apply d_ret
            | with_reducible apply kt_ret
            | with_reducible apply kt_exit
            | with_reducible apply kb_normal
            | with_reducible apply kb_ret
            | with_reducible apply kb_here
            | with_reducible apply kl_ret
            | with_reducible apply kl_exit
            | with_reducible apply kc_ret
            | with_reducible apply kc_exit
            | (with_reducible apply kb_there; (focus rfl))
          refine ⟨rfl, _, (by first | (simp [resultsG, resOne, Try.results39, rho, List.lookup]; done) | (simp [resultsG, resOne, Try.results39, rho, List.lookup]; rfl)), ?_⟩
          rw [HT.out]
          exact ⟨rfl, SAME.out _ HK3.out⟩
        | true =>
          have hok2 := HOKA hrt
          have hres := HUPD.out w3 i ra (fun q hq hl => HK3.out.block q hl (fun c => c)) hil hok2.out
          have ho3 := HOWN.out.keep HK3.out (fun _ _ c => c)
          obtain ⟨⟨u0, d0, -⟩, f0⟩ := ho3.cell (i * 5) (by omega)
          obtain ⟨⟨u1, d1, -⟩, f1⟩ := ho3.cell (i * 5 + 1) (by omega)
          obtain ⟨⟨u2, d2, -⟩, f2⟩ := ho3.cell (i * 5 + 2) (by omega)
          obtain ⟨⟨u3, d3, -⟩, f3⟩ := ho3.cell (i * 5 + 3) (by omega)
          obtain ⟨⟨u4, d4, -⟩, f4⟩ := ho3.cell (i * 5 + 4) (by omega)
          have HRES := Lib.hid hres
          rw [hrt] at HT
          clear hres ho3 hok2 HOKA
          refine ⟨_, rfl, ?_⟩
          repeat first
            | apply d_seq
            | with_reducible apply kt_normal
            | apply l_nil
            | apply d_region
            | (apply l_off; (focus rfl); (focus rfl))
            | (apply l_val; (focus rfl); (focus rfl); (focus rfl); (focus (go_simp; (try simp (disch := omega) only [wrap_in, wrap_in', wrap_u16, wrap_u8, wrap_u32, wrap_u64, rem_in, quo_in]); first | done | with_reducible rfl | (constructor <;> with_reducible rfl))))
            | (apply l_store; (focus rfl); (focus rfl); (focus rfl); (focus (go_simp; (try simp (disch := omega) only [wrap_in, wrap_in', wrap_u16, wrap_u8, wrap_u32, wrap_u64, rem_in, quo_in]); first | done | with_reducible rfl | (constructor <;> with_reducible rfl))))
            | apply d_block
            | (apply d_true; (focus rfl); (focus rfl))
            | (apply d_false; (focus rfl); (focus rfl))
            | apply d_skip
            | apply d_exit
            | apply d_ret
            | with_reducible apply kt_ret
            | with_reducible apply kt_exit
            | with_reducible apply kb_normal
            | with_reducible apply kb_ret
            | with_reducible apply kb_here
            | with_reducible apply kl_ret
            | with_reducible apply kl_exit
            | with_reducible apply kc_ret
            | with_reducible apply kc_exit
            | (with_reducible apply kb_there; (focus rfl))
          refine ⟨rfl, _, (by first | (simp [resultsG, resOne, Try.results39, rho, List.lookup]; done) | (simp [resultsG, resOne, Try.results39, rho, List.lookup]; rfl)), ?_⟩
          rw [HT.out]
          refine ⟨rfl, (HK3.out.none).set5 (.inr hFg) (i * 5) ra, HRES.out.move (fun q hq _ => ⟨.inl hq, rfl⟩)⟩
theorem pPick_any (x : Nat) (s : LS) (id item qty : Int) (F : Nat → Prop) (w : World) (h : LRep w F x s) (hF : ∀ k, F k → k < w.heap.size) :
    Calls Try.prog 25 #[.pointer (some ⟨x, 0, none⟩), .int .u32 id, .int .u16 item, .int .i64 qty] w fun e w' => e = .returned (.int .i64 (s.turn id item qty 1).2) ∧ Keep F w w' ∧ LRep w' (fresh F w w') x (s.turn id item qty 1).1 := by
  have HC := Lib.hid (turn_any x s id item qty 40 1 w.heap.size does1 (fun args w => by go_simp) F (w.alloc (.cells #[.int .i64 qty] 3)) (h.move (fun q hq hl => ⟨hq, Below.heap_alloc _ _ _ hl⟩)) (by rw [World.cell?_alloc_at _ _ _ _ rfl]; rfl) (fun c => Nat.lt_irrefl _ (hF _ c)))
  clear h
  refine d_calls (n := 15) Try.func25 rfl rfl (by simp) [(0, .pointer (some ⟨x, 0, none⟩)), (1, .int .u32 id), (2, .int .u16 item), (3, .int .i64 qty)] (by simp) ?_
  repeat first
    | apply d_seq
    | with_reducible apply kt_normal
    | apply l_nil
    | apply d_region
    | (apply l_off; (focus rfl); (focus rfl))
    | (apply l_val; (focus rfl); (focus rfl); (focus rfl); (focus (go_simp; (try simp (disch := omega) only [wrap_in, wrap_in', wrap_u16, wrap_u8, wrap_u32, wrap_u64, rem_in, quo_in]); first | done | with_reducible rfl | (constructor <;> with_reducible rfl))))
    | (apply l_store; (focus rfl); (focus rfl); (focus rfl); (focus (go_simp; (try simp (disch := omega) only [wrap_in, wrap_in', wrap_u16, wrap_u8, wrap_u32, wrap_u64, rem_in, quo_in]); first | done | with_reducible rfl | (constructor <;> with_reducible rfl))))
    | apply d_block
    | (apply d_true; (focus rfl); (focus rfl))
    | (apply d_false; (focus rfl); (focus rfl))
    | apply d_skip
    | apply d_exit
    | apply d_ret
    | with_reducible apply kt_ret
    | with_reducible apply kt_exit
    | with_reducible apply kb_normal
    | with_reducible apply kb_ret
    | with_reducible apply kb_here
    | with_reducible apply kl_ret
    | with_reducible apply kl_exit
    | with_reducible apply kc_ret
    | with_reducible apply kc_exit
    | (with_reducible apply kb_there; (focus rfl))
  refine l_call rfl rfl rfl (by first | (go_simp; done) | (go_simp; rfl)) (HC.out) ?_
  rintro e w' ⟨rfl, hk, hr⟩
  have HK := Lib.hid hk
  have HR := Lib.hid hr
  clear hk hr
  refine ⟨_, rfl, ?_⟩
  repeat first
    | apply d_seq
    | with_reducible apply kt_normal
    | apply l_nil
    | apply d_region
    | (apply l_off; (focus rfl); (focus rfl))
    | (apply l_val; (focus rfl); (focus rfl); (focus rfl); (focus (go_simp; (try simp (disch := omega) only [wrap_in, wrap_in', wrap_u16, wrap_u8, wrap_u32, wrap_u64, rem_in, quo_in]); first | done | with_reducible rfl | (constructor <;> with_reducible rfl))))
    | (apply l_store; (focus rfl); (focus rfl); (focus rfl); (focus (go_simp; (try simp (disch := omega) only [wrap_in, wrap_in', wrap_u16, wrap_u8, wrap_u32, wrap_u64, rem_in, quo_in]); first | done | with_reducible rfl | (constructor <;> with_reducible rfl))))
    | apply d_block
    | (apply d_true; (focus rfl); (focus rfl))
    | (apply d_false; (focus rfl); (focus rfl))
    | apply d_skip
    | apply d_exit
    | apply d_ret
    | with_reducible apply kt_ret
    | with_reducible apply kt_exit
    | with_reducible apply kb_normal
    | with_reducible apply kb_ret
    | with_reducible apply kb_here
    | with_reducible apply kl_ret
    | with_reducible apply kl_exit
    | with_reducible apply kc_ret
    | with_reducible apply kc_exit
    | (with_reducible apply kb_there; (focus rfl))
  refine ⟨rfl, _, (by first | (simp [resultsG, resOne, Try.results25, rho, List.lookup]; done) | (simp [resultsG, resOne, Try.results25, rho, List.lookup]; rfl)), ?_⟩
  exact ⟨rfl, ((Keep.refl F w).alloc _).trans (HK.out.mono (fun q c => .inl c)), HR.out.move (fun q hq _ => ⟨by rcases hq with c | c; exact .inl c; simp at c; exact .inr (by omega), rfl⟩)⟩
theorem pShort_any (x : Nat) (s : LS) (id item qty : Int) (F : Nat → Prop) (w : World) (h : LRep w F x s) (hF : ∀ k, F k → k < w.heap.size) :
    Calls Try.prog 27 #[.pointer (some ⟨x, 0, none⟩), .int .u32 id, .int .u16 item, .int .i64 qty] w fun e w' => e = .returned (.int .i64 (s.turn id item qty 2).2) ∧ Keep F w w' ∧ LRep w' (fresh F w w') x (s.turn id item qty 2).1 := by
  have HC := Lib.hid (turn_any x s id item qty 42 2 w.heap.size does2 (fun args w => by go_simp) F (w.alloc (.cells #[.int .i64 qty] 3)) (h.move (fun q hq hl => ⟨hq, Below.heap_alloc _ _ _ hl⟩)) (by rw [World.cell?_alloc_at _ _ _ _ rfl]; rfl) (fun c => Nat.lt_irrefl _ (hF _ c)))
  clear h
  refine d_calls (n := 15) Try.func27 rfl rfl (by simp) [(0, .pointer (some ⟨x, 0, none⟩)), (1, .int .u32 id), (2, .int .u16 item), (3, .int .i64 qty)] (by simp) ?_
  repeat first
    | apply d_seq
    | with_reducible apply kt_normal
    | apply l_nil
    | apply d_region
    | (apply l_off; (focus rfl); (focus rfl))
    | (apply l_val; (focus rfl); (focus rfl); (focus rfl); (focus (go_simp; (try simp (disch := omega) only [wrap_in, wrap_in', wrap_u16, wrap_u8, wrap_u32, wrap_u64, rem_in, quo_in]); first | done | with_reducible rfl | (constructor <;> with_reducible rfl))))
    | (apply l_store; (focus rfl); (focus rfl); (focus rfl); (focus (go_simp; (try simp (disch := omega) only [wrap_in, wrap_in', wrap_u16, wrap_u8, wrap_u32, wrap_u64, rem_in, quo_in]); first | done | with_reducible rfl | (constructor <;> with_reducible rfl))))
    | apply d_block
    | (apply d_true; (focus rfl); (focus rfl))
    | (apply d_false; (focus rfl); (focus rfl))
    | apply d_skip
    | apply d_exit
    | apply d_ret
    | with_reducible apply kt_ret
    | with_reducible apply kt_exit
    | with_reducible apply kb_normal
    | with_reducible apply kb_ret
    | with_reducible apply kb_here
    | with_reducible apply kl_ret
    | with_reducible apply kl_exit
    | with_reducible apply kc_ret
    | with_reducible apply kc_exit
    | (with_reducible apply kb_there; (focus rfl))
  refine l_call rfl rfl rfl (by first | (go_simp; done) | (go_simp; rfl)) (HC.out) ?_
  rintro e w' ⟨rfl, hk, hr⟩
  have HK := Lib.hid hk
  have HR := Lib.hid hr
  clear hk hr
  refine ⟨_, rfl, ?_⟩
  repeat first
    | apply d_seq
    | with_reducible apply kt_normal
    | apply l_nil
    | apply d_region
    | (apply l_off; (focus rfl); (focus rfl))
    | (apply l_val; (focus rfl); (focus rfl); (focus rfl); (focus (go_simp; (try simp (disch := omega) only [wrap_in, wrap_in', wrap_u16, wrap_u8, wrap_u32, wrap_u64, rem_in, quo_in]); first | done | with_reducible rfl | (constructor <;> with_reducible rfl))))
    | (apply l_store; (focus rfl); (focus rfl); (focus rfl); (focus (go_simp; (try simp (disch := omega) only [wrap_in, wrap_in', wrap_u16, wrap_u8, wrap_u32, wrap_u64, rem_in, quo_in]); first | done | with_reducible rfl | (constructor <;> with_reducible rfl))))
    | apply d_block
    | (apply d_true; (focus rfl); (focus rfl))
    | (apply d_false; (focus rfl); (focus rfl))
    | apply d_skip
    | apply d_exit
    | apply d_ret
    | with_reducible apply kt_ret
    | with_reducible apply kt_exit
    | with_reducible apply kb_normal
    | with_reducible apply kb_ret
    | with_reducible apply kb_here
    | with_reducible apply kl_ret
    | with_reducible apply kl_exit
    | with_reducible apply kc_ret
    | with_reducible apply kc_exit
    | (with_reducible apply kb_there; (focus rfl))
  refine ⟨rfl, _, (by first | (simp [resultsG, resOne, Try.results27, rho, List.lookup]; done) | (simp [resultsG, resOne, Try.results27, rho, List.lookup]; rfl)), ?_⟩
  exact ⟨rfl, ((Keep.refl F w).alloc _).trans (HK.out.mono (fun q c => .inl c)), HR.out.move (fun q hq _ => ⟨by rcases hq with c | c; exact .inl c; simp at c; exact .inr (by omega), rfl⟩)⟩
theorem pPut_any (x : Nat) (s : LS) (id item qty : Int) (F : Nat → Prop) (w : World) (h : LRep w F x s) (hF : ∀ k, F k → k < w.heap.size) :
    Calls Try.prog 26 #[.pointer (some ⟨x, 0, none⟩), .int .u32 id, .int .u16 item, .int .i64 qty] w fun e w' => e = .returned (.int .i64 (s.turn id item qty 3).2) ∧ Keep F w w' ∧ LRep w' (fresh F w w') x (s.turn id item qty 3).1 := by
  have HC := Lib.hid (turn_any x s id item qty 41 3 w.heap.size does3 (fun args w => by go_simp) F (w.alloc (.cells #[.int .i64 qty] 3)) (h.move (fun q hq hl => ⟨hq, Below.heap_alloc _ _ _ hl⟩)) (by rw [World.cell?_alloc_at _ _ _ _ rfl]; rfl) (fun c => Nat.lt_irrefl _ (hF _ c)))
  clear h
  refine d_calls (n := 15) Try.func26 rfl rfl (by simp) [(0, .pointer (some ⟨x, 0, none⟩)), (1, .int .u32 id), (2, .int .u16 item), (3, .int .i64 qty)] (by simp) ?_
  repeat first
    | apply d_seq
    | with_reducible apply kt_normal
    | apply l_nil
    | apply d_region
    | (apply l_off; (focus rfl); (focus rfl))
    | (apply l_val; (focus rfl); (focus rfl); (focus rfl); (focus (go_simp; (try simp (disch := omega) only [wrap_in, wrap_in', wrap_u16, wrap_u8, wrap_u32, wrap_u64, rem_in, quo_in]); first | done | with_reducible rfl | (constructor <;> with_reducible rfl))))
    | (apply l_store; (focus rfl); (focus rfl); (focus rfl); (focus (go_simp; (try simp (disch := omega) only [wrap_in, wrap_in', wrap_u16, wrap_u8, wrap_u32, wrap_u64, rem_in, quo_in]); first | done | with_reducible rfl | (constructor <;> with_reducible rfl))))
    | apply d_block
    | (apply d_true; (focus rfl); (focus rfl))
    | (apply d_false; (focus rfl); (focus rfl))
    | apply d_skip
    | apply d_exit
    | apply d_ret
    | with_reducible apply kt_ret
    | with_reducible apply kt_exit
    | with_reducible apply kb_normal
    | with_reducible apply kb_ret
    | with_reducible apply kb_here
    | with_reducible apply kl_ret
    | with_reducible apply kl_exit
    | with_reducible apply kc_ret
    | with_reducible apply kc_exit
    | (with_reducible apply kb_there; (focus rfl))
  refine l_call rfl rfl rfl (by first | (go_simp; done) | (go_simp; rfl)) (HC.out) ?_
  rintro e w' ⟨rfl, hk, hr⟩
  have HK := Lib.hid hk
  have HR := Lib.hid hr
  clear hk hr
  refine ⟨_, rfl, ?_⟩
  repeat first
    | apply d_seq
    | with_reducible apply kt_normal
    | apply l_nil
    | apply d_region
    | (apply l_off; (focus rfl); (focus rfl))
    | (apply l_val; (focus rfl); (focus rfl); (focus rfl); (focus (go_simp; (try simp (disch := omega) only [wrap_in, wrap_in', wrap_u16, wrap_u8, wrap_u32, wrap_u64, rem_in, quo_in]); first | done | with_reducible rfl | (constructor <;> with_reducible rfl))))
    | (apply l_store; (focus rfl); (focus rfl); (focus rfl); (focus (go_simp; (try simp (disch := omega) only [wrap_in, wrap_in', wrap_u16, wrap_u8, wrap_u32, wrap_u64, rem_in, quo_in]); first | done | with_reducible rfl | (constructor <;> with_reducible rfl))))
    | apply d_block
    | (apply d_true; (focus rfl); (focus rfl))
    | (apply d_false; (focus rfl); (focus rfl))
    | apply d_skip
    | apply d_exit
    | apply d_ret
    | with_reducible apply kt_ret
    | with_reducible apply kt_exit
    | with_reducible apply kb_normal
    | with_reducible apply kb_ret
    | with_reducible apply kb_here
    | with_reducible apply kl_ret
    | with_reducible apply kl_exit
    | with_reducible apply kc_ret
    | with_reducible apply kc_exit
    | (with_reducible apply kb_there; (focus rfl))
  refine ⟨rfl, _, (by first | (simp [resultsG, resOne, Try.results26, rho, List.lookup]; done) | (simp [resultsG, resOne, Try.results26, rho, List.lookup]; rfl)), ?_⟩
  exact ⟨rfl, ((Keep.refl F w).alloc _).trans (HK.out.mono (fun q c => .inl c)), HR.out.move (fun q hq _ => ⟨by rcases hq with c | c; exact .inl c; simp at c; exact .inr (by omega), rfl⟩)⟩
end Go.Proofs.Ytkjcmnhhgnlaeaa
