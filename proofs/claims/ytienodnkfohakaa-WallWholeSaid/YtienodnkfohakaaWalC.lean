import Derived.Test.YtienodnkfohakaaWalB
namespace Go.Proofs.Ytienodnkfohakaa
set_option linter.unusedVariables false
set_option linter.unusedSimpArgs false
attribute [local go_sem] rho_const rho_func rho_hit rho_miss
open Go.RowKit
attribute [local go_sem] min2_mn min_two' max2_mx max_two'
theorem set_same' {α : Type} {l : List α} {i : Nat} {v : α} (h : l[i]? = some v) : l.set i v = l := by
  apply List.ext_getElem?
  intro j
  rw [List.getElem?_set]
  split
  · rename_i e
    subst e
    rw [if_pos (List.getElem?_eq_some_iff.1 h).1, h]
  · rfl
theorem cub_set (xs : List CbV) (x' : CbV) : ∀ k, k < xs.length → (xs.set k x').flatMap CbV.cs = (((xs.flatMap CbV.cs).set (k * 3) (.bool x'.c.held)).set (k * 3 + 1) (.int .u32 x'.c.order)).set (k * 3 + 2) x'.v := by
  induction xs with
  | nil => intro k h; simp at h
  | cons y xs ih =>
    intro k h
    have e : ∀ (u : CbV) (us : List CbV), (u :: us).flatMap CbV.cs = .bool u.c.held :: .int .u32 u.c.order :: u.v :: us.flatMap CbV.cs := fun u us => by simp [CbV.cs]
    cases k with
    | zero => rw [List.set_cons_zero, e, e]; rfl
    | succ k =>
      rw [List.set_cons_succ, e, e, show (k + 1) * 3 = k * 3 + 1 + 1 + 1 by omega, show k * 3 + 1 + 1 + 1 + 1 = k * 3 + 1 + 1 + 1 + 1 from rfl, show k * 3 + 1 + 1 + 1 + 2 = k * 3 + 2 + 1 + 1 + 1 by omega]
      simp only [List.set_cons_succ]
      rw [ih k (by simpa using h)]
theorem lns_setq (l : List Ln) (q : Int) : ∀ (j : Nat) (x : Ln), l[j]? = some x → (lns l).set (j * 3 + 2) (.int .i64 q) = lns (l.set j { x with qty := q }) := by
  induction l with
  | nil => intro j x h; simp at h
  | cons y l ih =>
    intro j x h
    have e : ∀ (u : Ln) (us : List Ln), lns (u :: us) = .int .u16 u.item :: .int .u16 u.loc :: .int .i64 u.qty :: lns us := fun u us => by simp [lns, Ln.cs]
    cases j with
    | zero =>
      simp only [List.getElem?_cons_zero, Option.some.injEq] at h
      subst h
      rw [List.set_cons_zero, e, e]; rfl
    | succ j =>
      rw [List.getElem?_cons_succ] at h
      rw [List.set_cons_succ, e, e, show (j + 1) * 3 + 2 = j * 3 + 2 + 1 + 1 + 1 by omega]
      simp only [List.set_cons_succ]
      rw [ih j x h]
theorem lns_erase (l : List Ln) (j : Nat) : (lns l).take (j * 3) ++ (lns l).drop ((j + 1) * 3) = lns (l.eraseIdx j) := by
  unfold lns
  rw [fl_take Ln.three, fl_drop Ln.three, ← List.flatMap_append, List.eraseIdx_eq_take_drop_succ]
section
variable {F : Nat → Prop} {w0 w : World} {p g : Nat} {xs : List CbV}
theorem wparts_len (p g : Nat) (xs : List CbV) (k : Nat) (x : CbV) : BlkA 0 p #[.slice (some ⟨g, 0, none⟩) (xs.set k x).length (xs.set k x).length] 68 = BlkA 0 p #[.slice (some ⟨g, 0, none⟩) xs.length xs.length] 68 := by rw [List.length_set]
/-- A row changed. -/
theorem wparts_row' (p g : Nat) {k : Nat} {y : CbV} (hy : xs[k]? = some y) (l' : List Ln) : (wparts p g xs).set (k + 2) (OwnA 0 35 3 y.v l'.length (lns l')) = wparts p g (xs.set k ⟨{ y.c with needs := l' }, y.v⟩) := by
  have hk := (List.getElem?_eq_some_iff.1 hy).1
  obtain ⟨h0, h1, h2⟩ := cubArr_get xs hy
  unfold cubArr at h0 h1 h2
  simp only [List.getElem?_toArray] at h0 h1 h2
  unfold wparts cubArr
  rw [wparts_len, cub_set xs _ k hk]
  dsimp only
  rw [set_same' h0, set_same' h1, set_same' h2, List.map_set]
  rfl
/-- A row changed, and its value. -/
theorem wparts_val (p g : Nat) {k : Nat} {y : CbV} (hy : xs[k]? = some y) (l' : List Ln) (v' : Value) : ((wparts p g xs).set (k + 2) (OwnA 0 35 3 v' l'.length (lns l'))).set 1 (BlkA 0 g ((cubArr xs).setIfInBounds (k * 3 + 2) v') 74) = wparts p g (xs.set k ⟨{ y.c with needs := l' }, v'⟩) := by
  have hk := (List.getElem?_eq_some_iff.1 hy).1
  obtain ⟨h0, h1, h2⟩ := cubArr_get xs hy
  unfold cubArr at h0 h1 h2
  simp only [List.getElem?_toArray] at h0 h1 h2
  unfold wparts cubArr
  rw [wparts_len, cub_set xs _ k hk]
  dsimp only
  rw [set_same' h0, set_same' h1, List.map_set, List.setIfInBounds_toArray]
  rfl
/-- All of a cubby changed. -/
theorem wparts_all (p g : Nat) {k : Nat} {y : CbV} (hy : xs[k]? = some y) (x' : CbV) : ((wparts p g xs).set (k + 2) (OwnA 0 35 3 x'.v x'.c.needs.length (lns x'.c.needs))).set 1 (BlkA 0 g ((((cubArr xs).setIfInBounds (k * 3) (.bool x'.c.held)).setIfInBounds (k * 3 + 1) (.int .u32 x'.c.order)).setIfInBounds (k * 3 + 2) x'.v) 74) = wparts p g (xs.set k x') := by
  have hk := (List.getElem?_eq_some_iff.1 hy).1
  unfold wparts cubArr
  rw [wparts_len, cub_set xs _ k hk, List.map_set, List.setIfInBounds_toArray, List.setIfInBounds_toArray, List.setIfInBounds_toArray]
  rfl
/-- The wall again. -/
theorem WRep.of {s : WS} (hg : s.good) {xs : List CbV} (hc : xs.map CbV.c = s.cubs) {k : Nat} {c' : Cb} {v' : Value} (hk : (s.upd k c').good) (H : HasF F w0 w (wparts p g (xs.set k ⟨c', v'⟩))) : WRep w (fresh F w0 w) p g (s.upd k c') :=
  ⟨hk, _, by rw [List.map_set, hc]; rfl, H.parts⟩
end
theorem WRep.grow {w w' : World} {F : Nat → Prop} {p g : Nat} {s : WS} (h : WRep w F p g s) (hk : Keep none_ w w') : WRep w' (fresh F w w') p g s := h.move hk.size (fun k hF hl => ⟨.inl hF, hk.block k hl (fun c => c)⟩)
set_option maxRecDepth 100000 in
set_option maxHeartbeats 4000000 in
/-- put takes what a cubby needs of an item. -/
theorem putC_any (p g k : Nat) (it qty : Int) (s : WS) (c : Cb) (F : Nat → Prop) (w : World) (h : WRep w F p g s) (hc : s.cubs[k]? = some c) (hheld : c.held = true) :
    Calls Try.prog 37 #[.pointer (some ⟨g, k * 3, none⟩), .int .u16 it, .int .i64 qty] w fun e w' => e = .returned (.int .i64 (lput c.needs it qty).2) ∧ Keep F w w' ∧ WRep w' (fresh F w w') p g (s.upd k { c with needs := (lput c.needs it qty).1 }) := by
  obtain ⟨hg, xs, hcs, hparts⟩ := h
  have hrep : WRep w F p g s := ⟨hg, xs, hcs, hparts⟩
  have hcg := hg.each c (List.mem_of_getElem? hc)
  have hgood2 : (s.upd k { c with needs := (lput c.needs it qty).1 }).good := hg.upd k ⟨hcg.need.put it qty, fun hh => by rw [hheld] at hh; simp at hh⟩
  have hxk : ∃ v, xs[k]? = some ⟨c, v⟩ := by
    rw [← hcs, List.getElem?_map] at hc
    obtain ⟨x, h1, h2⟩ := Option.map_eq_some_iff.1 hc
    exact ⟨x.v, by rw [h1, ← h2]⟩
  obtain ⟨v, hy⟩ := hxk
  have H0 := HasF.start hparts
  obtain ⟨d0, d1, d2⟩ := wparts_at H0 hy
  obtain ⟨G, A, cp, ev, hb1, hb2, hsee⟩ := wparts_sees H0 hy
  dsimp only at ev hsee d2 hb1 hb2
  subst ev
  have hp := placeC_any g k ⟨c, .slice A c.needs.length cp⟩ it A cp G w d2 hsee hcg.need
  dsimp only at hp
  obtain ⟨hi1, hi2⟩ := isat_lk hcg.need.asc it
  rw [hi1] at hp
  have same : s.upd k { c with needs := c.needs } = s := by
    have : ({ c with needs := c.needs } : Cb) = c := rfl
    rw [this]
    unfold WS.upd
    rw [set_same' hc]
  cases hlk : lk c.needs it with
  | none =>
    rw [hlk] at hp
    have e1 : lput c.needs it qty = (c.needs, 11) := by unfold lput; rw [hlk]
    rw [e1]
    dsimp only
    rw [same]
    have HP := Lib.hid hp
    have HREP := Lib.hid hrep
    clear hp hrep
    clear hg hcs hparts hcg hgood2 hy H0 d0 d1 d2 hsee hi1 hi2 hlk e1 same hc hb1 hb2
    refine d_calls (n := 65) Try.func37 rfl rfl (by simp) [(0, .pointer (some ⟨g, k * 3, none⟩)), (1, .int .u16 it), (2, .int .i64 qty)] (by simp) ?_
    repeat first
      | apply d_seq
      | with_reducible apply kt_normal
      | apply l_nil
      | apply d_region
      | (apply l_off; (focus rfl); (focus rfl))
      | (apply l_val; (focus rfl); (focus rfl); (focus rfl); (focus (go_simp; (try simp (disch := omega) only [wrap_in, wrap_in', wrap_u16, wrap_u8, wrap_u32, wrap_u64, rem_in, quo_in]); first | done | with_reducible rfl | (constructor <;> with_reducible rfl))))
      | (apply l_store; (focus rfl); (focus rfl); (focus rfl); (focus (go_simp; (try simp (disch := omega) only [wrap_in, wrap_in', wrap_u16, wrap_u8, wrap_u32, wrap_u64, rem_in, quo_in]); first | done | with_reducible rfl | (constructor <;> with_reducible rfl))))
      | apply d_block
      | (apply d_true; (focus rfl); (focus rfl))
      | (apply d_false; (focus rfl); (focus rfl))
      | apply d_skip
      | apply d_exit
      | apply d_ret
      | with_reducible apply kt_ret
      | with_reducible apply kt_exit
      | with_reducible apply kb_normal
      | with_reducible apply kb_ret
      | with_reducible apply kb_here
      | with_reducible apply kl_ret
      | with_reducible apply kl_exit
      | with_reducible apply kc_ret
      | with_reducible apply kc_exit
      | (with_reducible apply kb_there; (focus rfl))
    refine l_call rfl rfl rfl (by first | (go_simp; done) | (go_simp; rfl)) (HP.out) ?_
    rintro e w' ⟨rfl, hk2⟩
    refine ⟨_, rfl, ?_⟩
    repeat first
      | apply d_seq
      | with_reducible apply kt_normal
      | apply l_nil
      | apply d_region
      | (apply l_off; (focus rfl); (focus rfl))
      | (apply l_val; (focus rfl); (focus rfl); (focus rfl); (focus (go_simp; (try simp (disch := omega) only [wrap_in, wrap_in', wrap_u16, wrap_u8, wrap_u32, wrap_u64, rem_in, quo_in]); first | done | with_reducible rfl | (constructor <;> with_reducible rfl))))
      | (apply l_store; (focus rfl); (focus rfl); (focus rfl); (focus (go_simp; (try simp (disch := omega) only [wrap_in, wrap_in', wrap_u16, wrap_u8, wrap_u32, wrap_u64, rem_in, quo_in]); first | done | with_reducible rfl | (constructor <;> with_reducible rfl))))
      | apply d_block
      | (apply d_true; (focus rfl); (focus rfl))
      | (apply d_false; (focus rfl); (focus rfl))
      | apply d_skip
      | apply d_exit
      | apply d_ret
      | with_reducible apply kt_ret
      | with_reducible apply kt_exit
      | with_reducible apply kb_normal
      | with_reducible apply kb_ret
      | with_reducible apply kb_here
      | with_reducible apply kl_ret
      | with_reducible apply kl_exit
      | with_reducible apply kc_ret
      | with_reducible apply kc_exit
      | (with_reducible apply kb_there; (focus rfl))
    refine ⟨rfl, _, (by first | (simp [resultsG, resOne, Try.results37, rho, List.lookup]; done) | (simp [resultsG, resOne, Try.results37, rho, List.lookup]; rfl)), ?_⟩
    exact ⟨rfl, hk2.none, HREP.out.grow hk2⟩
  | some x =>
    rw [hlk] at hp
    have hx := hi2 x hlk
    have hpos := hcg.need.pos x (List.mem_of_getElem? hx)
    have hbl : bpos c.needs it < c.needs.length := (List.getElem?_eq_some_iff.1 hx).1
    have hlen := hcg.need.len
    have E : lput c.needs it qty = if qty < 1 ∨ x.qty < qty then (c.needs, 10) else if x.qty - qty = 0 then (c.needs.eraseIdx (bpos c.needs it), 0) else (c.needs.set (bpos c.needs it) { x with qty := x.qty - qty }, 0) := by unfold lput; rw [hlk]
    rw [E] at hgood2 ⊢
    clear E hi1 hi2 hlk hcg
    generalize bpos c.needs it = j at *
    have q5 : ((j : Nat) : Int) < ((c.needs.length : Nat) : Int) := by omega
    by_cases c1 : qty < 1 ∨ x.qty < qty
    · rw [if_pos c1]
      dsimp only
      rw [same]
      obtain ⟨g2, o2, rfl, -, -, z0, z1, z2⟩ := sees_ln hsee rfl hx
      have HZ := Lib.hid z2
      have HD := Lib.hid d2
      have HP := Lib.hid hp
      have HREP := Lib.hid hrep
      clear hp hrep
      clear hg hcs hparts hgood2 hy H0 d0 d1 hsee same hc hb1 hb2 hx z0 z1 z2 d2
      by_cases c2 : qty < 1
      · have q1 : decide (qty < 1) = true := decide_eq_true c2
        clear c1
        refine d_calls (n := 65) Try.func37 rfl rfl (by simp) [(0, .pointer (some ⟨g, k * 3, none⟩)), (1, .int .u16 it), (2, .int .i64 qty)] (by simp) ?_
        repeat first
          | apply d_seq
          | with_reducible apply kt_normal
          | apply l_nil
          | apply d_region
          | (apply l_off; (focus rfl); (focus rfl))
          | (apply l_val; (focus rfl); (focus rfl); (focus rfl); (focus (go_simp; (try simp (disch := omega) only [wrap_in, wrap_in', wrap_u16, wrap_u8, wrap_u32, wrap_u64, rem_in, quo_in]); first | done | with_reducible rfl | (constructor <;> with_reducible rfl))))
          | (apply l_store; (focus rfl); (focus rfl); (focus rfl); (focus (go_simp; (try simp (disch := omega) only [wrap_in, wrap_in', wrap_u16, wrap_u8, wrap_u32, wrap_u64, rem_in, quo_in]); first | done | with_reducible rfl | (constructor <;> with_reducible rfl))))
          | apply d_block
          | (apply d_true; (focus rfl); (focus rfl))
          | (apply d_false; (focus rfl); (focus rfl))
          | apply d_skip
          | apply d_exit
          | apply d_ret
          | with_reducible apply kt_ret
          | with_reducible apply kt_exit
          | with_reducible apply kb_normal
          | with_reducible apply kb_ret
          | with_reducible apply kb_here
          | with_reducible apply kl_ret
          | with_reducible apply kl_exit
          | with_reducible apply kc_ret
          | with_reducible apply kc_exit
          | (with_reducible apply kb_there; (focus rfl))
        refine l_call rfl rfl rfl (by first | (go_simp; done) | (go_simp; rfl)) (HP.out) ?_
        rintro e w' ⟨rfl, hk2⟩
        refine ⟨_, rfl, ?_⟩
        repeat first
          | apply d_seq
          | with_reducible apply kt_normal
          | apply l_nil
          | apply d_region
          | (apply l_off; (focus rfl); (focus rfl))
          | (apply l_val; (focus rfl); (focus rfl); (focus rfl); (focus (go_simp; (try simp (disch := omega) only [wrap_in, wrap_in', wrap_u16, wrap_u8, wrap_u32, wrap_u64, rem_in, quo_in]); first | done | with_reducible rfl | (constructor <;> with_reducible rfl))))
          | (apply l_store; (focus rfl); (focus rfl); (focus rfl); (focus (go_simp; (try simp (disch := omega) only [wrap_in, wrap_in', wrap_u16, wrap_u8, wrap_u32, wrap_u64, rem_in, quo_in]); first | done | with_reducible rfl | (constructor <;> with_reducible rfl))))
          | apply d_block
          | (apply d_true; (focus rfl); (focus rfl))
          | (apply d_false; (focus rfl); (focus rfl))
          | apply d_skip
          | apply d_exit
          | apply d_ret
          | with_reducible apply kt_ret
          | with_reducible apply kt_exit
          | with_reducible apply kb_normal
          | with_reducible apply kb_ret
          | with_reducible apply kb_here
          | with_reducible apply kl_ret
          | with_reducible apply kl_exit
          | with_reducible apply kc_ret
          | with_reducible apply kc_exit
          | (with_reducible apply kb_there; (focus rfl))
        refine ⟨rfl, _, (by first | (simp [resultsG, resOne, Try.results37, rho, List.lookup]; done) | (simp [resultsG, resOne, Try.results37, rho, List.lookup]; rfl)), ?_⟩
        exact ⟨rfl, hk2.none, HREP.out.grow hk2⟩
      · have q1 : decide (qty < 1) = false := decide_eq_false c2
        have q2 : decide (x.qty < qty) = true := decide_eq_true (c1.resolve_left c2)
        have q2' : decide (qty > x.qty) = true := q2
        clear c1
        refine d_calls (n := 65) Try.func37 rfl rfl (by simp) [(0, .pointer (some ⟨g, k * 3, none⟩)), (1, .int .u16 it), (2, .int .i64 qty)] (by simp) ?_
        repeat first
          | apply d_seq
          | with_reducible apply kt_normal
          | apply l_nil
          | apply d_region
          | (apply l_off; (focus rfl); (focus rfl))
          | (apply l_val; (focus rfl); (focus rfl); (focus rfl); (focus (go_simp; (try simp (disch := omega) only [wrap_in, wrap_in', wrap_u16, wrap_u8, wrap_u32, wrap_u64, rem_in, quo_in]); first | done | with_reducible rfl | (constructor <;> with_reducible rfl))))
          | (apply l_store; (focus rfl); (focus rfl); (focus rfl); (focus (go_simp; (try simp (disch := omega) only [wrap_in, wrap_in', wrap_u16, wrap_u8, wrap_u32, wrap_u64, rem_in, quo_in]); first | done | with_reducible rfl | (constructor <;> with_reducible rfl))))
          | apply d_block
          | (apply d_true; (focus rfl); (focus rfl))
          | (apply d_false; (focus rfl); (focus rfl))
          | apply d_skip
          | apply d_exit
          | apply d_ret
          | with_reducible apply kt_ret
          | with_reducible apply kt_exit
          | with_reducible apply kb_normal
          | with_reducible apply kb_ret
          | with_reducible apply kb_here
          | with_reducible apply kl_ret
          | with_reducible apply kl_exit
          | with_reducible apply kc_ret
          | with_reducible apply kc_exit
          | (with_reducible apply kb_there; (focus rfl))
        refine l_call rfl rfl rfl (by first | (go_simp; done) | (go_simp; rfl)) (HP.out) ?_
        rintro e w2 ⟨rfl, hk2⟩
        have HK := Lib.hid hk2
        have d2 := (hk2.cell (World.block_lt_of_cell? _ _ HD.out) (fun c => c)).trans HD.out
        have z2 := (hk2.cell (World.block_lt_of_cell? _ _ HZ.out) (fun c => c)).trans HZ.out
        clear hk2
        refine ⟨_, rfl, ?_⟩
        repeat first
          | apply d_seq
          | with_reducible apply kt_normal
          | apply l_nil
          | apply d_region
          | (apply l_off; (focus rfl); (focus rfl))
          | (apply l_val; (focus rfl); (focus rfl); (focus rfl); (focus (go_simp; (try simp (disch := omega) only [wrap_in, wrap_in', wrap_u16, wrap_u8, wrap_u32, wrap_u64, rem_in, quo_in]); first | done | with_reducible rfl | (constructor <;> with_reducible rfl))))
          | (apply l_store; (focus rfl); (focus rfl); (focus rfl); (focus (go_simp; (try simp (disch := omega) only [wrap_in, wrap_in', wrap_u16, wrap_u8, wrap_u32, wrap_u64, rem_in, quo_in]); first | done | with_reducible rfl | (constructor <;> with_reducible rfl))))
          | apply d_block
          | (apply d_true; (focus rfl); (focus rfl))
          | (apply d_false; (focus rfl); (focus rfl))
          | apply d_skip
          | apply d_exit
          | apply d_ret
          | with_reducible apply kt_ret
          | with_reducible apply kt_exit
          | with_reducible apply kb_normal
          | with_reducible apply kb_ret
          | with_reducible apply kb_here
          | with_reducible apply kl_ret
          | with_reducible apply kl_exit
          | with_reducible apply kc_ret
          | with_reducible apply kc_exit
          | (with_reducible apply kb_there; (focus rfl))
        refine ⟨rfl, _, (by first | (simp [resultsG, resOne, Try.results37, rho, List.lookup]; done) | (simp [resultsG, resOne, Try.results37, rho, List.lookup]; rfl)), ?_⟩
        exact ⟨rfl, HK.out.none, HREP.out.grow HK.out⟩
    · rw [if_neg c1] at hgood2 ⊢
      have c2 : ¬ qty < 1 := fun hh => c1 (.inl hh)
      have c3 : ¬ x.qty < qty := fun hh => c1 (.inr hh)
      have q1 : decide (qty < 1) = false := decide_eq_false c2
      have q2 : decide (x.qty < qty) = false := decide_eq_false c3
      have q2' : decide (qty > x.qty) = false := q2
      have hline : (lns c.needs)[j * 3 + 2]? = some (.int .i64 x.qty) := fl_get Ln.three c.needs j x hx 2 (by omega)
      have qw : IntKind.wrap .i64 (x.qty - qty) = x.qty - qty := wrap_in (by omega) (by omega)
      clear c1 hsee hrep hparts d0 d1 same
      have HP := Lib.hid hp
      clear hp
      have HH0 := Lib.hid H0
      clear H0
      refine d_calls (n := 65) Try.func37 rfl rfl (by simp) [(0, .pointer (some ⟨g, k * 3, none⟩)), (1, .int .u16 it), (2, .int .i64 qty)] (by simp) ?_
      repeat first
        | apply d_seq
        | with_reducible apply kt_normal
        | apply l_nil
        | apply d_region
        | (apply l_off; (focus rfl); (focus rfl))
        | (apply l_val; (focus rfl); (focus rfl); (focus rfl); (focus (go_simp; (try simp (disch := omega) only [wrap_in, wrap_in', wrap_u16, wrap_u8, wrap_u32, wrap_u64, rem_in, quo_in]); first | done | with_reducible rfl | (constructor <;> with_reducible rfl))))
        | (apply l_store; (focus rfl); (focus rfl); (focus rfl); (focus (go_simp; (try simp (disch := omega) only [wrap_in, wrap_in', wrap_u16, wrap_u8, wrap_u32, wrap_u64, rem_in, quo_in]); first | done | with_reducible rfl | (constructor <;> with_reducible rfl))))
        | apply d_block
        | (apply d_true; (focus rfl); (focus rfl))
        | (apply d_false; (focus rfl); (focus rfl))
        | apply d_skip
        | apply d_exit
        | apply d_ret
        | with_reducible apply kt_ret
        | with_reducible apply kt_exit
        | with_reducible apply kb_normal
        | with_reducible apply kb_ret
        | with_reducible apply kb_here
        | with_reducible apply kl_ret
        | with_reducible apply kl_exit
        | with_reducible apply kc_ret
        | with_reducible apply kc_exit
        | (with_reducible apply kb_there; (focus rfl))
      refine l_call rfl rfl rfl (by first | (go_simp; done) | (go_simp; rfl)) (HP.out) ?_
      rintro e w2 ⟨rfl, hk2⟩
      have H2 := HH0.out.keep hk2
      obtain ⟨-, -, d2⟩ := wparts_at H2 hy
      obtain ⟨r, cp', e1, -, -, z2, fz, hstore⟩ := H2.row (wparts_row p g hy) hline
      dsimp only at d2 e1
      simp only [Value.slice.injEq, true_and] at e1
      obtain ⟨rfl, rfl⟩ := e1
      have H3 := hstore (.int .i64 (x.qty - qty)) rfl
      rw [lns_setq c.needs (x.qty - qty) j x hx] at H3
      have hlen' : c.needs.length = (c.needs.set j { x with qty := x.qty - qty }).length := by rw [List.length_set]
      dsimp only at H3
      have H3' := H3
      rw [show OwnA 0 35 3 (.slice (some ⟨r, 0, none⟩) c.needs.length cp) c.needs.length (lns (c.needs.set j { x with qty := x.qty - qty })) = OwnA 0 35 3 (.slice (some ⟨r, 0, none⟩) c.needs.length cp) (c.needs.set j { x with qty := x.qty - qty }).length (lns (c.needs.set j { x with qty := x.qty - qty })) by rw [List.length_set]] at H3'
      have H4 := H3'
      rw [wparts_row' p g hy (c.needs.set j { x with qty := x.qty - qty })] at H4
      have hy2 : (xs.set k ⟨{ c with needs := c.needs.set j { x with qty := x.qty - qty } }, .slice (some ⟨r, 0, none⟩) c.needs.length cp⟩)[k]? = some ⟨{ c with needs := c.needs.set j { x with qty := x.qty - qty } }, .slice (some ⟨r, 0, none⟩) c.needs.length cp⟩ := by rw [List.getElem?_set_self (List.getElem?_eq_some_iff.1 hy).1]
      obtain ⟨-, -, e2⟩ := wparts_at H4 hy2
      have hx2 : (c.needs.set j { x with qty := x.qty - qty })[j]? = some { x with qty := x.qty - qty } := by rw [List.getElem?_set_self hbl]
      have hline2 : (lns (c.needs.set j { x with qty := x.qty - qty }))[j * 3 + 2]? = some (.int .i64 (x.qty - qty)) := fl_get Ln.three _ j _ hx2 2 (by omega)
      obtain ⟨r', cp', e1, -, -, y2, -, -⟩ := H4.row (wparts_row p g hy2) hline2
      dsimp only at e2 e1
      simp only [Value.slice.injEq, Option.some.injEq, Addr.mk.injEq, and_true] at e1
      obtain ⟨rfl, -, rfl⟩ := e1
      have HH4 := Lib.hid H4
      have HLEN' := Lib.hid hlen'
      have HCS := Lib.hid hcs
      have HG := Lib.hid hg
      have HGOOD2 := Lib.hid hgood2
      have HY := Lib.hid hy
      have HX := Lib.hid hx
      have HX2 := Lib.hid hx2
      have HY2 := Lib.hid hy2
      have HC := Lib.hid hc
      clear hlen' hcs hg hgood2 hy hx hx2 hy2 hc
      clear H2 H3 H3' H4 hstore hk2 hline hline2 HH0
      refine ⟨_, rfl, ?_⟩
      repeat first
        | ((fail_if_success (with_reducible refine d_at_region (id := 6) ?_)); apply d_seq)
        | with_reducible apply kt_normal
        | apply l_nil
        | apply d_region
        | (apply l_off; (focus rfl); (focus rfl))
        | (apply l_val; (focus rfl); (focus rfl); (focus rfl); (focus (go_simp; (try simp (disch := omega) only [wrap_in, wrap_in', wrap_u16, wrap_u8, wrap_u32, wrap_u64, rem_in, quo_in]); first | done | with_reducible rfl | (constructor <;> with_reducible rfl))))
        | (apply l_store; (focus rfl); (focus rfl); (focus rfl); (focus (go_simp; (try simp (disch := omega) only [wrap_in, wrap_in', wrap_u16, wrap_u8, wrap_u32, wrap_u64, rem_in, quo_in]); first | done | with_reducible rfl | (constructor <;> with_reducible rfl))))
        | apply d_block
        | (apply d_true; (focus rfl); (focus rfl))
        | (apply d_false; (focus rfl); (focus rfl))
        | apply d_skip
        | apply d_exit
        | apply d_ret
        | with_reducible apply kt_ret
        | with_reducible apply kt_exit
        | with_reducible apply kb_normal
        | with_reducible apply kb_ret
        | with_reducible apply kb_here
        | with_reducible apply kl_ret
        | with_reducible apply kl_exit
        | with_reducible apply kc_ret
        | with_reducible apply kc_exit
        | (with_reducible apply kb_there; (focus rfl))
      apply d_seq
      repeat first
        | with_reducible apply kt_normal
        | apply l_nil
        | apply d_region
        | (apply l_off; (focus rfl); (focus rfl))
        | (apply l_val; (focus rfl); (focus rfl); (focus rfl); (focus (go_simp; (try simp (disch := omega) only [wrap_in, wrap_in', wrap_u16, wrap_u8, wrap_u32, wrap_u64, rem_in, quo_in]); first | done | with_reducible rfl | (constructor <;> with_reducible rfl))))
        | (apply l_store; (focus rfl); (focus rfl); (focus rfl); (focus (go_simp; (try simp (disch := omega) only [wrap_in, wrap_in', wrap_u16, wrap_u8, wrap_u32, wrap_u64, rem_in, quo_in]); first | done | with_reducible rfl | (constructor <;> with_reducible rfl))))
        | apply d_block
        | (apply d_true; (focus rfl); (focus rfl))
        | (apply d_false; (focus rfl); (focus rfl))
        | apply d_skip
        | apply d_exit
        | apply d_ret
        | with_reducible apply kt_ret
        | with_reducible apply kt_exit
        | with_reducible apply kb_normal
        | with_reducible apply kb_ret
        | with_reducible apply kb_here
        | with_reducible apply kl_ret
        | with_reducible apply kl_exit
        | with_reducible apply kc_ret
        | with_reducible apply kc_exit
        | (with_reducible apply kb_there; (focus rfl))
      generalize w2.setCell ⟨r, j * 3 + 2, none⟩ (.int .i64 (x.qty - qty)) = w3 at *
      clear z2 fz qw
      generalize x.qty - qty = z at *
      by_cases hz : z = 0
      · rw [if_pos hz] at HGOOD2 ⊢
        subst hz
        obtain ⟨A1, hown, hA1, hback⟩ := HH4.out.call (wparts_row p g HY2.out)
        have hown : Own w3 A1 35 3 (.slice (some ⟨r, 0, none⟩) c.needs.length cp) (c.needs.set j { x with qty := 0 }).length (lns (c.needs.set j { x with qty := 0 })) := hown
        rw [← HLEN'.out] at hown
        have hdel := deleteL r cp c.needs.length j _ A1 w3 hown hbl
        rw [lns_erase, show (c.needs.set j { x with qty := 0 }).eraseIdx j = c.needs.eraseIdx j by rw [List.eraseIdx_set_eq]] at hdel
        have hj1 : IntKind.wrap .i64 ((j : Int) + 1) = (j : Int) + 1 := wrap_in (by omega) (by omega)
        have HOWN := Lib.hid hown
        have HA1 := Lib.hid hA1
        have HBACK := Lib.hid hback
        have HDEL := Lib.hid hdel
        clear hown hA1 hback hdel
        repeat first
          | apply d_seq
          | with_reducible apply kt_normal
          | apply l_nil
          | apply d_region
          | (apply l_off; (focus rfl); (focus rfl))
          | (apply l_val; (focus rfl); (focus rfl); (focus rfl); (focus (go_simp; (try simp (disch := omega) only [wrap_in, wrap_in', wrap_u16, wrap_u8, wrap_u32, wrap_u64, rem_in, quo_in]); first | done | with_reducible rfl | (constructor <;> with_reducible rfl))))
          | (apply l_store; (focus rfl); (focus rfl); (focus rfl); (focus (go_simp; (try simp (disch := omega) only [wrap_in, wrap_in', wrap_u16, wrap_u8, wrap_u32, wrap_u64, rem_in, quo_in]); first | done | with_reducible rfl | (constructor <;> with_reducible rfl))))
          | apply d_block
          | (apply d_true; (focus rfl); (focus rfl))
          | (apply d_false; (focus rfl); (focus rfl))
          | apply d_skip
          | apply d_exit
          | apply d_ret
          | with_reducible apply kt_ret
          | with_reducible apply kt_exit
          | with_reducible apply kb_normal
          | with_reducible apply kb_ret
          | with_reducible apply kb_here
          | with_reducible apply kl_ret
          | with_reducible apply kl_exit
          | with_reducible apply kc_ret
          | with_reducible apply kc_exit
          | (with_reducible apply kb_there; (focus rfl))
        refine l_call rfl rfl rfl (by first | (go_simp; done) | (go_simp; rfl)) (HDEL.out) ?_
        rintro e w4 ⟨rfl, ho, hgr⟩
        have hlen4 : c.needs.length - 1 = (c.needs.eraseIdx j).length := by rw [List.length_eraseIdx, if_pos hbl]
        have H5 := HBACK.out w4 (OwnA 0 35 3 (.slice (some ⟨r, 0, none⟩) (c.needs.length - 1) cp) (c.needs.eraseIdx j).length (lns (c.needs.eraseIdx j))) ((Keep.refl A1 w3).grown hgr (fun q hq => .inr (HOWN.out.2.1 q hq))) (by rw [← hlen4]; exact ho.move (fun q hq _ => ⟨.inl hq, rfl⟩))
        have hb5 := H5.blk (i := 1) rfl
        obtain ⟨c0, c1, c2⟩ := cubArr_get _ HY2.out
        have fz : w4.frozen? ⟨g, k * 3 + 2, none⟩ = false := by simp [World.frozen?, hb5]
        have e3 : w4.cell? ⟨g, k * 3 + 2, none⟩ = some (.slice (some ⟨r, 0, none⟩) c.needs.length cp) := by simp [World.cell?, hb5, c2]
        have H6 := H5.put (i := 1) rfl (k * 3 + 2) (.slice (some ⟨r, 0, none⟩) (c.needs.length - 1) cp)
        rw [wparts_val p g HY2.out (c.needs.eraseIdx j) _, List.set_set] at H6
        have HH6 := Lib.hid H6
        clear H5 H6 hb5 c0 c1 c2 ho hgr hlen4
        refine ⟨_, rfl, ?_⟩
        repeat first
          | apply d_seq
          | with_reducible apply kt_normal
          | apply l_nil
          | apply d_region
          | (apply l_off; (focus rfl); (focus rfl))
          | (apply l_val; (focus rfl); (focus rfl); (focus rfl); (focus (go_simp; (try simp (disch := omega) only [wrap_in, wrap_in', wrap_u16, wrap_u8, wrap_u32, wrap_u64, rem_in, quo_in]); first | done | with_reducible rfl | (constructor <;> with_reducible rfl))))
          | (apply l_store; (focus rfl); (focus rfl); (focus rfl); (focus (go_simp; (try simp (disch := omega) only [wrap_in, wrap_in', wrap_u16, wrap_u8, wrap_u32, wrap_u64, rem_in, quo_in]); first | done | with_reducible rfl | (constructor <;> with_reducible rfl))))
          | apply d_block
          | (apply d_true; (focus rfl); (focus rfl))
          | (apply d_false; (focus rfl); (focus rfl))
          | apply d_skip
          | apply d_exit
          | apply d_ret
          | with_reducible apply kt_ret
          | with_reducible apply kt_exit
          | with_reducible apply kb_normal
          | with_reducible apply kb_ret
          | with_reducible apply kb_here
          | with_reducible apply kl_ret
          | with_reducible apply kl_exit
          | with_reducible apply kc_ret
          | with_reducible apply kc_exit
          | (with_reducible apply kb_there; (focus rfl))
        refine ⟨rfl, _, (by first | (simp [resultsG, resOne, Try.results37, rho, List.lookup]; done) | (simp [resultsG, resOne, Try.results37, rho, List.lookup]; rfl)), ?_⟩
        exact ⟨rfl, HH6.out.old, WRep.of HG.out HCS.out HGOOD2.out HH6.out⟩
      · rw [if_neg hz] at HGOOD2 ⊢
        have qz : (z == 0) = false := by simpa using hz
        have HZ := Lib.hid hz
        clear hz
        repeat first
          | apply d_seq
          | with_reducible apply kt_normal
          | apply l_nil
          | apply d_region
          | (apply l_off; (focus rfl); (focus rfl))
          | (apply l_val; (focus rfl); (focus rfl); (focus rfl); (focus (go_simp; (try simp (disch := omega) only [wrap_in, wrap_in', wrap_u16, wrap_u8, wrap_u32, wrap_u64, rem_in, quo_in]); first | done | with_reducible rfl | (constructor <;> with_reducible rfl))))
          | (apply l_store; (focus rfl); (focus rfl); (focus rfl); (focus (go_simp; (try simp (disch := omega) only [wrap_in, wrap_in', wrap_u16, wrap_u8, wrap_u32, wrap_u64, rem_in, quo_in]); first | done | with_reducible rfl | (constructor <;> with_reducible rfl))))
          | apply d_block
          | (apply d_true; (focus rfl); (focus rfl))
          | (apply d_false; (focus rfl); (focus rfl))
          | apply d_skip
          | apply d_exit
          | apply d_ret
          | with_reducible apply kt_ret
          | with_reducible apply kt_exit
          | with_reducible apply kb_normal
          | with_reducible apply kb_ret
          | with_reducible apply kb_here
          | with_reducible apply kl_ret
          | with_reducible apply kl_exit
          | with_reducible apply kc_ret
          | with_reducible apply kc_exit
          | (with_reducible apply kb_there; (focus rfl))
        refine ⟨rfl, _, (by first | (simp [resultsG, resOne, Try.results37, rho, List.lookup]; done) | (simp [resultsG, resOne, Try.results37, rho, List.lookup]; rfl)), ?_⟩
        exact ⟨rfl, HH4.out.old, WRep.of HG.out HCS.out HGOOD2.out HH4.out⟩
end Go.Proofs.Ytienodnkfohakaa
