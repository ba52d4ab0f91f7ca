import Derived.Test.YtienodnkfohakaaWalP
namespace Go.Proofs.Ytienodnkfohakaa
set_option linter.unusedVariables false
set_option linter.unusedSimpArgs false
attribute [local go_sem] rho_const rho_func rho_hit rho_miss
open Go.RowKit
/-! A wall in memory. -/
structure CbV where
  c : Cb
  v : Value
def CbV.cs (x : CbV) : List Value := [.bool x.c.held, .int .u32 x.c.order, x.v]
theorem CbV.three (x : CbV) : x.cs.length = 3 := rfl
def cubArr (xs : List CbV) : Array Value := (xs.flatMap CbV.cs).toArray
def rowA (x : CbV) : Asrt 0 := OwnA 0 35 3 x.v x.c.needs.length (lns x.c.needs)
def wparts (p g : Nat) (xs : List CbV) : List (Asrt 0) := [BlkA 0 p #[.slice (some ⟨g, 0, none⟩) xs.length xs.length] 68, BlkA 0 g (cubArr xs) 74] ++ xs.map rowA
def WRep (w : World) (F : Nat → Prop) (p g : Nat) (s : WS) : Prop := s.good ∧ ∃ xs : List CbV, xs.map CbV.c = s.cubs ∧ Parts F w (wparts p g xs)
theorem WRep.move {w w' : World} {F G : Nat → Prop} {p g : Nat} {s : WS} (h : WRep w F p g s) (hs : w.heap.size ≤ w'.heap.size) (hk : ∀ k, F k → k < w.heap.size → G k ∧ w'.heap[k]? = w.heap[k]?) : WRep w' G p g s := by
  obtain ⟨h1, xs, h2, h3⟩ := h
  exact ⟨h1, xs, h2, h3.move hs hk⟩
theorem WRep.keep {w w' : World} {F : Nat → Prop} {p g : Nat} {s : WS} (h : WRep w F p g s) (hk : Keep none_ w w') : WRep w' F p g s := h.move hk.size (fun k hF hl => ⟨hF, hk.block k hl (fun c => c)⟩)
def WA (n p g : Nat) (s : WS) : Asrt n := ⟨fun F w => WRep w F p g s, fun h hs hk _ => h.move hs hk⟩
theorem cubArr_get (xs : List CbV) {k : Nat} {x : CbV} (hx : xs[k]? = some x) : (cubArr xs)[k * 3]? = some (.bool x.c.held) ∧ (cubArr xs)[k * 3 + 1]? = some (.int .u32 x.c.order) ∧ (cubArr xs)[k * 3 + 2]? = some x.v := by
  have h := fun j hj => fl_get (enc := CbV.cs) CbV.three xs k x hx j hj
  unfold cubArr
  simp only [List.getElem?_toArray]
  exact ⟨h 0 (by omega), h 1 (by omega), h 2 (by omega)⟩
/-- The cells of a cubby. -/
def CubAt (w : World) (g k : Nat) (x : CbV) : Prop := w.cell? ⟨g, k * 3, none⟩ = some (.bool x.c.held) ∧ w.cell? ⟨g, k * 3 + 1, none⟩ = some (.int .u32 x.c.order) ∧ w.cell? ⟨g, k * 3 + 2, none⟩ = some x.v
theorem CubAt.keep {w w' : World} {g k : Nat} {x : CbV} (h : CubAt w g k x) (hk : Keep none_ w w') : CubAt w' g k x := by
  have hl : g < w.heap.size := World.block_lt_of_cell? _ _ h.1
  exact ⟨(hk.cell hl (fun c => c)).trans h.1, (hk.cell hl (fun c => c)).trans h.2.1, (hk.cell hl (fun c => c)).trans h.2.2⟩
section
variable {F : Nat → Prop} {w0 w : World} {p g : Nat} {xs : List CbV} {L : List (Asrt 0)}
theorem wparts_row (p g : Nat) {xs : List CbV} {k : Nat} {x : CbV} (hx : xs[k]? = some x) : (wparts p g xs)[k + 2]? = some (OwnA 0 35 3 x.v x.c.needs.length (lns x.c.needs)) := by
  unfold wparts
  rw [List.getElem?_append_right (by simp), List.length_cons, List.length_cons, List.length_nil, Nat.zero_add, Nat.add_sub_cancel, List.getElem?_map, hx]
  rfl
theorem wparts_at (H : HasF F w0 w (wparts p g xs)) {k : Nat} {x : CbV} (hx : xs[k]? = some x) : CubAt w g k x := by
  have hb := H.blk (i := 1) rfl
  obtain ⟨h0, h1, h2⟩ := cubArr_get xs hx
  exact ⟨by simp [World.cell?, hb, h0], by simp [World.cell?, hb, h1], by simp [World.cell?, hb, h2]⟩
theorem wparts_fr (H : HasF F w0 w (wparts p g xs)) (j : Nat) : w.frozen? ⟨g, j, none⟩ = false := by
  have hb := H.blk (i := 1) rfl
  simp [World.frozen?, hb]
theorem wparts_p (H : HasF F w0 w (wparts p g xs)) : w.cell? ⟨p, 0, none⟩ = some (.slice (some ⟨g, 0, none⟩) xs.length xs.length) := (blk1 (H.blk (i := 0) rfl)).1
theorem wparts_sees (H : HasF F w0 w (wparts p g xs)) {k : Nat} {x : CbV} (hx : xs[k]? = some x) : ∃ G A c, x.v = .slice A x.c.needs.length c ∧ x.c.needs.length ≤ c ∧ c ≤ 9223372036854775807 ∧ SeesIn w G 3 (.slice A x.c.needs.length c) x.c.needs.length (lns x.c.needs) := by
  obtain ⟨G, hs, A, c, e, h1, h2⟩ := H.own (wparts_row p g hx)
  exact ⟨G, A, c, e, h1, h2, by rw [← e]; exact hs⟩
end
/-! The first cubby of which something holds. -/
set_option maxHeartbeats 1000000 in
theorem freeC_any (h : Bool) (o : Int) (A : Option Addr) (n c : Nat) (w : World) :
    Calls Try.prog 35 #[.agg #[.bool h, .int .u32 o, .slice A n c]] w fun e w' => e = .returned (.bool (!h)) ∧ Keep none_ w w' := by
  have hx := (HasF.nil (Keep.refl none_ w)).box #[.bool h, .int .u32 o, .slice A n c] 74
  simp only [List.nil_append] at hx
  have HX := Lib.hid hx
  clear hx
  refine d_calls (n := 6) Try.func35 rfl rfl (by simp) [(0, .agg #[.bool h, .int .u32 o, .slice A n c])] (by simp) ?_
  repeat first
    | ((fail_if_success (with_reducible refine d_at_region (id := 1) ?_)); apply d_seq)
    | with_reducible apply kt_normal
    | apply l_nil
    | apply d_region
    | (apply l_off; (focus rfl); (focus rfl))
    | (apply l_val; (focus rfl); (focus rfl); (focus rfl); (focus (go_simp; (try simp (disch := omega) only [wrap_in, wrap_in', wrap_u16, wrap_u8, wrap_u32, wrap_u64, rem_in, quo_in]); first | done | with_reducible rfl | (constructor <;> with_reducible rfl))))
    | (apply l_store; (focus rfl); (focus rfl); (focus rfl); (focus (go_simp; (try simp (disch := omega) only [wrap_in, wrap_in', wrap_u16, wrap_u8, wrap_u32, wrap_u64, rem_in, quo_in]); first | done | with_reducible rfl | (constructor <;> with_reducible rfl))))
    | apply d_block
    | (apply d_true; (focus rfl); (focus rfl))
    | (apply d_false; (focus rfl); (focus rfl))
    | apply d_skip
    | apply d_exit
    | apply d_ret
    | with_reducible apply kt_ret
    | with_reducible apply kt_exit
    | with_reducible apply kb_normal
    | with_reducible apply kb_ret
    | with_reducible apply kb_here
    | with_reducible apply kl_ret
    | with_reducible apply kl_exit
    | with_reducible apply kc_ret
    | with_reducible apply kc_exit
    | (with_reducible apply kb_there; (focus rfl))
  generalize w.alloc (.cells #[.bool h, .int .u32 o, .slice A n c] 74) = w1 at *
  generalize w.heap.size = xb at *
  obtain ⟨c0, c1, c2, -⟩ := blk3 (HX.out.blk (i := 0) rfl)
  repeat first
    | apply d_seq
    | with_reducible apply kt_normal
    | apply l_nil
    | apply d_region
    | (apply l_off; (focus rfl); (focus rfl))
    | (apply l_val; (focus rfl); (focus rfl); (focus rfl); (focus (go_simp; (try simp (disch := omega) only [wrap_in, wrap_in', wrap_u16, wrap_u8, wrap_u32, wrap_u64, rem_in, quo_in]); first | done | with_reducible rfl | (constructor <;> with_reducible rfl))))
    | (apply l_store; (focus rfl); (focus rfl); (focus rfl); (focus (go_simp; (try simp (disch := omega) only [wrap_in, wrap_in', wrap_u16, wrap_u8, wrap_u32, wrap_u64, rem_in, quo_in]); first | done | with_reducible rfl | (constructor <;> with_reducible rfl))))
    | apply d_block
    | (apply d_true; (focus rfl); (focus rfl))
    | (apply d_false; (focus rfl); (focus rfl))
    | apply d_skip
    | apply d_exit
    | apply d_ret
    | with_reducible apply kt_ret
    | with_reducible apply kt_exit
    | with_reducible apply kb_normal
    | with_reducible apply kb_ret
    | with_reducible apply kb_here
    | with_reducible apply kl_ret
    | with_reducible apply kl_exit
    | with_reducible apply kc_ret
    | with_reducible apply kc_exit
    | (with_reducible apply kb_there; (focus rfl))
  refine ⟨rfl, _, (by first | (simp [resultsG, resOne, Try.results35, rho, List.lookup]; done) | (simp [resultsG, resOne, Try.results35, rho, List.lookup]; rfl)), ?_⟩
  exact ⟨rfl, HX.out.old⟩
def okV (xs : List CbV) : Prop := ∀ x ∈ xs, ∃ A n c, x.v = .slice A n c
theorem indexOf_any (b : Nat) (order : Int) (xs : List CbV) (g : Nat) (w : World) (hb : w.cell? ⟨b, 0, none⟩ = some (.int .u32 order)) (hc : ∀ (k : Nat) (x : CbV), xs[k]? = some x → CubAt w g k x) (hv : okV xs) (hl : xs.length ≤ 1000) :
    Calls Try.prog 46 #[.slice (some ⟨g, 0, none⟩) xs.length xs.length, .func (.func 48) #[] #[.pointer (some ⟨b, 0, none⟩)]] w fun e w' => e = .returned (.int .i64 (pidx xs fun x => x.c.held && (x.c.order == order))) ∧ Keep none_ w w' := by
  have HF := Lib.hid (fun (W : World) (hk : Keep none_ w W) (x : CbV) (A : Option Addr) (n c : Nat) => of1_any b order x.c.held x.c.order A n c W ((hk.cell (World.block_lt_of_cell? _ _ hb) (fun c => c)).trans hb) (Nat.lt_of_lt_of_le (World.block_lt_of_cell? _ _ hb) hk.size))
  have HC := Lib.hid hc
  have HV := Lib.hid hv
  clear hc hv
  clear hb
  refine d_calls (n := 19) Try.func46 rfl rfl (by simp) [(0, .slice (some ⟨g, 0, none⟩) xs.length xs.length), (1, .func (.func 48) #[] #[.pointer (some ⟨b, 0, none⟩)])] (by simp) ?_
  repeat first
    | apply d_seq
    | with_reducible apply kt_normal
    | apply l_nil
    | apply d_region
    | (apply l_off; (focus rfl); (focus rfl))
    | (apply l_val; (focus rfl); (focus rfl); (focus rfl); (focus (go_simp; (try simp (disch := omega) only [wrap_in, wrap_in', wrap_u16, wrap_u8, wrap_u32, wrap_u64, rem_in, quo_in]); first | done | with_reducible rfl | (constructor <;> with_reducible rfl))))
    | (apply l_store; (focus rfl); (focus rfl); (focus rfl); (focus (go_simp; (try simp (disch := omega) only [wrap_in, wrap_in', wrap_u16, wrap_u8, wrap_u32, wrap_u64, rem_in, quo_in]); first | done | with_reducible rfl | (constructor <;> with_reducible rfl))))
    | apply d_block
    | (apply d_true; (focus rfl); (focus rfl))
    | (apply d_false; (focus rfl); (focus rfl))
    | apply d_skip
    | apply d_exit
    | apply d_ret
    | with_reducible apply kt_ret
    | with_reducible apply kt_exit
    | with_reducible apply kb_normal
    | with_reducible apply kb_ret
    | with_reducible apply kb_here
    | with_reducible apply kl_ret
    | with_reducible apply kl_exit
    | with_reducible apply kc_ret
    | with_reducible apply kc_exit
    | (with_reducible apply kb_there; (focus rfl))
  refine d_loop (fun m D wr => ∃ k : Nat, m = xs.length - k ∧ k ≤ xs.length ∧ D = [(0, .slice (some ⟨g, 0, none⟩) xs.length xs.length), (1, .func (.func 48) #[] #[.pointer (some ⟨b, 0, none⟩)]), (7, .int .i64 xs.length), (8, .int .i64 k)] ∧ Hid (Keep none_ w wr) ∧ Hid (∀ z ∈ xs.take k, (z.c.held && (z.c.order == order)) = false)) (xs.length) _ (Subl.cons (t := 0) (by decide) rfl (Subl.cons (t := 1) (by decide) rfl (Subl.cons (t := 7) (by decide) rfl (Subl.cons (t := 8) (by decide) rfl (Subl.nil _ _))))) ?_ (fun m D wr hrel => ?_)
  · exact ⟨0, rfl, Nat.zero_le _, rfl, Lib.hid (Keep.refl _ _), Lib.hid (by simp)⟩
  · obtain ⟨k, rfl, hk, rfl, HK, HZ⟩ := hrel
    by_cases hlt : k < xs.length
    · obtain ⟨y, hy⟩ : ∃ y, xs[k]? = some y := ⟨_, List.getElem?_eq_getElem hlt⟩
      obtain ⟨d0, d1, d2⟩ := (HC.out k y hy).keep HK.out
      obtain ⟨A, n, c, e⟩ := HV.out y (List.mem_of_getElem? hy)
      rw [e] at d2
      have q0 : decide (((k : Nat) : Int) < ((xs.length : Nat) : Int)) = true := decide_eq_true (by omega)
      have hfc := HF.out wr HK.out y A n c
      obtain ⟨bb, hbb⟩ : ∃ bb, (y.c.held && (y.c.order == order)) = bb := ⟨_, rfl⟩
      rw [hbb] at hfc
      have HB := Lib.hid hbb
      have HY := Lib.hid hy
      have HFC := Lib.hid hfc
      clear hfc
      clear hy hbb e
      cases bb with
      | true =>
        repeat first
          | apply d_seq
          | with_reducible apply kt_normal
          | apply l_nil
          | apply d_region
          | (apply l_off; (focus rfl); (focus rfl))
          | (apply l_val; (focus rfl); (focus rfl); (focus rfl); (focus (go_simp; (try simp (disch := omega) only [wrap_in, wrap_in', wrap_u16, wrap_u8, wrap_u32, wrap_u64, rem_in, quo_in]); first | done | with_reducible rfl | (constructor <;> with_reducible rfl))))
          | (apply l_store; (focus rfl); (focus rfl); (focus rfl); (focus (go_simp; (try simp (disch := omega) only [wrap_in, wrap_in', wrap_u16, wrap_u8, wrap_u32, wrap_u64, rem_in, quo_in]); first | done | with_reducible rfl | (constructor <;> with_reducible rfl))))
          | apply d_block
          | (apply d_true; (focus rfl); (focus rfl))
          | (apply d_false; (focus rfl); (focus rfl))
          | apply d_skip
          | apply d_exit
          | apply d_ret
          | with_reducible apply kt_ret
          | with_reducible apply kt_exit
          | with_reducible apply kb_normal
          | with_reducible apply kb_ret
          | with_reducible apply kb_here
          | with_reducible apply kl_ret
          | with_reducible apply kl_exit
          | with_reducible apply kc_ret
          | with_reducible apply kc_exit
          | (with_reducible apply kb_there; (focus rfl))
        refine l_call rfl rfl rfl (by first | (go_simp; done) | (go_simp; rfl)) (HFC.out) ?_
        rintro e w' ⟨rfl, hk2⟩
        refine ⟨_, rfl, ?_⟩
        repeat first
          | apply d_seq
          | with_reducible apply kt_normal
          | apply l_nil
          | apply d_region
          | (apply l_off; (focus rfl); (focus rfl))
          | (apply l_val; (focus rfl); (focus rfl); (focus rfl); (focus (go_simp; (try simp (disch := omega) only [wrap_in, wrap_in', wrap_u16, wrap_u8, wrap_u32, wrap_u64, rem_in, quo_in]); first | done | with_reducible rfl | (constructor <;> with_reducible rfl))))
          | (apply l_store; (focus rfl); (focus rfl); (focus rfl); (focus (go_simp; (try simp (disch := omega) only [wrap_in, wrap_in', wrap_u16, wrap_u8, wrap_u32, wrap_u64, rem_in, quo_in]); first | done | with_reducible rfl | (constructor <;> with_reducible rfl))))
          | apply d_block
          | (apply d_true; (focus rfl); (focus rfl))
          | (apply d_false; (focus rfl); (focus rfl))
          | apply d_skip
          | apply d_exit
          | apply d_ret
          | with_reducible apply kt_ret
          | with_reducible apply kt_exit
          | with_reducible apply kb_normal
          | with_reducible apply kb_ret
          | with_reducible apply kb_here
          | with_reducible apply kl_ret
          | with_reducible apply kl_exit
          | with_reducible apply kc_ret
          | with_reducible apply kc_exit
          | (with_reducible apply kb_there; (focus rfl))
        refine ⟨rfl, _, (by first | (simp [resultsG, resOne, Try.results46, rho, List.lookup]; done) | (simp [resultsG, resOne, Try.results46, rho, List.lookup]; rfl)), ?_⟩
        rw [pidx_hit HY.out HB.out HZ.out]
        exact ⟨rfl, HK.out.next hk2⟩
      | false =>
        repeat first
          | apply d_seq
          | with_reducible apply kt_normal
          | apply l_nil
          | apply d_region
          | (apply l_off; (focus rfl); (focus rfl))
          | (apply l_val; (focus rfl); (focus rfl); (focus rfl); (focus (go_simp; (try simp (disch := omega) only [wrap_in, wrap_in', wrap_u16, wrap_u8, wrap_u32, wrap_u64, rem_in, quo_in]); first | done | with_reducible rfl | (constructor <;> with_reducible rfl))))
          | (apply l_store; (focus rfl); (focus rfl); (focus rfl); (focus (go_simp; (try simp (disch := omega) only [wrap_in, wrap_in', wrap_u16, wrap_u8, wrap_u32, wrap_u64, rem_in, quo_in]); first | done | with_reducible rfl | (constructor <;> with_reducible rfl))))
          | apply d_block
          | (apply d_true; (focus rfl); (focus rfl))
          | (apply d_false; (focus rfl); (focus rfl))
          | apply d_skip
          | apply d_exit
          | apply d_ret
          | with_reducible apply kt_ret
          | with_reducible apply kt_exit
          | with_reducible apply kb_normal
          | with_reducible apply kb_ret
          | with_reducible apply kb_here
          | with_reducible apply kl_ret
          | with_reducible apply kl_exit
          | with_reducible apply kc_ret
          | with_reducible apply kc_exit
          | (with_reducible apply kb_there; (focus rfl))
        refine l_call rfl rfl rfl (by first | (go_simp; done) | (go_simp; rfl)) (HFC.out) ?_
        rintro e w' ⟨rfl, hk2⟩
        refine ⟨_, rfl, ?_⟩
        repeat first
          | apply d_seq
          | with_reducible apply kt_normal
          | apply l_nil
          | apply d_region
          | (apply l_off; (focus rfl); (focus rfl))
          | (apply l_val; (focus rfl); (focus rfl); (focus rfl); (focus (go_simp; (try simp (disch := omega) only [wrap_in, wrap_in', wrap_u16, wrap_u8, wrap_u32, wrap_u64, rem_in, quo_in]); first | done | with_reducible rfl | (constructor <;> with_reducible rfl))))
          | (apply l_store; (focus rfl); (focus rfl); (focus rfl); (focus (go_simp; (try simp (disch := omega) only [wrap_in, wrap_in', wrap_u16, wrap_u8, wrap_u32, wrap_u64, rem_in, quo_in]); first | done | with_reducible rfl | (constructor <;> with_reducible rfl))))
          | apply d_block
          | (apply d_true; (focus rfl); (focus rfl))
          | (apply d_false; (focus rfl); (focus rfl))
          | apply d_skip
          | apply d_exit
          | apply d_ret
          | with_reducible apply kt_ret
          | with_reducible apply kt_exit
          | with_reducible apply kb_normal
          | with_reducible apply kb_ret
          | with_reducible apply kb_here
          | with_reducible apply kl_ret
          | with_reducible apply kl_exit
          | with_reducible apply kc_ret
          | with_reducible apply kc_exit
          | (with_reducible apply kb_there; (focus rfl))
        refine kl_normal (xs.length - (k + 1)) _ (by omega) (Subl.cons (t := 0) (by decide) rfl (Subl.cons (t := 1) (by decide) rfl (Subl.cons (t := 7) (by decide) rfl (Subl.cons (t := 8) (by decide) rfl (Subl.nil _ _))))) ?_
        exact ⟨k + 1, rfl, by omega, rfl, Lib.hid (HK.out.next hk2), Lib.hid (take_snoc_all HY.out HB.out HZ.out)⟩
    · obtain rfl : k = xs.length := by omega
      have hz := HZ.out
      rw [List.take_length] at hz
      have HP : Hid (pidx xs (fun x => x.c.held && (x.c.order == order)) = -1) := Lib.hid (pidx_miss hz)
      clear hz
      rw [HP.out]
      repeat first
        | apply d_seq
        | with_reducible apply kt_normal
        | apply l_nil
        | apply d_region
        | (apply l_off; (focus rfl); (focus rfl))
        | (apply l_val; (focus rfl); (focus rfl); (focus rfl); (focus (go_simp; (try simp (disch := omega) only [wrap_in, wrap_in', wrap_u16, wrap_u8, wrap_u32, wrap_u64, rem_in, quo_in]); first | done | with_reducible rfl | (constructor <;> with_reducible rfl))))
        | (apply l_store; (focus rfl); (focus rfl); (focus rfl); (focus (go_simp; (try simp (disch := omega) only [wrap_in, wrap_in', wrap_u16, wrap_u8, wrap_u32, wrap_u64, rem_in, quo_in]); first | done | with_reducible rfl | (constructor <;> with_reducible rfl))))
        | apply d_block
        | (apply d_true; (focus rfl); (focus rfl))
        | (apply d_false; (focus rfl); (focus rfl))
        | apply d_skip
        | apply d_exit
        | apply d_ret
        | with_reducible apply kt_ret
        | with_reducible apply kt_exit
        | with_reducible apply kb_normal
        | with_reducible apply kb_ret
        | with_reducible apply kb_here
        | with_reducible apply kl_ret
        | with_reducible apply kl_exit
        | with_reducible apply kc_ret
        | with_reducible apply kc_exit
        | (with_reducible apply kb_there; (focus rfl))
      refine ⟨rfl, _, (by first | (simp [resultsG, resOne, Try.results46, rho, List.lookup]; done) | (simp [resultsG, resOne, Try.results46, rho, List.lookup]; rfl)), ?_⟩
      exact ⟨rfl, HK.out⟩
theorem indexFree_any (xs : List CbV) (g : Nat) (w : World) (hc : ∀ (k : Nat) (x : CbV), xs[k]? = some x → CubAt w g k x) (hv : okV xs) (hl : xs.length ≤ 1000) :
    Calls Try.prog 46 #[.slice (some ⟨g, 0, none⟩) xs.length xs.length, .func (.func 35) #[] #[]] w fun e w' => e = .returned (.int .i64 (pidx xs fun x => !x.c.held)) ∧ Keep none_ w w' := by
  have HF := Lib.hid (fun (W : World) (x : CbV) (A : Option Addr) (n c : Nat) => freeC_any x.c.held x.c.order A n c W)
  have HC := Lib.hid hc
  have HV := Lib.hid hv
  clear hc hv
  refine d_calls (n := 19) Try.func46 rfl rfl (by simp) [(0, .slice (some ⟨g, 0, none⟩) xs.length xs.length), (1, .func (.func 35) #[] #[])] (by simp) ?_
  repeat first
    | apply d_seq
    | with_reducible apply kt_normal
    | apply l_nil
    | apply d_region
    | (apply l_off; (focus rfl); (focus rfl))
    | (apply l_val; (focus rfl); (focus rfl); (focus rfl); (focus (go_simp; (try simp (disch := omega) only [wrap_in, wrap_in', wrap_u16, wrap_u8, wrap_u32, wrap_u64, rem_in, quo_in]); first | done | with_reducible rfl | (constructor <;> with_reducible rfl))))
    | (apply l_store; (focus rfl); (focus rfl); (focus rfl); (focus (go_simp; (try simp (disch := omega) only [wrap_in, wrap_in', wrap_u16, wrap_u8, wrap_u32, wrap_u64, rem_in, quo_in]); first | done | with_reducible rfl | (constructor <;> with_reducible rfl))))
    | apply d_block
    | (apply d_true; (focus rfl); (focus rfl))
    | (apply d_false; (focus rfl); (focus rfl))
    | apply d_skip
    | apply d_exit
    | apply d_ret
    | with_reducible apply kt_ret
    | with_reducible apply kt_exit
    | with_reducible apply kb_normal
    | with_reducible apply kb_ret
    | with_reducible apply kb_here
    | with_reducible apply kl_ret
    | with_reducible apply kl_exit
    | with_reducible apply kc_ret
    | with_reducible apply kc_exit
    | (with_reducible apply kb_there; (focus rfl))
  refine d_loop (fun m D wr => ∃ k : Nat, m = xs.length - k ∧ k ≤ xs.length ∧ D = [(0, .slice (some ⟨g, 0, none⟩) xs.length xs.length), (1, .func (.func 35) #[] #[]), (7, .int .i64 xs.length), (8, .int .i64 k)] ∧ Hid (Keep none_ w wr) ∧ Hid (∀ z ∈ xs.take k, (!z.c.held) = false)) (xs.length) _ (Subl.cons (t := 0) (by decide) rfl (Subl.cons (t := 1) (by decide) rfl (Subl.cons (t := 7) (by decide) rfl (Subl.cons (t := 8) (by decide) rfl (Subl.nil _ _))))) ?_ (fun m D wr hrel => ?_)
  · exact ⟨0, rfl, Nat.zero_le _, rfl, Lib.hid (Keep.refl _ _), Lib.hid (by simp)⟩
  · obtain ⟨k, rfl, hk, rfl, HK, HZ⟩ := hrel
    by_cases hlt : k < xs.length
    · obtain ⟨y, hy⟩ : ∃ y, xs[k]? = some y := ⟨_, List.getElem?_eq_getElem hlt⟩
      obtain ⟨d0, d1, d2⟩ := (HC.out k y hy).keep HK.out
      obtain ⟨A, n, c, e⟩ := HV.out y (List.mem_of_getElem? hy)
      rw [e] at d2
      have q0 : decide (((k : Nat) : Int) < ((xs.length : Nat) : Int)) = true := decide_eq_true (by omega)
      have hfc := HF.out wr y A n c
      obtain ⟨bb, hbb⟩ : ∃ bb, (!y.c.held) = bb := ⟨_, rfl⟩
      rw [hbb] at hfc
      have HB := Lib.hid hbb
      have HY := Lib.hid hy
      have HFC := Lib.hid hfc
      clear hfc
      clear hy hbb e
      cases bb with
      | true =>
        repeat first
          | apply d_seq
          | with_reducible apply kt_normal
          | apply l_nil
          | apply d_region
          | (apply l_off; (focus rfl); (focus rfl))
          | (apply l_val; (focus rfl); (focus rfl); (focus rfl); (focus (go_simp; (try simp (disch := omega) only [wrap_in, wrap_in', wrap_u16, wrap_u8, wrap_u32, wrap_u64, rem_in, quo_in]); first | done | with_reducible rfl | (constructor <;> with_reducible rfl))))
          | (apply l_store; (focus rfl); (focus rfl); (focus rfl); (focus (go_simp; (try simp (disch := omega) only [wrap_in, wrap_in', wrap_u16, wrap_u8, wrap_u32, wrap_u64, rem_in, quo_in]); first | done | with_reducible rfl | (constructor <;> with_reducible rfl))))
          | apply d_block
          | (apply d_true; (focus rfl); (focus rfl))
          | (apply d_false; (focus rfl); (focus rfl))
          | apply d_skip
          | apply d_exit
          | apply d_ret
          | with_reducible apply kt_ret
          | with_reducible apply kt_exit
          | with_reducible apply kb_normal
          | with_reducible apply kb_ret
          | with_reducible apply kb_here
          | with_reducible apply kl_ret
          | with_reducible apply kl_exit
          | with_reducible apply kc_ret
          | with_reducible apply kc_exit
          | (with_reducible apply kb_there; (focus rfl))
        refine l_call rfl rfl rfl (by first | (go_simp; done) | (go_simp; rfl)) (HFC.out) ?_
        rintro e w' ⟨rfl, hk2⟩
        refine ⟨_, rfl, ?_⟩
        repeat first
          | apply d_seq
          | with_reducible apply kt_normal
          | apply l_nil
          | apply d_region
          | (apply l_off; (focus rfl); (focus rfl))
          | (apply l_val; (focus rfl); (focus rfl); (focus rfl); (focus (go_simp; (try simp (disch := omega) only [wrap_in, wrap_in', wrap_u16, wrap_u8, wrap_u32, wrap_u64, rem_in, quo_in]); first | done | with_reducible rfl | (constructor <;> with_reducible rfl))))
          | (apply l_store; (focus rfl); (focus rfl); (focus rfl); (focus (go_simp; (try simp (disch := omega) only [wrap_in, wrap_in', wrap_u16, wrap_u8, wrap_u32, wrap_u64, rem_in, quo_in]); first | done | with_reducible rfl | (constructor <;> with_reducible rfl))))
          | apply d_block
          | (apply d_true; (focus rfl); (focus rfl))
          | (apply d_false; (focus rfl); (focus rfl))
          | apply d_skip
          | apply d_exit
          | apply d_ret
          | with_reducible apply kt_ret
          | with_reducible apply kt_exit
          | with_reducible apply kb_normal
          | with_reducible apply kb_ret
          | with_reducible apply kb_here
          | with_reducible apply kl_ret
          | with_reducible apply kl_exit
          | with_reducible apply kc_ret
          | with_reducible apply kc_exit
          | (with_reducible apply kb_there; (focus rfl))
        refine ⟨rfl, _, (by first | (simp [resultsG, resOne, Try.results46, rho, List.lookup]; done) | (simp [resultsG, resOne, Try.results46, rho, List.lookup]; rfl)), ?_⟩
        rw [pidx_hit HY.out HB.out HZ.out]
        exact ⟨rfl, HK.out.next hk2⟩
      | false =>
        repeat first
          | apply d_seq
          | with_reducible apply kt_normal
          | apply l_nil
          | apply d_region
          | (apply l_off; (focus rfl); (focus rfl))
          | (apply l_val; (focus rfl); (focus rfl); (focus rfl); (focus (go_simp; (try simp (disch := omega) only [wrap_in, wrap_in', wrap_u16, wrap_u8, wrap_u32, wrap_u64, rem_in, quo_in]); first | done | with_reducible rfl | (constructor <;> with_reducible rfl))))
          | (apply l_store; (focus rfl); (focus rfl); (focus rfl); (focus (go_simp; (try simp (disch := omega) only [wrap_in, wrap_in', wrap_u16, wrap_u8, wrap_u32, wrap_u64, rem_in, quo_in]); first | done | with_reducible rfl | (constructor <;> with_reducible rfl))))
          | apply d_block
          | (apply d_true; (focus rfl); (focus rfl))
          | (apply d_false; (focus rfl); (focus rfl))
          | apply d_skip
          | apply d_exit
          | apply d_ret
          | with_reducible apply kt_ret
          | with_reducible apply kt_exit
          | with_reducible apply kb_normal
          | with_reducible apply kb_ret
          | with_reducible apply kb_here
          | with_reducible apply kl_ret
          | with_reducible apply kl_exit
          | with_reducible apply kc_ret
          | with_reducible apply kc_exit
          | (with_reducible apply kb_there; (focus rfl))
        refine l_call rfl rfl rfl (by first | (go_simp; done) | (go_simp; rfl)) (HFC.out) ?_
        rintro e w' ⟨rfl, hk2⟩
        refine ⟨_, rfl, ?_⟩
        repeat first
          | apply d_seq
          | with_reducible apply kt_normal
          | apply l_nil
          | apply d_region
          | (apply l_off; (focus rfl); (focus rfl))
          | (apply l_val; (focus rfl); (focus rfl); (focus rfl); (focus (go_simp; (try simp (disch := omega) only [wrap_in, wrap_in', wrap_u16, wrap_u8, wrap_u32, wrap_u64, rem_in, quo_in]); first | done | with_reducible rfl | (constructor <;> with_reducible rfl))))
          | (apply l_store; (focus rfl); (focus rfl); (focus rfl); (focus (go_simp; (try simp (disch := omega) only [wrap_in, wrap_in', wrap_u16, wrap_u8, wrap_u32, wrap_u64, rem_in, quo_in]); first | done | with_reducible rfl | (constructor <;> with_reducible rfl))))
          | apply d_block
          | (apply d_true; (focus rfl); (focus rfl))
          | (apply d_false; (focus rfl); (focus rfl))
          | apply d_skip
          | apply d_exit
          | apply d_ret
          | with_reducible apply kt_ret
          | with_reducible apply kt_exit
          | with_reducible apply kb_normal
          | with_reducible apply kb_ret
          | with_reducible apply kb_here
          | with_reducible apply kl_ret
          | with_reducible apply kl_exit
          | with_reducible apply kc_ret
          | with_reducible apply kc_exit
          | (with_reducible apply kb_there; (focus rfl))
        refine kl_normal (xs.length - (k + 1)) _ (by omega) (Subl.cons (t := 0) (by decide) rfl (Subl.cons (t := 1) (by decide) rfl (Subl.cons (t := 7) (by decide) rfl (Subl.cons (t := 8) (by decide) rfl (Subl.nil _ _))))) ?_
        exact ⟨k + 1, rfl, by omega, rfl, Lib.hid (HK.out.next hk2), Lib.hid (take_snoc_all HY.out HB.out HZ.out)⟩
    · obtain rfl : k = xs.length := by omega
      have hz := HZ.out
      rw [List.take_length] at hz
      have HP : Hid (pidx xs (fun x => !x.c.held) = -1) := Lib.hid (pidx_miss hz)
      clear hz
      rw [HP.out]
      repeat first
        | apply d_seq
        | with_reducible apply kt_normal
        | apply l_nil
        | apply d_region
        | (apply l_off; (focus rfl); (focus rfl))
        | (apply l_val; (focus rfl); (focus rfl); (focus rfl); (focus (go_simp; (try simp (disch := omega) only [wrap_in, wrap_in', wrap_u16, wrap_u8, wrap_u32, wrap_u64, rem_in, quo_in]); first | done | with_reducible rfl | (constructor <;> with_reducible rfl))))
        | (apply l_store; (focus rfl); (focus rfl); (focus rfl); (focus (go_simp; (try simp (disch := omega) only [wrap_in, wrap_in', wrap_u16, wrap_u8, wrap_u32, wrap_u64, rem_in, quo_in]); first | done | with_reducible rfl | (constructor <;> with_reducible rfl))))
        | apply d_block
        | (apply d_true; (focus rfl); (focus rfl))
        | (apply d_false; (focus rfl); (focus rfl))
        | apply d_skip
        | apply d_exit
        | apply d_ret
        | with_reducible apply kt_ret
        | with_reducible apply kt_exit
        | with_reducible apply kb_normal
        | with_reducible apply kb_ret
        | with_reducible apply kb_here
        | with_reducible apply kl_ret
        | with_reducible apply kl_exit
        | with_reducible apply kc_ret
        | with_reducible apply kc_exit
        | (with_reducible apply kb_there; (focus rfl))
      refine ⟨rfl, _, (by first | (simp [resultsG, resOne, Try.results46, rho, List.lookup]; done) | (simp [resultsG, resOne, Try.results46, rho, List.lookup]; rfl)), ?_⟩
      exact ⟨rfl, HK.out⟩
end Go.Proofs.Ytienodnkfohakaa
