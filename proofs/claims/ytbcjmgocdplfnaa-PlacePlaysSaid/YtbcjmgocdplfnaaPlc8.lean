import Derived.Test.YtbcjmgocdplfnaaPlc7
namespace Go.Proofs.Ytbcjmgocdplfnaa
set_option linter.unusedVariables false
set_option linter.unusedSimpArgs false
attribute [local go_sem] rho_const rho_func rho_hit rho_miss
open Go.RowKit
def kinds0 (l : List Int) : Nat → Int := l.foldl (fun f a => if known a = true then upd f a.toNat 1 else f) (fun _ => 0)
def PS.new (l : List Int) : PS := ⟨kinds0 l, []⟩
theorem kinds0_snoc (l : List Int) (a : Int) : kinds0 (l ++ [a]) = if known a = true then upd (kinds0 l) a.toNat 1 else kinds0 l := by simp [kinds0]
theorem kinds_fold (l : List Int) : ∀ f : Nat → Int, (∀ x, (f x = 0 ∨ f x = 1) ∧ (f x = 1 → 1 ≤ x ∧ x ≤ 31)) → ∀ x, ((l.foldl (fun f a => if known a = true then upd f a.toNat 1 else f) f) x = 0 ∨ (l.foldl (fun f a => if known a = true then upd f a.toNat 1 else f) f) x = 1) ∧ ((l.foldl (fun f a => if known a = true then upd f a.toNat 1 else f) f) x = 1 → 1 ≤ x ∧ x ≤ 31) := by
  induction l with
  | nil => intro f hf x; exact hf x
  | cons a l ih =>
    intro f hf x
    rw [List.foldl_cons]
    refine ih _ (fun y => ?_) x
    split
    · rename_i hk
      have := known_iff.1 hk
      simp only [upd]
      split
      · exact ⟨.inr rfl, fun _ => by omega⟩
      · exact hf y
    · exact hf y
theorem kinds0_val (l : List Int) (x : Nat) : (kinds0 l x = 0 ∨ kinds0 l x = 1) ∧ (kinds0 l x = 1 → 1 ≤ x ∧ x ≤ 31) :=
  kinds_fold l (fun _ => 0) (fun _ => ⟨.inl rfl, fun h => by simp at h⟩) x
theorem PS.ok_new (l : List Int) : (PS.new l).ok := by
  refine ⟨fun x => ?_, by simp [PS.new], by simp [PS.new], fun q hq => by simp [PS.new] at hq, fun x hx => ?_, ?_, fun x hx => ?_⟩
  · have := (kinds0_val l x).1
    simp only [PS.new]
    omega
  · have := (kinds0_val l x).1
    simp only [PS.new] at hx
    omega
  · have := kinds0_val l 0
    simp only [PS.new]
    omega
  · have := kinds0_val l x
    simp only [PS.new]
    omega
theorem flat_one (l : List Int) (f : Int → Value) : l.flatMap (fun y => [f y]) = l.map f := by induction l with | nil => rfl | cons a l ih => simp [ih]
set_option maxRecDepth 100000 in
set_option maxHeartbeats 4000000 in
theorem new_any (w : World) (F0 : Nat → Prop) (A : Option Addr) (n c : Nat) (l : List Int) (h : SeesIn w F0 1 (.slice A n c) l.length (ints .u8 l)) :
    Calls Try.prog 10 #[.slice A n c] w fun e w' => ∃ p, e = .returned (.pointer (some ⟨p, 0, none⟩)) ∧ Keep none_ w w' ∧ PRep w' (fresh none_ w w') p (PS.new l) := by
  obtain ⟨rfl, hc1, hc2⟩ := h.form'
  have hsee : ∀ k y, l[k]? = some y → ∃ g o, A = some ⟨g, o, none⟩ ∧ g < w.heap.size ∧ w.cell? ⟨g, o + k, none⟩ = some (.int .u8 y) := fun k y hy => by
    have h' : SeesIn w F0 1 (.slice A l.length c) l.length (l.flatMap fun y => [Value.int .u8 y]) := by
      rw [flat_one]
      exact h
    obtain ⟨g, o, c', e1, -, h2, -, -, h5⟩ := sees_one (.int .u8) (fun _ => rfl) h' hy
    simp only [Value.slice.injEq, true_and] at e1
    exact ⟨g, o, e1.1, h2, h5⟩
  have hw : Keep none_ w ((w.alloc (.map #[] 0)).alloc (.cells (pcells (fun _ => 0) w.heap.size) 46)) ∧ PRep ((w.alloc (.map #[] 0)).alloc (.cells (pcells (fun _ => 0) w.heap.size) 46)) (fresh none_ w ((w.alloc (.map #[] 0)).alloc (.cells (pcells (fun _ => 0) w.heap.size) 46))) (w.heap.size + 1) (PS.new (l.take 0)) := by
    have hs : ((w.alloc (.map #[] 0)).alloc (.cells (pcells (fun _ => 0) w.heap.size) 46)).heap.size = w.heap.size + 2 := by simp
    refine ⟨((Keep.refl none_ w).alloc _).alloc _, .inr ⟨by omega, by omega⟩, PS.ok_new _, w.heap.size, [], 0, .inr ⟨by omega, by omega⟩, by omega, ?_, ?_, ⟨by simp, by simp⟩, rfl⟩
    · have := heap_alloc_new (w.alloc (.map #[] 0)) (.cells (pcells (fun _ => 0) w.heap.size) 46 (0, 0))
      rw [show (w.alloc (.map #[] 0)).heap.size = w.heap.size + 1 by simp] at this
      exact this
    · exact (Below.heap_alloc _ _ _ (by simp)).trans (heap_alloc_new w _)
  have H := Lib.hid h
  have HSEE := Lib.hid hsee
  have HW := Lib.hid hw
  clear h hsee hw
  refine d_calls (n := 29) Try.func10 rfl rfl (by simp) [(0, .slice A l.length c)] (by simp) ?_
  repeat first
    | apply d_seq
    | with_reducible apply kt_normal
    | apply l_nil
    | apply d_region
    | (apply l_off; (focus rfl); (focus rfl))
    | (apply l_val; (focus rfl); (focus rfl); (focus rfl); (focus (go_simp; (try simp (disch := omega) only [wrap_in, wrap_in', wrap_u16, wrap_u8, wrap_u32, wrap_u64, rem_in, quo_in]); first | done | with_reducible rfl | (constructor <;> with_reducible rfl))))
    | (apply l_store; (focus rfl); (focus rfl); (focus rfl); (focus (go_simp; (try simp (disch := omega) only [wrap_in, wrap_in', wrap_u16, wrap_u8, wrap_u32, wrap_u64, rem_in, quo_in]); first | done | with_reducible rfl | (constructor <;> with_reducible rfl))))
    | apply d_block
    | (apply d_true; (focus rfl); (focus rfl))
    | (apply d_false; (focus rfl); (focus rfl))
    | apply d_skip
    | apply d_exit
    | apply d_ret
    | with_reducible apply kt_ret
    | with_reducible apply kt_exit
    | with_reducible apply kb_normal
    | with_reducible apply kb_ret
    | with_reducible apply kb_here
    | with_reducible apply kl_ret
    | with_reducible apply kl_exit
    | with_reducible apply kc_ret
    | with_reducible apply kc_exit
    | (with_reducible apply kb_there; (focus rfl))
  refine d_loop (fun m D wr => ∃ k : Nat, m = l.length - k ∧ k ≤ l.length ∧ D = [(3, .pointer (some ⟨w.heap.size + 1, 0, none⟩)), (10, .slice A l.length c), (11, .int .i64 l.length), (12, .int .i64 k)] ∧ Hid (Keep none_ w wr ∧ PRep wr (fresh none_ w wr) (w.heap.size + 1) (PS.new (l.take k)))) (l.length) _ (Subl.cons (t := 3) (by decide) rfl (Subl.cons (t := 10) (by decide) rfl (Subl.cons (t := 11) (by decide) rfl (Subl.cons (t := 12) (by decide) rfl (Subl.nil _ _))))) ?_ (fun m D wr hrel => ?_)
  · exact ⟨0, rfl, Nat.zero_le _, rfl, HW⟩
  · clear HW
    obtain ⟨k, rfl, hk, rfl, HX⟩ := hrel
    by_cases hlt : k < l.length
    · obtain ⟨y, hy⟩ : ∃ y, l[k]? = some y := ⟨_, List.getElem?_eq_getElem hlt⟩
      obtain ⟨g, o, rfl, hg, hc0⟩ := HSEE.out k y hy
      have c0 : wr.cell? ⟨g, o + k, none⟩ = some (.int .u8 y) := (HX.out.1.cell hg (fun c => c)).trans hc0
      have htake : l.take (k + 1) = l.take k ++ [y] := by rw [List.take_add_one, hy]; rfl
      have hkn := known_any (w.heap.size + 1) y wr
      have hkl : (k : Int) < l.length := by omega
      have q1 : decide ((k : Int) < l.length) = true := decide_eq_true hkl
      obtain ⟨b, hb⟩ : ∃ b, known y = b := ⟨_, rfl⟩
      rw [hb] at hkn
      cases b with
      | false =>
        have hnew : PS.new (l.take (k + 1)) = PS.new (l.take k) := by unfold PS.new; rw [htake, kinds0_snoc, hb]; simp
        have HC0 := Lib.hid hc0
        have HTAKE := Lib.hid htake
        have HKN := Lib.hid hkn
        have HY := Lib.hid hy
        have HB := Lib.hid hb
        have HNEW := Lib.hid hnew
        clear hc0 htake hkn hy hb hnew
        repeat first
          | apply d_seq
          | with_reducible apply kt_normal
          | apply l_nil
          | apply d_region
          | (apply l_off; (focus rfl); (focus rfl))
          | (apply l_val; (focus rfl); (focus rfl); (focus rfl); (focus (go_simp; (try simp (disch := omega) only [wrap_in, wrap_in', wrap_u16, wrap_u8, wrap_u32, wrap_u64, rem_in, quo_in]); first | done | with_reducible rfl | (constructor <;> with_reducible rfl))))
          | (apply l_store; (focus rfl); (focus rfl); (focus rfl); (focus (go_simp; (try simp (disch := omega) only [wrap_in, wrap_in', wrap_u16, wrap_u8, wrap_u32, wrap_u64, rem_in, quo_in]); first | done | with_reducible rfl | (constructor <;> with_reducible rfl))))
          | apply d_block
          | (apply d_true; (focus rfl); (focus rfl))
          | (apply d_false; (focus rfl); (focus rfl))
          | apply d_skip
          | apply d_exit
          | apply d_ret
          | with_reducible apply kt_ret
          | with_reducible apply kt_exit
          | with_reducible apply kb_normal
          | with_reducible apply kb_ret
          | with_reducible apply kb_here
          | with_reducible apply kl_ret
          | with_reducible apply kl_exit
          | with_reducible apply kc_ret
          | with_reducible apply kc_exit
          | (with_reducible apply kb_there; (focus rfl))
        refine l_call rfl rfl rfl (by first | (go_simp; done) | (go_simp; rfl)) (HKN.out) ?_
        rintro e w' ⟨rfl, rfl⟩
        refine ⟨_, rfl, ?_⟩
        repeat first
          | apply d_seq
          | with_reducible apply kt_normal
          | apply l_nil
          | apply d_region
          | (apply l_off; (focus rfl); (focus rfl))
          | (apply l_val; (focus rfl); (focus rfl); (focus rfl); (focus (go_simp; (try simp (disch := omega) only [wrap_in, wrap_in', wrap_u16, wrap_u8, wrap_u32, wrap_u64, rem_in, quo_in]); first | done | with_reducible rfl | (constructor <;> with_reducible rfl))))
          | (apply l_store; (focus rfl); (focus rfl); (focus rfl); (focus (go_simp; (try simp (disch := omega) only [wrap_in, wrap_in', wrap_u16, wrap_u8, wrap_u32, wrap_u64, rem_in, quo_in]); first | done | with_reducible rfl | (constructor <;> with_reducible rfl))))
          | apply d_block
          | (apply d_true; (focus rfl); (focus rfl))
          | (apply d_false; (focus rfl); (focus rfl))
          | apply d_skip
          | apply d_exit
          | apply d_ret
          | with_reducible apply kt_ret
          | with_reducible apply kt_exit
          | with_reducible apply kb_normal
          | with_reducible apply kb_ret
          | with_reducible apply kb_here
          | with_reducible apply kl_ret
          | with_reducible apply kl_exit
          | with_reducible apply kc_ret
          | with_reducible apply kc_exit
          | (with_reducible apply kb_there; (focus rfl))
        refine kl_normal (l.length - (k + 1)) _ (by omega) (Subl.cons (t := 3) (by decide) rfl (Subl.cons (t := 10) (by decide) rfl (Subl.cons (t := 11) (by decide) rfl (Subl.cons (t := 12) (by decide) rfl (Subl.nil _ _))))) ?_
        exact ⟨k + 1, rfl, by omega, rfl, by rw [HNEW.out]; exact HX⟩
      | true =>
        have ha := known_iff.1 hb
        obtain ⟨n, rfl⟩ : ∃ n : Nat, y = n := ⟨y.toNat, by omega⟩
        have hn : n < 32 := by omega
        have hn' : (n : Int) < 32 := by omega
        have hnew : PS.new (l.take (k + 1)) = ⟨upd (PS.new (l.take k)).of n 1, (PS.new (l.take k)).by_⟩ := by unfold PS.new; rw [htake, kinds0_snoc, hb]; simp
        have hp := HX.out.2
        have hs2 := hp.store hn 1 (by rw [← hnew]; exact PS.ok_new _)
        have hk2 := HX.out.1.setCell (p := ⟨w.heap.size + 1, n, none⟩) (.inl (by simp only; omega)) (.int .i64 1)
        have hX2 : Keep none_ w (wr.setCell ⟨w.heap.size + 1, n, none⟩ (.int .i64 1)) ∧ PRep (wr.setCell ⟨w.heap.size + 1, n, none⟩ (.int .i64 1)) (fresh none_ w (wr.setCell ⟨w.heap.size + 1, n, none⟩ (.int .i64 1))) (w.heap.size + 1) (PS.new (l.take (k + 1))) := by
          refine ⟨hk2, ?_⟩
          rw [hnew]
          exact hs2.move (fun q hq hl => ⟨by rcases hq with c | c; exact c.elim; exact .inr ⟨c.1, hl⟩, rfl⟩)
        obtain ⟨-, -, mb, es, clock, -, -, h5, -⟩ := hp
        have d0 := pcell h5 hn
        have f0 := pfrozen h5 n
        have HC0 := Lib.hid hc0
        have HTAKE := Lib.hid htake
        have HKN := Lib.hid hkn
        have HY := Lib.hid hy
        have HB := Lib.hid hb
        have HNEW := Lib.hid hnew
        have HX2 := Lib.hid hX2
        clear hc0 htake hkn hy hb hnew hX2
        clear hs2 hk2 h5 ha HX
        repeat first
          | apply d_seq
          | with_reducible apply kt_normal
          | apply l_nil
          | apply d_region
          | (apply l_off; (focus rfl); (focus rfl))
          | (apply l_val; (focus rfl); (focus rfl); (focus rfl); (focus (go_simp; (try simp (disch := omega) only [wrap_in, wrap_in', wrap_u16, wrap_u8, wrap_u32, wrap_u64, rem_in, quo_in]); first | done | with_reducible rfl | (constructor <;> with_reducible rfl))))
          | (apply l_store; (focus rfl); (focus rfl); (focus rfl); (focus (go_simp; (try simp (disch := omega) only [wrap_in, wrap_in', wrap_u16, wrap_u8, wrap_u32, wrap_u64, rem_in, quo_in]); first | done | with_reducible rfl | (constructor <;> with_reducible rfl))))
          | apply d_block
          | (apply d_true; (focus rfl); (focus rfl))
          | (apply d_false; (focus rfl); (focus rfl))
          | apply d_skip
          | apply d_exit
          | apply d_ret
          | with_reducible apply kt_ret
          | with_reducible apply kt_exit
          | with_reducible apply kb_normal
          | with_reducible apply kb_ret
          | with_reducible apply kb_here
          | with_reducible apply kl_ret
          | with_reducible apply kl_exit
          | with_reducible apply kc_ret
          | with_reducible apply kc_exit
          | (with_reducible apply kb_there; (focus rfl))
        refine l_call rfl rfl rfl (by first | (go_simp; done) | (go_simp; rfl)) (HKN.out) ?_
        rintro e w' ⟨rfl, rfl⟩
        refine ⟨_, rfl, ?_⟩
        repeat first
          | apply d_seq
          | with_reducible apply kt_normal
          | apply l_nil
          | apply d_region
          | (apply l_off; (focus rfl); (focus rfl))
          | (apply l_val; (focus rfl); (focus rfl); (focus rfl); (focus (go_simp; (try simp (disch := omega) only [wrap_in, wrap_in', wrap_u16, wrap_u8, wrap_u32, wrap_u64, rem_in, quo_in]); first | done | with_reducible rfl | (constructor <;> with_reducible rfl))))
          | (apply l_store; (focus rfl); (focus rfl); (focus rfl); (focus (go_simp; (try simp (disch := omega) only [wrap_in, wrap_in', wrap_u16, wrap_u8, wrap_u32, wrap_u64, rem_in, quo_in]); first | done | with_reducible rfl | (constructor <;> with_reducible rfl))))
          | apply d_block
          | (apply d_true; (focus rfl); (focus rfl))
          | (apply d_false; (focus rfl); (focus rfl))
          | apply d_skip
          | apply d_exit
          | apply d_ret
          | with_reducible apply kt_ret
          | with_reducible apply kt_exit
          | with_reducible apply kb_normal
          | with_reducible apply kb_ret
          | with_reducible apply kb_here
          | with_reducible apply kl_ret
          | with_reducible apply kl_exit
          | with_reducible apply kc_ret
          | with_reducible apply kc_exit
          | (with_reducible apply kb_there; (focus rfl))
        refine kl_normal (l.length - (k + 1)) _ (by omega) (Subl.cons (t := 3) (by decide) rfl (Subl.cons (t := 10) (by decide) rfl (Subl.cons (t := 11) (by decide) rfl (Subl.cons (t := 12) (by decide) rfl (Subl.nil _ _))))) ?_
        exact ⟨k + 1, rfl, by omega, rfl, HX2⟩
    · have hkl : k = l.length := by omega
      subst hkl
      rw [List.take_length] at HX
      repeat first
        | apply d_seq
        | with_reducible apply kt_normal
        | apply l_nil
        | apply d_region
        | (apply l_off; (focus rfl); (focus rfl))
        | (apply l_val; (focus rfl); (focus rfl); (focus rfl); (focus (go_simp; (try simp (disch := omega) only [wrap_in, wrap_in', wrap_u16, wrap_u8, wrap_u32, wrap_u64, rem_in, quo_in]); first | done | with_reducible rfl | (constructor <;> with_reducible rfl))))
        | (apply l_store; (focus rfl); (focus rfl); (focus rfl); (focus (go_simp; (try simp (disch := omega) only [wrap_in, wrap_in', wrap_u16, wrap_u8, wrap_u32, wrap_u64, rem_in, quo_in]); first | done | with_reducible rfl | (constructor <;> with_reducible rfl))))
        | apply d_block
        | (apply d_true; (focus rfl); (focus rfl))
        | (apply d_false; (focus rfl); (focus rfl))
        | apply d_skip
        | apply d_exit
        | apply d_ret
        | with_reducible apply kt_ret
        | with_reducible apply kt_exit
        | with_reducible apply kb_normal
        | with_reducible apply kb_ret
        | with_reducible apply kb_here
        | with_reducible apply kl_ret
        | with_reducible apply kl_exit
        | with_reducible apply kc_ret
        | with_reducible apply kc_exit
        | (with_reducible apply kb_there; (focus rfl))
      refine ⟨rfl, _, (by first | (simp [resultsG, resOne, Try.results10, rho, List.lookup]; done) | (simp [resultsG, resOne, Try.results10, rho, List.lookup]; rfl)), ?_⟩
      exact ⟨_, rfl, HX.out.1, HX.out.2⟩
end Go.Proofs.Ytbcjmgocdplfnaa
