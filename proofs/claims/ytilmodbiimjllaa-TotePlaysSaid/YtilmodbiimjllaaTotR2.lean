import Derived.Test.YtilmodbiimjllaaTotR
namespace Go.Proofs.Ytilmodbiimjllaa
set_option linter.unusedVariables false
set_option linter.unusedSimpArgs false
attribute [local go_sem] rho_const rho_func rho_hit rho_miss
open Go.RowKit
attribute [local go_sem] min2_mn min_two' max2_mx max_two'
theorem row_snoc {l : List It} {k : Nat} {y : It} (hy : l[k]? = some y) (z : Int) : ((l.take (k + 1)).filter (fun x => x.zone == z)).map (·.tote) = ((l.take k).filter (fun x => x.zone == z)).map (·.tote) ++ if (y.zone == z) = true then [y.tote] else [] := by
  rw [List.take_add_one, hy]
  simp only [Option.toList_some, List.filter_append, List.map_append]
  congr 1
  by_cases h : (y.zone == z) = true
  · simp [h]
  · simp [h]
theorem filt_len (l : List It) (k : Nat) (p : It → Bool) : ((l.take k).filter p).length ≤ l.length := Nat.le_trans (List.length_filter_le _ _) (by rw [List.length_take]; omega)
theorem rRow_any (r : Nat) (s : RS) (z : Int) (F : Nat → Prop) (w : World) (h : RRep w F r s) (hl : s.l.length ≤ 900) :
    Calls Try.prog 19 #[.pointer (some ⟨r, 0, none⟩), .int .i64 z] w fun e w' => ∃ v', e = .returned v' ∧ Keep none_ w w' ∧ Own w' (fresh none_ w w') 30 1 v' (s.row z).length (ints .u16 (s.row z)) := by
  obtain ⟨hF, v, hb, ho⟩ := h
  obtain ⟨A, c, rfl, hc1, hc2⟩ := ho.len
  obtain ⟨c0, c1, c2, -⟩ := blk3 hb
  have HO := Lib.hid ho.sees
  unfold maxLen at hc2
  have C2 := Lib.hid c2
  clear ho hb c0 c1
  have hx := (Has.nil (Keep.refl none_ w)).alloc (.cells #[] 30)
  have hx0 := (Has.nil (Keep.refl none_ w)).new (P := OwnA w.heap.size 30 1 (.slice (some ⟨w.heap.size, 0, none⟩) 0 0) 0 (ints .u16 (((s.l.take 0).filter (fun x => x.zone == z)).map (·.tote)))) ((Keep.refl none_ w).alloc (.cells #[] 30))
    (by
      show Own (w.alloc (.cells #[] 30)) (fresh none_ w (w.alloc (.cells #[] 30))) 30 1 (.slice (some ⟨w.heap.size, 0, none⟩) 0 0) 0 (ints .u16 (((s.l.take 0).filter (fun x => x.zone == z)).map (·.tote)))
      rw [List.take_zero]
      exact ⟨⟨by simp [ints], .inr ⟨w.heap.size, 0, #[], rfl, Nat.zero_le _, heap_alloc_new _ _, Nat.le_refl _, by simp, by simp, by simp [ints]⟩⟩, fun g hg => by simp only [Value.ownBlock, Option.some.injEq] at hg; subst hg; exact .inr ⟨Nat.le_refl _, by simp⟩, by simp [ints]⟩)
  simp only [List.nil_append] at hx0
  have HX := Lib.hid hx0
  clear hx hx0
  refine d_calls (n := 39) Try.func19 rfl rfl (by simp) [(0, .pointer (some ⟨r, 0, none⟩)), (1, .int .i64 z)] (by simp) ?_
  repeat first
    | apply d_seq
    | with_reducible apply kt_normal
    | apply l_nil
    | apply d_region
    | (apply l_off; (focus rfl); (focus rfl))
    | (apply l_val; (focus rfl); (focus rfl); (focus rfl); (focus (go_simp; (try simp (disch := omega) only [wrap_in, wrap_in', wrap_u16, wrap_u8, wrap_u32, wrap_u64, rem_in, quo_in]); first | done | with_reducible rfl | (constructor <;> with_reducible rfl))))
    | (apply l_store; (focus rfl); (focus rfl); (focus rfl); (focus (go_simp; (try simp (disch := omega) only [wrap_in, wrap_in', wrap_u16, wrap_u8, wrap_u32, wrap_u64, rem_in, quo_in]); first | done | with_reducible rfl | (constructor <;> with_reducible rfl))))
    | apply d_block
    | (apply d_true; (focus rfl); (focus rfl))
    | (apply d_false; (focus rfl); (focus rfl))
    | apply d_skip
    | apply d_exit
    | apply d_ret
    | with_reducible apply kt_ret
    | with_reducible apply kt_exit
    | with_reducible apply kb_normal
    | with_reducible apply kb_ret
    | with_reducible apply kb_here
    | with_reducible apply kl_ret
    | with_reducible apply kl_exit
    | with_reducible apply kc_ret
    | with_reducible apply kc_exit
    | (with_reducible apply kb_there; (focus rfl))
  clear c2
  refine d_loop (fun m D wr => ∃ (k : Nat) (B : Option Addr) (d : Nat), m = s.l.length - k ∧ k ≤ s.l.length ∧ D = [(0, .pointer (some ⟨r, 0, none⟩)), (1, .int .i64 z), (5, .slice B (((s.l.take k).filter (fun x => x.zone == z)).map (·.tote)).length d), (6, .int .i64 k)] ∧ Hid (Has w wr [OwnA w.heap.size 30 1 (.slice B (((s.l.take k).filter (fun x => x.zone == z)).map (·.tote)).length d) (((s.l.take k).filter (fun x => x.zone == z)).map (·.tote)).length (ints .u16 (((s.l.take k).filter (fun x => x.zone == z)).map (·.tote)))])) (s.l.length) _ (Subl.cons (t := 0) (by decide) rfl (Subl.cons (t := 1) (by decide) rfl (Subl.cons (t := 5) (by decide) rfl (Subl.cons (t := 6) (by decide) rfl (Subl.nil _ _))))) ?_ (fun m D wr hrel => ?_)
  · exact ⟨0, some ⟨w.heap.size, 0, none⟩, 0, rfl, Nat.zero_le _, rfl, HX⟩
  · clear HX
    obtain ⟨k, B, d, rfl, hk, rfl, HX⟩ := hrel
    have c2 := HX.out.cell0 C2.out
    by_cases hlt : k < s.l.length
    · obtain ⟨y, hy⟩ : ∃ y, s.l[k]? = some y := ⟨_, List.getElem?_eq_getElem hlt⟩
      obtain ⟨g, o, c', e1, -, -, -, -, d0, d1⟩ := sees_it HO.out rfl hy
      simp only [Value.slice.injEq, true_and] at e1
      obtain ⟨rfl, rfl⟩ := e1
      have hsn := row_snoc hy z
      have hln : ((((s.l.take k).filter (fun x => x.zone == z)).map (·.tote))).length ≤ 900 := by rw [List.length_map]; exact Nat.le_trans (filt_len _ _ _) hl
      generalize ((s.l.take k).filter (fun x => x.zone == z)).map (·.tote) = ra at *
      obtain ⟨b, hb⟩ : ∃ b, (y.zone == z) = b := ⟨_, rfl⟩
      rw [hb] at hsn
      have HY := Lib.hid hy
      have D0 := Lib.hid d0
      have D1 := Lib.hid d1
      clear hy d0 d1
      try clear d0
      have d0 := HX.out.cell0 D0.out
      try clear d1
      have d1 := HX.out.cell0 D1.out
      cases b
      · rw [if_neg (by simp), List.append_nil] at hsn
        have HSN := Lib.hid hsn
        clear hsn
        repeat first
          | apply d_seq
          | with_reducible apply kt_normal
          | apply l_nil
          | apply d_region
          | (apply l_off; (focus rfl); (focus rfl))
          | (apply l_val; (focus rfl); (focus rfl); (focus rfl); (focus (go_simp; (try simp (disch := omega) only [wrap_in, wrap_in', wrap_u16, wrap_u8, wrap_u32, wrap_u64, rem_in, quo_in]); first | done | with_reducible rfl | (constructor <;> with_reducible rfl))))
          | (apply l_store; (focus rfl); (focus rfl); (focus rfl); (focus (go_simp; (try simp (disch := omega) only [wrap_in, wrap_in', wrap_u16, wrap_u8, wrap_u32, wrap_u64, rem_in, quo_in]); first | done | with_reducible rfl | (constructor <;> with_reducible rfl))))
          | apply d_block
          | (apply d_true; (focus rfl); (focus rfl))
          | (apply d_false; (focus rfl); (focus rfl))
          | apply d_skip
          | apply d_exit
          | apply d_ret
          | with_reducible apply kt_ret
          | with_reducible apply kt_exit
          | with_reducible apply kb_normal
          | with_reducible apply kb_ret
          | with_reducible apply kb_here
          | with_reducible apply kl_ret
          | with_reducible apply kl_exit
          | with_reducible apply kc_ret
          | with_reducible apply kc_exit
          | (with_reducible apply kb_there; (focus rfl))
        refine kl_normal (s.l.length - (k + 1)) _ (by omega) (Subl.cons (t := 0) (by decide) rfl (Subl.cons (t := 1) (by decide) rfl (Subl.cons (t := 5) (by decide) rfl (Subl.cons (t := 6) (by decide) rfl (Subl.nil _ _))))) ?_
        refine ⟨k + 1, B, d, rfl, by omega, ?_, ?_⟩
        · rw [HSN.out]; rfl
        · rw [HSN.out]; exact HX
      · rw [if_pos rfl] at hsn
        obtain ⟨g2, cap, w2, hr, h1, h2, hx⟩ := push_u16 HX.out (k := 0) rfl (by omega) y.tote
        simp only [List.set_cons_zero] at hx
        have HSN := Lib.hid hsn
        have HR := Lib.hid hr
        clear hsn hr
        repeat first
          | apply d_seq
          | with_reducible apply kt_normal
          | apply l_nil
          | apply d_region
          | (apply l_off; (focus rfl); (focus rfl))
          | (apply l_val; (focus rfl); (focus rfl); (focus rfl); (focus (go_simp; (try simp (disch := omega) only [wrap_in, wrap_in', wrap_u16, wrap_u8, wrap_u32, wrap_u64, rem_in, quo_in]); first | done | with_reducible rfl | (constructor <;> with_reducible rfl))))
          | (apply l_store; (focus rfl); (focus rfl); (focus rfl); (focus (go_simp; (try simp (disch := omega) only [wrap_in, wrap_in', wrap_u16, wrap_u8, wrap_u32, wrap_u64, rem_in, quo_in]); first | done | with_reducible rfl | (constructor <;> with_reducible rfl))))
          | apply d_block
          | (apply d_true; (focus rfl); (focus rfl))
          | (apply d_false; (focus rfl); (focus rfl))
          | apply d_skip
          | apply d_exit
          | apply d_ret
          | with_reducible apply kt_ret
          | with_reducible apply kt_exit
          | with_reducible apply kb_normal
          | with_reducible apply kb_ret
          | with_reducible apply kb_here
          | with_reducible apply kl_ret
          | with_reducible apply kl_exit
          | with_reducible apply kc_ret
          | with_reducible apply kc_exit
          | (with_reducible apply kb_there; (focus rfl))
        refine l_val rfl rfl rfl (exec_append (.tmp 27) (.tmp 36) 38 rfl _ _ rfl rfl HR.out) ?_
        clear HX c2 d0 d1
        have HX := Lib.hid hx
        clear hx
        repeat first
          | apply d_seq
          | with_reducible apply kt_normal
          | apply l_nil
          | apply d_region
          | (apply l_off; (focus rfl); (focus rfl))
          | (apply l_val; (focus rfl); (focus rfl); (focus rfl); (focus (go_simp; (try simp (disch := omega) only [wrap_in, wrap_in', wrap_u16, wrap_u8, wrap_u32, wrap_u64, rem_in, quo_in]); first | done | with_reducible rfl | (constructor <;> with_reducible rfl))))
          | (apply l_store; (focus rfl); (focus rfl); (focus rfl); (focus (go_simp; (try simp (disch := omega) only [wrap_in, wrap_in', wrap_u16, wrap_u8, wrap_u32, wrap_u64, rem_in, quo_in]); first | done | with_reducible rfl | (constructor <;> with_reducible rfl))))
          | apply d_block
          | (apply d_true; (focus rfl); (focus rfl))
          | (apply d_false; (focus rfl); (focus rfl))
          | apply d_skip
          | apply d_exit
          | apply d_ret
          | with_reducible apply kt_ret
          | with_reducible apply kt_exit
          | with_reducible apply kb_normal
          | with_reducible apply kb_ret
          | with_reducible apply kb_here
          | with_reducible apply kl_ret
          | with_reducible apply kl_exit
          | with_reducible apply kc_ret
          | with_reducible apply kc_exit
          | (with_reducible apply kb_there; (focus rfl))
        refine kl_normal (s.l.length - (k + 1)) _ (by omega) (Subl.cons (t := 0) (by decide) rfl (Subl.cons (t := 1) (by decide) rfl (Subl.cons (t := 5) (by decide) rfl (Subl.cons (t := 6) (by decide) rfl (Subl.nil _ _))))) ?_
        refine ⟨k + 1, some ⟨g2, 0, none⟩, cap, rfl, by omega, ?_, ?_⟩
        · rw [HSN.out, List.length_append, List.length_singleton]; rfl
        · rw [HSN.out, List.length_append, List.length_singleton]; exact HX
    · have hk' : k = s.l.length := by omega
      rw [hk', List.take_length] at HX ⊢
      repeat first
        | apply d_seq
        | with_reducible apply kt_normal
        | apply l_nil
        | apply d_region
        | (apply l_off; (focus rfl); (focus rfl))
        | (apply l_val; (focus rfl); (focus rfl); (focus rfl); (focus (go_simp; (try simp (disch := omega) only [wrap_in, wrap_in', wrap_u16, wrap_u8, wrap_u32, wrap_u64, rem_in, quo_in]); first | done | with_reducible rfl | (constructor <;> with_reducible rfl))))
        | (apply l_store; (focus rfl); (focus rfl); (focus rfl); (focus (go_simp; (try simp (disch := omega) only [wrap_in, wrap_in', wrap_u16, wrap_u8, wrap_u32, wrap_u64, rem_in, quo_in]); first | done | with_reducible rfl | (constructor <;> with_reducible rfl))))
        | apply d_block
        | (apply d_true; (focus rfl); (focus rfl))
        | (apply d_false; (focus rfl); (focus rfl))
        | apply d_skip
        | apply d_exit
        | apply d_ret
        | with_reducible apply kt_ret
        | with_reducible apply kt_exit
        | with_reducible apply kb_normal
        | with_reducible apply kb_ret
        | with_reducible apply kb_here
        | with_reducible apply kl_ret
        | with_reducible apply kl_exit
        | with_reducible apply kc_ret
        | with_reducible apply kc_exit
        | (with_reducible apply kb_there; (focus rfl))
      refine ⟨rfl, _, (by first | (simp [resultsG, resOne, Try.results19, rho, List.lookup]; done) | (simp [resultsG, resOne, Try.results19, rho, List.lookup]; rfl)), ?_⟩
      obtain ⟨G, hz, hG⟩ := HX.out.get (i := 0) rfl
      refine ⟨_, rfl, HX.out.old, ?_⟩
      rw [show (s.l.filter (fun x => x.zone == z)).length = (s.row z).length from (List.length_map ..).symm]
      exact (show Own wr G 30 1 (.slice B (s.row z).length d) (s.row z).length (ints .u16 (s.row z)) from hz).move (fun q hq hl => ⟨Or.inr (hG q hq), rfl⟩)
def RS.full (s : RS) (z : Int) : Bool := decide (mn (mx s.rm 1) 64 ≤ (s.row z).length)
theorem rFull_any (r : Nat) (s : RS) (z : Int) (F : Nat → Prop) (w : World) (h : RRep w F r s) (hl : s.l.length ≤ 900) :
    Calls Try.prog 30 #[.pointer (some ⟨r, 0, none⟩), .int .i64 z] w fun e w' => e = .returned (.bool (s.full z)) ∧ Keep none_ w w' := by
  have HC := Lib.hid (fun (W : World) (hk : Keep none_ w W) => rRow_any r s z F W (h.move (fun q hq hlt => ⟨hq, hk.block q hlt (fun c => c)⟩)) hl)
  obtain ⟨hF, v, hb, ho⟩ := h
  obtain ⟨c0, c1, c2, -⟩ := blk3 hb
  clear ho hb c0 c2
  have C1 := Lib.hid c1
  refine d_calls (n := 16) Try.func30 rfl rfl (by simp) [(0, .pointer (some ⟨r, 0, none⟩)), (1, .int .i64 z)] (by simp) ?_
  repeat first
    | apply d_seq
    | with_reducible apply kt_normal
    | apply l_nil
    | apply d_region
    | (apply l_off; (focus rfl); (focus rfl))
    | (apply l_val; (focus rfl); (focus rfl); (focus rfl); (focus (go_simp; (try simp (disch := omega) only [wrap_in, wrap_in', wrap_u16, wrap_u8, wrap_u32, wrap_u64, rem_in, quo_in]); first | done | with_reducible rfl | (constructor <;> with_reducible rfl))))
    | (apply l_store; (focus rfl); (focus rfl); (focus rfl); (focus (go_simp; (try simp (disch := omega) only [wrap_in, wrap_in', wrap_u16, wrap_u8, wrap_u32, wrap_u64, rem_in, quo_in]); first | done | with_reducible rfl | (constructor <;> with_reducible rfl))))
    | apply d_block
    | (apply d_true; (focus rfl); (focus rfl))
    | (apply d_false; (focus rfl); (focus rfl))
    | apply d_skip
    | apply d_exit
    | apply d_ret
    | with_reducible apply kt_ret
    | with_reducible apply kt_exit
    | with_reducible apply kb_normal
    | with_reducible apply kb_ret
    | with_reducible apply kb_here
    | with_reducible apply kl_ret
    | with_reducible apply kl_exit
    | with_reducible apply kc_ret
    | with_reducible apply kc_exit
    | (with_reducible apply kb_there; (focus rfl))
  refine d_draw (true, [([], []), ([], []), ([0, 1], [0, 1]), ([2], [2]), ([], []), ([4], [4]), ([5], [5]), ([6], [6]), ([7], [7]), ([8], [8]), ([3, 9], [3, 9]), ([10, 2, 0, 1, 2, 3, 4, 5, 6, 7, 8, 9, 10], [10])]) [(0, 0), (0, 1), (0, 4), (0, 5), (0, 6), (0, 7), (0, 8), (0, 9), (1, 2), (0, 3), (0, 10), (0, 11)] [999999] (fun W => W.cell? ⟨r, 1, none⟩ = some (.int .i64 s.rm)) (by kernel_rfl) (by kernel_rfl) (by kernel_rfl) (by kernel_rfl) c1 ?_
  iterate 8
    first | (apply s_off; (focus rfl); (focus rfl); (focus rfl)) | (apply s_yield; (focus rfl); (focus rfl); (focus rfl); (focus rfl); (focus (intro W hS; go_simp; (try simp (disch := omega) only [wrap_in, wrap_in', wrap_u16, wrap_u8, wrap_u32, wrap_u64, rem_in, quo_in]); first | done | with_reducible rfl | (constructor <;> with_reducible rfl))))
  refine s_call rfl rfl rfl rfl (by first | (go_simp; done) | (go_simp; rfl)) (HC.out _ (Keep.refl _ _).drew) ?_
  rintro e w1 ⟨v', rfl, hk, ho⟩
  obtain ⟨A, c, rfl, -, -⟩ := ho.len
  have HK := Lib.hid hk
  have d1 : w1.cell? ⟨r, 1, none⟩ = some (.int .i64 s.rm) := (hk.cell (p := ⟨r, 1, none⟩) (World.block_lt_of_cell? w _ C1.out) (fun c => c)).trans C1.out
  clear hk ho
  refine ⟨_, rfl, d1, ?_⟩
  iterate 3
    first | (apply s_off; (focus rfl); (focus rfl); (focus rfl)) | (apply s_yield; (focus rfl); (focus rfl); (focus rfl); (focus rfl); (focus (intro W hS; go_simp; (try simp (disch := omega) only [wrap_in, wrap_in', wrap_u16, wrap_u8, wrap_u32, wrap_u64, rem_in, quo_in]); first | done | with_reducible rfl | (constructor <;> with_reducible rfl))))
  refine s_done ?_
  repeat first
    | apply d_seq
    | with_reducible apply kt_normal
    | apply l_nil
    | apply d_region
    | (apply l_off; (focus rfl); (focus rfl))
    | (apply l_val; (focus rfl); (focus rfl); (focus rfl); (focus (go_simp; (try simp (disch := omega) only [wrap_in, wrap_in', wrap_u16, wrap_u8, wrap_u32, wrap_u64, rem_in, quo_in]); first | done | with_reducible rfl | (constructor <;> with_reducible rfl))))
    | (apply l_store; (focus rfl); (focus rfl); (focus rfl); (focus (go_simp; (try simp (disch := omega) only [wrap_in, wrap_in', wrap_u16, wrap_u8, wrap_u32, wrap_u64, rem_in, quo_in]); first | done | with_reducible rfl | (constructor <;> with_reducible rfl))))
    | apply d_block
    | (apply d_true; (focus rfl); (focus rfl))
    | (apply d_false; (focus rfl); (focus rfl))
    | apply d_skip
    | apply d_exit
    | apply d_ret
    | with_reducible apply kt_ret
    | with_reducible apply kt_exit
    | with_reducible apply kb_normal
    | with_reducible apply kb_ret
    | with_reducible apply kb_here
    | with_reducible apply kl_ret
    | with_reducible apply kl_exit
    | with_reducible apply kc_ret
    | with_reducible apply kc_exit
    | (with_reducible apply kb_there; (focus rfl))
  refine ⟨rfl, _, (by first | (simp [resultsG, resOne, Try.results30, rho, List.lookup]; done) | (simp [resultsG, resOne, Try.results30, rho, List.lookup]; rfl)), ?_⟩
  exact ⟨rfl, (Keep.refl none_ w).drew.next HK.out⟩
theorem push_it {w0 w : World} {L : List (Asrt w0.heap.size)} (H : Has w0 w L) {k m : Nat} {v : Value} {ls : List It} (hi : L[k]? = some (OwnA w0.heap.size 65 2 v m (its ls))) (hm : m ≤ 1000) (y : It) :
    ∃ g cap w', (Builtin.append_ #[27, 27] 27 #[v, .slice (some ⟨w.heap.size, 0, none⟩) 1 1]).run Try.prog (w.alloc (.cells #[.int .u16 y.tote, .int .i64 y.zone] 65)) = .ok (.slice (some ⟨g, 0, none⟩) (m + 1) cap) w' ∧ m + 1 ≤ cap ∧ cap ≤ 9223372036854775807 ∧
      Has w0 w' (L.set k (OwnA w0.heap.size 65 2 (.slice (some ⟨g, 0, none⟩) (m + 1) cap) (m + 1) (its (ls ++ [y])))) := by
  obtain ⟨i0, hi0, hz0, hz1, hz2⟩ := info_parts (show (Try.prog.info? 65).map (fun i => (i.zero, i.size, i.bytes)) = some (some (.agg #[.int .u16 0, .int .i64 0]), 2, 16) by kernel_rfl)
  have := H.push (P := Try.prog) hi 27 i0 _ 16 Try.underlying27 hi0 hz0 hz1 hz2 rfl (by decide) #[.int .u16 y.tote, .int .i64 y.zone] rfl (its_one [y]) (by unfold maxLen; omega) (by omega) 27
  obtain ⟨g, cap, w', h1, h2, h3, h4⟩ := this
  refine ⟨g, cap, w', h1, h2, h3, ?_⟩
  rw [show its (ls ++ [y]) = its ls ++ y.cs by simp [its]]
  exact h4
def RS.move (s : RS) (x z : Int) : RS := { s with l := s.l.filter (fun y => y.tote != x) ++ if s.there z = true then [⟨x, z⟩] else [] }
theorem move_snoc {l : List It} {k : Nat} {y : It} (hy : l[k]? = some y) (x : Int) : (l.take (k + 1)).filter (fun y => y.tote != x) = (l.take k).filter (fun y => y.tote != x) ++ if (y.tote != x) = true then [y] else [] := by
  rw [List.take_add_one, hy]
  simp only [Option.toList_some, List.filter_append]
  congr 1
  by_cases h : (y.tote != x) = true
  · rw [if_pos h]; simp only [List.filter_cons, h, if_true, List.filter_nil]
  · rw [if_neg h]; simp only [List.filter_cons, h, List.filter_nil]; rfl
set_option maxHeartbeats 1000000 in
theorem rMove_any (r : Nat) (s : RS) (x z : Int) (F : Nat → Prop) (w : World) (h : RRep w F r s) (hl : s.l.length ≤ 900) :
    Calls Try.prog 31 #[.pointer (some ⟨r, 0, none⟩), .int .u16 x, .int .i64 z] w fun e w' => e = .returned (.tuple #[]) ∧ Keep F w w' ∧ RRep w' (fresh F w w') r (s.move x z) := by
  have HR := Lib.hid h
  obtain ⟨hF, v, hb, ho⟩ := h
  obtain ⟨A, c, rfl, hc1, hc2⟩ := ho.len
  obtain ⟨c0, c1, c2, f0, f1, f2⟩ := blk3 hb
  have HO := Lib.hid ho.sees
  unfold maxLen at hc2
  have C2 := Lib.hid c2
  have HB := Lib.hid hb
  clear ho hb c0 c1 f0 f1 f2
  have hx0 := (Has.nil (Keep.refl none_ w)).new (P := OwnA w.heap.size 65 2 (.slice (some ⟨w.heap.size, 0, none⟩) 0 0) 0 (its ((s.l.take 0).filter (fun y => y.tote != x)))) ((Keep.refl none_ w).alloc (.cells #[] 65))
    (by
      show Own (w.alloc (.cells #[] 65)) (fresh none_ w (w.alloc (.cells #[] 65))) 65 2 (.slice (some ⟨w.heap.size, 0, none⟩) 0 0) 0 (its ((s.l.take 0).filter (fun y => y.tote != x)))
      rw [List.take_zero]
      exact ⟨⟨by simp [its], .inr ⟨w.heap.size, 0, #[], rfl, Nat.zero_le _, heap_alloc_new _ _, Nat.le_refl _, by simp, by simp, by simp [its]⟩⟩, fun g hg => by simp only [Value.ownBlock, Option.some.injEq] at hg; subst hg; exact .inr ⟨Nat.le_refl _, by simp⟩, by simp [its]⟩)
  simp only [List.nil_append] at hx0
  have HX := Lib.hid hx0
  clear hx0
  refine d_calls (n := 53) Try.func31 rfl rfl (by simp) [(0, .pointer (some ⟨r, 0, none⟩)), (1, .int .u16 x), (2, .int .i64 z)] (by simp) ?_
  repeat first
    | apply d_seq
    | with_reducible apply kt_normal
    | apply l_nil
    | apply d_region
    | (apply l_off; (focus rfl); (focus rfl))
    | (apply l_val; (focus rfl); (focus rfl); (focus rfl); (focus (go_simp; (try simp (disch := omega) only [wrap_in, wrap_in', wrap_u16, wrap_u8, wrap_u32, wrap_u64, rem_in, quo_in]); first | done | with_reducible rfl | (constructor <;> with_reducible rfl))))
    | (apply l_store; (focus rfl); (focus rfl); (focus rfl); (focus (go_simp; (try simp (disch := omega) only [wrap_in, wrap_in', wrap_u16, wrap_u8, wrap_u32, wrap_u64, rem_in, quo_in]); first | done | with_reducible rfl | (constructor <;> with_reducible rfl))))
    | ((fail_if_success (with_reducible apply d_block (id := 0))); apply d_block)
    | (apply d_true; (focus rfl); (focus rfl))
    | (apply d_false; (focus rfl); (focus rfl))
    | apply d_skip
    | apply d_exit
    | apply d_ret
    | with_reducible apply kt_ret
    | with_reducible apply kt_exit
    | with_reducible apply kb_normal
    | with_reducible apply kb_ret
    | with_reducible apply kb_here
    | with_reducible apply kl_ret
    | with_reducible apply kl_exit
    | with_reducible apply kc_ret
    | with_reducible apply kc_exit
    | (with_reducible apply kb_there; (focus rfl))
  clear c2
  refine d_join (fun D wr => ∃ (B : Option Addr) (d : Nat), D = [(0, .pointer (some ⟨r, 0, none⟩)), (1, .int .u16 x), (2, .int .i64 z), (6, .slice B (s.l.filter (fun y => y.tote != x)).length d)] ∧ Hid (Has w wr [OwnA w.heap.size 65 2 (.slice B (s.l.filter (fun y => y.tote != x)).length d) (s.l.filter (fun y => y.tote != x)).length (its (s.l.filter (fun y => y.tote != x)))])) ?_ (fun D wr hcut => ?_)
  · have c2 := C2.out
    repeat first
      | apply d_seq
      | with_reducible apply kt_normal
      | apply l_nil
      | apply d_region
      | (apply l_off; (focus rfl); (focus rfl))
      | (apply l_val; (focus rfl); (focus rfl); (focus rfl); (focus (go_simp; (try simp (disch := omega) only [wrap_in, wrap_in', wrap_u16, wrap_u8, wrap_u32, wrap_u64, rem_in, quo_in]); first | done | with_reducible rfl | (constructor <;> with_reducible rfl))))
      | (apply l_store; (focus rfl); (focus rfl); (focus rfl); (focus (go_simp; (try simp (disch := omega) only [wrap_in, wrap_in', wrap_u16, wrap_u8, wrap_u32, wrap_u64, rem_in, quo_in]); first | done | with_reducible rfl | (constructor <;> with_reducible rfl))))
      | apply d_block
      | (apply d_true; (focus rfl); (focus rfl))
      | (apply d_false; (focus rfl); (focus rfl))
      | apply d_skip
      | apply d_exit
      | apply d_ret
      | with_reducible apply kt_ret
      | with_reducible apply kt_exit
      | with_reducible apply kb_normal
      | with_reducible apply kb_ret
      | with_reducible apply kb_here
      | with_reducible apply kl_ret
      | with_reducible apply kl_exit
      | with_reducible apply kc_ret
      | with_reducible apply kc_exit
      | (with_reducible apply kb_there; (focus rfl))
    clear c2
    refine d_loop (fun m D wr => ∃ (k : Nat) (B : Option Addr) (d : Nat), m = s.l.length - k ∧ k ≤ s.l.length ∧ D = [(0, .pointer (some ⟨r, 0, none⟩)), (1, .int .u16 x), (2, .int .i64 z), (6, .slice B ((s.l.take k).filter (fun y => y.tote != x)).length d), (7, .int .i64 k)] ∧ Hid (Has w wr [OwnA w.heap.size 65 2 (.slice B ((s.l.take k).filter (fun y => y.tote != x)).length d) ((s.l.take k).filter (fun y => y.tote != x)).length (its ((s.l.take k).filter (fun y => y.tote != x)))])) (s.l.length) _ (Subl.cons (t := 0) (by decide) rfl (Subl.cons (t := 1) (by decide) rfl (Subl.cons (t := 2) (by decide) rfl (Subl.cons (t := 6) (by decide) rfl (Subl.cons (t := 7) (by decide) rfl (Subl.nil _ _)))))) ?_ (fun m D wr hrel => ?_)
    · exact ⟨0, some ⟨w.heap.size, 0, none⟩, 0, rfl, Nat.zero_le _, rfl, HX⟩
    · clear HX
      obtain ⟨k, B, d, rfl, hk, rfl, HX⟩ := hrel
      have c2 := HX.out.cell0 C2.out
      by_cases hlt : k < s.l.length
      · obtain ⟨y, hy⟩ : ∃ y, s.l[k]? = some y := ⟨_, List.getElem?_eq_getElem hlt⟩
        obtain ⟨g, o, c', e1, -, -, -, -, d0, d1⟩ := sees_it HO.out rfl hy
        simp only [Value.slice.injEq, true_and] at e1
        obtain ⟨rfl, rfl⟩ := e1
        have hsn := move_snoc hy x
        have hln : ((s.l.take k).filter (fun y => y.tote != x)).length ≤ 900 := Nat.le_trans (filt_len _ _ _) hl
        generalize (s.l.take k).filter (fun y => y.tote != x) = ra at *
        obtain ⟨b, hb⟩ : ∃ b, (y.tote != x) = b := ⟨_, rfl⟩
        rw [hb] at hsn
        have HY := Lib.hid hy
        have D0 := Lib.hid d0
        have D1 := Lib.hid d1
        clear hy d0 d1
        try clear d0
        have d0 := HX.out.cell0 D0.out
        try clear d1
        have d1 := HX.out.cell0 D1.out
        cases b
        · rw [if_neg (by simp), List.append_nil] at hsn
          have HSN := Lib.hid hsn
          clear hsn
          repeat first
            | apply d_seq
            | with_reducible apply kt_normal
            | apply l_nil
            | apply d_region
            | (apply l_off; (focus rfl); (focus rfl))
            | (apply l_val; (focus rfl); (focus rfl); (focus rfl); (focus (go_simp; (try simp (disch := omega) only [wrap_in, wrap_in', wrap_u16, wrap_u8, wrap_u32, wrap_u64, rem_in, quo_in]); first | done | with_reducible rfl | (constructor <;> with_reducible rfl))))
            | (apply l_store; (focus rfl); (focus rfl); (focus rfl); (focus (go_simp; (try simp (disch := omega) only [wrap_in, wrap_in', wrap_u16, wrap_u8, wrap_u32, wrap_u64, rem_in, quo_in]); first | done | with_reducible rfl | (constructor <;> with_reducible rfl))))
            | apply d_block
            | (apply d_true; (focus rfl); (focus rfl))
            | (apply d_false; (focus rfl); (focus rfl))
            | apply d_skip
            | apply d_exit
            | apply d_ret
            | with_reducible apply kt_ret
            | with_reducible apply kt_exit
            | with_reducible apply kb_normal
            | with_reducible apply kb_ret
            | with_reducible apply kb_here
            | with_reducible apply kl_ret
            | with_reducible apply kl_exit
            | with_reducible apply kc_ret
            | with_reducible apply kc_exit
            | (with_reducible apply kb_there; (focus rfl))
          refine kl_normal (s.l.length - (k + 1)) _ (by omega) (Subl.cons (t := 0) (by decide) rfl (Subl.cons (t := 1) (by decide) rfl (Subl.cons (t := 2) (by decide) rfl (Subl.cons (t := 6) (by decide) rfl (Subl.cons (t := 7) (by decide) rfl (Subl.nil _ _)))))) ?_
          refine ⟨k + 1, B, d, rfl, by omega, ?_, ?_⟩
          · rw [HSN.out]; rfl
          · rw [HSN.out]; exact HX
        · rw [if_pos rfl] at hsn
          obtain ⟨g2, cap, w2, hr, h1, h2, hx⟩ := push_it HX.out (k := 0) rfl (by omega) y
          simp only [List.set_cons_zero] at hx
          have HRUN := Lib.hid hr
          have HSN := Lib.hid hsn
          clear hsn
          clear hr
          repeat first
            | apply d_seq
            | with_reducible apply kt_normal
            | apply l_nil
            | apply d_region
            | (apply l_off; (focus rfl); (focus rfl))
            | (apply l_val; (focus rfl); (focus rfl); (focus rfl); (focus (go_simp; (try simp (disch := omega) only [wrap_in, wrap_in', wrap_u16, wrap_u8, wrap_u32, wrap_u64, rem_in, quo_in]); first | done | with_reducible rfl | (constructor <;> with_reducible rfl))))
            | (apply l_store; (focus rfl); (focus rfl); (focus rfl); (focus (go_simp; (try simp (disch := omega) only [wrap_in, wrap_in', wrap_u16, wrap_u8, wrap_u32, wrap_u64, rem_in, quo_in]); first | done | with_reducible rfl | (constructor <;> with_reducible rfl))))
            | apply d_block
            | (apply d_true; (focus rfl); (focus rfl))
            | (apply d_false; (focus rfl); (focus rfl))
            | apply d_skip
            | apply d_exit
            | apply d_ret
            | with_reducible apply kt_ret
            | with_reducible apply kt_exit
            | with_reducible apply kb_normal
            | with_reducible apply kb_ret
            | with_reducible apply kb_here
            | with_reducible apply kl_ret
            | with_reducible apply kl_exit
            | with_reducible apply kc_ret
            | with_reducible apply kc_exit
            | (with_reducible apply kb_there; (focus rfl))
          refine l_val rfl rfl rfl (exec_append (.tmp 29) (.tmp 37) 27 rfl _ _ rfl rfl HRUN.out) ?_
          clear HX c2 d0 d1
          have HX := Lib.hid hx
          clear hx
          repeat first
            | apply d_seq
            | with_reducible apply kt_normal
            | apply l_nil
            | apply d_region
            | (apply l_off; (focus rfl); (focus rfl))
            | (apply l_val; (focus rfl); (focus rfl); (focus rfl); (focus (go_simp; (try simp (disch := omega) only [wrap_in, wrap_in', wrap_u16, wrap_u8, wrap_u32, wrap_u64, rem_in, quo_in]); first | done | with_reducible rfl | (constructor <;> with_reducible rfl))))
            | (apply l_store; (focus rfl); (focus rfl); (focus rfl); (focus (go_simp; (try simp (disch := omega) only [wrap_in, wrap_in', wrap_u16, wrap_u8, wrap_u32, wrap_u64, rem_in, quo_in]); first | done | with_reducible rfl | (constructor <;> with_reducible rfl))))
            | apply d_block
            | (apply d_true; (focus rfl); (focus rfl))
            | (apply d_false; (focus rfl); (focus rfl))
            | apply d_skip
            | apply d_exit
            | apply d_ret
            | with_reducible apply kt_ret
            | with_reducible apply kt_exit
            | with_reducible apply kb_normal
            | with_reducible apply kb_ret
            | with_reducible apply kb_here
            | with_reducible apply kl_ret
            | with_reducible apply kl_exit
            | with_reducible apply kc_ret
            | with_reducible apply kc_exit
            | (with_reducible apply kb_there; (focus rfl))
          refine kl_normal (s.l.length - (k + 1)) _ (by omega) (Subl.cons (t := 0) (by decide) rfl (Subl.cons (t := 1) (by decide) rfl (Subl.cons (t := 2) (by decide) rfl (Subl.cons (t := 6) (by decide) rfl (Subl.cons (t := 7) (by decide) rfl (Subl.nil _ _)))))) ?_
          refine ⟨k + 1, some ⟨g2, 0, none⟩, cap, rfl, by omega, ?_, ?_⟩
          · rw [HSN.out, List.length_append, List.length_singleton]; rfl
          · rw [HSN.out, List.length_append, List.length_singleton]; exact HX
      · have hk' : k = s.l.length := by omega
        rw [hk', List.take_length] at HX ⊢
        repeat first
          | apply d_seq
          | with_reducible apply kt_normal
          | apply l_nil
          | apply d_region
          | (apply l_off; (focus rfl); (focus rfl))
          | (apply l_val; (focus rfl); (focus rfl); (focus rfl); (focus (go_simp; (try simp (disch := omega) only [wrap_in, wrap_in', wrap_u16, wrap_u8, wrap_u32, wrap_u64, rem_in, quo_in]); first | done | with_reducible rfl | (constructor <;> with_reducible rfl))))
          | (apply l_store; (focus rfl); (focus rfl); (focus rfl); (focus (go_simp; (try simp (disch := omega) only [wrap_in, wrap_in', wrap_u16, wrap_u8, wrap_u32, wrap_u64, rem_in, quo_in]); first | done | with_reducible rfl | (constructor <;> with_reducible rfl))))
          | apply d_block
          | (apply d_true; (focus rfl); (focus rfl))
          | (apply d_false; (focus rfl); (focus rfl))
          | apply d_skip
          | apply d_exit
          | apply d_ret
          | with_reducible apply kt_ret
          | with_reducible apply kt_exit
          | with_reducible apply kb_normal
          | with_reducible apply kb_ret
          | with_reducible apply kb_here
          | with_reducible apply kl_ret
          | with_reducible apply kl_exit
          | with_reducible apply kc_ret
          | with_reducible apply kc_exit
          | (with_reducible apply kb_there; (focus rfl))
        refine kc_normal _ (Subl.cons (t := 0) (by decide) rfl (Subl.cons (t := 1) (by decide) rfl (Subl.cons (t := 2) (by decide) rfl (Subl.cons (t := 6) (by decide) rfl (Subl.nil _ _))))) ?_
        exact ⟨B, d, rfl, HX⟩
  clear HX
  obtain ⟨B, d, rfl, HX⟩ := hcut
  have fin : ∀ (w2 : World) (A' : Option Addr) (c' : Nat) (l' : List It), Has w w2 [OwnA w.heap.size 65 2 (.slice A' l'.length c') l'.length (its l')] → Keep F w (w2.setCell ⟨r, 2, none⟩ (.slice A' l'.length c')) ∧ RRep (w2.setCell ⟨r, 2, none⟩ (.slice A' l'.length c')) (fresh F w (w2.setCell ⟨r, 2, none⟩ (.slice A' l'.length c'))) r { s with l := l' } := by
    intro w2 A' c' l' H2
    have hrl := lt_of_block HB.out
    obtain ⟨G, hz, hG⟩ := H2.get (i := 0) rfl
    have hown : Own w2 G 65 2 (.slice A' l'.length c') l'.length (its l') := hz
    have hb2 : w2.heap[r]? = some (.cells #[.int .i64 s.zs, .int .i64 s.rm, .slice A s.l.length c] 29 (0, 0)) := (H2.old.block r hrl (fun c => c)).trans HB.out
    refine ⟨(H2.old.none).setCell (.inr hF) _, .inl hF, _, heap_setCell_same _ _ _ _ _ _ hb2, ?_⟩
    refine Own.setCell (a := ⟨r, 2, none⟩) (hown.move (fun q hq hl => ⟨.inr ⟨(hG q hq).1, by simpa using (hG q hq).2⟩, rfl⟩)) (fun c => ?_) _
    have := (hG _ (hown.2.1 _ c)).1
    simp only at this
    omega
  have hln : (s.l.filter (fun y => y.tote != x)).length ≤ 900 := Nat.le_trans (List.length_filter_le _ _) hl
  have hth := there_any r s z F wr (HR.out.move (fun q hq hlt => ⟨hq, HX.out.old.block q hlt (fun c => c)⟩))
  have hmv : s.move x z = { s with l := s.l.filter (fun y => y.tote != x) ++ if s.there z = true then [⟨x, z⟩] else [] } := rfl
  generalize s.l.filter (fun y => y.tote != x) = ra at *
  obtain ⟨b, hb⟩ : ∃ b, s.there z = b := ⟨_, rfl⟩
  rw [hb] at hth hmv
  have HBB := Lib.hid hb
  clear hb
  have HTH := Lib.hid hth
  have FIN := Lib.hid fin
  have HMV := Lib.hid hmv
  clear hth fin hmv
  repeat first
    | apply d_seq
    | with_reducible apply kt_normal
    | apply l_nil
    | apply d_region
    | (apply l_off; (focus rfl); (focus rfl))
    | (apply l_val; (focus rfl); (focus rfl); (focus rfl); (focus (go_simp; (try simp (disch := omega) only [wrap_in, wrap_in', wrap_u16, wrap_u8, wrap_u32, wrap_u64, rem_in, quo_in]); first | done | with_reducible rfl | (constructor <;> with_reducible rfl))))
    | (apply l_store; (focus rfl); (focus rfl); (focus rfl); (focus (go_simp; (try simp (disch := omega) only [wrap_in, wrap_in', wrap_u16, wrap_u8, wrap_u32, wrap_u64, rem_in, quo_in]); first | done | with_reducible rfl | (constructor <;> with_reducible rfl))))
    | apply d_block
    | (apply d_true; (focus rfl); (focus rfl))
    | (apply d_false; (focus rfl); (focus rfl))
    | apply d_skip
    | apply d_exit
    | apply d_ret
    | with_reducible apply kt_ret
    | with_reducible apply kt_exit
    | with_reducible apply kb_normal
    | with_reducible apply kb_ret
    | with_reducible apply kb_here
    | with_reducible apply kl_ret
    | with_reducible apply kl_exit
    | with_reducible apply kc_ret
    | with_reducible apply kc_exit
    | (with_reducible apply kb_there; (focus rfl))
  refine l_call rfl rfl rfl (by first | (go_simp; done) | (go_simp; rfl)) (HTH.out) ?_
  rintro e w' ⟨rfl, rfl⟩
  refine ⟨_, rfl, ?_⟩
  cases b
  · have hb2 := (HX.out.old.block r (lt_of_block HB.out) (fun c => c)).trans HB.out
    obtain ⟨c0, c1, c2, f0, f1, f2⟩ := blk3 hb2
    clear hb2 c0 c1 f0 f1
    repeat first
      | apply d_seq
      | with_reducible apply kt_normal
      | apply l_nil
      | apply d_region
      | (apply l_off; (focus rfl); (focus rfl))
      | (apply l_val; (focus rfl); (focus rfl); (focus rfl); (focus (go_simp; (try simp (disch := omega) only [wrap_in, wrap_in', wrap_u16, wrap_u8, wrap_u32, wrap_u64, rem_in, quo_in]); first | done | with_reducible rfl | (constructor <;> with_reducible rfl))))
      | (apply l_store; (focus rfl); (focus rfl); (focus rfl); (focus (go_simp; (try simp (disch := omega) only [wrap_in, wrap_in', wrap_u16, wrap_u8, wrap_u32, wrap_u64, rem_in, quo_in]); first | done | with_reducible rfl | (constructor <;> with_reducible rfl))))
      | apply d_block
      | (apply d_true; (focus rfl); (focus rfl))
      | (apply d_false; (focus rfl); (focus rfl))
      | apply d_skip
      | apply d_exit
      | apply d_ret
      | with_reducible apply kt_ret
      | with_reducible apply kt_exit
      | with_reducible apply kb_normal
      | with_reducible apply kb_ret
      | with_reducible apply kb_here
      | with_reducible apply kl_ret
      | with_reducible apply kl_exit
      | with_reducible apply kc_ret
      | with_reducible apply kc_exit
      | (with_reducible apply kb_there; (focus rfl))
    refine ⟨rfl, _, (by first | (simp [resultsG, resOne, Try.results31, rho, List.lookup]; done) | (simp [resultsG, resOne, Try.results31, rho, List.lookup]; rfl)), ?_⟩
    rw [HMV.out, if_neg (by simp), List.append_nil]
    exact ⟨rfl, FIN.out _ _ _ _ HX.out⟩
  · obtain ⟨g2, cap, w2, hr, h1, h2, hx⟩ := push_it HX.out (k := 0) rfl (by omega) ⟨x, z⟩
    simp only [List.set_cons_zero] at hx
    have hb2 := (hx.old.block r (lt_of_block HB.out) (fun c => c)).trans HB.out
    obtain ⟨c0, c1, c2, f0, f1, f2⟩ := blk3 hb2
    clear hb2 c0 c1 f0 f1
    have HRUN := Lib.hid hr
    have HX2 := Lib.hid hx
    clear hr hx
    repeat first
      | apply d_seq
      | with_reducible apply kt_normal
      | apply l_nil
      | apply d_region
      | (apply l_off; (focus rfl); (focus rfl))
      | (apply l_val; (focus rfl); (focus rfl); (focus rfl); (focus (go_simp; (try simp (disch := omega) only [wrap_in, wrap_in', wrap_u16, wrap_u8, wrap_u32, wrap_u64, rem_in, quo_in]); first | done | with_reducible rfl | (constructor <;> with_reducible rfl))))
      | (apply l_store; (focus rfl); (focus rfl); (focus rfl); (focus (go_simp; (try simp (disch := omega) only [wrap_in, wrap_in', wrap_u16, wrap_u8, wrap_u32, wrap_u64, rem_in, quo_in]); first | done | with_reducible rfl | (constructor <;> with_reducible rfl))))
      | apply d_block
      | (apply d_true; (focus rfl); (focus rfl))
      | (apply d_false; (focus rfl); (focus rfl))
      | apply d_skip
      | apply d_exit
      | apply d_ret
      | with_reducible apply kt_ret
      | with_reducible apply kt_exit
      | with_reducible apply kb_normal
      | with_reducible apply kb_ret
      | with_reducible apply kb_here
      | with_reducible apply kl_ret
      | with_reducible apply kl_exit
      | with_reducible apply kc_ret
      | with_reducible apply kc_exit
      | (with_reducible apply kb_there; (focus rfl))
    refine l_val rfl rfl rfl (exec_append (.tmp 43) (.tmp 47) 27 rfl _ _ rfl rfl HRUN.out) ?_
    repeat first
      | apply d_seq
      | with_reducible apply kt_normal
      | apply l_nil
      | apply d_region
      | (apply l_off; (focus rfl); (focus rfl))
      | (apply l_val; (focus rfl); (focus rfl); (focus rfl); (focus (go_simp; (try simp (disch := omega) only [wrap_in, wrap_in', wrap_u16, wrap_u8, wrap_u32, wrap_u64, rem_in, quo_in]); first | done | with_reducible rfl | (constructor <;> with_reducible rfl))))
      | (apply l_store; (focus rfl); (focus rfl); (focus rfl); (focus (go_simp; (try simp (disch := omega) only [wrap_in, wrap_in', wrap_u16, wrap_u8, wrap_u32, wrap_u64, rem_in, quo_in]); first | done | with_reducible rfl | (constructor <;> with_reducible rfl))))
      | apply d_block
      | (apply d_true; (focus rfl); (focus rfl))
      | (apply d_false; (focus rfl); (focus rfl))
      | apply d_skip
      | apply d_exit
      | apply d_ret
      | with_reducible apply kt_ret
      | with_reducible apply kt_exit
      | with_reducible apply kb_normal
      | with_reducible apply kb_ret
      | with_reducible apply kb_here
      | with_reducible apply kl_ret
      | with_reducible apply kl_exit
      | with_reducible apply kc_ret
      | with_reducible apply kc_exit
      | (with_reducible apply kb_there; (focus rfl))
    refine ⟨rfl, _, (by first | (simp [resultsG, resOne, Try.results31, rho, List.lookup]; done) | (simp [resultsG, resOne, Try.results31, rho, List.lookup]; rfl)), ?_⟩
    rw [HMV.out, if_pos rfl]
    have := FIN.out w2 (some ⟨g2, 0, none⟩) cap (ra ++ [⟨x, z⟩]) (by rw [List.length_append, List.length_singleton]; exact HX2.out)
    rw [List.length_append, List.length_singleton] at this
    exact ⟨rfl, this⟩
end Go.Proofs.Ytilmodbiimjllaa
