import Derived.Test.YtilmodbiimjllaaTotArgs
import Derived.Test.YtilmodbiimjllaaMasks
namespace Go.Proofs.Ytilmodbiimjllaa
set_option linter.unusedVariables false
set_option linter.unusedSimpArgs false
attribute [local go_sem] rho_const rho_func rho_hit rho_miss
open Go.RowKit

def TS.init (r : Int) (n : Nat) : TS := ⟨r, List.replicate n []⟩
theorem new_rep {w w' : World} {tb zb n : Nat} {r : Int} (hr1 : 1 ≤ r) (hr2 : r ≤ 64) (h1 : 1 ≤ n) (h8 : n ≤ 8) (ht : w.heap.size ≤ tb) (hz : w.heap.size ≤ zb) (htb : w'.heap[tb]? = some (.cells #[.slice (some ⟨zb, 0, none⟩) n n] 54 (0, 0))) (hzb : w'.heap[zb]? = some (.cells (qrow (.slice none 0 0) r n).toArray 50 (0, 0))) :
    TRep w' (fresh none_ w w') tb zb (TS.init r n) := by
  refine ⟨List.replicate n (.slice none 0 0), ⟨hr1, hr2, by simpa [TS.init] using h1, by simpa [TS.init] using h8, ?_⟩, .inr ⟨ht, lt_of_block htb⟩, .inr ⟨hz, lt_of_block hzb⟩, by simpa [TS.init] using htb, by rw [← qrow_cells]; exact hzb, by simp [TS.init], ?_, ?_⟩
  · intro q hq
    simp only [TS.init, List.mem_replicate] at hq
    rw [hq.2]; show (0 : Int) ≤ r; omega
  · intro i v q hv hq
    simp only [TS.init] at hq
    have h1 := List.mem_of_getElem? hv
    have h2 := List.mem_of_getElem? hq
    simp only [List.mem_replicate] at h1 h2
    rw [h1.2, h2.2]
    exact Own.nil _ _ _ _
  · intro i j v v' g hi hj hg
    have h1 := List.mem_of_getElem? hi
    simp only [List.mem_replicate] at h1
    rw [h1.2] at hg
    simp [Value.ownBlock] at hg
section
variable {w0 w : World} {L : List (Asrt w0.heap.size)}
theorem new_has (H : Has w0 w L) (zn rm : Int) (n : Nat) (r : Int) (hn : mn (mx zn 1) 8 = n) (hr : mn (mx rm 1) 64 = r) : Calls Try.prog 11 #[.int .i64 zn, .int .i64 rm] w fun e w' => ∃ t zb, e = .returned (.pointer (some ⟨t, 0, none⟩)) ∧ Has w0 w' (L ++ [TotA w0.heap.size t zb (TS.init r n)]) := by
  have h1 : 1 ≤ n ∧ n ≤ 8 := by unfold mn mx at hn; split at hn <;> split at hn <;> omega
  have h2 : 1 ≤ r ∧ r ≤ 64 := by unfold mn mx at hr; split at hr <;> split at hr <;> omega
  refine (new_any' zn rm n r hn hr h1.1 h1.2 w).mono ?_
  rintro e w' ⟨t, zb, rfl, hk, ht, hz, htb, hzb⟩
  exact ⟨t, zb, rfl, H.new hk (new_rep h2.1 h2.2 h1.1 h1.2 ht hz htb hzb)⟩
theorem put_has (H : Has w0 w L) (i t zb : Nat) (s : TS) (hi : L[i]? = some (TotA w0.heap.size t zb s)) (x z : Int) :
    Calls Try.prog 12 #[.pointer (some ⟨t, 0, none⟩), .int .u16 x, .int .i64 z] w fun e w' => e = .returned (.int .i64 (s.put x z).2) ∧ Has w0 w' (L.set i (TotA w0.heap.size t zb (s.put x z).1)) := by
  obtain ⟨F, hz, hF, hback⟩ := H.call hi
  refine (put_any t zb s x z F w hz).mono ?_
  rintro e w' ⟨rfl, hk, hz'⟩
  exact ⟨rfl, hback w' _ hk hz'⟩
theorem pass_has (H : Has w0 w L) (i t zb : Nat) (s : TS) (hi : L[i]? = some (TotA w0.heap.size t zb s)) (z : Int) :
    Calls Try.prog 14 #[.pointer (some ⟨t, 0, none⟩), .int .i64 z] w fun e w' => e = .returned (.tuple #[.int .u16 (s.pass z).2.1, .int .i64 (s.pass z).2.2]) ∧ Has w0 w' (L.set i (TotA w0.heap.size t zb (s.pass z).1)) := by
  obtain ⟨F, hz, hF, hback⟩ := H.call hi
  refine (pass_any t zb s z F w hz).mono ?_
  rintro e w' ⟨rfl, hk, hz'⟩
  exact ⟨rfl, hback w' _ hk hz'⟩
theorem skip_has (H : Has w0 w L) (i t zb : Nat) (s : TS) (hi : L[i]? = some (TotA w0.heap.size t zb s)) (z : Int) :
    Calls Try.prog 16 #[.pointer (some ⟨t, 0, none⟩), .int .i64 z] w fun e w' => e = .returned (.int .i64 (s.skip z).2) ∧ Has w0 w' (L.set i (TotA w0.heap.size t zb (s.skip z).1)) := by
  obtain ⟨F, hz, hF, hback⟩ := H.call hi
  refine (skip_any t zb s z F w hz).mono ?_
  rintro e w' ⟨rfl, hk, hz'⟩
  exact ⟨rfl, hback w' _ hk hz'⟩
theorem front_has (H : Has w0 w L) (i t zb : Nat) (s : TS) (hi : L[i]? = some (TotA w0.heap.size t zb s)) (z : Int) :
    Calls Try.prog 20 #[.pointer (some ⟨t, 0, none⟩), .int .i64 z] w fun e w' => e = .returned (s.frontV z) ∧ Has w0 w' L := by
  obtain ⟨F, hz, hF⟩ := H.get hi
  refine (front_any t zb s z F w hz).mono ?_
  rintro e w' ⟨rfl, rfl⟩
  exact ⟨rfl, H⟩
theorem where_has (H : Has w0 w L) (i t zb : Nat) (s : TS) (hi : L[i]? = some (TotA w0.heap.size t zb s)) (x : Int) :
    Calls Try.prog 21 #[.pointer (some ⟨t, 0, none⟩), .int .u16 x] w fun e w' => e = .returned (s.whereV x) ∧ Has w0 w' L := by
  obtain ⟨F, hz, hF⟩ := H.get hi
  refine (where_any t zb s x F w hz).mono ?_
  rintro e w' ⟨rfl, hk⟩
  exact ⟨rfl, H.keep hk⟩
theorem len_has (H : Has w0 w L) (i t zb : Nat) (s : TS) (hi : L[i]? = some (TotA w0.heap.size t zb s)) (z : Int) :
    Calls Try.prog 24 #[.pointer (some ⟨t, 0, none⟩), .int .i64 z] w fun e w' => e = .returned (.int .i64 (s.rowZ z).length) ∧ Has w0 w' L := by
  obtain ⟨F, hz, hF⟩ := H.get hi
  refine (len_any t zb s z F w hz).mono ?_
  rintro e w' ⟨rfl, hk⟩
  exact ⟨rfl, H.keep hk⟩
theorem row_has (H : Has w0 w L) (i t zb : Nat) (s : TS) (hi : L[i]? = some (TotA w0.heap.size t zb s)) (z : Int) :
    Calls Try.prog 18 #[.pointer (some ⟨t, 0, none⟩), .int .i64 z] w fun e w' => ∃ A c, e = .returned (.slice A (s.rowZ z).length c) ∧ (s.rowZ z).length ≤ c ∧ c ≤ 9223372036854775807 ∧ Has w0 w' (L ++ [OwnA w0.heap.size 30 1 (.slice A (s.rowZ z).length c) (s.rowZ z).length (ints .u16 (s.rowZ z))]) := by
  obtain ⟨F, hz, hF⟩ := H.get hi
  refine (row_any t zb s z F w hz).mono ?_
  rintro e w' ⟨v', rfl, hk, ho⟩
  obtain ⟨A, c, rfl, h1, h2⟩ := ho.len
  exact ⟨A, c, rfl, h1, by unfold maxLen at h2; omega, H.new hk ho⟩
theorem Has.tgood (H : Has w0 w L) {i t zb : Nat} {s : TS} (hi : L[i]? = some (TotA w0.heap.size t zb s)) : s.good := by
  obtain ⟨F, hz, hF⟩ := H.get hi
  exact TRep.good (show TRep w F t zb s from hz)
/-- A number of a row that is ours. -/
theorem Has.num (H : Has w0 w L) {i n : Nat} {e : TypeId} {v : Value} {l : List Int} (hi : L[i]? = some (OwnA w0.heap.size e 1 v n (ints .u16 l))) (hn : n = l.length) {k : Nat} {y : Int} (hy : l[k]? = some y) :
    ∃ g o c, v = .slice (some ⟨g, o, none⟩) n c ∧ n ≤ c ∧ c ≤ 9223372036854775807 ∧ g < w.heap.size ∧ w.cell? ⟨g, o + k, none⟩ = some (.int .u16 y) := by
  obtain ⟨F, hz, hF⟩ := H.get hi
  obtain ⟨A, c, rfl, h1, h2, h2', h3, h3', h4⟩ := (show Own w F e 1 v n (ints .u16 l) from hz).sees
  have hk := (List.getElem?_eq_some_iff.1 hy).1
  obtain ⟨g, o, rfl, hFg, hg, hc⟩ := h4 (by omega)
  exact ⟨g, o, c, rfl, h1, by unfold maxLen at h2; omega, hg, hc k _ (by simp [ints, hy])⟩
end
/-- Are two rows the same? -/
theorem same_any (a b : Value) (l b' : List Int) (F G : Nat → Prop) (w : World) (ha : SeesIn w F 1 a l.length (ints .u16 l)) (hb : SeesIn w G 1 b b'.length (ints .u16 b')) :
    Calls Try.prog 23 #[a, b] w fun e w' => e = .returned (.bool (l == b')) ∧ Keep none_ w w' := by
  obtain ⟨A, c, rfl, a1, a2, a2', a3, a3', a4⟩ := ha
  obtain ⟨B, d, rfl, b1, b2, b2', b3, b3', b4⟩ := hb
  unfold maxLen at a2 b2
  by_cases hl : l.length = b'.length
  · have q1 : (((l.length : Nat) : Int) == (b'.length : Int)) = true := by simp [hl]
    have q2 : (((l.length : Nat) : Int) != (b'.length : Int)) = false := by simp [hl]
    have HA := Lib.hid a4
    have HB := Lib.hid b4
    have HL := Lib.hid hl
    clear a3 a3' b3 b3' a4 b4 a2' b2' hl
    refine d_calls (n := 26) Try.func23 rfl rfl (by simp) [(0, .slice A l.length c), (1, .slice B b'.length d)] (by simp) ?_
    repeat first
      | apply d_seq
      | with_reducible apply kt_normal
      | apply l_nil
      | apply d_region
      | (apply l_off; (focus rfl); (focus rfl))
      | (apply l_val; (focus rfl); (focus rfl); (focus rfl); (focus (go_simp; (try simp (disch := omega) only [wrap_in, wrap_in', wrap_u16, wrap_u8, wrap_u32, wrap_u64, rem_in, quo_in]); first | done | with_reducible rfl | (constructor <;> with_reducible rfl))))
      | (apply l_store; (focus rfl); (focus rfl); (focus rfl); (focus (go_simp; (try simp (disch := omega) only [wrap_in, wrap_in', wrap_u16, wrap_u8, wrap_u32, wrap_u64, rem_in, quo_in]); first | done | with_reducible rfl | (constructor <;> with_reducible rfl))))
      | apply d_block
      | (apply d_true; (focus rfl); (focus rfl))
      | (apply d_false; (focus rfl); (focus rfl))
      | apply d_skip
      | apply d_exit
      | apply d_ret
      | with_reducible apply kt_ret
      | with_reducible apply kt_exit
      | with_reducible apply kb_normal
      | with_reducible apply kb_ret
      | with_reducible apply kb_here
      | with_reducible apply kl_ret
      | with_reducible apply kl_exit
      | with_reducible apply kc_ret
      | with_reducible apply kc_exit
      | (with_reducible apply kb_there; (focus rfl))
    refine d_loop (fun m D wr => ∃ k : Nat, m = l.length - k ∧ k ≤ l.length ∧ D = [(0, .slice A l.length c), (1, .slice B b'.length d), (5, .int .i64 k)] ∧ Hid (Keep none_ w wr ∧ l.take k = b'.take k)) (l.length) _ (Subl.cons (t := 0) (by decide) rfl (Subl.cons (t := 1) (by decide) rfl (Subl.cons (t := 5) (by decide) rfl (Subl.nil _ _)))) ?_ (fun m D wr hrel => ?_)
    · exact ⟨0, rfl, Nat.zero_le _, rfl, Lib.hid ⟨Keep.refl _ _, by simp⟩⟩
    · obtain ⟨k, rfl, hk, rfl, HK⟩ := hrel
      by_cases hlt : k < l.length
      · have hlm : k < b'.length := by rw [← HL.out]; exact hlt
        obtain ⟨x, hx⟩ : ∃ x, l[k]? = some x := ⟨_, List.getElem?_eq_getElem hlt⟩
        obtain ⟨y, hy⟩ : ∃ y, b'[k]? = some y := ⟨_, List.getElem?_eq_getElem hlm⟩
        obtain ⟨g, o, rfl, -, -, hc⟩ := HA.out (by omega)
        obtain ⟨g2, o2, rfl, -, -, hc2⟩ := HB.out (by omega)
        have d0 := hc k (.int .u16 x) (by simp [ints, hx])
        have d1 := hc2 k (.int .u16 y) (by simp [ints, hy])
        have e0 := (HK.out.1.cell (p := ⟨g, o + k, none⟩) (World.block_lt_of_cell? w _ d0) (fun c => c)).trans d0
        have e1 := (HK.out.1.cell (p := ⟨g2, o2 + k, none⟩) (World.block_lt_of_cell? w _ d1) (fun c => c)).trans d1
        by_cases he : x = y
        · subst he
          have HX := Lib.hid hx
          have HY := Lib.hid hy
          clear hx hy
          clear hc hc2 d0 d1
          repeat first
            | apply d_seq
            | with_reducible apply kt_normal
            | apply l_nil
            | apply d_region
            | (apply l_off; (focus rfl); (focus rfl))
            | (apply l_val; (focus rfl); (focus rfl); (focus rfl); (focus (go_simp; (try simp (disch := omega) only [wrap_in, wrap_in', wrap_u16, wrap_u8, wrap_u32, wrap_u64, rem_in, quo_in]); first | done | with_reducible rfl | (constructor <;> with_reducible rfl))))
            | (apply l_store; (focus rfl); (focus rfl); (focus rfl); (focus (go_simp; (try simp (disch := omega) only [wrap_in, wrap_in', wrap_u16, wrap_u8, wrap_u32, wrap_u64, rem_in, quo_in]); first | done | with_reducible rfl | (constructor <;> with_reducible rfl))))
            | apply d_block
            | (apply d_true; (focus rfl); (focus rfl))
            | (apply d_false; (focus rfl); (focus rfl))
            | apply d_skip
            | apply d_exit
            | apply d_ret
            | with_reducible apply kt_ret
            | with_reducible apply kt_exit
            | with_reducible apply kb_normal
            | with_reducible apply kb_ret
            | with_reducible apply kb_here
            | with_reducible apply kl_ret
            | with_reducible apply kl_exit
            | with_reducible apply kc_ret
            | with_reducible apply kc_exit
            | (with_reducible apply kb_there; (focus rfl))
          refine d_draw (true, [([], []), ([], []), ([0, 1], [0, 1]), ([2], [2]), ([], []), ([], []), ([4, 5], [4, 5]), ([6], [6]), ([3, 7], [3, 7])]) [(0, 0), (0, 1), (0, 2), (0, 3), (0, 4), (0, 5), (0, 6), (0, 7), (0, 8)] [999999] (fun W => W.cell? ⟨g, o + k, none⟩ = some (.int .u16 x) ∧ W.cell? ⟨g2, o2 + k, none⟩ = some (.int .u16 x)) (by kernel_rfl) (by kernel_rfl) (by kernel_rfl) (by kernel_rfl) ⟨e0, e1⟩ ?_
          iterate 9
            first | (apply s_off; (focus rfl); (focus rfl); (focus rfl)) | (apply s_yield; (focus rfl); (focus rfl); (focus rfl); (focus rfl); (focus (intro W hS; obtain ⟨hS1, hS2⟩ := hS; go_simp; (try simp (disch := omega) only [wrap_in, wrap_in', wrap_u16, wrap_u8, wrap_u32, wrap_u64, rem_in, quo_in]); first | done | with_reducible rfl | (constructor <;> with_reducible rfl))))
          refine s_done ?_
          repeat first
            | apply d_seq
            | with_reducible apply kt_normal
            | apply l_nil
            | apply d_region
            | (apply l_off; (focus rfl); (focus rfl))
            | (apply l_val; (focus rfl); (focus rfl); (focus rfl); (focus (go_simp; (try simp (disch := omega) only [wrap_in, wrap_in', wrap_u16, wrap_u8, wrap_u32, wrap_u64, rem_in, quo_in]); first | done | with_reducible rfl | (constructor <;> with_reducible rfl))))
            | (apply l_store; (focus rfl); (focus rfl); (focus rfl); (focus (go_simp; (try simp (disch := omega) only [wrap_in, wrap_in', wrap_u16, wrap_u8, wrap_u32, wrap_u64, rem_in, quo_in]); first | done | with_reducible rfl | (constructor <;> with_reducible rfl))))
            | apply d_block
            | (apply d_true; (focus rfl); (focus rfl))
            | (apply d_false; (focus rfl); (focus rfl))
            | apply d_skip
            | apply d_exit
            | apply d_ret
            | with_reducible apply kt_ret
            | with_reducible apply kt_exit
            | with_reducible apply kb_normal
            | with_reducible apply kb_ret
            | with_reducible apply kb_here
            | with_reducible apply kl_ret
            | with_reducible apply kl_exit
            | with_reducible apply kc_ret
            | with_reducible apply kc_exit
            | (with_reducible apply kb_there; (focus rfl))
          refine kl_normal (l.length - (k + 1)) _ (by omega) (Subl.cons (t := 0) (by decide) rfl (Subl.cons (t := 1) (by decide) rfl (Subl.cons (t := 5) (by decide) rfl (Subl.nil _ _)))) ?_
          exact ⟨k + 1, rfl, by omega, rfl, Lib.hid ⟨HK.out.1.drew, by rw [List.take_add_one, List.take_add_one, HK.out.2, HX.out, HY.out]⟩⟩
        · have q3 : (x != y) = true := by simpa using he
          have q4 : (x == y) = false := by simpa using he
          have HX := Lib.hid hx
          have HY := Lib.hid hy
          have HE := Lib.hid he
          clear hx hy he
          clear hc hc2 d0 d1
          repeat first
            | apply d_seq
            | with_reducible apply kt_normal
            | apply l_nil
            | apply d_region
            | (apply l_off; (focus rfl); (focus rfl))
            | (apply l_val; (focus rfl); (focus rfl); (focus rfl); (focus (go_simp; (try simp (disch := omega) only [wrap_in, wrap_in', wrap_u16, wrap_u8, wrap_u32, wrap_u64, rem_in, quo_in]); first | done | with_reducible rfl | (constructor <;> with_reducible rfl))))
            | (apply l_store; (focus rfl); (focus rfl); (focus rfl); (focus (go_simp; (try simp (disch := omega) only [wrap_in, wrap_in', wrap_u16, wrap_u8, wrap_u32, wrap_u64, rem_in, quo_in]); first | done | with_reducible rfl | (constructor <;> with_reducible rfl))))
            | apply d_block
            | (apply d_true; (focus rfl); (focus rfl))
            | (apply d_false; (focus rfl); (focus rfl))
            | apply d_skip
            | apply d_exit
            | apply d_ret
            | with_reducible apply kt_ret
            | with_reducible apply kt_exit
            | with_reducible apply kb_normal
            | with_reducible apply kb_ret
            | with_reducible apply kb_here
            | with_reducible apply kl_ret
            | with_reducible apply kl_exit
            | with_reducible apply kc_ret
            | with_reducible apply kc_exit
            | (with_reducible apply kb_there; (focus rfl))
          refine d_draw (true, [([], []), ([], []), ([0, 1], [0, 1]), ([2], [2]), ([], []), ([], []), ([4, 5], [4, 5]), ([6], [6]), ([3, 7], [3, 7])]) [(0, 0), (0, 1), (0, 2), (0, 3), (0, 4), (0, 5), (0, 6), (0, 7), (0, 8)] [999999] (fun W => W.cell? ⟨g, o + k, none⟩ = some (.int .u16 x) ∧ W.cell? ⟨g2, o2 + k, none⟩ = some (.int .u16 y)) (by kernel_rfl) (by kernel_rfl) (by kernel_rfl) (by kernel_rfl) ⟨e0, e1⟩ ?_
          iterate 9
            first | (apply s_off; (focus rfl); (focus rfl); (focus rfl)) | (apply s_yield; (focus rfl); (focus rfl); (focus rfl); (focus rfl); (focus (intro W hS; obtain ⟨hS1, hS2⟩ := hS; go_simp; (try simp (disch := omega) only [wrap_in, wrap_in', wrap_u16, wrap_u8, wrap_u32, wrap_u64, rem_in, quo_in]); first | done | with_reducible rfl | (constructor <;> with_reducible rfl))))
          refine s_done ?_
          repeat first
            | apply d_seq
            | with_reducible apply kt_normal
            | apply l_nil
            | apply d_region
            | (apply l_off; (focus rfl); (focus rfl))
            | (apply l_val; (focus rfl); (focus rfl); (focus rfl); (focus (go_simp; (try simp (disch := omega) only [wrap_in, wrap_in', wrap_u16, wrap_u8, wrap_u32, wrap_u64, rem_in, quo_in]); first | done | with_reducible rfl | (constructor <;> with_reducible rfl))))
            | (apply l_store; (focus rfl); (focus rfl); (focus rfl); (focus (go_simp; (try simp (disch := omega) only [wrap_in, wrap_in', wrap_u16, wrap_u8, wrap_u32, wrap_u64, rem_in, quo_in]); first | done | with_reducible rfl | (constructor <;> with_reducible rfl))))
            | apply d_block
            | (apply d_true; (focus rfl); (focus rfl))
            | (apply d_false; (focus rfl); (focus rfl))
            | apply d_skip
            | apply d_exit
            | apply d_ret
            | with_reducible apply kt_ret
            | with_reducible apply kt_exit
            | with_reducible apply kb_normal
            | with_reducible apply kb_ret
            | with_reducible apply kb_here
            | with_reducible apply kl_ret
            | with_reducible apply kl_exit
            | with_reducible apply kc_ret
            | with_reducible apply kc_exit
            | (with_reducible apply kb_there; (focus rfl))
          refine ⟨rfl, _, (by first | (simp [resultsG, resOne, Try.results23, rho, List.lookup]; done) | (simp [resultsG, resOne, Try.results23, rho, List.lookup]; rfl)), ?_⟩
          refine ⟨?_, HK.out.1.drew⟩
          have : (l == b') = false := by
            rw [beq_eq_false_iff_ne]
            intro c
            have h1 := HX.out
            rw [c, HY.out] at h1
            exact HE.out (Option.some.inj h1).symm
          rw [this]
      · have hk' : k = l.length := by omega
        repeat first
          | apply d_seq
          | with_reducible apply kt_normal
          | apply l_nil
          | apply d_region
          | (apply l_off; (focus rfl); (focus rfl))
          | (apply l_val; (focus rfl); (focus rfl); (focus rfl); (focus (go_simp; (try simp (disch := omega) only [wrap_in, wrap_in', wrap_u16, wrap_u8, wrap_u32, wrap_u64, rem_in, quo_in]); first | done | with_reducible rfl | (constructor <;> with_reducible rfl))))
          | (apply l_store; (focus rfl); (focus rfl); (focus rfl); (focus (go_simp; (try simp (disch := omega) only [wrap_in, wrap_in', wrap_u16, wrap_u8, wrap_u32, wrap_u64, rem_in, quo_in]); first | done | with_reducible rfl | (constructor <;> with_reducible rfl))))
          | apply d_block
          | (apply d_true; (focus rfl); (focus rfl))
          | (apply d_false; (focus rfl); (focus rfl))
          | apply d_skip
          | apply d_exit
          | apply d_ret
          | with_reducible apply kt_ret
          | with_reducible apply kt_exit
          | with_reducible apply kb_normal
          | with_reducible apply kb_ret
          | with_reducible apply kb_here
          | with_reducible apply kl_ret
          | with_reducible apply kl_exit
          | with_reducible apply kc_ret
          | with_reducible apply kc_exit
          | (with_reducible apply kb_there; (focus rfl))
        refine ⟨rfl, _, (by first | (simp [resultsG, resOne, Try.results23, rho, List.lookup]; done) | (simp [resultsG, resOne, Try.results23, rho, List.lookup]; rfl)), ?_⟩
        have h1 := HK.out.2
        have h2 := HL.out
        rw [hk', List.take_length, h2, List.take_length] at h1
        rw [h1]
        exact ⟨by simp, HK.out.1⟩
  · have q1 : (((l.length : Nat) : Int) == (b'.length : Int)) = false := by simp; omega
    have q2 : (((l.length : Nat) : Int) != (b'.length : Int)) = true := by simp; omega
    have HL := Lib.hid hl
    clear a3 a3' b3 b3' a4 b4 a2' b2' hl
    refine d_calls (n := 26) Try.func23 rfl rfl (by simp) [(0, .slice A l.length c), (1, .slice B b'.length d)] (by simp) ?_
    repeat first
      | apply d_seq
      | with_reducible apply kt_normal
      | apply l_nil
      | apply d_region
      | (apply l_off; (focus rfl); (focus rfl))
      | (apply l_val; (focus rfl); (focus rfl); (focus rfl); (focus (go_simp; (try simp (disch := omega) only [wrap_in, wrap_in', wrap_u16, wrap_u8, wrap_u32, wrap_u64, rem_in, quo_in]); first | done | with_reducible rfl | (constructor <;> with_reducible rfl))))
      | (apply l_store; (focus rfl); (focus rfl); (focus rfl); (focus (go_simp; (try simp (disch := omega) only [wrap_in, wrap_in', wrap_u16, wrap_u8, wrap_u32, wrap_u64, rem_in, quo_in]); first | done | with_reducible rfl | (constructor <;> with_reducible rfl))))
      | apply d_block
      | (apply d_true; (focus rfl); (focus rfl))
      | (apply d_false; (focus rfl); (focus rfl))
      | apply d_skip
      | apply d_exit
      | apply d_ret
      | with_reducible apply kt_ret
      | with_reducible apply kt_exit
      | with_reducible apply kb_normal
      | with_reducible apply kb_ret
      | with_reducible apply kb_here
      | with_reducible apply kl_ret
      | with_reducible apply kl_exit
      | with_reducible apply kc_ret
      | with_reducible apply kc_exit
      | (with_reducible apply kb_there; (focus rfl))
    refine ⟨rfl, _, (by first | (simp [resultsG, resOne, Try.results23, rho, List.lookup]; done) | (simp [resultsG, resOne, Try.results23, rho, List.lookup]; rfl)), ?_⟩
    have : (l == b') = false := by
      rw [beq_eq_false_iff_ne]
      rintro rfl
      exact HL.out rfl
    exact ⟨by rw [this], Keep.refl _ _⟩
end Go.Proofs.Ytilmodbiimjllaa
