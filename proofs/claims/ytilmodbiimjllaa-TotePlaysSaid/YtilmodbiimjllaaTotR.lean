import Derived.Test.YtilmodbiimjllaaTotM
import Derived.Test.YtilmodbiimjllaaPushL
namespace Go.Proofs.Ytilmodbiimjllaa
set_option linter.unusedVariables false
set_option linter.unusedSimpArgs false
attribute [local go_sem] rho_const rho_func rho_hit rho_miss
open Go.RowKit
attribute [local go_sem] min2_mn min_two' max2_mx max_two'
structure It where
  tote : Int
  zone : Int
deriving DecidableEq
def It.cs (x : It) : List Value := [.int .u16 x.tote, .int .i64 x.zone]
def its (l : List It) : List Value := l.flatMap It.cs
theorem It.two (x : It) : x.cs.length = 2 := rfl
theorem its_one (l : List It) : ∀ u ∈ its l, u.oneCell' = true := by
  intro u hu
  obtain ⟨x, _, hx⟩ := List.mem_flatMap.1 hu
  simp only [It.cs, List.mem_cons, List.not_mem_nil, or_false] at hx
  rcases hx with rfl | rfl <;> rfl
/-- What the document's totes are: zones and room as they were said, and all totes in order. -/
structure RS where
  zs : Int
  rm : Int
  l : List It
def RRep (w : World) (F : Nat → Prop) (r : Nat) (s : RS) : Prop :=
  F r ∧ ∃ v, w.heap[r]? = some (.cells #[.int .i64 s.zs, .int .i64 s.rm, v] 29 (0, 0)) ∧ Own w F 65 2 v s.l.length (its s.l)
theorem RRep.move {w w' : World} {F G : Nat → Prop} {r : Nat} {s : RS} (h : RRep w F r s) (hk : ∀ k, F k → k < w.heap.size → G k ∧ w'.heap[k]? = w.heap[k]?) : RRep w' G r s := by
  obtain ⟨hF, v, hb, ho⟩ := h
  exact ⟨(hk r hF (lt_of_block hb)).1, v, (hk r hF (lt_of_block hb)).2.trans hb, ho.move hk⟩
def RefA (n r : Nat) (s : RS) : Asrt n := ⟨fun F w => RRep w F r s, fun h _ hk _ => h.move hk⟩
theorem sees_it {w : World} {F : Nat → Prop} {v : Value} {n : Nat} {l : List It} (h : SeesIn w F 2 v n (its l)) (hn : n = l.length) {k : Nat} {y : It} (hy : l[k]? = some y) : ∃ g o c, v = .slice (some ⟨g, o, none⟩) n c ∧ n ≤ c ∧ c ≤ 9223372036854775807 ∧ F g ∧ g < w.heap.size ∧
    w.cell? ⟨g, o + k * 2, none⟩ = some (.int .u16 y.tote) ∧ w.cell? ⟨g, o + k * 2 + 1, none⟩ = some (.int .i64 y.zone) := by
  obtain ⟨g, o, c, e, h1, h2, hF, hg, hc⟩ := sees_get It.two h hn hy
  exact ⟨g, o, c, e, h1, by unfold maxLen at h2; omega, hF, hg, hc 0 _ rfl, by rw [Nat.add_assoc]; exact hc 1 _ rfl⟩
def RS.there (s : RS) (z : Int) : Bool := decide (0 ≤ z) && decide (z < mn (mx s.zs 1) 8)
theorem there_any (r : Nat) (s : RS) (z : Int) (F : Nat → Prop) (w : World) (h : RRep w F r s) :
    Calls Try.prog 29 #[.pointer (some ⟨r, 0, none⟩), .int .i64 z] w fun e w' => e = .returned (.bool (s.there z)) ∧ w = w' := by
  obtain ⟨hF, v, hb, ho⟩ := h
  obtain ⟨c0, c1, -⟩ := blk3 hb
  clear ho hb
  have HT : Hid (s.there z = (decide (0 ≤ z) && decide (z < mn (mx s.zs 1) 8))) := Lib.hid rfl
  by_cases h0 : 0 ≤ z
  · have q1 : decide (z ≥ 0) = true := decide_eq_true h0
    have q2 : decide (0 ≤ z) = true := decide_eq_true h0
    refine d_calls (n := 17) Try.func29 rfl rfl (by simp) [(0, .pointer (some ⟨r, 0, none⟩)), (1, .int .i64 z)] (by simp) ?_
    repeat first
      | apply d_seq
      | with_reducible apply kt_normal
      | apply l_nil
      | apply d_region
      | (apply l_off; (focus rfl); (focus rfl))
      | (apply l_val; (focus rfl); (focus rfl); (focus rfl); (focus (go_simp; (try simp (disch := omega) only [wrap_in, wrap_in', wrap_u16, wrap_u8, wrap_u32, wrap_u64, rem_in, quo_in]); first | done | with_reducible rfl | (constructor <;> with_reducible rfl))))
      | (apply l_store; (focus rfl); (focus rfl); (focus rfl); (focus (go_simp; (try simp (disch := omega) only [wrap_in, wrap_in', wrap_u16, wrap_u8, wrap_u32, wrap_u64, rem_in, quo_in]); first | done | with_reducible rfl | (constructor <;> with_reducible rfl))))
      | apply d_block
      | (apply d_true; (focus rfl); (focus rfl))
      | (apply d_false; (focus rfl); (focus rfl))
      | apply d_skip
      | apply d_exit
      | apply d_ret
      | with_reducible apply kt_ret
      | with_reducible apply kt_exit
      | with_reducible apply kb_normal
      | with_reducible apply kb_ret
      | with_reducible apply kb_here
      | with_reducible apply kl_ret
      | with_reducible apply kl_exit
      | with_reducible apply kc_ret
      | with_reducible apply kc_exit
      | (with_reducible apply kb_there; (focus rfl))
    refine ⟨rfl, _, (by first | (simp [resultsG, resOne, Try.results29, rho, List.lookup]; done) | (simp [resultsG, resOne, Try.results29, rho, List.lookup]; rfl)), ?_⟩
    exact ⟨by rw [HT.out, q2]; simp, rfl⟩
  · have q1 : decide (z ≥ 0) = false := decide_eq_false h0
    have q2 : decide (0 ≤ z) = false := decide_eq_false h0
    refine d_calls (n := 17) Try.func29 rfl rfl (by simp) [(0, .pointer (some ⟨r, 0, none⟩)), (1, .int .i64 z)] (by simp) ?_
    repeat first
      | apply d_seq
      | with_reducible apply kt_normal
      | apply l_nil
      | apply d_region
      | (apply l_off; (focus rfl); (focus rfl))
      | (apply l_val; (focus rfl); (focus rfl); (focus rfl); (focus (go_simp; (try simp (disch := omega) only [wrap_in, wrap_in', wrap_u16, wrap_u8, wrap_u32, wrap_u64, rem_in, quo_in]); first | done | with_reducible rfl | (constructor <;> with_reducible rfl))))
      | (apply l_store; (focus rfl); (focus rfl); (focus rfl); (focus (go_simp; (try simp (disch := omega) only [wrap_in, wrap_in', wrap_u16, wrap_u8, wrap_u32, wrap_u64, rem_in, quo_in]); first | done | with_reducible rfl | (constructor <;> with_reducible rfl))))
      | apply d_block
      | (apply d_true; (focus rfl); (focus rfl))
      | (apply d_false; (focus rfl); (focus rfl))
      | apply d_skip
      | apply d_exit
      | apply d_ret
      | with_reducible apply kt_ret
      | with_reducible apply kt_exit
      | with_reducible apply kb_normal
      | with_reducible apply kb_ret
      | with_reducible apply kb_here
      | with_reducible apply kl_ret
      | with_reducible apply kl_exit
      | with_reducible apply kc_ret
      | with_reducible apply kc_exit
      | (with_reducible apply kb_there; (focus rfl))
    refine ⟨rfl, _, (by first | (simp [resultsG, resOne, Try.results29, rho, List.lookup]; done) | (simp [resultsG, resOne, Try.results29, rho, List.lookup]; rfl)), ?_⟩
    exact ⟨by rw [HT.out, q2]; simp, rfl⟩
def RS.row (s : RS) (z : Int) : List Int := (s.l.filter (fun x => x.zone == z)).map (·.tote)
def RS.at? (s : RS) (x : Int) : Option It := s.l.find? (fun y => y.tote == x)
def RS.whereV (s : RS) (x : Int) : Value := match s.at? x with | none => .tuple #[.int .i64 0, .bool false] | some y => .tuple #[.int .i64 y.zone, .bool true]
theorem find_hit {l : List It} {x : Int} {k : Nat} {y : It} (hy : l[k]? = some y) (he : (y.tote == x) = true) (hx : ∀ z ∈ l.take k, (z.tote == x) = false) : l.find? (fun y => y.tote == x) = some y := by
  have hk := List.getElem?_eq_some_iff.1 hy
  rw [List.find?_eq_some_iff_append]
  refine ⟨he, l.take k, l.drop (k + 1), ?_, fun z hz => by simpa using hx z hz⟩
  rw [← hk.2, ← List.drop_eq_getElem_cons hk.1, List.take_append_drop]
theorem rWhere_any (r : Nat) (s : RS) (x : Int) (F : Nat → Prop) (w : World) (h : RRep w F r s) :
    Calls Try.prog 22 #[.pointer (some ⟨r, 0, none⟩), .int .u16 x] w fun e w' => e = .returned (s.whereV x) ∧ w = w' := by
  obtain ⟨hF, v, hb, ho⟩ := h
  obtain ⟨A, c, rfl, hc1, hc2⟩ := ho.len
  obtain ⟨c0, c1, c2, -⟩ := blk3 hb
  have HO := Lib.hid ho.sees
  unfold maxLen at hc2
  clear ho hb
  refine d_calls (n := 34) Try.func22 rfl rfl (by simp) [(0, .pointer (some ⟨r, 0, none⟩)), (1, .int .u16 x)] (by simp) ?_
  repeat first
    | apply d_seq
    | with_reducible apply kt_normal
    | apply l_nil
    | apply d_region
    | (apply l_off; (focus rfl); (focus rfl))
    | (apply l_val; (focus rfl); (focus rfl); (focus rfl); (focus (go_simp; (try simp (disch := omega) only [wrap_in, wrap_in', wrap_u16, wrap_u8, wrap_u32, wrap_u64, rem_in, quo_in]); first | done | with_reducible rfl | (constructor <;> with_reducible rfl))))
    | (apply l_store; (focus rfl); (focus rfl); (focus rfl); (focus (go_simp; (try simp (disch := omega) only [wrap_in, wrap_in', wrap_u16, wrap_u8, wrap_u32, wrap_u64, rem_in, quo_in]); first | done | with_reducible rfl | (constructor <;> with_reducible rfl))))
    | apply d_block
    | (apply d_true; (focus rfl); (focus rfl))
    | (apply d_false; (focus rfl); (focus rfl))
    | apply d_skip
    | apply d_exit
    | apply d_ret
    | with_reducible apply kt_ret
    | with_reducible apply kt_exit
    | with_reducible apply kb_normal
    | with_reducible apply kb_ret
    | with_reducible apply kb_here
    | with_reducible apply kl_ret
    | with_reducible apply kl_exit
    | with_reducible apply kc_ret
    | with_reducible apply kc_exit
    | (with_reducible apply kb_there; (focus rfl))
  refine d_loop (fun m D wr => ∃ k : Nat, m = s.l.length - k ∧ k ≤ s.l.length ∧ D = [(0, .pointer (some ⟨r, 0, none⟩)), (1, .int .u16 x), (6, .int .i64 k)] ∧ wr = w ∧ Hid (∀ z ∈ s.l.take k, (z.tote == x) = false)) (s.l.length) _ (Subl.cons (t := 0) (by decide) rfl (Subl.cons (t := 1) (by decide) rfl (Subl.cons (t := 6) (by decide) rfl (Subl.nil _ _)))) ?_ (fun m D wr hrel => ?_)
  · exact ⟨0, rfl, Nat.zero_le _, rfl, rfl, Lib.hid (by simp)⟩
  · obtain ⟨k, rfl, hk, rfl, rfl, HK⟩ := hrel
    by_cases hlt : k < s.l.length
    · obtain ⟨y, hy⟩ : ∃ y, s.l[k]? = some y := ⟨_, List.getElem?_eq_getElem hlt⟩
      obtain ⟨g, o, c', e1, -, -, -, -, d0, d1⟩ := sees_it HO.out rfl hy
      simp only [Value.slice.injEq, true_and] at e1
      obtain ⟨rfl, rfl⟩ := e1
      obtain ⟨b, hb⟩ : ∃ b, (y.tote == x) = b := ⟨_, rfl⟩
      have HB := Lib.hid hb
      have HY := Lib.hid hy
      clear hy
      cases b
      · repeat first
          | apply d_seq
          | with_reducible apply kt_normal
          | apply l_nil
          | apply d_region
          | (apply l_off; (focus rfl); (focus rfl))
          | (apply l_val; (focus rfl); (focus rfl); (focus rfl); (focus (go_simp; (try simp (disch := omega) only [wrap_in, wrap_in', wrap_u16, wrap_u8, wrap_u32, wrap_u64, rem_in, quo_in]); first | done | with_reducible rfl | (constructor <;> with_reducible rfl))))
          | (apply l_store; (focus rfl); (focus rfl); (focus rfl); (focus (go_simp; (try simp (disch := omega) only [wrap_in, wrap_in', wrap_u16, wrap_u8, wrap_u32, wrap_u64, rem_in, quo_in]); first | done | with_reducible rfl | (constructor <;> with_reducible rfl))))
          | apply d_block
          | (apply d_true; (focus rfl); (focus rfl))
          | (apply d_false; (focus rfl); (focus rfl))
          | apply d_skip
          | apply d_exit
          | apply d_ret
          | with_reducible apply kt_ret
          | with_reducible apply kt_exit
          | with_reducible apply kb_normal
          | with_reducible apply kb_ret
          | with_reducible apply kb_here
          | with_reducible apply kl_ret
          | with_reducible apply kl_exit
          | with_reducible apply kc_ret
          | with_reducible apply kc_exit
          | (with_reducible apply kb_there; (focus rfl))
        refine kl_normal (s.l.length - (k + 1)) _ (by omega) (Subl.cons (t := 0) (by decide) rfl (Subl.cons (t := 1) (by decide) rfl (Subl.cons (t := 6) (by decide) rfl (Subl.nil _ _)))) ?_
        exact ⟨k + 1, rfl, by omega, rfl, rfl, Lib.hid (take_snoc_all HY.out HB.out HK.out)⟩
      · repeat first
          | apply d_seq
          | with_reducible apply kt_normal
          | apply l_nil
          | apply d_region
          | (apply l_off; (focus rfl); (focus rfl))
          | (apply l_val; (focus rfl); (focus rfl); (focus rfl); (focus (go_simp; (try simp (disch := omega) only [wrap_in, wrap_in', wrap_u16, wrap_u8, wrap_u32, wrap_u64, rem_in, quo_in]); first | done | with_reducible rfl | (constructor <;> with_reducible rfl))))
          | (apply l_store; (focus rfl); (focus rfl); (focus rfl); (focus (go_simp; (try simp (disch := omega) only [wrap_in, wrap_in', wrap_u16, wrap_u8, wrap_u32, wrap_u64, rem_in, quo_in]); first | done | with_reducible rfl | (constructor <;> with_reducible rfl))))
          | apply d_block
          | (apply d_true; (focus rfl); (focus rfl))
          | (apply d_false; (focus rfl); (focus rfl))
          | apply d_skip
          | apply d_exit
          | apply d_ret
          | with_reducible apply kt_ret
          | with_reducible apply kt_exit
          | with_reducible apply kb_normal
          | with_reducible apply kb_ret
          | with_reducible apply kb_here
          | with_reducible apply kl_ret
          | with_reducible apply kl_exit
          | with_reducible apply kc_ret
          | with_reducible apply kc_exit
          | (with_reducible apply kb_there; (focus rfl))
        refine ⟨rfl, _, (by first | (simp [resultsG, resOne, Try.results22, rho, List.lookup]; done) | (simp [resultsG, resOne, Try.results22, rho, List.lookup]; rfl)), ?_⟩
        exact ⟨by rw [RS.whereV, RS.at?, find_hit HY.out HB.out HK.out], rfl⟩
    · have hk' : k = s.l.length := by omega
      repeat first
        | apply d_seq
        | with_reducible apply kt_normal
        | apply l_nil
        | apply d_region
        | (apply l_off; (focus rfl); (focus rfl))
        | (apply l_val; (focus rfl); (focus rfl); (focus rfl); (focus (go_simp; (try simp (disch := omega) only [wrap_in, wrap_in', wrap_u16, wrap_u8, wrap_u32, wrap_u64, rem_in, quo_in]); first | done | with_reducible rfl | (constructor <;> with_reducible rfl))))
        | (apply l_store; (focus rfl); (focus rfl); (focus rfl); (focus (go_simp; (try simp (disch := omega) only [wrap_in, wrap_in', wrap_u16, wrap_u8, wrap_u32, wrap_u64, rem_in, quo_in]); first | done | with_reducible rfl | (constructor <;> with_reducible rfl))))
        | apply d_block
        | (apply d_true; (focus rfl); (focus rfl))
        | (apply d_false; (focus rfl); (focus rfl))
        | apply d_skip
        | apply d_exit
        | apply d_ret
        | with_reducible apply kt_ret
        | with_reducible apply kt_exit
        | with_reducible apply kb_normal
        | with_reducible apply kb_ret
        | with_reducible apply kb_here
        | with_reducible apply kl_ret
        | with_reducible apply kl_exit
        | with_reducible apply kc_ret
        | with_reducible apply kc_exit
        | (with_reducible apply kb_there; (focus rfl))
      refine ⟨rfl, _, (by first | (simp [resultsG, resOne, Try.results22, rho, List.lookup]; done) | (simp [resultsG, resOne, Try.results22, rho, List.lookup]; rfl)), ?_⟩
      have hx := HK.out
      rw [hk', List.take_length] at hx
      have : s.at? x = none := by unfold RS.at?; rw [List.find?_eq_none]; intro z hz; simpa using hx z hz
      exact ⟨by rw [RS.whereV, this], rfl⟩
theorem push_u16 {w0 w : World} {L : List (Asrt w0.heap.size)} (H : Has w0 w L) {k m : Nat} {v : Value} {ls : List Int} (hi : L[k]? = some (OwnA w0.heap.size 30 1 v m (ints .u16 ls))) (hm : m ≤ 1000) (y : Int) :
    ∃ g cap w', (Builtin.append_ #[38, 38] 38 #[v, .slice (some ⟨w.heap.size, 0, none⟩) 1 1]).run Try.prog (w.alloc (.cells #[.int .u16 y] 30)) = .ok (.slice (some ⟨g, 0, none⟩) (m + 1) cap) w' ∧ m + 1 ≤ cap ∧ cap ≤ 9223372036854775807 ∧
      Has w0 w' (L.set k (OwnA w0.heap.size 30 1 (.slice (some ⟨g, 0, none⟩) (m + 1) cap) (m + 1) (ints .u16 (ls ++ [y])))) := by
  obtain ⟨i0, hi0, hz0, hz1, hz2⟩ := info_parts Try.infoU16
  have := H.push (P := Try.prog) hi 38 i0 _ 2 Try.underlying38 hi0 hz0 hz1 hz2 rfl (by decide) #[.int .u16 y] rfl (by intro u hu; simp only [List.mem_singleton] at hu; subst hu; rfl) (by unfold maxLen; omega) (by omega) 38
  obtain ⟨g, cap, w', h1, h2, h3, h4⟩ := this
  refine ⟨g, cap, w', h1, h2, h3, ?_⟩
  rw [ints_snoc]
  exact h4
end Go.Proofs.Ytilmodbiimjllaa
