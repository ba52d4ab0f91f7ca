import Derived.Test.YtkjcmnhhgnlaeaaLedS
import Derived.Test.YtkjcmnhhgnlaeaaPushF
import Derived.Test.YtkjcmnhhgnlaeaaBranch
namespace Go.Proofs.Ytkjcmnhhgnlaeaa
set_option linter.unusedVariables false
set_option linter.unusedSimpArgs false
attribute [local go_sem] rho_const rho_func rho_hit rho_miss
open Go.RowKit
/-! The document's ledger in memory. -/
def oc (x : Int × Value × List Ln) : List Value := [.int .u32 x.1, x.2.1]
theorem oc_len (x : Int × Value × List Ln) : (oc x).length = 2 := rfl
theorem Dd.four (x : Dd) : x.cs.length = 4 := rfl
def LnsA (n : Nat) (xs : List (Int × Value × List Ln)) : Asrt n := ⟨fun F w => ∀ x ∈ xs, SeesIn w F 3 x.2.1 x.2.2.length (x.2.2.flatMap Ln.cs), fun h hs hk _ x hx => (h x hx).move hs hk⟩
def rlparts (p : Nat) (xs : List (Int × Value × List Ln)) (ds : List Dd) (lv dv : Value) : List (Asrt 0) := [BlkA 0 p #[lv, dv] 30, SeesA 0 2 lv xs.length (xs.flatMap oc), SeesA 0 4 dv ds.length (ds.flatMap Dd.cs), LnsA 0 xs]
def RLRep (w : World) (F : Nat → Prop) (p : Nat) (d : RL) : Prop := d.okay ∧ ∃ xs lv dv, xs.map (fun x => (x.1, x.2.2)) = d.os ∧ Parts F w (rlparts p xs d.ds lv dv)
theorem RLRep.move {w w' : World} {F G : Nat → Prop} {p : Nat} {d : RL} (h : RLRep w F p d) (hs : w.heap.size ≤ w'.heap.size) (hk : ∀ k, F k → k < w.heap.size → G k ∧ w'.heap[k]? = w.heap[k]?) : RLRep w' G p d := by
  obtain ⟨h1, xs, lv, dv, h2, h3⟩ := h
  exact ⟨h1, xs, lv, dv, h2, h3.move hs hk⟩
def RLA (n p : Nat) (d : RL) : Asrt n := ⟨fun F w => RLRep w F p d, fun h hs hk _ => h.move hs hk⟩
theorem sees_oc {w : World} {F : Nat → Prop} {A : Option Addr} {n c : Nat} {l : List (Int × Value × List Ln)} (h : SeesIn w F 2 (.slice A n c) n (l.flatMap oc)) (hn : n = l.length) {k : Nat} {y : Int × Value × List Ln} (hy : l[k]? = some y) : ∃ g o, A = some ⟨g, o, none⟩ ∧ n ≤ c ∧ c ≤ 9223372036854775807 ∧
    w.cell? ⟨g, o + k * 2, none⟩ = some (.int .u32 y.1) ∧ w.cell? ⟨g, o + k * 2 + 1, none⟩ = some y.2.1 := by
  obtain ⟨g, o, c', e, h1, h2, hF, hg, hc⟩ := sees_get (enc := oc) oc_len h hn hy
  simp only [Value.slice.injEq, true_and] at e
  obtain ⟨rfl, rfl⟩ := e
  exact ⟨g, o, rfl, h1, by unfold maxLen at h2; omega, hc 0 _ rfl, by rw [Nat.add_assoc]; exact hc 1 _ rfl⟩
theorem sees_dd {w : World} {F : Nat → Prop} {A : Option Addr} {n c : Nat} {l : List Dd} (h : SeesIn w F 4 (.slice A n c) n (l.flatMap Dd.cs)) (hn : n = l.length) {k : Nat} {y : Dd} (hy : l[k]? = some y) : ∃ g o, A = some ⟨g, o, none⟩ ∧ n ≤ c ∧ c ≤ 9223372036854775807 ∧
    w.cell? ⟨g, o + k * 4, none⟩ = some (.int .i64 y.kind) ∧ w.cell? ⟨g, o + k * 4 + 1, none⟩ = some (.int .u32 y.id) ∧ w.cell? ⟨g, o + k * 4 + 2, none⟩ = some (.int .u16 y.item) ∧ w.cell? ⟨g, o + k * 4 + 3, none⟩ = some (.int .i64 y.qty) := by
  obtain ⟨g, o, c', e, h1, h2, hF, hg, hc⟩ := sees_get (enc := Dd.cs) Dd.four h hn hy
  simp only [Value.slice.injEq, true_and] at e
  obtain ⟨rfl, rfl⟩ := e
  exact ⟨g, o, rfl, h1, by unfold maxLen at h2; omega, hc 0 _ rfl, by rw [Nat.add_assoc]; exact hc 1 _ rfl, by rw [Nat.add_assoc]; exact hc 2 _ rfl, by rw [Nat.add_assoc]; exact hc 3 _ rfl⟩
theorem pidx_map {α β : Type} (f : α → β) (l : List α) (p : β → Bool) : pidx (l.map f) p = pidx l (fun x => p (f x)) := by unfold pidx; rw [List.findIdx?_map]; rfl
theorem rFind_any (p : Nat) (d : RL) (id : Int) (F : Nat → Prop) (w : World) (h : RLRep w F p d) :
    Calls Try.prog 30 #[.pointer (some ⟨p, 0, none⟩), .int .u32 id] w fun e w' => e = .returned (.int .i64 (pidx d.os fun q => q.1 == id)) ∧ w = w' := by
  obtain ⟨-, xs, lv, dv, hxs, hp⟩ := h
  have hx := HasF.start hp
  obtain ⟨c0, c1, -⟩ := blk2 (hx.blk (i := 0) rfl)
  obtain ⟨G, hs, A, c, rfl, hb1, hb2⟩ := hx.sees (i := 1) rfl
  rw [← hxs, pidx_map]
  have HS := Lib.hid hs
  clear hs
  clear hx hp hxs
  refine d_calls (n := 26) Try.func30 rfl rfl (by simp) [(0, .pointer (some ⟨p, 0, none⟩)), (1, .int .u32 id)] (by simp) ?_
  repeat first
    | apply d_seq
    | with_reducible apply kt_normal
    | apply l_nil
    | apply d_region
    | (apply l_off; (focus rfl); (focus rfl))
    | (apply l_val; (focus rfl); (focus rfl); (focus rfl); (focus (go_simp; (try simp (disch := omega) only [wrap_in, wrap_in', wrap_u16, wrap_u8, wrap_u32, wrap_u64, rem_in, quo_in]); first | done | with_reducible rfl | (constructor <;> with_reducible rfl))))
    | (apply l_store; (focus rfl); (focus rfl); (focus rfl); (focus (go_simp; (try simp (disch := omega) only [wrap_in, wrap_in', wrap_u16, wrap_u8, wrap_u32, wrap_u64, rem_in, quo_in]); first | done | with_reducible rfl | (constructor <;> with_reducible rfl))))
    | apply d_block
    | (apply d_true; (focus rfl); (focus rfl))
    | (apply d_false; (focus rfl); (focus rfl))
    | apply d_skip
    | apply d_exit
    | apply d_ret
    | with_reducible apply kt_ret
    | with_reducible apply kt_exit
    | with_reducible apply kb_normal
    | with_reducible apply kb_ret
    | with_reducible apply kb_here
    | with_reducible apply kl_ret
    | with_reducible apply kl_exit
    | with_reducible apply kc_ret
    | with_reducible apply kc_exit
    | (with_reducible apply kb_there; (focus rfl))
  refine d_loop (fun m D wr => ∃ (k : Nat), m = xs.length - k ∧ k ≤ xs.length ∧ D = [(0, .pointer (some ⟨p, 0, none⟩)), (1, .int .u32 id), (5, .int .i64 k)] ∧ wr = w ∧ Hid (∀ z ∈ xs.take k, (z.1 == id) = false)) (xs.length) _ (Subl.cons (t := 0) (by decide) rfl (Subl.cons (t := 1) (by decide) rfl (Subl.cons (t := 5) (by decide) rfl (Subl.nil _ _)))) ?_ (fun m D wr hrel => ?_)
  · exact ⟨0, rfl, Nat.zero_le _, rfl, rfl, Lib.hid (by simp)⟩
  · obtain ⟨k, rfl, hk, rfl, rfl, HK⟩ := hrel
    by_cases hlt : k < xs.length
    · obtain ⟨y, hy⟩ : ∃ y, xs[k]? = some y := ⟨_, List.getElem?_eq_getElem hlt⟩
      obtain ⟨g, o, rfl, -, -, d0, d1⟩ := sees_oc HS.out rfl hy
      obtain ⟨b, hb⟩ : ∃ b, (y.1 == id) = b := ⟨_, rfl⟩
      have HB := Lib.hid hb
      have HY := Lib.hid hy
      clear hy
      cases b with
      | false =>
        repeat first
          | apply d_seq
          | with_reducible apply kt_normal
          | apply l_nil
          | apply d_region
          | (apply l_off; (focus rfl); (focus rfl))
          | (apply l_val; (focus rfl); (focus rfl); (focus rfl); (focus (go_simp; (try simp (disch := omega) only [wrap_in, wrap_in', wrap_u16, wrap_u8, wrap_u32, wrap_u64, rem_in, quo_in]); first | done | with_reducible rfl | (constructor <;> with_reducible rfl))))
          | (apply l_store; (focus rfl); (focus rfl); (focus rfl); (focus (go_simp; (try simp (disch := omega) only [wrap_in, wrap_in', wrap_u16, wrap_u8, wrap_u32, wrap_u64, rem_in, quo_in]); first | done | with_reducible rfl | (constructor <;> with_reducible rfl))))
          | apply d_block
          | (apply d_true; (focus rfl); (focus rfl))
          | (apply d_false; (focus rfl); (focus rfl))
          | apply d_skip
          | apply d_exit
          | apply d_ret
          | with_reducible apply kt_ret
          | with_reducible apply kt_exit
          | with_reducible apply kb_normal
          | with_reducible apply kb_ret
          | with_reducible apply kb_here
          | with_reducible apply kl_ret
          | with_reducible apply kl_exit
          | with_reducible apply kc_ret
          | with_reducible apply kc_exit
          | (with_reducible apply kb_there; (focus rfl))
        refine kl_normal (xs.length - (k + 1)) _ (by omega) (Subl.cons (t := 0) (by decide) rfl (Subl.cons (t := 1) (by decide) rfl (Subl.cons (t := 5) (by decide) rfl (Subl.nil _ _)))) ?_
        exact ⟨k + 1, rfl, by omega, rfl, rfl, Lib.hid (take_snoc_all HY.out HB.out HK.out)⟩
      | true =>
        repeat first
          | apply d_seq
          | with_reducible apply kt_normal
          | apply l_nil
          | apply d_region
          | (apply l_off; (focus rfl); (focus rfl))
          | (apply l_val; (focus rfl); (focus rfl); (focus rfl); (focus (go_simp; (try simp (disch := omega) only [wrap_in, wrap_in', wrap_u16, wrap_u8, wrap_u32, wrap_u64, rem_in, quo_in]); first | done | with_reducible rfl | (constructor <;> with_reducible rfl))))
          | (apply l_store; (focus rfl); (focus rfl); (focus rfl); (focus (go_simp; (try simp (disch := omega) only [wrap_in, wrap_in', wrap_u16, wrap_u8, wrap_u32, wrap_u64, rem_in, quo_in]); first | done | with_reducible rfl | (constructor <;> with_reducible rfl))))
          | apply d_block
          | (apply d_true; (focus rfl); (focus rfl))
          | (apply d_false; (focus rfl); (focus rfl))
          | apply d_skip
          | apply d_exit
          | apply d_ret
          | with_reducible apply kt_ret
          | with_reducible apply kt_exit
          | with_reducible apply kb_normal
          | with_reducible apply kb_ret
          | with_reducible apply kb_here
          | with_reducible apply kl_ret
          | with_reducible apply kl_exit
          | with_reducible apply kc_ret
          | with_reducible apply kc_exit
          | (with_reducible apply kb_there; (focus rfl))
        refine ⟨rfl, _, (by first | (simp [resultsG, resOne, Try.results30, rho, List.lookup]; done) | (simp [resultsG, resOne, Try.results30, rho, List.lookup]; rfl)), ?_⟩
        rw [pidx_hit HY.out HB.out HK.out]
        exact ⟨rfl, rfl⟩
    · have hk' : k = xs.length := by omega
      subst hk'
      repeat first
        | apply d_seq
        | with_reducible apply kt_normal
        | apply l_nil
        | apply d_region
        | (apply l_off; (focus rfl); (focus rfl))
        | (apply l_val; (focus rfl); (focus rfl); (focus rfl); (focus (go_simp; (try simp (disch := omega) only [wrap_in, wrap_in', wrap_u16, wrap_u8, wrap_u32, wrap_u64, rem_in, quo_in]); first | done | with_reducible rfl | (constructor <;> with_reducible rfl))))
        | (apply l_store; (focus rfl); (focus rfl); (focus rfl); (focus (go_simp; (try simp (disch := omega) only [wrap_in, wrap_in', wrap_u16, wrap_u8, wrap_u32, wrap_u64, rem_in, quo_in]); first | done | with_reducible rfl | (constructor <;> with_reducible rfl))))
        | apply d_block
        | (apply d_true; (focus rfl); (focus rfl))
        | (apply d_false; (focus rfl); (focus rfl))
        | apply d_skip
        | apply d_exit
        | apply d_ret
        | with_reducible apply kt_ret
        | with_reducible apply kt_exit
        | with_reducible apply kb_normal
        | with_reducible apply kb_ret
        | with_reducible apply kb_here
        | with_reducible apply kl_ret
        | with_reducible apply kl_exit
        | with_reducible apply kc_ret
        | with_reducible apply kc_exit
        | (with_reducible apply kb_there; (focus rfl))
      refine ⟨rfl, _, (by first | (simp [resultsG, resOne, Try.results30, rho, List.lookup]; done) | (simp [resultsG, resOne, Try.results30, rho, List.lookup]; rfl)), ?_⟩
      have := HK.out
      rw [List.take_length] at this
      rw [pidx_miss this]
      exact ⟨rfl, rfl⟩
theorem sum_at {l : List Dd} {k : Nat} {y : Dd} (hy : l[k]? = some y) (kk id it : Int) : sumD (l.take (k + 1)) kk id it = sumD (l.take k) kk id it + if y.is kk id it = true then y.qty else 0 := by
  rw [List.take_add_one, hy, Option.toList_some, sum_snoc]
theorem sum_bound {d : RL} (h : d.okay) (hl : d.ds.length ≤ 200) (k : Nat) (kk id it : Int) : 0 ≤ sumD (d.ds.take k) kk id it ∧ sumD (d.ds.take k) kk id it ≤ 1999800 := by
  have := sumD_le (d.ds.take k) (fun x hx => (h.mine x (List.mem_of_mem_take hx)).2) kk id it
  have h2 : (d.ds.take k).length ≤ 200 := by rw [List.length_take]; omega
  omega
set_option maxRecDepth 100000 in
set_option maxHeartbeats 1000000 in
theorem rSum_any (p : Nat) (d : RL) (kk id it : Int) (F : Nat → Prop) (w : World) (h : RLRep w F p d) (hl : d.ds.length ≤ 200) :
    Calls Try.prog 33 #[.pointer (some ⟨p, 0, none⟩), .int .i64 kk, .int .u32 id, .int .u16 it] w fun e w' => e = .returned (.int .i64 (sumD d.ds kk id it)) ∧ Keep none_ w w' := by
  obtain ⟨hok, xs, lv, dv, hxs, hp⟩ := h
  have hx := HasF.start hp
  obtain ⟨c0, c1, -⟩ := blk2 (hx.blk (i := 0) rfl)
  obtain ⟨G, hs, A, c, rfl, hb1, hb2⟩ := hx.sees (i := 2) rfl
  have hbd := fun k => sum_bound hok hl k kk id it
  have hq : ∀ (k : Nat) (y : Dd), d.ds[k]? = some y → 1 ≤ y.qty ∧ y.qty ≤ 9999 := fun k y hy => (hok.mine y (List.mem_of_getElem? hy)).2
  generalize d.ds = ds at *
  have C1 := Lib.hid c1
  have HS := Lib.hid hs
  have HBD := Lib.hid hbd
  have HQ := Lib.hid hq
  clear hs hbd hq
  clear hx hp hxs c0 hok
  refine d_calls (n := 49) Try.func33 rfl rfl (by simp) [(0, .pointer (some ⟨p, 0, none⟩)), (1, .int .i64 kk), (2, .int .u32 id), (3, .int .u16 it)] (by simp) ?_
  repeat first
    | apply d_seq
    | with_reducible apply kt_normal
    | apply l_nil
    | apply d_region
    | (apply l_off; (focus rfl); (focus rfl))
    | (apply l_val; (focus rfl); (focus rfl); (focus rfl); (focus (go_simp; (try simp (disch := omega) only [wrap_in, wrap_in', wrap_u16, wrap_u8, wrap_u32, wrap_u64, rem_in, quo_in]); first | done | with_reducible rfl | (constructor <;> with_reducible rfl))))
    | (apply l_store; (focus rfl); (focus rfl); (focus rfl); (focus (go_simp; (try simp (disch := omega) only [wrap_in, wrap_in', wrap_u16, wrap_u8, wrap_u32, wrap_u64, rem_in, quo_in]); first | done | with_reducible rfl | (constructor <;> with_reducible rfl))))
    | apply d_block
    | (apply d_true; (focus rfl); (focus rfl))
    | (apply d_false; (focus rfl); (focus rfl))
    | apply d_skip
    | apply d_exit
    | apply d_ret
    | with_reducible apply kt_ret
    | with_reducible apply kt_exit
    | with_reducible apply kb_normal
    | with_reducible apply kb_ret
    | with_reducible apply kb_here
    | with_reducible apply kl_ret
    | with_reducible apply kl_exit
    | with_reducible apply kc_ret
    | with_reducible apply kc_exit
    | (with_reducible apply kb_there; (focus rfl))
  clear c1
  refine d_loop (fun m D wr => ∃ (k : Nat), m = ds.length - k ∧ k ≤ ds.length ∧ D = [(0, .pointer (some ⟨p, 0, none⟩)), (1, .int .i64 kk), (2, .int .u32 id), (3, .int .u16 it), (9, .int .i64 (sumD (ds.take k) kk id it)), (10, .int .i64 k)] ∧ Hid (Keep none_ w wr)) (ds.length) _ (Subl.cons (t := 0) (by decide) rfl (Subl.cons (t := 1) (by decide) rfl (Subl.cons (t := 2) (by decide) rfl (Subl.cons (t := 3) (by decide) rfl (Subl.cons (t := 9) (by decide) rfl (Subl.cons (t := 10) (by decide) rfl (Subl.nil _ _))))))) ?_ (fun m D wr hrel => ?_)
  · exact ⟨0, rfl, Nat.zero_le _, rfl, Lib.hid (Keep.refl _ _)⟩
  · obtain ⟨k, rfl, hk, rfl, HK⟩ := hrel
    have c1 := (HK.out.cell (World.block_lt_of_cell? _ _ C1.out) (fun c => c)).trans C1.out
    by_cases hlt : k < ds.length
    · obtain ⟨y, hy⟩ : ∃ y, ds[k]? = some y := ⟨_, List.getElem?_eq_getElem hlt⟩
      obtain ⟨g, o, rfl, -, -, d0, d1, d2, d3⟩ := sees_dd (HS.out.keep HK.out) rfl hy
      have hst := sum_at hy kk id it
      have hb1 := HBD.out k
      have hqy := HQ.out k y hy
      have HX := Lib.hid ((HasF.nil HK.out).box #[.int .i64 y.kind, .int .u32 y.id, .int .u16 y.item, .int .i64 y.qty] 73)
      have hk2 := HX.out.old
      obtain ⟨x0, x1, x2, x3, -⟩ := blk4 (HX.out.blk (i := 0) rfl)
      generalize sumD (ds.take k) kk id it = z at *
      have HK2 := Lib.hid hk2
      clear hk2
      clear HX hy
      obtain ⟨b1, hb⟩ : ∃ b, (y.kind == kk) = b := ⟨_, rfl⟩
      cases b1 with
      | false =>
        rw [if_neg (by simp [Dd.is, hb])] at hst
        have HST := Lib.hid hst
        clear hst
        repeat first
          | apply d_seq
          | with_reducible apply kt_normal
          | apply l_nil
          | apply d_region
          | (apply l_off; (focus rfl); (focus rfl))
          | (apply l_val; (focus rfl); (focus rfl); (focus rfl); (focus (go_simp; (try simp (disch := omega) only [wrap_in, wrap_in', wrap_u16, wrap_u8, wrap_u32, wrap_u64, rem_in, quo_in]); first | done | with_reducible rfl | (constructor <;> with_reducible rfl))))
          | (apply l_store; (focus rfl); (focus rfl); (focus rfl); (focus (go_simp; (try simp (disch := omega) only [wrap_in, wrap_in', wrap_u16, wrap_u8, wrap_u32, wrap_u64, rem_in, quo_in]); first | done | with_reducible rfl | (constructor <;> with_reducible rfl))))
          | apply d_block
          | (apply d_true; (focus rfl); (focus rfl))
          | (apply d_false; (focus rfl); (focus rfl))
          | apply d_skip
          | apply d_exit
          | apply d_ret
          | with_reducible apply kt_ret
          | with_reducible apply kt_exit
          | with_reducible apply kb_normal
          | with_reducible apply kb_ret
          | with_reducible apply kb_here
          | with_reducible apply kl_ret
          | with_reducible apply kl_exit
          | with_reducible apply kc_ret
          | with_reducible apply kc_exit
          | (with_reducible apply kb_there; (focus rfl))
        refine kl_normal (ds.length - (k + 1)) _ (by omega) (Subl.cons (t := 0) (by decide) rfl (Subl.cons (t := 1) (by decide) rfl (Subl.cons (t := 2) (by decide) rfl (Subl.cons (t := 3) (by decide) rfl (Subl.cons (t := 9) (by decide) rfl (Subl.cons (t := 10) (by decide) rfl (Subl.nil _ _))))))) ?_
        exact ⟨k + 1, rfl, by omega, by rw [HST.out, Int.add_zero]; rfl, HK2⟩
      | true =>
        obtain ⟨b2, hb2⟩ : ∃ b, (y.id == id) = b := ⟨_, rfl⟩
        cases b2 with
        | false =>
          rw [if_neg (by simp [Dd.is, hb2])] at hst
          have HST := Lib.hid hst
          clear hst
          repeat first
            | apply d_seq
            | with_reducible apply kt_normal
            | apply l_nil
            | apply d_region
            | (apply l_off; (focus rfl); (focus rfl))
            | (apply l_val; (focus rfl); (focus rfl); (focus rfl); (focus (go_simp; (try simp (disch := omega) only [wrap_in, wrap_in', wrap_u16, wrap_u8, wrap_u32, wrap_u64, rem_in, quo_in]); first | done | with_reducible rfl | (constructor <;> with_reducible rfl))))
            | (apply l_store; (focus rfl); (focus rfl); (focus rfl); (focus (go_simp; (try simp (disch := omega) only [wrap_in, wrap_in', wrap_u16, wrap_u8, wrap_u32, wrap_u64, rem_in, quo_in]); first | done | with_reducible rfl | (constructor <;> with_reducible rfl))))
            | apply d_block
            | (apply d_true; (focus rfl); (focus rfl))
            | (apply d_false; (focus rfl); (focus rfl))
            | apply d_skip
            | apply d_exit
            | apply d_ret
            | with_reducible apply kt_ret
            | with_reducible apply kt_exit
            | with_reducible apply kb_normal
            | with_reducible apply kb_ret
            | with_reducible apply kb_here
            | with_reducible apply kl_ret
            | with_reducible apply kl_exit
            | with_reducible apply kc_ret
            | with_reducible apply kc_exit
            | (with_reducible apply kb_there; (focus rfl))
          refine kl_normal (ds.length - (k + 1)) _ (by omega) (Subl.cons (t := 0) (by decide) rfl (Subl.cons (t := 1) (by decide) rfl (Subl.cons (t := 2) (by decide) rfl (Subl.cons (t := 3) (by decide) rfl (Subl.cons (t := 9) (by decide) rfl (Subl.cons (t := 10) (by decide) rfl (Subl.nil _ _))))))) ?_
          exact ⟨k + 1, rfl, by omega, by rw [HST.out, Int.add_zero]; rfl, HK2⟩
        | true =>
          obtain ⟨b3, hb3⟩ : ∃ b, (y.item == it) = b := ⟨_, rfl⟩
          cases b3 with
          | false =>
            rw [if_neg (by simp [Dd.is, hb3])] at hst
            have HST := Lib.hid hst
            clear hst
            repeat first
              | apply d_seq
              | with_reducible apply kt_normal
              | apply l_nil
              | apply d_region
              | (apply l_off; (focus rfl); (focus rfl))
              | (apply l_val; (focus rfl); (focus rfl); (focus rfl); (focus (go_simp; (try simp (disch := omega) only [wrap_in, wrap_in', wrap_u16, wrap_u8, wrap_u32, wrap_u64, rem_in, quo_in]); first | done | with_reducible rfl | (constructor <;> with_reducible rfl))))
              | (apply l_store; (focus rfl); (focus rfl); (focus rfl); (focus (go_simp; (try simp (disch := omega) only [wrap_in, wrap_in', wrap_u16, wrap_u8, wrap_u32, wrap_u64, rem_in, quo_in]); first | done | with_reducible rfl | (constructor <;> with_reducible rfl))))
              | apply d_block
              | (apply d_true; (focus rfl); (focus rfl))
              | (apply d_false; (focus rfl); (focus rfl))
              | apply d_skip
              | apply d_exit
              | apply d_ret
              | with_reducible apply kt_ret
              | with_reducible apply kt_exit
              | with_reducible apply kb_normal
              | with_reducible apply kb_ret
              | with_reducible apply kb_here
              | with_reducible apply kl_ret
              | with_reducible apply kl_exit
              | with_reducible apply kc_ret
              | with_reducible apply kc_exit
              | (with_reducible apply kb_there; (focus rfl))
            refine kl_normal (ds.length - (k + 1)) _ (by omega) (Subl.cons (t := 0) (by decide) rfl (Subl.cons (t := 1) (by decide) rfl (Subl.cons (t := 2) (by decide) rfl (Subl.cons (t := 3) (by decide) rfl (Subl.cons (t := 9) (by decide) rfl (Subl.cons (t := 10) (by decide) rfl (Subl.nil _ _))))))) ?_
            exact ⟨k + 1, rfl, by omega, by rw [HST.out, Int.add_zero]; rfl, HK2⟩
          | true =>
            rw [if_pos (by simp [Dd.is, hb, hb2, hb3])] at hst
            have HST := Lib.hid hst
            clear hst
            repeat first
              | apply d_seq
              | with_reducible apply kt_normal
              | apply l_nil
              | apply d_region
              | (apply l_off; (focus rfl); (focus rfl))
              | (apply l_val; (focus rfl); (focus rfl); (focus rfl); (focus (go_simp; (try simp (disch := omega) only [wrap_in, wrap_in', wrap_u16, wrap_u8, wrap_u32, wrap_u64, rem_in, quo_in]); first | done | with_reducible rfl | (constructor <;> with_reducible rfl))))
              | (apply l_store; (focus rfl); (focus rfl); (focus rfl); (focus (go_simp; (try simp (disch := omega) only [wrap_in, wrap_in', wrap_u16, wrap_u8, wrap_u32, wrap_u64, rem_in, quo_in]); first | done | with_reducible rfl | (constructor <;> with_reducible rfl))))
              | apply d_block
              | (apply d_true; (focus rfl); (focus rfl))
              | (apply d_false; (focus rfl); (focus rfl))
              | apply d_skip
              | apply d_exit
              | apply d_ret
              | with_reducible apply kt_ret
              | with_reducible apply kt_exit
              | with_reducible apply kb_normal
              | with_reducible apply kb_ret
              | with_reducible apply kb_here
              | with_reducible apply kl_ret
              | with_reducible apply kl_exit
              | with_reducible apply kc_ret
              | with_reducible apply kc_exit
              | (with_reducible apply kb_there; (focus rfl))
            refine kl_normal (ds.length - (k + 1)) _ (by omega) (Subl.cons (t := 0) (by decide) rfl (Subl.cons (t := 1) (by decide) rfl (Subl.cons (t := 2) (by decide) rfl (Subl.cons (t := 3) (by decide) rfl (Subl.cons (t := 9) (by decide) rfl (Subl.cons (t := 10) (by decide) rfl (Subl.nil _ _))))))) ?_
            exact ⟨k + 1, rfl, by omega, by rw [HST.out]; rfl, HK2⟩
    · have hk' : k = ds.length := by omega
      subst hk'
      rw [List.take_length]
      repeat first
        | apply d_seq
        | with_reducible apply kt_normal
        | apply l_nil
        | apply d_region
        | (apply l_off; (focus rfl); (focus rfl))
        | (apply l_val; (focus rfl); (focus rfl); (focus rfl); (focus (go_simp; (try simp (disch := omega) only [wrap_in, wrap_in', wrap_u16, wrap_u8, wrap_u32, wrap_u64, rem_in, quo_in]); first | done | with_reducible rfl | (constructor <;> with_reducible rfl))))
        | (apply l_store; (focus rfl); (focus rfl); (focus rfl); (focus (go_simp; (try simp (disch := omega) only [wrap_in, wrap_in', wrap_u16, wrap_u8, wrap_u32, wrap_u64, rem_in, quo_in]); first | done | with_reducible rfl | (constructor <;> with_reducible rfl))))
        | apply d_block
        | (apply d_true; (focus rfl); (focus rfl))
        | (apply d_false; (focus rfl); (focus rfl))
        | apply d_skip
        | apply d_exit
        | apply d_ret
        | with_reducible apply kt_ret
        | with_reducible apply kt_exit
        | with_reducible apply kb_normal
        | with_reducible apply kb_ret
        | with_reducible apply kb_here
        | with_reducible apply kl_ret
        | with_reducible apply kl_exit
        | with_reducible apply kc_ret
        | with_reducible apply kc_exit
        | (with_reducible apply kb_there; (focus rfl))
      refine ⟨rfl, _, (by first | (simp [resultsG, resOne, Try.results33, rho, List.lookup]; done) | (simp [resultsG, resOne, Try.results33, rho, List.lookup]; rfl)), ?_⟩
      exact ⟨rfl, HK.out⟩
end Go.Proofs.Ytkjcmnhhgnlaeaa
