import Derived.Test.YtbcjmgocdplfnaaPlc10
import Derived.Test.YtbcjmgocdplfnaaPoke
namespace Go.Proofs.Ytbcjmgocdplfnaa
set_option linter.unusedVariables false
set_option linter.unusedSimpArgs false
open Go.RowKit Go.ChangeShapes Go.WideShapes Go.Deep
theorem map_refused (s : PS) (loc a : Int) : (s.map loc a).2 = 0 ∨ (s.map loc a).1 = s := by
  unfold PS.map
  repeat' split
  all_goals first | exact .inr rfl | exact .inl rfl
theorem fail_refused (s : PS) (a : Int) : (s.fail a).2.2 = 0 ∨ (s.fail a).1 = s := by
  unfold PS.fail
  repeat' split
  all_goals first | exact .inr rfl | exact .inl rfl
theorem bring_refused (s : PS) (a : Int) : (s.bring a).2 = 0 ∨ (s.bring a).1 = s := by
  unfold PS.bring
  repeat' split
  all_goals first | exact .inr rfl | exact .inl rfl
theorem ansV_form (k : IntKind) (o : Option Int) : ∃ x b, ansV k o = .tuple #[.int k x, .bool b] := by
  cases o <;> exact ⟨_, _, rfl⟩
theorem at_same {w0 w : World} {L : List (Asrt w0.heap.size)} (H : Has w0 w L) (i p : Nat) (s : PS) (hi : L[i]? = some (PlcA w0.heap.size p s)) (loc : Int) :
    Calls Try.prog 18 #[.pointer (some ⟨p, 32, none⟩), .int .u16 loc] w fun e w' => e = .returned (ansV .u8 (s.at? loc)) ∧ w' = w := by
  obtain ⟨F, hz, hF⟩ := H.get hi
  exact at_any p s loc F w hz
/-- A number of a row that is ours. -/
theorem Has.numK {w0 w : World} {L : List (Asrt w0.heap.size)} (H : Has w0 w L) {i n : Nat} {e : TypeId} {v : Value} {ki : IntKind} {l : List Int} (hi : L[i]? = some (OwnA w0.heap.size e 1 v n (ints ki l))) (hn : n = l.length) {k : Nat} {y : Int} (hy : l[k]? = some y) :
    ∃ g c, v = .slice (some ⟨g, 0, none⟩) n c ∧ n ≤ c ∧ c ≤ 9223372036854775807 ∧ w.cell? ⟨g, k, none⟩ = some (.int ki y) := by
  obtain ⟨F, hz, -⟩ := H.get hi
  have ho : Own w F e 1 v n (ints ki l) := hz
  have hk : k < l.length := (List.getElem?_eq_some_iff.1 hy).1
  obtain ⟨g, c, rfl, -, -, h1, h2⟩ := ho.form (by omega)
  unfold maxLen at h2
  refine ⟨g, c, rfl, h1, by omega, ?_⟩
  rw [ho.1.cellAt k (by omega)]
  simp [ints, hy]
/-- A row's first so many. -/
theorem cut_u8s {w : World} {A : Option Addr} {n c : Nat} {l : List Int} (k : Nat) (h : SeesIn w (fun q => q < w.heap.size) 1 (.slice A n c) l.length (ints .u8 l)) : ∃ m : Nat, mn n k = m ∧ (m : Int) ≤ c ∧ m ≤ k ∧ SeesIn w (fun q => q < w.heap.size) 1 (.slice A m c) (l.take m).length (ints .u8 (l.take m)) := by
  obtain ⟨rfl, h1, h2⟩ := h.form'
  obtain ⟨m, hm, hm1, hm2, -⟩ := mn_nat l.length k
  refine ⟨m, hm, by omega, hm2, ?_⟩
  have := h.take m hm1
  rw [Nat.mul_one, show (ints .u8 l).take m = ints .u8 (l.take m) from (List.map_take ..).symm] at this
  have e0 : (l.take m).length = m := by rw [List.length_take]; omega
  rw [e0]
  exact this
section
variable {H : Type} {enc : TypeId × Value → H} {W : World} {base : Nat} {spare : Nat → Bool} {held : Bool}
theorem open_Steps {A : Option Addr} {n c : Nat} {d : DataW H} {p : List MemPlace} (h : DataW.Trod enc Try.prog W base spare held 23 (.slice A n c) d p) : ∃ l : List St, SeesIn W (fun k => k < W.heap.size) 3 (.slice A n c) l.length (l.flatMap St.cs) ∧ ∀ x ∈ l, x.ok W := by
  obtain ⟨fuel, h⟩ := h
  exact open_Steps_at h
theorem open_U8s {A : Option Addr} {n c : Nat} {d : DataW H} {p : List MemPlace} (h : DataW.Trod enc Try.prog W base spare held 22 (.slice A n c) d p) : ∃ l : List Int, SeesIn W (fun k => k < W.heap.size) 1 (.slice A n c) l.length (ints .u8 l) ∧ ∀ x ∈ l, 0 ≤ x ∧ x ≤ 255 := by
  obtain ⟨fuel, h⟩ := h
  exact open_U8s_at h
end
end Go.Proofs.Ytbcjmgocdplfnaa
