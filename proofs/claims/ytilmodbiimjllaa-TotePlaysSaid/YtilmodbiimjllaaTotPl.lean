import Derived.Test.YtilmodbiimjllaaTotS2
namespace Go.Proofs.Ytilmodbiimjllaa
set_option linter.unusedVariables false
set_option linter.unusedSimpArgs false
open Go.RowKit
section
variable {w0 w : World} {L : List (Asrt w0.heap.size)}
theorem ref_new (H : Has w0 w L) (zs rm : Int) : Has w0 (w.alloc (.cells #[.int .i64 zs, .int .i64 rm, .slice none 0 0] 29)) (L ++ [RefA w0.heap.size w.heap.size ⟨zs, rm, []⟩]) :=
  H.new ((Keep.refl _ _).alloc _) ⟨.inr ⟨Nat.le_refl _, by simp⟩, .slice none 0 0, heap_alloc_new _ _, Own.nil _ _ _ _⟩
theorem rPut_has (H : Has w0 w L) (i r : Nat) (s : RS) (hi : L[i]? = some (RefA w0.heap.size r s)) (hl : s.l.length ≤ 900) (x z : Int) :
    Calls Try.prog 13 #[.pointer (some ⟨r, 0, none⟩), .int .u16 x, .int .i64 z] w fun e w' => e = .returned (.int .i64 (s.put x z).2) ∧ Has w0 w' (L.set i (RefA w0.heap.size r (s.put x z).1)) := by
  obtain ⟨F, hz, hF, hback⟩ := H.call hi
  refine (rPut_any r s x z F w hz hl).mono ?_
  rintro e w' ⟨rfl, hk, hz'⟩
  exact ⟨rfl, hback w' _ hk hz'⟩
theorem rPass_has (H : Has w0 w L) (i r : Nat) (s : RS) (hi : L[i]? = some (RefA w0.heap.size r s)) (hl : s.l.length ≤ 900) (z : Int) :
    Calls Try.prog 15 #[.pointer (some ⟨r, 0, none⟩), .int .i64 z] w fun e w' => e = .returned (.tuple #[.int .u16 (s.pass z).2.1, .int .i64 (s.pass z).2.2]) ∧ Has w0 w' (L.set i (RefA w0.heap.size r (s.pass z).1)) := by
  obtain ⟨F, hz, hF, hback⟩ := H.call hi
  refine (rPass_any r s z F w hz hl).mono ?_
  rintro e w' ⟨rfl, hk, hz'⟩
  exact ⟨rfl, hback w' _ hk hz'⟩
theorem rSkip_has (H : Has w0 w L) (i r : Nat) (s : RS) (hi : L[i]? = some (RefA w0.heap.size r s)) (hl : s.l.length ≤ 900) (z : Int) :
    Calls Try.prog 17 #[.pointer (some ⟨r, 0, none⟩), .int .i64 z] w fun e w' => e = .returned (.int .i64 (s.skip z).2) ∧ Has w0 w' (L.set i (RefA w0.heap.size r (s.skip z).1)) := by
  obtain ⟨F, hz, hF, hback⟩ := H.call hi
  refine (rSkip_any r s z F w hz hl).mono ?_
  rintro e w' ⟨rfl, hk, hz'⟩
  exact ⟨rfl, hback w' _ hk hz'⟩
theorem rWhere_has (H : Has w0 w L) (i r : Nat) (s : RS) (hi : L[i]? = some (RefA w0.heap.size r s)) (x : Int) :
    Calls Try.prog 22 #[.pointer (some ⟨r, 0, none⟩), .int .u16 x] w fun e w' => e = .returned (s.whereV x) ∧ Has w0 w' L := by
  obtain ⟨F, hz, hF⟩ := H.get hi
  refine (rWhere_any r s x F w hz).mono ?_
  rintro e w' ⟨rfl, rfl⟩
  exact ⟨rfl, H⟩
theorem rRow_has (H : Has w0 w L) (i r : Nat) (s : RS) (hi : L[i]? = some (RefA w0.heap.size r s)) (hl : s.l.length ≤ 900) (z : Int) :
    Calls Try.prog 19 #[.pointer (some ⟨r, 0, none⟩), .int .i64 z] w fun e w' => ∃ A c, e = .returned (.slice A (s.row z).length c) ∧ (s.row z).length ≤ c ∧ c ≤ 9223372036854775807 ∧ Has w0 w' (L ++ [OwnA w0.heap.size 30 1 (.slice A (s.row z).length c) (s.row z).length (ints .u16 (s.row z))]) := by
  obtain ⟨F, hz, hF⟩ := H.get hi
  refine (rRow_any r s z F w hz hl).mono ?_
  rintro e w' ⟨v', rfl, hk, ho⟩
  obtain ⟨A, c, rfl, h1, h2⟩ := ho.len
  exact ⟨A, c, rfl, h1, by unfold maxLen at h2; omega, H.new hk ho⟩
end
end Go.Proofs.Ytilmodbiimjllaa
