import Derived.Test.YtbcjmgocdplfnaaPlc8
namespace Go.Proofs.Ytbcjmgocdplfnaa
set_option linter.unusedVariables false
set_option linter.unusedSimpArgs false
open Go.RowKit
section
variable {w0 w : World} {L : List (Asrt w0.heap.size)}
theorem new_has (H : Has w0 w L) (F0 : Nat → Prop) (A : Option Addr) (n c : Nat) (l : List Int) (h : SeesIn w F0 1 (.slice A n c) l.length (ints .u8 l)) :
    Calls Try.prog 10 #[.slice A n c] w fun e w' => ∃ p, e = .returned (.pointer (some ⟨p, 0, none⟩)) ∧ Has w0 w' (L ++ [PlcA w0.heap.size p (PS.new l)]) := by
  refine (new_any w F0 A n c l h).mono ?_
  rintro e w' ⟨p, rfl, hk, hr⟩
  exact ⟨p, rfl, H.new hk hr⟩
theorem map_has (H : Has w0 w L) (i p : Nat) (s : PS) (hi : L[i]? = some (PlcA w0.heap.size p s)) (loc a : Int) (hl : 0 ≤ loc) :
    Calls Try.prog 12 #[.pointer (some ⟨p, 0, none⟩), .int .u16 loc, .int .u8 a] w fun e w' => e = .returned (.int .i64 (s.map loc a).2) ∧ Has w0 w' (L.set i (PlcA w0.heap.size p (s.map loc a).1)) := by
  obtain ⟨F, hz, hF, hback⟩ := H.call hi
  refine (map_any p s loc a F w hz hl).mono ?_
  rintro e w' ⟨rfl, hk, hz'⟩
  exact ⟨rfl, hback w' _ hk (PRep.move hz' (fun q hq hl => ⟨.inl hq, rfl⟩))⟩
theorem fail_has (H : Has w0 w L) (i p : Nat) (s : PS) (hi : L[i]? = some (PlcA w0.heap.size p s)) (a : Int) :
    Calls Try.prog 14 #[.pointer (some ⟨p, 0, none⟩), .int .u8 a] w fun e w' => e = .returned (.tuple #[.int .u8 (s.fail a).2.1, .int .i64 (s.fail a).2.2]) ∧ Has w0 w' (L.set i (PlcA w0.heap.size p (s.fail a).1)) := by
  obtain ⟨F, hz, hF, hback⟩ := H.call hi
  refine (fail_any p s a F w hz).mono ?_
  rintro e w' ⟨rfl, hk, hz'⟩
  exact ⟨rfl, hback w' _ hk (PRep.move hz' (fun q hq hl => ⟨.inl hq, rfl⟩))⟩
theorem bring_has (H : Has w0 w L) (i p : Nat) (s : PS) (hi : L[i]? = some (PlcA w0.heap.size p s)) (a : Int) :
    Calls Try.prog 16 #[.pointer (some ⟨p, 0, none⟩), .int .u8 a] w fun e w' => e = .returned (.int .i64 (s.bring a).2) ∧ Has w0 w' (L.set i (PlcA w0.heap.size p (s.bring a).1)) := by
  obtain ⟨F, hz, hF, hback⟩ := H.call hi
  refine (bring_any p s a F w hz).mono ?_
  rintro e w' ⟨rfl, hk, hz'⟩
  exact ⟨rfl, hback w' _ hk (PRep.move hz' (fun q hq hl => ⟨.inl hq, rfl⟩))⟩
theorem at_has (H : Has w0 w L) (i p : Nat) (s : PS) (hi : L[i]? = some (PlcA w0.heap.size p s)) (loc : Int) :
    Calls Try.prog 18 #[.pointer (some ⟨p, 32, none⟩), .int .u16 loc] w fun e w' => e = .returned (ansV .u8 (s.at? loc)) ∧ Has w0 w' L := by
  obtain ⟨F, hz, hF⟩ := H.get hi
  refine (at_any p s loc F w hz).mono ?_
  rintro e w' ⟨rfl, rfl⟩
  exact ⟨rfl, H⟩
theorem of_has (H : Has w0 w L) (i p : Nat) (s : PS) (hi : L[i]? = some (PlcA w0.heap.size p s)) (a : Int) :
    Calls Try.prog 20 #[.pointer (some ⟨p, 32, none⟩), .int .u8 a] w fun e w' => e = .returned (ansV .u16 (s.of? a)) ∧ Has w0 w' L := by
  obtain ⟨F, hz, hF⟩ := H.get hi
  refine (of_any p s a F w hz).mono ?_
  rintro e w' ⟨rfl, hk⟩
  exact ⟨rfl, H.keep hk⟩
theorem spares_has (H : Has w0 w L) (i p : Nat) (s : PS) (hi : L[i]? = some (PlcA w0.heap.size p s)) :
    Calls Try.prog 23 #[.pointer (some ⟨p, 0, none⟩)] w fun e w' => ∃ A c, e = .returned (.slice A s.spares.length c) ∧ s.spares.length ≤ c ∧ c ≤ 9223372036854775807 ∧ Has w0 w' (L ++ [OwnA w0.heap.size 5 1 (.slice A s.spares.length c) s.spares.length (ints .u8 s.spares)]) := by
  obtain ⟨F, hz, hF⟩ := H.get hi
  refine (spares_any p s F w hz).mono ?_
  rintro e w' ⟨v, rfl, hk, ho⟩
  obtain ⟨A, c, rfl, h1, h2⟩ := ho.len
  exact ⟨A, c, rfl, h1, by unfold maxLen at h2; omega, H.new hk ho⟩
theorem locs_has (H : Has w0 w L) (i p : Nat) (s : PS) (hi : L[i]? = some (PlcA w0.heap.size p s)) :
    Calls Try.prog 22 #[.pointer (some ⟨p, 32, none⟩)] w fun e w' => ∃ A c, e = .returned (.slice A s.locs.length c) ∧ s.locs.length ≤ c ∧ c ≤ 9223372036854775807 ∧ Has w0 w' (L ++ [OwnA w0.heap.size 29 1 (.slice A s.locs.length c) s.locs.length (ints .u16 s.locs)]) := by
  obtain ⟨F, hz, hF⟩ := H.get hi
  refine (locs_any p s F w hz).mono ?_
  rintro e w' ⟨v, rfl, hk, ho⟩
  obtain ⟨A, c, rfl, h1, h2⟩ := ho.len
  exact ⟨A, c, rfl, h1, by unfold maxLen at h2; omega, H.new hk ho⟩
end
theorem Has.okP {w0 w : World} {L : List (Asrt w0.heap.size)} (H : Has w0 w L) {i p : Nat} {s : PS} (hi : L[i]? = some (PlcA w0.heap.size p s)) : s.ok := by
  obtain ⟨F, hz, -⟩ := H.get hi
  exact (show PRep w F p s from hz).2.1
end Go.Proofs.Ytbcjmgocdplfnaa
