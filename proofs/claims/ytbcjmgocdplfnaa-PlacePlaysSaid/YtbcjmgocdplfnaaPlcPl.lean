import Derived.Test.YtbcjmgocdplfnaaPlcR3
import Derived.Test.YtbcjmgocdplfnaaPick
namespace Go.Proofs.Ytbcjmgocdplfnaa
set_option linter.unusedVariables false
set_option linter.unusedSimpArgs false
open Go.RowKit
section
variable {w0 w : World} {L : List (Asrt w0.heap.size)}
theorem rnew_has (H : Has w0 w L) (F0 : Nat → Prop) (A : Option Addr) (n c : Nat) (l : List Int) (h : SeesIn w F0 1 (.slice A n c) n (ints .u8 l)) (hn : n = l.length) (hl : n ≤ 100) :
    Calls Try.prog 11 #[.slice A n c] w fun e w' => ∃ p, e = .returned (.pointer (some ⟨p, 0, none⟩)) ∧ Has w0 w' (L ++ [RPlcA w0.heap.size p (PS.new l)]) := by
  refine (rNew_any w F0 A n c l h hn hl).mono ?_
  rintro e w' ⟨p, rfl, hk, hr⟩
  exact ⟨p, rfl, H.new hk hr⟩
theorem rmap_has (H : Has w0 w L) (i p : Nat) (s : PS) (hi : L[i]? = some (RPlcA w0.heap.size p s)) (loc a : Int) (hl : 0 ≤ loc) :
    Calls Try.prog 13 #[.pointer (some ⟨p, 0, none⟩), .int .u16 loc, .int .u8 a] w fun e w' => e = .returned (.int .i64 (s.map loc a).2) ∧ Has w0 w' (L.set i (RPlcA w0.heap.size p (s.map loc a).1)) := by
  obtain ⟨F, hz, hF, hback⟩ := H.call hi
  refine (rMap_any p s loc a F w hz hl).mono ?_
  rintro e w' ⟨rfl, hk, hz'⟩
  exact ⟨rfl, hback w' _ hk hz'⟩
theorem rfail_has (H : Has w0 w L) (i p : Nat) (s : PS) (hi : L[i]? = some (RPlcA w0.heap.size p s)) (a : Int) :
    Calls Try.prog 15 #[.pointer (some ⟨p, 0, none⟩), .int .u8 a] w fun e w' => e = .returned (.tuple #[.int .u8 (s.fail a).2.1, .int .i64 (s.fail a).2.2]) ∧ Has w0 w' (L.set i (RPlcA w0.heap.size p (s.fail a).1)) := by
  obtain ⟨F, hz, hF, hback⟩ := H.call hi
  refine (rFail_any p s a F w hz).mono ?_
  rintro e w' ⟨rfl, hk, hz'⟩
  exact ⟨rfl, hback w' _ hk hz'⟩
theorem rbring_has (H : Has w0 w L) (i p : Nat) (s : PS) (hi : L[i]? = some (RPlcA w0.heap.size p s)) (a : Int) :
    Calls Try.prog 17 #[.pointer (some ⟨p, 0, none⟩), .int .u8 a] w fun e w' => e = .returned (.int .i64 (s.bring a).2) ∧ Has w0 w' (L.set i (RPlcA w0.heap.size p (s.bring a).1)) := by
  obtain ⟨F, hz, hF, hback⟩ := H.call hi
  refine (rBring_any p s a F w hz).mono ?_
  rintro e w' ⟨rfl, hk, hz'⟩
  exact ⟨rfl, hback w' _ hk hz'⟩
theorem rat_has (H : Has w0 w L) (i p : Nat) (s : PS) (hi : L[i]? = some (RPlcA w0.heap.size p s)) (loc : Int) :
    Calls Try.prog 19 #[.pointer (some ⟨p, 0, none⟩), .int .u16 loc] w fun e w' => e = .returned (ansV .u8 (s.at? loc)) ∧ Has w0 w' L := by
  obtain ⟨F, hz, hF⟩ := H.get hi
  refine (rAt_any p s loc F w hz).mono ?_
  rintro e w' ⟨rfl, rfl⟩
  exact ⟨rfl, H⟩
theorem rof_has (H : Has w0 w L) (i p : Nat) (s : PS) (hi : L[i]? = some (RPlcA w0.heap.size p s)) (a : Int) :
    Calls Try.prog 21 #[.pointer (some ⟨p, 0, none⟩), .int .u8 a] w fun e w' => e = .returned (ansV .u16 (s.of? a)) ∧ Has w0 w' L := by
  obtain ⟨F, hz, hF⟩ := H.get hi
  refine (rOf_any p s a F w hz).mono ?_
  rintro e w' ⟨rfl, rfl⟩
  exact ⟨rfl, H⟩
theorem rplc_open (H : Has w0 w L) {i p : Nat} {s : PS} (hi : L[i]? = some (RPlcA w0.heap.size p s)) :
    ∃ A1 d1 A2 d2, (w.cell? ⟨p, 0, none⟩ = some (.slice A1 s.pairs.length d1) ∧ w.cell? ⟨p, 1, none⟩ = some (.slice A2 s.spares.length d2)) ∧ (s.pairs.length ≤ d1 ∧ d1 ≤ 9223372036854775807) ∧
      (∃ G, SeesIn w G 2 (.slice A1 s.pairs.length d1) s.pairs.length (s.pairs.flatMap shc)) ∧ ∃ G, SeesIn w G 1 (.slice A2 s.spares.length d2) s.spares.length (ints .u8 s.spares) := by
  obtain ⟨F, hz, hF⟩ := H.get hi
  obtain ⟨hok, Lv, Sv, Bv, hp⟩ := (show RPRep w F p s from hz)
  have hs0 := HasF.start hp
  obtain ⟨c0, c1, c2, -⟩ := blk3 (hs0.blk (i := 0) rfl)
  obtain ⟨G1, hs1, A1, d1, rfl, hb1, hb1'⟩ := hs0.own (i := 1) rfl
  obtain ⟨G2, hs2, A2, d2, rfl, hb2, hb2'⟩ := hs0.sees (i := 2) rfl
  exact ⟨A1, d1, A2, d2, ⟨c0, c1⟩, ⟨hb1, hb1'⟩, ⟨G1, hs1⟩, G2, hs2⟩
theorem spares_keep (H : Has w0 w L) (i p : Nat) (s : PS) (hi : L[i]? = some (PlcA w0.heap.size p s)) :
    Calls Try.prog 23 #[.pointer (some ⟨p, 0, none⟩)] w fun e w' => ∃ A c, e = .returned (.slice A s.spares.length c) ∧ s.spares.length ≤ c ∧ c ≤ 9223372036854775807 ∧ Keep none_ w w' ∧ (convert 22 9 (.slice A s.spares.length c)).run Try.prog w' = .ok (.string (strOfNums s.spares)) w' := by
  obtain ⟨F, hz, hF⟩ := H.get hi
  refine (spares_any p s F w hz).mono ?_
  rintro e w' ⟨v, rfl, hk, ho⟩
  obtain ⟨A, c, rfl, h1, h2⟩ := ho.len
  exact ⟨A, c, rfl, h1, by unfold maxLen at h2; omega, hk, str_sees ho.sees⟩
end
end Go.Proofs.Ytbcjmgocdplfnaa
