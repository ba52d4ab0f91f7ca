/-
  No cell of these rows narrows 'for every input' (looked for: loops, veiled, ifaces, maps, wideKeys, modest, calm, conditions, laid).
  DERIVED. THE GIVEN ROWS OF THIS SEAT. 6 by the template 'for every input the law returns true; each argument reads behind the call as it read before'; 0 by the template 'total and deterministic' (their statements: YtbcjmgocdplfnaaTotals.lean).
  GIVEN WITH THE SEED: the statements are not yours to turn. If you find one false, say at which input.
  Laid BY PROGRAM, IN A SANDBOX (cutbox-rows.mjs): the forced cells as the released guide's own fill.sh prints them over the translation 648eb1ffd8a088b3… (all of the seat's roots in one cut). By AI agents, Wed Nov 11 2026. No macro, syntax, notation, axiom, sorry.
-/
import Derived.Test.YtbcjmgocdplfnaaChecked
import GoSem.Claim
import GoSem.ClaimJoined
import GoSem.ClaimMapViews
import Derived.JoinedTies
import Derived.KernelRfl
namespace Go.Proofs.Ytbcjmgocdplfnaa
/- THE CELL 'sum', in the pinned program and in every row, IS THE sha256 OF THE DUMP (.gsa) THAT YtbcjmgocdplfnaaProg.lean LOADS. Nothing in Lean hashes anything: it is a label: what it is worth is what the hold of that sum in a sandbox is worth. -/
noncomputable def Try.pinned : Pinned := { name := "ytbcjmgocdplfnaa", sum := "648eb1ffd8a088b33a458ea9358ff3896a9f53a607b1e1554658e4ef19a127e1", checked := Try.checked }
namespace Rows
def none {H : Type} : Left H := { results := [], args := [] }

/-- 'lamplightlaw12.PlacePlays': WHATEVER THE INPUT: true; the input reads as it did. -/
def placePlaysSpec : ChangeSpec := { name := "placePlays", fn := fun _ => fun
  | [d1, d2] => { results := [.lit (.bool true)], args := [d1, d2] }
  | _ => none }
def placePlaysRow : OpenClaim := { program := "ytbcjmgocdplfnaa", sum := "648eb1ffd8a088b33a458ea9358ff3896a9f53a607b1e1554658e4ef19a127e1", func := "lamplight/lamplightlaw12.PlacePlays", spec := "placePlays", unfollowed := true, recurses := true, apart := false }
def PlacePlaysSaid : Prop := placePlaysRow.holds Try.pinned (OpenSpec.ofChange placePlaysSpec)

/-- ITS FALSE NEIGHBOUR: 'it returns false'. Refute it at one input. -/
def placePlaysWrong : ChangeSpec := { name := "placePlays", fn := fun _ => fun
  | [d1, d2] => { results := [.lit (.bool false)], args := [d1, d2] }
  | _ => none }
def PlacePlaysWrongFalsely : Prop := placePlaysRow.holds Try.pinned (OpenSpec.ofChange placePlaysWrong)

/-- 'lamplightlaw12.PlaceStays': WHATEVER THE INPUT: true; the input reads as it did. -/
def placeStaysSpec : ChangeSpec := { name := "placeStays", fn := fun _ => fun
  | [d1, d2] => { results := [.lit (.bool true)], args := [d1, d2] }
  | _ => none }
def placeStaysRow : OpenClaim := { program := "ytbcjmgocdplfnaa", sum := "648eb1ffd8a088b33a458ea9358ff3896a9f53a607b1e1554658e4ef19a127e1", func := "lamplight/lamplightlaw12.PlaceStays", spec := "placeStays", unfollowed := true, recurses := true, apart := false }
def PlaceStaysSaid : Prop := placeStaysRow.holds Try.pinned (OpenSpec.ofChange placeStaysSpec)

/-- ITS FALSE NEIGHBOUR: 'it returns false'. Refute it at one input. -/
def placeStaysWrong : ChangeSpec := { name := "placeStays", fn := fun _ => fun
  | [d1, d2] => { results := [.lit (.bool false)], args := [d1, d2] }
  | _ => none }
def PlaceStaysWrongFalsely : Prop := placeStaysRow.holds Try.pinned (OpenSpec.ofChange placeStaysWrong)

/-- 'lamplightlaw12.PlaceMoves': WHATEVER THE INPUT: true; the input reads as it did. -/
def placeMovesSpec : ChangeSpec := { name := "placeMoves", fn := fun _ => fun
  | [d1, d2, d3] => { results := [.lit (.bool true)], args := [d1, d2, d3] }
  | _ => none }
def placeMovesRow : OpenClaim := { program := "ytbcjmgocdplfnaa", sum := "648eb1ffd8a088b33a458ea9358ff3896a9f53a607b1e1554658e4ef19a127e1", func := "lamplight/lamplightlaw12.PlaceMoves", spec := "placeMoves", unfollowed := true, recurses := true, apart := false }
def PlaceMovesSaid : Prop := placeMovesRow.holds Try.pinned (OpenSpec.ofChange placeMovesSpec)

/-- ITS FALSE NEIGHBOUR: 'it returns false'. Refute it at one input. -/
def placeMovesWrong : ChangeSpec := { name := "placeMoves", fn := fun _ => fun
  | [d1, d2, d3] => { results := [.lit (.bool false)], args := [d1, d2, d3] }
  | _ => none }
def PlaceMovesWrongFalsely : Prop := placeMovesRow.holds Try.pinned (OpenSpec.ofChange placeMovesWrong)

/-- 'lamplightlaw12.PlaceCounts': WHATEVER THE INPUT: true; the input reads as it did. -/
def placeCountsSpec : ChangeSpec := { name := "placeCounts", fn := fun _ => fun
  | [d1, d2] => { results := [.lit (.bool true)], args := [d1, d2] }
  | _ => none }
def placeCountsRow : OpenClaim := { program := "ytbcjmgocdplfnaa", sum := "648eb1ffd8a088b33a458ea9358ff3896a9f53a607b1e1554658e4ef19a127e1", func := "lamplight/lamplightlaw12.PlaceCounts", spec := "placeCounts", unfollowed := true, recurses := true, apart := false }
def PlaceCountsSaid : Prop := placeCountsRow.holds Try.pinned (OpenSpec.ofChange placeCountsSpec)

/-- ITS FALSE NEIGHBOUR: 'it returns false'. Refute it at one input. -/
def placeCountsWrong : ChangeSpec := { name := "placeCounts", fn := fun _ => fun
  | [d1, d2] => { results := [.lit (.bool false)], args := [d1, d2] }
  | _ => none }
def PlaceCountsWrongFalsely : Prop := placeCountsRow.holds Try.pinned (OpenSpec.ofChange placeCountsWrong)

/-- 'lamplightlaw12.PlaceRound': WHATEVER THE INPUT: true; the input reads as it did. -/
def placeRoundSpec : ChangeSpec := { name := "placeRound", fn := fun _ => fun
  | [d1, d2] => { results := [.lit (.bool true)], args := [d1, d2] }
  | _ => none }
def placeRoundRow : OpenClaim := { program := "ytbcjmgocdplfnaa", sum := "648eb1ffd8a088b33a458ea9358ff3896a9f53a607b1e1554658e4ef19a127e1", func := "lamplight/lamplightlaw12.PlaceRound", spec := "placeRound", unfollowed := true, recurses := true, apart := false }
def PlaceRoundSaid : Prop := placeRoundRow.holds Try.pinned (OpenSpec.ofChange placeRoundSpec)

/-- ITS FALSE NEIGHBOUR: 'it returns false'. Refute it at one input. -/
def placeRoundWrong : ChangeSpec := { name := "placeRound", fn := fun _ => fun
  | [d1, d2] => { results := [.lit (.bool false)], args := [d1, d2] }
  | _ => none }
def PlaceRoundWrongFalsely : Prop := placeRoundRow.holds Try.pinned (OpenSpec.ofChange placeRoundWrong)

/-- 'lamplightlaw12.PlaceAgain': WHATEVER THE INPUT: true; the input reads as it did. -/
def placeAgainSpec : ChangeSpec := { name := "placeAgain", fn := fun _ => fun
  | [d1, d2] => { results := [.lit (.bool true)], args := [d1, d2] }
  | _ => none }
def placeAgainRow : OpenClaim := { program := "ytbcjmgocdplfnaa", sum := "648eb1ffd8a088b33a458ea9358ff3896a9f53a607b1e1554658e4ef19a127e1", func := "lamplight/lamplightlaw12.PlaceAgain", spec := "placeAgain", unfollowed := true, recurses := true, apart := false }
def PlaceAgainSaid : Prop := placeAgainRow.holds Try.pinned (OpenSpec.ofChange placeAgainSpec)

/-- ITS FALSE NEIGHBOUR: 'it returns false'. Refute it at one input. -/
def placeAgainWrong : ChangeSpec := { name := "placeAgain", fn := fun _ => fun
  | [d1, d2] => { results := [.lit (.bool false)], args := [d1, d2] }
  | _ => none }
def PlaceAgainWrongFalsely : Prop := placeAgainRow.holds Try.pinned (OpenSpec.ofChange placeAgainWrong)

/- THE SECOND FORM. 'bulk': how many values and letters a reading holds, each counted each time it is reached (what is shared counts as often as it is met; a slice's spare places count too). A statement '..UptoSaid' is the law's where the arguments, and the package variables that the reading takes, are together of bulk at most 1048576: NARROWER than '..Said'. Prove '..Said' where nothing that the law and all that it calls make is longer than what came in: it says more and counts as full. Else prove '..UptoSaid'. A law counts once. -/
mutual
def uptoBulk {H : Type} : DataW H → Nat
  | .lit (.string bytes) => bytes.length + 1
  | .lit _ => 1
  | .nil => 1
  | .ptr d => uptoBulk d + 1
  | .slice elems spare => uptoBulkAll elems + uptoBulkAll spare + 1
  | .agg parts => uptoBulkAll parts + 1
  | .iface _ d => uptoBulk d + 1
  | .map entries => uptoBulkEntries entries + 1
  | .held _ => 1
def uptoBulkAll {H : Type} : List (DataW H) → Nat
  | [] => 0
  | d :: r => uptoBulk d + uptoBulkAll r
def uptoBulkEntries {H : Type} : List (Lit × DataW H) → Nat
  | [] => 0
  | x :: r => uptoBulkEntry x + uptoBulkEntries r
def uptoBulkEntry {H : Type} : Lit × DataW H → Nat
  | (.string bytes, d) => bytes.length + uptoBulk d + 1
  | (_, d) => uptoBulk d + 1
 end
def uptoSmall : (H : Type) → List (DataW H) → Bool := fun _ ds => decide (uptoBulkAll ds ≤ 1048576)
def OpenSpec.upto (s : _root_.Go.ChangeSpec) : _root_.Go.OpenSpec := { _root_.Go.OpenSpec.ofChange s with cond := some uptoSmall }

/-- 'lamplightlaw12.PlacePlays', WHERE WHAT IT READS IS OF BULK AT MOST 1048576: true; the input reads as it did. -/
def placePlaysUptoRow : OpenClaim := { program := "ytbcjmgocdplfnaa", sum := "648eb1ffd8a088b33a458ea9358ff3896a9f53a607b1e1554658e4ef19a127e1", func := "lamplight/lamplightlaw12.PlacePlays", spec := "placePlays", unfollowed := true, recurses := true, apart := false, narrowed := true }
def PlacePlaysUptoSaid : Prop := placePlaysUptoRow.holds Try.pinned (OpenSpec.upto placePlaysSpec)

/-- 'lamplightlaw12.PlaceStays', WHERE WHAT IT READS IS OF BULK AT MOST 1048576: true; the input reads as it did. -/
def placeStaysUptoRow : OpenClaim := { program := "ytbcjmgocdplfnaa", sum := "648eb1ffd8a088b33a458ea9358ff3896a9f53a607b1e1554658e4ef19a127e1", func := "lamplight/lamplightlaw12.PlaceStays", spec := "placeStays", unfollowed := true, recurses := true, apart := false, narrowed := true }
def PlaceStaysUptoSaid : Prop := placeStaysUptoRow.holds Try.pinned (OpenSpec.upto placeStaysSpec)

/-- 'lamplightlaw12.PlaceMoves', WHERE WHAT IT READS IS OF BULK AT MOST 1048576: true; the input reads as it did. -/
def placeMovesUptoRow : OpenClaim := { program := "ytbcjmgocdplfnaa", sum := "648eb1ffd8a088b33a458ea9358ff3896a9f53a607b1e1554658e4ef19a127e1", func := "lamplight/lamplightlaw12.PlaceMoves", spec := "placeMoves", unfollowed := true, recurses := true, apart := false, narrowed := true }
def PlaceMovesUptoSaid : Prop := placeMovesUptoRow.holds Try.pinned (OpenSpec.upto placeMovesSpec)

/-- 'lamplightlaw12.PlaceCounts', WHERE WHAT IT READS IS OF BULK AT MOST 1048576: true; the input reads as it did. -/
def placeCountsUptoRow : OpenClaim := { program := "ytbcjmgocdplfnaa", sum := "648eb1ffd8a088b33a458ea9358ff3896a9f53a607b1e1554658e4ef19a127e1", func := "lamplight/lamplightlaw12.PlaceCounts", spec := "placeCounts", unfollowed := true, recurses := true, apart := false, narrowed := true }
def PlaceCountsUptoSaid : Prop := placeCountsUptoRow.holds Try.pinned (OpenSpec.upto placeCountsSpec)

/-- 'lamplightlaw12.PlaceRound', WHERE WHAT IT READS IS OF BULK AT MOST 1048576: true; the input reads as it did. -/
def placeRoundUptoRow : OpenClaim := { program := "ytbcjmgocdplfnaa", sum := "648eb1ffd8a088b33a458ea9358ff3896a9f53a607b1e1554658e4ef19a127e1", func := "lamplight/lamplightlaw12.PlaceRound", spec := "placeRound", unfollowed := true, recurses := true, apart := false, narrowed := true }
def PlaceRoundUptoSaid : Prop := placeRoundUptoRow.holds Try.pinned (OpenSpec.upto placeRoundSpec)

/-- 'lamplightlaw12.PlaceAgain', WHERE WHAT IT READS IS OF BULK AT MOST 1048576: true; the input reads as it did. -/
def placeAgainUptoRow : OpenClaim := { program := "ytbcjmgocdplfnaa", sum := "648eb1ffd8a088b33a458ea9358ff3896a9f53a607b1e1554658e4ef19a127e1", func := "lamplight/lamplightlaw12.PlaceAgain", spec := "placeAgain", unfollowed := true, recurses := true, apart := false, narrowed := true }
def PlaceAgainUptoSaid : Prop := placeAgainUptoRow.holds Try.pinned (OpenSpec.upto placeAgainSpec)

end Rows
end Go.Proofs.Ytbcjmgocdplfnaa
