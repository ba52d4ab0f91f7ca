/-
  No cell of these rows narrows 'for every input' (looked for: loops, veiled, ifaces, maps, wideKeys, modest, calm, conditions, laid).
  DERIVED. THE GIVEN ROWS OF THIS SEAT. 7 by the template 'for every input the law returns true; each argument reads behind the call as it read before'; 0 by the template 'total and deterministic' (their statements: YtienodnkfohakaaTotals.lean).
  GIVEN WITH THE SEED: the statements are not yours to turn. If you find one false, say at which input.
  Laid BY PROGRAM, IN A SANDBOX (cutbox-rows.mjs): the forced cells as the released guide's own fill.sh prints them over the translation 2af8eeeb81102915… (all of the seat's roots in one cut). By AI agents, Wed Nov 11 2026. No macro, syntax, notation, axiom, sorry.
-/
import Derived.Test.YtienodnkfohakaaChecked
import GoSem.Claim
import GoSem.ClaimJoined
import GoSem.ClaimMapViews
import Derived.JoinedTies
import Derived.KernelRfl
namespace Go.Proofs.Ytienodnkfohakaa
/- THE CELL 'sum', in the pinned program and in every row, IS THE sha256 OF THE DUMP (.gsa) THAT YtienodnkfohakaaProg.lean LOADS. Nothing in Lean hashes anything: it is a label: what it is worth is what the hold of that sum in a sandbox is worth. -/
noncomputable def Try.pinned : Pinned := { name := "ytienodnkfohakaa", sum := "2af8eeeb811029157bdaa04673b7ad8d5e0db895b806dca3ff812b61a72b370e", checked := Try.checked }
namespace Rows
def none {H : Type} : Left H := { results := [], args := [] }

/-- 'lamplightlaw17.WallWhole': WHATEVER THE INPUT: true; the input reads as it did. -/
def wallWholeSpec : ChangeSpec := { name := "wallWhole", fn := fun _ => fun
  | [d1, d2] => { results := [.lit (.bool true)], args := [d1, d2] }
  | _ => none }
def wallWholeRow : OpenClaim := { program := "ytienodnkfohakaa", sum := "2af8eeeb811029157bdaa04673b7ad8d5e0db895b806dca3ff812b61a72b370e", func := "lamplight/lamplightlaw17.WallWhole", spec := "wallWhole", unfollowed := true, recurses := true, apart := false }
def WallWholeSaid : Prop := wallWholeRow.holds Try.pinned (OpenSpec.ofChange wallWholeSpec)

/-- ITS FALSE NEIGHBOUR: 'it returns false'. Refute it at one input. -/
def wallWholeWrong : ChangeSpec := { name := "wallWhole", fn := fun _ => fun
  | [d1, d2] => { results := [.lit (.bool false)], args := [d1, d2] }
  | _ => none }
def WallWholeWrongFalsely : Prop := wallWholeRow.holds Try.pinned (OpenSpec.ofChange wallWholeWrong)

/-- 'lamplightlaw17.WallTurns': WHATEVER THE INPUT: true; the input reads as it did. -/
def wallTurnsSpec : ChangeSpec := { name := "wallTurns", fn := fun _ => fun
  | [d1, d2] => { results := [.lit (.bool true)], args := [d1, d2] }
  | _ => none }
def wallTurnsRow : OpenClaim := { program := "ytienodnkfohakaa", sum := "2af8eeeb811029157bdaa04673b7ad8d5e0db895b806dca3ff812b61a72b370e", func := "lamplight/lamplightlaw17.WallTurns", spec := "wallTurns", unfollowed := true, recurses := true, apart := false }
def WallTurnsSaid : Prop := wallTurnsRow.holds Try.pinned (OpenSpec.ofChange wallTurnsSpec)

/-- ITS FALSE NEIGHBOUR: 'it returns false'. Refute it at one input. -/
def wallTurnsWrong : ChangeSpec := { name := "wallTurns", fn := fun _ => fun
  | [d1, d2] => { results := [.lit (.bool false)], args := [d1, d2] }
  | _ => none }
def WallTurnsWrongFalsely : Prop := wallTurnsRow.holds Try.pinned (OpenSpec.ofChange wallTurnsWrong)

/-- 'lamplightlaw17.WallOne': WHATEVER THE INPUT: true; the input reads as it did. -/
def wallOneSpec : ChangeSpec := { name := "wallOne", fn := fun _ => fun
  | [d1, d2] => { results := [.lit (.bool true)], args := [d1, d2] }
  | _ => none }
def wallOneRow : OpenClaim := { program := "ytienodnkfohakaa", sum := "2af8eeeb811029157bdaa04673b7ad8d5e0db895b806dca3ff812b61a72b370e", func := "lamplight/lamplightlaw17.WallOne", spec := "wallOne", unfollowed := true, recurses := true, apart := false }
def WallOneSaid : Prop := wallOneRow.holds Try.pinned (OpenSpec.ofChange wallOneSpec)

/-- ITS FALSE NEIGHBOUR: 'it returns false'. Refute it at one input. -/
def wallOneWrong : ChangeSpec := { name := "wallOne", fn := fun _ => fun
  | [d1, d2] => { results := [.lit (.bool false)], args := [d1, d2] }
  | _ => none }
def WallOneWrongFalsely : Prop := wallOneRow.holds Try.pinned (OpenSpec.ofChange wallOneWrong)

/-- 'lamplightlaw17.WallScan': WHATEVER THE INPUT: true; the input reads as it did. -/
def wallScanSpec : ChangeSpec := { name := "wallScan", fn := fun _ => fun
  | [d1, d2, d3] => { results := [.lit (.bool true)], args := [d1, d2, d3] }
  | _ => none }
def wallScanRow : OpenClaim := { program := "ytienodnkfohakaa", sum := "2af8eeeb811029157bdaa04673b7ad8d5e0db895b806dca3ff812b61a72b370e", func := "lamplight/lamplightlaw17.WallScan", spec := "wallScan", unfollowed := true, recurses := true, apart := false }
def WallScanSaid : Prop := wallScanRow.holds Try.pinned (OpenSpec.ofChange wallScanSpec)

/-- ITS FALSE NEIGHBOUR: 'it returns false'. Refute it at one input. -/
def wallScanWrong : ChangeSpec := { name := "wallScan", fn := fun _ => fun
  | [d1, d2, d3] => { results := [.lit (.bool false)], args := [d1, d2, d3] }
  | _ => none }
def WallScanWrongFalsely : Prop := wallScanRow.holds Try.pinned (OpenSpec.ofChange wallScanWrong)

/-- 'lamplightlaw17.WallOwn': WHATEVER THE INPUT: true; the input reads as it did. -/
def wallOwnSpec : ChangeSpec := { name := "wallOwn", fn := fun _ => fun
  | [d] => { results := [.lit (.bool true)], args := [d] }
  | _ => none }
def wallOwnRow : OpenClaim := { program := "ytienodnkfohakaa", sum := "2af8eeeb811029157bdaa04673b7ad8d5e0db895b806dca3ff812b61a72b370e", func := "lamplight/lamplightlaw17.WallOwn", spec := "wallOwn", unfollowed := true, recurses := true, apart := false }
def WallOwnSaid : Prop := wallOwnRow.holds Try.pinned (OpenSpec.ofChange wallOwnSpec)

/-- ITS FALSE NEIGHBOUR: 'it returns false'. Refute it at one input. -/
def wallOwnWrong : ChangeSpec := { name := "wallOwn", fn := fun _ => fun
  | [d] => { results := [.lit (.bool false)], args := [d] }
  | _ => none }
def WallOwnWrongFalsely : Prop := wallOwnRow.holds Try.pinned (OpenSpec.ofChange wallOwnWrong)

/-- 'lamplightlaw17.WallTells': WHATEVER THE INPUT: true; the input reads as it did. -/
def wallTellsSpec : ChangeSpec := { name := "wallTells", fn := fun _ => fun
  | [d1, d2] => { results := [.lit (.bool true)], args := [d1, d2] }
  | _ => none }
def wallTellsRow : OpenClaim := { program := "ytienodnkfohakaa", sum := "2af8eeeb811029157bdaa04673b7ad8d5e0db895b806dca3ff812b61a72b370e", func := "lamplight/lamplightlaw17.WallTells", spec := "wallTells", unfollowed := true, recurses := true, apart := false }
def WallTellsSaid : Prop := wallTellsRow.holds Try.pinned (OpenSpec.ofChange wallTellsSpec)

/-- ITS FALSE NEIGHBOUR: 'it returns false'. Refute it at one input. -/
def wallTellsWrong : ChangeSpec := { name := "wallTells", fn := fun _ => fun
  | [d1, d2] => { results := [.lit (.bool false)], args := [d1, d2] }
  | _ => none }
def WallTellsWrongFalsely : Prop := wallTellsRow.holds Try.pinned (OpenSpec.ofChange wallTellsWrong)

/-- 'lamplightlaw17.WallNeeds': WHATEVER THE INPUT: true; the input reads as it did. -/
def wallNeedsSpec : ChangeSpec := { name := "wallNeeds", fn := fun _ => fun
  | [d1, d2] => { results := [.lit (.bool true)], args := [d1, d2] }
  | _ => none }
def wallNeedsRow : OpenClaim := { program := "ytienodnkfohakaa", sum := "2af8eeeb811029157bdaa04673b7ad8d5e0db895b806dca3ff812b61a72b370e", func := "lamplight/lamplightlaw17.WallNeeds", spec := "wallNeeds", unfollowed := true, recurses := true, apart := false }
def WallNeedsSaid : Prop := wallNeedsRow.holds Try.pinned (OpenSpec.ofChange wallNeedsSpec)

/-- ITS FALSE NEIGHBOUR: 'it returns false'. Refute it at one input. -/
def wallNeedsWrong : ChangeSpec := { name := "wallNeeds", fn := fun _ => fun
  | [d1, d2] => { results := [.lit (.bool false)], args := [d1, d2] }
  | _ => none }
def WallNeedsWrongFalsely : Prop := wallNeedsRow.holds Try.pinned (OpenSpec.ofChange wallNeedsWrong)

/- THE SECOND FORM. 'bulk': how many values and letters a reading holds, each counted each time it is reached (what is shared counts as often as it is met; a slice's spare places count too). A statement '..UptoSaid' is the law's where the arguments, and the package variables that the reading takes, are together of bulk at most 1048576: NARROWER than '..Said'. Prove '..Said' where nothing that the law and all that it calls make is longer than what came in: it says more and counts as full. Else prove '..UptoSaid'. A law counts once. -/
mutual
def uptoBulk {H : Type} : DataW H → Nat
  | .lit (.string bytes) => bytes.length + 1
  | .lit _ => 1
  | .nil => 1
  | .ptr d => uptoBulk d + 1
  | .slice elems spare => uptoBulkAll elems + uptoBulkAll spare + 1
  | .agg parts => uptoBulkAll parts + 1
  | .iface _ d => uptoBulk d + 1
  | .map entries => uptoBulkEntries entries + 1
  | .held _ => 1
def uptoBulkAll {H : Type} : List (DataW H) → Nat
  | [] => 0
  | d :: r => uptoBulk d + uptoBulkAll r
def uptoBulkEntries {H : Type} : List (Lit × DataW H) → Nat
  | [] => 0
  | x :: r => uptoBulkEntry x + uptoBulkEntries r
def uptoBulkEntry {H : Type} : Lit × DataW H → Nat
  | (.string bytes, d) => bytes.length + uptoBulk d + 1
  | (_, d) => uptoBulk d + 1
 end
def uptoSmall : (H : Type) → List (DataW H) → Bool := fun _ ds => decide (uptoBulkAll ds ≤ 1048576)
def OpenSpec.upto (s : _root_.Go.ChangeSpec) : _root_.Go.OpenSpec := { _root_.Go.OpenSpec.ofChange s with cond := some uptoSmall }

/-- 'lamplightlaw17.WallWhole', WHERE WHAT IT READS IS OF BULK AT MOST 1048576: true; the input reads as it did. -/
def wallWholeUptoRow : OpenClaim := { program := "ytienodnkfohakaa", sum := "2af8eeeb811029157bdaa04673b7ad8d5e0db895b806dca3ff812b61a72b370e", func := "lamplight/lamplightlaw17.WallWhole", spec := "wallWhole", unfollowed := true, recurses := true, apart := false, narrowed := true }
def WallWholeUptoSaid : Prop := wallWholeUptoRow.holds Try.pinned (OpenSpec.upto wallWholeSpec)

/-- 'lamplightlaw17.WallTurns', WHERE WHAT IT READS IS OF BULK AT MOST 1048576: true; the input reads as it did. -/
def wallTurnsUptoRow : OpenClaim := { program := "ytienodnkfohakaa", sum := "2af8eeeb811029157bdaa04673b7ad8d5e0db895b806dca3ff812b61a72b370e", func := "lamplight/lamplightlaw17.WallTurns", spec := "wallTurns", unfollowed := true, recurses := true, apart := false, narrowed := true }
def WallTurnsUptoSaid : Prop := wallTurnsUptoRow.holds Try.pinned (OpenSpec.upto wallTurnsSpec)

/-- 'lamplightlaw17.WallOne', WHERE WHAT IT READS IS OF BULK AT MOST 1048576: true; the input reads as it did. -/
def wallOneUptoRow : OpenClaim := { program := "ytienodnkfohakaa", sum := "2af8eeeb811029157bdaa04673b7ad8d5e0db895b806dca3ff812b61a72b370e", func := "lamplight/lamplightlaw17.WallOne", spec := "wallOne", unfollowed := true, recurses := true, apart := false, narrowed := true }
def WallOneUptoSaid : Prop := wallOneUptoRow.holds Try.pinned (OpenSpec.upto wallOneSpec)

/-- 'lamplightlaw17.WallScan', WHERE WHAT IT READS IS OF BULK AT MOST 1048576: true; the input reads as it did. -/
def wallScanUptoRow : OpenClaim := { program := "ytienodnkfohakaa", sum := "2af8eeeb811029157bdaa04673b7ad8d5e0db895b806dca3ff812b61a72b370e", func := "lamplight/lamplightlaw17.WallScan", spec := "wallScan", unfollowed := true, recurses := true, apart := false, narrowed := true }
def WallScanUptoSaid : Prop := wallScanUptoRow.holds Try.pinned (OpenSpec.upto wallScanSpec)

/-- 'lamplightlaw17.WallOwn', WHERE WHAT IT READS IS OF BULK AT MOST 1048576: true; the input reads as it did. -/
def wallOwnUptoRow : OpenClaim := { program := "ytienodnkfohakaa", sum := "2af8eeeb811029157bdaa04673b7ad8d5e0db895b806dca3ff812b61a72b370e", func := "lamplight/lamplightlaw17.WallOwn", spec := "wallOwn", unfollowed := true, recurses := true, apart := false, narrowed := true }
def WallOwnUptoSaid : Prop := wallOwnUptoRow.holds Try.pinned (OpenSpec.upto wallOwnSpec)

/-- 'lamplightlaw17.WallTells', WHERE WHAT IT READS IS OF BULK AT MOST 1048576: true; the input reads as it did. -/
def wallTellsUptoRow : OpenClaim := { program := "ytienodnkfohakaa", sum := "2af8eeeb811029157bdaa04673b7ad8d5e0db895b806dca3ff812b61a72b370e", func := "lamplight/lamplightlaw17.WallTells", spec := "wallTells", unfollowed := true, recurses := true, apart := false, narrowed := true }
def WallTellsUptoSaid : Prop := wallTellsUptoRow.holds Try.pinned (OpenSpec.upto wallTellsSpec)

/-- 'lamplightlaw17.WallNeeds', WHERE WHAT IT READS IS OF BULK AT MOST 1048576: true; the input reads as it did. -/
def wallNeedsUptoRow : OpenClaim := { program := "ytienodnkfohakaa", sum := "2af8eeeb811029157bdaa04673b7ad8d5e0db895b806dca3ff812b61a72b370e", func := "lamplight/lamplightlaw17.WallNeeds", spec := "wallNeeds", unfollowed := true, recurses := true, apart := false, narrowed := true }
def WallNeedsUptoSaid : Prop := wallNeedsUptoRow.holds Try.pinned (OpenSpec.upto wallNeedsSpec)

end Rows
end Go.Proofs.Ytienodnkfohakaa
