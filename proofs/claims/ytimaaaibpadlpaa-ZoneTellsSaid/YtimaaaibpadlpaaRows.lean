/-
  No cell of these rows narrows 'for every input' (looked for: loops, veiled, ifaces, maps, wideKeys, modest, calm, conditions, laid).
  DERIVED. THE GIVEN ROWS OF THIS SEAT. 5 by the template 'for every input the law returns true; each argument reads behind the call as it read before'; 0 by the template 'total and deterministic' (their statements: YtimaaaibpadlpaaTotals.lean).
  GIVEN WITH THE SEED: the statements are not yours to turn. If you find one false, say at which input.
  Laid BY PROGRAM, IN A SANDBOX (cutbox-rows.mjs): the forced cells as the released guide's own fill.sh prints them over the translation 235244a3ee771500… (all of the seat's roots in one cut). By AI agents, Wed Nov 11 2026. No macro, syntax, notation, axiom, sorry.
-/
import Derived.Test.YtimaaaibpadlpaaChecked
import GoSem.Claim
import GoSem.ClaimJoined
import GoSem.ClaimMapViews
import Derived.JoinedTies
import Derived.KernelRfl
namespace Go.Proofs.Ytimaaaibpadlpaa
/- THE CELL 'sum', in the pinned program and in every row, IS THE sha256 OF THE DUMP (.gsa) THAT YtimaaaibpadlpaaProg.lean LOADS. Nothing in Lean hashes anything: it is a label: what it is worth is what the hold of that sum in a sandbox is worth. -/
noncomputable def Try.pinned : Pinned := { name := "ytimaaaibpadlpaa", sum := "235244a3ee7715004cf096821c45c99332de4431475cadeb70bf8b0155e5878b", checked := Try.checked }
namespace Rows
def none {H : Type} : Left H := { results := [], args := [] }

/-- 'lamplightlaw16.ZoneOwn': WHATEVER THE INPUT: true; the input reads as it did. -/
def zoneOwnSpec : ChangeSpec := { name := "zoneOwn", fn := fun _ => fun
  | [d] => { results := [.lit (.bool true)], args := [d] }
  | _ => none }
def zoneOwnRow : OpenClaim := { program := "ytimaaaibpadlpaa", sum := "235244a3ee7715004cf096821c45c99332de4431475cadeb70bf8b0155e5878b", func := "lamplight/lamplightlaw16.ZoneOwn", spec := "zoneOwn", unfollowed := true, recurses := true, apart := false }
def ZoneOwnSaid : Prop := zoneOwnRow.holds Try.pinned (OpenSpec.ofChange zoneOwnSpec)

/-- ITS FALSE NEIGHBOUR: 'it returns false'. Refute it at one input. -/
def zoneOwnWrong : ChangeSpec := { name := "zoneOwn", fn := fun _ => fun
  | [d] => { results := [.lit (.bool false)], args := [d] }
  | _ => none }
def ZoneOwnWrongFalsely : Prop := zoneOwnRow.holds Try.pinned (OpenSpec.ofChange zoneOwnWrong)

/-- 'lamplightlaw16.ZoneShort': WHATEVER THE INPUT: true; the input reads as it did. -/
def zoneShortSpec : ChangeSpec := { name := "zoneShort", fn := fun _ => fun
  | [d1, d2, d3] => { results := [.lit (.bool true)], args := [d1, d2, d3] }
  | _ => none }
def zoneShortRow : OpenClaim := { program := "ytimaaaibpadlpaa", sum := "235244a3ee7715004cf096821c45c99332de4431475cadeb70bf8b0155e5878b", func := "lamplight/lamplightlaw16.ZoneShort", spec := "zoneShort", unfollowed := true, recurses := true, apart := false }
def ZoneShortSaid : Prop := zoneShortRow.holds Try.pinned (OpenSpec.ofChange zoneShortSpec)

/-- ITS FALSE NEIGHBOUR: 'it returns false'. Refute it at one input. -/
def zoneShortWrong : ChangeSpec := { name := "zoneShort", fn := fun _ => fun
  | [d1, d2, d3] => { results := [.lit (.bool false)], args := [d1, d2, d3] }
  | _ => none }
def ZoneShortWrongFalsely : Prop := zoneShortRow.holds Try.pinned (OpenSpec.ofChange zoneShortWrong)

/-- 'lamplightlaw16.ZoneTells': WHATEVER THE INPUT: true; the input reads as it did. -/
def zoneTellsSpec : ChangeSpec := { name := "zoneTells", fn := fun _ => fun
  | [d1, d2] => { results := [.lit (.bool true)], args := [d1, d2] }
  | _ => none }
def zoneTellsRow : OpenClaim := { program := "ytimaaaibpadlpaa", sum := "235244a3ee7715004cf096821c45c99332de4431475cadeb70bf8b0155e5878b", func := "lamplight/lamplightlaw16.ZoneTells", spec := "zoneTells", unfollowed := true, recurses := true, apart := false }
def ZoneTellsSaid : Prop := zoneTellsRow.holds Try.pinned (OpenSpec.ofChange zoneTellsSpec)

/-- ITS FALSE NEIGHBOUR: 'it returns false'. Refute it at one input. -/
def zoneTellsWrong : ChangeSpec := { name := "zoneTells", fn := fun _ => fun
  | [d1, d2] => { results := [.lit (.bool false)], args := [d1, d2] }
  | _ => none }
def ZoneTellsWrongFalsely : Prop := zoneTellsRow.holds Try.pinned (OpenSpec.ofChange zoneTellsWrong)

/-- 'lamplightlaw16.ZoneAll': WHATEVER THE INPUT: true; the input reads as it did. -/
def zoneAllSpec : ChangeSpec := { name := "zoneAll", fn := fun _ => fun
  | [d1, d2] => { results := [.lit (.bool true)], args := [d1, d2] }
  | _ => none }
def zoneAllRow : OpenClaim := { program := "ytimaaaibpadlpaa", sum := "235244a3ee7715004cf096821c45c99332de4431475cadeb70bf8b0155e5878b", func := "lamplight/lamplightlaw16.ZoneAll", spec := "zoneAll", unfollowed := true, recurses := true, apart := false }
def ZoneAllSaid : Prop := zoneAllRow.holds Try.pinned (OpenSpec.ofChange zoneAllSpec)

/-- ITS FALSE NEIGHBOUR: 'it returns false'. Refute it at one input. -/
def zoneAllWrong : ChangeSpec := { name := "zoneAll", fn := fun _ => fun
  | [d1, d2] => { results := [.lit (.bool false)], args := [d1, d2] }
  | _ => none }
def ZoneAllWrongFalsely : Prop := zoneAllRow.holds Try.pinned (OpenSpec.ofChange zoneAllWrong)

/-- 'lamplightlaw16.ZoneVisits': WHATEVER THE INPUT: true; the input reads as it did. -/
def zoneVisitsSpec : ChangeSpec := { name := "zoneVisits", fn := fun _ => fun
  | [d1, d2, d3] => { results := [.lit (.bool true)], args := [d1, d2, d3] }
  | _ => none }
def zoneVisitsRow : OpenClaim := { program := "ytimaaaibpadlpaa", sum := "235244a3ee7715004cf096821c45c99332de4431475cadeb70bf8b0155e5878b", func := "lamplight/lamplightlaw16.ZoneVisits", spec := "zoneVisits", unfollowed := true, recurses := true, apart := false }
def ZoneVisitsSaid : Prop := zoneVisitsRow.holds Try.pinned (OpenSpec.ofChange zoneVisitsSpec)

/-- ITS FALSE NEIGHBOUR: 'it returns false'. Refute it at one input. -/
def zoneVisitsWrong : ChangeSpec := { name := "zoneVisits", fn := fun _ => fun
  | [d1, d2, d3] => { results := [.lit (.bool false)], args := [d1, d2, d3] }
  | _ => none }
def ZoneVisitsWrongFalsely : Prop := zoneVisitsRow.holds Try.pinned (OpenSpec.ofChange zoneVisitsWrong)

/- THE SECOND FORM. 'bulk': how many values and letters a reading holds, each counted each time it is reached (what is shared counts as often as it is met; a slice's spare places count too). A statement '..UptoSaid' is the law's where the arguments, and the package variables that the reading takes, are together of bulk at most 1048576: NARROWER than '..Said'. Prove '..Said' where nothing that the law and all that it calls make is longer than what came in: it says more and counts as full. Else prove '..UptoSaid'. A law counts once. -/
mutual
def uptoBulk {H : Type} : DataW H → Nat
  | .lit (.string bytes) => bytes.length + 1
  | .lit _ => 1
  | .nil => 1
  | .ptr d => uptoBulk d + 1
  | .slice elems spare => uptoBulkAll elems + uptoBulkAll spare + 1
  | .agg parts => uptoBulkAll parts + 1
  | .iface _ d => uptoBulk d + 1
  | .map entries => uptoBulkEntries entries + 1
  | .held _ => 1
def uptoBulkAll {H : Type} : List (DataW H) → Nat
  | [] => 0
  | d :: r => uptoBulk d + uptoBulkAll r
def uptoBulkEntries {H : Type} : List (Lit × DataW H) → Nat
  | [] => 0
  | x :: r => uptoBulkEntry x + uptoBulkEntries r
def uptoBulkEntry {H : Type} : Lit × DataW H → Nat
  | (.string bytes, d) => bytes.length + uptoBulk d + 1
  | (_, d) => uptoBulk d + 1
 end
def uptoSmall : (H : Type) → List (DataW H) → Bool := fun _ ds => decide (uptoBulkAll ds ≤ 1048576)
def OpenSpec.upto (s : _root_.Go.ChangeSpec) : _root_.Go.OpenSpec := { _root_.Go.OpenSpec.ofChange s with cond := some uptoSmall }

/-- 'lamplightlaw16.ZoneOwn', WHERE WHAT IT READS IS OF BULK AT MOST 1048576: true; the input reads as it did. -/
def zoneOwnUptoRow : OpenClaim := { program := "ytimaaaibpadlpaa", sum := "235244a3ee7715004cf096821c45c99332de4431475cadeb70bf8b0155e5878b", func := "lamplight/lamplightlaw16.ZoneOwn", spec := "zoneOwn", unfollowed := true, recurses := true, apart := false, narrowed := true }
def ZoneOwnUptoSaid : Prop := zoneOwnUptoRow.holds Try.pinned (OpenSpec.upto zoneOwnSpec)

/-- 'lamplightlaw16.ZoneShort', WHERE WHAT IT READS IS OF BULK AT MOST 1048576: true; the input reads as it did. -/
def zoneShortUptoRow : OpenClaim := { program := "ytimaaaibpadlpaa", sum := "235244a3ee7715004cf096821c45c99332de4431475cadeb70bf8b0155e5878b", func := "lamplight/lamplightlaw16.ZoneShort", spec := "zoneShort", unfollowed := true, recurses := true, apart := false, narrowed := true }
def ZoneShortUptoSaid : Prop := zoneShortUptoRow.holds Try.pinned (OpenSpec.upto zoneShortSpec)

/-- 'lamplightlaw16.ZoneTells', WHERE WHAT IT READS IS OF BULK AT MOST 1048576: true; the input reads as it did. -/
def zoneTellsUptoRow : OpenClaim := { program := "ytimaaaibpadlpaa", sum := "235244a3ee7715004cf096821c45c99332de4431475cadeb70bf8b0155e5878b", func := "lamplight/lamplightlaw16.ZoneTells", spec := "zoneTells", unfollowed := true, recurses := true, apart := false, narrowed := true }
def ZoneTellsUptoSaid : Prop := zoneTellsUptoRow.holds Try.pinned (OpenSpec.upto zoneTellsSpec)

/-- 'lamplightlaw16.ZoneAll', WHERE WHAT IT READS IS OF BULK AT MOST 1048576: true; the input reads as it did. -/
def zoneAllUptoRow : OpenClaim := { program := "ytimaaaibpadlpaa", sum := "235244a3ee7715004cf096821c45c99332de4431475cadeb70bf8b0155e5878b", func := "lamplight/lamplightlaw16.ZoneAll", spec := "zoneAll", unfollowed := true, recurses := true, apart := false, narrowed := true }
def ZoneAllUptoSaid : Prop := zoneAllUptoRow.holds Try.pinned (OpenSpec.upto zoneAllSpec)

/-- 'lamplightlaw16.ZoneVisits', WHERE WHAT IT READS IS OF BULK AT MOST 1048576: true; the input reads as it did. -/
def zoneVisitsUptoRow : OpenClaim := { program := "ytimaaaibpadlpaa", sum := "235244a3ee7715004cf096821c45c99332de4431475cadeb70bf8b0155e5878b", func := "lamplight/lamplightlaw16.ZoneVisits", spec := "zoneVisits", unfollowed := true, recurses := true, apart := false, narrowed := true }
def ZoneVisitsUptoSaid : Prop := zoneVisitsUptoRow.holds Try.pinned (OpenSpec.upto zoneVisitsSpec)

end Rows
end Go.Proofs.Ytimaaaibpadlpaa
