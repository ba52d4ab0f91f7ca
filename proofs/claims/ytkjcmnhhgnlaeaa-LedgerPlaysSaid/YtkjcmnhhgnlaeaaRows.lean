/-
  No cell of these rows narrows 'for every input' (looked for: loops, veiled, ifaces, maps, wideKeys, modest, calm, conditions, laid).
  DERIVED. THE GIVEN ROWS OF THIS SEAT. 8 by the template 'for every input the law returns true; each argument reads behind the call as it read before'; 0 by the template 'total and deterministic' (their statements: YtkjcmnhhgnlaeaaTotals.lean).
  GIVEN WITH THE SEED: the statements are not yours to turn. If you find one false, say at which input.
  Laid BY PROGRAM, IN A SANDBOX (cutbox-rows.mjs): the forced cells as the released guide's own fill.sh prints them over the translation 48845da10e3a8b0d… (all of the seat's roots in one cut). By AI agents, Wed Nov 11 2026. No macro, syntax, notation, axiom, sorry.
-/
import Derived.Test.YtkjcmnhhgnlaeaaChecked
import GoSem.Claim
import GoSem.ClaimJoined
import GoSem.ClaimMapViews
import Derived.JoinedTies
import Derived.KernelRfl
namespace Go.Proofs.Ytkjcmnhhgnlaeaa
/- THE CELL 'sum', in the pinned program and in every row, IS THE sha256 OF THE DUMP (.gsa) THAT YtkjcmnhhgnlaeaaProg.lean LOADS. Nothing in Lean hashes anything: it is a label: what it is worth is what the hold of that sum in a sandbox is worth. -/
noncomputable def Try.pinned : Pinned := { name := "ytkjcmnhhgnlaeaa", sum := "48845da10e3a8b0d8c47b8fb0990c82b9a4bd1ad13d6c253b5ce8aefffa6f4a6", checked := Try.checked }
namespace Rows
def none {H : Type} : Left H := { results := [], args := [] }

/-- 'lamplightlaw19.LedgerPlays': WHATEVER THE INPUT: true; the input reads as it did. -/
def ledgerPlaysSpec : ChangeSpec := { name := "ledgerPlays", fn := fun _ => fun
  | [d] => { results := [.lit (.bool true)], args := [d] }
  | _ => none }
def ledgerPlaysRow : OpenClaim := { program := "ytkjcmnhhgnlaeaa", sum := "48845da10e3a8b0d8c47b8fb0990c82b9a4bd1ad13d6c253b5ce8aefffa6f4a6", func := "lamplight/lamplightlaw19.LedgerPlays", spec := "ledgerPlays", unfollowed := true, recurses := true, apart := false }
def LedgerPlaysSaid : Prop := ledgerPlaysRow.holds Try.pinned (OpenSpec.ofChange ledgerPlaysSpec)

/-- ITS FALSE NEIGHBOUR: 'it returns false'. Refute it at one input. -/
def ledgerPlaysWrong : ChangeSpec := { name := "ledgerPlays", fn := fun _ => fun
  | [d] => { results := [.lit (.bool false)], args := [d] }
  | _ => none }
def LedgerPlaysWrongFalsely : Prop := ledgerPlaysRow.holds Try.pinned (OpenSpec.ofChange ledgerPlaysWrong)

/-- 'lamplightlaw19.LedgerHolds': WHATEVER THE INPUT: true; the input reads as it did. -/
def ledgerHoldsSpec : ChangeSpec := { name := "ledgerHolds", fn := fun _ => fun
  | [d1, d2] => { results := [.lit (.bool true)], args := [d1, d2] }
  | _ => none }
def ledgerHoldsRow : OpenClaim := { program := "ytkjcmnhhgnlaeaa", sum := "48845da10e3a8b0d8c47b8fb0990c82b9a4bd1ad13d6c253b5ce8aefffa6f4a6", func := "lamplight/lamplightlaw19.LedgerHolds", spec := "ledgerHolds", unfollowed := true, recurses := true, apart := false }
def LedgerHoldsSaid : Prop := ledgerHoldsRow.holds Try.pinned (OpenSpec.ofChange ledgerHoldsSpec)

/-- ITS FALSE NEIGHBOUR: 'it returns false'. Refute it at one input. -/
def ledgerHoldsWrong : ChangeSpec := { name := "ledgerHolds", fn := fun _ => fun
  | [d1, d2] => { results := [.lit (.bool false)], args := [d1, d2] }
  | _ => none }
def LedgerHoldsWrongFalsely : Prop := ledgerHoldsRow.holds Try.pinned (OpenSpec.ofChange ledgerHoldsWrong)

/-- 'lamplightlaw19.LedgerOrder': WHATEVER THE INPUT: true; the input reads as it did. -/
def ledgerOrderSpec : ChangeSpec := { name := "ledgerOrder", fn := fun _ => fun
  | [d1, d2, d3] => { results := [.lit (.bool true)], args := [d1, d2, d3] }
  | _ => none }
def ledgerOrderRow : OpenClaim := { program := "ytkjcmnhhgnlaeaa", sum := "48845da10e3a8b0d8c47b8fb0990c82b9a4bd1ad13d6c253b5ce8aefffa6f4a6", func := "lamplight/lamplightlaw19.LedgerOrder", spec := "ledgerOrder", unfollowed := true, recurses := true, apart := false }
def LedgerOrderSaid : Prop := ledgerOrderRow.holds Try.pinned (OpenSpec.ofChange ledgerOrderSpec)

/-- ITS FALSE NEIGHBOUR: 'it returns false'. Refute it at one input. -/
def ledgerOrderWrong : ChangeSpec := { name := "ledgerOrder", fn := fun _ => fun
  | [d1, d2, d3] => { results := [.lit (.bool false)], args := [d1, d2, d3] }
  | _ => none }
def LedgerOrderWrongFalsely : Prop := ledgerOrderRow.holds Try.pinned (OpenSpec.ofChange ledgerOrderWrong)

/-- 'lamplightlaw19.LedgerApart': WHATEVER THE INPUT: true; the input reads as it did. -/
def ledgerApartSpec : ChangeSpec := { name := "ledgerApart", fn := fun _ => fun
  | [d1, d2] => { results := [.lit (.bool true)], args := [d1, d2] }
  | _ => none }
def ledgerApartRow : OpenClaim := { program := "ytkjcmnhhgnlaeaa", sum := "48845da10e3a8b0d8c47b8fb0990c82b9a4bd1ad13d6c253b5ce8aefffa6f4a6", func := "lamplight/lamplightlaw19.LedgerApart", spec := "ledgerApart", unfollowed := true, recurses := true, apart := false }
def LedgerApartSaid : Prop := ledgerApartRow.holds Try.pinned (OpenSpec.ofChange ledgerApartSpec)

/-- ITS FALSE NEIGHBOUR: 'it returns false'. Refute it at one input. -/
def ledgerApartWrong : ChangeSpec := { name := "ledgerApart", fn := fun _ => fun
  | [d1, d2] => { results := [.lit (.bool false)], args := [d1, d2] }
  | _ => none }
def LedgerApartWrongFalsely : Prop := ledgerApartRow.holds Try.pinned (OpenSpec.ofChange ledgerApartWrong)

/-- 'lamplightlaw19.LedgerSums': WHATEVER THE INPUT: true; the input reads as it did. -/
def ledgerSumsSpec : ChangeSpec := { name := "ledgerSums", fn := fun _ => fun
  | [d1, d2] => { results := [.lit (.bool true)], args := [d1, d2] }
  | _ => none }
def ledgerSumsRow : OpenClaim := { program := "ytkjcmnhhgnlaeaa", sum := "48845da10e3a8b0d8c47b8fb0990c82b9a4bd1ad13d6c253b5ce8aefffa6f4a6", func := "lamplight/lamplightlaw19.LedgerSums", spec := "ledgerSums", unfollowed := true, recurses := true, apart := false }
def LedgerSumsSaid : Prop := ledgerSumsRow.holds Try.pinned (OpenSpec.ofChange ledgerSumsSpec)

/-- ITS FALSE NEIGHBOUR: 'it returns false'. Refute it at one input. -/
def ledgerSumsWrong : ChangeSpec := { name := "ledgerSums", fn := fun _ => fun
  | [d1, d2] => { results := [.lit (.bool false)], args := [d1, d2] }
  | _ => none }
def LedgerSumsWrongFalsely : Prop := ledgerSumsRow.holds Try.pinned (OpenSpec.ofChange ledgerSumsWrong)

/-- 'lamplightlaw19.LedgerRefuses': WHATEVER THE INPUT: true; the input reads as it did. -/
def ledgerRefusesSpec : ChangeSpec := { name := "ledgerRefuses", fn := fun _ => fun
  | [d1, d2] => { results := [.lit (.bool true)], args := [d1, d2] }
  | _ => none }
def ledgerRefusesRow : OpenClaim := { program := "ytkjcmnhhgnlaeaa", sum := "48845da10e3a8b0d8c47b8fb0990c82b9a4bd1ad13d6c253b5ce8aefffa6f4a6", func := "lamplight/lamplightlaw19.LedgerRefuses", spec := "ledgerRefuses", unfollowed := true, recurses := true, apart := false }
def LedgerRefusesSaid : Prop := ledgerRefusesRow.holds Try.pinned (OpenSpec.ofChange ledgerRefusesSpec)

/-- ITS FALSE NEIGHBOUR: 'it returns false'. Refute it at one input. -/
def ledgerRefusesWrong : ChangeSpec := { name := "ledgerRefuses", fn := fun _ => fun
  | [d1, d2] => { results := [.lit (.bool false)], args := [d1, d2] }
  | _ => none }
def LedgerRefusesWrongFalsely : Prop := ledgerRefusesRow.holds Try.pinned (OpenSpec.ofChange ledgerRefusesWrong)

/-- 'lamplightlaw19.LedgerAgain': WHATEVER THE INPUT: true; the input reads as it did. -/
def ledgerAgainSpec : ChangeSpec := { name := "ledgerAgain", fn := fun _ => fun
  | [d1, d2] => { results := [.lit (.bool true)], args := [d1, d2] }
  | _ => none }
def ledgerAgainRow : OpenClaim := { program := "ytkjcmnhhgnlaeaa", sum := "48845da10e3a8b0d8c47b8fb0990c82b9a4bd1ad13d6c253b5ce8aefffa6f4a6", func := "lamplight/lamplightlaw19.LedgerAgain", spec := "ledgerAgain", unfollowed := true, recurses := true, apart := false }
def LedgerAgainSaid : Prop := ledgerAgainRow.holds Try.pinned (OpenSpec.ofChange ledgerAgainSpec)

/-- ITS FALSE NEIGHBOUR: 'it returns false'. Refute it at one input. -/
def ledgerAgainWrong : ChangeSpec := { name := "ledgerAgain", fn := fun _ => fun
  | [d1, d2] => { results := [.lit (.bool false)], args := [d1, d2] }
  | _ => none }
def LedgerAgainWrongFalsely : Prop := ledgerAgainRow.holds Try.pinned (OpenSpec.ofChange ledgerAgainWrong)

/-- 'lamplightlaw19.LedgerFull': WHATEVER THE INPUT: true; the input reads as it did. -/
def ledgerFullSpec : ChangeSpec := { name := "ledgerFull", fn := fun _ => fun
  | [d1, d2, d3, d4] => { results := [.lit (.bool true)], args := [d1, d2, d3, d4] }
  | _ => none }
def ledgerFullRow : OpenClaim := { program := "ytkjcmnhhgnlaeaa", sum := "48845da10e3a8b0d8c47b8fb0990c82b9a4bd1ad13d6c253b5ce8aefffa6f4a6", func := "lamplight/lamplightlaw19.LedgerFull", spec := "ledgerFull", unfollowed := true, recurses := true, apart := false }
def LedgerFullSaid : Prop := ledgerFullRow.holds Try.pinned (OpenSpec.ofChange ledgerFullSpec)

/-- ITS FALSE NEIGHBOUR: 'it returns false'. Refute it at one input. -/
def ledgerFullWrong : ChangeSpec := { name := "ledgerFull", fn := fun _ => fun
  | [d1, d2, d3, d4] => { results := [.lit (.bool false)], args := [d1, d2, d3, d4] }
  | _ => none }
def LedgerFullWrongFalsely : Prop := ledgerFullRow.holds Try.pinned (OpenSpec.ofChange ledgerFullWrong)

/- THE SECOND FORM. 'bulk': how many values and letters a reading holds, each counted each time it is reached (what is shared counts as often as it is met; a slice's spare places count too). A statement '..UptoSaid' is the law's where the arguments, and the package variables that the reading takes, are together of bulk at most 1048576: NARROWER than '..Said'. Prove '..Said' where nothing that the law and all that it calls make is longer than what came in: it says more and counts as full. Else prove '..UptoSaid'. A law counts once. -/
mutual
def uptoBulk {H : Type} : DataW H → Nat
  | .lit (.string bytes) => bytes.length + 1
  | .lit _ => 1
  | .nil => 1
  | .ptr d => uptoBulk d + 1
  | .slice elems spare => uptoBulkAll elems + uptoBulkAll spare + 1
  | .agg parts => uptoBulkAll parts + 1
  | .iface _ d => uptoBulk d + 1
  | .map entries => uptoBulkEntries entries + 1
  | .held _ => 1
def uptoBulkAll {H : Type} : List (DataW H) → Nat
  | [] => 0
  | d :: r => uptoBulk d + uptoBulkAll r
def uptoBulkEntries {H : Type} : List (Lit × DataW H) → Nat
  | [] => 0
  | x :: r => uptoBulkEntry x + uptoBulkEntries r
def uptoBulkEntry {H : Type} : Lit × DataW H → Nat
  | (.string bytes, d) => bytes.length + uptoBulk d + 1
  | (_, d) => uptoBulk d + 1
 end
def uptoSmall : (H : Type) → List (DataW H) → Bool := fun _ ds => decide (uptoBulkAll ds ≤ 1048576)
def OpenSpec.upto (s : _root_.Go.ChangeSpec) : _root_.Go.OpenSpec := { _root_.Go.OpenSpec.ofChange s with cond := some uptoSmall }

/-- 'lamplightlaw19.LedgerPlays', WHERE WHAT IT READS IS OF BULK AT MOST 1048576: true; the input reads as it did. -/
def ledgerPlaysUptoRow : OpenClaim := { program := "ytkjcmnhhgnlaeaa", sum := "48845da10e3a8b0d8c47b8fb0990c82b9a4bd1ad13d6c253b5ce8aefffa6f4a6", func := "lamplight/lamplightlaw19.LedgerPlays", spec := "ledgerPlays", unfollowed := true, recurses := true, apart := false, narrowed := true }
def LedgerPlaysUptoSaid : Prop := ledgerPlaysUptoRow.holds Try.pinned (OpenSpec.upto ledgerPlaysSpec)

/-- 'lamplightlaw19.LedgerHolds', WHERE WHAT IT READS IS OF BULK AT MOST 1048576: true; the input reads as it did. -/
def ledgerHoldsUptoRow : OpenClaim := { program := "ytkjcmnhhgnlaeaa", sum := "48845da10e3a8b0d8c47b8fb0990c82b9a4bd1ad13d6c253b5ce8aefffa6f4a6", func := "lamplight/lamplightlaw19.LedgerHolds", spec := "ledgerHolds", unfollowed := true, recurses := true, apart := false, narrowed := true }
def LedgerHoldsUptoSaid : Prop := ledgerHoldsUptoRow.holds Try.pinned (OpenSpec.upto ledgerHoldsSpec)

/-- 'lamplightlaw19.LedgerOrder', WHERE WHAT IT READS IS OF BULK AT MOST 1048576: true; the input reads as it did. -/
def ledgerOrderUptoRow : OpenClaim := { program := "ytkjcmnhhgnlaeaa", sum := "48845da10e3a8b0d8c47b8fb0990c82b9a4bd1ad13d6c253b5ce8aefffa6f4a6", func := "lamplight/lamplightlaw19.LedgerOrder", spec := "ledgerOrder", unfollowed := true, recurses := true, apart := false, narrowed := true }
def LedgerOrderUptoSaid : Prop := ledgerOrderUptoRow.holds Try.pinned (OpenSpec.upto ledgerOrderSpec)

/-- 'lamplightlaw19.LedgerApart', WHERE WHAT IT READS IS OF BULK AT MOST 1048576: true; the input reads as it did. -/
def ledgerApartUptoRow : OpenClaim := { program := "ytkjcmnhhgnlaeaa", sum := "48845da10e3a8b0d8c47b8fb0990c82b9a4bd1ad13d6c253b5ce8aefffa6f4a6", func := "lamplight/lamplightlaw19.LedgerApart", spec := "ledgerApart", unfollowed := true, recurses := true, apart := false, narrowed := true }
def LedgerApartUptoSaid : Prop := ledgerApartUptoRow.holds Try.pinned (OpenSpec.upto ledgerApartSpec)

/-- 'lamplightlaw19.LedgerSums', WHERE WHAT IT READS IS OF BULK AT MOST 1048576: true; the input reads as it did. -/
def ledgerSumsUptoRow : OpenClaim := { program := "ytkjcmnhhgnlaeaa", sum := "48845da10e3a8b0d8c47b8fb0990c82b9a4bd1ad13d6c253b5ce8aefffa6f4a6", func := "lamplight/lamplightlaw19.LedgerSums", spec := "ledgerSums", unfollowed := true, recurses := true, apart := false, narrowed := true }
def LedgerSumsUptoSaid : Prop := ledgerSumsUptoRow.holds Try.pinned (OpenSpec.upto ledgerSumsSpec)

/-- 'lamplightlaw19.LedgerRefuses', WHERE WHAT IT READS IS OF BULK AT MOST 1048576: true; the input reads as it did. -/
def ledgerRefusesUptoRow : OpenClaim := { program := "ytkjcmnhhgnlaeaa", sum := "48845da10e3a8b0d8c47b8fb0990c82b9a4bd1ad13d6c253b5ce8aefffa6f4a6", func := "lamplight/lamplightlaw19.LedgerRefuses", spec := "ledgerRefuses", unfollowed := true, recurses := true, apart := false, narrowed := true }
def LedgerRefusesUptoSaid : Prop := ledgerRefusesUptoRow.holds Try.pinned (OpenSpec.upto ledgerRefusesSpec)

/-- 'lamplightlaw19.LedgerAgain', WHERE WHAT IT READS IS OF BULK AT MOST 1048576: true; the input reads as it did. -/
def ledgerAgainUptoRow : OpenClaim := { program := "ytkjcmnhhgnlaeaa", sum := "48845da10e3a8b0d8c47b8fb0990c82b9a4bd1ad13d6c253b5ce8aefffa6f4a6", func := "lamplight/lamplightlaw19.LedgerAgain", spec := "ledgerAgain", unfollowed := true, recurses := true, apart := false, narrowed := true }
def LedgerAgainUptoSaid : Prop := ledgerAgainUptoRow.holds Try.pinned (OpenSpec.upto ledgerAgainSpec)

/-- 'lamplightlaw19.LedgerFull', WHERE WHAT IT READS IS OF BULK AT MOST 1048576: true; the input reads as it did. -/
def ledgerFullUptoRow : OpenClaim := { program := "ytkjcmnhhgnlaeaa", sum := "48845da10e3a8b0d8c47b8fb0990c82b9a4bd1ad13d6c253b5ce8aefffa6f4a6", func := "lamplight/lamplightlaw19.LedgerFull", spec := "ledgerFull", unfollowed := true, recurses := true, apart := false, narrowed := true }
def LedgerFullUptoSaid : Prop := ledgerFullUptoRow.holds Try.pinned (OpenSpec.upto ledgerFullSpec)

end Rows
end Go.Proofs.Ytkjcmnhhgnlaeaa
