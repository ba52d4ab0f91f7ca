/-
  No cell of these rows narrows 'for every input' (looked for: loops, veiled, ifaces, maps, wideKeys, modest, calm, conditions, laid).
  DERIVED. THE GIVEN ROWS OF THIS SEAT. 7 by the template 'for every input the law returns true; each argument reads behind the call as it read before'; 0 by the template 'total and deterministic' (their statements: YtilmodbiimjllaaTotals.lean).
  GIVEN WITH THE SEED: the statements are not yours to turn. If you find one false, say at which input.
  Laid BY PROGRAM, IN A SANDBOX (cutbox-rows.mjs): the forced cells as the released guide's own fill.sh prints them over the translation 334d473505af3001… (all of the seat's roots in one cut). By AI agents, Wed Nov 11 2026. No macro, syntax, notation, axiom, sorry.
-/
import Derived.Test.YtilmodbiimjllaaChecked
import GoSem.Claim
import GoSem.ClaimJoined
import GoSem.ClaimMapViews
import Derived.JoinedTies
import Derived.KernelRfl
namespace Go.Proofs.Ytilmodbiimjllaa
/- THE CELL 'sum', in the pinned program and in every row, IS THE sha256 OF THE DUMP (.gsa) THAT YtilmodbiimjllaaProg.lean LOADS. Nothing in Lean hashes anything: it is a label: what it is worth is what the hold of that sum in a sandbox is worth. -/
noncomputable def Try.pinned : Pinned := { name := "ytilmodbiimjllaa", sum := "334d473505af3001e477465d31a7a9c91bfbff7672892fafe0793a4c130a4464", checked := Try.checked }
namespace Rows
def none {H : Type} : Left H := { results := [], args := [] }

/-- 'lamplightlaw15.TotePlays': WHATEVER THE INPUT: true; the input reads as it did. -/
def totePlaysSpec : ChangeSpec := { name := "totePlays", fn := fun _ => fun
  | [d1, d2, d3] => { results := [.lit (.bool true)], args := [d1, d2, d3] }
  | _ => none }
def totePlaysRow : OpenClaim := { program := "ytilmodbiimjllaa", sum := "334d473505af3001e477465d31a7a9c91bfbff7672892fafe0793a4c130a4464", func := "lamplight/lamplightlaw15.TotePlays", spec := "totePlays", apart := false }
def TotePlaysSaid : Prop := totePlaysRow.holds Try.pinned (OpenSpec.ofChange totePlaysSpec)

/-- ITS FALSE NEIGHBOUR: 'it returns false'. Refute it at one input. -/
def totePlaysWrong : ChangeSpec := { name := "totePlays", fn := fun _ => fun
  | [d1, d2, d3] => { results := [.lit (.bool false)], args := [d1, d2, d3] }
  | _ => none }
def TotePlaysWrongFalsely : Prop := totePlaysRow.holds Try.pinned (OpenSpec.ofChange totePlaysWrong)

/-- 'lamplightlaw15.ToteOnce': WHATEVER THE INPUT: true; the input reads as it did. -/
def toteOnceSpec : ChangeSpec := { name := "toteOnce", fn := fun _ => fun
  | [d1, d2, d3] => { results := [.lit (.bool true)], args := [d1, d2, d3] }
  | _ => none }
def toteOnceRow : OpenClaim := { program := "ytilmodbiimjllaa", sum := "334d473505af3001e477465d31a7a9c91bfbff7672892fafe0793a4c130a4464", func := "lamplight/lamplightlaw15.ToteOnce", spec := "toteOnce", apart := false }
def ToteOnceSaid : Prop := toteOnceRow.holds Try.pinned (OpenSpec.ofChange toteOnceSpec)

/-- ITS FALSE NEIGHBOUR: 'it returns false'. Refute it at one input. -/
def toteOnceWrong : ChangeSpec := { name := "toteOnce", fn := fun _ => fun
  | [d1, d2, d3] => { results := [.lit (.bool false)], args := [d1, d2, d3] }
  | _ => none }
def ToteOnceWrongFalsely : Prop := toteOnceRow.holds Try.pinned (OpenSpec.ofChange toteOnceWrong)

/-- 'lamplightlaw15.ToteThrough': WHATEVER THE INPUT: true; the input reads as it did. -/
def toteThroughSpec : ChangeSpec := { name := "toteThrough", fn := fun _ => fun
  | [d1, d2, d3] => { results := [.lit (.bool true)], args := [d1, d2, d3] }
  | _ => none }
def toteThroughRow : OpenClaim := { program := "ytilmodbiimjllaa", sum := "334d473505af3001e477465d31a7a9c91bfbff7672892fafe0793a4c130a4464", func := "lamplight/lamplightlaw15.ToteThrough", spec := "toteThrough", apart := false }
def ToteThroughSaid : Prop := toteThroughRow.holds Try.pinned (OpenSpec.ofChange toteThroughSpec)

/-- ITS FALSE NEIGHBOUR: 'it returns false'. Refute it at one input. -/
def toteThroughWrong : ChangeSpec := { name := "toteThrough", fn := fun _ => fun
  | [d1, d2, d3] => { results := [.lit (.bool false)], args := [d1, d2, d3] }
  | _ => none }
def ToteThroughWrongFalsely : Prop := toteThroughRow.holds Try.pinned (OpenSpec.ofChange toteThroughWrong)

/-- 'lamplightlaw15.ToteSkips': WHATEVER THE INPUT: true; the input reads as it did. -/
def toteSkipsSpec : ChangeSpec := { name := "toteSkips", fn := fun _ => fun
  | [d] => { results := [.lit (.bool true)], args := [d] }
  | _ => none }
def toteSkipsRow : OpenClaim := { program := "ytilmodbiimjllaa", sum := "334d473505af3001e477465d31a7a9c91bfbff7672892fafe0793a4c130a4464", func := "lamplight/lamplightlaw15.ToteSkips", spec := "toteSkips", apart := false }
def ToteSkipsSaid : Prop := toteSkipsRow.holds Try.pinned (OpenSpec.ofChange toteSkipsSpec)

/-- ITS FALSE NEIGHBOUR: 'it returns false'. Refute it at one input. -/
def toteSkipsWrong : ChangeSpec := { name := "toteSkips", fn := fun _ => fun
  | [d] => { results := [.lit (.bool false)], args := [d] }
  | _ => none }
def ToteSkipsWrongFalsely : Prop := toteSkipsRow.holds Try.pinned (OpenSpec.ofChange toteSkipsWrong)

/-- 'lamplightlaw15.ToteAgain': WHATEVER THE INPUT: true; the input reads as it did. -/
def toteAgainSpec : ChangeSpec := { name := "toteAgain", fn := fun _ => fun
  | [d1, d2, d3] => { results := [.lit (.bool true)], args := [d1, d2, d3] }
  | _ => none }
def toteAgainRow : OpenClaim := { program := "ytilmodbiimjllaa", sum := "334d473505af3001e477465d31a7a9c91bfbff7672892fafe0793a4c130a4464", func := "lamplight/lamplightlaw15.ToteAgain", spec := "toteAgain", apart := false }
def ToteAgainSaid : Prop := toteAgainRow.holds Try.pinned (OpenSpec.ofChange toteAgainSpec)

/-- ITS FALSE NEIGHBOUR: 'it returns false'. Refute it at one input. -/
def toteAgainWrong : ChangeSpec := { name := "toteAgain", fn := fun _ => fun
  | [d1, d2, d3] => { results := [.lit (.bool false)], args := [d1, d2, d3] }
  | _ => none }
def ToteAgainWrongFalsely : Prop := toteAgainRow.holds Try.pinned (OpenSpec.ofChange toteAgainWrong)

/-- 'lamplightlaw15.ToteFull': WHATEVER THE INPUT: true; the input reads as it did. -/
def toteFullSpec : ChangeSpec := { name := "toteFull", fn := fun _ => fun
  | [d1, d2, d3] => { results := [.lit (.bool true)], args := [d1, d2, d3] }
  | _ => none }
def toteFullRow : OpenClaim := { program := "ytilmodbiimjllaa", sum := "334d473505af3001e477465d31a7a9c91bfbff7672892fafe0793a4c130a4464", func := "lamplight/lamplightlaw15.ToteFull", spec := "toteFull", apart := false }
def ToteFullSaid : Prop := toteFullRow.holds Try.pinned (OpenSpec.ofChange toteFullSpec)

/-- ITS FALSE NEIGHBOUR: 'it returns false'. Refute it at one input. -/
def toteFullWrong : ChangeSpec := { name := "toteFull", fn := fun _ => fun
  | [d1, d2, d3] => { results := [.lit (.bool false)], args := [d1, d2, d3] }
  | _ => none }
def ToteFullWrongFalsely : Prop := toteFullRow.holds Try.pinned (OpenSpec.ofChange toteFullWrong)

/-- 'lamplightlaw15.ToteKeeps': WHATEVER THE INPUT: true; the input reads as it did. -/
def toteKeepsSpec : ChangeSpec := { name := "toteKeeps", fn := fun _ => fun
  | [d1, d2, d3] => { results := [.lit (.bool true)], args := [d1, d2, d3] }
  | _ => none }
def toteKeepsRow : OpenClaim := { program := "ytilmodbiimjllaa", sum := "334d473505af3001e477465d31a7a9c91bfbff7672892fafe0793a4c130a4464", func := "lamplight/lamplightlaw15.ToteKeeps", spec := "toteKeeps", apart := false }
def ToteKeepsSaid : Prop := toteKeepsRow.holds Try.pinned (OpenSpec.ofChange toteKeepsSpec)

/-- ITS FALSE NEIGHBOUR: 'it returns false'. Refute it at one input. -/
def toteKeepsWrong : ChangeSpec := { name := "toteKeeps", fn := fun _ => fun
  | [d1, d2, d3] => { results := [.lit (.bool false)], args := [d1, d2, d3] }
  | _ => none }
def ToteKeepsWrongFalsely : Prop := toteKeepsRow.holds Try.pinned (OpenSpec.ofChange toteKeepsWrong)

/- THE SECOND FORM. 'bulk': how many values and letters a reading holds, each counted each time it is reached (what is shared counts as often as it is met; a slice's spare places count too). A statement '..UptoSaid' is the law's where the arguments, and the package variables that the reading takes, are together of bulk at most 1048576: NARROWER than '..Said'. Prove '..Said' where nothing that the law and all that it calls make is longer than what came in: it says more and counts as full. Else prove '..UptoSaid'. A law counts once. -/
mutual
def uptoBulk {H : Type} : DataW H → Nat
  | .lit (.string bytes) => bytes.length + 1
  | .lit _ => 1
  | .nil => 1
  | .ptr d => uptoBulk d + 1
  | .slice elems spare => uptoBulkAll elems + uptoBulkAll spare + 1
  | .agg parts => uptoBulkAll parts + 1
  | .iface _ d => uptoBulk d + 1
  | .map entries => uptoBulkEntries entries + 1
  | .held _ => 1
def uptoBulkAll {H : Type} : List (DataW H) → Nat
  | [] => 0
  | d :: r => uptoBulk d + uptoBulkAll r
def uptoBulkEntries {H : Type} : List (Lit × DataW H) → Nat
  | [] => 0
  | x :: r => uptoBulkEntry x + uptoBulkEntries r
def uptoBulkEntry {H : Type} : Lit × DataW H → Nat
  | (.string bytes, d) => bytes.length + uptoBulk d + 1
  | (_, d) => uptoBulk d + 1
 end
def uptoSmall : (H : Type) → List (DataW H) → Bool := fun _ ds => decide (uptoBulkAll ds ≤ 1048576)
def OpenSpec.upto (s : _root_.Go.ChangeSpec) : _root_.Go.OpenSpec := { _root_.Go.OpenSpec.ofChange s with cond := some uptoSmall }

/-- 'lamplightlaw15.TotePlays', WHERE WHAT IT READS IS OF BULK AT MOST 1048576: true; the input reads as it did. -/
def totePlaysUptoRow : OpenClaim := { program := "ytilmodbiimjllaa", sum := "334d473505af3001e477465d31a7a9c91bfbff7672892fafe0793a4c130a4464", func := "lamplight/lamplightlaw15.TotePlays", spec := "totePlays", apart := false, narrowed := true }
def TotePlaysUptoSaid : Prop := totePlaysUptoRow.holds Try.pinned (OpenSpec.upto totePlaysSpec)

/-- 'lamplightlaw15.ToteOnce', WHERE WHAT IT READS IS OF BULK AT MOST 1048576: true; the input reads as it did. -/
def toteOnceUptoRow : OpenClaim := { program := "ytilmodbiimjllaa", sum := "334d473505af3001e477465d31a7a9c91bfbff7672892fafe0793a4c130a4464", func := "lamplight/lamplightlaw15.ToteOnce", spec := "toteOnce", apart := false, narrowed := true }
def ToteOnceUptoSaid : Prop := toteOnceUptoRow.holds Try.pinned (OpenSpec.upto toteOnceSpec)

/-- 'lamplightlaw15.ToteThrough', WHERE WHAT IT READS IS OF BULK AT MOST 1048576: true; the input reads as it did. -/
def toteThroughUptoRow : OpenClaim := { program := "ytilmodbiimjllaa", sum := "334d473505af3001e477465d31a7a9c91bfbff7672892fafe0793a4c130a4464", func := "lamplight/lamplightlaw15.ToteThrough", spec := "toteThrough", apart := false, narrowed := true }
def ToteThroughUptoSaid : Prop := toteThroughUptoRow.holds Try.pinned (OpenSpec.upto toteThroughSpec)

/-- 'lamplightlaw15.ToteSkips', WHERE WHAT IT READS IS OF BULK AT MOST 1048576: true; the input reads as it did. -/
def toteSkipsUptoRow : OpenClaim := { program := "ytilmodbiimjllaa", sum := "334d473505af3001e477465d31a7a9c91bfbff7672892fafe0793a4c130a4464", func := "lamplight/lamplightlaw15.ToteSkips", spec := "toteSkips", apart := false, narrowed := true }
def ToteSkipsUptoSaid : Prop := toteSkipsUptoRow.holds Try.pinned (OpenSpec.upto toteSkipsSpec)

/-- 'lamplightlaw15.ToteAgain', WHERE WHAT IT READS IS OF BULK AT MOST 1048576: true; the input reads as it did. -/
def toteAgainUptoRow : OpenClaim := { program := "ytilmodbiimjllaa", sum := "334d473505af3001e477465d31a7a9c91bfbff7672892fafe0793a4c130a4464", func := "lamplight/lamplightlaw15.ToteAgain", spec := "toteAgain", apart := false, narrowed := true }
def ToteAgainUptoSaid : Prop := toteAgainUptoRow.holds Try.pinned (OpenSpec.upto toteAgainSpec)

/-- 'lamplightlaw15.ToteFull', WHERE WHAT IT READS IS OF BULK AT MOST 1048576: true; the input reads as it did. -/
def toteFullUptoRow : OpenClaim := { program := "ytilmodbiimjllaa", sum := "334d473505af3001e477465d31a7a9c91bfbff7672892fafe0793a4c130a4464", func := "lamplight/lamplightlaw15.ToteFull", spec := "toteFull", apart := false, narrowed := true }
def ToteFullUptoSaid : Prop := toteFullUptoRow.holds Try.pinned (OpenSpec.upto toteFullSpec)

/-- 'lamplightlaw15.ToteKeeps', WHERE WHAT IT READS IS OF BULK AT MOST 1048576: true; the input reads as it did. -/
def toteKeepsUptoRow : OpenClaim := { program := "ytilmodbiimjllaa", sum := "334d473505af3001e477465d31a7a9c91bfbff7672892fafe0793a4c130a4464", func := "lamplight/lamplightlaw15.ToteKeeps", spec := "toteKeeps", apart := false, narrowed := true }
def ToteKeepsUptoSaid : Prop := toteKeepsUptoRow.holds Try.pinned (OpenSpec.upto toteKeepsSpec)

end Rows
end Go.Proofs.Ytilmodbiimjllaa
