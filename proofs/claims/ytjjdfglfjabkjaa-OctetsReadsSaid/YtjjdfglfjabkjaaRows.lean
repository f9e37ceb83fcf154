/-
  No cell of these rows narrows 'for every input' (looked for: loops, veiled, ifaces, maps, wideKeys, modest, calm, conditions, laid).
  DERIVED. THE GIVEN ROWS OF THIS SEAT. 6 by the template 'for every input the law returns true; each argument reads behind the call as it read before'; 0 by the template 'total and deterministic' (their statements: YtjjdfglfjabkjaaTotals.lean).
  GIVEN WITH THE SEED: the statements are not yours to turn. If you find one false, say at which input.
  Laid BY PROGRAM, IN A SANDBOX (cutbox-rows.mjs): the forced cells as the released guide's own fill.sh prints them over the translation 08e8907b674ee7f4… (all of the seat's roots in one cut). By AI agents, Wed Nov 11 2026. No macro, syntax, notation, axiom, sorry.
-/
import Derived.Test.YtjjdfglfjabkjaaChecked
import GoSem.Claim
import GoSem.ClaimJoined
import GoSem.ClaimMapViews
import Derived.JoinedTies
import Derived.KernelRfl
namespace Go.Proofs.Ytjjdfglfjabkjaa
/- THE CELL 'sum', in the pinned program and in every row, IS THE sha256 OF THE DUMP (.gsa) THAT YtjjdfglfjabkjaaProg.lean LOADS. Nothing in Lean hashes anything: it is a label: what it is worth is what the hold of that sum in a sandbox is worth. -/
noncomputable def Try.pinned : Pinned := { name := "ytjjdfglfjabkjaa", sum := "08e8907b674ee7f4b940712969413701fcf071b3d4943cf3ee23a5f3737373be", checked := Try.checked }
namespace Rows
def none {H : Type} : Left H := { results := [], args := [] }

/-- 'palaverlaw01.OctetsTexts': WHATEVER THE INPUT: true; the input reads as it did. -/
def octetsTextsSpec : ChangeSpec := { name := "octetsTexts", fn := fun _ => fun
  | [d] => { results := [.lit (.bool true)], args := [d] }
  | _ => none }
def octetsTextsRow : OpenClaim := { program := "ytjjdfglfjabkjaa", sum := "08e8907b674ee7f4b940712969413701fcf071b3d4943cf3ee23a5f3737373be", func := "palaver/palaverlaw01.OctetsTexts", spec := "octetsTexts", apart := false }
def OctetsTextsSaid : Prop := octetsTextsRow.holds Try.pinned (OpenSpec.ofChange octetsTextsSpec)

/-- ITS FALSE NEIGHBOUR: 'it returns false'. Refute it at one input. -/
def octetsTextsWrong : ChangeSpec := { name := "octetsTexts", fn := fun _ => fun
  | [d] => { results := [.lit (.bool false)], args := [d] }
  | _ => none }
def OctetsTextsWrongFalsely : Prop := octetsTextsRow.holds Try.pinned (OpenSpec.ofChange octetsTextsWrong)

/-- 'palaverlaw01.OctetsNumbers': WHATEVER THE INPUT: true; the input reads as it did. -/
def octetsNumbersSpec : ChangeSpec := { name := "octetsNumbers", fn := fun _ => fun
  | [d] => { results := [.lit (.bool true)], args := [d] }
  | _ => none }
def octetsNumbersRow : OpenClaim := { program := "ytjjdfglfjabkjaa", sum := "08e8907b674ee7f4b940712969413701fcf071b3d4943cf3ee23a5f3737373be", func := "palaver/palaverlaw01.OctetsNumbers", spec := "octetsNumbers", apart := false }
def OctetsNumbersSaid : Prop := octetsNumbersRow.holds Try.pinned (OpenSpec.ofChange octetsNumbersSpec)

/-- ITS FALSE NEIGHBOUR: 'it returns false'. Refute it at one input. -/
def octetsNumbersWrong : ChangeSpec := { name := "octetsNumbers", fn := fun _ => fun
  | [d] => { results := [.lit (.bool false)], args := [d] }
  | _ => none }
def OctetsNumbersWrongFalsely : Prop := octetsNumbersRow.holds Try.pinned (OpenSpec.ofChange octetsNumbersWrong)

/-- 'palaverlaw01.OctetsShort': WHATEVER THE INPUT: true; the input reads as it did. -/
def octetsShortSpec : ChangeSpec := { name := "octetsShort", fn := fun _ => fun
  | [d1, d2] => { results := [.lit (.bool true)], args := [d1, d2] }
  | _ => none }
def octetsShortRow : OpenClaim := { program := "ytjjdfglfjabkjaa", sum := "08e8907b674ee7f4b940712969413701fcf071b3d4943cf3ee23a5f3737373be", func := "palaver/palaverlaw01.OctetsShort", spec := "octetsShort", apart := false }
def OctetsShortSaid : Prop := octetsShortRow.holds Try.pinned (OpenSpec.ofChange octetsShortSpec)

/-- ITS FALSE NEIGHBOUR: 'it returns false'. Refute it at one input. -/
def octetsShortWrong : ChangeSpec := { name := "octetsShort", fn := fun _ => fun
  | [d1, d2] => { results := [.lit (.bool false)], args := [d1, d2] }
  | _ => none }
def OctetsShortWrongFalsely : Prop := octetsShortRow.holds Try.pinned (OpenSpec.ofChange octetsShortWrong)

/-- 'palaverlaw01.OctetsReads': WHATEVER THE INPUT: true; the input reads as it did. -/
def octetsReadsSpec : ChangeSpec := { name := "octetsReads", fn := fun _ => fun
  | [d1, d2] => { results := [.lit (.bool true)], args := [d1, d2] }
  | _ => none }
def octetsReadsRow : OpenClaim := { program := "ytjjdfglfjabkjaa", sum := "08e8907b674ee7f4b940712969413701fcf071b3d4943cf3ee23a5f3737373be", func := "palaver/palaverlaw01.OctetsReads", spec := "octetsReads", apart := false }
def OctetsReadsSaid : Prop := octetsReadsRow.holds Try.pinned (OpenSpec.ofChange octetsReadsSpec)

/-- ITS FALSE NEIGHBOUR: 'it returns false'. Refute it at one input. -/
def octetsReadsWrong : ChangeSpec := { name := "octetsReads", fn := fun _ => fun
  | [d1, d2] => { results := [.lit (.bool false)], args := [d1, d2] }
  | _ => none }
def OctetsReadsWrongFalsely : Prop := octetsReadsRow.holds Try.pinned (OpenSpec.ofChange octetsReadsWrong)

/-- 'palaverlaw01.OctetsNone': WHATEVER THE INPUT: true; the input reads as it did. -/
def octetsNoneSpec : ChangeSpec := { name := "octetsNone", fn := fun _ => fun
  | [d] => { results := [.lit (.bool true)], args := [d] }
  | _ => none }
def octetsNoneRow : OpenClaim := { program := "ytjjdfglfjabkjaa", sum := "08e8907b674ee7f4b940712969413701fcf071b3d4943cf3ee23a5f3737373be", func := "palaver/palaverlaw01.OctetsNone", spec := "octetsNone", apart := false }
def OctetsNoneSaid : Prop := octetsNoneRow.holds Try.pinned (OpenSpec.ofChange octetsNoneSpec)

/-- ITS FALSE NEIGHBOUR: 'it returns false'. Refute it at one input. -/
def octetsNoneWrong : ChangeSpec := { name := "octetsNone", fn := fun _ => fun
  | [d] => { results := [.lit (.bool false)], args := [d] }
  | _ => none }
def OctetsNoneWrongFalsely : Prop := octetsNoneRow.holds Try.pinned (OpenSpec.ofChange octetsNoneWrong)

/-- 'palaverlaw01.OctetsBack': WHATEVER THE INPUT: true; the input reads as it did. -/
def octetsBackSpec : ChangeSpec := { name := "octetsBack", fn := fun _ => fun
  | [d1, d2, d3, d4, d5] => { results := [.lit (.bool true)], args := [d1, d2, d3, d4, d5] }
  | _ => none }
def octetsBackRow : OpenClaim := { program := "ytjjdfglfjabkjaa", sum := "08e8907b674ee7f4b940712969413701fcf071b3d4943cf3ee23a5f3737373be", func := "palaver/palaverlaw01.OctetsBack", spec := "octetsBack", apart := false }
def OctetsBackSaid : Prop := octetsBackRow.holds Try.pinned (OpenSpec.ofChange octetsBackSpec)

/-- ITS FALSE NEIGHBOUR: 'it returns false'. Refute it at one input. -/
def octetsBackWrong : ChangeSpec := { name := "octetsBack", fn := fun _ => fun
  | [d1, d2, d3, d4, d5] => { results := [.lit (.bool false)], args := [d1, d2, d3, d4, d5] }
  | _ => none }
def OctetsBackWrongFalsely : Prop := octetsBackRow.holds Try.pinned (OpenSpec.ofChange octetsBackWrong)

/- THE SECOND FORM. 'bulk': how many values and letters a reading holds, each counted each time it is reached (what is shared counts as often as it is met; a slice's spare places count too). A statement '..UptoSaid' is the law's where the arguments, and the package variables that the reading takes, are together of bulk at most 1048576: NARROWER than '..Said'. Prove '..Said' where nothing that the law and all that it calls make is longer than what came in: it says more and counts as full. Else prove '..UptoSaid'. A law counts once. -/
mutual
def uptoBulk {H : Type} : DataW H → Nat
  | .lit (.string bytes) => bytes.length + 1
  | .lit _ => 1
  | .nil => 1
  | .ptr d => uptoBulk d + 1
  | .slice elems spare => uptoBulkAll elems + uptoBulkAll spare + 1
  | .agg parts => uptoBulkAll parts + 1
  | .iface _ d => uptoBulk d + 1
  | .map entries => uptoBulkEntries entries + 1
  | .held _ => 1
def uptoBulkAll {H : Type} : List (DataW H) → Nat
  | [] => 0
  | d :: r => uptoBulk d + uptoBulkAll r
def uptoBulkEntries {H : Type} : List (Lit × DataW H) → Nat
  | [] => 0
  | x :: r => uptoBulkEntry x + uptoBulkEntries r
def uptoBulkEntry {H : Type} : Lit × DataW H → Nat
  | (.string bytes, d) => bytes.length + uptoBulk d + 1
  | (_, d) => uptoBulk d + 1
 end
def uptoSmall : (H : Type) → List (DataW H) → Bool := fun _ ds => decide (uptoBulkAll ds ≤ 1048576)
def OpenSpec.upto (s : _root_.Go.ChangeSpec) : _root_.Go.OpenSpec := { _root_.Go.OpenSpec.ofChange s with cond := some uptoSmall }

/-- 'palaverlaw01.OctetsTexts', WHERE WHAT IT READS IS OF BULK AT MOST 1048576: true; the input reads as it did. -/
def octetsTextsUptoRow : OpenClaim := { program := "ytjjdfglfjabkjaa", sum := "08e8907b674ee7f4b940712969413701fcf071b3d4943cf3ee23a5f3737373be", func := "palaver/palaverlaw01.OctetsTexts", spec := "octetsTexts", apart := false, narrowed := true }
def OctetsTextsUptoSaid : Prop := octetsTextsUptoRow.holds Try.pinned (OpenSpec.upto octetsTextsSpec)

/-- 'palaverlaw01.OctetsNumbers', WHERE WHAT IT READS IS OF BULK AT MOST 1048576: true; the input reads as it did. -/
def octetsNumbersUptoRow : OpenClaim := { program := "ytjjdfglfjabkjaa", sum := "08e8907b674ee7f4b940712969413701fcf071b3d4943cf3ee23a5f3737373be", func := "palaver/palaverlaw01.OctetsNumbers", spec := "octetsNumbers", apart := false, narrowed := true }
def OctetsNumbersUptoSaid : Prop := octetsNumbersUptoRow.holds Try.pinned (OpenSpec.upto octetsNumbersSpec)

/-- 'palaverlaw01.OctetsShort', WHERE WHAT IT READS IS OF BULK AT MOST 1048576: true; the input reads as it did. -/
def octetsShortUptoRow : OpenClaim := { program := "ytjjdfglfjabkjaa", sum := "08e8907b674ee7f4b940712969413701fcf071b3d4943cf3ee23a5f3737373be", func := "palaver/palaverlaw01.OctetsShort", spec := "octetsShort", apart := false, narrowed := true }
def OctetsShortUptoSaid : Prop := octetsShortUptoRow.holds Try.pinned (OpenSpec.upto octetsShortSpec)

/-- 'palaverlaw01.OctetsReads', WHERE WHAT IT READS IS OF BULK AT MOST 1048576: true; the input reads as it did. -/
def octetsReadsUptoRow : OpenClaim := { program := "ytjjdfglfjabkjaa", sum := "08e8907b674ee7f4b940712969413701fcf071b3d4943cf3ee23a5f3737373be", func := "palaver/palaverlaw01.OctetsReads", spec := "octetsReads", apart := false, narrowed := true }
def OctetsReadsUptoSaid : Prop := octetsReadsUptoRow.holds Try.pinned (OpenSpec.upto octetsReadsSpec)

/-- 'palaverlaw01.OctetsNone', WHERE WHAT IT READS IS OF BULK AT MOST 1048576: true; the input reads as it did. -/
def octetsNoneUptoRow : OpenClaim := { program := "ytjjdfglfjabkjaa", sum := "08e8907b674ee7f4b940712969413701fcf071b3d4943cf3ee23a5f3737373be", func := "palaver/palaverlaw01.OctetsNone", spec := "octetsNone", apart := false, narrowed := true }
def OctetsNoneUptoSaid : Prop := octetsNoneUptoRow.holds Try.pinned (OpenSpec.upto octetsNoneSpec)

/-- 'palaverlaw01.OctetsBack', WHERE WHAT IT READS IS OF BULK AT MOST 1048576: true; the input reads as it did. -/
def octetsBackUptoRow : OpenClaim := { program := "ytjjdfglfjabkjaa", sum := "08e8907b674ee7f4b940712969413701fcf071b3d4943cf3ee23a5f3737373be", func := "palaver/palaverlaw01.OctetsBack", spec := "octetsBack", apart := false, narrowed := true }
def OctetsBackUptoSaid : Prop := octetsBackUptoRow.holds Try.pinned (OpenSpec.upto octetsBackSpec)

end Rows
end Go.Proofs.Ytjjdfglfjabkjaa
