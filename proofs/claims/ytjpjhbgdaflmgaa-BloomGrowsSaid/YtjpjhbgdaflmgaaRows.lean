/-
  No cell of these rows narrows 'for every input' (looked for: loops, veiled, ifaces, maps, wideKeys, modest, calm, conditions, laid).
  DERIVED. THE GIVEN ROWS OF THIS SEAT. 6 by the template 'for every input the law returns true; each argument reads behind the call as it read before'; 0 by the template 'total and deterministic' (their statements: YtjpjhbgdaflmgaaTotals.lean).
  GIVEN WITH THE SEED: the statements are not yours to turn. If you find one false, say at which input.
  Laid BY PROGRAM, IN A SANDBOX (cutbox-rows.mjs): the forced cells as the released guide's own fill.sh prints them over the translation de2b94077e7cb91d… (all of the seat's roots in one cut). By AI agents, Wed Nov 11 2026. No macro, syntax, notation, axiom, sorry.
-/
import Derived.Test.YtjpjhbgdaflmgaaChecked
import GoSem.Claim
import GoSem.ClaimJoined
import GoSem.ClaimMapViews
import Derived.JoinedTies
import Derived.KernelRfl
namespace Go.Proofs.Ytjpjhbgdaflmgaa
/- THE CELL 'sum', in the pinned program and in every row, IS THE sha256 OF THE DUMP (.gsa) THAT YtjpjhbgdaflmgaaProg.lean LOADS. Nothing in Lean hashes anything: it is a label: what it is worth is what the hold of that sum in a sandbox is worth. -/
noncomputable def Try.pinned : Pinned := { name := "ytjpjhbgdaflmgaa", sum := "de2b94077e7cb91d40f7fc66218a55c22758054d693354a48d2daaf6ffe43075", checked := Try.checked }
namespace Rows
def none {H : Type} : Left H := { results := [], args := [] }

/-- 'palaverlaw14.BloomSizes': WHATEVER THE INPUT: true; the input reads as it did. -/
def bloomSizesSpec : ChangeSpec := { name := "bloomSizes", fn := fun _ => fun
  | [d1, d2, d3] => { results := [.lit (.bool true)], args := [d1, d2, d3] }
  | _ => none }
def bloomSizesRow : OpenClaim := { program := "ytjpjhbgdaflmgaa", sum := "de2b94077e7cb91d40f7fc66218a55c22758054d693354a48d2daaf6ffe43075", func := "palaver/palaverlaw14.BloomSizes", spec := "bloomSizes", apart := false }
def BloomSizesSaid : Prop := bloomSizesRow.holds Try.pinned (OpenSpec.ofChange bloomSizesSpec)

/-- ITS FALSE NEIGHBOUR: 'it returns false'. Refute it at one input. -/
def bloomSizesWrong : ChangeSpec := { name := "bloomSizes", fn := fun _ => fun
  | [d1, d2, d3] => { results := [.lit (.bool false)], args := [d1, d2, d3] }
  | _ => none }
def BloomSizesWrongFalsely : Prop := bloomSizesRow.holds Try.pinned (OpenSpec.ofChange bloomSizesWrong)

/-- 'palaverlaw14.BloomMakes': WHATEVER THE INPUT: true; the input reads as it did. -/
def bloomMakesSpec : ChangeSpec := { name := "bloomMakes", fn := fun _ => fun
  | [d] => { results := [.lit (.bool true)], args := [d] }
  | _ => none }
def bloomMakesRow : OpenClaim := { program := "ytjpjhbgdaflmgaa", sum := "de2b94077e7cb91d40f7fc66218a55c22758054d693354a48d2daaf6ffe43075", func := "palaver/palaverlaw14.BloomMakes", spec := "bloomMakes", apart := false }
def BloomMakesSaid : Prop := bloomMakesRow.holds Try.pinned (OpenSpec.ofChange bloomMakesSpec)

/-- ITS FALSE NEIGHBOUR: 'it returns false'. Refute it at one input. -/
def bloomMakesWrong : ChangeSpec := { name := "bloomMakes", fn := fun _ => fun
  | [d] => { results := [.lit (.bool false)], args := [d] }
  | _ => none }
def BloomMakesWrongFalsely : Prop := bloomMakesRow.holds Try.pinned (OpenSpec.ofChange bloomMakesWrong)

/-- 'palaverlaw14.BloomHas': WHATEVER THE INPUT: true; the input reads as it did. -/
def bloomHasSpec : ChangeSpec := { name := "bloomHas", fn := fun _ => fun
  | [d1, d2] => { results := [.lit (.bool true)], args := [d1, d2] }
  | _ => none }
def bloomHasRow : OpenClaim := { program := "ytjpjhbgdaflmgaa", sum := "de2b94077e7cb91d40f7fc66218a55c22758054d693354a48d2daaf6ffe43075", func := "palaver/palaverlaw14.BloomHas", spec := "bloomHas", apart := false }
def BloomHasSaid : Prop := bloomHasRow.holds Try.pinned (OpenSpec.ofChange bloomHasSpec)

/-- ITS FALSE NEIGHBOUR: 'it returns false'. Refute it at one input. -/
def bloomHasWrong : ChangeSpec := { name := "bloomHas", fn := fun _ => fun
  | [d1, d2] => { results := [.lit (.bool false)], args := [d1, d2] }
  | _ => none }
def BloomHasWrongFalsely : Prop := bloomHasRow.holds Try.pinned (OpenSpec.ofChange bloomHasWrong)

/-- 'palaverlaw14.BloomKeeps': WHATEVER THE INPUT: true; the input reads as it did. -/
def bloomKeepsSpec : ChangeSpec := { name := "bloomKeeps", fn := fun _ => fun
  | [d] => { results := [.lit (.bool true)], args := [d] }
  | _ => none }
def bloomKeepsRow : OpenClaim := { program := "ytjpjhbgdaflmgaa", sum := "de2b94077e7cb91d40f7fc66218a55c22758054d693354a48d2daaf6ffe43075", func := "palaver/palaverlaw14.BloomKeeps", spec := "bloomKeeps", apart := false }
def BloomKeepsSaid : Prop := bloomKeepsRow.holds Try.pinned (OpenSpec.ofChange bloomKeepsSpec)

/-- ITS FALSE NEIGHBOUR: 'it returns false'. Refute it at one input. -/
def bloomKeepsWrong : ChangeSpec := { name := "bloomKeeps", fn := fun _ => fun
  | [d] => { results := [.lit (.bool false)], args := [d] }
  | _ => none }
def BloomKeepsWrongFalsely : Prop := bloomKeepsRow.holds Try.pinned (OpenSpec.ofChange bloomKeepsWrong)

/-- 'palaverlaw14.BloomTurned': WHATEVER THE INPUT: true; the input reads as it did. -/
def bloomTurnedSpec : ChangeSpec := { name := "bloomTurned", fn := fun _ => fun
  | [d1, d2] => { results := [.lit (.bool true)], args := [d1, d2] }
  | _ => none }
def bloomTurnedRow : OpenClaim := { program := "ytjpjhbgdaflmgaa", sum := "de2b94077e7cb91d40f7fc66218a55c22758054d693354a48d2daaf6ffe43075", func := "palaver/palaverlaw14.BloomTurned", spec := "bloomTurned", apart := false }
def BloomTurnedSaid : Prop := bloomTurnedRow.holds Try.pinned (OpenSpec.ofChange bloomTurnedSpec)

/-- ITS FALSE NEIGHBOUR: 'it returns false'. Refute it at one input. -/
def bloomTurnedWrong : ChangeSpec := { name := "bloomTurned", fn := fun _ => fun
  | [d1, d2] => { results := [.lit (.bool false)], args := [d1, d2] }
  | _ => none }
def BloomTurnedWrongFalsely : Prop := bloomTurnedRow.holds Try.pinned (OpenSpec.ofChange bloomTurnedWrong)

/-- 'palaverlaw14.BloomGrows': WHATEVER THE INPUT: true; the input reads as it did. -/
def bloomGrowsSpec : ChangeSpec := { name := "bloomGrows", fn := fun _ => fun
  | [d1, d2] => { results := [.lit (.bool true)], args := [d1, d2] }
  | _ => none }
def bloomGrowsRow : OpenClaim := { program := "ytjpjhbgdaflmgaa", sum := "de2b94077e7cb91d40f7fc66218a55c22758054d693354a48d2daaf6ffe43075", func := "palaver/palaverlaw14.BloomGrows", spec := "bloomGrows", apart := false }
def BloomGrowsSaid : Prop := bloomGrowsRow.holds Try.pinned (OpenSpec.ofChange bloomGrowsSpec)

/-- ITS FALSE NEIGHBOUR: 'it returns false'. Refute it at one input. -/
def bloomGrowsWrong : ChangeSpec := { name := "bloomGrows", fn := fun _ => fun
  | [d1, d2] => { results := [.lit (.bool false)], args := [d1, d2] }
  | _ => none }
def BloomGrowsWrongFalsely : Prop := bloomGrowsRow.holds Try.pinned (OpenSpec.ofChange bloomGrowsWrong)

/- THE SECOND FORM. 'bulk': how many values and letters a reading holds, each counted each time it is reached (what is shared counts as often as it is met; a slice's spare places count too). A statement '..UptoSaid' is the law's where the arguments, and the package variables that the reading takes, are together of bulk at most 1048576: NARROWER than '..Said'. Prove '..Said' where nothing that the law and all that it calls make is longer than what came in: it says more and counts as full. Else prove '..UptoSaid'. A law counts once. -/
mutual
def uptoBulk {H : Type} : DataW H → Nat
  | .lit (.string bytes) => bytes.length + 1
  | .lit _ => 1
  | .nil => 1
  | .ptr d => uptoBulk d + 1
  | .slice elems spare => uptoBulkAll elems + uptoBulkAll spare + 1
  | .agg parts => uptoBulkAll parts + 1
  | .iface _ d => uptoBulk d + 1
  | .map entries => uptoBulkEntries entries + 1
  | .held _ => 1
def uptoBulkAll {H : Type} : List (DataW H) → Nat
  | [] => 0
  | d :: r => uptoBulk d + uptoBulkAll r
def uptoBulkEntries {H : Type} : List (Lit × DataW H) → Nat
  | [] => 0
  | x :: r => uptoBulkEntry x + uptoBulkEntries r
def uptoBulkEntry {H : Type} : Lit × DataW H → Nat
  | (.string bytes, d) => bytes.length + uptoBulk d + 1
  | (_, d) => uptoBulk d + 1
 end
def uptoSmall : (H : Type) → List (DataW H) → Bool := fun _ ds => decide (uptoBulkAll ds ≤ 1048576)
def OpenSpec.upto (s : _root_.Go.ChangeSpec) : _root_.Go.OpenSpec := { _root_.Go.OpenSpec.ofChange s with cond := some uptoSmall }

/-- 'palaverlaw14.BloomSizes', WHERE WHAT IT READS IS OF BULK AT MOST 1048576: true; the input reads as it did. -/
def bloomSizesUptoRow : OpenClaim := { program := "ytjpjhbgdaflmgaa", sum := "de2b94077e7cb91d40f7fc66218a55c22758054d693354a48d2daaf6ffe43075", func := "palaver/palaverlaw14.BloomSizes", spec := "bloomSizes", apart := false, narrowed := true }
def BloomSizesUptoSaid : Prop := bloomSizesUptoRow.holds Try.pinned (OpenSpec.upto bloomSizesSpec)

/-- 'palaverlaw14.BloomMakes', WHERE WHAT IT READS IS OF BULK AT MOST 1048576: true; the input reads as it did. -/
def bloomMakesUptoRow : OpenClaim := { program := "ytjpjhbgdaflmgaa", sum := "de2b94077e7cb91d40f7fc66218a55c22758054d693354a48d2daaf6ffe43075", func := "palaver/palaverlaw14.BloomMakes", spec := "bloomMakes", apart := false, narrowed := true }
def BloomMakesUptoSaid : Prop := bloomMakesUptoRow.holds Try.pinned (OpenSpec.upto bloomMakesSpec)

/-- 'palaverlaw14.BloomHas', WHERE WHAT IT READS IS OF BULK AT MOST 1048576: true; the input reads as it did. -/
def bloomHasUptoRow : OpenClaim := { program := "ytjpjhbgdaflmgaa", sum := "de2b94077e7cb91d40f7fc66218a55c22758054d693354a48d2daaf6ffe43075", func := "palaver/palaverlaw14.BloomHas", spec := "bloomHas", apart := false, narrowed := true }
def BloomHasUptoSaid : Prop := bloomHasUptoRow.holds Try.pinned (OpenSpec.upto bloomHasSpec)

/-- 'palaverlaw14.BloomKeeps', WHERE WHAT IT READS IS OF BULK AT MOST 1048576: true; the input reads as it did. -/
def bloomKeepsUptoRow : OpenClaim := { program := "ytjpjhbgdaflmgaa", sum := "de2b94077e7cb91d40f7fc66218a55c22758054d693354a48d2daaf6ffe43075", func := "palaver/palaverlaw14.BloomKeeps", spec := "bloomKeeps", apart := false, narrowed := true }
def BloomKeepsUptoSaid : Prop := bloomKeepsUptoRow.holds Try.pinned (OpenSpec.upto bloomKeepsSpec)

/-- 'palaverlaw14.BloomTurned', WHERE WHAT IT READS IS OF BULK AT MOST 1048576: true; the input reads as it did. -/
def bloomTurnedUptoRow : OpenClaim := { program := "ytjpjhbgdaflmgaa", sum := "de2b94077e7cb91d40f7fc66218a55c22758054d693354a48d2daaf6ffe43075", func := "palaver/palaverlaw14.BloomTurned", spec := "bloomTurned", apart := false, narrowed := true }
def BloomTurnedUptoSaid : Prop := bloomTurnedUptoRow.holds Try.pinned (OpenSpec.upto bloomTurnedSpec)

/-- 'palaverlaw14.BloomGrows', WHERE WHAT IT READS IS OF BULK AT MOST 1048576: true; the input reads as it did. -/
def bloomGrowsUptoRow : OpenClaim := { program := "ytjpjhbgdaflmgaa", sum := "de2b94077e7cb91d40f7fc66218a55c22758054d693354a48d2daaf6ffe43075", func := "palaver/palaverlaw14.BloomGrows", spec := "bloomGrows", apart := false, narrowed := true }
def BloomGrowsUptoSaid : Prop := bloomGrowsUptoRow.holds Try.pinned (OpenSpec.upto bloomGrowsSpec)

end Rows
end Go.Proofs.Ytjpjhbgdaflmgaa
