/-
  NARROWER THAN 'FOR EVERY INPUT', by the rows' own cells (each row's printed sentence says how): WotsDigits: laid · WotsLower: laid · WotsChains: laid · WotsRecovers: laid · WotsPublics: laid · WotsSigns: laid · WotsTurned: laid · WotsBack: laid.
  DERIVED. THE GIVEN ROWS OF THIS SEAT. 8 by the template 'for every input the law returns true; each argument reads behind the call as it read before'; 0 by the template 'total and deterministic' (their statements: YtkdbobccchkdjaaDoorTotals.lean).
  GIVEN WITH THE SEED: the statements are not yours to turn. If you find one false, say at which input.
  Laid BY PROGRAM, IN A SANDBOX (cutbox-rows.mjs): the forced cells as the released guide's own fill.sh prints them over the translation ce4c543f39c2f188… (all of the seat's roots in one cut). By AI agents, Wed Nov 11 2026. No macro, syntax, notation, axiom, sorry.
-/
import Derived.Test.YtkdbobccchkdjaaDoorChecked
import GoSem.Claim
import GoSem.ClaimJoined
import GoSem.ClaimMapViews
import Derived.JoinedTies
import Derived.KernelRfl
namespace Go.Proofs.YtkdbobccchkdjaaDoor
/- THE CELL 'sum', in the pinned program and in every row, IS THE sha256 OF THE DUMP (.gsa) THAT YtkdbobccchkdjaaDoorProg.lean LOADS. Nothing in Lean hashes anything: it is a label: what it is worth is what the hold of that sum in a sandbox is worth. -/
noncomputable def Tryd.pinned : Pinned := { name := "ytkdbobccchkdjaadoor", sum := "ce4c543f39c2f188fdbced1301303f322960502899d337a4ccd91cdb92e3bc33", checked := Tryd.checked }
namespace Rows
def none {H : Type} : Left H := { results := [], args := [] }

/- WHAT THE LISTED PACKAGE-LEVEL VARIABLES READ AS WHEN THE CALL BEGINS. Each datum BY PROGRAM (the guide's laid-datum.mjs) off the statement by which the dump's own 'gosem.cut.vars' lays the variable. In a bare row this is a premise. The card (YtkdbobccchkdjaaDoorCards.lean) ties it to the program's text. -/
def laid_palaver_sha_keys {H : Type} : DataW H := .agg [.lit (.int .u32 1116352408), .lit (.int .u32 1899447441), .lit (.int .u32 3049323471), .lit (.int .u32 3921009573), .lit (.int .u32 961987163), .lit (.int .u32 1508970993), .lit (.int .u32 2453635748), .lit (.int .u32 2870763221), .lit (.int .u32 3624381080), .lit (.int .u32 310598401), .lit (.int .u32 607225278), .lit (.int .u32 1426881987), .lit (.int .u32 1925078388), .lit (.int .u32 2162078206), .lit (.int .u32 2614888103), .lit (.int .u32 3248222580), .lit (.int .u32 3835390401), .lit (.int .u32 4022224774), .lit (.int .u32 264347078), .lit (.int .u32 604807628), .lit (.int .u32 770255983), .lit (.int .u32 1249150122), .lit (.int .u32 1555081692), .lit (.int .u32 1996064986), .lit (.int .u32 2554220882), .lit (.int .u32 2821834349), .lit (.int .u32 2952996808), .lit (.int .u32 3210313671), .lit (.int .u32 3336571891), .lit (.int .u32 3584528711), .lit (.int .u32 113926993), .lit (.int .u32 338241895), .lit (.int .u32 666307205), .lit (.int .u32 773529912), .lit (.int .u32 1294757372), .lit (.int .u32 1396182291), .lit (.int .u32 1695183700), .lit (.int .u32 1986661051), .lit (.int .u32 2177026350), .lit (.int .u32 2456956037), .lit (.int .u32 2730485921), .lit (.int .u32 2820302411), .lit (.int .u32 3259730800), .lit (.int .u32 3345764771), .lit (.int .u32 3516065817), .lit (.int .u32 3600352804), .lit (.int .u32 4094571909), .lit (.int .u32 275423344), .lit (.int .u32 430227734), .lit (.int .u32 506948616), .lit (.int .u32 659060556), .lit (.int .u32 883997877), .lit (.int .u32 958139571), .lit (.int .u32 1322822218), .lit (.int .u32 1537002063), .lit (.int .u32 1747873779), .lit (.int .u32 1955562222), .lit (.int .u32 2024104815), .lit (.int .u32 2227730452), .lit (.int .u32 2361852424), .lit (.int .u32 2428436474), .lit (.int .u32 2756734187), .lit (.int .u32 3204031479), .lit (.int .u32 3329325298)]

/-- 'palaverlaw03.WotsDigits': WHATEVER THE INPUT: true; the input reads as it did. -/
def wotsDigitsSpec : ChangeSpec := { name := "wotsDigits", fn := fun _ => fun
  | [d] => { results := [.lit (.bool true)], args := [d] }
  | _ => none }
def wotsDigitsRow : OpenClaim := { program := "ytkdbobccchkdjaadoor", sum := "ce4c543f39c2f188fdbced1301303f322960502899d337a4ccd91cdb92e3bc33", func := "palaver/palaverlaw03.WotsDigits", spec := "wotsDigits", inPlace := ["internal/abi.NoEscape", "internal/bytealg.MakeNoZero"], named := ["palaver/sha.keys"], apart := false, laid := [("palaver/sha.keys", laid_palaver_sha_keys)] }
def WotsDigitsSaid : Prop := wotsDigitsRow.holds Tryd.pinned (OpenSpec.ofChange wotsDigitsSpec)

/-- ITS FALSE NEIGHBOUR: 'it returns false'. Refute it at one input. -/
def wotsDigitsWrong : ChangeSpec := { name := "wotsDigits", fn := fun _ => fun
  | [d] => { results := [.lit (.bool false)], args := [d] }
  | _ => none }
def WotsDigitsWrongFalsely : Prop := wotsDigitsRow.holds Tryd.pinned (OpenSpec.ofChange wotsDigitsWrong)

/-- 'palaverlaw03.WotsLower': WHATEVER THE INPUT: true; the input reads as it did. -/
def wotsLowerSpec : ChangeSpec := { name := "wotsLower", fn := fun _ => fun
  | [d1, d2] => { results := [.lit (.bool true)], args := [d1, d2] }
  | _ => none }
def wotsLowerRow : OpenClaim := { program := "ytkdbobccchkdjaadoor", sum := "ce4c543f39c2f188fdbced1301303f322960502899d337a4ccd91cdb92e3bc33", func := "palaver/palaverlaw03.WotsLower", spec := "wotsLower", inPlace := ["internal/abi.NoEscape", "internal/bytealg.MakeNoZero"], named := ["palaver/sha.keys"], apart := false, laid := [("palaver/sha.keys", laid_palaver_sha_keys)] }
def WotsLowerSaid : Prop := wotsLowerRow.holds Tryd.pinned (OpenSpec.ofChange wotsLowerSpec)

/-- ITS FALSE NEIGHBOUR: 'it returns false'. Refute it at one input. -/
def wotsLowerWrong : ChangeSpec := { name := "wotsLower", fn := fun _ => fun
  | [d1, d2] => { results := [.lit (.bool false)], args := [d1, d2] }
  | _ => none }
def WotsLowerWrongFalsely : Prop := wotsLowerRow.holds Tryd.pinned (OpenSpec.ofChange wotsLowerWrong)

/-- 'palaverlaw03.WotsChains': WHATEVER THE INPUT: true; the input reads as it did. -/
def wotsChainsSpec : ChangeSpec := { name := "wotsChains", fn := fun _ => fun
  | [d1, d2, d3, d4] => { results := [.lit (.bool true)], args := [d1, d2, d3, d4] }
  | _ => none }
def wotsChainsRow : OpenClaim := { program := "ytkdbobccchkdjaadoor", sum := "ce4c543f39c2f188fdbced1301303f322960502899d337a4ccd91cdb92e3bc33", func := "palaver/palaverlaw03.WotsChains", spec := "wotsChains", inPlace := ["internal/abi.NoEscape", "internal/bytealg.MakeNoZero"], named := ["palaver/sha.keys"], apart := false, laid := [("palaver/sha.keys", laid_palaver_sha_keys)] }
def WotsChainsSaid : Prop := wotsChainsRow.holds Tryd.pinned (OpenSpec.ofChange wotsChainsSpec)

/-- ITS FALSE NEIGHBOUR: 'it returns false'. Refute it at one input. -/
def wotsChainsWrong : ChangeSpec := { name := "wotsChains", fn := fun _ => fun
  | [d1, d2, d3, d4] => { results := [.lit (.bool false)], args := [d1, d2, d3, d4] }
  | _ => none }
def WotsChainsWrongFalsely : Prop := wotsChainsRow.holds Tryd.pinned (OpenSpec.ofChange wotsChainsWrong)

/-- 'palaverlaw03.WotsRecovers': WHATEVER THE INPUT: true; the input reads as it did. -/
def wotsRecoversSpec : ChangeSpec := { name := "wotsRecovers", fn := fun _ => fun
  | [d1, d2] => { results := [.lit (.bool true)], args := [d1, d2] }
  | _ => none }
def wotsRecoversRow : OpenClaim := { program := "ytkdbobccchkdjaadoor", sum := "ce4c543f39c2f188fdbced1301303f322960502899d337a4ccd91cdb92e3bc33", func := "palaver/palaverlaw03.WotsRecovers", spec := "wotsRecovers", inPlace := ["internal/abi.NoEscape", "internal/bytealg.MakeNoZero"], named := ["palaver/sha.keys"], apart := false, laid := [("palaver/sha.keys", laid_palaver_sha_keys)] }
def WotsRecoversSaid : Prop := wotsRecoversRow.holds Tryd.pinned (OpenSpec.ofChange wotsRecoversSpec)

/-- ITS FALSE NEIGHBOUR: 'it returns false'. Refute it at one input. -/
def wotsRecoversWrong : ChangeSpec := { name := "wotsRecovers", fn := fun _ => fun
  | [d1, d2] => { results := [.lit (.bool false)], args := [d1, d2] }
  | _ => none }
def WotsRecoversWrongFalsely : Prop := wotsRecoversRow.holds Tryd.pinned (OpenSpec.ofChange wotsRecoversWrong)

/-- 'palaverlaw03.WotsPublics': WHATEVER THE INPUT: true; the input reads as it did. -/
def wotsPublicsSpec : ChangeSpec := { name := "wotsPublics", fn := fun _ => fun
  | [d1, d2] => { results := [.lit (.bool true)], args := [d1, d2] }
  | _ => none }
def wotsPublicsRow : OpenClaim := { program := "ytkdbobccchkdjaadoor", sum := "ce4c543f39c2f188fdbced1301303f322960502899d337a4ccd91cdb92e3bc33", func := "palaver/palaverlaw03.WotsPublics", spec := "wotsPublics", inPlace := ["internal/abi.NoEscape", "internal/bytealg.MakeNoZero"], unfollowed := true, recurses := true, named := ["palaver/sha.keys"], apart := false, laid := [("palaver/sha.keys", laid_palaver_sha_keys)] }
def WotsPublicsSaid : Prop := wotsPublicsRow.holds Tryd.pinned (OpenSpec.ofChange wotsPublicsSpec)

/-- ITS FALSE NEIGHBOUR: 'it returns false'. Refute it at one input. -/
def wotsPublicsWrong : ChangeSpec := { name := "wotsPublics", fn := fun _ => fun
  | [d1, d2] => { results := [.lit (.bool false)], args := [d1, d2] }
  | _ => none }
def WotsPublicsWrongFalsely : Prop := wotsPublicsRow.holds Tryd.pinned (OpenSpec.ofChange wotsPublicsWrong)

/-- 'palaverlaw03.WotsSigns': WHATEVER THE INPUT: true; the input reads as it did. -/
def wotsSignsSpec : ChangeSpec := { name := "wotsSigns", fn := fun _ => fun
  | [d1, d2, d3] => { results := [.lit (.bool true)], args := [d1, d2, d3] }
  | _ => none }
def wotsSignsRow : OpenClaim := { program := "ytkdbobccchkdjaadoor", sum := "ce4c543f39c2f188fdbced1301303f322960502899d337a4ccd91cdb92e3bc33", func := "palaver/palaverlaw03.WotsSigns", spec := "wotsSigns", inPlace := ["internal/abi.NoEscape", "internal/bytealg.MakeNoZero"], unfollowed := true, recurses := true, named := ["palaver/sha.keys"], apart := false, laid := [("palaver/sha.keys", laid_palaver_sha_keys)] }
def WotsSignsSaid : Prop := wotsSignsRow.holds Tryd.pinned (OpenSpec.ofChange wotsSignsSpec)

/-- ITS FALSE NEIGHBOUR: 'it returns false'. Refute it at one input. -/
def wotsSignsWrong : ChangeSpec := { name := "wotsSigns", fn := fun _ => fun
  | [d1, d2, d3] => { results := [.lit (.bool false)], args := [d1, d2, d3] }
  | _ => none }
def WotsSignsWrongFalsely : Prop := wotsSignsRow.holds Tryd.pinned (OpenSpec.ofChange wotsSignsWrong)

/-- 'palaverlaw03.WotsTurned': WHATEVER THE INPUT: true; the input reads as it did. -/
def wotsTurnedSpec : ChangeSpec := { name := "wotsTurned", fn := fun _ => fun
  | [d1, d2, d3, d4, d5] => { results := [.lit (.bool true)], args := [d1, d2, d3, d4, d5] }
  | _ => none }
def wotsTurnedRow : OpenClaim := { program := "ytkdbobccchkdjaadoor", sum := "ce4c543f39c2f188fdbced1301303f322960502899d337a4ccd91cdb92e3bc33", func := "palaver/palaverlaw03.WotsTurned", spec := "wotsTurned", inPlace := ["internal/abi.NoEscape", "internal/bytealg.MakeNoZero"], unfollowed := true, recurses := true, named := ["palaver/sha.keys"], apart := false, laid := [("palaver/sha.keys", laid_palaver_sha_keys)] }
def WotsTurnedSaid : Prop := wotsTurnedRow.holds Tryd.pinned (OpenSpec.ofChange wotsTurnedSpec)

/-- ITS FALSE NEIGHBOUR: 'it returns false'. Refute it at one input. -/
def wotsTurnedWrong : ChangeSpec := { name := "wotsTurned", fn := fun _ => fun
  | [d1, d2, d3, d4, d5] => { results := [.lit (.bool false)], args := [d1, d2, d3, d4, d5] }
  | _ => none }
def WotsTurnedWrongFalsely : Prop := wotsTurnedRow.holds Tryd.pinned (OpenSpec.ofChange wotsTurnedWrong)

/-- 'palaverlaw03.WotsBack': WHATEVER THE INPUT: true; the input reads as it did. -/
def wotsBackSpec : ChangeSpec := { name := "wotsBack", fn := fun _ => fun
  | [d1, d2, d3] => { results := [.lit (.bool true)], args := [d1, d2, d3] }
  | _ => none }
def wotsBackRow : OpenClaim := { program := "ytkdbobccchkdjaadoor", sum := "ce4c543f39c2f188fdbced1301303f322960502899d337a4ccd91cdb92e3bc33", func := "palaver/palaverlaw03.WotsBack", spec := "wotsBack", inPlace := ["internal/abi.NoEscape", "internal/bytealg.MakeNoZero"], unfollowed := true, recurses := true, named := ["palaver/sha.keys"], apart := false, laid := [("palaver/sha.keys", laid_palaver_sha_keys)] }
def WotsBackSaid : Prop := wotsBackRow.holds Tryd.pinned (OpenSpec.ofChange wotsBackSpec)

/-- ITS FALSE NEIGHBOUR: 'it returns false'. Refute it at one input. -/
def wotsBackWrong : ChangeSpec := { name := "wotsBack", fn := fun _ => fun
  | [d1, d2, d3] => { results := [.lit (.bool false)], args := [d1, d2, d3] }
  | _ => none }
def WotsBackWrongFalsely : Prop := wotsBackRow.holds Tryd.pinned (OpenSpec.ofChange wotsBackWrong)

/- THE SECOND FORM. 'bulk': how many values and letters a reading holds, each counted each time it is reached (what is shared counts as often as it is met; a slice's spare places count too). A statement '..UptoSaid' is the law's where the arguments, and the package variables that the reading takes, are together of bulk at most 1048576: NARROWER than '..Said'. Prove '..Said' where nothing that the law and all that it calls make is longer than what came in: it says more and counts as full. Else prove '..UptoSaid'. A law counts once. -/
mutual
def uptoBulk {H : Type} : DataW H → Nat
  | .lit (.string bytes) => bytes.length + 1
  | .lit _ => 1
  | .nil => 1
  | .ptr d => uptoBulk d + 1
  | .slice elems spare => uptoBulkAll elems + uptoBulkAll spare + 1
  | .agg parts => uptoBulkAll parts + 1
  | .iface _ d => uptoBulk d + 1
  | .map entries => uptoBulkEntries entries + 1
  | .held _ => 1
def uptoBulkAll {H : Type} : List (DataW H) → Nat
  | [] => 0
  | d :: r => uptoBulk d + uptoBulkAll r
def uptoBulkEntries {H : Type} : List (Lit × DataW H) → Nat
  | [] => 0
  | x :: r => uptoBulkEntry x + uptoBulkEntries r
def uptoBulkEntry {H : Type} : Lit × DataW H → Nat
  | (.string bytes, d) => bytes.length + uptoBulk d + 1
  | (_, d) => uptoBulk d + 1
 end
def uptoSmall : (H : Type) → List (DataW H) → Bool := fun _ ds => decide (uptoBulkAll ds ≤ 1048576)
def OpenSpec.upto (s : _root_.Go.ChangeSpec) : _root_.Go.OpenSpec := { _root_.Go.OpenSpec.ofChange s with cond := some uptoSmall }

/-- 'palaverlaw03.WotsDigits', WHERE WHAT IT READS IS OF BULK AT MOST 1048576: true; the input reads as it did. -/
def wotsDigitsUptoRow : OpenClaim := { program := "ytkdbobccchkdjaadoor", sum := "ce4c543f39c2f188fdbced1301303f322960502899d337a4ccd91cdb92e3bc33", func := "palaver/palaverlaw03.WotsDigits", spec := "wotsDigits", inPlace := ["internal/abi.NoEscape", "internal/bytealg.MakeNoZero"], named := ["palaver/sha.keys"], apart := false, laid := [("palaver/sha.keys", laid_palaver_sha_keys)], narrowed := true }
def WotsDigitsUptoSaid : Prop := wotsDigitsUptoRow.holds Tryd.pinned (OpenSpec.upto wotsDigitsSpec)

/-- 'palaverlaw03.WotsLower', WHERE WHAT IT READS IS OF BULK AT MOST 1048576: true; the input reads as it did. -/
def wotsLowerUptoRow : OpenClaim := { program := "ytkdbobccchkdjaadoor", sum := "ce4c543f39c2f188fdbced1301303f322960502899d337a4ccd91cdb92e3bc33", func := "palaver/palaverlaw03.WotsLower", spec := "wotsLower", inPlace := ["internal/abi.NoEscape", "internal/bytealg.MakeNoZero"], named := ["palaver/sha.keys"], apart := false, laid := [("palaver/sha.keys", laid_palaver_sha_keys)], narrowed := true }
def WotsLowerUptoSaid : Prop := wotsLowerUptoRow.holds Tryd.pinned (OpenSpec.upto wotsLowerSpec)

/-- 'palaverlaw03.WotsChains', WHERE WHAT IT READS IS OF BULK AT MOST 1048576: true; the input reads as it did. -/
def wotsChainsUptoRow : OpenClaim := { program := "ytkdbobccchkdjaadoor", sum := "ce4c543f39c2f188fdbced1301303f322960502899d337a4ccd91cdb92e3bc33", func := "palaver/palaverlaw03.WotsChains", spec := "wotsChains", inPlace := ["internal/abi.NoEscape", "internal/bytealg.MakeNoZero"], named := ["palaver/sha.keys"], apart := false, laid := [("palaver/sha.keys", laid_palaver_sha_keys)], narrowed := true }
def WotsChainsUptoSaid : Prop := wotsChainsUptoRow.holds Tryd.pinned (OpenSpec.upto wotsChainsSpec)

/-- 'palaverlaw03.WotsRecovers', WHERE WHAT IT READS IS OF BULK AT MOST 1048576: true; the input reads as it did. -/
def wotsRecoversUptoRow : OpenClaim := { program := "ytkdbobccchkdjaadoor", sum := "ce4c543f39c2f188fdbced1301303f322960502899d337a4ccd91cdb92e3bc33", func := "palaver/palaverlaw03.WotsRecovers", spec := "wotsRecovers", inPlace := ["internal/abi.NoEscape", "internal/bytealg.MakeNoZero"], named := ["palaver/sha.keys"], apart := false, laid := [("palaver/sha.keys", laid_palaver_sha_keys)], narrowed := true }
def WotsRecoversUptoSaid : Prop := wotsRecoversUptoRow.holds Tryd.pinned (OpenSpec.upto wotsRecoversSpec)

/-- 'palaverlaw03.WotsPublics', WHERE WHAT IT READS IS OF BULK AT MOST 1048576: true; the input reads as it did. -/
def wotsPublicsUptoRow : OpenClaim := { program := "ytkdbobccchkdjaadoor", sum := "ce4c543f39c2f188fdbced1301303f322960502899d337a4ccd91cdb92e3bc33", func := "palaver/palaverlaw03.WotsPublics", spec := "wotsPublics", inPlace := ["internal/abi.NoEscape", "internal/bytealg.MakeNoZero"], unfollowed := true, recurses := true, named := ["palaver/sha.keys"], apart := false, laid := [("palaver/sha.keys", laid_palaver_sha_keys)], narrowed := true }
def WotsPublicsUptoSaid : Prop := wotsPublicsUptoRow.holds Tryd.pinned (OpenSpec.upto wotsPublicsSpec)

/-- 'palaverlaw03.WotsSigns', WHERE WHAT IT READS IS OF BULK AT MOST 1048576: true; the input reads as it did. -/
def wotsSignsUptoRow : OpenClaim := { program := "ytkdbobccchkdjaadoor", sum := "ce4c543f39c2f188fdbced1301303f322960502899d337a4ccd91cdb92e3bc33", func := "palaver/palaverlaw03.WotsSigns", spec := "wotsSigns", inPlace := ["internal/abi.NoEscape", "internal/bytealg.MakeNoZero"], unfollowed := true, recurses := true, named := ["palaver/sha.keys"], apart := false, laid := [("palaver/sha.keys", laid_palaver_sha_keys)], narrowed := true }
def WotsSignsUptoSaid : Prop := wotsSignsUptoRow.holds Tryd.pinned (OpenSpec.upto wotsSignsSpec)

/-- 'palaverlaw03.WotsTurned', WHERE WHAT IT READS IS OF BULK AT MOST 1048576: true; the input reads as it did. -/
def wotsTurnedUptoRow : OpenClaim := { program := "ytkdbobccchkdjaadoor", sum := "ce4c543f39c2f188fdbced1301303f322960502899d337a4ccd91cdb92e3bc33", func := "palaver/palaverlaw03.WotsTurned", spec := "wotsTurned", inPlace := ["internal/abi.NoEscape", "internal/bytealg.MakeNoZero"], unfollowed := true, recurses := true, named := ["palaver/sha.keys"], apart := false, laid := [("palaver/sha.keys", laid_palaver_sha_keys)], narrowed := true }
def WotsTurnedUptoSaid : Prop := wotsTurnedUptoRow.holds Tryd.pinned (OpenSpec.upto wotsTurnedSpec)

/-- 'palaverlaw03.WotsBack', WHERE WHAT IT READS IS OF BULK AT MOST 1048576: true; the input reads as it did. -/
def wotsBackUptoRow : OpenClaim := { program := "ytkdbobccchkdjaadoor", sum := "ce4c543f39c2f188fdbced1301303f322960502899d337a4ccd91cdb92e3bc33", func := "palaver/palaverlaw03.WotsBack", spec := "wotsBack", inPlace := ["internal/abi.NoEscape", "internal/bytealg.MakeNoZero"], unfollowed := true, recurses := true, named := ["palaver/sha.keys"], apart := false, laid := [("palaver/sha.keys", laid_palaver_sha_keys)], narrowed := true }
def WotsBackUptoSaid : Prop := wotsBackUptoRow.holds Tryd.pinned (OpenSpec.upto wotsBackSpec)

end Rows
end Go.Proofs.YtkdbobccchkdjaaDoor
