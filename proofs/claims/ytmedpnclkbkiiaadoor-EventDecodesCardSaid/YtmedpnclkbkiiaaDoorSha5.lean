/-
  The document's input of a tag and texts is the program's, and so is its digest.
  Conditions: none.
-/
import Derived.Test.YtmedpnclkbkiiaaDoorSha2
import Derived.Test.YtmedpnclkbkiiaaDoorSha4
import Derived.Test.YtmedpnclkbkiiaaDoorPPx4
import Derived.Test.YtmedpnclkbkiiaaDoorPPx6
namespace Go.Proofs.YtmedpnclkbkiiaaDoor.Sha
open Go.RowKit Go.Proofs.YtmedpnclkbkiiaaDoor.PP Go.Proofs.YtmedpnclkbkiiaaDoorW.PrintWords Go.Proofs.YtmedpnclkbkiiaaDoorW.PrintLast Go.Proofs.YtmedpnclkbkiiaaDoorW.PrintMore
set_option linter.unusedSimpArgs false
set_option linter.unusedVariables false

theorem ifs {p : Prop} [Decidable p] {α : Type} {F G : Nat → Option α} {v : α} (h : p) (hF : Sha.Ev F v) : Sha.Ev (fun k => if p then F k else G k) v := by
  simp only [if_pos h]
  exact hF
theorem ifn {p : Prop} [Decidable p] {α : Type} {F G : Nat → Option α} {v : α} (h : ¬ p) (hG : Sha.Ev G v) : Sha.Ev (fun k => if p then F k else G k) v := by
  simp only [if_neg h]
  exact hG
def fourI (n : Nat) : List Int := [(n : Int) / 16777216, (n : Int) / 65536 % 256, (n : Int) / 256 % 256, (n : Int) % 256]
def catI : List ByteArray → List Int
  | [] => []
  | s :: l => (fourI s.size ++ bytesOf s) ++ catI l
theorem fourI_mem (n : Nat) (h : n < 4294967296) : ∀ c ∈ fourI n, 0 ≤ c ∧ c < 256 := by
  intro c hc
  unfold fourI at hc
  simp only [List.mem_cons, List.not_mem_nil, or_false] at hc
  omega
theorem rnum_ev (n : Nat) (h : n < 4294967296) : Sha.Ev (fun k => palaverref01_Number.f k (n : Int) 4) (strOfNums (fourI n), true) := by
  refine ⟨12, fun k hk => ?_⟩
  obtain ⟨j, rfl⟩ : ∃ j, k = j + 12 := ⟨k - 12, by omega⟩
  show palaverref01_Number.f (j + 12) (n : Int) 4 = _
  rw [Oct.ref_four _ _ (by omega), if_neg (by omega)]
  rfl
end Go.Proofs.YtmedpnclkbkiiaaDoor.Sha
