/-
  Trees: the program's tag, fold, and the document's, are one; the document's example.
  Conditions: none.
-/
import Derived.Test.YtnfbagkeenjifaaDoorSha5
import Derived.Test.YtnfbagkeenjifaaDoorPPx1
import Derived.Test.YtnfbagkeenjifaaDoorPPx2
namespace Go.Proofs.YtnfbagkeenjifaaDoor.Sha
open Go.RowKit Go.Proofs.YtnfbagkeenjifaaDoor.PP Go.Proofs.YtnfbagkeenjifaaDoorW.PrintWords Go.Proofs.YtnfbagkeenjifaaDoorW.PrintLast Go.Proofs.YtnfbagkeenjifaaDoorW.PrintMore
set_option linter.unusedSimpArgs false
set_option linter.unusedVariables false

def dig (s : ByteArray) : ByteArray := fin (bd (nb s) (PD s (8 * (s.size : Int))) Sha.start)
theorem dig_size (s : ByteArray) : (dig s).size = 32 := by
  unfold dig fin
  rw [strOfNums_size]
  rfl
def inp (l : List ByteArray) : ByteArray := ⟨([sha_Input.u8 4] ++ cat l).toArray⟩
def tg (l : List ByteArray) : ByteArray := dig (inp l)
theorem tag_ev (l : List ByteArray) (h : ∀ s ∈ l, s.size ≤ 2000) (hl : l.length ≤ 500) : Sha.Ev (fun k => sha_Tag.f k 4 l) (tg l) := by
  unfold sha_Tag.f
  exact Ev.bind (input_small 4 l h hl) (Ev.bind (sum_ev _ (small_size 4 l h hl)) (Ev.pure _))
theorem rtag_ev (l : List ByteArray) (h : ∀ s ∈ l, s.size ≤ 2000) (hl : l.length ≤ 500) : Sha.Ev (fun k => palaverref02_Tag.f k 4 l) (tg l) := by
  unfold palaverref02_Tag.f
  exact Ev.bind (rinput_small 4 (by decide) l h hl) (Ev.bind (ref_ev _ (small_size 4 l h hl)) (Ev.pure _))
/-- The two that are joined. -/
def pr (i : Int) (x p : ByteArray) : List ByteArray := if i % 2 = 1 then [p, x] else [x, p]
theorem pr_mem (i : Int) (x p : ByteArray) (hx : x.size ≤ 2000) (hp : p.size ≤ 2000) : ∀ s ∈ pr i x p, s.size ≤ 2000 := by
  intro s hs
  unfold pr at hs
  split at hs <;> simp only [List.mem_cons, List.not_mem_nil, or_false] at hs <;> rcases hs with rfl | rfl <;> assumption
theorem pr_len (i : Int) (x p : ByteArray) : (pr i x p).length = 2 := by
  unfold pr
  split <;> rfl
def Fo : List ByteArray → Int → ByteArray → ByteArray
  | [], _, x => x
  | p :: ps, i, x => Fo ps (i / 2) (tg (pr i x p))
def Rd : List ByteArray → Int → ByteArray → List ByteArray
  | [], _, _ => []
  | p :: ps, i, x => inp (pr i x p) :: Rd ps (i / 2) (tg (pr i x p))
theorem and_one (i : Int) (h0 : 0 ≤ i) (h1 : i < 16) : Go.bits .and .i64 i 1 = i % 2 := by
  have : i = 0 ∨ i = 1 ∨ i = 2 ∨ i = 3 ∨ i = 4 ∨ i = 5 ∨ i = 6 ∨ i = 7 ∨ i = 8 ∨ i = 9 ∨ i = 10 ∨ i = 11 ∨ i = 12 ∨ i = 13 ∨ i = 14 ∨ i = 15 := by omega
  rcases this with rfl | rfl | rfl | rfl | rfl | rfl | rfl | rfl | rfl | rfl | rfl | rfl | rfl | rfl | rfl | rfl <;> decide
theorem at_get (l : List ByteArray) (j : Nat) (h : j < l.length) : rdOf ByteArray.empty l (j : Int) = l[j] := by
  unfold rdOf
  simp [List.getD, h]
theorem upN (i : Nat) (h : i ≤ 1000) : wrap64 ((i : Int) + 1) = ((i + 1 : Nat) : Int) := by rw [w64 (by omega) (by omega)]; omega
def fold (x : ByteArray) (i : Int) (l : List ByteArray) : ByteArray × Bool := if l.length ≤ 4 ∧ 0 ≤ i ∧ i < 2 ^ l.length then (Fo l i x, true) else (⟨#[]⟩, false)
theorem shl_one (n : Nat) (h : n ≤ 4) : shl .i64 1 (n : Int) = 2 ^ n := by
  have : n = 0 ∨ n = 1 ∨ n = 2 ∨ n = 3 ∨ n = 4 := by omega
  rcases this with rfl | rfl | rfl | rfl | rfl <;> decide
theorem pow4 (n : Nat) (h : n ≤ 4) : (2 : Int) ^ n ≤ 16 := by
  have : n = 0 ∨ n = 1 ∨ n = 2 ∨ n = 3 ∨ n = 4 := by omega
  rcases this with rfl | rfl | rfl | rfl | rfl <;> decide
def rfold (x : ByteArray) (i : Int) (l : List ByteArray) : ByteArray × List ByteArray × Bool := if l.length ≤ 4 ∧ 0 ≤ i ∧ i < 2 ^ l.length then (Fo l i x, Rd l i x, true) else (⟨#[]⟩, [], false)
/-! long ones -/
end Go.Proofs.YtnfbagkeenjifaaDoor.Sha
