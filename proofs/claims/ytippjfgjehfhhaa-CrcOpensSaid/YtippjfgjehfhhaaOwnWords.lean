import Derived.Test.YtippjfgjehfhhaaWWords
import Derived.Test.YtippjfgjehfhhaaWLast
import Derived.Test.YtippjfgjehfhhaaWMore
import Derived.Lib.ConvBytes
set_option linter.unusedVariables false
namespace Go.Proofs.YtippjfgjehfhhaaW.PrintWords
open Go.RowKit

/-- A length is no more than its kind holds. -/
theorem u64_len {n : Nat} (h : n ≤ 9223372036854775807) : IntKind.u64.wrap (n : Int) = n := by
  simp only [IntKind.wrap, IntKind.bits, IntKind.signed]
  simp
  omega
/-- A row that is read, its length spelled otherwise. -/
theorem rr_len {α : Type} {R : α → List Value → Prop} {size n : Nat} {w : World} {A : Option Addr} {ps : List α} (e : ps.length = n) (h : ReadsRow R size w A ps.length ps) : ReadsRow R size w A n ps := e ▸ h

/-- The address of a row: a local array is told as a row of the call's own. -/
def ptrOf : Value → Option Addr
  | .slice A _ _ => A
  | _ => none
@[go_sem] theorem ptrOf_slice (A : Option Addr) (n c : Nat) : ptrOf (.slice A n c) = A := rfl

section
variable {P : Program} {ops : Array Oper} {o : Oper} {rest : List Oper} {a : Act} {Q : Exit → Act → World → Prop}
/-- A local array of plain values: a row of the call's own. -/
theorem R_arr {α : Type} (enc : α → Value) (h1 : ∀ x, (enc x).oneCell' = true) {w0 W : World} (base e : Nat) (hgd : o.guard = none) {N : Tmp} (_hd : o.dst = some N) (xs : List α)
    (hrun : (execOp a.eval o).run P W = .ok (.value (.pointer (some ⟨W.heap.size, 0, none⟩))) (W.alloc (.cells (xs.map enc).toArray e)))
    (HB : Below base w0 W) (hbase : base ≤ W.heap.size) (hm : xs.length ≤ 9223372036854775807)
    (h : ∀ v1 w1, (Kd.scalar enc h1).R e w1 base (fun _ => True) v1 xs → Below base w0 w1 → W.grownBy w1 none → (∃ b, v1.ownBlock = some b ∧ W.heap.size ≤ b) → wpList P ops Q rest (a.put o.dst (.pointer (ptrOf v1))) w1) : wpList P ops Q (o :: rest) a W := by
  refine Kd.event_run hgd hrun (h (.slice (some ⟨W.heap.size, 0, none⟩) xs.length xs.length) _ ?_ (HB.alloc hbase _) (World.grownBy_alloc W _ none) ⟨W.heap.size, by simp [Value.ownBlock], Nat.le_refl _⟩)
  refine Kd.R_of_own ?_ (fun _ _ => trivial)
  have h2 := World.ownsRow_lit (base := base) (e := e) (size := 1) W (xs.map enc).toArray xs.length hbase (by simpa [maxLen] using hm) (by simp)
  simpa [encs] using h2
/-- A string's bytes as a new slice that is only read. -/
theorem conv_event {W : World} (hgd : o.guard = none) {N : Tmp} (_hd : o.dst = some N) (src dst e : TypeId) (x : Operand) (ho : o.op = .convert src dst x) (s : ByteArray) (hx : a.eval x = .string s)
    {ys : List Int} (hys : ys = bytesOf s) {u : TypeDesc} (hs : P.underlying src = some u) (hdt : P.underlying dst = some (.slice e)) (he : P.underlying e = some (.int .u8)) (hsz : s.size ≤ 9223372036854775807)
    (h : ∀ A c w1, (Kd.int .u8).C w1 A ys.length ys → ys.length ≤ c → Below W.heap.size W w1 → wpList P ops Q rest (a.put o.dst (.slice A ys.length c)) w1) : wpList P ops Q (o :: rest) a W := by
  subst hys
  have hr := Lib.run_convert_string_bytes (P := P) W src dst e s hs hdt he
  refine Kd.event_run (W := W) (w1 := Lib.bytesWorld W e s) (v := .slice (some ⟨W.heap.size, 0, none⟩) s.size (grownCap W s.size 0 e)) hgd (by simp [execOp, ho, hx, hr]) ?_
  have h1 := h (some ⟨W.heap.size, 0, none⟩) (grownCap W s.size 0 e) (Lib.bytesWorld W e s) ?_ ?_ ?_
  · rw [bytesOf_length] at h1; exact h1
  · rw [bytesOf_length]
    have h2 := bytes_reads W e s hsz
    exact Kd.C_of_reads (enc := Value.int .u8) (d := (0 : Int)) (h1 := fun _ => rfl) h2
  · rw [bytesOf_length]
    exact grownCap_ge W s.size 0 e
  · exact bytes_below (Below.refl _ _) (Nat.le_refl _) e s
end
end Go.Proofs.YtippjfgjehfhhaaW.PrintWords
