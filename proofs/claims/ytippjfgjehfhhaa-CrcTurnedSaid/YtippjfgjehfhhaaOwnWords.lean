import Derived.Test.YtippjfgjehfhhaaWWords
import Derived.Test.YtippjfgjehfhhaaWLast
import Derived.Test.YtippjfgjehfhhaaWMore
import Derived.Lib.ConvBytes
import Derived.Lib.BufferWrite
import Derived.Laws.CopyOwn
set_option linter.unusedVariables false
namespace Go.Proofs.YtippjfgjehfhhaaW.PrintWords
open Go.RowKit Go.Proofs.YtippjfgjehfhhaaW.PrintLast

/-- A length is no more than its kind holds. -/
theorem u64_len {n : Nat} (h : n ≤ 9223372036854775807) : IntKind.u64.wrap (n : Int) = n := by
  simp only [IntKind.wrap, IntKind.bits, IntKind.signed]
  simp
  omega
theorem less_not : ∀ x y : List UInt8, (Op.bytesLess x y || x == y) = !(Op.bytesLess y x)
  | [], [] => by simp [Op.bytesLess]
  | [], b :: y => by simp [Op.bytesLess]
  | a :: x, [] => by simp [Op.bytesLess]
  | a :: x, b :: y => by
    have ih := less_not x y
    simp only [Op.bytesLess]
    by_cases h : a = b
    · subst h
      have hl : ¬ a < a := by rw [UInt8.lt_iff_toNat_lt]; omega
      simp [hl] at *
      exact ih
    · have hn : a.toNat ≠ b.toNat := fun e => h (UInt8.toNat_inj.1 e)
      have hn2 : ¬ b = a := fun e => h e.symm
      by_cases c : a.toNat < b.toNat
      · have c1 : a < b := UInt8.lt_iff_toNat_lt.2 c
        have c2 : ¬ b < a := by rw [UInt8.lt_iff_toNat_lt]; omega
        simp [hn2, c1, c2]
      · have c1 : ¬ a < b := by rw [UInt8.lt_iff_toNat_lt]; omega
        have c2 : b < a := by rw [UInt8.lt_iff_toNat_lt]; omega
        simp [h, c1, c2]
@[go_sem] theorem binOp_string_leq' (t : TypeId) (a b : ByteArray) : binOp .leq t (.string a) (.string b) = pure (.bool !(Op.bytesLess b.toList a.toList)) := by
  rw [← less_not]; simp [binOp, Op.stringOp]
@[go_sem] theorem binOp_string_gtr' (t : TypeId) (a b : ByteArray) : binOp .gtr t (.string a) (.string b) = pure (.bool (Op.bytesLess b.toList a.toList)) := by
  rw [show Op.bytesLess b.toList a.toList = !(Op.bytesLess a.toList b.toList || a.toList == b.toList) by rw [less_not, Bool.not_not]]
  simp [binOp, Op.stringOp]
@[go_sem] theorem binOp_string_geq' (t : TypeId) (a b : ByteArray) : binOp .geq t (.string a) (.string b) = pure (.bool !(Op.bytesLess a.toList b.toList)) := by simp [binOp, Op.stringOp]
theorem nonempty_l (l : List UInt8) : (!l.isEmpty) = (l != []) := by cases l <;> rfl
/-- The address of a row: a local array is told as a row of the call's own. -/
@[reducible] def ptrOf : Value → Option Addr
  | .slice A _ _ => A
  | _ => none
@[go_sem] theorem ptrOf_slice (A : Option Addr) (n c : Nat) : ptrOf (.slice A n c) = A := rfl

section
variable {P : Program} {ops : Array Oper} {o : Oper} {rest : List Oper} {a : Act} {Q : Exit → Act → World → Prop}
/-- A local array of plain values: a row of the call's own. -/
theorem R_arr {α : Type} (enc : α → Value) (h1 : ∀ x, (enc x).oneCell' = true) {w0 W : World} (base e : Nat) (hgd : o.guard = none) {N : Tmp} (_hd : o.dst = some N) (xs : List α)
    (hrun : (execOp a.eval o).run P W = .ok (.value (.pointer (some ⟨W.heap.size, 0, none⟩))) (W.alloc (.cells (xs.map enc).toArray e)))
    (HB : Below base w0 W) (hbase : base ≤ W.heap.size) (hm : xs.length ≤ 9223372036854775807)
    (h : ∀ v1 w1, (Kd.scalar enc h1).R e w1 base (fun _ => True) v1 xs → Below base w0 w1 → W.grownBy w1 none → (∃ b, v1.ownBlock = some b ∧ W.heap.size ≤ b) → wpList P ops Q rest (a.put o.dst (.pointer (ptrOf v1))) w1) : wpList P ops Q (o :: rest) a W := by
  refine Kd.event_run hgd hrun (h (.slice (some ⟨W.heap.size, 0, none⟩) xs.length xs.length) _ ?_ (HB.alloc hbase _) (World.grownBy_alloc W _ none) ⟨W.heap.size, by simp [Value.ownBlock], Nat.le_refl _⟩)
  refine Kd.R_of_own ?_ (fun _ _ => trivial)
  have h2 := World.ownsRow_lit (base := base) (e := e) (size := 1) W (xs.map enc).toArray xs.length hbase (by simpa [maxLen] using hm) (by simp)
  simpa [encs] using h2
/-- The words of the rounds, as the program's package lays them. -/
def keysL : List Int := [1116352408, 1899447441, 3049323471, 3921009573, 961987163, 1508970993, 2453635748, 2870763221, 3624381080, 310598401, 607225278, 1426881987, 1925078388, 2162078206, 2614888103, 3248222580, 3835390401, 4022224774, 264347078, 604807628, 770255983, 1249150122, 1555081692, 1996064986, 2554220882, 2821834349, 2952996808, 3210313671, 3336571891, 3584528711, 113926993, 338241895, 666307205, 773529912, 1294757372, 1396182291, 1695183700, 1986661051, 2177026350, 2456956037, 2730485921, 2820302411, 3259730800, 3345764771, 3516065817, 3600352804, 4094571909, 275423344, 430227734, 506948616, 659060556, 883997877, 958139571, 1322822218, 1537002063, 1747873779, 1955562222, 2024104815, 2227730452, 2361852424, 2428436474, 2756734187, 3204031479, 3329325298]
section
variable {P : Program} {ops : Array Oper} {o : Oper} {rest : List Oper} {a : Act} {Q : Exit → Act → World → Prop}
end
section
variable {P : Program} {ops : Array Oper} {o : Oper} {rest : List Oper} {a : Act} {Q : Exit → Act → World → Prop}
end
/-- A string's bytes as a new slice that is only read. -/
theorem conv_event {W : World} (hgd : o.guard = none) {N : Tmp} (_hd : o.dst = some N) (src dst e : TypeId) (x : Operand) (ho : o.op = .convert src dst x) (s : ByteArray) (hx : a.eval x = .string s)
    {ys : List Int} (hys : ys = bytesOf s) {u : TypeDesc} (hs : P.underlying src = some u) (hdt : P.underlying dst = some (.slice e)) (he : P.underlying e = some (.int .u8)) (hsz : s.size ≤ 9223372036854775807)
    (h : ∀ A c w1, (Kd.int .u8).C w1 A ys.length ys → ys.length ≤ c → Below W.heap.size W w1 → wpList P ops Q rest (a.put o.dst (.slice A ys.length c)) w1) : wpList P ops Q (o :: rest) a W := by
  subst hys
  have hr := Lib.run_convert_string_bytes (P := P) W src dst e s hs hdt he
  refine Kd.event_run (W := W) (w1 := Lib.bytesWorld W e s) (v := .slice (some ⟨W.heap.size, 0, none⟩) s.size (grownCap W s.size 0 e)) hgd (by simp [execOp, ho, hx, hr]) ?_
  have h1 := h (some ⟨W.heap.size, 0, none⟩) (grownCap W s.size 0 e) (Lib.bytesWorld W e s) ?_ ?_ ?_
  · rw [bytesOf_length] at h1; exact h1
  · rw [bytesOf_length]
    have h2 := bytes_reads W e s hsz
    exact Kd.C_of_reads (enc := Value.int .u8) (d := (0 : Int)) (h1 := fun _ => rfl) h2
  · rw [bytesOf_length]
    exact grownCap_ge W s.size 0 e
  · exact bytes_below (Below.refl _ _) (Nat.le_refl _) e s
end
section
variable {P : Program} {ops : Array Oper} {o : Oper} {rest : List Oper} {a : Act} {Q : Exit → Act → World → Prop}
end
/-- A function value: what it answers at 0, 1, .., whatever has been made since. -/
def FV (P : Program) (w : World) (F : Value) (l : List Int) : Prop := ∃ (f : FuncId) (fn : Func) (caps : Array Value), F = .func (.func f) #[] caps ∧ P.funcs[f]? = some fn ∧ (fn.name == "runtime.NumGoroutine") = false ∧ fn.body.isSome = true ∧
  ∀ (i : Int) (W : World), 0 ≤ i → i < (l.length : Int) → Below w.heap.size w W → Calls P f (#[.int .i64 i] ++ caps) W fun e W' => e = .returned (.int .i64 (rd l i)) ∧ Below W.heap.size W W'
section
variable {P : Program} {ops : Array Oper} {o : Oper} {rest : List Oper} {a : Act} {Q : Exit → Act → World → Prop}
end
/-- How the walk's places are written: in one word. -/
theorem pr_ : (∀ (a : Act) (v : Value), a.put none v = a) ∧ (∀ (a : Act) (n : Nat) (v : Value), a.put (some n) v = { a with tmps := a.tmps.setIfInBounds n v }) ∧ (∀ (l : List Value) (i : Nat) (x : Value), l.toArray.setIfInBounds i x = (l.set i x).toArray) ∧ (∀ (x : Value) (xs : List Value) (b : Value), (x :: xs).set 0 b = b :: xs) ∧ (∀ (x : Value) (xs : List Value) (n : Nat) (b : Value), (x :: xs).set (n + 1) b = x :: xs.set n b) ∧ (∀ n, IntKind.i64.wrap n = Go.RowKit.wrap64 n) ∧ (∀ n, IntKind.i32.wrap n = Go.RowKit.wrap32 n) :=
  ⟨fun _ _ => rfl, fun _ _ _ => rfl, fun l i x => List.setIfInBounds_toArray l i x, fun _ _ _ => List.set_cons_zero, fun _ _ _ _ => List.set_cons_succ, Go.Proofs.YtippjfgjehfhhaaW.PrintLast.i64_w, Go.Proofs.YtippjfgjehfhhaaW.PrintLast.i32_w⟩
end Go.Proofs.YtippjfgjehfhhaaW.PrintWords
