/-
  The digest as the document has it, block by block: what the program's block makes, and what the document's does, is one function.
  Conditions: none.
-/
import Derived.Test.YtdodghifojkclaaGreatDoorSha1
import Derived.Test.YtdodghifojkclaaGreatDoorPPx1
import Derived.Test.YtdodghifojkclaaGreatDoorPPx2
namespace Go.Proofs.YtdodghifojkclaaGreatDoor.Sha
open Go.RowKit Go.Proofs.YtdodghifojkclaaGreatDoor.PP Go.Proofs.YtdodghifojkclaaGreatDoorW.PrintWords Go.Proofs.YtdodghifojkclaaGreatDoorW.PrintLast Go.Proofs.YtdodghifojkclaaGreatDoorW.PrintMore
set_option linter.unusedSimpArgs false
set_option linter.unusedVariables false

/-- A word turned right. -/
def tr (x n : Int) : Int := Go.bits .or .u32 (shr .u32 x n) (shl .u32 x (32 - n))
theorem or_comm32 (a b : Int) : Go.bits .or .u32 a b = Go.bits .or .u32 b a := by
  simp only [Go.bits]
  first | (rw [BitVec.or_comm]) | (congr 2; exact BitVec.or_comm _ _) | (simp [BitVec.or_comm])
theorem turn_eq (x n : Int) (h0 : 0 ≤ n) (h1 : n ≤ 32) : Jv.f x n = some (tr x n) := by
  unfold Jv.f tr
  rw [if_pos h0, show (32 - n) % 4294967296 = 32 - n by omega]
theorem rot_tr (x n c m : Int) (h : Go.bits .and .u64 (IntKind.u64.wrap n) 31 = c) (h0 : 0 ≤ c) (h1 : c ≤ 32) (hm : m = 32 - c) : Ju.f x n = some (tr x m) := by
  rw [rot_eq x n c h h0 h1, or_comm32]
  unfold tr
  rw [hm, show 32 - (32 - c) = c by omega]
def S0 (x : Int) : Int := Go.bits .xor .u32 (Go.bits .xor .u32 (tr x 7) (tr x 18)) (x / 8)
def S1 (x : Int) : Int := Go.bits .xor .u32 (Go.bits .xor .u32 (tr x 17) (tr x 19)) (x / 1024)
def B1 (x : Int) : Int := Go.bits .xor .u32 (Go.bits .xor .u32 (tr x 6) (tr x 11)) (tr x 25)
def B0 (x : Int) : Int := Go.bits .xor .u32 (Go.bits .xor .u32 (tr x 2) (tr x 13)) (tr x 22)
def Ch (e f g : Int) : Int := Go.bits .xor .u32 (Go.bits .and .u32 e f) (Go.bits .and .u32 (Go.bits .xor .u32 4294967295 e) g)
def Mj (a b c : Int) : Int := Go.bits .xor .u32 (Go.bits .xor .u32 (Go.bits .and .u32 a b) (Go.bits .and .u32 a c)) (Go.bits .and .u32 b c)
/-- The i-th word of a block of bytes. -/
def wd (p : ByteArray) (i : Int) : Int := bt p (4 * i) * 16777216 + bt p (4 * i + 1) * 65536 + bt p (4 * i + 2) * 256 + bt p (4 * i + 3)
def nw (w : List Int) (i : Int) : Int := (rd w (i - 16) + rd w (i - 7) + S0 (rd w (i - 15)) + S1 (rd w (i - 2))) % 4294967296
/-- The words of the rounds: the first 16 are the block's own. -/
def W1 (p : ByteArray) : Nat → Nat → List Int → List Int
  | 0, _, w => w
  | m + 1, i, w => W1 p m (i + 1) (w.set i (wd p (i : Int)))
def W2 : Nat → Nat → List Int → List Int
  | 0, _, w => w
  | m + 1, i, w => W2 m (i + 1) (w.set i (nw w (i : Int)))
/-- The rounds. -/
def R (w : List Int) : Nat → Nat → Int → Int → Int → Int → Int → Int → Int → Int → List Int
  | 0, _, a, b, c, d, e, f, g, z => [a, b, c, d, e, f, g, z]
  | m + 1, i, a, b, c, d, e, f, g, z =>
    R w m (i + 1) ((z + B1 e + Ch e f g + rd keysL (i : Int) + rd w (i : Int) + (B0 a + Mj a b c)) % 4294967296) a b c ((d + (z + B1 e + Ch e f g + rd keysL (i : Int) + rd w (i : Int))) % 4294967296) e f g
/-- The state's words and a round's, one by one. -/
def A1 (v : List Int) : Nat → Nat → List Int → List Int
  | 0, _, x => x
  | m + 1, i, x => A1 v m (i + 1) (x.set i ((rd x (i : Int) + rd v (i : Int)) % 4294967296))
theorem A1_len (v : List Int) : ∀ (m i : Nat) (x : List Int), (A1 v m i x).length = x.length
  | 0, _, _ => rfl
  | m + 1, i, x => by rw [A1, A1_len v m (i + 1), List.length_set]
def sched (p : ByteArray) : List Int := W2 48 16 (W1 p 16 0 (List.replicate 64 0))
/-- A block taken in. -/
def blk (x : List Int) (p : ByteArray) : List Int := A1 (R (sched p) 64 0 (rd x 0) (rd x 1) (rd x 2) (rd x 3) (rd x 4) (rd x 5) (rd x 6) (rd x 7)) 8 0 x
theorem blk_len (x : List Int) (p : ByteArray) : (blk x p).length = x.length := A1_len _ _ _ _
/-! the program's -/
theorem or_add32 (a b c d : Int) (ha : 0 ≤ a ∧ a ≤ 255) (hb : 0 ≤ b ∧ b ≤ 255) (hc : 0 ≤ c ∧ c ≤ 255) (hd : 0 ≤ d ∧ d ≤ 255) :
    Go.bits .or .u32 (Go.bits .or .u32 (Go.bits .or .u32 (((a % 4294967296) * 16777216) % 4294967296) (((b % 4294967296) * 65536) % 4294967296)) (((c % 4294967296) * 256) % 4294967296)) (d % 4294967296) = a * 16777216 + b * 65536 + c * 256 + d := by
  obtain ⟨a, rfl⟩ : ∃ n : Nat, a = n := ⟨a.toNat, by omega⟩
  obtain ⟨b, rfl⟩ : ∃ n : Nat, b = n := ⟨b.toNat, by omega⟩
  obtain ⟨c, rfl⟩ : ∃ n : Nat, c = n := ⟨c.toNat, by omega⟩
  obtain ⟨d, rfl⟩ : ∃ n : Nat, d = n := ⟨d.toNat, by omega⟩
  have on : ∀ x y : Nat, x < 4294967296 → y < 4294967296 → Go.bits .or .u32 (x : Int) (y : Int) = ((x ||| y : Nat) : Int) := by
    intro x y hx hy
    have hxy : x ||| y < 4294967296 := Nat.or_lt_two_pow (n := 32) hx hy
    have hb : (BitVec.ofNat 32 x ||| BitVec.ofNat 32 y).toNat = x ||| y := by
      rw [BitVec.toNat_or, BitVec.toNat_ofNat, BitVec.toNat_ofNat, Nat.mod_eq_of_lt (by omega), Nat.mod_eq_of_lt (by omega)]
    simp [Go.bits, IntKind.wrap, IntKind.bits, IntKind.signed]
    erw [hb]
    omega
  have e1 : (((a : Int) % 4294967296) * 16777216) % 4294967296 = ((a * 16777216 : Nat) : Int) := by omega
  have e2 : (((b : Int) % 4294967296) * 65536) % 4294967296 = ((b * 65536 : Nat) : Int) := by omega
  have e3 : (((c : Int) % 4294967296) * 256) % 4294967296 = ((c * 256 : Nat) : Int) := by omega
  have e4 : (d : Int) % 4294967296 = (d : Int) := by omega
  have s1 : a * 16777216 ||| b * 65536 = a * 16777216 + b * 65536 := by
    have := Nat.two_pow_add_eq_or_of_lt (i := 24) (b := b * 65536) (by omega) a
    rw [Nat.mul_comm a 16777216]
    exact this.symm
  have s2 : (a * 16777216 + b * 65536) ||| c * 256 = a * 16777216 + b * 65536 + c * 256 := by
    have := Nat.two_pow_add_eq_or_of_lt (i := 16) (b := c * 256) (by omega) (a * 256 + b)
    rw [show a * 16777216 + b * 65536 = 2 ^ 16 * (a * 256 + b) by omega]
    exact this.symm
  have s3 : (a * 16777216 + b * 65536 + c * 256) ||| d = a * 16777216 + b * 65536 + c * 256 + d := by
    have := Nat.two_pow_add_eq_or_of_lt (i := 8) (b := d) (by omega) (a * 65536 + b * 256 + c)
    rw [show a * 16777216 + b * 65536 + c * 256 = 2 ^ 8 * (a * 65536 + b * 256 + c) by omega]
    exact this.symm
  rw [e1, e2, e3, e4, on _ _ (by omega) (by omega), s1, on _ _ (by omega) (by omega), s2, on _ _ (by omega) (by omega), s3]
  omega
theorem l3_ev (a b c d e f g z : Int) : ∀ (m i : Nat) (x : List Int), i + m = 8 → x.length = 8 → Sha.Ev (fun k => Jb.l3 k x a b c d e f g z (i : Int)) (A1 [a, b, c, d, e, f, g, z] m i x)
  | 0, i, x, h, hx => by
    refine Ev.succ (G := fun _ => some x) (fun k => ?_) (Ev.pure _)
    simp only [Jb.l3]
    rw [if_neg (by omega)]
  | m + 1, i, x, h, hx => by
    refine Ev.succ (fun k => ?_) (l3_ev a b c d e f g z m (i + 1) (x.set i _) (by omega) (by rw [List.length_set]; exact hx))
    have e2 : wrap64 ((i : Int) + 1) = ((i + 1 : Nat) : Int) := by rw [w64 (by omega) (by omega)]; omega
    simp only [Jb.l3, e2]
    rw [if_pos (by omega), if_pos (by omega), if_pos hx, if_pos (by omega), if_pos (by omega)]
    rfl
theorem l2_ev (w : List Int) (hw : w.length = 64) (x : List Int) (hx : x.length = 8) : ∀ (m i : Nat) (a b c d e f g z : Int), i + m = 64 → Sha.Ev (fun k => Jb.l2 k x w a b c d e f g z (i : Int)) (A1 (R w m i a b c d e f g z) 8 0 x)
  | 0, i, a, b, c, d, e, f, g, z, h => by
    refine Ev.succ (fun k => ?_) (l3_ev a b c d e f g z 8 0 x (by omega) hx)
    simp only [Jb.l2]
    rw [if_neg (by omega)]
    rfl
  | m + 1, i, a, b, c, d, e, f, g, z, h => by
    have e2 : wrap64 ((i : Int) + 1) = ((i + 1 : Nat) : Int) := by rw [w64 (by omega) (by omega)]; omega
    have r1 := rot_tr e (-6) 26 6 (by decide) (by decide) (by decide) (by decide)
    have r2 := rot_tr e (-11) 21 11 (by decide) (by decide) (by decide) (by decide)
    have r3 := rot_tr e (-25) 7 25 (by decide) (by decide) (by decide) (by decide)
    have r4 := rot_tr a (-2) 30 2 (by decide) (by decide) (by decide) (by decide)
    have r5 := rot_tr a (-13) 19 13 (by decide) (by decide) (by decide) (by decide)
    have r6 := rot_tr a (-22) 10 22 (by decide) (by decide) (by decide) (by decide)
    refine Ev.succ (fun k => ?_) (l2_ev w hw x hx m (i + 1) _ a b c _ e f g (by omega))
    simp only [Jb.l2, e2, r1, r2, r3, r4, r5, r6, Option.bind_some]
    rw [if_pos (by omega), if_pos (by rfl), if_pos (by omega), if_pos (by rw [show keysL.length = 64 from rfl]; omega), if_pos hw, if_pos (by omega)]
    rfl
theorem W1_one (p : ByteArray) (m i : Nat) (w : List Int) : W1 p (m + 1) i w = W1 p m (i + 1) (w.set i (wd p (i : Int))) := rfl
theorem W2_one (m i : Nat) (w : List Int) : W2 (m + 1) i w = W2 m (i + 1) (w.set i (nw w (i : Int))) := rfl
theorem l1_ev (x : List Int) (hx : x.length = 8) (G : List Int → List Int) (hG : ∀ w : List Int, w.length = 64 → Sha.Ev (fun k => Jb.l2 k x w (rd x 0) (rd x 1) (rd x 2) (rd x 3) (rd x 4) (rd x 5) (rd x 6) (rd x 7) 0) (G w)) (r : List Int) : ∀ (m i : Nat) (w : List Int), i + m = 64 → 16 ≤ i → w.length = 64 → r = G (W2 m i w) → Sha.Ev (fun k => Jb.l1 k x w (i : Int)) r
  | 0, i, w, h, h16, hw, hr => by
    rw [hr]
    refine Ev.succ (fun k => ?_) (hG w hw)
    simp only [Jb.l1]
    rw [if_neg (by omega), if_pos hx, if_pos (by omega), if_pos (by omega), if_pos (by omega), if_pos (by omega), if_pos (by omega), if_pos (by omega), if_pos (by omega), if_pos (by omega)]
  | m + 1, i, w, h, h16, hw, hr => by
    rw [W2_one] at hr
    have e2 : wrap64 ((i : Int) + 1) = ((i + 1 : Nat) : Int) := by rw [w64 (by omega) (by omega)]; omega
    have w1 : wrap64 ((i : Int) - 15) = (i : Int) - 15 := w64 (by omega) (by omega)
    have w2 : wrap64 ((i : Int) - 2) = (i : Int) - 2 := w64 (by omega) (by omega)
    have w3 : wrap64 ((i : Int) - 16) = (i : Int) - 16 := w64 (by omega) (by omega)
    have w4 : wrap64 ((i : Int) - 7) = (i : Int) - 7 := w64 (by omega) (by omega)
    have r1 := rot_tr (rd w ((i : Int) - 15)) (-7) 25 7 (by decide) (by decide) (by decide) (by decide)
    have r2 := rot_tr (rd w ((i : Int) - 15)) (-18) 14 18 (by decide) (by decide) (by decide) (by decide)
    have r3 := rot_tr (rd w ((i : Int) - 2)) (-17) 15 17 (by decide) (by decide) (by decide) (by decide)
    have r4 := rot_tr (rd w ((i : Int) - 2)) (-19) 13 19 (by decide) (by decide) (by decide) (by decide)
    refine Ev.succ (fun k => ?_) (l1_ev x hx G hG r m (i + 1) (w.set i (nw w (i : Int))) (by omega) (by omega) (by rw [List.length_set]; exact hw) hr)
    simp only [Jb.l1, e2, w1, w2, w3, w4, r1, r2, r3, r4, Option.bind_some]
    rw [if_pos (by omega), if_pos hw, if_pos (by omega), if_pos (by omega), if_pos (by omega), if_pos (by omega), if_pos (by omega), if_pos (by omega), if_pos (by omega), if_pos (by omega), if_pos (by omega), if_pos (by omega)]
    rfl
theorem l0_ev (x : List Int) (p : ByteArray) (hp : p.size = 64) (G : List Int → List Int) (hG : ∀ w : List Int, w.length = 64 → Sha.Ev (fun k => Jb.l1 k x w 16) (G w)) (r : List Int) : ∀ (m i : Nat) (w : List Int), i + m = 16 → w.length = 64 → r = G (W1 p m i w) → Sha.Ev (fun k => Jb.l0 k x p w (i : Int)) r
  | 0, i, w, h, hw, hr => by
    rw [hr]
    refine Ev.succ (fun k => ?_) (hG w hw)
    simp only [Jb.l0]
    rw [if_neg (by omega)]
  | m + 1, i, w, h, hw, hr => by
    rw [W1_one] at hr
    have e2 : wrap64 ((i : Int) + 1) = ((i + 1 : Nat) : Int) := by rw [w64 (by omega) (by omega)]; omega
    have w1 : wrap64 (4 * (i : Int)) = 4 * (i : Int) := w64 (by omega) (by omega)
    have w2 : wrap64 (4 * (i : Int) + 1) = 4 * (i : Int) + 1 := w64 (by omega) (by omega)
    have w3 : wrap64 (4 * (i : Int) + 2) = 4 * (i : Int) + 2 := w64 (by omega) (by omega)
    have w4 : wrap64 (4 * (i : Int) + 3) = 4 * (i : Int) + 3 := w64 (by omega) (by omega)
    refine Ev.succ (fun k => ?_) (l0_ev x p hp G hG r m (i + 1) (w.set i (wd p (i : Int))) (by omega) (by rw [List.length_set]; exact hw) hr)
    simp only [Jb.l0, e2, w1, w2, w3, w4]
    rw [if_pos (by omega), if_pos (by omega), if_pos (by omega), if_pos (by omega), if_pos (by omega), if_pos (by omega), if_pos (by omega), if_pos (by omega), if_pos (by omega), if_pos hw, if_pos (by omega), if_pos (by omega), or_add32 _ _ _ _ (bt_range _ _) (bt_range _ _) (bt_range _ _) (bt_range _ _)]
    rfl
theorem block_ev (x : List Int) (hx : x.length = 8) (p : ByteArray) (hp : p.size = 64) : Sha.Ev (fun k => Jb.f k x p) (blk x p) := by
  have h2 : ∀ w : List Int, w.length = 64 → Sha.Ev (fun k => Jb.l2 k x w (rd x 0) (rd x 1) (rd x 2) (rd x 3) (rd x 4) (rd x 5) (rd x 6) (rd x 7) 0) ((fun w => A1 (R w 64 0 (rd x 0) (rd x 1) (rd x 2) (rd x 3) (rd x 4) (rd x 5) (rd x 6) (rd x 7)) 8 0 x) w) :=
    fun w hw => l2_ev w hw x hx 64 0 _ _ _ _ _ _ _ _ (by omega)
  generalize hG : (fun w => A1 (R w 64 0 (rd x 0) (rd x 1) (rd x 2) (rd x 3) (rd x 4) (rd x 5) (rd x 6) (rd x 7)) 8 0 x) = G at h2
  have h1 : ∀ w : List Int, w.length = 64 → Sha.Ev (fun k => Jb.l1 k x w 16) ((fun w => G (W2 48 16 w)) w) :=
    fun w hw => l1_ev x hx G h2 _ 48 16 w (by omega) (by omega) hw rfl
  generalize hG2 : (fun w => G (W2 48 16 w)) = G2 at h1
  have e : blk x p = G2 (W1 p 16 0 (List.replicate 64 0)) := by
    rw [← hG2, ← hG]
    unfold blk sched
    rfl
  exact l0_ev x p hp G2 h1 _ 16 0 (List.replicate 64 0) (by omega) (by rw [List.length_replicate]) e
/-! the document's -/
theorem m3_ev (K : List Int) (p : ByteArray) (q : Int) (v : List Int) (hv : v.length = 8) (r : ByteArray) : ∀ (m i : Nat) (x : List Int), i + m = 8 → x.length = 8 → Sha.Ev (fun k => Ja.l0 k (A1 v m i x) K p (wrap64 (q + 64))) r → Sha.Ev (fun k => Ja.l3 k x K p q v (i : Int)) r
  | 0, i, x, h, hx, hr => by
    refine Ev.succ (fun k => ?_) hr
    simp only [Ja.l3]
    rw [if_neg (by omega)]
    rfl
  | m + 1, i, x, h, hx, hr => by
    refine Ev.succ (fun k => ?_) (m3_ev K p q v hv r m (i + 1) (x.set i _) (by omega) (by rw [List.length_set]; exact hx) hr)
    have e2 : wrap64 ((i : Int) + 1) = ((i + 1 : Nat) : Int) := by rw [w64 (by omega) (by omega)]; omega
    simp only [Ja.l3, e2]
    rw [if_pos (by omega), if_pos hx, if_pos (by omega), if_pos (by omega), if_pos hv, if_pos (by omega)]
    rfl
theorem m2_ev (w : List Int) (hw : w.length = 64) (x : List Int) (hx : x.length = 8) (p : ByteArray) (q : Int) (r : ByteArray) : ∀ (m i : Nat) (a b c d e f g z : Int), i + m = 64 → Sha.Ev (fun k => Ja.l0 k (A1 (R w m i a b c d e f g z) 8 0 x) keysL p (wrap64 (q + 64))) r → Sha.Ev (fun k => Ja.l2 k x keysL p q w a b c d e f g z (i : Int)) r
  | 0, i, a, b, c, d, e, f, g, z, h, hr => by
    refine Ev.succ (fun k => ?_) (m3_ev keysL p q [a, b, c, d, e, f, g, z] rfl r 8 0 x (by omega) hx hr)
    rw [Ja.l2, if_neg (by omega), Option.bind_some, if_pos (by rw [List.length_replicate]), if_pos (by rw [List.length_replicate]; decide)]
    rfl
  | m + 1, i, a, b, c, d, e, f, g, z, h, hr => by
    have e2 : wrap64 ((i : Int) + 1) = ((i + 1 : Nat) : Int) := by rw [w64 (by omega) (by omega)]; omega
    have r1 := turn_eq e 6 (by decide) (by decide)
    have r2 := turn_eq e 11 (by decide) (by decide)
    have r3 := turn_eq e 25 (by decide) (by decide)
    have r4 := turn_eq a 2 (by decide) (by decide)
    have r5 := turn_eq a 13 (by decide) (by decide)
    have r6 := turn_eq a 22 (by decide) (by decide)
    refine Ev.succ (fun k => ?_) (m2_ev w hw x hx p q r m (i + 1) _ a b c _ e f g (by omega) hr)
    rw [Ja.l2, if_pos (by omega), r1, Option.bind_some, r2, Option.bind_some, r3, Option.bind_some, if_pos (by rfl), if_pos (by omega), if_pos (by rw [show keysL.length = 64 from rfl]; omega), if_pos hw, if_pos (by omega), r4, Option.bind_some, r5, Option.bind_some, r6, Option.bind_some, e2]
    rfl
theorem m1_ev (x : List Int) (hx : x.length = 8) (p : ByteArray) (b : ByteArray) (q : Int) (h0 : 0 ≤ q) (h1 : q + 64 ≤ p.size) (h2 : p.size ≤ 4611686018427387904) (hb : ∀ j : Int, 0 ≤ j → j < 64 → bt p (q + j) = bt b j) (r : ByteArray)
    (P : List Int → Prop) (hP : ∀ w : List Int, w.length = 64 → P w → Sha.Ev (fun k => Ja.l2 k x keysL p q w (rd x 0) (rd x 1) (rd x 2) (rd x 3) (rd x 4) (rd x 5) (rd x 6) (rd x 7) 0) r) :
    ∀ (m i : Nat) (w : List Int), i + m = 64 → w.length = 64 → P (if i ≤ 16 then W2 48 16 (W1 b (16 - i) i w) else W2 m i w) → Sha.Ev (fun k => Ja.l1 k x keysL p q w (i : Int)) r
  | 0, i, w, h, hw, hr => by
    rw [if_neg (by omega)] at hr
    refine Ev.succ (fun k => ?_) (hP w hw hr)
    rw [Ja.l1, if_neg (by omega), if_pos hx, if_pos (by omega), if_pos (by omega), if_pos (by omega), if_pos (by omega), if_pos (by omega), if_pos (by omega), if_pos (by omega), if_pos (by omega)]
  | m + 1, i, w, h, hw, hr => by
    have e2 : wrap64 ((i : Int) + 1) = ((i + 1 : Nat) : Int) := by rw [w64 (by omega) (by omega)]; omega
    by_cases c : i < 16
    · rw [if_pos (by omega)] at hr
      have w1 : wrap64 (4 * (i : Int)) = 4 * (i : Int) := w64 (by omega) (by omega)
      have w2 : wrap64 (q + 4 * (i : Int)) = q + 4 * (i : Int) := w64 (by omega) (by omega)
      have w3 : wrap64 (q + 4 * (i : Int) + 1) = q + 4 * (i : Int) + 1 := w64 (by omega) (by omega)
      have w4 : wrap64 (q + 4 * (i : Int) + 2) = q + 4 * (i : Int) + 2 := w64 (by omega) (by omega)
      have w5 : wrap64 (q + 4 * (i : Int) + 3) = q + 4 * (i : Int) + 3 := w64 (by omega) (by omega)
      have hr2 : P (if i + 1 ≤ 16 then W2 48 16 (W1 b (16 - (i + 1)) (i + 1) (w.set i (wd b (i : Int)))) else W2 m (i + 1) (w.set i (wd b (i : Int)))) := by
        rw [if_pos (by omega)]
        rw [show 16 - i = (16 - (i + 1)) + 1 by omega, W1_one] at hr
        exact hr
      refine Ev.succ (fun k => ?_) (m1_ev x hx p b q h0 h1 h2 hb r P hP m (i + 1) (w.set i (wd b (i : Int))) (by omega) (by rw [List.length_set]; exact hw) hr2)
      have b0 := bt_range b (4 * (i : Int))
      have b1 := bt_range b (4 * (i : Int) + 1)
      have b2 := bt_range b (4 * (i : Int) + 2)
      have b3 := bt_range b (4 * (i : Int) + 3)
      have g0 := hb (4 * (i : Int)) (by omega) (by omega)
      have g1 := hb (4 * (i : Int) + 1) (by omega) (by omega)
      have g2 := hb (4 * (i : Int) + 2) (by omega) (by omega)
      have g3 := hb (4 * (i : Int) + 3) (by omega) (by omega)
      rw [← Int.add_assoc] at g1 g2 g3
      simp only [Ja.l1, e2, w1, w2, w3, w4, w5, g0, g1, g2, g3]
      rw [if_pos (by omega), if_pos (by omega), if_pos (by omega), if_pos (by omega), if_pos (by omega), if_pos (by omega), if_pos (by omega), if_pos (by omega), if_pos (by omega), if_pos (by omega), if_pos hw, if_pos (by omega), if_pos (by omega)]
      have ew : wd b (i : Int) = (bt b (4 * (i : Int)) % 4294967296 * 16777216 + bt b (4 * (i : Int) + 1) % 4294967296 * 65536 + bt b (4 * (i : Int) + 2) % 4294967296 * 256 + bt b (4 * (i : Int) + 3)) % 4294967296 := by
        unfold wd
        omega
      rw [ew]
      congr 2
    · have hm : (if i ≤ 16 then W2 48 16 (W1 b (16 - i) i w) else W2 (m + 1) i w) = W2 (m + 1) i w := by
        by_cases c2 : i ≤ 16
        · have : i = 16 := by omega
          subst this
          have : m = 47 := by omega
          subst this
          rw [if_pos (by omega), show (16 - 16 : Nat) = 0 from rfl]
          rfl
        · rw [if_neg c2]
      rw [hm, W2_one] at hr
      have w1 : wrap64 ((i : Int) - 15) = (i : Int) - 15 := w64 (by omega) (by omega)
      have w2 : wrap64 ((i : Int) - 2) = (i : Int) - 2 := w64 (by omega) (by omega)
      have w3 : wrap64 ((i : Int) - 16) = (i : Int) - 16 := w64 (by omega) (by omega)
      have w4 : wrap64 ((i : Int) - 7) = (i : Int) - 7 := w64 (by omega) (by omega)
      have r1 := turn_eq (rd w ((i : Int) - 15)) 7 (by decide) (by decide)
      have r2 := turn_eq (rd w ((i : Int) - 15)) 18 (by decide) (by decide)
      have r3 := turn_eq (rd w ((i : Int) - 2)) 17 (by decide) (by decide)
      have r4 := turn_eq (rd w ((i : Int) - 2)) 19 (by decide) (by decide)
      refine Ev.succ (fun k => ?_) (m1_ev x hx p b q h0 h1 h2 hb r P hP m (i + 1) (w.set i (nw w (i : Int))) (by omega) (by rw [List.length_set]; exact hw) (by rw [if_neg (by omega)]; exact hr))
      have en : nw w (i : Int) = (((rd w ((i : Int) - 16) + S0 (rd w ((i : Int) - 15))) + rd w ((i : Int) - 7)) + S1 (rd w ((i : Int) - 2))) % 4294967296 := by
        unfold nw
        congr 1
        omega
      rw [en]
      simp only [Ja.l1, e2, w1, w2, w3, w4, r1, r2, r3, r4, Option.bind_some]
      rw [if_pos (by omega), if_neg (by omega), if_pos hw, if_pos (by omega), if_pos (by omega), if_pos (by omega), if_pos (by omega), if_pos (by omega), if_pos (by omega), if_pos (by omega), if_pos (by omega), if_pos (by omega), if_pos (by omega)]
      rfl
/-- The document's rounds over one block. -/
theorem rblock_ev (x : List Int) (hx : x.length = 8) (p b : ByteArray) (q : Int) (h0 : 0 ≤ q) (h1 : q + 64 ≤ p.size) (h2 : p.size ≤ 4611686018427387904) (hb : ∀ j : Int, 0 ≤ j → j < 64 → bt p (q + j) = bt b j) (r : ByteArray)
    (hr : Sha.Ev (fun k => Ja.l0 k (blk x b) keysL p (q + 64)) r) : Sha.Ev (fun k => Ja.l0 k x keysL p q) r := by
  have key : ∀ P : List Int → Prop, (∀ w : List Int, w.length = 64 → P w → Sha.Ev (fun k => Ja.l2 k x keysL p q w (rd x 0) (rd x 1) (rd x 2) (rd x 3) (rd x 4) (rd x 5) (rd x 6) (rd x 7) 0) r) → P (sched b) → Sha.Ev (fun k => Ja.l1 k x keysL p q (List.replicate 64 0) 0) r :=
    fun P hP h => m1_ev x hx p b q h0 h1 h2 hb r P hP 64 0 (List.replicate 64 0) (by omega) (by rw [List.length_replicate]) (by rw [if_pos (by omega)]; exact h)
  have := key (fun w => Sha.Ev (fun k => Ja.l0 k (A1 (R w 64 0 (rd x 0) (rd x 1) (rd x 2) (rd x 3) (rd x 4) (rd x 5) (rd x 6) (rd x 7)) 8 0 x) keysL p (wrap64 (q + 64))) r)
    (fun w hw hr => m2_ev w hw x hx p q r 64 0 _ _ _ _ _ _ _ _ (by omega) hr) (by
      rw [w64 (by omega) (by omega)]
      unfold blk at hr
      exact hr)
  refine Ev.succ (fun k => ?_) this
  simp only [Ja.l0]
  rw [if_pos (by omega)]
end Go.Proofs.YtdodghifojkclaaGreatDoor.Sha
