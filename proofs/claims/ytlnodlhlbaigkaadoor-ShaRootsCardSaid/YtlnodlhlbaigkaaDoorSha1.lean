/-
  The digest: it is told for all bytes, and has 32 bytes.
  Conditions: none.
-/
import Derived.Test.YtlnodlhlbaigkaaDoorPPx2
import Derived.Test.YtlnodlhlbaigkaaDoorPPx3
namespace Go.Proofs.YtlnodlhlbaigkaaDoor.Sha
open Go.RowKit Go.Proofs.YtlnodlhlbaigkaaDoor.PP Go.Proofs.YtlnodlhlbaigkaaDoorW.PrintWords Go.Proofs.YtlnodlhlbaigkaaDoorW.PrintLast Go.Proofs.YtlnodlhlbaigkaaDoorW.PrintMore
set_option linter.unusedSimpArgs false
set_option linter.unusedVariables false

/-- From some number of rounds on it is told. -/
def Ev {α : Type} (F : Nat → Option α) (v : α) : Prop := ∃ K, ∀ k, K ≤ k → F k = some v
theorem Ev.pure {α : Type} (v : α) : Sha.Ev (fun _ => some v) v := ⟨0, fun _ _ => rfl⟩
theorem Ev.succ {α : Type} {F G : Nat → Option α} {v : α} (hF : ∀ k, F (k + 1) = G k) (h : Sha.Ev G v) : Sha.Ev F v := by
  obtain ⟨K, h⟩ := h
  refine ⟨K + 1, fun k hk => ?_⟩
  obtain ⟨j, rfl⟩ : ∃ j, k = j + 1 := ⟨k - 1, by omega⟩
  rw [hF]
  exact h j (by omega)
theorem Ev.bind {α β : Type} {F : Nat → Option α} {G : Nat → α → Option β} {v : α} {u : β} (h : Sha.Ev F v) (h2 : Sha.Ev (fun k => G k v) u) : Sha.Ev (fun k => (F k).bind (G k)) u := by
  obtain ⟨K, h⟩ := h
  obtain ⟨L, h2⟩ := h2
  refine ⟨max K L, fun k hk => ?_⟩
  show (F k).bind (G k) = some u
  rw [h k (by omega)]
  exact h2 k (by omega)
theorem Ev.one {α : Type} {F : Nat → Option α} {v u : α} (h : Sha.Ev F v) (h2 : Sha.Ev F u) : v = u := by
  obtain ⟨K, h⟩ := h
  obtain ⟨L, h2⟩ := h2
  have a := h (max K L) (by omega)
  have b := h2 (max K L) (by omega)
  rw [a] at b
  exact Option.some.inj b
theorem Ev.get {α : Type} {F : Nat → Option α} {v : α} (h : Sha.Ev F v) : ∃ k, F k = some v := by
  obtain ⟨K, h⟩ := h
  exact ⟨K, h K (Nat.le_refl _)⟩
/-- What is told once stays, where more rounds tell the same. -/
theorem Ev.stays {α : Type} {F : Nat → Option α} {v : α} (hm : ∀ k, LeO (F k) (F (k + 1))) (K : Nat) (h : F K = some v) : Sha.Ev F v := by
  refine ⟨K, fun k hk => ?_⟩
  obtain ⟨d, rfl⟩ : ∃ d, k = K + d := ⟨k - K, by omega⟩
  clear hk
  induction d with
  | zero => exact h
  | succ d ih => exact hm _ _ ih
theorem w64 {n : Int} (h0 : -9223372036854775808 ≤ n) (h1 : n ≤ 9223372036854775807) : wrap64 n = n := by unfold wrap64; omega
theorem u64w (n : Int) : IntKind.u64.wrap n = n % 18446744073709551616 := by simp [IntKind.wrap, IntKind.bits, IntKind.signed]
/-- A word turned. -/
theorem rot_eq (a n c : Int) (h : Go.bits .and .u64 (IntKind.u64.wrap n) 31 = c) (h0 : 0 ≤ c) (h1 : c ≤ 32) : bits_RotateLeft32.f a n = some (Go.bits .or .u32 (shl .u32 a c) (shr .u32 a (32 - c))) := by
  unfold bits_RotateLeft32.f
  have e : IntKind.u64.wrap (32 - c) = 32 - c := by rw [u64w]; omega
  rw [h, if_pos h0, e, if_pos (by omega)]
theorem rot_tot (a n c : Int) (h : Go.bits .and .u64 (IntKind.u64.wrap n) 31 = c) (h0 : 0 ≤ c) (h1 : c ≤ 32) : ∃ v, ∀ k : Nat, bits_RotateLeft32.f a n = some v := ⟨_, fun _ => rot_eq a n c h h0 h1⟩
theorem l3_tot (a b c d e f g z : Int) : ∀ (m i : Nat) (x : List Int), i + m = 8 → x.length = 8 → ∃ r, Sha.Ev (fun k => sha_state_block.l3 k x a b c d e f g z (i : Int)) r ∧ r.length = 8
  | 0, i, x, h, hx => by
    refine ⟨x, Ev.succ (G := fun _ => some x) (fun k => ?_) (Ev.pure _), hx⟩
    simp only [sha_state_block.l3]
    rw [if_neg (by omega)]
  | m + 1, i, x, h, hx => by
    obtain ⟨r, hr, hl⟩ := l3_tot a b c d e f g z m (i + 1) (x.set i (((rd x (i : Int)) + (rd [a, b, c, d, e, f, g, z] (i : Int))) % 4294967296)) (by omega) (by rw [List.length_set]; exact hx)
    refine ⟨r, Ev.succ (fun k => ?_) hr, hl⟩
    have e2 : wrap64 ((i : Int) + 1) = ((i + 1 : Nat) : Int) := by rw [w64 (by omega) (by omega)]; omega
    simp only [sha_state_block.l3, e2]
    rw [if_pos (by omega), if_pos (by omega), if_pos hx, if_pos (by omega), if_pos (by omega)]
    rfl
theorem l2_tot (w : List Int) (hw : w.length = 64) (x : List Int) (hx : x.length = 8) : ∀ (m i : Nat) (a b c d e f g z : Int), i + m = 64 → ∃ r, Sha.Ev (fun k => sha_state_block.l2 k x w a b c d e f g z (i : Int)) r ∧ r.length = 8
  | 0, i, a, b, c, d, e, f, g, z, h => by
    obtain ⟨r, hr, hl⟩ := l3_tot a b c d e f g z 8 0 x (by omega) hx
    refine ⟨r, Ev.succ (fun k => ?_) hr, hl⟩
    simp only [sha_state_block.l2]
    rw [if_neg (by omega)]
    rfl
  | m + 1, i, a, b, c, d, e, f, g, z, h => by
    have e2 : wrap64 ((i : Int) + 1) = ((i + 1 : Nat) : Int) := by rw [w64 (by omega) (by omega)]; omega
    have r1 := rot_eq e (-6) 26 (by decide) (by decide) (by decide)
    have r2 := rot_eq e (-11) 21 (by decide) (by decide) (by decide)
    have r3 := rot_eq e (-25) 7 (by decide) (by decide) (by decide)
    have r4 := rot_eq a (-2) 30 (by decide) (by decide) (by decide)
    have r5 := rot_eq a (-13) 19 (by decide) (by decide) (by decide)
    have r6 := rot_eq a (-22) 10 (by decide) (by decide) (by decide)
    obtain ⟨r, hr, hl⟩ := l2_tot w hw x hx m (i + 1) _ a b c _ e f g (by omega)
    refine ⟨r, Ev.succ (fun k => ?_) hr, hl⟩
    simp only [sha_state_block.l2, e2, r1, r2, r3, r4, r5, r6, Option.bind_some]
    rw [if_pos (by omega), if_pos (by rfl), if_pos (by omega), if_pos (by rw [show keysL.length = 64 from rfl]; omega), if_pos hw, if_pos (by omega)]
theorem l1_tot (x : List Int) (hx : x.length = 8) : ∀ (m i : Nat) (w : List Int), i + m = 64 → 16 ≤ i → w.length = 64 → ∃ r, Sha.Ev (fun k => sha_state_block.l1 k x w (i : Int)) r ∧ r.length = 8
  | 0, i, w, h, h16, hw => by
    obtain ⟨r, hr, hl⟩ := l2_tot w hw x hx 64 0 (rd x 0) (rd x 1) (rd x 2) (rd x 3) (rd x 4) (rd x 5) (rd x 6) (rd x 7) (by omega)
    refine ⟨r, Ev.succ (fun k => ?_) hr, hl⟩
    simp only [sha_state_block.l1]
    rw [if_neg (by omega), if_pos hx, if_pos (by omega), if_pos (by omega), if_pos (by omega), if_pos (by omega), if_pos (by omega), if_pos (by omega), if_pos (by omega), if_pos (by omega)]
    rfl
  | m + 1, i, w, h, h16, hw => by
    have e2 : wrap64 ((i : Int) + 1) = ((i + 1 : Nat) : Int) := by rw [w64 (by omega) (by omega)]; omega
    have w1 : wrap64 ((i : Int) - 15) = (i : Int) - 15 := w64 (by omega) (by omega)
    have w2 : wrap64 ((i : Int) - 2) = (i : Int) - 2 := w64 (by omega) (by omega)
    have w3 : wrap64 ((i : Int) - 16) = (i : Int) - 16 := w64 (by omega) (by omega)
    have w4 : wrap64 ((i : Int) - 7) = (i : Int) - 7 := w64 (by omega) (by omega)
    have r1 := rot_eq (rd w ((i : Int) - 15)) (-7) 25 (by decide) (by decide) (by decide)
    have r2 := rot_eq (rd w ((i : Int) - 15)) (-18) 14 (by decide) (by decide) (by decide)
    have r3 := rot_eq (rd w ((i : Int) - 2)) (-17) 15 (by decide) (by decide) (by decide)
    have r4 := rot_eq (rd w ((i : Int) - 2)) (-19) 13 (by decide) (by decide) (by decide)
    have st : ∃ V, ∀ k, sha_state_block.l1 (k + 1) x w (i : Int) = sha_state_block.l1 k x (w.set i V) ((i + 1 : Nat) : Int) := by
     apply Exists.intro
     intro k
     simp only [sha_state_block.l1, e2, w1, w2, w3, w4, r1, r2, r3, r4, Option.bind_some]
     rw [if_pos (by omega), if_pos hw, if_pos (by omega), if_pos (by omega), if_pos (by omega), if_pos (by omega), if_pos (by omega), if_pos (by omega), if_pos (by omega), if_pos (by omega), if_pos (by omega), if_pos (by omega)]
     rfl
    obtain ⟨V, st⟩ := st
    obtain ⟨r, hr, hl⟩ := l1_tot x hx m (i + 1) (w.set i V) (by omega) (by omega) (by rw [List.length_set]; exact hw)
    exact ⟨r, Ev.succ st hr, hl⟩
theorem l0_tot (x : List Int) (hx : x.length = 8) (p : ByteArray) (hp : p.size = 64) : ∀ (m i : Nat) (w : List Int), i + m = 16 → w.length = 64 → ∃ r, Sha.Ev (fun k => sha_state_block.l0 k x p w (i : Int)) r ∧ r.length = 8
  | 0, i, w, h, hw => by
    obtain ⟨r, hr, hl⟩ := l1_tot x hx 48 16 w (by omega) (by omega) hw
    refine ⟨r, Ev.succ (fun k => ?_) hr, hl⟩
    simp only [sha_state_block.l0]
    rw [if_neg (by omega)]
    rfl
  | m + 1, i, w, h, hw => by
    have e2 : wrap64 ((i : Int) + 1) = ((i + 1 : Nat) : Int) := by rw [w64 (by omega) (by omega)]; omega
    have w1 : wrap64 (4 * (i : Int)) = 4 * (i : Int) := w64 (by omega) (by omega)
    have w2 : wrap64 (4 * (i : Int) + 1) = 4 * (i : Int) + 1 := w64 (by omega) (by omega)
    have w3 : wrap64 (4 * (i : Int) + 2) = 4 * (i : Int) + 2 := w64 (by omega) (by omega)
    have w4 : wrap64 (4 * (i : Int) + 3) = 4 * (i : Int) + 3 := w64 (by omega) (by omega)
    have st : ∃ V, ∀ k, sha_state_block.l0 (k + 1) x p w (i : Int) = sha_state_block.l0 k x p (w.set i V) ((i + 1 : Nat) : Int) := by
     apply Exists.intro
     intro k
     simp only [sha_state_block.l0, e2, w1, w2, w3, w4]
     rw [if_pos (by omega), if_pos (by omega), if_pos (by omega), if_pos (by omega), if_pos (by omega), if_pos (by omega), if_pos (by omega), if_pos (by omega), if_pos (by omega), if_pos hw, if_pos (by omega), if_pos (by omega)]
     rfl
    obtain ⟨V, st⟩ := st
    obtain ⟨r, hr, hl⟩ := l0_tot x hx p hp m (i + 1) (w.set i V) (by omega) (by rw [List.length_set]; exact hw)
    exact ⟨r, Ev.succ st hr, hl⟩
theorem block_tot (x : List Int) (hx : x.length = 8) (p : ByteArray) (hp : p.size = 64) : ∃ r, Sha.Ev (fun k => sha_state_block.f k x p) r ∧ r.length = 8 :=
  l0_tot x hx p hp 16 0 (List.replicate 64 0) (by omega) (by rw [List.length_replicate])
/-! the digest -/
theorem s3_tot (x : List Int) (hx : x.length = 8) : ∀ (m i : Nat) (o : List Int), i + m = 32 → o.length = 32 → ∃ r, Sha.Ev (fun k => sha_Sum.l3 k x o (i : Int)) r ∧ r.size = 32
  | 0, i, o, h, ho => by
    refine ⟨strOfNums (o.take 32), Ev.succ (G := fun _ => some (strOfNums (o.take 32))) (fun k => ?_) (Ev.pure _), ?_⟩
    · simp only [sha_Sum.l3]
      rw [if_neg (by omega), if_pos ho, if_pos (by omega)]
    · rw [strOfNums_size, List.length_take]
      omega
  | m + 1, i, o, h, ho => by
    have e2 : wrap64 ((i : Int) + 1) = ((i + 1 : Nat) : Int) := by rw [w64 (by omega) (by omega)]; omega
    have t1 : Int.tdiv (i : Int) 4 = (i : Int) / 4 := Int.tdiv_eq_ediv_of_nonneg (by omega)
    have t2 : Int.tmod (i : Int) 4 = (i : Int) % 4 := Int.tmod_eq_emod_of_nonneg (by omega)
    have w1 : wrap64 ((i : Int) / 4) = (i : Int) / 4 := w64 (by omega) (by omega)
    have w2 : wrap64 (8 * ((i : Int) % 4)) = 8 * ((i : Int) % 4) := w64 (by omega) (by omega)
    have w3 : wrap64 (24 - 8 * ((i : Int) % 4)) = 24 - 8 * ((i : Int) % 4) := w64 (by omega) (by omega)
    have st : ∃ V, ∀ k, sha_Sum.l3 (k + 1) x o (i : Int) = sha_Sum.l3 k x (o.set i V) ((i + 1 : Nat) : Int) := by
     apply Exists.intro
     intro k
     simp only [sha_Sum.l3, e2, t1, t2, w1, w2, w3]
     rw [if_pos (by omega), if_pos hx, if_pos (by omega), if_pos (by omega), if_pos (by omega), if_pos ho, if_pos (by omega), if_pos (by omega)]
     rfl
    obtain ⟨V, st⟩ := st
    obtain ⟨r, hr, hl⟩ := s3_tot x hx m (i + 1) (o.set i V) (by omega) (by rw [List.length_set]; exact ho)
    exact ⟨r, Ev.succ st hr, hl⟩
theorem size_zero (s : ByteArray) : s.toList = ([] : List UInt8) ↔ s.size = 0 := by
  rw [ByteArray.toList_eq, ← data_length]
  exact List.length_eq_zero_iff.symm
theorem ext_size (s : ByteArray) (a b : Nat) (h : a ≤ b) (h2 : b ≤ s.size) : (s.extract a b).size = b - a := by simp; omega
theorem s2_tot : ∀ (m : Nat) (x : List Int) (p : ByteArray), x.length = 8 → p.size = 64 * m → ∃ r, Sha.Ev (fun k => sha_Sum.l2 k x p) r ∧ r.size = 32
  | 0, x, p, hx, hp => by
    obtain ⟨r, hr, hl⟩ := s3_tot x hx 32 0 (List.replicate 32 0) (by omega) (by rw [List.length_replicate])
    refine ⟨r, Ev.succ (fun k => ?_) hr, hl⟩
    simp only [sha_Sum.l2]
    rw [if_pos ((size_zero p).2 (by omega))]
    rfl
  | m + 1, x, p, hx, hp => by
    obtain ⟨x2, h2, hx2⟩ := block_tot x hx (p.extract 0 64) (by rw [ext_size _ _ _ (by omega) (by omega)])
    obtain ⟨r, hr, hl⟩ := s2_tot m x2 (p.extract 64 p.size) hx2 (by rw [ext_size _ _ _ (by omega) (by omega)]; omega)
    refine ⟨r, Ev.succ (G := fun k => (sha_state_block.f k x (p.extract 0 64)).bind fun t => sha_Sum.l2 k t (p.extract 64 p.size)) (fun k => ?_) (Ev.bind h2 hr), hl⟩
    simp only [sha_Sum.l2]
    rw [if_neg (fun z => by have := (size_zero p).1 z; omega), if_pos (by decide), if_pos (by omega)]
theorem s1_tot (x : List Int) (hx : x.length = 8) (n z : Int) (b : Nat) (hb : b = 1 ∨ b = 2) (hz : z = 64 * b) : ∀ (m i : Nat) (l : List Int), i + m = 8 → l.length = 128 → ∃ r, Sha.Ev (fun k => sha_Sum.l1 k x n l z (i : Int)) r ∧ r.size = 32
  | 0, i, l, h, hl => by
    obtain ⟨r, hr, h32⟩ := s2_tot b x (strOfNums (l.take z.toNat)) hx (by rw [strOfNums_size, List.length_take]; omega)
    refine ⟨r, Ev.succ (fun k => ?_) hr, h32⟩
    simp only [sha_Sum.l1]
    rw [if_neg (by omega), if_pos hl, if_pos (by omega), if_pos (by omega), if_pos (by omega)]
  | m + 1, i, l, h, hl => by
    have e2 : wrap64 ((i : Int) + 1) = ((i + 1 : Nat) : Int) := by rw [w64 (by omega) (by omega)]; omega
    have w1 : wrap64 (8 * (i : Int)) = 8 * (i : Int) := w64 (by omega) (by omega)
    have w2 : wrap64 (z - 1) = z - 1 := w64 (by omega) (by omega)
    have w3 : wrap64 (z - 1 - (i : Int)) = z - 1 - (i : Int) := w64 (by omega) (by omega)
    have st : ∃ V, ∀ k, sha_Sum.l1 (k + 1) x n l z (i : Int) = sha_Sum.l1 k x n (l.set (z - 1 - (i : Int)).toNat V) z ((i + 1 : Nat) : Int) := by
     apply Exists.intro
     intro k
     simp only [sha_Sum.l1, e2, w1, w2, w3]
     rw [if_pos (by omega), if_pos (by omega), if_pos hl, if_pos (by omega), if_pos (by omega)]
    obtain ⟨V, st⟩ := st
    obtain ⟨r, hr, h32⟩ := s1_tot x hx n z b hb hz m (i + 1) (l.set (z - 1 - (i : Int)).toNat V) (by omega) (by rw [List.length_set]; exact hl)
    exact ⟨r, Ev.succ st hr, h32⟩
theorem sj_tot (s : ByteArray) (hs : s.size < 64) (x : List Int) (hx : x.length = 8) (n z : Int) (b : Nat) (hb : b = 1 ∨ b = 2) (hz : z = 64 * b) (l : List Int) (hl : l.length = 128) : ∃ r, Sha.Ev (fun k => sha_Sum.j1 k s x n l z) r ∧ r.size = 32 := by
  obtain ⟨r, hr, h32⟩ := s1_tot x hx n z b hb hz 8 0 (l.set s.size 128) (by omega) (by rw [List.length_set]; exact hl)
  refine ⟨r, Ev.succ (fun k => ?_) hr, h32⟩
  simp only [sha_Sum.j1]
  rw [if_pos hl, if_pos (by omega), if_pos (by omega)]
  rfl
theorem s0_tot (n : Int) : ∀ (m : Nat) (s : ByteArray) (x : List Int), s.size / 64 = m → x.length = 8 → ∃ r, Sha.Ev (fun k => sha_Sum.l0 k s x n) r ∧ r.size = 32
  | 0, s, x, hs, hx => by
    have hl : (bytesOf s ++ (List.replicate 128 (0 : Int)).drop s.size).length = 128 := by rw [List.length_append, bytesOf_length, List.length_drop, List.length_replicate]; omega
    have e0 : (List.replicate 128 (0 : Int)).length = 128 := List.length_replicate
    by_cases c : (s.size : Int) ≥ 56
    · obtain ⟨r, hr, h32⟩ := sj_tot s (by omega) x hx n 128 2 (.inr rfl) rfl _ hl
      refine ⟨r, Ev.succ (fun k => ?_) hr, h32⟩
      rw [sha_Sum.l0, if_neg (by omega), Option.bind_some, if_pos e0, if_pos (by omega), if_pos (by omega), Option.bind_some, if_pos c]
    · obtain ⟨r, hr, h32⟩ := sj_tot s (by omega) x hx n 64 1 (.inl rfl) rfl _ hl
      refine ⟨r, Ev.succ (fun k => ?_) hr, h32⟩
      rw [sha_Sum.l0, if_neg (by omega), Option.bind_some, if_pos e0, if_pos (by omega), if_pos (by omega), Option.bind_some, if_neg c]
  | m + 1, s, x, hs, hx => by
    have h64 : 64 ≤ s.size := by omega
    obtain ⟨x2, h2, hx2⟩ := block_tot x hx (s.extract 0 64) (by rw [ext_size _ _ _ (by omega) (by omega)])
    obtain ⟨r, hr, h32⟩ := s0_tot n m (s.extract 64 s.size) x2 (by rw [ext_size _ _ _ (by omega) (by omega)]; omega) hx2
    refine ⟨r, Ev.succ (G := fun k => (sha_state_block.f k x (s.extract 0 64)).bind fun t => sha_Sum.l0 k (s.extract 64 s.size) t n) (fun k => ?_) (Ev.bind h2 hr), h32⟩
    simp only [sha_Sum.l0]
    rw [if_pos (by omega), if_pos (by decide), if_pos (by omega)]
def start : List Int := [1779033703, 3144134277, 1013904242, 2773480762, 1359893119, 2600822924, 528734635, 1541459225]
theorem sum_open (k : Nat) (s : ByteArray) : sha_Sum.f k s = sha_Sum.l0 k s start (IntKind.u64.wrap ((IntKind.u64.wrap ((s.size : Int))) * 8)) := by
  unfold sha_Sum.f sha_begin.f
  simp only [Option.bind_some]
  rw [if_pos (by rw [List.length_replicate]), if_pos (by rw [List.length_replicate]; decide)]
  rfl
/-- Any bytes have a digest, of 32 bytes. -/
theorem sum_tot (s : ByteArray) : ∃ r, Sha.Ev (fun k => sha_Sum.f k s) r ∧ r.size = 32 := by
  obtain ⟨r, hr, h32⟩ := s0_tot (IntKind.u64.wrap ((IntKind.u64.wrap ((s.size : Int))) * 8)) (s.size / 64) s start rfl rfl
  exact ⟨r, by simp only [sum_open]; exact hr, h32⟩
end Go.Proofs.YtlnodlhlbaigkaaDoor.Sha
