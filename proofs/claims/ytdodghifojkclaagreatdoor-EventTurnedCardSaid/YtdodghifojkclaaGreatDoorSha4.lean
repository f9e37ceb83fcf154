/-
  The digest of any bytes is the document's.
  Conditions: none.
-/
import Derived.Test.YtdodghifojkclaaGreatDoorSha3
import Derived.Test.YtdodghifojkclaaGreatDoorOctA
import Derived.Test.YtdodghifojkclaaGreatDoorPPx1
import Derived.Test.YtdodghifojkclaaGreatDoorPPx2
namespace Go.Proofs.YtdodghifojkclaaGreatDoor.Sha
open Go.RowKit Go.Proofs.YtdodghifojkclaaGreatDoor.PP Go.Proofs.YtdodghifojkclaaGreatDoorW.PrintWords Go.Proofs.YtdodghifojkclaaGreatDoorW.PrintLast Go.Proofs.YtdodghifojkclaaGreatDoorW.PrintMore
set_option linter.unusedSimpArgs false
set_option linter.unusedVariables false

theorem bytes_mem (s : ByteArray) : ∀ c ∈ bytesOf s, 0 ≤ c ∧ c < 256 := Oct.bytesOf_mem s
theorem bytes_nums (l : List Int) (h : ∀ c ∈ l, 0 ≤ c ∧ c < 256) : bytesOf (strOfNums l) = l := by
  unfold bytesOf
  rw [strOfNums_data, List.map_map]
  conv => rhs; rw [← List.map_id l]
  refine List.map_congr_left fun c hc => ?_
  have := h c hc
  simp
  omega
theorem bytes_ext (s : ByteArray) (a b : Nat) : bytesOf (s.extract a b) = ((bytesOf s).take b).drop a := by
  unfold bytesOf
  rw [show (s.extract a b).data.toList = (s.data.toList.take b).drop a by simp [List.drop_take], List.map_drop, List.map_take]
theorem nums_bytes2 (s : ByteArray) : strOfNums (bytesOf s) = s := by
  apply Oct.ba_ext
  rw [strOfNums_data]
  unfold bytesOf
  rw [List.map_map]
  conv => rhs; rw [← List.map_id s.data.toList]
  refine List.map_congr_left fun c hc => ?_
  simp
theorem bytes_rest (s : ByteArray) (a : Nat) : bytesOf (s.extract a s.size) = (bytesOf s).drop a := by
  rw [bytes_ext, List.take_of_length_le (by rw [bytesOf_length]; omega)]
theorem ext_nums (s : ByteArray) (b : Nat) : s.extract 0 b = strOfNums ((bytesOf s).take b) := by
  rw [← nums_bytes2 (s.extract 0 b), bytes_ext, List.drop_zero]
/-- The blocks taken in, one by one. -/
def bd : Nat → List Int → List Int → List Int
  | 0, _, x => x
  | m + 1, l, x => bd m (l.drop 64) (blk x (strOfNums (l.take 64)))
theorem bd_one (m : Nat) (l x : List Int) : bd (m + 1) l x = bd m (l.drop 64) (blk x (strOfNums (l.take 64))) := rfl
/-- The state's words as bytes. -/
def fin4 (a : Int) : List Int := [a / 16777216 % 256, a / 65536 % 256, a / 256 % 256, a % 256]
def fin (x : List Int) : ByteArray := strOfNums ((((((((fin4 (rd x 0) ++ fin4 (rd x 1)) ++ fin4 (rd x 2)) ++ fin4 (rd x 3)) ++ fin4 (rd x 4)) ++ fin4 (rd x 5)) ++ fin4 (rd x 6)) ++ fin4 (rd x 7)))
theorem eight (x : List Int) (h : x.length = 8) : ∃ a b c d e f g z, x = [a, b, c, d, e, f, g, z] := by
  match x, h with
  | [a, b, c, d, e, f, g, z], _ => exact ⟨a, b, c, d, e, f, g, z, rfl⟩
def sb (a : Int) : List Int := [shr .u32 a 24 % 256, shr .u32 a 16 % 256, shr .u32 a 8 % 256, shr .u32 a 0 % 256]
theorem sb_eq (a : Int) : sb a = fin4 a := by
  unfold sb fin4 shr
  simp [IntKind.bits]
set_option maxRecDepth 100000 in
theorem s3_sb (k : Nat) (a b c d e f g z : Int) : Jx.l3 (k + 33) [a, b, c, d, e, f, g, z] (List.replicate 32 0) 0 = some (strOfNums ((((((((sb a ++ sb b) ++ sb c) ++ sb d) ++ sb e) ++ sb f) ++ sb g) ++ sb z))) := by kernel_rfl
theorem s3_fin (x : List Int) (h : x.length = 8) : Sha.Ev (fun k => Jx.l3 k x (List.replicate 32 0) 0) (fin x) := by
  refine ⟨33, fun k hk => ?_⟩
  obtain ⟨j, rfl⟩ : ∃ j, k = j + 33 := ⟨k - 33, by omega⟩
  obtain ⟨a, b, c, d, e, f, g, z, rfl⟩ := eight x h
  show Jx.l3 (j + 33) _ _ _ = _
  rw [s3_sb]
  simp only [sb_eq]
  rfl
set_option maxRecDepth 100000 in
theorem m4_fin (k : Nat) (a b c d e f g z : Int) : Ja.l4 (k + 9) [a, b, c, d, e, f, g, z] [] 0 = some (strOfNums ([] ++ fin4 a ++ fin4 b ++ fin4 c ++ fin4 d ++ fin4 e ++ fin4 f ++ fin4 g ++ fin4 z)) := by kernel_rfl
theorem m4_ev (x : List Int) (h : x.length = 8) : Sha.Ev (fun k => Ja.l4 k x [] 0) (fin x) := by
  refine ⟨9, fun k hk => ?_⟩
  obtain ⟨j, rfl⟩ : ∃ j, k = j + 9 := ⟨k - 9, by omega⟩
  obtain ⟨a, b, c, d, e, f, g, z, rfl⟩ := eight x h
  show Ja.l4 (j + 9) _ _ _ = _
  rw [m4_fin]
  rfl
/-! the document's -/
theorem rsum_ev (p : ByteArray) (h2 : p.size ≤ 4611686018427387904) : ∀ (m : Nat) (q : Int) (x c : List Int), x.length = 8 → 0 ≤ q → c.length = 64 * m → (p.size : Int) = q + 64 * m → (∀ v ∈ c, 0 ≤ v ∧ v < 256) → (∀ j : Int, 0 ≤ j → j < 64 * m → bt p (q + j) = rd c j) →
    Sha.Ev (fun k => Ja.l0 k x keysL p q) (fin (bd m c x))
  | 0, q, x, c, hx, h0, hc, hp, hr, ha => by
    refine Ev.succ (fun k => ?_) (m4_ev x hx)
    simp only [Ja.l0]
    rw [if_neg (by omega)]
  | m + 1, q, x, c, hx, h0, hc, hp, hr, ha => by
    have ht : (c.take 64).length = 64 := by rw [List.length_take]; omega
    refine rblock_ev x hx p (strOfNums (c.take 64)) q h0 (by omega) h2 (fun j j0 j1 => ?_) _ ?_
    · rw [ha j j0 (by omega), ← rd_bytesOf, bytes_nums _ (fun v hv => hr v (List.mem_of_mem_take hv))]
      unfold rd
      rw [List.getD_eq_getElem?_getD, List.getD_eq_getElem?_getD, List.getElem?_take, if_pos (by omega)]
    · have := rsum_ev p h2 m (q + 64) (blk x (strOfNums (c.take 64))) (c.drop 64) (by rw [blk_len]; exact hx) (by omega) (by rw [List.length_drop]; omega) (by omega) (fun v hv => hr v (List.mem_of_mem_drop hv)) (fun j j0 j1 => by
        rw [show q + 64 + j = q + (64 + j) by omega, ha (64 + j) (by omega) (by omega)]
        unfold rd
        rw [List.getD_eq_getElem?_getD, List.getD_eq_getElem?_getD, List.getElem?_drop, show (64 + j).toNat = 64 + j.toNat by omega])
      exact this
/-! the padding -/
def be8 (n : Int) : List Int := (List.range 8).map (Jd.be n)
def PD (s : ByteArray) (n : Int) : List Int := ((bytesOf s ++ [128]) ++ List.replicate (Jd.zs s.size) 0) ++ be8 n
def nb (s : ByteArray) : Nat := (s.size + 72) / 64
theorem be8_len (n : Int) : (be8 n).length = 8 := by unfold be8; rw [List.length_map, List.length_range]
theorem PD_len (s : ByteArray) (n : Int) : (PD s n).length = 64 * nb s := by
  unfold PD nb
  rw [List.length_append, List.length_append, List.length_append, be8_len, bytesOf_length, List.length_replicate]
  show s.size + 1 + _ + 8 = _
  unfold Jd.zs
  omega
theorem PD_mem (s : ByteArray) (n : Int) : ∀ c ∈ PD s n, 0 ≤ c ∧ c < 256 := by
  intro c hc
  unfold PD at hc
  rcases List.mem_append.1 hc with hc | hc
  · rcases List.mem_append.1 hc with hc | hc
    · rcases List.mem_append.1 hc with hc | hc
      · exact bytes_mem s c hc
      · rw [List.mem_singleton] at hc
        omega
    · have := (List.mem_replicate.1 hc).2
      omega
  · unfold be8 at hc
    obtain ⟨i, _, rfl⟩ := List.mem_map.1 hc
    unfold Jd.be
    omega
theorem ref_ev (s : ByteArray) (hs : s.size ≤ 140737488355000) : Sha.Ev (fun k => Ja.f k s) (fin (bd (nb s) (PD s (8 * (s.size : Int))) start)) := by
  have hp : (strOfNums (PD s (8 * (s.size : Int)))).size = 64 * nb s := by rw [strOfNums_size, PD_len]
  have hn : nb s ≤ 140737488355400 := by unfold nb; omega
  have := rsum_ev (strOfNums (PD s (8 * (s.size : Int)))) (by omega) (nb s) 0 start (PD s (8 * (s.size : Int))) rfl (by omega) (PD_len _ _) (by omega) (PD_mem _ _) (fun j j0 j1 => by
    rw [Int.zero_add, ← rd_bytesOf, bytes_nums _ (PD_mem _ _)])
  have e : ∀ k, Ja.f k s = Ja.l0 k start keysL (strOfNums (PD s (8 * (s.size : Int)))) 0 := by
    intro k
    have ep : Jd.f k s = some (strOfNums (PD s (8 * (s.size : Int)))) := by
      unfold Jd.f
      rw [if_pos hs]
      rfl
    unfold Ja.f Ur.f Uu.f
    rw [ep]
    simp only [Option.bind_some]
    rw [if_pos (by rw [List.length_replicate]), if_pos (by rw [List.length_replicate]; decide), if_pos (by rw [List.length_replicate]), if_pos (by rw [List.length_replicate]; decide)]
    rfl
  simp only [e]
  exact this
/-! the program's -/
theorem p2_ev : ∀ (m : Nat) (x : List Int) (p : ByteArray), x.length = 8 → p.size = 64 * m → Sha.Ev (fun k => Jx.l2 k x p) (fin (bd m (bytesOf p) x))
  | 0, x, p, hx, hp => by
    refine Ev.succ (fun k => ?_) (s3_fin x hx)
    simp only [Jx.l2]
    rw [if_pos ((size_zero p).2 (by omega))]
  | m + 1, x, p, hx, hp => by
    have h2 := block_ev x hx (p.extract 0 64) (by rw [ext_size _ _ _ (by omega) (by omega)])
    have hr := p2_ev m (blk x (p.extract 0 64)) (p.extract 64 p.size) (by rw [blk_len]; exact hx) (by rw [ext_size _ _ _ (by omega) (by omega)]; omega)
    rw [bytes_rest, ext_nums] at hr
    rw [ext_nums] at h2
    rw [bd_one]
    refine Ev.succ (G := fun k => (Jb.f k x (p.extract 0 64)).bind fun t => Jx.l2 k t (p.extract 64 p.size)) (fun k => ?_) (Ev.bind (by rw [ext_nums]; exact h2) hr)
    simp only [Jx.l2]
    rw [if_neg (fun z => by have := (size_zero p).1 z; omega), if_pos (by decide), if_pos (by omega)]
/-- The eight bytes of the length, the last first. -/
def M8 (n : Int) : Nat → Nat → List Int → List Int
  | 0, _, l => l
  | m + 1, i, l => M8 n m (i + 1) (l.set (7 - i) (shr .u64 n (8 * (i : Int)) % 256))
theorem M8_one (n : Int) (m i : Nat) (l : List Int) : M8 n (m + 1) i l = M8 n m (i + 1) (l.set (7 - i) (shr .u64 n (8 * (i : Int)) % 256)) := rfl
theorem M8_be (n : Int) : M8 n 8 0 (List.replicate 8 0) = be8 n := by
  show [shr .u64 n (8 * ((7 : Nat) : Int)) % 256, shr .u64 n (8 * ((6 : Nat) : Int)) % 256, shr .u64 n (8 * ((5 : Nat) : Int)) % 256, shr .u64 n (8 * ((4 : Nat) : Int)) % 256, shr .u64 n (8 * ((3 : Nat) : Int)) % 256, shr .u64 n (8 * ((2 : Nat) : Int)) % 256, shr .u64 n (8 * ((1 : Nat) : Int)) % 256, shr .u64 n (8 * ((0 : Nat) : Int)) % 256] = [Jd.be n 0, Jd.be n 1, Jd.be n 2, Jd.be n 3, Jd.be n 4, Jd.be n 5, Jd.be n 6, Jd.be n 7]
  unfold shr Jd.be
  simp [IntKind.bits]
theorem p1_ev (x : List Int) (hx : x.length = 8) (n : Int) (b : Nat) (hb : b = 1 ∨ b = 2) (pre post : List Int) (hpre : pre.length + 8 = 64 * b) (hpost : post.length = 128 - 64 * b) (hr : ∀ v ∈ pre, 0 ≤ v ∧ v < 256) : ∀ (m i : Nat) (l : List Int), i + m = 8 → l.length = 8 → M8 n m i l = be8 n → Sha.Ev (fun k => Jx.l1 k x n ((pre ++ l) ++ post) (64 * (b : Int)) (i : Int)) (fin (bd b (pre ++ be8 n) x))
  | 0, i, l, h, hl, he => by
    have he : l = be8 n := he
    have hlen : ((pre ++ l) ++ post).length = 128 := by rw [List.length_append, List.length_append]; omega
    have e : ((pre ++ l) ++ post).take (64 * (b : Int)).toNat = pre ++ be8 n := by
      rw [he, List.take_append_of_le_length (by rw [List.length_append, be8_len]; omega), List.take_of_length_le (by rw [List.length_append, be8_len]; omega)]
    have h2 := p2_ev b x (strOfNums (pre ++ be8 n)) hx (by rw [strOfNums_size, List.length_append, be8_len]; omega)
    rw [bytes_nums _ (fun v hv => by
      rcases List.mem_append.1 hv with hv | hv
      · exact hr v hv
      · unfold be8 at hv
        obtain ⟨i, _, rfl⟩ := List.mem_map.1 hv
        unfold Jd.be
        omega)] at h2
    refine Ev.succ (fun k => ?_) h2
    simp only [Jx.l1]
    rw [if_neg (by omega), if_pos hlen, if_pos (by omega), if_pos (by omega), if_pos (by omega), e]
  | m + 1, i, l, h, hl, he => by
    rw [M8_one] at he
    have hlen : ((pre ++ l) ++ post).length = 128 := by rw [List.length_append, List.length_append]; omega
    have e2 : wrap64 ((i : Int) + 1) = ((i + 1 : Nat) : Int) := by rw [w64 (by omega) (by omega)]; omega
    have w1 : wrap64 (8 * (i : Int)) = 8 * (i : Int) := w64 (by omega) (by omega)
    have w2 : wrap64 (64 * (b : Int) - 1) = 64 * (b : Int) - 1 := w64 (by omega) (by omega)
    have w3 : wrap64 (64 * (b : Int) - 1 - (i : Int)) = 64 * (b : Int) - 1 - (i : Int) := w64 (by omega) (by omega)
    have es : ∀ v : Int, ((pre ++ l) ++ post).set (64 * (b : Int) - 1 - (i : Int)).toNat v = (pre ++ l.set (7 - i) v) ++ post := by
      intro v
      rw [show (64 * (b : Int) - 1 - (i : Int)).toNat = pre.length + (7 - i) by omega, List.append_assoc, List.set_append_right _ _ (by omega), List.set_append_left _ _ (by omega), List.append_assoc, show pre.length + (7 - i) - pre.length = 7 - i by omega]
    have := p1_ev x hx n b hb pre post hpre hpost hr m (i + 1) (l.set (7 - i) (shr .u64 n (8 * (i : Int)) % 256)) (by omega) (by rw [List.length_set]; exact hl) he
    refine Ev.succ (fun k => ?_) this
    simp only [Jx.l1, e2, w1, w2, w3]
    rw [if_pos (by omega), if_pos (by omega), if_pos hlen, if_pos (by omega), if_pos (by omega), es]
theorem rep_add (a b : Nat) (c : Int) : List.replicate (a + b) c = List.replicate a c ++ List.replicate b c := by
  rw [List.replicate_append_replicate]
theorem pj_ev (s : ByteArray) (hs : s.size < 64) (x : List Int) (hx : x.length = 8) (n z : Int) (hz : z = if s.size ≥ 56 then 128 else 64) : Sha.Ev (fun k => Jx.j1 k s x n (bytesOf s ++ (List.replicate 128 (0 : Int)).drop s.size) z) (fin (bd (nb s) (PD s n) x)) := by
  have hl : (bytesOf s ++ (List.replicate 128 (0 : Int)).drop s.size).length = 128 := by rw [List.length_append, bytesOf_length, List.length_drop, List.length_replicate]; omega
  have hb : nb s = 1 ∨ nb s = 2 := by unfold nb; omega
  have hzb : z = 64 * (nb s : Int) := by
    rw [hz]
    unfold nb
    split <;> omega
  have hzs : s.size + 1 + Jd.zs s.size + 8 = 64 * nb s := by
    unfold Jd.zs nb
    omega
  have e : (bytesOf s ++ (List.replicate 128 (0 : Int)).drop s.size).set ((s.size : Int) : Int).toNat 128 = ((((bytesOf s ++ [128]) ++ List.replicate (Jd.zs s.size) 0) ++ List.replicate 8 0) ++ List.replicate (128 - 64 * nb s) 0) := by
    rw [Int.toNat_natCast, List.set_append_right _ _ (by rw [bytesOf_length]; omega), bytesOf_length, Nat.sub_self, List.drop_replicate, show 128 - s.size = 1 + (Jd.zs s.size + (8 + (128 - 64 * nb s))) by omega, rep_add, rep_add, rep_add]
    simp
  have h1 := p1_ev x hx n (nb s) hb ((bytesOf s ++ [128]) ++ List.replicate (Jd.zs s.size) 0) (List.replicate (128 - 64 * nb s) 0) (by
      rw [List.length_append, List.length_append, bytesOf_length, List.length_replicate]
      show s.size + 1 + _ + 8 = _
      exact hzs) (by rw [List.length_replicate]) (fun v hv => PD_mem s n v (by unfold PD; exact List.mem_append_left _ hv)) 8 0 (List.replicate 8 0) (by omega) (by rw [List.length_replicate]) (M8_be n)
  rw [hzb]
  refine Ev.succ (fun k => ?_) h1
  simp only [Jx.j1]
  rw [if_pos hl, if_pos (by omega), if_pos (by omega), e]
  rfl
theorem p0_ev (n : Int) : ∀ (m : Nat) (s : ByteArray) (x : List Int), s.size / 64 = m → x.length = 8 → Sha.Ev (fun k => Jx.l0 k s x n) (fin (bd (nb s) (PD s n) x))
  | 0, s, x, hs, hx => by
    have e0 : (List.replicate 128 (0 : Int)).length = 128 := List.length_replicate
    have hj := pj_ev s (by omega) x hx n _ rfl
    refine Ev.succ (fun k => ?_) hj
    rw [Jx.l0, if_neg (by omega), Option.bind_some, if_pos e0, if_pos (by omega), if_pos (by omega), Option.bind_some]
    by_cases c : s.size ≥ 56
    · rw [if_pos (show (s.size : Int) ≥ 56 by omega), if_pos c]
    · rw [if_neg (show ¬ (s.size : Int) ≥ 56 by omega), if_neg c]
  | m + 1, s, x, hs, hx => by
    have h64 : 64 ≤ s.size := by omega
    have hs2 : (s.extract 64 s.size).size = s.size - 64 := ext_size _ _ _ (by omega) (by omega)
    have h2 := block_ev x hx (s.extract 0 64) (by rw [ext_size _ _ _ (by omega) (by omega)])
    have hr := p0_ev n m (s.extract 64 s.size) (blk x (s.extract 0 64)) (by rw [hs2]; omega) (by rw [blk_len]; exact hx)
    have e1 : nb s = nb (s.extract 64 s.size) + 1 := by unfold nb; rw [hs2]; omega
    have hzs : Jd.zs s.size = Jd.zs (s.size - 64) := by unfold Jd.zs; omega
    have e2 : (PD s n).take 64 = (bytesOf s).take 64 := by
      unfold PD
      rw [List.append_assoc, List.append_assoc, List.take_append_of_le_length (by rw [bytesOf_length]; omega)]
    have e3 : (PD s n).drop 64 = PD (s.extract 64 s.size) n := by
      unfold PD
      rw [List.append_assoc, List.append_assoc, List.drop_append_of_le_length (by rw [bytesOf_length]; omega), bytes_rest, hs2, hzs, List.append_assoc, List.append_assoc]
    rw [e1, bd_one, e2, e3, ← ext_nums]
    refine Ev.succ (G := fun k => (Jb.f k x (s.extract 0 64)).bind fun t => Jx.l0 k (s.extract 64 s.size) t n) (fun k => ?_) (Ev.bind h2 hr)
    simp only [Jx.l0]
    rw [if_pos (by omega), if_pos (by decide), if_pos (by omega)]
theorem sum_ev (s : ByteArray) (hs : s.size ≤ 140737488355000) : Sha.Ev (fun k => Jx.f k s) (fin (bd (nb s) (PD s (8 * (s.size : Int))) start)) := by
  simp only [sum_open]
  rw [show IntKind.u64.wrap (IntKind.u64.wrap (s.size : Int) * 8) = 8 * (s.size : Int) by rw [u64w, u64w]; omega]
  exact p0_ev _ _ s start rfl rfl
/-- The digest of any bytes. -/
theorem sum_same (s : ByteArray) (hs : s.size ≤ 140737488355000) : ∃ r : ByteArray, Sha.Ev (fun k => Jx.f k s) r ∧ Sha.Ev (fun k => Ja.f k s) r ∧ r.size = 32 := by
  refine ⟨_, sum_ev s hs, ref_ev s hs, ?_⟩
  unfold fin
  rw [strOfNums_size]
  rfl
end Go.Proofs.YtdodghifojkclaaGreatDoor.Sha
