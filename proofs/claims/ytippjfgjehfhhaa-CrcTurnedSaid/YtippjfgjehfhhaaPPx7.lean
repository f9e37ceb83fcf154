-- WRITTEN BY a program of this work (wip/ownprint.py), for this seat
import Derived.Test.YtippjfgjehfhhaaPPx0
import Derived.Test.YtippjfgjehfhhaaPPx1
import Derived.Test.YtippjfgjehfhhaaPPx2
namespace Go.Proofs.Ytippjfgjehfhhaa.PP
open Go.RowKit Go.Proofs.YtippjfgjehfhhaaW.PrintWords Go.Proofs.YtippjfgjehfhhaaW.PrintLast Go.Proofs.YtippjfgjehfhhaaW.PrintMore
attribute [local go_sem] max2_int min2_int max_two min_two max_three min_three max_four min_four   -- for this text's walks alone
set_option linter.unusedVariables false
set_option linter.unusedSimpArgs false

/-! ### palaverlaw08_CrcTurned: function 7 (walked by hand) -/
def palaverlaw08_CrcTurned.bit (b : Int) (i : Nat) : Bool := ((b / 2 ^ i).tmod 2 == 1)
def palaverlaw08_CrcTurned.flip (xs : List Int) (p : Int) : List Int := xs.set (p / 8).toNat (Go.bits .xor .u8 (rd xs (p / 8)) (2 ^ (p % 8).toNat % 256))
def palaverlaw08_CrcTurned.fl (n : Nat) (kk b : Int) : Nat → Nat → List Int → List Int
  | 0, _, xs => xs
  | d + 1, i, xs => if kk + (i : Int) < 8 * (n : Int) then palaverlaw08_CrcTurned.fl n kk b d (i + 1) (if palaverlaw08_CrcTurned.bit b i = true then palaverlaw08_CrcTurned.flip xs (kk + (i : Int)) else xs) else xs
def palaverlaw08_CrcTurned.kk (n : Nat) (a : Int) : Int := IntKind.u64.wrap a % (8 * (n : Int))
def palaverlaw08_CrcTurned.out (a0 : ByteArray) (a1 a2 : Int) : ByteArray := strOfNums (palaverlaw08_CrcTurned.fl a0.size (palaverlaw08_CrcTurned.kk a0.size a1) a2 32 0 (bytesOf a0))
def palaverlaw08_CrcTurned.f (k : Nat) (a0 : ByteArray) (a1 a2 : Int) : Option Bool :=
  if a0.size = 0 then palaverlaw08_awake.f k else if 3000 < a0.size then palaverlaw08_awake.f k else if a2 = 0 then palaverlaw08_awake.f k
  else if palaverlaw08_CrcTurned.out a0 a1 a2 = a0 then palaverlaw08_awake.f k
  else (crc_Sum.f k (palaverlaw08_CrcTurned.out a0 a1 a2)).bind fun x => (crc_Sum.f k a0).bind fun y => if x = y then some false else palaverlaw08_awake.f k
theorem palaverlaw08_CrcTurned.early (k : Nat) (a0 : ByteArray) (a1 a2 : Int) (r : Bool) (w : World) (hc : a0.size = 0 ∨ (¬ a0.size = 0 ∧ 3000 < a0.size) ∨ (¬ a0.size = 0 ∧ ¬ 3000 < a0.size) ∧ a2 = 0) (h : palaverlaw08_awake.f k = some r) :
    Calls Try.prog 7 #[.string a0, .int .i64 a1, .int .u32 a2] w fun e w' => e = .returned (.bool r) ∧ Below w.heap.size w w' := by
  have HA := Aside0.mk h
  clear h
  rcases hc with hc | ⟨hc, hc2⟩ | ⟨⟨hc, hc2⟩, hc3⟩
  · have b1 : ((a0.size : Int) == 0) = true := beq_iff_eq.mpr (by omega)
    go_enter Try.func7, Try.ntmps7
    go_wp2_with (first | (go_at_call 12; (refine (palaverlaw08_awake.calls k r _ HA.out).mono ?_); rintro e w1 ⟨rfl, hb⟩; have HB := Aside0.mk hb; clear hb))
    go_ret
    exact ⟨rfl, HB.out⟩
  · have b1 : ((a0.size : Int) == 0) = false := beq_eq_false_iff_ne.mpr (by omega)
    have b2 : decide ((3000 : Int) < (a0.size : Int)) = true := decide_eq_true (by omega)
    have b3 : decide ((3000 : Nat) < a0.size) = true := decide_eq_true (by omega)
    go_enter Try.func7, Try.ntmps7
    go_wp2_with (first | (go_at_call 12; (refine (palaverlaw08_awake.calls k r _ HA.out).mono ?_); rintro e w1 ⟨rfl, hb⟩; have HB := Aside0.mk hb; clear hb))
    go_ret
    exact ⟨rfl, HB.out⟩
  · subst hc3
    have b1 : ((a0.size : Int) == 0) = false := beq_eq_false_iff_ne.mpr (by omega)
    have b2 : decide ((3000 : Int) < (a0.size : Int)) = false := decide_eq_false (by omega)
    have b3 : decide ((3000 : Nat) < a0.size) = false := decide_eq_false (by omega)
    go_enter Try.func7, Try.ntmps7
    go_wp2_with (first | (go_at_call 12; (refine (palaverlaw08_awake.calls k r _ HA.out).mono ?_); rintro e w1 ⟨rfl, hb⟩; have HB := Aside0.mk hb; clear hb))
    go_ret
    exact ⟨rfl, HB.out⟩

theorem palaverlaw08_CrcTurned.main (k : Nat) (a0 : ByteArray) (a1 a2 : Int) (r : Bool) (w : World) (h0 : ¬ a0.size = 0) (h1 : ¬ 3000 < a0.size) (h2 : ¬ a2 = 0) (kk : Int) (hkk : palaverlaw08_CrcTurned.kk a0.size a1 = kk) (x : ByteArray) (hx : strOfNums (palaverlaw08_CrcTurned.fl a0.size kk a2 32 0 (bytesOf a0)) = x)
    (ht : x = a0 ∧ palaverlaw08_awake.f k = some r ∨ ¬ x = a0 ∧ ∃ x1 y1, crc_Sum.f k x = some x1 ∧ crc_Sum.f k a0 = some y1 ∧ (x1 = y1 ∧ r = false ∨ ¬ x1 = y1 ∧ palaverlaw08_awake.f k = some r)) :
    Calls Try.prog 7 #[.string a0, .int .i64 a1, .int .u32 a2] w fun e w' => e = .returned (.bool r) ∧ Below w.heap.size w w' := by
  have b1 : ((a0.size : Int) == 0) = false := beq_eq_false_iff_ne.mpr (by omega)
  have b2 : decide ((3000 : Int) < (a0.size : Int)) = false := decide_eq_false (by omega)
  have b3 : decide ((3000 : Nat) < a0.size) = false := decide_eq_false (by omega)
  have b4 : (a2 == 0) = false := beq_eq_false_iff_ne.mpr h2
  have u8 : IntKind.u64.wrap (8 * (a0.size : Int)) = 8 * (a0.size : Int) := by simp only [IntKind.wrap, IntKind.bits, IntKind.signed]; simp; omega
  obtain ⟨q, hq⟩ : ∃ q, IntKind.u64.wrap a1 = q := ⟨_, rfl⟩
  have q0 : 0 ≤ q := by rw [← hq]; simp only [IntKind.wrap, IntKind.bits, IntKind.signed]; simp; omega
  have k1 : q % (8 * (a0.size : Int)) = kk := by rw [← hkk, ← hq]; rfl
  have k2 : 0 ≤ kk := by rw [← k1]; exact Int.emod_nonneg _ (by omega)
  have k3 : kk < 8 * (a0.size : Int) := by rw [← k1]; exact Int.emod_lt_of_pos _ (by omega)
  have z1 : ¬ (8 * (a0.size : Int)) = 0 := by omega
  have k4 : q.tmod (8 * (a0.size : Int)) = kk := by rw [Int.tmod_eq_emod_of_nonneg q0]; exact k1
  clear hkk
  go_enter Try.func7, Try.ntmps7
  have HX0 := Aside0.mk hx
  have HS := Aside0.mk (show a0.size ≤ 3000 by omega)
  clear hx
  go_wp2_with (first | ((with_reducible refine gate_dst (N := 32) rfl ?_); refine convM_event (P := Try.prog) rfl (N := 32) rfl 9 35 5 _ rfl a0 rfl w.heap.size (Nat.le_refl _) Try.underlying9 Try.underlying35 Try.underlying5 (by omega) ?_; intro v1 w1 hv hb; obtain ⟨g, cap, e1, hg, hC⟩ := hv.reads; rw [bytesOf_length] at e1; subst e1; have HM := Aside0.mk hv; have HB := Aside0.mk hb; have HG := Aside0.mk hg; clear hv hb hC hg))
  go_loopg [9] 32 (fun kq v9 w' => ∃ (i : Nat) (xs : List Int), v9 = .int .i64 (i : Int) ∧ Aside0 (i + kq = 32) ∧ Aside0 (strOfNums (palaverlaw08_CrcTurned.fl a0.size kk a2 kq i xs) = x) ∧ Aside0 (OwnM w' w.heap.size 5 (.slice (some ⟨g, 0, none⟩) a0.size cap) xs) ∧ Aside0 (xs.length = a0.size) ∧ Aside0 (Below w.heap.size w w'))
  case atStart => exact ⟨0, _, rfl, ⟨rfl⟩, HX0, HM, ⟨bytesOf_length a0⟩, HB⟩
  case round =>
    clear HM HB
    obtain ⟨i, xs, rfl, HP, HX, HM, HL, HB⟩ := hrel
    cases gk with
    | zero =>
      have HXE := Aside0.mk (show strOfNums xs = x from HX.out)
      have hd : decide ((i : Int) < 32) = false := decide_eq_false (by have := HP.out; omega)
      have hd2 : decide (i < 32) = false := decide_eq_false (by have := HP.out; omega)
      clear HX HP
      have hconv := Kd.C_string (P := Try.prog) Try.underlying35 Try.underlying5 Try.underlying9 (c := cap) (HM.out.reads_at)
      rw [HL.out, HXE.out] at hconv
      rcases ht with ⟨e1, hA⟩ | ⟨e1, x1, y1, hs1, hs2, hr⟩
      · have q1 : (x.toList == a0.toList) = true := by rw [e1]; simp
        have HA := Aside0.mk hA
        clear hA
        go_wp2_with (first | (go_at_call 12; (refine (palaverlaw08_awake.calls k r _ HA.out).mono ?_); rintro e w1 ⟨rfl, hb⟩; have n0_ := Aside0.mk (below_step HB.out hb); clear HB hb; have HB := n0_; clear n0_))
        go_ret
        exact ⟨rfl, HB.out⟩
      · have q1 : (x.toList == a0.toList) = false := by
          rw [beq_eq_false_iff_ne]
          intro e
          apply e1
          rw [ByteArray.toList_eq, ByteArray.toList_eq] at e
          cases x; cases a0
          simp at e
          rw [e]
        have S1 := Aside0.mk hs1
        have S2 := Aside0.mk hs2
        clear hs1 hs2
        rcases hr with ⟨rfl, rfl⟩ | ⟨hn, hA⟩
        · have q2 : (x1 != x1) = false := by simp
          go_wp2_with (first | (go_at_call 9; (with_reducible refine (crc_Sum.calls k x x1 _ S1.out).mono ?_); rintro e w1 ⟨rfl, hb⟩; have n0_ := Aside0.mk (below_step HB.out hb); clear HB hb; have HB := n0_; clear n0_) | (go_at_call 9; (with_reducible refine (crc_Sum.calls k a0 x1 _ S2.out).mono ?_); rintro e w1 ⟨rfl, hb⟩; have n0_ := Aside0.mk (below_step HB.out hb); clear HB hb; have HB := n0_; clear n0_))
          go_ret
          exact ⟨rfl, HB.out⟩
        · have q2 : (x1 != y1) = true := bne_iff_ne.mpr hn
          have HA := Aside0.mk hA
          clear hA
          go_wp2_with (first | (go_at_call 9; (with_reducible refine (crc_Sum.calls k x x1 _ S1.out).mono ?_); rintro e w1 ⟨rfl, hb⟩; have n0_ := Aside0.mk (below_step HB.out hb); clear HB hb; have HB := n0_; clear n0_) | (go_at_call 9; (with_reducible refine (crc_Sum.calls k a0 y1 _ S2.out).mono ?_); rintro e w1 ⟨rfl, hb⟩; have n0_ := Aside0.mk (below_step HB.out hb); clear HB hb; have HB := n0_; clear n0_) | (go_at_call 12; (refine (palaverlaw08_awake.calls k r _ HA.out).mono ?_); rintro e w1 ⟨rfl, hb⟩; have n0_ := Aside0.mk (below_step HB.out hb); clear HB hb; have HB := n0_; clear n0_))
          go_ret
          exact ⟨rfl, HB.out⟩
    | succ k1 =>
      have hi : (i : Int) < 32 := by have := HP.out; omega
      have hi0 : (0 : Int) ≤ (i : Int) := by omega
      have hd : decide ((i : Int) < 32) = true := decide_eq_true hi
      have hd2 : decide (i < 32) = true := decide_eq_true (by omega)
      by_cases c : kk + (i : Int) < 8 * (a0.size : Int)
      · have hc : decide (kk + (i : Int) < 8 * (a0.size : Int)) = true := decide_eq_true c
        obtain ⟨j, hj⟩ : ∃ j : Nat, (kk + (i : Int)) / 8 = (j : Int) := ⟨((kk + (i : Int)) / 8).toNat, by omega⟩
        obtain ⟨s, hs⟩ : ∃ s : Nat, (kk + (i : Int)) % 8 = (s : Int) := ⟨((kk + (i : Int)) % 8).toNat, by omega⟩
        have hjl : j < a0.size := by omega
        have hs8 : s < 8 := by omega
        by_cases cb : palaverlaw08_CrcTurned.bit a2 i = true
        · have hb : ((a2 / 2 ^ i).tmod 2 == 1) = true := cb
          obtain ⟨hcell, hfro⟩ := HM.out.one j (by have := HL.out; omega)
          have j0 : (0 : Int) ≤ (j : Int) := by omega
          have j1 : (j : Int) < (a0.size : Int) := by omega
          go_wp2
          go_region
          go_wp2
          go_roundg k1
          case measure => omega
          case rel => exact ⟨i + 1, xs.set j (Go.bits .xor .u8 (rd xs (j : Int)) (2 ^ s % 256)), by go_num, ⟨by have := HP.out; omega⟩, ⟨by have := HX.out; rw [palaverlaw08_CrcTurned.fl, if_pos c, if_pos cb] at this; unfold palaverlaw08_CrcTurned.flip at this; rw [hj, hs, Int.toNat_natCast, Int.toNat_natCast] at this; exact this⟩, ⟨HM.out.set j (by have := HL.out; omega) _⟩, ⟨by rw [List.length_set]; exact HL.out⟩, ⟨below_drew1 (below_set HB.out HG.out)⟩⟩
        · have hb : ((a2 / 2 ^ i).tmod 2 == 1) = false := by simpa [palaverlaw08_CrcTurned.bit] using cb
          go_wp2
          go_roundg k1
          case measure => omega
          case rel => exact ⟨i + 1, xs, by go_num, ⟨by have := HP.out; omega⟩, ⟨by have := HX.out; rw [palaverlaw08_CrcTurned.fl, if_pos c, if_neg cb] at this; exact this⟩, HM, HL, HB⟩
      · have HXE := Aside0.mk (show strOfNums xs = x by have := HX.out; rw [palaverlaw08_CrcTurned.fl, if_neg c] at this; exact this)
        have hc : decide (kk + (i : Int) < 8 * (a0.size : Int)) = false := decide_eq_false c
        clear HX HP
        have hconv := Kd.C_string (P := Try.prog) Try.underlying35 Try.underlying5 Try.underlying9 (c := cap) (HM.out.reads_at)
        rw [HL.out, HXE.out] at hconv
        rcases ht with ⟨e1, hA⟩ | ⟨e1, x1, y1, hs1, hs2, hr⟩
        · have q1 : (x.toList == a0.toList) = true := by rw [e1]; simp
          have HA := Aside0.mk hA
          clear hA
          go_wp2_with (first | (go_at_call 12; (refine (palaverlaw08_awake.calls k r _ HA.out).mono ?_); rintro e w1 ⟨rfl, hb⟩; have n0_ := Aside0.mk (below_step HB.out hb); clear HB hb; have HB := n0_; clear n0_))
          go_ret
          exact ⟨rfl, HB.out⟩
        · have q1 : (x.toList == a0.toList) = false := by
            rw [beq_eq_false_iff_ne]
            intro e
            apply e1
            rw [ByteArray.toList_eq, ByteArray.toList_eq] at e
            cases x; cases a0
            simp at e
            rw [e]
          have S1 := Aside0.mk hs1
          have S2 := Aside0.mk hs2
          clear hs1 hs2
          rcases hr with ⟨rfl, rfl⟩ | ⟨hn, hA⟩
          · have q2 : (x1 != x1) = false := by simp
            go_wp2_with (first | (go_at_call 9; (with_reducible refine (crc_Sum.calls k x x1 _ S1.out).mono ?_); rintro e w1 ⟨rfl, hb⟩; have n0_ := Aside0.mk (below_step HB.out hb); clear HB hb; have HB := n0_; clear n0_) | (go_at_call 9; (with_reducible refine (crc_Sum.calls k a0 x1 _ S2.out).mono ?_); rintro e w1 ⟨rfl, hb⟩; have n0_ := Aside0.mk (below_step HB.out hb); clear HB hb; have HB := n0_; clear n0_))
            go_ret
            exact ⟨rfl, HB.out⟩
          · have q2 : (x1 != y1) = true := bne_iff_ne.mpr hn
            have HA := Aside0.mk hA
            clear hA
            go_wp2_with (first | (go_at_call 9; (with_reducible refine (crc_Sum.calls k x x1 _ S1.out).mono ?_); rintro e w1 ⟨rfl, hb⟩; have n0_ := Aside0.mk (below_step HB.out hb); clear HB hb; have HB := n0_; clear n0_) | (go_at_call 9; (with_reducible refine (crc_Sum.calls k a0 y1 _ S2.out).mono ?_); rintro e w1 ⟨rfl, hb⟩; have n0_ := Aside0.mk (below_step HB.out hb); clear HB hb; have HB := n0_; clear n0_) | (go_at_call 12; (refine (palaverlaw08_awake.calls k r _ HA.out).mono ?_); rintro e w1 ⟨rfl, hb⟩; have n0_ := Aside0.mk (below_step HB.out hb); clear HB hb; have HB := n0_; clear n0_))
            go_ret
            exact ⟨rfl, HB.out⟩
theorem palaverlaw08_CrcTurned.mono : ∀ a0 a1 a2 k, LeO (palaverlaw08_CrcTurned.f k a0 a1 a2) (palaverlaw08_CrcTurned.f (k + 1) a0 a1 a2) := by
  intro a0 a1 a2 k
  unfold palaverlaw08_CrcTurned.f
  exact LeO.ite (palaverlaw08_awake.mono _) (LeO.ite (palaverlaw08_awake.mono _) (LeO.ite (palaverlaw08_awake.mono _) (LeO.ite (palaverlaw08_awake.mono _) (LeO.bind (crc_Sum.mono _ _) fun _ => LeO.bind (crc_Sum.mono _ _) fun _ => LeO.ite (LeO.refl _) (palaverlaw08_awake.mono _)))))
theorem palaverlaw08_CrcTurned.calls (k : Nat) (a0 : ByteArray) (a1 : Int) (a2 : Int) (r : Bool) (w : World) (h : palaverlaw08_CrcTurned.f k a0 a1 a2 = some r) :
    Calls Try.prog 7 #[.string a0, .int .i64 a1, .int .u32 a2] w fun e w' => e = .returned (.bool r) ∧ Below w.heap.size w w' := by
  unfold palaverlaw08_CrcTurned.f at h
  by_cases c1 : a0.size = 0
  · rw [if_pos c1] at h
    exact palaverlaw08_CrcTurned.early k a0 a1 a2 r w (.inl c1) h
  rw [if_neg c1] at h
  by_cases c2 : 3000 < a0.size
  · rw [if_pos c2] at h
    exact palaverlaw08_CrcTurned.early k a0 a1 a2 r w (.inr (.inl ⟨c1, c2⟩)) h
  rw [if_neg c2] at h
  by_cases c3 : a2 = 0
  · rw [if_pos c3] at h
    exact palaverlaw08_CrcTurned.early k a0 a1 a2 r w (.inr (.inr ⟨⟨c1, c2⟩, c3⟩)) h
  rw [if_neg c3] at h
  refine palaverlaw08_CrcTurned.main k a0 a1 a2 r w c1 c2 c3 _ rfl (palaverlaw08_CrcTurned.out a0 a1 a2) rfl ?_
  by_cases c4 : palaverlaw08_CrcTurned.out a0 a1 a2 = a0
  · rw [if_pos c4] at h
    exact .inl ⟨c4, h⟩
  · rw [if_neg c4] at h
    obtain ⟨x1, h1, h⟩ := Option.bind_eq_some_iff.mp h
    obtain ⟨y1, h2, h⟩ := Option.bind_eq_some_iff.mp h
    refine .inr ⟨c4, x1, y1, h1, h2, ?_⟩
    by_cases c5 : x1 = y1
    · rw [if_pos c5] at h
      exact .inl ⟨c5, (Option.some.inj h).symm⟩
    · rw [if_neg c5] at h
      exact .inr ⟨c5, h⟩

end Go.Proofs.Ytippjfgjehfhhaa.PP
