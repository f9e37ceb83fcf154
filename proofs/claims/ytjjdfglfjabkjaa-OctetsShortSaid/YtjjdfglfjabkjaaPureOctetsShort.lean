/-
  OctetsShort: for every text and number, the text's laid bytes, cut off anywhere, are not read: the reader is bad.
  Conditions: none of our own (the text takes at most the model's reach, 2^47 - 4096 bytes).
-/
import Derived.Test.YtjjdfglfjabkjaaStOctetsShort
import Derived.Test.YtjjdfglfjabkjaaOct1
import Derived.Test.YtjjdfglfjabkjaaOct2
namespace Go.Proofs.Ytjjdfglfjabkjaa.Pure
open Go.RowKit Go.Proofs.Ytjjdfglfjabkjaa.PP Go.Proofs.YtjjdfglfjabkjaaW.PrintWords Go.Proofs.YtjjdfglfjabkjaaW.PrintLast Go.Proofs.YtjjdfglfjabkjaaW.PrintMore Go.Proofs.Ytjjdfglfjabkjaa.Oct

/-- A laid text, cut off: its reader is bad. -/
theorem text_cut (s : ByteArray) (m : Nat) (hs : s.size ≤ 65535) (hm : m < 2 + s.size) : ∃ q, text ((lay s).extract 0 m) false = (⟨#[]⟩, q, true) := by
  have hz : ((lay s).extract 0 m).size = m := by
    have := lay_size s
    simp only [ByteArray.size_extract]
    omega
  unfold text
  by_cases h2 : m < 2
  · rw [take_short _ _ 2 (by omega)]
    exact ⟨_, take_bad _ _⟩
  · rw [take_ok _ 2 (by omega) (by omega)]
    simp only
    have e : bytesOf (((lay s).extract 0 m).extract 0 (2 : Int).toNat) = [(s.size : Int) / 256, (s.size : Int) % 256] := by
      rw [bytesOf_ext, bytesOf_ext]
      unfold lay
      rw [bytesOf_app, bytesOf_nums _ (by intro c hc; simp at hc; omega)]
      simp only [List.drop_zero, List.take_take]
      rw [show min (2 : Int).toNat m = 2 by simp; omega]
      rfl
    rw [e, bv_two, take_short _ _ _ (by simp only [ByteArray.size_extract]; rw [lay_size]; omega)]
    exact ⟨_, rfl⟩
theorem OctetsShort : palaverlaw01_OctetsShort.Stmt := by
  intro s at_ hs hat
  refine ⟨20, ?_⟩
  unfold palaverlaw01_OctetsShort.f
  rw [Text_eq 20 s hs (by omega)]
  by_cases h : (s.size : Int) > 65535
  · rw [if_pos h]
    simp [palaverlaw01_OctetsShort.j0, h, awake_eq 19 (by omega)]
  · rw [if_neg h]
    simp only [Option.bind_some, if_true]
    have hz : (lay s).size = 2 + s.size := lay_size s
    change palaverlaw01_OctetsShort.j0 20 s at_ (lay s) (((lay s).size : Int) == 0) = some true
    have hb : (((lay s).size : Int) == 0) = false := beq_eq_false_iff_ne.2 (by omega)
    rw [hb]
    rw [palaverlaw01_OctetsShort.j0]
    have hw : IntKind.u64.wrap ((lay s).size : Int) = (lay s).size := by
      rw [u64w]; omega
    have ha : 0 ≤ IntKind.u64.wrap at_ := by
      rw [u64w]; omega
    rw [hw, Int.tmod_eq_emod_of_nonneg ha]
    have h1 := Int.emod_nonneg (IntKind.u64.wrap at_) (b := ((lay s).size : Int)) (by omega)
    have h2 := Int.emod_lt_of_pos (IntKind.u64.wrap at_) (b := ((lay s).size : Int)) (by omega)
    generalize IntKind.u64.wrap at_ % ((lay s).size : Int) = m at h1 h2
    rw [w64 (by omega) (by omega)]
    obtain ⟨m, rfl⟩ := Int.eq_ofNat_of_zero_le h1
    rw [if_neg (by simp), if_neg (by omega), if_pos h1, if_pos (by omega), Int.toNat_natCast]
    obtain ⟨q, hq⟩ := text_cut s m (by omega) (by omega)
    simp only [octets_Read.f, Option.bind_some, rText_eq 19 _ _ (by omega), hq, octets_Reader_Good.f, rByte_eq 19 _ _ (by omega), take_bad, rLeft_eq, rEnd_eq, bytesOf_nil, awake_eq 19 (by omega)]
    simp [bv]
end Go.Proofs.Ytjjdfglfjabkjaa.Pure
