import Derived.Test.YtippjfgjehfhhaaOct
import Derived.Test.YtippjfgjehfhhaaPPx2
namespace Go.Proofs.Ytippjfgjehfhhaa.Oct
open Go.RowKit Go.Proofs.Ytippjfgjehfhhaa.PP Go.Proofs.YtippjfgjehfhhaaW.PrintWords Go.Proofs.YtippjfgjehfhhaaW.PrintLast Go.Proofs.YtippjfgjehfhhaaW.PrintMore
set_option linter.unusedSimpArgs false
set_option linter.unusedVariables false

theorem ext_data (s : ByteArray) (a b : Nat) : (s.extract a b).data.toList = (s.data.toList.take b).drop a := by
  simp [List.drop_take]
theorem u64w (n : Int) : IntKind.u64.wrap n = n % 18446744073709551616 := by simp [IntKind.wrap, IntKind.bits, IntKind.signed]
theorem bytesOf_nums (l : List Int) (h : ∀ c ∈ l, 0 ≤ c ∧ c < 256) : bytesOf (strOfNums l) = l := by
  unfold bytesOf
  rw [strOfNums_data, List.map_map]
  conv => rhs; rw [← List.map_id l]
  refine List.map_congr_left fun c hc => ?_
  have := h c hc
  simp
  omega
theorem bytesOf_app (a b : ByteArray) : bytesOf (a ++ b) = bytesOf a ++ bytesOf b := by
  unfold bytesOf
  rw [data_app, List.map_append]
theorem bytesOf_ext (s : ByteArray) (a b : Nat) : bytesOf (s.extract a b) = ((bytesOf s).take b).drop a := by
  unfold bytesOf
  rw [ext_data, List.map_drop, List.map_take]
theorem app_size (a b : ByteArray) : (a ++ b).size = a.size + b.size := by simp
theorem take_app (a b : ByteArray) (n : Int) (hn : n = a.size) : take (a ++ b) false n = (a, b, false) := by
  unfold take
  subst hn
  rw [if_neg (by rw [app_size]; simp; omega)]
  refine Prod.ext ?_ (Prod.ext ?_ rfl)
  · apply ba_ext
    rw [ext_data, data_app]
    simp
  · apply ba_ext
    rw [ext_data, data_app, app_size]
    simp only [Int.toNat_natCast]
    rw [List.take_of_length_le (by simp), List.drop_left' (by simp)]
theorem take_bad (s : ByteArray) (n : Int) : take s true n = (⟨#[]⟩, s, true) := by simp [take]
theorem take_short (s : ByteArray) (b : Bool) (n : Int) (h : n > s.size) : take s b n = (⟨#[]⟩, s, true) := by simp [take, h]
theorem take_ok (s : ByteArray) (n : Int) (h0 : 0 ≤ n) (h : n ≤ s.size) : take s false n = (s.extract 0 n.toNat, s.extract n.toNat s.size, false) := by
  unfold take
  rw [if_neg (by simp; omega)]
theorem bv_four (n : Int) : bv 0 [n / 16777216, n / 65536 % 256, n / 256 % 256, n % 256] = n := by simp [bv]; omega
theorem rLong_eq (k : Nat) (s : ByteArray) (b : Bool) (hk : 8 ≤ k) : octets_Reader_Long.f k s b = some (bv 0 (bytesOf (take s b 4).1), (take s b 4).2.1, (take s b 4).2.2) := by
  unfold octets_Reader_Long.f
  rw [number_eq k s b 4 (by omega) hk]
  rfl
/-- The next text. -/
def text (s : ByteArray) (b : Bool) : ByteArray × ByteArray × Bool := take (take s b 2).2.1 (take s b 2).2.2 (bv 0 (bytesOf (take s b 2).1))
/-- A text with its length. -/
def lay (s : ByteArray) : ByteArray := strOfNums [(s.size : Int) / 256, (s.size : Int) % 256] ++ s
end Go.Proofs.Ytippjfgjehfhhaa.Oct
