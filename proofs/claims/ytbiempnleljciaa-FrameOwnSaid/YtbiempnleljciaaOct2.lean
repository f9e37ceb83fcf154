import Derived.Test.YtbiempnleljciaaOct
import Derived.Test.YtbiempnleljciaaPPx10
import Derived.Test.YtbiempnleljciaaPPx8
namespace Go.Proofs.Ytbiempnleljciaa.Oct
open Go.RowKit Go.Proofs.Ytbiempnleljciaa.PP Go.Proofs.YtbiempnleljciaaW.PrintWords Go.Proofs.YtbiempnleljciaaW.PrintLast Go.Proofs.YtbiempnleljciaaW.PrintMore
set_option linter.unusedSimpArgs false
set_option linter.unusedVariables false

theorem ext_data (s : ByteArray) (a b : Nat) : (s.extract a b).data.toList = (s.data.toList.take b).drop a := by
  simp [List.drop_take]
theorem u64w (n : Int) : IntKind.u64.wrap n = n % 18446744073709551616 := by simp [IntKind.wrap, IntKind.bits, IntKind.signed]
theorem size_len (s : ByteArray) : s.size = s.data.toList.length := by simp
theorem bytesOf_nums (l : List Int) (h : ∀ c ∈ l, 0 ≤ c ∧ c < 256) : bytesOf (strOfNums l) = l := by
  unfold bytesOf
  rw [strOfNums_data, List.map_map]
  conv => rhs; rw [← List.map_id l]
  refine List.map_congr_left fun c hc => ?_
  have := h c hc
  simp
  omega
theorem bytesOf_app (a b : ByteArray) : bytesOf (a ++ b) = bytesOf a ++ bytesOf b := by
  unfold bytesOf
  rw [data_app, List.map_append]
theorem bytesOf_ext (s : ByteArray) (a b : Nat) : bytesOf (s.extract a b) = ((bytesOf s).take b).drop a := by
  unfold bytesOf
  rw [ext_data, List.map_drop, List.map_take]
theorem bytesOf_nil : bytesOf ⟨#[]⟩ = [] := rfl
theorem nums_bytes (s : ByteArray) : strOfNums (bytesOf s) = s := by
  apply ba_ext
  rw [strOfNums_data]
  unfold bytesOf
  rw [List.map_map]
  conv => rhs; rw [← List.map_id s.data.toList]
  refine List.map_congr_left fun c hc => ?_
  simp
theorem bytesOf_inj {a b : ByteArray} (h : bytesOf a = bytesOf b) : a = b := by rw [← nums_bytes a, h, nums_bytes]
theorem app_size (a b : ByteArray) : (a ++ b).size = a.size + b.size := by simp
theorem take_app (a b : ByteArray) (n : Int) (hn : n = a.size) : take (a ++ b) false n = (a, b, false) := by
  unfold take
  subst hn
  rw [if_neg (by rw [app_size]; simp; omega)]
  refine Prod.ext ?_ (Prod.ext ?_ rfl)
  · apply ba_ext
    rw [ext_data, data_app]
    simp
  · apply ba_ext
    rw [ext_data, data_app, app_size]
    simp only [Int.toNat_natCast]
    rw [List.take_of_length_le (by simp), List.drop_left' (by simp)]
theorem take_bad (s : ByteArray) (n : Int) : take s true n = (⟨#[]⟩, s, true) := by simp [take]
theorem take_short (s : ByteArray) (b : Bool) (n : Int) (h : n > s.size) : take s b n = (⟨#[]⟩, s, true) := by simp [take, h]
theorem take_neg (s : ByteArray) (b : Bool) (n : Int) (h : n < 0) : take s b n = (⟨#[]⟩, s, true) := by simp [take, h]
theorem take_ok (s : ByteArray) (n : Int) (h0 : 0 ≤ n) (h : n ≤ s.size) : take s false n = (s.extract 0 n.toNat, s.extract n.toNat s.size, false) := by
  unfold take
  rw [if_neg (by simp; omega)]
theorem bv_two (n : Int) : bv 0 [n / 256, n % 256] = n := by simp [bv]; omega
theorem bv_one (n : Int) : bv 0 [n] = n := by simp [bv]
theorem bv_four (n : Int) : bv 0 [n / 16777216, n / 65536 % 256, n / 256 % 256, n % 256] = n := by simp [bv]; omega
theorem rByte_eq (k : Nat) (s : ByteArray) (b : Bool) (hk : 8 ≤ k) : octets_Reader_Byte.f k s b = some (bv 0 (bytesOf (take s b 1).1), (take s b 1).2.1, (take s b 1).2.2) := by
  unfold octets_Reader_Byte.f
  rw [number_eq k s b 1 (by omega) hk]
  rfl
theorem rShort_eq (k : Nat) (s : ByteArray) (b : Bool) (hk : 8 ≤ k) : octets_Reader_Short.f k s b = some (bv 0 (bytesOf (take s b 2).1), (take s b 2).2.1, (take s b 2).2.2) := by
  unfold octets_Reader_Short.f
  rw [number_eq k s b 2 (by omega) hk]
  rfl
/-- The next text. -/
def text (s : ByteArray) (b : Bool) : ByteArray × ByteArray × Bool := take (take s b 2).2.1 (take s b 2).2.2 (bv 0 (bytesOf (take s b 2).1))
theorem rText_eq (k : Nat) (s : ByteArray) (b : Bool) (hk : 8 ≤ k) : octets_Reader_Text.f k s b = some (text s b) := by
  unfold octets_Reader_Text.f
  rw [rShort_eq k s b hk]
  obtain ⟨m, rfl⟩ : ∃ m, k = m + 1 := ⟨k - 1, by omega⟩
  simp only [Option.bind_some]
  rw [Take_eq]
  rfl
theorem rLeft_eq (s : ByteArray) (b : Bool) : octets_Reader_Left.f s b = some (if b = true then 0 else (s.size : Int), s, b) := by
  unfold octets_Reader_Left.f octets_Reader_Good.f
  cases b <;> simp
theorem rEnd_eq (s : ByteArray) (b : Bool) : octets_Reader_End.f s b = some (!b && ((s.size : Int) == 0), s, b) := by
  unfold octets_Reader_End.f octets_Reader_Good.f
  cases b <;> simp [rLeft_eq]
/-- A text with its length. -/
def lay (s : ByteArray) : ByteArray := strOfNums [(s.size : Int) / 256, (s.size : Int) % 256] ++ s
theorem lay_size (s : ByteArray) : (lay s).size = 2 + s.size := by unfold lay; rw [app_size, strOfNums_size]; rfl
theorem text_lay (s more : ByteArray) (h : s.size ≤ 65535) : text (lay s ++ more) false = (s, more, false) := by
  have e : lay s ++ more = strOfNums [(s.size : Int) / 256, (s.size : Int) % 256] ++ (s ++ more) := by
    unfold lay
    apply ba_ext
    simp only [data_app, List.append_assoc]
  unfold text
  rw [e, take_app _ _ 2 (by rw [strOfNums_size]; rfl)]
  simp only
  rw [bytesOf_nums _ (by intro c hc; simp at hc; omega), bv_two, take_app _ _ _ rfl]
end Go.Proofs.Ytbiempnleljciaa.Oct
