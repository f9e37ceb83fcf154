/-
  OctetsBack: numbers and texts that are laid one behind the other are read as they were, with anything behind them.
  Conditions: none of our own (each text takes at most the model's reach, 2^47 - 4096 bytes).
-/
import Derived.Test.YtjjdfglfjabkjaaStOctetsBack
import Derived.Test.YtjjdfglfjabkjaaOct1
import Derived.Test.YtjjdfglfjabkjaaOct2
namespace Go.Proofs.Ytjjdfglfjabkjaa.Pure
open Go.RowKit Go.Proofs.Ytjjdfglfjabkjaa.PP Go.Proofs.YtjjdfglfjabkjaaW.PrintWords Go.Proofs.YtjjdfglfjabkjaaW.PrintLast Go.Proofs.YtjjdfglfjabkjaaW.PrintMore Go.Proofs.Ytjjdfglfjabkjaa.Oct

theorem wf_bounds {k : IntKind} {n : Int} (h : (Lit.int k n).wf = true) : k.min ≤ n ∧ n ≤ k.max := by
  simpa [Lit.wf] using h
theorem app_assoc (a b c : ByteArray) : a ++ b ++ c = a ++ (b ++ c) := by
  apply ba_ext
  simp only [data_app, List.append_assoc]
theorem OctetsBack : palaverlaw01_OctetsBack.Stmt := by
  intro a b c t rest ha hb hc ht hr
  have ha := wf_bounds ha
  have hb := wf_bounds hb
  have hc := wf_bounds hc
  simp [IntKind.min, IntKind.max, IntKind.signed, IntKind.bits] at ha hb hc
  refine ⟨30, ?_⟩
  unfold palaverlaw01_OctetsBack.f octets_Byte.f octets_Long.f
  rw [w64 (n := a) (by omega) (by omega), w64 (n := b) (by omega) (by omega), w64 (n := c) (by omega) (by omega)]
  rw [byte_eq 26 a, if_neg (by omega), Short_eq 30 b (by omega), if_neg (by omega), long_eq 23 c, if_neg (by omega), Text_eq 30 t ht (by omega)]
  by_cases h : (t.size : Int) > 65535
  · simp [h, awake_eq 30 (by omega)]
  · rw [if_neg h]
    simp only [Option.bind_some, if_true]
    change (if (strOfNums [a]).size + (lay t).size ≤ 9223372036854775807 then _ else none) = some true
    have s1 : (strOfNums [a]).size = 1 := by rw [strOfNums_size]; rfl
    have s2 : (strOfNums [b / 256, b % 256]).size = 2 := by rw [strOfNums_size]; rfl
    have s4 : (strOfNums [c / 16777216, c / 65536 % 256, c / 256 % 256, c % 256]).size = 4 := by rw [strOfNums_size]; rfl
    have sl := lay_size t
    rw [if_pos (by omega), if_pos (by rw [app_size]; change _ + (lay t).size + _ ≤ _; omega), if_pos (by rw [app_size, app_size]; change _ + (lay t).size + _ + _ ≤ _; omega), if_pos (by rw [app_size, app_size, app_size]; change _ + (lay t).size + _ + _ + _ ≤ _; omega)]
    change (octets_Read.f ((((strOfNums [a] ++ lay t) ++ strOfNums [b / 256, b % 256]) ++ strOfNums [c / 16777216, c / 65536 % 256, c / 256 % 256, c % 256]) ++ rest)).bind _ = some true
    rw [app_assoc, app_assoc, app_assoc]
    have e1 := take_app (strOfNums [a]) (lay t ++ (strOfNums [b / 256, b % 256] ++ (strOfNums [c / 16777216, c / 65536 % 256, c / 256 % 256, c % 256] ++ rest))) 1 (by omega)
    have e2 := take_app (strOfNums [b / 256, b % 256]) (strOfNums [c / 16777216, c / 65536 % 256, c / 256 % 256, c % 256] ++ rest) 2 (by omega)
    have e3 := take_app (strOfNums [c / 16777216, c / 65536 % 256, c / 256 % 256, c % 256]) rest 4 (by omega)
    have e4 := text_lay t (strOfNums [b / 256, b % 256] ++ (strOfNums [c / 16777216, c / 65536 % 256, c / 256 % 256, c % 256] ++ rest)) (by omega)
    have e5 : take rest false (rest.size : Int) = (rest, ⟨#[]⟩, false) := by
      have := take_app rest ⟨#[]⟩ rest.size rfl
      rwa [app_nil] at this
    have n1 := bytesOf_nums [a] (by intro x hx; simp at hx; omega)
    have n2 := bytesOf_nums [b / 256, b % 256] (by intro x hx; simp at hx; omega)
    have n3 := bytesOf_nums [c / 16777216, c / 65536 % 256, c / 256 % 256, c % 256] (by intro x hx; simp at hx; omega)
    simp only [octets_Read.f, Option.bind_some, rByte_eq 30 _ _ (by omega), rShort_eq 30 _ _ (by omega), rLong_eq 30 _ _ (by omega), rText_eq 30 _ _ (by omega), rLeft_eq, rEnd_eq, Take_eq 29, e1, e2, e3, e4, n1, n2, n3, bv_one, bv_two, bv_four, e5, awake_eq 30 (by omega)]
    simp
    rfl
end Go.Proofs.Ytjjdfglfjabkjaa.Pure
