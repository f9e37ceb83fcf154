/-
  Any text as a digest's 32 bytes.
  Conditions: none.
-/
import Derived.Test.YtkdbobccchkdjaaDoorWts3
import Derived.Test.YtkdbobccchkdjaaDoorPPx6
namespace Go.Proofs.YtkdbobccchkdjaaDoor.Sha
open Go.RowKit Go.Proofs.YtkdbobccchkdjaaDoor.PP Go.Proofs.YtkdbobccchkdjaaDoorW.PrintWords Go.Proofs.YtkdbobccchkdjaaDoorW.PrintLast Go.Proofs.YtkdbobccchkdjaaDoorW.PrintMore
set_option linter.unusedSimpArgs false
set_option linter.unusedVariables false

theorem fit_l (s : ByteArray) : ∀ (d j : Nat) (x : List Int), j + d = 32 → x.length = 32 → ∃ f, Sha.Ev (fun k => palaverlaw03_fit.l0 k s x (j : Int)) f ∧ f.size = 32
  | 0, j, x, h, hx => by
    refine ⟨strOfNums x, Ev.succ (G := fun _ => some (strOfNums x)) (fun k => ?_) (Ev.pure _), by rw [strOfNums_size]; exact hx⟩
    simp only [palaverlaw03_fit.l0]
    by_cases c : (j : Int) < (s.size : Int)
    · rw [if_pos c, if_neg (by omega)]
    · rw [if_neg c]
  | d + 1, j, x, h, hx => by
    by_cases c : (j : Int) < (s.size : Int)
    · obtain ⟨f, hf, hz⟩ := fit_l s d (j + 1) (x.set j (bt s (j : Int))) (by omega) (by rw [List.length_set]; exact hx)
      refine ⟨f, Ev.succ (fun k => ?_) hf, hz⟩
      simp only [palaverlaw03_fit.l0, upI j (by omega), Int.toNat_natCast]
      rw [if_pos c, if_pos (by omega), if_pos (by omega), if_pos (by omega)]
    · refine ⟨strOfNums x, Ev.succ (G := fun _ => some (strOfNums x)) (fun k => ?_) (Ev.pure _), by rw [strOfNums_size]; exact hx⟩
      simp only [palaverlaw03_fit.l0]
      rw [if_neg c]
theorem fit_ev (s : ByteArray) : ∃ f, Sha.Ev (fun k => palaverlaw03_fit.f k s) f ∧ f.size = 32 := by
  obtain ⟨f, hf, hz⟩ := fit_l s 32 0 (List.replicate 32 0) (by omega) (by rw [List.length_replicate])
  refine ⟨f, ?_, hz⟩
  unfold palaverlaw03_fit.f
  exact ifs (by decide) hf
theorem wf16 {a : Int} (h : (Lit.int .u16 a).wf = true) : 0 ≤ a ∧ a ≤ 65535 := by
  simp [Lit.wf] at h
  have e1 : IntKind.u16.min = 0 := by decide
  have e2 : IntKind.u16.max = 65535 := by decide
  omega
theorem wf8 {a : Int} (h : (Lit.int .u8 a).wf = true) : 0 ≤ a ∧ a ≤ 255 := by
  simp [Lit.wf] at h
  have e1 : IntKind.u8.min = 0 := by decide
  have e2 : IntKind.u8.max = 255 := by decide
  omega
theorem back_rc (s : ByteArray) (a : Int) (d : ByteArray) (hd : d.size = 32) : rc (Dg d) (sg s a d) = pb s a := by
  unfold rc pb
  congr 1
  refine tab_eq _ _ 67 (fun q hq => ?_)
  obtain ⟨h1, h2⟩ := dn_eq (Dg d) (Dg_len d hd) (Dg_mem d hd) q hq
  unfold en sg
  rw [tab_at _ _ _ hq]
  unfold vl en15
  rw [Chn_add, show dn (Dg d) q + (15 - dn (Dg d) q) = 15 by omega]
end Go.Proofs.YtkdbobccchkdjaaDoor.Sha
