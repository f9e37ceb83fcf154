/-
  Events: names; the example.
  Conditions: none.
-/
import Derived.Test.YtmedpnclkbkiiaaDoorEvt2
import Derived.Test.YtmedpnclkbkiiaaDoorShaBig
import Derived.Test.YtmedpnclkbkiiaaDoorPPx6
namespace Go.Proofs.YtmedpnclkbkiiaaDoor.Oct.Evt
open Go.RowKit Go.Proofs.YtmedpnclkbkiiaaDoor.PP Go.Proofs.YtmedpnclkbkiiaaDoorW.PrintWords Go.Proofs.YtmedpnclkbkiiaaDoorW.PrintLast Go.Proofs.YtmedpnclkbkiiaaDoorW.PrintMore
open Go.Proofs.YtmedpnclkbkiiaaDoor.Sha (ifs ifn)
set_option linter.unusedSimpArgs false
set_option linter.unusedVariables false

/-! names -/
theorem id_same (s : ByteArray) (hs : s.size ≤ 4000) : ∃ r, Sha.Ev (fun k => event_Id.f k s) r ∧ Sha.Ev (fun k => palaverref06_Id.f k s) r := by
  obtain ⟨r, h1, h2⟩ := Sha.tag_same 7 (by decide) s hs
  exact ⟨r, Sha.Ev.bind h1 (Sha.Ev.pure _), Sha.Ev.bind h2 (Sha.Ev.pure _)⟩
/-! the example -/
def aa (n : Nat) : ByteArray := ⟨(List.replicate n 97).toArray⟩
theorem aa_size (n : Nat) : (aa n).size = n := by
  show (List.replicate n 97).toArray.size = n
  simp
theorem aa_succ (n : Nat) : aa n ++ (⟨#[97]⟩ : ByteArray) = aa (n + 1) := by
  apply ba_ext
  rw [data_app]
  show List.replicate n 97 ++ [97] = List.replicate (n + 1) 97
  rw [List.replicate_succ']
theorem right_aa : rightB 1 (aa 32) [] (⟨#[114]⟩ : ByteArray) (⟨#[]⟩ : ByteArray) = true := by
  unfold rightB
  rw [show ([] : List ByteArray).length = 0 from rfl, fromB_end, Bool.true_and]
  unfold tailB
  rw [aa_size]
  rfl
theorem enc_aa : (enc 1 (aa 32) [] (⟨#[114]⟩ : ByteArray) (⟨#[]⟩ : ByteArray)) = (((⟨#[1, 0, 32]⟩ : ByteArray) ++ aa 32) ++ (⟨#[0, 0, 1, 114, 0, 0]⟩ : ByteArray)) := by
  have e : lay (aa 32) = (⟨#[0, 32]⟩ : ByteArray) ++ aa 32 := by
    unfold lay
    rw [aa_size]
    rfl
  unfold enc cont
  rw [e]
  apply ba_ext
  simp only [data_app]
  rfl
theorem awake_loop : ∀ m i : Nat, i + m = 32 → Sha.Ev (fun k => palaverlaw06_awake.l0 k (aa i)) true
  | 0, i, h => by
    have e : i = 32 := by omega
    subst e
    obtain ⟨r, h1, h2⟩ := id_same (⟨#[120]⟩ : ByteArray) (by decide)
    refine Sha.Ev.succ (fun k => palaverlaw06_awake.l0.eq_2 (aa 32) k) (ifn (by rw [aa_size]; decide) ?_)
    have he := encode_ev 1 (aa 32) [] (⟨#[114]⟩ : ByteArray) (⟨#[]⟩ : ByteArray) (by simp)
    unfold encR at he
    rw [if_pos right_aa] at he
    refine Sha.Ev.bind he (ifs rfl (ifs (by rw [aa_size]; decide) (ifs (by rw [app_size, aa_size]; decide) (ifs (by rw [enc_aa]) ?_))))
    refine Sha.Ev.bind h1 (Sha.Ev.bind h2 ?_)
    rw [beq_self_eq_true]
    exact Sha.Ev.pure _
  | m + 1, i, h => by
    have ih := awake_loop m (i + 1) (by omega)
    refine Sha.Ev.succ (fun k => palaverlaw06_awake.l0.eq_2 (aa i) k) (ifs (by rw [aa_size]; omega) (ifs (by rw [aa_size]; omega) ?_))
    rw [aa_succ]
    exact ih
theorem awake_ev : Sha.Ev (fun k => palaverlaw06_awake.f k) true := awake_loop 32 0 rfl
theorem awake_then : Sha.Ev (fun k => (palaverlaw06_awake.f k).bind fun t => some t) true := Sha.Ev.bind awake_ev (Sha.Ev.pure _)
end Go.Proofs.YtmedpnclkbkiiaaDoor.Oct.Evt
