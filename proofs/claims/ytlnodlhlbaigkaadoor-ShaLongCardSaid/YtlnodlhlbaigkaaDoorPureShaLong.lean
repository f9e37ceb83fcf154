/-
  ShaLong: a digest has 32 bytes, and hangs on the bytes alone.
  Conditions: none of our own (what is read takes at most the model's reach; the program's table reads as its text lays it: the card's tie).
-/
import Derived.Test.YtlnodlhlbaigkaaDoorStShaLong
import Derived.Test.YtlnodlhlbaigkaaDoorSha2
namespace Go.Proofs.YtlnodlhlbaigkaaDoor.Pure
open Go.RowKit Go.Proofs.YtlnodlhlbaigkaaDoor.PP Go.Proofs.YtlnodlhlbaigkaaDoorW.PrintWords Go.Proofs.YtlnodlhlbaigkaaDoorW.PrintLast Go.Proofs.YtlnodlhlbaigkaaDoorW.PrintMore Go.Proofs.YtlnodlhlbaigkaaDoor.Sha
set_option linter.unusedSimpArgs false
set_option linter.unusedVariables false

theorem ShaLong : palaverlaw02_ShaLong.Stmt := by
  intro s t _ _
  suffices h : Sha.Ev (fun k => palaverlaw02_ShaLong.f k s t) true from h.get
  have big : Sha.Ev (fun k => palaverlaw02_ShaLong.j0 k s t true) true := Sha.Ev.succ (fun k => by
    show palaverlaw02_ShaLong.j0 (k + 1) s t true = (palaverlaw02_awake.f k).bind fun t => some t
    simp only [palaverlaw02_ShaLong.j0]
    rw [if_pos trivial]) awake_then
  unfold palaverlaw02_ShaLong.f
  by_cases c : (s.size : Int) > 2000
  · simp only [c, if_true]
    exact big
  · by_cases c2 : (t.size : Int) > 2000
    · simp only [c, c2, if_false, decide_true]
      exact big
    · simp only [c, c2, if_false, decide_false]
      obtain ⟨a, ha, h32⟩ := sum_tot s
      obtain ⟨b, hb, _⟩ := sum_tot t
      have hi := input_small 1 [s] (by intro x hx; simp at hx; subst hx; omega) (by simp)
      obtain ⟨d, hd, _⟩ := sum_tot ⟨([sha_Input.u8 1] ++ cat [s]).toArray⟩
      have htag : Sha.Ev (fun k => sha_Tag.f k 1 [s]) d := by
        unfold sha_Tag.f
        exact Sha.Ev.bind hi (Sha.Ev.bind hd (Sha.Ev.pure _))
      refine Sha.Ev.succ (fun k => palaverlaw02_ShaLong.j0.eq_2 s t false k) ?_
      simp only [Bool.false_eq_true, if_false]
      refine Sha.Ev.bind ha (Sha.Ev.bind hb ?_)
      simp only [show (a.size : Int) = 32 by omega, if_true]
      refine Sha.Ev.bind ha ?_
      simp only [if_true]
      refine Sha.Ev.bind htag (Sha.Ev.bind hi (Sha.Ev.bind hd ?_))
      simp only [if_true]
      exact awake_then
end Go.Proofs.YtlnodlhlbaigkaaDoor.Pure
