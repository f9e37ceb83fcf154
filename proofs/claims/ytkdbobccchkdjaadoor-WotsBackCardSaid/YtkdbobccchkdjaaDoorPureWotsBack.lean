/-
  What is signed is recovered to the key's public.
  Conditions: none.
-/
import Derived.Test.YtkdbobccchkdjaaDoorStWotsBack
import Derived.Test.YtkdbobccchkdjaaDoorWts4
namespace Go.Proofs.YtkdbobccchkdjaaDoor.Sha
open Go.RowKit Go.Proofs.YtkdbobccchkdjaaDoor.PP Go.Proofs.YtkdbobccchkdjaaDoorW.PrintWords Go.Proofs.YtkdbobccchkdjaaDoorW.PrintLast Go.Proofs.YtkdbobccchkdjaaDoorW.PrintMore
set_option linter.unusedSimpArgs false
set_option linter.unusedVariables false

theorem WotsBack : palaverlaw03_WotsBack.Stmt := by
  intro a0 a1 a2 h0 w1 h2
  have g1 := wf16 w1
  have yes : Sha.Ev (fun k => palaverlaw03_WotsBack.j0 k a0 a1 a2 true) true := Ev.succ (G := fun k => (palaverlaw03_awake.f k).bind fun t => some t) (fun k => by simp only [palaverlaw03_WotsBack.j0]; rw [if_pos trivial]) awake3_then
  refine Ev.get (F := fun k => palaverlaw03_WotsBack.f k a0 a1 a2) ?_
  unfold palaverlaw03_WotsBack.f palaverlaw03_long.f
  simp only [Option.bind_some]
  refine ev_long a0 (fun hs => ?_) yes
  refine Ev.bind awake3 ?_
  obtain ⟨f, hf, hz⟩ := fit_ev a2
  have ew : wrap64 a1 = a1 := w64 (by omega) (by omega)
  have s1 := sign_ev a0 hs a1 f
  rw [if_pos ⟨g1, hz⟩] at s1
  have s2 := public_ev a0 hs a1
  rw [if_pos g1] at s2
  have s3 := recover_ev f (sg a0 a1 f) (fun _ => sg_mem a0 a1 f)
  rw [if_pos ⟨hz, sg_len a0 a1 f⟩, back_rc a0 a1 f hz] at s3
  refine Ev.succ (G := fun k => (palaverlaw03_fit.f k a2).bind fun t => (wots_Sign.f k a0 a1 t).bind fun b => (wots_Public.f k a0 a1).bind fun c => (palaverlaw03_fit.f k a2).bind fun u => (wots_Recover.f k u b.1).bind fun d => (if b.2 = true then (if c.2 = true then (if d.2 = true then (if c.1.toList = d.1.toList then (some ((c.1.size : Int) == 32)) else (some false)) else (some false)) else (some false)) else (some false))) (fun k => ?_) (Ev.bind hf (Ev.bind s1 (Ev.bind s2 (Ev.bind hf (Ev.bind s3 (ifs rfl (ifs rfl (ifs rfl (ifs rfl ?_)))))))))
  · simp only [palaverlaw03_WotsBack.j0, ew]
    rw [if_neg (by decide)]
  · have hp : (pb a0 a1).size = 32 := tT_size _ _
    show Sha.Ev (fun k => some (((pb a0 a1).size : Int) == 32)) true
    rw [hp]
    exact Ev.pure _
end Go.Proofs.YtkdbobccchkdjaaDoor.Sha
namespace Go.Proofs.YtkdbobccchkdjaaDoor.Pure
open Go.Proofs.YtkdbobccchkdjaaDoor.PP
theorem WotsBack : palaverlaw03_WotsBack.Stmt := Sha.WotsBack
end Go.Proofs.YtkdbobccchkdjaaDoor.Pure
