/-
  OctetsTexts: for every text, octets.Text answers the document's text with its length, or that it is too long.
  Conditions: none of our own (the text takes at most the model's reach, 2^47 - 4096 bytes).
-/
import Derived.Test.YtjjdfglfjabkjaaStOctetsTexts
import Derived.Test.YtjjdfglfjabkjaaOct1
namespace Go.Proofs.Ytjjdfglfjabkjaa.Pure
open Go.RowKit Go.Proofs.Ytjjdfglfjabkjaa.PP Go.Proofs.YtjjdfglfjabkjaaW.PrintWords Go.Proofs.YtjjdfglfjabkjaaW.PrintLast Go.Proofs.YtjjdfglfjabkjaaW.PrintMore Go.Proofs.Ytjjdfglfjabkjaa.Oct

theorem OctetsTexts : palaverlaw01_OctetsTexts.Stmt := by
  intro s hs
  refine ⟨20, ?_⟩
  unfold palaverlaw01_OctetsTexts.f
  rw [Text_eq 20 s hs (by omega), refText_eq 20 s hs (by omega)]
  split <;> simp [awake_eq 20 (by omega)]
end Go.Proofs.Ytjjdfglfjabkjaa.Pure
