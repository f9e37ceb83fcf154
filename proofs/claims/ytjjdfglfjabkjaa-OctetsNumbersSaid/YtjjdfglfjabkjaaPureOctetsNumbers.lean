/-
  OctetsNumbers: for every number, octets.Byte, Short and Long answer the document's bytes, or that it is none.
  Conditions: none.
-/
import Derived.Test.YtjjdfglfjabkjaaStOctetsNumbers
import Derived.Test.YtjjdfglfjabkjaaOct1
namespace Go.Proofs.Ytjjdfglfjabkjaa.Pure
open Go.RowKit Go.Proofs.Ytjjdfglfjabkjaa.PP Go.Proofs.YtjjdfglfjabkjaaW.PrintWords Go.Proofs.YtjjdfglfjabkjaaW.PrintLast Go.Proofs.YtjjdfglfjabkjaaW.PrintMore Go.Proofs.Ytjjdfglfjabkjaa.Oct

theorem OctetsNumbers : palaverlaw01_OctetsNumbers.Stmt := by
  intro n hn
  have hn2 : n ≤ 9223372036854775807 := by
    simp [Lit.wf, IntKind.min, IntKind.max, IntKind.signed, IntKind.bits] at hn
    omega
  refine ⟨20, ?_⟩
  unfold palaverlaw01_OctetsNumbers.f octets_Byte.f octets_Long.f
  rw [byte_eq 16 n, Short_eq 20 n (by omega), long_eq 13 n, ref_one 14 n hn2, ref_two 12 n hn2, ref_four 8 n hn2]
  by_cases h1 : n < 0 ∨ n ≥ 256 <;> by_cases h2 : n < 0 ∨ n ≥ 65536 <;> by_cases h4 : n < 0 ∨ n ≥ 4294967296 <;> simp [h1, h2, h4, awake_eq 20 (by omega)]
end Go.Proofs.Ytjjdfglfjabkjaa.Pure
