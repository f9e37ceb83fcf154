-- WRITTEN BY a program of this work (wip/ownprint.py), for this seat
import Derived.Test.YtbiempnleljciaaRows
import Derived.Test.YtbiempnleljciaaPureFrameCut
import Derived.Test.YtbiempnleljciaaOwnRow
namespace Go.Proofs.Ytbiempnleljciaa.frameCut
open Go.ChangeShapes Go.WideShapes Go.ChangeAt Go.RowKit Go.Proofs.YtbiempnleljciaaW.PrintWords
open Go.ChangeMaps (open_string shut_string)
set_option linter.unusedVariables false
set_option linter.unusedSimpArgs false
theorem own : ownKnob Try.prog.godebug = none := by kernel_rfl
theorem laidOut : laidOutB Try.prog = true := by kernel_rfl
set_option maxRecDepth 100000 in
theorem lifted (os : Os) (started : os.Started) (H : Type) (enc : TypeId × Value → H) :
    ReturnsInHanded {} Try.checked os 7 .any (Rows.frameCutSpec.pre6 enc Try.prog Try.f7 Rows.frameCutRow.domain false) (Rows.frameCutSpec.post enc Try.prog Try.f7 false true false false) := by
  refine returnsInHanded_of_change_sized (C := Try.checked) own started (by kernel_rfl) Try.func7
    (ChangeSpec.witness6 (enc := enc) (C := Try.checked) false ⟨#[], #[.agg #[.int .i64 0, .int .i64 0, .slice none 0 0, .string ByteArray.empty, .slice none 0 0], .int .i64 0, .string ByteArray.empty], []⟩ 8 (by kernel_rfl) (by kernel_rfl) (by kernel_rfl) (by kernel_rfl)) ?_
  intro W base args ds gs before hval0 hW hcnd hsz0 _
  have hsz : (DataW.weightsEach Try.prog (Try.f7.params.toList ++ Rows.frameCutSpec.plain.varTypes Try.prog) (ds ++ gs)).all (· ≤ reachBytes) = true := hsz0
  have hval : ∀ (j : Nat) t v, Try.f7.params[j]? = some t → args[j]? = some v → Value.okWide Try.prog W .any base t v := hval0
  have hW' := hW
  obtain ⟨p, q, hA0, hV, rfl, hfz, hnd⟩ := hW
  have hA : DataW.TrodAll enc Try.prog W 0 (fun _ => true) true Try.f7.params.toList args.toList ds p := hA0
  rw [Try.params7] at hA hval hsz
  obtain ⟨v0, vs0, d0, ds0, p0, q0, hargs, rfl, rfl, h0, r0⟩ := trodAll_cons hA
  obtain ⟨v1, vs1, d1, ds1, p1, q1, rfl, rfl, rfl, h1, r1⟩ := trodAll_cons r0
  obtain ⟨v2, vs2, d2, ds2, p2, q2, rfl, rfl, rfl, h2, r2⟩ := trodAll_cons r1
  obtain ⟨rfl, rfl, rfl⟩ := trodAll_nil r2
  obtain rfl : args = #[v0, v1, v2] := by cases args; simp_all
  obtain ⟨rfl, rfl⟩ := trodVars_none hV
  have k0 := h0
  have lt0 : ∀ x ∈ p0, x.block < W.heap.size := by obtain ⟨m, hm⟩ := k0; exact DataW.trod_lt m _ _ _ hm
  obtain ⟨cs0, ys0, rfl, hcs0, rfl, hyl0, hf0⟩ := arg_fields Try.underlying24 (by kernel_rfl) (by kernel_rfl) (hval 0 24 v0 rfl rfl) h0
  obtain ⟨u0_0, u0_1, u0_2, u0_3, u0_4, rfl⟩ := arr5 hcs0
  obtain ⟨z0_0, yy0_0, nn0_0, hu0_0, hy0_0, ht0_0⟩ := hf0 0 _ rfl
  simp only [List.getElem?_toArray, List.getElem?_cons_zero, List.getElem?_cons_succ, Option.some.injEq] at hu0_0
  subst hu0_0
  obtain ⟨a0_0, rfl, w0_0⟩ := cell_int Try.underlying3 ht0_0
  obtain ⟨z0_1, yy0_1, nn0_1, hu0_1, hy0_1, ht0_1⟩ := hf0 1 _ rfl
  simp only [List.getElem?_toArray, List.getElem?_cons_zero, List.getElem?_cons_succ, Option.some.injEq] at hu0_1
  subst hu0_1
  obtain ⟨a0_1, rfl, w0_1⟩ := cell_int Try.underlying3 ht0_1
  obtain ⟨z0_2, yy0_2, nn0_2, hu0_2, hy0_2, ht0_2⟩ := hf0 2 _ rfl
  simp only [List.getElem?_toArray, List.getElem?_cons_zero, List.getElem?_cons_succ, Option.some.injEq] at hu0_2
  subst hu0_2
  obtain ⟨sa0_2, sn0_2, sc0_2, rfl, tr0_2⟩ := cell_slice Try.underlying22 ht0_2
  obtain ⟨l0_2, hl0_2, hc0_2, hr0_2⟩ := arg_strings Try.underlying22 Try.underlying9 (by kernel_rfl) tr0_2
  subst hl0_2
  obtain ⟨z0_3, yy0_3, nn0_3, hu0_3, hy0_3, ht0_3⟩ := hf0 3 _ rfl
  simp only [List.getElem?_toArray, List.getElem?_cons_zero, List.getElem?_cons_succ, Option.some.injEq] at hu0_3
  subst hu0_3
  obtain ⟨a0_3, rfl, _⟩ := cell_string Try.underlying9 ht0_3
  obtain ⟨z0_4, yy0_4, nn0_4, hu0_4, hy0_4, ht0_4⟩ := hf0 4 _ rfl
  simp only [List.getElem?_toArray, List.getElem?_cons_zero, List.getElem?_cons_succ, Option.some.injEq] at hu0_4
  subst hu0_4
  obtain ⟨sa0_4, sn0_4, sc0_4, rfl, tr0_4⟩ := cell_slice Try.underlying22 ht0_4
  obtain ⟨l0_4, hl0_4, hc0_4, hr0_4⟩ := arg_strings Try.underlying22 Try.underlying9 (by kernel_rfl) tr0_4
  subst hl0_4
  have k1 := h1
  have lt1 : ∀ x ∈ p1, x.block < W.heap.size := by obtain ⟨m, hm⟩ := k1; exact DataW.trod_lt m _ _ _ hm
  obtain ⟨a1, rfl, rfl, rfl, w1⟩ := open_int Try.underlying3 (hval 1 3 v1 rfl rfl) h1
  have k2 := h2
  have lt2 : ∀ x ∈ p2, x.block < W.heap.size := by obtain ⟨m, hm⟩ := k2; exact DataW.trod_lt m _ _ _ hm
  obtain ⟨a2, rfl, rfl, rfl, y2⟩ := open_string Try.underlying9 (hval 2 9 v2 rfl rfl) h2
  have w2 : a2.size ≤ 140737488351232 := by
    have z := sized_string hsz (j := 2) (t := 9) rfl rfl
    rw [Array.length_toList] at z
    exact z
  clear hA0 hval0 hsz0 hsz
  obtain ⟨k, h⟩ := Pure.FrameCut a0_0 a0_1 l0_2 a0_3 l0_4 a1 a2 w0_0 w0_1 hr0_2.2.1 hr0_4.2.1 w1 w2
  refine (PP.palaverlaw07_FrameCut.calls k a0_0 a0_1 _ _ l0_2 a0_3 _ _ l0_4 a1 a2 true W hr0_2 hc0_2 hr0_4 hc0_4 h).mono fun e W' he => ?_
  obtain ⟨he, bel0⟩ := he
  have bel : Below W.heap.size W W' := bel0
  subst he
  exact ⟨_, rfl, _, _, _, [], _, [], hW', trodAll_mk1 (shut_bool Try.underlying4 _), (trodAll_cons_mk (Below.trod laidOut (by kernel_rfl) (of_decide_eq_true (by kernel_rfl)) k0 bel lt0) (trodAll_cons_mk (Below.trod laidOut (by kernel_rfl) (of_decide_eq_true (by kernel_rfl)) k1 bel lt1) (trodAll_cons_mk (Below.trod laidOut (by kernel_rfl) (of_decide_eq_true (by kernel_rfl)) k2 bel lt2) trodAll_mk0))), rfl, bel.frame _, fun h => by cases h⟩
theorem over : Rows.frameCutRow.holds Try.pinned (OpenSpec.ofChange Rows.frameCutSpec) :=
  OpenClaim.holds_of_wide 7 Try.f7 rfl rfl rfl rfl rfl rfl rfl ⟨rfl, rfl, rfl, rfl, rfl⟩ rfl rfl rfl rfl rfl (by kernel_rfl) Try.func7 (by kernel_rfl)
    (of_decide_eq_true (by kernel_rfl)) (by unfold Func.isWrapper; first | (rw [if_pos (by decide +kernel)]; kernel_rfl) | (rw [if_neg (by decide +kernel)]; exact ⟨rfl, rfl⟩))
    (fun os started H enc _ => lifted os started H enc)
theorem proved : Rows.FrameCutSaid := over
#print axioms proved
end Go.Proofs.Ytbiempnleljciaa.frameCut
namespace Go.Proofs.Ytbiempnleljciaa
/-- The row, under a short name, for the claim. -/
theorem frameCut_holds : Rows.FrameCutSaid := frameCut.proved
end Go.Proofs.Ytbiempnleljciaa
