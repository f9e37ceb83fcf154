import Derived.Test.YtdodghifojkclaaGreatDoorOwnWords
import Derived.Lib.LaidTab
namespace Go.Proofs.YtdodghifojkclaaGreatDoorW.PrintWords
open Go.RowKit
/-- The package's table, as the row's list gives it. -/
theorem keys_of {P : Program} {W : World} {name : String} {g : Nat} (hg : P.globalNamed name = some g) (h : Lib.TabIs P W name .u32 keysL) : (Kd.int .u32).C W (some ⟨g, 0, none⟩) keysL.length keysL := by
  refine Kd.C_of_reads (enc := Value.int .u32) (d := (0 : Int)) (h1 := fun _ => rfl) ?_
  refine ⟨rfl, by decide, fun _ => ⟨⟨g, 0, none⟩, rfl, fun j hj => ?_⟩⟩
  have h9 := h.cell hg j hj
  have hadd : (⟨g, 0, none⟩ : Addr).add j = ⟨g, j, none⟩ := by unfold Addr.add; split <;> simp_all
  rw [hadd]
  exact h9
end Go.Proofs.YtdodghifojkclaaGreatDoorW.PrintWords
