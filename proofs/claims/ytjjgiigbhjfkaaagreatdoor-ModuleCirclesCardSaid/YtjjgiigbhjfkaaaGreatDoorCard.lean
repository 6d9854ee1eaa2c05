/- The tied card of ModuleCircles holds: at every input it answers true and leaves the input as it was; the card's own conditions and no others. -/
import Derived.Test.YtjjgiigbhjfkaaaGreatDoorRow
import Derived.Test.YtjjgiigbhjfkaaaGreatDoorFact
set_option linter.unusedSimpArgs false
set_option linter.unusedVariables false
set_option maxHeartbeats 100000000
set_option maxRecDepth 1000000
namespace Go.Proofs.YtjjgiigbhjfkaaaGreatDoor
open Go Go.ChangeShapes Go.WideShapes Go.ChangeAt Go.WideMaps Go.WideElems Go.RowKit
theorem moduleCircles_holds : Rows.ModuleCirclesSaid :=
  OpenClaim.holds_of_wide 3 Tryz.f3 rfl rfl rfl rfl rfl rfl rfl ⟨rfl, rfl, rfl, rfl, rfl⟩ rfl rfl rfl rfl rfl fact_named Tryz.func3 fact_joined fact_inst fact_wrap
    (fun os started H enc _ => circles_lifted os started H enc)
theorem moduleCircles_card : Rows.ModuleCirclesCardSaid :=
  Claim7.holds_tied_plain_at .later [] [.data, .data, .data, .sentinel, .sentinel] true (true, "6ca5ee0ea9b9ee42fce2d21be48103703e8d759a47502e1925668f466b78608c") true moduleCircles_holds (fun _ h => by cases h) (by as_aux_lemma => kernel_rfl) (fun _ h => by cases h) moduleCircles_row_tie rfl ⟨rfl, rfl⟩ (by as_aux_lemma => kernel_rfl) rfl
    (fun f fn hf hfn => by
      obtain rfl : f = 3 := Option.some.inj ((show Tryz.prog.funcNamed "cupel/cupellaw16.ModuleCircles" = some 3 by as_aux_lemma => kernel_rfl).symm.trans hf) |>.symm
      obtain rfl : fn = Tryz.f3 := (Option.some.inj (Tryz.func3.symm.trans hfn)).symm
      exact ⟨by as_aux_lemma => kernel_rfl, fun j t ht => by
        rw [Tryz.params3] at ht
        have hm : t ∈ [5, 5, 4] := by simpa using Array.mem_of_getElem? ht
        have hall : ([5, 5, 4].all fun u => !Tryz.prog.wantsStandIn u) = true := by as_aux_lemma => kernel_rfl
        exact (show Tryz.prog.wantsStandIn t = false by simpa using List.all_eq_true.1 hall t hm)⟩)
    (by as_aux_lemma => kernel_rfl)
end Go.Proofs.YtjjgiigbhjfkaaaGreatDoor
