/- The closed facts of the row of ModuleCircles; no condition. -/
import Derived.Test.YtjjgiigbhjfkaaaGreatDoorCards
import Derived.Test.YtjjgiigbhjfkaaaGreatDoorTie
import Derived.ProofKit
import Derived.LaidMore
import Derived.OpenShut
import Derived.Lay
import Derived.Stop.Joined
set_option linter.unusedSimpArgs false
set_option linter.unusedVariables false
set_option maxHeartbeats 100000000
set_option maxRecDepth 1000000
namespace Go.Proofs.YtjjgiigbhjfkaaaGreatDoor
open Go Go.ChangeShapes Go.WideShapes Go.ChangeAt Go.WideMaps Go.WideElems Go.RowKit
theorem fact_named : Tryz.pinned.checked.prog.funcNamed Rows.moduleCirclesRow.func = some 3 := by kernel_rfl
theorem fact_joined : joinedFacts Tryz.pinned.checked.prog 3 Tryz.f3 Rows.moduleCirclesSpec Rows.moduleCirclesRow = true := by
  unfold joinedFacts
  simp only [Bool.and_eq_true]
  repeat' refine And.intro ?_ ?_
  all_goals (as_aux_lemma => kernel_rfl)
theorem fact_inst : Tryz.f3.isInstance Tryz.pinned.checked.prog Rows.moduleCirclesRow.origin Rows.moduleCirclesRow.targs := of_decide_eq_true (by kernel_rfl)
theorem fact_wrap : Tryz.f3.isWrapper Tryz.pinned.checked.prog Rows.moduleCirclesRow.wrapper Rows.moduleCirclesRow.mainSum := by
  unfold Func.isWrapper; first | (rw [if_pos (by decide +kernel)]; kernel_rfl) | (rw [if_neg (by decide +kernel)]; exact ⟨rfl, rfl⟩)
end Go.Proofs.YtjjgiigbhjfkaaaGreatDoor
