/- The closed facts of the row of ScriptHex, each apart. -/
import Derived.Test.YtkfogknohmkbpaaGreatDoorCards
import Derived.ProofKit
import Derived.SevenTiedAt
namespace Go.Proofs.YtkfogknohmkbpaaGreatDoor
set_option maxRecDepth 100000
set_option maxHeartbeats 8000000

theorem and_t {a b : Bool} (ha : a = true) (hb : b = true) : (a && b) = true := by rw [ha, hb]; rfl
theorem closed : joinedFacts Tryz.prog 3 Tryz.f3 Rows.scriptHexSpec Rows.scriptHexRow = true := by
  unfold joinedFacts
  repeat' (with_reducible apply and_t)
  all_goals (as_aux_lemma => kernel_rfl)
theorem named : Tryz.prog.funcNamed Rows.scriptHexRow.func = some 3 := by kernel_rfl
end Go.Proofs.YtkfogknohmkbpaaGreatDoor
