/- A part of the proof that laganlaw01.CargoTexts answers true at every input and leaves its arguments as they were; the conditions are those of the given row and card, nothing else. -/
import Derived.Test.YtpffpofdceppiaaGreatDoorKQ2
set_option linter.unusedSimpArgs false
set_option linter.unusedVariables false
namespace Go.Proofs.YtpffpofdceppiaaGreatDoor
open Go.RowKit Go.Shelf

set_option maxHeartbeats 0 in
set_option maxRecDepth 100000 in
theorem texts_closed : joinedFacts Tryz.pinned.checked.prog 4 Tryz.f4 Rows.cargoTextsSpec Rows.cargoTextsRow = true := by
  unfold joinedFacts
  simp only [Bool.and_eq_true]
  refine ⟨⟨⟨⟨⟨⟨⟨⟨⟨⟨⟨⟨⟨⟨⟨⟨⟨⟨⟨⟨⟨⟨⟨⟨⟨⟨⟨⟨⟨⟨⟨?_, ?_⟩, ?_⟩, ?_⟩, ?_⟩, ?_⟩, ?_⟩, ?_⟩, ?_⟩, ?_⟩, ?_⟩, ?_⟩, ?_⟩, ?_⟩, ?_⟩, ?_⟩, ?_⟩, ?_⟩, ?_⟩, ?_⟩, ?_⟩, ?_⟩, ?_⟩, ?_⟩, ?_⟩, ?_⟩, ?_⟩, ?_⟩, ?_⟩, ?_⟩, ?_⟩, ?_⟩
  all_goals (as_aux_lemma => kernel_rfl)

theorem texts_instance : Tryz.f4.isInstance Tryz.pinned.checked.prog Rows.cargoTextsRow.origin Rows.cargoTextsRow.targs := of_decide_eq_true (by kernel_rfl)
theorem texts_wrapper : Tryz.f4.isWrapper Tryz.pinned.checked.prog Rows.cargoTextsRow.wrapper Rows.cargoTextsRow.mainSum := by
  unfold Func.isWrapper; first | (rw [if_pos (by decide +kernel)]; kernel_rfl) | (rw [if_neg (by decide +kernel)]; exact ⟨rfl, rfl⟩)
theorem texts_named : Tryz.pinned.checked.prog.funcNamed Rows.cargoTextsRow.func = some 4 := by kernel_rfl
end Go.Proofs.YtpffpofdceppiaaGreatDoor
