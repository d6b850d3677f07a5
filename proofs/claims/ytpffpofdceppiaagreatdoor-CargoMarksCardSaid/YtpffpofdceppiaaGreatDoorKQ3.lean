/- A part of the proof that laganlaw01.CargoMarks answers true at every input and leaves its arguments as they were; the conditions are those of the given row and card, nothing else. -/
import Derived.Test.YtpffpofdceppiaaGreatDoorKQ2
set_option linter.unusedSimpArgs false
set_option linter.unusedVariables false
namespace Go.Proofs.YtpffpofdceppiaaGreatDoor
open Go.RowKit Go.Shelf

set_option maxHeartbeats 0 in
set_option maxRecDepth 100000 in
theorem marks_closed : joinedFacts Tryz.pinned.checked.prog 3 Tryz.f3 Rows.cargoMarksSpec Rows.cargoMarksRow = true := by
  unfold joinedFacts
  simp only [Bool.and_eq_true]
  refine ⟨⟨⟨⟨⟨⟨⟨⟨⟨⟨⟨⟨⟨⟨⟨⟨⟨⟨⟨⟨⟨⟨⟨⟨⟨⟨⟨⟨⟨⟨⟨?_, ?_⟩, ?_⟩, ?_⟩, ?_⟩, ?_⟩, ?_⟩, ?_⟩, ?_⟩, ?_⟩, ?_⟩, ?_⟩, ?_⟩, ?_⟩, ?_⟩, ?_⟩, ?_⟩, ?_⟩, ?_⟩, ?_⟩, ?_⟩, ?_⟩, ?_⟩, ?_⟩, ?_⟩, ?_⟩, ?_⟩, ?_⟩, ?_⟩, ?_⟩, ?_⟩, ?_⟩
  all_goals (as_aux_lemma => kernel_rfl)

theorem marks_instance : Tryz.f3.isInstance Tryz.pinned.checked.prog Rows.cargoMarksRow.origin Rows.cargoMarksRow.targs := of_decide_eq_true (by kernel_rfl)
theorem marks_wrapper : Tryz.f3.isWrapper Tryz.pinned.checked.prog Rows.cargoMarksRow.wrapper Rows.cargoMarksRow.mainSum := by
  unfold Func.isWrapper; first | (rw [if_pos (by decide +kernel)]; kernel_rfl) | (rw [if_neg (by decide +kernel)]; exact ⟨rfl, rfl⟩)
theorem marks_named : Tryz.pinned.checked.prog.funcNamed Rows.cargoMarksRow.func = some 3 := by kernel_rfl

theorem marks_holds : Rows.CargoMarksSaid :=
  OpenClaim.holds_of_wide 3 Tryz.f3 rfl rfl rfl rfl rfl rfl rfl ⟨rfl, rfl, rfl, rfl, rfl⟩ rfl rfl rfl rfl rfl marks_named Tryz.func3 marks_closed
    marks_instance marks_wrapper
    (fun os started H enc _ => marks_lifted os started H enc)
end Go.Proofs.YtpffpofdceppiaaGreatDoor
