/- A part of the proof that laganlaw01.CargoMarks answers true at every input and leaves its arguments as they were; the conditions are those of the given row and card, nothing else. -/
import Derived.Test.YtpffpofdceppiaaGreatDoorKQ3
set_option linter.unusedSimpArgs false
set_option linter.unusedVariables false
namespace Go.Proofs.YtpffpofdceppiaaGreatDoor
open Go.RowKit Go.Shelf

theorem marks_wf : OpenClaim.wfByText (OpenSpec.ofChange Rows.cargoMarksSpec) Rows.cargoMarksRow = true := by kernel_rfl
theorem marks_main : Tryz.pinned.checked.prog.mainIs = some (true, "abb6000d32fbe1c8babc94b43990f04b581041e3ed56d80ed12e316cb9912a99".toList) := by kernel_rfl
theorem marks_har : (!(true, "abb6000d32fbe1c8babc94b43990f04b581041e3ed56d80ed12e316cb9912a99").1 && (true, "abb6000d32fbe1c8babc94b43990f04b581041e3ed56d80ed12e316cb9912a99").2.isEmpty && !true) = false := rfl
theorem marks_looks : true = Tryz.pinned.checked.prog.looks [] := by kernel_rfl
theorem marks_goes : false = Rows.cargoMarksRow.goesBy Tryz.pinned.checked.prog := by kernel_rfl
theorem marks_stand : ([9].all fun u => !Tryz.prog.wantsStandIn u) = true := by kernel_rfl
theorem marks_name : Tryz.prog.funcNamed "lagan/laganlaw01.CargoMarks" = some 3 := by kernel_rfl

theorem marks_card : Rows.CargoMarksCardSaid :=
  Claim7.holds_tied_plain_at .later [] [.data, .data, .data, .data, .sentinel, .sentinel, .pinned] true (true, "abb6000d32fbe1c8babc94b43990f04b581041e3ed56d80ed12e316cb9912a99") true marks_holds (fun _ h => by cases h) marks_wf (fun _ h => by cases h) cargoMarks_row_tie rfl ⟨rfl, rfl⟩ marks_main marks_har
    (fun f fn hf hfn => by
      obtain rfl : f = 3 := Option.some.inj (marks_name.symm.trans hf) |>.symm
      obtain rfl : fn = Tryz.f3 := (Option.some.inj (Tryz.func3.symm.trans hfn)).symm
      exact ⟨marks_looks, fun j t ht => by
        rw [Tryz.params3] at ht
        have hm : t ∈ [9] := by simpa using Array.mem_of_getElem? ht
        exact (show Tryz.prog.wantsStandIn t = false by simpa using List.all_eq_true.1 marks_stand t hm)⟩)
    marks_goes
end Go.Proofs.YtpffpofdceppiaaGreatDoor
