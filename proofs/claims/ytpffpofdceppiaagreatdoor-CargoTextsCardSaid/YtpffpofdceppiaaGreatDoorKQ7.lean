/- A part of the proof that laganlaw01.CargoTexts answers true at every input and leaves its arguments as they were; the conditions are those of the given row and card, nothing else. -/
import Derived.Test.YtpffpofdceppiaaGreatDoorKQ6
import Derived.Test.YtpffpofdceppiaaGreatDoorKJ4
set_option linter.unusedSimpArgs false
set_option linter.unusedVariables false
namespace Go.Proofs.YtpffpofdceppiaaGreatDoor
open Go.RowKit Go.Shelf

theorem texts_holds : Rows.CargoTextsSaid :=
  OpenClaim.holds_of_wide 4 Tryz.f4 rfl rfl rfl rfl rfl rfl rfl ⟨rfl, rfl, rfl, rfl, rfl⟩ rfl rfl rfl rfl rfl texts_named Tryz.func4 texts_closed
    texts_instance texts_wrapper
    (fun os started H enc _ => texts_lifted os started H enc)

theorem texts_wf : OpenClaim.wfByText (OpenSpec.ofChange Rows.cargoTextsSpec) Rows.cargoTextsRow = true := by kernel_rfl
theorem texts_main : Tryz.pinned.checked.prog.mainIs = some (true, "abb6000d32fbe1c8babc94b43990f04b581041e3ed56d80ed12e316cb9912a99".toList) := by kernel_rfl
theorem texts_har : (!(true, "abb6000d32fbe1c8babc94b43990f04b581041e3ed56d80ed12e316cb9912a99").1 && (true, "abb6000d32fbe1c8babc94b43990f04b581041e3ed56d80ed12e316cb9912a99").2.isEmpty && !true) = false := rfl
theorem texts_looks : true = Tryz.pinned.checked.prog.looks [] := by kernel_rfl
theorem texts_goes : false = Rows.cargoTextsRow.goesBy Tryz.pinned.checked.prog := by kernel_rfl
theorem texts_stand : ([28, 9].all fun u => !Tryz.prog.wantsStandIn u) = true := by kernel_rfl
theorem texts_name : Tryz.prog.funcNamed "lagan/laganlaw01.CargoTexts" = some 4 := by kernel_rfl

theorem texts_card : Rows.CargoTextsCardSaid :=
  Claim7.holds_tied_plain_at .later [] [.data, .data, .data, .data, .sentinel, .sentinel, .pinned] true (true, "abb6000d32fbe1c8babc94b43990f04b581041e3ed56d80ed12e316cb9912a99") true texts_holds (fun _ h => by cases h) texts_wf (fun _ h => by cases h) cargoTexts_row_tie rfl ⟨rfl, rfl⟩ texts_main texts_har
    (fun f fn hf hfn => by
      obtain rfl : f = 4 := Option.some.inj (texts_name.symm.trans hf) |>.symm
      obtain rfl : fn = Tryz.f4 := (Option.some.inj (Tryz.func4.symm.trans hfn)).symm
      exact ⟨texts_looks, fun j t ht => by
        rw [Tryz.params4] at ht
        have hm : t ∈ [28, 9] := by simpa using Array.mem_of_getElem? ht
        exact (show Tryz.prog.wantsStandIn t = false by simpa using List.all_eq_true.1 texts_stand t hm)⟩)
    texts_goes
end Go.Proofs.YtpffpofdceppiaaGreatDoor
