/-
  DERIVED. GIVEN WITH THE SEED: THE CARDS: each row of YtpffpofdceppiaaGreatDoorRows.lean that lists a variable, with what it lists TIED to the program's text (the seventh form; the later family's looks); each row that meets fmt, with fmt's text TOLD by the authors' own Lean function (tested against real Go, not proved from fmt's source: count such statements apart). THE CARD IS WHAT COUNTS. Prove the row's statement (the work); the ties are given (YtpffpofdceppiaaGreatDoorTie.lean); close each card by the builder's one call (the guide's Derived/Test/ToyasCard.lean, 'card_holds'). Laid BY PROGRAM, IN A SANDBOX (cutbox-door.mjs). By AI agents, Wed Nov 11 2026. No macro, syntax, notation, axiom, sorry.
-/
import Derived.Test.YtpffpofdceppiaaGreatDoorRows
import GoSem.ClaimSeven
namespace Go.Proofs.YtpffpofdceppiaaGreatDoor
namespace Rows

/-- THE TIED CARD OF 'laganlaw01.CargoMarks'. -/
def cargoMarksCard : Claim7 := { stood := { row := cargoMarksRow, standIns := [], harness := (true, "abb6000d32fbe1c8babc94b43990f04b581041e3ed56d80ed12e316cb9912a99"), looks := true }, kinds := [], alts := [], laidByText := true, laidKinds := [.data, .data, .data, .data, .sentinel, .sentinel, .pinned], laidTests := true, laidLooks := .later }
def CargoMarksCardSaid : Prop := Claim7.holds Tryz.pinned (.plain (OpenSpec.ofChange cargoMarksSpec)) cargoMarksCard

/-- THE TIED CARD OF 'laganlaw01.CargoTexts'. -/
def cargoTextsCard : Claim7 := { stood := { row := cargoTextsRow, standIns := [], harness := (true, "abb6000d32fbe1c8babc94b43990f04b581041e3ed56d80ed12e316cb9912a99"), looks := true }, kinds := [], alts := [], laidByText := true, laidKinds := [.data, .data, .data, .data, .sentinel, .sentinel, .pinned], laidTests := true, laidLooks := .later }
def CargoTextsCardSaid : Prop := Claim7.holds Tryz.pinned (.plain (OpenSpec.ofChange cargoTextsSpec)) cargoTextsCard

/-- THE TIED CARD OF 'laganlaw01.CargoPapers'. -/
def cargoPapersCard : Claim7 := { stood := { row := cargoPapersRow, standIns := [], harness := (true, "abb6000d32fbe1c8babc94b43990f04b581041e3ed56d80ed12e316cb9912a99"), looks := true }, kinds := [], alts := [], laidByText := true, laidKinds := [.data, .data, .data, .data, .sentinel, .sentinel, .pinned], laidTests := true, laidLooks := .later }
def CargoPapersCardSaid : Prop := Claim7.holds Tryz.pinned (.plain (OpenSpec.ofChange cargoPapersSpec)) cargoPapersCard

/-- THE TIED CARD OF 'laganlaw01.CargoTrees'. -/
def cargoTreesCard : Claim7 := { stood := { row := cargoTreesRow, standIns := [], harness := (true, "abb6000d32fbe1c8babc94b43990f04b581041e3ed56d80ed12e316cb9912a99"), looks := true }, kinds := [], alts := [], laidByText := true, laidKinds := [.data, .data, .data, .data, .sentinel, .sentinel, .pinned], laidTests := true, laidLooks := .later }
def CargoTreesCardSaid : Prop := Claim7.holds Tryz.pinned (.plain (OpenSpec.ofChange cargoTreesSpec)) cargoTreesCard

/-- THE TIED CARD OF 'laganlaw01.CargoSums'. -/
def cargoSumsCard : Claim7 := { stood := { row := cargoSumsRow, standIns := [], harness := (true, "abb6000d32fbe1c8babc94b43990f04b581041e3ed56d80ed12e316cb9912a99"), looks := true }, kinds := [], alts := [], laidByText := true, laidKinds := [.data, .data, .data, .data, .sentinel, .sentinel, .pinned], laidTests := true, laidLooks := .later }
def CargoSumsCardSaid : Prop := Claim7.holds Tryz.pinned (.plain (OpenSpec.ofChange cargoSumsSpec)) cargoSumsCard

/-- THE TIED CARD OF 'laganlaw01.CargoWeights'. -/
def cargoWeightsCard : Claim7 := { stood := { row := cargoWeightsRow, standIns := [], harness := (true, "abb6000d32fbe1c8babc94b43990f04b581041e3ed56d80ed12e316cb9912a99"), looks := true }, kinds := [], alts := [], laidByText := true, laidKinds := [.data, .data, .data, .data, .sentinel, .sentinel, .pinned], laidTests := true, laidLooks := .later }
def CargoWeightsCardSaid : Prop := Claim7.holds Tryz.pinned (.plain (OpenSpec.ofChange cargoWeightsSpec)) cargoWeightsCard

/-- THE TIED CARD OF 'laganlaw01.CargoDoubts'. -/
def cargoDoubtsCard : Claim7 := { stood := { row := cargoDoubtsRow, standIns := [], harness := (true, "abb6000d32fbe1c8babc94b43990f04b581041e3ed56d80ed12e316cb9912a99"), looks := true }, kinds := [], alts := [], laidByText := true, laidKinds := [.data, .data, .data, .data, .sentinel, .sentinel, .pinned], laidTests := true, laidLooks := .later }
def CargoDoubtsCardSaid : Prop := Claim7.holds Tryz.pinned (.plain (OpenSpec.ofChange cargoDoubtsSpec)) cargoDoubtsCard

/-- THE TIED CARD OF 'laganlaw01.CargoLineages'. -/
def cargoLineagesCard : Claim7 := { stood := { row := cargoLineagesRow, standIns := [], harness := (true, "abb6000d32fbe1c8babc94b43990f04b581041e3ed56d80ed12e316cb9912a99"), looks := true }, kinds := [], alts := [], laidByText := true, laidKinds := [.data, .data, .data, .data, .sentinel, .sentinel, .pinned], laidTests := true, laidLooks := .later }
def CargoLineagesCardSaid : Prop := Claim7.holds Tryz.pinned (.plain (OpenSpec.ofChange cargoLineagesSpec)) cargoLineagesCard

/-- THE TIED CARD OF 'laganlaw01.CargoRests'. -/
def cargoRestsCard : Claim7 := { stood := { row := cargoRestsRow, standIns := [], harness := (true, "abb6000d32fbe1c8babc94b43990f04b581041e3ed56d80ed12e316cb9912a99"), looks := true }, kinds := [], alts := [], laidByText := true, laidKinds := [.data, .data, .data, .data, .sentinel, .sentinel, .pinned], laidTests := true, laidLooks := .later }
def CargoRestsCardSaid : Prop := Claim7.holds Tryz.pinned (.plain (OpenSpec.ofChange cargoRestsSpec)) cargoRestsCard

/-- THE TIED CARD OF 'laganlaw01.CargoNarrows'. -/
def cargoNarrowsCard : Claim7 := { stood := { row := cargoNarrowsRow, standIns := [], harness := (true, "abb6000d32fbe1c8babc94b43990f04b581041e3ed56d80ed12e316cb9912a99"), looks := true }, kinds := [], alts := [], laidByText := true, laidKinds := [.data, .data, .data, .data, .sentinel, .sentinel, .pinned], laidTests := true, laidLooks := .later }
def CargoNarrowsCardSaid : Prop := Claim7.holds Tryz.pinned (.plain (OpenSpec.ofChange cargoNarrowsSpec)) cargoNarrowsCard

/-- THE TIED CARD OF 'laganlaw01.CargoReached'. -/
def cargoReachedCard : Claim7 := { stood := { row := cargoReachedRow, standIns := [], harness := (true, "abb6000d32fbe1c8babc94b43990f04b581041e3ed56d80ed12e316cb9912a99"), looks := true }, kinds := [], alts := [], laidByText := true, laidKinds := [.data, .data, .data, .data, .sentinel, .sentinel, .pinned], laidTests := true, laidLooks := .later }
def CargoReachedCardSaid : Prop := Claim7.holds Tryz.pinned (.plain (OpenSpec.ofChange cargoReachedSpec)) cargoReachedCard

/-- THE TIED CARD OF 'laganlaw01.CargoManifests'. -/
def cargoManifestsCard : Claim7 := { stood := { row := cargoManifestsRow, standIns := [], harness := (true, "abb6000d32fbe1c8babc94b43990f04b581041e3ed56d80ed12e316cb9912a99"), looks := true }, kinds := [], alts := [], laidByText := true, laidKinds := [.data, .data, .data, .data, .sentinel, .sentinel, .pinned], laidTests := true, laidLooks := .later }
def CargoManifestsCardSaid : Prop := Claim7.holds Tryz.pinned (.plain (OpenSpec.ofChange cargoManifestsSpec)) cargoManifestsCard

/-- THE TIED CARD OF 'laganlaw01.CargoEither'. -/
def cargoEitherCard : Claim7 := { stood := { row := cargoEitherRow, standIns := [], harness := (true, "abb6000d32fbe1c8babc94b43990f04b581041e3ed56d80ed12e316cb9912a99"), looks := true }, kinds := [], alts := [], laidByText := true, laidKinds := [.data, .data, .data, .data, .sentinel, .sentinel, .pinned], laidTests := true, laidLooks := .later }
def CargoEitherCardSaid : Prop := Claim7.holds Tryz.pinned (.plain (OpenSpec.ofChange cargoEitherSpec)) cargoEitherCard

/-- THE TIED CARD OF 'laganlaw01.CargoCompletions'. -/
def cargoCompletionsCard : Claim7 := { stood := { row := cargoCompletionsRow, standIns := [], harness := (true, "abb6000d32fbe1c8babc94b43990f04b581041e3ed56d80ed12e316cb9912a99"), looks := true }, kinds := [], alts := [], laidByText := true, laidKinds := [.data, .data, .data, .data, .sentinel, .sentinel, .pinned], laidTests := true, laidLooks := .later }
def CargoCompletionsCardSaid : Prop := Claim7.holds Tryz.pinned (.plain (OpenSpec.ofChange cargoCompletionsSpec)) cargoCompletionsCard

/-- THE TIED CARD OF 'laganlaw01.CargoSharp'. -/
def cargoSharpCard : Claim7 := { stood := { row := cargoSharpRow, standIns := [], harness := (true, "abb6000d32fbe1c8babc94b43990f04b581041e3ed56d80ed12e316cb9912a99"), looks := true }, kinds := [], alts := [], laidByText := true, laidKinds := [.data, .data, .data, .data, .sentinel, .sentinel, .pinned], laidTests := true, laidLooks := .later }
def CargoSharpCardSaid : Prop := Claim7.holds Tryz.pinned (.plain (OpenSpec.ofChange cargoSharpSpec)) cargoSharpCard

/-- THE SECOND FORM's CARD OF 'laganlaw01.CargoMarks'. -/
def cargoMarksUptoCard : Claim7 := { stood := { row := cargoMarksUptoRow, standIns := [], harness := (true, "abb6000d32fbe1c8babc94b43990f04b581041e3ed56d80ed12e316cb9912a99"), looks := true }, kinds := [], alts := [], laidByText := true, laidKinds := [.data, .data, .data, .data, .sentinel, .sentinel, .pinned], laidTests := true, laidLooks := .later }
def CargoMarksUptoCardSaid : Prop := Claim7.holds Tryz.pinned (.plain (OpenSpec.upto cargoMarksSpec)) cargoMarksUptoCard

/-- THE SECOND FORM's CARD OF 'laganlaw01.CargoTexts'. -/
def cargoTextsUptoCard : Claim7 := { stood := { row := cargoTextsUptoRow, standIns := [], harness := (true, "abb6000d32fbe1c8babc94b43990f04b581041e3ed56d80ed12e316cb9912a99"), looks := true }, kinds := [], alts := [], laidByText := true, laidKinds := [.data, .data, .data, .data, .sentinel, .sentinel, .pinned], laidTests := true, laidLooks := .later }
def CargoTextsUptoCardSaid : Prop := Claim7.holds Tryz.pinned (.plain (OpenSpec.upto cargoTextsSpec)) cargoTextsUptoCard

/-- THE SECOND FORM's CARD OF 'laganlaw01.CargoPapers'. -/
def cargoPapersUptoCard : Claim7 := { stood := { row := cargoPapersUptoRow, standIns := [], harness := (true, "abb6000d32fbe1c8babc94b43990f04b581041e3ed56d80ed12e316cb9912a99"), looks := true }, kinds := [], alts := [], laidByText := true, laidKinds := [.data, .data, .data, .data, .sentinel, .sentinel, .pinned], laidTests := true, laidLooks := .later }
def CargoPapersUptoCardSaid : Prop := Claim7.holds Tryz.pinned (.plain (OpenSpec.upto cargoPapersSpec)) cargoPapersUptoCard

/-- THE SECOND FORM's CARD OF 'laganlaw01.CargoTrees'. -/
def cargoTreesUptoCard : Claim7 := { stood := { row := cargoTreesUptoRow, standIns := [], harness := (true, "abb6000d32fbe1c8babc94b43990f04b581041e3ed56d80ed12e316cb9912a99"), looks := true }, kinds := [], alts := [], laidByText := true, laidKinds := [.data, .data, .data, .data, .sentinel, .sentinel, .pinned], laidTests := true, laidLooks := .later }
def CargoTreesUptoCardSaid : Prop := Claim7.holds Tryz.pinned (.plain (OpenSpec.upto cargoTreesSpec)) cargoTreesUptoCard

/-- THE SECOND FORM's CARD OF 'laganlaw01.CargoSums'. -/
def cargoSumsUptoCard : Claim7 := { stood := { row := cargoSumsUptoRow, standIns := [], harness := (true, "abb6000d32fbe1c8babc94b43990f04b581041e3ed56d80ed12e316cb9912a99"), looks := true }, kinds := [], alts := [], laidByText := true, laidKinds := [.data, .data, .data, .data, .sentinel, .sentinel, .pinned], laidTests := true, laidLooks := .later }
def CargoSumsUptoCardSaid : Prop := Claim7.holds Tryz.pinned (.plain (OpenSpec.upto cargoSumsSpec)) cargoSumsUptoCard

/-- THE SECOND FORM's CARD OF 'laganlaw01.CargoWeights'. -/
def cargoWeightsUptoCard : Claim7 := { stood := { row := cargoWeightsUptoRow, standIns := [], harness := (true, "abb6000d32fbe1c8babc94b43990f04b581041e3ed56d80ed12e316cb9912a99"), looks := true }, kinds := [], alts := [], laidByText := true, laidKinds := [.data, .data, .data, .data, .sentinel, .sentinel, .pinned], laidTests := true, laidLooks := .later }
def CargoWeightsUptoCardSaid : Prop := Claim7.holds Tryz.pinned (.plain (OpenSpec.upto cargoWeightsSpec)) cargoWeightsUptoCard

/-- THE SECOND FORM's CARD OF 'laganlaw01.CargoDoubts'. -/
def cargoDoubtsUptoCard : Claim7 := { stood := { row := cargoDoubtsUptoRow, standIns := [], harness := (true, "abb6000d32fbe1c8babc94b43990f04b581041e3ed56d80ed12e316cb9912a99"), looks := true }, kinds := [], alts := [], laidByText := true, laidKinds := [.data, .data, .data, .data, .sentinel, .sentinel, .pinned], laidTests := true, laidLooks := .later }
def CargoDoubtsUptoCardSaid : Prop := Claim7.holds Tryz.pinned (.plain (OpenSpec.upto cargoDoubtsSpec)) cargoDoubtsUptoCard

/-- THE SECOND FORM's CARD OF 'laganlaw01.CargoLineages'. -/
def cargoLineagesUptoCard : Claim7 := { stood := { row := cargoLineagesUptoRow, standIns := [], harness := (true, "abb6000d32fbe1c8babc94b43990f04b581041e3ed56d80ed12e316cb9912a99"), looks := true }, kinds := [], alts := [], laidByText := true, laidKinds := [.data, .data, .data, .data, .sentinel, .sentinel, .pinned], laidTests := true, laidLooks := .later }
def CargoLineagesUptoCardSaid : Prop := Claim7.holds Tryz.pinned (.plain (OpenSpec.upto cargoLineagesSpec)) cargoLineagesUptoCard

/-- THE SECOND FORM's CARD OF 'laganlaw01.CargoRests'. -/
def cargoRestsUptoCard : Claim7 := { stood := { row := cargoRestsUptoRow, standIns := [], harness := (true, "abb6000d32fbe1c8babc94b43990f04b581041e3ed56d80ed12e316cb9912a99"), looks := true }, kinds := [], alts := [], laidByText := true, laidKinds := [.data, .data, .data, .data, .sentinel, .sentinel, .pinned], laidTests := true, laidLooks := .later }
def CargoRestsUptoCardSaid : Prop := Claim7.holds Tryz.pinned (.plain (OpenSpec.upto cargoRestsSpec)) cargoRestsUptoCard

/-- THE SECOND FORM's CARD OF 'laganlaw01.CargoNarrows'. -/
def cargoNarrowsUptoCard : Claim7 := { stood := { row := cargoNarrowsUptoRow, standIns := [], harness := (true, "abb6000d32fbe1c8babc94b43990f04b581041e3ed56d80ed12e316cb9912a99"), looks := true }, kinds := [], alts := [], laidByText := true, laidKinds := [.data, .data, .data, .data, .sentinel, .sentinel, .pinned], laidTests := true, laidLooks := .later }
def CargoNarrowsUptoCardSaid : Prop := Claim7.holds Tryz.pinned (.plain (OpenSpec.upto cargoNarrowsSpec)) cargoNarrowsUptoCard

/-- THE SECOND FORM's CARD OF 'laganlaw01.CargoReached'. -/
def cargoReachedUptoCard : Claim7 := { stood := { row := cargoReachedUptoRow, standIns := [], harness := (true, "abb6000d32fbe1c8babc94b43990f04b581041e3ed56d80ed12e316cb9912a99"), looks := true }, kinds := [], alts := [], laidByText := true, laidKinds := [.data, .data, .data, .data, .sentinel, .sentinel, .pinned], laidTests := true, laidLooks := .later }
def CargoReachedUptoCardSaid : Prop := Claim7.holds Tryz.pinned (.plain (OpenSpec.upto cargoReachedSpec)) cargoReachedUptoCard

/-- THE SECOND FORM's CARD OF 'laganlaw01.CargoManifests'. -/
def cargoManifestsUptoCard : Claim7 := { stood := { row := cargoManifestsUptoRow, standIns := [], harness := (true, "abb6000d32fbe1c8babc94b43990f04b581041e3ed56d80ed12e316cb9912a99"), looks := true }, kinds := [], alts := [], laidByText := true, laidKinds := [.data, .data, .data, .data, .sentinel, .sentinel, .pinned], laidTests := true, laidLooks := .later }
def CargoManifestsUptoCardSaid : Prop := Claim7.holds Tryz.pinned (.plain (OpenSpec.upto cargoManifestsSpec)) cargoManifestsUptoCard

/-- THE SECOND FORM's CARD OF 'laganlaw01.CargoEither'. -/
def cargoEitherUptoCard : Claim7 := { stood := { row := cargoEitherUptoRow, standIns := [], harness := (true, "abb6000d32fbe1c8babc94b43990f04b581041e3ed56d80ed12e316cb9912a99"), looks := true }, kinds := [], alts := [], laidByText := true, laidKinds := [.data, .data, .data, .data, .sentinel, .sentinel, .pinned], laidTests := true, laidLooks := .later }
def CargoEitherUptoCardSaid : Prop := Claim7.holds Tryz.pinned (.plain (OpenSpec.upto cargoEitherSpec)) cargoEitherUptoCard

/-- THE SECOND FORM's CARD OF 'laganlaw01.CargoCompletions'. -/
def cargoCompletionsUptoCard : Claim7 := { stood := { row := cargoCompletionsUptoRow, standIns := [], harness := (true, "abb6000d32fbe1c8babc94b43990f04b581041e3ed56d80ed12e316cb9912a99"), looks := true }, kinds := [], alts := [], laidByText := true, laidKinds := [.data, .data, .data, .data, .sentinel, .sentinel, .pinned], laidTests := true, laidLooks := .later }
def CargoCompletionsUptoCardSaid : Prop := Claim7.holds Tryz.pinned (.plain (OpenSpec.upto cargoCompletionsSpec)) cargoCompletionsUptoCard

/-- THE SECOND FORM's CARD OF 'laganlaw01.CargoSharp'. -/
def cargoSharpUptoCard : Claim7 := { stood := { row := cargoSharpUptoRow, standIns := [], harness := (true, "abb6000d32fbe1c8babc94b43990f04b581041e3ed56d80ed12e316cb9912a99"), looks := true }, kinds := [], alts := [], laidByText := true, laidKinds := [.data, .data, .data, .data, .sentinel, .sentinel, .pinned], laidTests := true, laidLooks := .later }
def CargoSharpUptoCardSaid : Prop := Claim7.holds Tryz.pinned (.plain (OpenSpec.upto cargoSharpSpec)) cargoSharpUptoCard
end Rows
end Go.Proofs.YtpffpofdceppiaaGreatDoor
