/-
  DERIVED. GIVEN WITH THE SEED: THE CARDS: each row of YtkmcjokoinoahaaDoorRows.lean that lists a variable, with what it lists TIED to the program's text (the seventh form; the later family's looks); each row that meets fmt, with fmt's text TOLD by the authors' own Lean function (tested against real Go, not proved from fmt's source: count such statements apart). THE CARD IS WHAT COUNTS. Prove the row's statement (the work); the ties are given (YtkmcjokoinoahaaDoorTie.lean); close each card by the builder's one call (the guide's Derived/Test/ToyasCard.lean, 'card_holds'). Laid BY PROGRAM, IN A SANDBOX (cutbox-door.mjs). By AI agents, Wed Nov 11 2026. No macro, syntax, notation, axiom, sorry.
-/
import Derived.Test.YtkmcjokoinoahaaDoorRows
import GoSem.ClaimSeven
namespace Go.Proofs.YtkmcjokoinoahaaDoor
namespace Rows

/-- THE TIED CARD OF 'ferrymanlaw03.FaultCodes'. -/
def faultCodesCard : Claim7 := { stood := { row := faultCodesRow, standIns := [], harness := (true, "4f2645701d6a5b16799d0bce8508887660c6967fd2a23c37673c7cf6b40da2d5"), looks := true }, kinds := [], alts := [], laidByText := true, laidKinds := [.handle], laidTests := true, laidLooks := .later }
def FaultCodesCardSaid : Prop := Claim7.holds Tryd.pinned (.plain (OpenSpec.ofChange faultCodesSpec)) faultCodesCard

/-- THE TIED CARD OF 'ferrymanlaw03.FaultWhere'. -/
def faultWhereCard : Claim7 := { stood := { row := faultWhereRow, standIns := [], harness := (true, "4f2645701d6a5b16799d0bce8508887660c6967fd2a23c37673c7cf6b40da2d5"), looks := true }, kinds := [], alts := [], laidByText := true, laidKinds := [.handle], laidTests := true, laidLooks := .later }
def FaultWhereCardSaid : Prop := Claim7.holds Tryd.pinned (.plain (OpenSpec.ofChange faultWhereSpec)) faultWhereCard

/-- THE TIED CARD OF 'ferrymanlaw03.FaultNone'. -/
def faultNoneCard : Claim7 := { stood := { row := faultNoneRow, standIns := [], harness := (true, "4f2645701d6a5b16799d0bce8508887660c6967fd2a23c37673c7cf6b40da2d5"), looks := true }, kinds := [], alts := [], laidByText := true, laidKinds := [.handle], laidTests := true, laidLooks := .later }
def FaultNoneCardSaid : Prop := Claim7.holds Tryd.pinned (.plain (OpenSpec.ofChange faultNoneSpec)) faultNoneCard

/-- THE TIED CARD OF 'ferrymanlaw03.FaultSteps'. -/
def faultStepsCard : Claim7 := { stood := { row := faultStepsRow, standIns := [], harness := (true, "4f2645701d6a5b16799d0bce8508887660c6967fd2a23c37673c7cf6b40da2d5"), looks := true }, kinds := [], alts := [], laidByText := true, laidKinds := [.handle], laidTests := true, laidLooks := .later }
def FaultStepsCardSaid : Prop := Claim7.holds Tryd.pinned (.plain (OpenSpec.ofChange faultStepsSpec)) faultStepsCard

/-- THE TIED CARD OF 'ferrymanlaw03.FaultIs'. -/
def faultIsCard : Claim7 := { stood := { row := faultIsRow, standIns := [], harness := (true, "4f2645701d6a5b16799d0bce8508887660c6967fd2a23c37673c7cf6b40da2d5"), looks := true }, kinds := [], alts := [], laidByText := true, laidKinds := [.handle], laidTests := true, laidLooks := .later }
def FaultIsCardSaid : Prop := Claim7.holds Tryd.pinned (.plain (OpenSpec.ofChange faultIsSpec)) faultIsCard

/-- THE TIED CARD OF 'ferrymanlaw03.FaultMore'. -/
def faultMoreCard : Claim7 := { stood := { row := faultMoreRow, standIns := [], harness := (true, "4f2645701d6a5b16799d0bce8508887660c6967fd2a23c37673c7cf6b40da2d5"), looks := true }, kinds := [], alts := [], laidByText := true, laidKinds := [.handle], laidTests := true, laidLooks := .later }
def FaultMoreCardSaid : Prop := Claim7.holds Tryd.pinned (.plain (OpenSpec.ofChange faultMoreSpec)) faultMoreCard

/-- THE TIED CARD OF 'ferrymanlaw11.ClientRuns'. -/
def clientRunsCard : Claim7 := { stood := { row := clientRunsRow, standIns := [], harness := (true, "4f2645701d6a5b16799d0bce8508887660c6967fd2a23c37673c7cf6b40da2d5"), looks := true }, kinds := [], alts := [], laidByText := true, laidKinds := [.data, .data, .handle], laidTests := true, laidLooks := .later }
def ClientRunsCardSaid : Prop := Claim7.holds Tryd.pinned (.plain (OpenSpec.ofChange clientRunsSpec)) clientRunsCard

/-- THE TIED CARD OF 'ferrymanlaw11.ClientFreezes'. -/
def clientFreezesCard : Claim7 := { stood := { row := clientFreezesRow, standIns := [], harness := (true, "4f2645701d6a5b16799d0bce8508887660c6967fd2a23c37673c7cf6b40da2d5"), looks := true }, kinds := [], alts := [], laidByText := true, laidKinds := [.data, .data, .handle], laidTests := true, laidLooks := .later }
def ClientFreezesCardSaid : Prop := Claim7.holds Tryd.pinned (.plain (OpenSpec.ofChange clientFreezesSpec)) clientFreezesCard

/-- THE TIED CARD OF 'ferrymanlaw11.ClientRefuses'. -/
def clientRefusesCard : Claim7 := { stood := { row := clientRefusesRow, standIns := [], harness := (true, "4f2645701d6a5b16799d0bce8508887660c6967fd2a23c37673c7cf6b40da2d5"), looks := true }, kinds := [], alts := [], laidByText := true, laidKinds := [.data, .data, .handle], laidTests := true, laidLooks := .later }
def ClientRefusesCardSaid : Prop := Claim7.holds Tryd.pinned (.plain (OpenSpec.ofChange clientRefusesSpec)) clientRefusesCard

/-- THE TIED CARD OF 'ferrymanlaw11.ClientPlays'. -/
def clientPlaysCard : Claim7 := { stood := { row := clientPlaysRow, standIns := [], harness := (true, "4f2645701d6a5b16799d0bce8508887660c6967fd2a23c37673c7cf6b40da2d5"), looks := true }, kinds := [], alts := [], laidByText := true, laidKinds := [.data, .data, .handle], laidTests := true, laidLooks := .later }
def ClientPlaysCardSaid : Prop := Claim7.holds Tryd.pinned (.plain (OpenSpec.ofChange clientPlaysSpec)) clientPlaysCard

/-- THE TIED CARD OF 'ferrymanlaw11.ClientNil'. -/
def clientNilCard : Claim7 := { stood := { row := clientNilRow, standIns := [], harness := (true, "4f2645701d6a5b16799d0bce8508887660c6967fd2a23c37673c7cf6b40da2d5"), looks := true }, kinds := [], alts := [], laidByText := true, laidKinds := [.data, .handle], laidTests := true, laidLooks := .later }
def ClientNilCardSaid : Prop := Claim7.holds Tryd.pinned (.plain (OpenSpec.ofChange clientNilSpec)) clientNilCard

/-- THE TIED CARD OF 'ferrymanlaw15.WordsFew'. -/
def wordsFewCard : Claim7 := { stood := { row := wordsFewRow, standIns := [], harness := (true, "4f2645701d6a5b16799d0bce8508887660c6967fd2a23c37673c7cf6b40da2d5"), looks := true }, kinds := [], alts := [], laidByText := true, laidKinds := [.data], laidTests := true, laidLooks := .later }
def WordsFewCardSaid : Prop := Claim7.holds Tryd.pinned (.plain (OpenSpec.ofChange wordsFewSpec)) wordsFewCard

/-- THE TIED CARD OF 'ferrymanlaw15.WordsSets'. -/
def wordsSetsCard : Claim7 := { stood := { row := wordsSetsRow, standIns := [], harness := (true, "4f2645701d6a5b16799d0bce8508887660c6967fd2a23c37673c7cf6b40da2d5"), looks := true }, kinds := [], alts := [], laidByText := true, laidKinds := [.data], laidTests := true, laidLooks := .later }
def WordsSetsCardSaid : Prop := Claim7.holds Tryd.pinned (.plain (OpenSpec.ofChange wordsSetsSpec)) wordsSetsCard

/-- THE TIED CARD OF 'ferrymanlaw15.WordsPlays'. -/
def wordsPlaysCard : Claim7 := { stood := { row := wordsPlaysRow, standIns := [], harness := (true, "4f2645701d6a5b16799d0bce8508887660c6967fd2a23c37673c7cf6b40da2d5"), looks := true }, kinds := [], alts := [], laidByText := true, laidKinds := [.data], laidTests := true, laidLooks := .later }
def WordsPlaysCardSaid : Prop := Claim7.holds Tryd.pinned (.plain (OpenSpec.ofChange wordsPlaysSpec)) wordsPlaysCard

/-- THE TIED CARD OF 'ferrymanlaw15.WordsNil'. -/
def wordsNilCard : Claim7 := { stood := { row := wordsNilRow, standIns := [], harness := (true, "4f2645701d6a5b16799d0bce8508887660c6967fd2a23c37673c7cf6b40da2d5"), looks := true }, kinds := [], alts := [], laidByText := true, laidKinds := [.data], laidTests := true, laidLooks := .later }
def WordsNilCardSaid : Prop := Claim7.holds Tryd.pinned (.plain (OpenSpec.ofChange wordsNilSpec)) wordsNilCard

/-- THE SECOND FORM's CARD OF 'ferrymanlaw03.FaultCodes'. -/
def faultCodesUptoCard : Claim7 := { stood := { row := faultCodesUptoRow, standIns := [], harness := (true, "4f2645701d6a5b16799d0bce8508887660c6967fd2a23c37673c7cf6b40da2d5"), looks := true }, kinds := [], alts := [], laidByText := true, laidKinds := [.handle], laidTests := true, laidLooks := .later }
def FaultCodesUptoCardSaid : Prop := Claim7.holds Tryd.pinned (.plain (OpenSpec.upto faultCodesSpec)) faultCodesUptoCard

/-- THE SECOND FORM's CARD OF 'ferrymanlaw03.FaultWhere'. -/
def faultWhereUptoCard : Claim7 := { stood := { row := faultWhereUptoRow, standIns := [], harness := (true, "4f2645701d6a5b16799d0bce8508887660c6967fd2a23c37673c7cf6b40da2d5"), looks := true }, kinds := [], alts := [], laidByText := true, laidKinds := [.handle], laidTests := true, laidLooks := .later }
def FaultWhereUptoCardSaid : Prop := Claim7.holds Tryd.pinned (.plain (OpenSpec.upto faultWhereSpec)) faultWhereUptoCard

/-- THE SECOND FORM's CARD OF 'ferrymanlaw03.FaultNone'. -/
def faultNoneUptoCard : Claim7 := { stood := { row := faultNoneUptoRow, standIns := [], harness := (true, "4f2645701d6a5b16799d0bce8508887660c6967fd2a23c37673c7cf6b40da2d5"), looks := true }, kinds := [], alts := [], laidByText := true, laidKinds := [.handle], laidTests := true, laidLooks := .later }
def FaultNoneUptoCardSaid : Prop := Claim7.holds Tryd.pinned (.plain (OpenSpec.upto faultNoneSpec)) faultNoneUptoCard

/-- THE SECOND FORM's CARD OF 'ferrymanlaw03.FaultSteps'. -/
def faultStepsUptoCard : Claim7 := { stood := { row := faultStepsUptoRow, standIns := [], harness := (true, "4f2645701d6a5b16799d0bce8508887660c6967fd2a23c37673c7cf6b40da2d5"), looks := true }, kinds := [], alts := [], laidByText := true, laidKinds := [.handle], laidTests := true, laidLooks := .later }
def FaultStepsUptoCardSaid : Prop := Claim7.holds Tryd.pinned (.plain (OpenSpec.upto faultStepsSpec)) faultStepsUptoCard

/-- THE SECOND FORM's CARD OF 'ferrymanlaw03.FaultIs'. -/
def faultIsUptoCard : Claim7 := { stood := { row := faultIsUptoRow, standIns := [], harness := (true, "4f2645701d6a5b16799d0bce8508887660c6967fd2a23c37673c7cf6b40da2d5"), looks := true }, kinds := [], alts := [], laidByText := true, laidKinds := [.handle], laidTests := true, laidLooks := .later }
def FaultIsUptoCardSaid : Prop := Claim7.holds Tryd.pinned (.plain (OpenSpec.upto faultIsSpec)) faultIsUptoCard

/-- THE SECOND FORM's CARD OF 'ferrymanlaw03.FaultMore'. -/
def faultMoreUptoCard : Claim7 := { stood := { row := faultMoreUptoRow, standIns := [], harness := (true, "4f2645701d6a5b16799d0bce8508887660c6967fd2a23c37673c7cf6b40da2d5"), looks := true }, kinds := [], alts := [], laidByText := true, laidKinds := [.handle], laidTests := true, laidLooks := .later }
def FaultMoreUptoCardSaid : Prop := Claim7.holds Tryd.pinned (.plain (OpenSpec.upto faultMoreSpec)) faultMoreUptoCard

/-- THE SECOND FORM's CARD OF 'ferrymanlaw11.ClientRuns'. -/
def clientRunsUptoCard : Claim7 := { stood := { row := clientRunsUptoRow, standIns := [], harness := (true, "4f2645701d6a5b16799d0bce8508887660c6967fd2a23c37673c7cf6b40da2d5"), looks := true }, kinds := [], alts := [], laidByText := true, laidKinds := [.data, .data, .handle], laidTests := true, laidLooks := .later }
def ClientRunsUptoCardSaid : Prop := Claim7.holds Tryd.pinned (.plain (OpenSpec.upto clientRunsSpec)) clientRunsUptoCard

/-- THE SECOND FORM's CARD OF 'ferrymanlaw11.ClientFreezes'. -/
def clientFreezesUptoCard : Claim7 := { stood := { row := clientFreezesUptoRow, standIns := [], harness := (true, "4f2645701d6a5b16799d0bce8508887660c6967fd2a23c37673c7cf6b40da2d5"), looks := true }, kinds := [], alts := [], laidByText := true, laidKinds := [.data, .data, .handle], laidTests := true, laidLooks := .later }
def ClientFreezesUptoCardSaid : Prop := Claim7.holds Tryd.pinned (.plain (OpenSpec.upto clientFreezesSpec)) clientFreezesUptoCard

/-- THE SECOND FORM's CARD OF 'ferrymanlaw11.ClientRefuses'. -/
def clientRefusesUptoCard : Claim7 := { stood := { row := clientRefusesUptoRow, standIns := [], harness := (true, "4f2645701d6a5b16799d0bce8508887660c6967fd2a23c37673c7cf6b40da2d5"), looks := true }, kinds := [], alts := [], laidByText := true, laidKinds := [.data, .data, .handle], laidTests := true, laidLooks := .later }
def ClientRefusesUptoCardSaid : Prop := Claim7.holds Tryd.pinned (.plain (OpenSpec.upto clientRefusesSpec)) clientRefusesUptoCard

/-- THE SECOND FORM's CARD OF 'ferrymanlaw11.ClientPlays'. -/
def clientPlaysUptoCard : Claim7 := { stood := { row := clientPlaysUptoRow, standIns := [], harness := (true, "4f2645701d6a5b16799d0bce8508887660c6967fd2a23c37673c7cf6b40da2d5"), looks := true }, kinds := [], alts := [], laidByText := true, laidKinds := [.data, .data, .handle], laidTests := true, laidLooks := .later }
def ClientPlaysUptoCardSaid : Prop := Claim7.holds Tryd.pinned (.plain (OpenSpec.upto clientPlaysSpec)) clientPlaysUptoCard

/-- THE SECOND FORM's CARD OF 'ferrymanlaw11.ClientNil'. -/
def clientNilUptoCard : Claim7 := { stood := { row := clientNilUptoRow, standIns := [], harness := (true, "4f2645701d6a5b16799d0bce8508887660c6967fd2a23c37673c7cf6b40da2d5"), looks := true }, kinds := [], alts := [], laidByText := true, laidKinds := [.data, .handle], laidTests := true, laidLooks := .later }
def ClientNilUptoCardSaid : Prop := Claim7.holds Tryd.pinned (.plain (OpenSpec.upto clientNilSpec)) clientNilUptoCard

/-- THE SECOND FORM's CARD OF 'ferrymanlaw15.WordsFew'. -/
def wordsFewUptoCard : Claim7 := { stood := { row := wordsFewUptoRow, standIns := [], harness := (true, "4f2645701d6a5b16799d0bce8508887660c6967fd2a23c37673c7cf6b40da2d5"), looks := true }, kinds := [], alts := [], laidByText := true, laidKinds := [.data], laidTests := true, laidLooks := .later }
def WordsFewUptoCardSaid : Prop := Claim7.holds Tryd.pinned (.plain (OpenSpec.upto wordsFewSpec)) wordsFewUptoCard

/-- THE SECOND FORM's CARD OF 'ferrymanlaw15.WordsSets'. -/
def wordsSetsUptoCard : Claim7 := { stood := { row := wordsSetsUptoRow, standIns := [], harness := (true, "4f2645701d6a5b16799d0bce8508887660c6967fd2a23c37673c7cf6b40da2d5"), looks := true }, kinds := [], alts := [], laidByText := true, laidKinds := [.data], laidTests := true, laidLooks := .later }
def WordsSetsUptoCardSaid : Prop := Claim7.holds Tryd.pinned (.plain (OpenSpec.upto wordsSetsSpec)) wordsSetsUptoCard

/-- THE SECOND FORM's CARD OF 'ferrymanlaw15.WordsPlays'. -/
def wordsPlaysUptoCard : Claim7 := { stood := { row := wordsPlaysUptoRow, standIns := [], harness := (true, "4f2645701d6a5b16799d0bce8508887660c6967fd2a23c37673c7cf6b40da2d5"), looks := true }, kinds := [], alts := [], laidByText := true, laidKinds := [.data], laidTests := true, laidLooks := .later }
def WordsPlaysUptoCardSaid : Prop := Claim7.holds Tryd.pinned (.plain (OpenSpec.upto wordsPlaysSpec)) wordsPlaysUptoCard

/-- THE SECOND FORM's CARD OF 'ferrymanlaw15.WordsNil'. -/
def wordsNilUptoCard : Claim7 := { stood := { row := wordsNilUptoRow, standIns := [], harness := (true, "4f2645701d6a5b16799d0bce8508887660c6967fd2a23c37673c7cf6b40da2d5"), looks := true }, kinds := [], alts := [], laidByText := true, laidKinds := [.data], laidTests := true, laidLooks := .later }
def WordsNilUptoCardSaid : Prop := Claim7.holds Tryd.pinned (.plain (OpenSpec.upto wordsNilSpec)) wordsNilUptoCard
end Rows
end Go.Proofs.YtkmcjokoinoahaaDoor
