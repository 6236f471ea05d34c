/-
  DERIVED. GIVEN WITH THE SEED: THE CARDS: each row of YtelplojmbjnplaaGreatDoorRows.lean that lists a variable, with what it lists TIED to the program's text (the seventh form; the later family's looks); each row that meets fmt, with fmt's text TOLD by the authors' own Lean function (tested against real Go, not proved from fmt's source: count such statements apart). THE CARD IS WHAT COUNTS. Prove the row's statement (the work); the ties are given (YtelplojmbjnplaaGreatDoorTie.lean); close each card by the builder's one call (the guide's Derived/Test/ToyasCard.lean, 'card_holds'). Laid BY PROGRAM, IN A SANDBOX (cutbox-door.mjs). By AI agents, Wed Nov 11 2026. No macro, syntax, notation, axiom, sorry.
-/
import Derived.Test.YtelplojmbjnplaaGreatDoorRows
import GoSem.ClaimSeven
namespace Go.Proofs.YtelplojmbjnplaaGreatDoor
namespace Rows

/-- THE TIED CARD OF 'lyceumlaw14.SessionTurns'. -/
def sessionTurnsCard : Claim7 := { stood := { row := sessionTurnsRow, standIns := [], harness := (true, "49d5646f4cdfbe10e1504451e6d7adcede6fe5ad945e13145948fbde3ce20fd9"), looks := true }, kinds := [], alts := [], laidByText := true, laidKinds := [.handle], laidTests := true, laidLooks := .later }
def SessionTurnsCardSaid : Prop := Claim7.holds Tryz.pinned (.plain (OpenSpec.ofChange sessionTurnsSpec)) sessionTurnsCard

/-- THE TIED CARD OF 'lyceumlaw14.SessionRefuses'. -/
def sessionRefusesCard : Claim7 := { stood := { row := sessionRefusesRow, standIns := [], harness := (true, "49d5646f4cdfbe10e1504451e6d7adcede6fe5ad945e13145948fbde3ce20fd9"), looks := true }, kinds := [], alts := [], laidByText := true, laidKinds := [.handle], laidTests := true, laidLooks := .later }
def SessionRefusesCardSaid : Prop := Claim7.holds Tryz.pinned (.plain (OpenSpec.ofChange sessionRefusesSpec)) sessionRefusesCard

/-- THE TIED CARD OF 'lyceumlaw14.SessionTypes'. -/
def sessionTypesCard : Claim7 := { stood := { row := sessionTypesRow, standIns := [], harness := (true, "49d5646f4cdfbe10e1504451e6d7adcede6fe5ad945e13145948fbde3ce20fd9"), looks := true }, kinds := [], alts := [], laidByText := true, laidKinds := [.handle], laidTests := true, laidLooks := .later }
def SessionTypesCardSaid : Prop := Claim7.holds Tryz.pinned (.plain (OpenSpec.ofChange sessionTypesSpec)) sessionTypesCard

/-- THE TIED CARD OF 'lyceumlaw14.SessionFits'. -/
def sessionFitsCard : Claim7 := { stood := { row := sessionFitsRow, standIns := [], harness := (true, "49d5646f4cdfbe10e1504451e6d7adcede6fe5ad945e13145948fbde3ce20fd9"), looks := true }, kinds := [], alts := [], laidByText := true, laidKinds := [.handle], laidTests := true, laidLooks := .later }
def SessionFitsCardSaid : Prop := Claim7.holds Tryz.pinned (.plain (OpenSpec.ofChange sessionFitsSpec)) sessionFitsCard

/-- THE TIED CARD OF 'lyceumlaw14.SessionWindows'. -/
def sessionWindowsCard : Claim7 := { stood := { row := sessionWindowsRow, standIns := [], harness := (true, "49d5646f4cdfbe10e1504451e6d7adcede6fe5ad945e13145948fbde3ce20fd9"), looks := true }, kinds := [], alts := [], laidByText := true, laidKinds := [.handle], laidTests := true, laidLooks := .later }
def SessionWindowsCardSaid : Prop := Claim7.holds Tryz.pinned (.plain (OpenSpec.ofChange sessionWindowsSpec)) sessionWindowsCard

/-- THE SECOND FORM's CARD OF 'lyceumlaw14.SessionTurns'. -/
def sessionTurnsUptoCard : Claim7 := { stood := { row := sessionTurnsUptoRow, standIns := [], harness := (true, "49d5646f4cdfbe10e1504451e6d7adcede6fe5ad945e13145948fbde3ce20fd9"), looks := true }, kinds := [], alts := [], laidByText := true, laidKinds := [.handle], laidTests := true, laidLooks := .later }
def SessionTurnsUptoCardSaid : Prop := Claim7.holds Tryz.pinned (.plain (OpenSpec.upto sessionTurnsSpec)) sessionTurnsUptoCard

/-- THE SECOND FORM's CARD OF 'lyceumlaw14.SessionRefuses'. -/
def sessionRefusesUptoCard : Claim7 := { stood := { row := sessionRefusesUptoRow, standIns := [], harness := (true, "49d5646f4cdfbe10e1504451e6d7adcede6fe5ad945e13145948fbde3ce20fd9"), looks := true }, kinds := [], alts := [], laidByText := true, laidKinds := [.handle], laidTests := true, laidLooks := .later }
def SessionRefusesUptoCardSaid : Prop := Claim7.holds Tryz.pinned (.plain (OpenSpec.upto sessionRefusesSpec)) sessionRefusesUptoCard

/-- THE SECOND FORM's CARD OF 'lyceumlaw14.SessionTypes'. -/
def sessionTypesUptoCard : Claim7 := { stood := { row := sessionTypesUptoRow, standIns := [], harness := (true, "49d5646f4cdfbe10e1504451e6d7adcede6fe5ad945e13145948fbde3ce20fd9"), looks := true }, kinds := [], alts := [], laidByText := true, laidKinds := [.handle], laidTests := true, laidLooks := .later }
def SessionTypesUptoCardSaid : Prop := Claim7.holds Tryz.pinned (.plain (OpenSpec.upto sessionTypesSpec)) sessionTypesUptoCard

/-- THE SECOND FORM's CARD OF 'lyceumlaw14.SessionFits'. -/
def sessionFitsUptoCard : Claim7 := { stood := { row := sessionFitsUptoRow, standIns := [], harness := (true, "49d5646f4cdfbe10e1504451e6d7adcede6fe5ad945e13145948fbde3ce20fd9"), looks := true }, kinds := [], alts := [], laidByText := true, laidKinds := [.handle], laidTests := true, laidLooks := .later }
def SessionFitsUptoCardSaid : Prop := Claim7.holds Tryz.pinned (.plain (OpenSpec.upto sessionFitsSpec)) sessionFitsUptoCard

/-- THE SECOND FORM's CARD OF 'lyceumlaw14.SessionWindows'. -/
def sessionWindowsUptoCard : Claim7 := { stood := { row := sessionWindowsUptoRow, standIns := [], harness := (true, "49d5646f4cdfbe10e1504451e6d7adcede6fe5ad945e13145948fbde3ce20fd9"), looks := true }, kinds := [], alts := [], laidByText := true, laidKinds := [.handle], laidTests := true, laidLooks := .later }
def SessionWindowsUptoCardSaid : Prop := Claim7.holds Tryz.pinned (.plain (OpenSpec.upto sessionWindowsSpec)) sessionWindowsUptoCard
end Rows
end Go.Proofs.YtelplojmbjnplaaGreatDoor
