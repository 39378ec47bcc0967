/-
  DERIVED. GIVEN WITH THE SEED: THE CARDS: each row of YtcnfggpcploehaaDoorRows.lean that lists a variable, with what it lists TIED to the program's text (the seventh form; the later family's looks); each row that meets fmt, with fmt's text TOLD by the authors' own Lean function (tested against real Go, not proved from fmt's source: count such statements apart). THE CARD IS WHAT COUNTS. Prove the row's statement (the work); the ties are given (YtcnfggpcploehaaDoorTie.lean); close each card by the builder's one call (the guide's Derived/Test/ToyasCard.lean, 'card_holds'). Laid BY PROGRAM, IN A SANDBOX (cutbox-door.mjs). By AI agents, Wed Nov 11 2026. No macro, syntax, notation, axiom, sorry.
-/
import Derived.Test.YtcnfggpcploehaaDoorRows
import GoSem.ClaimSeven
namespace Go.Proofs.YtcnfggpcploehaaDoor
namespace Rows

/-- THE TIED CARD OF 'waypointlaw26.PqUses'. -/
def pqUsesCard : Claim7 := { stood := { row := pqUsesRow, standIns := [], harness := (true, "3e10eb31cb2f77e75646210467dbe1df319426fed65d8d93e2bb75aa7b1f4759"), looks := false }, kinds := [], alts := [], laidByText := true, laidKinds := [.data], laidTests := true, laidLooks := .later }
def PqUsesCardSaid : Prop := Claim7.holds Tryd.pinned (.plain (OpenSpec.ofChange pqUsesSpec)) pqUsesCard

/-- THE TIED CARD OF 'waypointlaw26.PqAffected'. -/
def pqAffectedCard : Claim7 := { stood := { row := pqAffectedRow, standIns := [], harness := (true, "3e10eb31cb2f77e75646210467dbe1df319426fed65d8d93e2bb75aa7b1f4759"), looks := false }, kinds := [], alts := [], laidByText := true, laidKinds := [.data], laidTests := true, laidLooks := .later }
def PqAffectedCardSaid : Prop := Claim7.holds Tryd.pinned (.plain (OpenSpec.ofChange pqAffectedSpec)) pqAffectedCard

/-- THE TIED CARD OF 'waypointlaw26.PqParts'. -/
def pqPartsCard : Claim7 := { stood := { row := pqPartsRow, standIns := [], harness := (true, "3e10eb31cb2f77e75646210467dbe1df319426fed65d8d93e2bb75aa7b1f4759"), looks := false }, kinds := [], alts := [], laidByText := true, laidKinds := [.data], laidTests := true, laidLooks := .later }
def PqPartsCardSaid : Prop := Claim7.holds Tryd.pinned (.plain (OpenSpec.ofChange pqPartsSpec)) pqPartsCard

/-- THE TIED CARD OF 'waypointlaw26.PqStays'. -/
def pqStaysCard : Claim7 := { stood := { row := pqStaysRow, standIns := [], harness := (true, "3e10eb31cb2f77e75646210467dbe1df319426fed65d8d93e2bb75aa7b1f4759"), looks := false }, kinds := [], alts := [], laidByText := true, laidKinds := [.data], laidTests := true, laidLooks := .later }
def PqStaysCardSaid : Prop := Claim7.holds Tryd.pinned (.plain (OpenSpec.ofChange pqStaysSpec)) pqStaysCard

/-- THE TIED CARD OF 'waypointlaw26.PqTwo'. -/
def pqTwoCard : Claim7 := { stood := { row := pqTwoRow, standIns := [], harness := (true, "3e10eb31cb2f77e75646210467dbe1df319426fed65d8d93e2bb75aa7b1f4759"), looks := false }, kinds := [], alts := [], laidByText := true, laidKinds := [.data], laidTests := true, laidLooks := .later }
def PqTwoCardSaid : Prop := Claim7.holds Tryd.pinned (.plain (OpenSpec.ofChange pqTwoSpec)) pqTwoCard

/-- THE TIED CARD OF 'waypointlaw26.PqExtended'. -/
def pqExtendedCard : Claim7 := { stood := { row := pqExtendedRow, standIns := [], harness := (true, "3e10eb31cb2f77e75646210467dbe1df319426fed65d8d93e2bb75aa7b1f4759"), looks := false }, kinds := [], alts := [], laidByText := true, laidKinds := [.data], laidTests := true, laidLooks := .later }
def PqExtendedCardSaid : Prop := Claim7.holds Tryd.pinned (.plain (OpenSpec.ofChange pqExtendedSpec)) pqExtendedCard

/-- THE SECOND FORM's CARD OF 'waypointlaw26.PqUses'. -/
def pqUsesUptoCard : Claim7 := { stood := { row := pqUsesUptoRow, standIns := [], harness := (true, "3e10eb31cb2f77e75646210467dbe1df319426fed65d8d93e2bb75aa7b1f4759"), looks := false }, kinds := [], alts := [], laidByText := true, laidKinds := [.data], laidTests := true, laidLooks := .later }
def PqUsesUptoCardSaid : Prop := Claim7.holds Tryd.pinned (.plain (OpenSpec.upto pqUsesSpec)) pqUsesUptoCard

/-- THE SECOND FORM's CARD OF 'waypointlaw26.PqAffected'. -/
def pqAffectedUptoCard : Claim7 := { stood := { row := pqAffectedUptoRow, standIns := [], harness := (true, "3e10eb31cb2f77e75646210467dbe1df319426fed65d8d93e2bb75aa7b1f4759"), looks := false }, kinds := [], alts := [], laidByText := true, laidKinds := [.data], laidTests := true, laidLooks := .later }
def PqAffectedUptoCardSaid : Prop := Claim7.holds Tryd.pinned (.plain (OpenSpec.upto pqAffectedSpec)) pqAffectedUptoCard

/-- THE SECOND FORM's CARD OF 'waypointlaw26.PqParts'. -/
def pqPartsUptoCard : Claim7 := { stood := { row := pqPartsUptoRow, standIns := [], harness := (true, "3e10eb31cb2f77e75646210467dbe1df319426fed65d8d93e2bb75aa7b1f4759"), looks := false }, kinds := [], alts := [], laidByText := true, laidKinds := [.data], laidTests := true, laidLooks := .later }
def PqPartsUptoCardSaid : Prop := Claim7.holds Tryd.pinned (.plain (OpenSpec.upto pqPartsSpec)) pqPartsUptoCard

/-- THE SECOND FORM's CARD OF 'waypointlaw26.PqStays'. -/
def pqStaysUptoCard : Claim7 := { stood := { row := pqStaysUptoRow, standIns := [], harness := (true, "3e10eb31cb2f77e75646210467dbe1df319426fed65d8d93e2bb75aa7b1f4759"), looks := false }, kinds := [], alts := [], laidByText := true, laidKinds := [.data], laidTests := true, laidLooks := .later }
def PqStaysUptoCardSaid : Prop := Claim7.holds Tryd.pinned (.plain (OpenSpec.upto pqStaysSpec)) pqStaysUptoCard

/-- THE SECOND FORM's CARD OF 'waypointlaw26.PqTwo'. -/
def pqTwoUptoCard : Claim7 := { stood := { row := pqTwoUptoRow, standIns := [], harness := (true, "3e10eb31cb2f77e75646210467dbe1df319426fed65d8d93e2bb75aa7b1f4759"), looks := false }, kinds := [], alts := [], laidByText := true, laidKinds := [.data], laidTests := true, laidLooks := .later }
def PqTwoUptoCardSaid : Prop := Claim7.holds Tryd.pinned (.plain (OpenSpec.upto pqTwoSpec)) pqTwoUptoCard

/-- THE SECOND FORM's CARD OF 'waypointlaw26.PqExtended'. -/
def pqExtendedUptoCard : Claim7 := { stood := { row := pqExtendedUptoRow, standIns := [], harness := (true, "3e10eb31cb2f77e75646210467dbe1df319426fed65d8d93e2bb75aa7b1f4759"), looks := false }, kinds := [], alts := [], laidByText := true, laidKinds := [.data], laidTests := true, laidLooks := .later }
def PqExtendedUptoCardSaid : Prop := Claim7.holds Tryd.pinned (.plain (OpenSpec.upto pqExtendedSpec)) pqExtendedUptoCard
end Rows
end Go.Proofs.YtcnfggpcploehaaDoor
