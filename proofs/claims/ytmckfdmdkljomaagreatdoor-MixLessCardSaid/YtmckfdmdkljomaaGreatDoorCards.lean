/-
  DERIVED. GIVEN WITH THE SEED: THE CARDS: each row of YtmckfdmdkljomaaGreatDoorRows.lean that lists a variable, with what it lists TIED to the program's text (the seventh form; the later family's looks); each row that meets fmt, with fmt's text TOLD by the authors' own Lean function (tested against real Go, not proved from fmt's source: count such statements apart). THE CARD IS WHAT COUNTS. Prove the row's statement (the work); the ties are given (YtmckfdmdkljomaaGreatDoorTie.lean); close each card by the builder's one call (the guide's Derived/Test/ToyasCard.lean, 'card_holds'). Laid BY PROGRAM, IN A SANDBOX (cutbox-door.mjs). By AI agents, Wed Nov 11 2026. No macro, syntax, notation, axiom, sorry.
-/
import Derived.Test.YtmckfdmdkljomaaGreatDoorRows
import GoSem.ClaimSeven
namespace Go.Proofs.YtmckfdmdkljomaaGreatDoor
namespace Rows

/-- THE TIED CARD OF 'dromondlaw17.MixMay'. -/
def mixMayCard : Claim7 := { stood := { row := mixMayRow, standIns := [], harness := (true, "de57befcba53ef8b14e761f0139ba3116e901196fa231822c183421ecb562c0e"), looks := true }, kinds := [], alts := [], laidByText := true, laidKinds := [.sentinel], laidTests := true, laidLooks := .later }
def MixMayCardSaid : Prop := Claim7.holds Tryz.pinned (.plain (OpenSpec.ofChange mixMaySpec)) mixMayCard

/-- THE TIED CARD OF 'dromondlaw17.MixKeeps'. -/
def mixKeepsCard : Claim7 := { stood := { row := mixKeepsRow, standIns := [], harness := (true, "de57befcba53ef8b14e761f0139ba3116e901196fa231822c183421ecb562c0e"), looks := true }, kinds := [], alts := [], laidByText := true, laidKinds := [.sentinel], laidTests := true, laidLooks := .later }
def MixKeepsCardSaid : Prop := Claim7.holds Tryz.pinned (.plain (OpenSpec.ofChange mixKeepsSpec)) mixKeepsCard

/-- THE TIED CARD OF 'dromondlaw17.MixOps'. -/
def mixOpsCard : Claim7 := { stood := { row := mixOpsRow, standIns := [], harness := (true, "de57befcba53ef8b14e761f0139ba3116e901196fa231822c183421ecb562c0e"), looks := true }, kinds := [], alts := [], laidByText := true, laidKinds := [.sentinel], laidTests := true, laidLooks := .later }
def MixOpsCardSaid : Prop := Claim7.holds Tryz.pinned (.plain (OpenSpec.ofChange mixOpsSpec)) mixOpsCard

/-- THE TIED CARD OF 'dromondlaw17.MixLess'. -/
def mixLessCard : Claim7 := { stood := { row := mixLessRow, standIns := [], harness := (true, "de57befcba53ef8b14e761f0139ba3116e901196fa231822c183421ecb562c0e"), looks := true }, kinds := [], alts := [], laidByText := true, laidKinds := [.sentinel], laidTests := true, laidLooks := .later }
def MixLessCardSaid : Prop := Claim7.holds Tryz.pinned (.plain (OpenSpec.ofChange mixLessSpec)) mixLessCard

/-- THE SECOND FORM's CARD OF 'dromondlaw17.MixMay'. -/
def mixMayUptoCard : Claim7 := { stood := { row := mixMayUptoRow, standIns := [], harness := (true, "de57befcba53ef8b14e761f0139ba3116e901196fa231822c183421ecb562c0e"), looks := true }, kinds := [], alts := [], laidByText := true, laidKinds := [.sentinel], laidTests := true, laidLooks := .later }
def MixMayUptoCardSaid : Prop := Claim7.holds Tryz.pinned (.plain (OpenSpec.upto mixMaySpec)) mixMayUptoCard

/-- THE SECOND FORM's CARD OF 'dromondlaw17.MixKeeps'. -/
def mixKeepsUptoCard : Claim7 := { stood := { row := mixKeepsUptoRow, standIns := [], harness := (true, "de57befcba53ef8b14e761f0139ba3116e901196fa231822c183421ecb562c0e"), looks := true }, kinds := [], alts := [], laidByText := true, laidKinds := [.sentinel], laidTests := true, laidLooks := .later }
def MixKeepsUptoCardSaid : Prop := Claim7.holds Tryz.pinned (.plain (OpenSpec.upto mixKeepsSpec)) mixKeepsUptoCard

/-- THE SECOND FORM's CARD OF 'dromondlaw17.MixOps'. -/
def mixOpsUptoCard : Claim7 := { stood := { row := mixOpsUptoRow, standIns := [], harness := (true, "de57befcba53ef8b14e761f0139ba3116e901196fa231822c183421ecb562c0e"), looks := true }, kinds := [], alts := [], laidByText := true, laidKinds := [.sentinel], laidTests := true, laidLooks := .later }
def MixOpsUptoCardSaid : Prop := Claim7.holds Tryz.pinned (.plain (OpenSpec.upto mixOpsSpec)) mixOpsUptoCard

/-- THE SECOND FORM's CARD OF 'dromondlaw17.MixLess'. -/
def mixLessUptoCard : Claim7 := { stood := { row := mixLessUptoRow, standIns := [], harness := (true, "de57befcba53ef8b14e761f0139ba3116e901196fa231822c183421ecb562c0e"), looks := true }, kinds := [], alts := [], laidByText := true, laidKinds := [.sentinel], laidTests := true, laidLooks := .later }
def MixLessUptoCardSaid : Prop := Claim7.holds Tryz.pinned (.plain (OpenSpec.upto mixLessSpec)) mixLessUptoCard
end Rows
end Go.Proofs.YtmckfdmdkljomaaGreatDoor
