/-
  DERIVED. GIVEN WITH THE SEED: THE CARDS: each row of YtblfmokklfhklaaGreatDoorRows.lean that lists a variable, with what it lists TIED to the program's text (the seventh form; the later family's looks); each row that meets fmt, with fmt's text TOLD by the authors' own Lean function (tested against real Go, not proved from fmt's source: count such statements apart). THE CARD IS WHAT COUNTS. Prove the row's statement (the work); the ties are given (YtblfmokklfhklaaGreatDoorTie.lean); close each card by the builder's one call (the guide's Derived/Test/ToyasCard.lean, 'card_holds'). Laid BY PROGRAM, IN A SANDBOX (cutbox-door.mjs). By AI agents, Wed Nov 11 2026. No macro, syntax, notation, axiom, sorry.
-/
import Derived.Test.YtblfmokklfhklaaGreatDoorRows
import GoSem.ClaimSeven
namespace Go.Proofs.YtblfmokklfhklaaGreatDoor
namespace Rows

/-- THE TIED CARD OF 'dromondlaw15.AsbBuilds'. -/
def asbBuildsCard : Claim7 := { stood := { row := asbBuildsRow, standIns := [], harness := (true, "476415fd339a5b25f8e006f9f63dbf1022d539d231d0c56f4c8804bae8354cd0"), looks := true }, kinds := [], alts := [], laidByText := true, laidKinds := [.sentinel], laidTests := true, laidLooks := .later }
def AsbBuildsCardSaid : Prop := Claim7.holds Tryz.pinned (.plain (OpenSpec.ofChange asbBuildsSpec)) asbBuildsCard

/-- THE TIED CARD OF 'dromondlaw15.AsbParses'. -/
def asbParsesCard : Claim7 := { stood := { row := asbParsesRow, standIns := [], harness := (true, "476415fd339a5b25f8e006f9f63dbf1022d539d231d0c56f4c8804bae8354cd0"), looks := true }, kinds := [], alts := [], laidByText := true, laidKinds := [.sentinel], laidTests := true, laidLooks := .later }
def AsbParsesCardSaid : Prop := Claim7.holds Tryz.pinned (.plain (OpenSpec.ofChange asbParsesSpec)) asbParsesCard

/-- THE SECOND FORM's CARD OF 'dromondlaw15.AsbBuilds'. -/
def asbBuildsUptoCard : Claim7 := { stood := { row := asbBuildsUptoRow, standIns := [], harness := (true, "476415fd339a5b25f8e006f9f63dbf1022d539d231d0c56f4c8804bae8354cd0"), looks := true }, kinds := [], alts := [], laidByText := true, laidKinds := [.sentinel], laidTests := true, laidLooks := .later }
def AsbBuildsUptoCardSaid : Prop := Claim7.holds Tryz.pinned (.plain (OpenSpec.upto asbBuildsSpec)) asbBuildsUptoCard

/-- THE SECOND FORM's CARD OF 'dromondlaw15.AsbParses'. -/
def asbParsesUptoCard : Claim7 := { stood := { row := asbParsesUptoRow, standIns := [], harness := (true, "476415fd339a5b25f8e006f9f63dbf1022d539d231d0c56f4c8804bae8354cd0"), looks := true }, kinds := [], alts := [], laidByText := true, laidKinds := [.sentinel], laidTests := true, laidLooks := .later }
def AsbParsesUptoCardSaid : Prop := Claim7.holds Tryz.pinned (.plain (OpenSpec.upto asbParsesSpec)) asbParsesUptoCard
end Rows
end Go.Proofs.YtblfmokklfhklaaGreatDoor
