/-
  DERIVED. GIVEN WITH THE SEED: THE CARDS: each row of YtblfmokklfhklaaDoorRows.lean that lists a variable, with what it lists TIED to the program's text (the seventh form; the later family's looks); each row that meets fmt, with fmt's text TOLD by the authors' own Lean function (tested against real Go, not proved from fmt's source: count such statements apart). THE CARD IS WHAT COUNTS. Prove the row's statement (the work); the ties are given (YtblfmokklfhklaaDoorTie.lean); close each card by the builder's one call (the guide's Derived/Test/ToyasCard.lean, 'card_holds'). Laid BY PROGRAM, IN A SANDBOX (cutbox-door.mjs). By AI agents, Wed Nov 11 2026. No macro, syntax, notation, axiom, sorry.
-/
import Derived.Test.YtblfmokklfhklaaDoorRows
import GoSem.ClaimSeven
namespace Go.Proofs.YtblfmokklfhklaaDoor
namespace Rows

/-- THE TIED CARD OF 'dromondlaw15.AsbLong'. -/
def asbLongCard : Claim7 := { stood := { row := asbLongRow, standIns := [], harness := (true, "b94eabdbf92b18d0a6cfcbe454852612e4bb3eee643bb3a929df4076ed0c7df0"), looks := true }, kinds := [], alts := [], laidByText := true, laidKinds := [.sentinel], laidTests := true, laidLooks := .later }
def AsbLongCardSaid : Prop := Claim7.holds Tryd.pinned (.plain (OpenSpec.ofChange asbLongSpec)) asbLongCard

/-- THE SECOND FORM's CARD OF 'dromondlaw15.AsbLong'. -/
def asbLongUptoCard : Claim7 := { stood := { row := asbLongUptoRow, standIns := [], harness := (true, "b94eabdbf92b18d0a6cfcbe454852612e4bb3eee643bb3a929df4076ed0c7df0"), looks := true }, kinds := [], alts := [], laidByText := true, laidKinds := [.sentinel], laidTests := true, laidLooks := .later }
def AsbLongUptoCardSaid : Prop := Claim7.holds Tryd.pinned (.plain (OpenSpec.upto asbLongSpec)) asbLongUptoCard
end Rows
end Go.Proofs.YtblfmokklfhklaaDoor
