/-
  No cell of these rows narrows 'for every input' (looked for: loops, veiled, ifaces, maps, wideKeys, modest, calm, conditions, laid).
  DERIVED. THE GIVEN ROWS OF THIS SEAT. 4 by the template 'for every input the law returns true; each argument reads behind the call as it read before'; 0 by the template 'total and deterministic' (their statements: YtagjhkknefiieaaTotals.lean).
  GIVEN WITH THE SEED: the statements are not yours to turn. If you find one false, say at which input.
  Laid BY PROGRAM, IN A SANDBOX (cutbox-rows.mjs): the forced cells as the released guide's own fill.sh prints them over the translation bc35f7ebf565fabf… (all of the seat's roots in one cut). By AI agents, Wed Nov 11 2026. No macro, syntax, notation, axiom, sorry.
-/
import Derived.Test.YtagjhkknefiieaaChecked
import GoSem.Claim
import GoSem.ClaimJoined
import GoSem.ClaimMapViews
import Derived.JoinedTies
import Derived.KernelRfl
namespace Go.Proofs.Ytagjhkknefiieaa
/- THE CELL 'sum', in the pinned program and in every row, IS THE sha256 OF THE DUMP (.gsa) THAT YtagjhkknefiieaaProg.lean LOADS. Nothing in Lean hashes anything: it is a label: what it is worth is what the hold of that sum in a sandbox is worth. -/
noncomputable def Try.pinned : Pinned := { name := "ytagjhkknefiieaa", sum := "bc35f7ebf565fabff244305bce4a0eededccf40dc431394e20c68c68e0dcaabb", checked := Try.checked }
namespace Rows
def none {H : Type} : Left H := { results := [], args := [] }

/-- 'dromondlaw14.ExtMakes': WHATEVER THE INPUT: true; the input reads as it did. -/
def extMakesSpec : ChangeSpec := { name := "extMakes", fn := fun _ => fun
  | [d1, d2, d3] => { results := [.lit (.bool true)], args := [d1, d2, d3] }
  | _ => none }
def extMakesRow : OpenClaim := { program := "ytagjhkknefiieaa", sum := "bc35f7ebf565fabff244305bce4a0eededccf40dc431394e20c68c68e0dcaabb", func := "dromond/dromondlaw14.ExtMakes", spec := "extMakes", unfollowed := true, recurses := true, apart := false }
def ExtMakesSaid : Prop := extMakesRow.holds Try.pinned (OpenSpec.ofChange extMakesSpec)

/-- ITS FALSE NEIGHBOUR: 'it returns false'. Refute it at one input. -/
def extMakesWrong : ChangeSpec := { name := "extMakes", fn := fun _ => fun
  | [d1, d2, d3] => { results := [.lit (.bool false)], args := [d1, d2, d3] }
  | _ => none }
def ExtMakesWrongFalsely : Prop := extMakesRow.holds Try.pinned (OpenSpec.ofChange extMakesWrong)

/-- 'dromondlaw14.ExtReads': WHATEVER THE INPUT: true; the input reads as it did. -/
def extReadsSpec : ChangeSpec := { name := "extReads", fn := fun _ => fun
  | [d] => { results := [.lit (.bool true)], args := [d] }
  | _ => none }
def extReadsRow : OpenClaim := { program := "ytagjhkknefiieaa", sum := "bc35f7ebf565fabff244305bce4a0eededccf40dc431394e20c68c68e0dcaabb", func := "dromond/dromondlaw14.ExtReads", spec := "extReads", unfollowed := true, recurses := true, apart := false }
def ExtReadsSaid : Prop := extReadsRow.holds Try.pinned (OpenSpec.ofChange extReadsSpec)

/-- ITS FALSE NEIGHBOUR: 'it returns false'. Refute it at one input. -/
def extReadsWrong : ChangeSpec := { name := "extReads", fn := fun _ => fun
  | [d] => { results := [.lit (.bool false)], args := [d] }
  | _ => none }
def ExtReadsWrongFalsely : Prop := extReadsRow.holds Try.pinned (OpenSpec.ofChange extReadsWrong)

/-- 'dromondlaw14.ExtBack': WHATEVER THE INPUT: true; the input reads as it did. -/
def extBackSpec : ChangeSpec := { name := "extBack", fn := fun _ => fun
  | [d1, d2, d3] => { results := [.lit (.bool true)], args := [d1, d2, d3] }
  | _ => none }
def extBackRow : OpenClaim := { program := "ytagjhkknefiieaa", sum := "bc35f7ebf565fabff244305bce4a0eededccf40dc431394e20c68c68e0dcaabb", func := "dromond/dromondlaw14.ExtBack", spec := "extBack", unfollowed := true, recurses := true, apart := false }
def ExtBackSaid : Prop := extBackRow.holds Try.pinned (OpenSpec.ofChange extBackSpec)

/-- ITS FALSE NEIGHBOUR: 'it returns false'. Refute it at one input. -/
def extBackWrong : ChangeSpec := { name := "extBack", fn := fun _ => fun
  | [d1, d2, d3] => { results := [.lit (.bool false)], args := [d1, d2, d3] }
  | _ => none }
def ExtBackWrongFalsely : Prop := extBackRow.holds Try.pinned (OpenSpec.ofChange extBackWrong)

/-- 'dromondlaw14.ExtLives': WHATEVER THE INPUT: true; the input reads as it did. -/
def extLivesSpec : ChangeSpec := { name := "extLives", fn := fun _ => fun
  | [d1, d2] => { results := [.lit (.bool true)], args := [d1, d2] }
  | _ => none }
def extLivesRow : OpenClaim := { program := "ytagjhkknefiieaa", sum := "bc35f7ebf565fabff244305bce4a0eededccf40dc431394e20c68c68e0dcaabb", func := "dromond/dromondlaw14.ExtLives", spec := "extLives", unfollowed := true, recurses := true, apart := false }
def ExtLivesSaid : Prop := extLivesRow.holds Try.pinned (OpenSpec.ofChange extLivesSpec)

/-- ITS FALSE NEIGHBOUR: 'it returns false'. Refute it at one input. -/
def extLivesWrong : ChangeSpec := { name := "extLives", fn := fun _ => fun
  | [d1, d2] => { results := [.lit (.bool false)], args := [d1, d2] }
  | _ => none }
def ExtLivesWrongFalsely : Prop := extLivesRow.holds Try.pinned (OpenSpec.ofChange extLivesWrong)

/- THE SECOND FORM. 'bulk': how many values and letters a reading holds, each counted each time it is reached (what is shared counts as often as it is met; a slice's spare places count too). A statement '..UptoSaid' is the law's where the arguments, and the package variables that the reading takes, are together of bulk at most 1048576: NARROWER than '..Said'. Prove '..Said' where nothing that the law and all that it calls make is longer than what came in: it says more and counts as full. Else prove '..UptoSaid'. A law counts once. -/
mutual
def uptoBulk {H : Type} : DataW H → Nat
  | .lit (.string bytes) => bytes.length + 1
  | .lit _ => 1
  | .nil => 1
  | .ptr d => uptoBulk d + 1
  | .slice elems spare => uptoBulkAll elems + uptoBulkAll spare + 1
  | .agg parts => uptoBulkAll parts + 1
  | .iface _ d => uptoBulk d + 1
  | .map entries => uptoBulkEntries entries + 1
  | .held _ => 1
def uptoBulkAll {H : Type} : List (DataW H) → Nat
  | [] => 0
  | d :: r => uptoBulk d + uptoBulkAll r
def uptoBulkEntries {H : Type} : List (Lit × DataW H) → Nat
  | [] => 0
  | x :: r => uptoBulkEntry x + uptoBulkEntries r
def uptoBulkEntry {H : Type} : Lit × DataW H → Nat
  | (.string bytes, d) => bytes.length + uptoBulk d + 1
  | (_, d) => uptoBulk d + 1
 end
def uptoSmall : (H : Type) → List (DataW H) → Bool := fun _ ds => decide (uptoBulkAll ds ≤ 1048576)
def OpenSpec.upto (s : _root_.Go.ChangeSpec) : _root_.Go.OpenSpec := { _root_.Go.OpenSpec.ofChange s with cond := some uptoSmall }

/-- 'dromondlaw14.ExtMakes', WHERE WHAT IT READS IS OF BULK AT MOST 1048576: true; the input reads as it did. -/
def extMakesUptoRow : OpenClaim := { program := "ytagjhkknefiieaa", sum := "bc35f7ebf565fabff244305bce4a0eededccf40dc431394e20c68c68e0dcaabb", func := "dromond/dromondlaw14.ExtMakes", spec := "extMakes", unfollowed := true, recurses := true, apart := false, narrowed := true }
def ExtMakesUptoSaid : Prop := extMakesUptoRow.holds Try.pinned (OpenSpec.upto extMakesSpec)

/-- 'dromondlaw14.ExtReads', WHERE WHAT IT READS IS OF BULK AT MOST 1048576: true; the input reads as it did. -/
def extReadsUptoRow : OpenClaim := { program := "ytagjhkknefiieaa", sum := "bc35f7ebf565fabff244305bce4a0eededccf40dc431394e20c68c68e0dcaabb", func := "dromond/dromondlaw14.ExtReads", spec := "extReads", unfollowed := true, recurses := true, apart := false, narrowed := true }
def ExtReadsUptoSaid : Prop := extReadsUptoRow.holds Try.pinned (OpenSpec.upto extReadsSpec)

/-- 'dromondlaw14.ExtBack', WHERE WHAT IT READS IS OF BULK AT MOST 1048576: true; the input reads as it did. -/
def extBackUptoRow : OpenClaim := { program := "ytagjhkknefiieaa", sum := "bc35f7ebf565fabff244305bce4a0eededccf40dc431394e20c68c68e0dcaabb", func := "dromond/dromondlaw14.ExtBack", spec := "extBack", unfollowed := true, recurses := true, apart := false, narrowed := true }
def ExtBackUptoSaid : Prop := extBackUptoRow.holds Try.pinned (OpenSpec.upto extBackSpec)

/-- 'dromondlaw14.ExtLives', WHERE WHAT IT READS IS OF BULK AT MOST 1048576: true; the input reads as it did. -/
def extLivesUptoRow : OpenClaim := { program := "ytagjhkknefiieaa", sum := "bc35f7ebf565fabff244305bce4a0eededccf40dc431394e20c68c68e0dcaabb", func := "dromond/dromondlaw14.ExtLives", spec := "extLives", unfollowed := true, recurses := true, apart := false, narrowed := true }
def ExtLivesUptoSaid : Prop := extLivesUptoRow.holds Try.pinned (OpenSpec.upto extLivesSpec)

end Rows
end Go.Proofs.Ytagjhkknefiieaa
