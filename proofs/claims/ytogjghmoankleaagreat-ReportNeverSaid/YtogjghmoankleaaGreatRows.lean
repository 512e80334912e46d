/-
  No cell of these rows narrows 'for every input' (looked for: loops, veiled, ifaces, maps, wideKeys, modest, calm, conditions, laid).
  DERIVED. THE GIVEN ROWS OF THIS SEAT. 2 by the template 'for every input the law returns true; each argument reads behind the call as it read before'; 0 by the template 'total and deterministic' (their statements: YtogjghmoankleaaGreatTotals.lean).
  GIVEN WITH THE SEED: the statements are not yours to turn. If you find one false, say at which input.
  Laid BY PROGRAM, IN A SANDBOX (cutbox-rows.mjs): the forced cells as the released guide's own fill.sh prints them over the translation 744f8d2b8d868ecd… (all of the seat's roots in one cut). By AI agents, Wed Nov 11 2026. No macro, syntax, notation, axiom, sorry.
-/
import Derived.Test.YtogjghmoankleaaGreatChecked
import GoSem.Claim
import GoSem.ClaimJoined
import GoSem.ClaimMapViews
import Derived.JoinedTies
import Derived.KernelRfl
namespace Go.Proofs.YtogjghmoankleaaGreat
/- THE CELL 'sum', in the pinned program and in every row, IS THE sha256 OF THE DUMP (.gsa) THAT YtogjghmoankleaaGreatProg.lean LOADS. Nothing in Lean hashes anything: it is a label: what it is worth is what the hold of that sum in a sandbox is worth. -/
noncomputable def Tryz.pinned : Pinned := { name := "ytogjghmoankleaagreat", sum := "744f8d2b8d868ecd286630ad1d825e177d5e6fc3e198c760a61f794979c09b4f", checked := Tryz.checked }
namespace Rows
def none {H : Type} : Left H := { results := [], args := [] }

/-- 'dromondlaw25.ReportMakes': WHATEVER THE INPUT: true; the input reads as it did. -/
def reportMakesSpec : ChangeSpec := { name := "reportMakes", fn := fun _ => fun
  | [d1, d2, d3] => { results := [.lit (.bool true)], args := [d1, d2, d3] }
  | _ => none }
def reportMakesRow : OpenClaim := { program := "ytogjghmoankleaagreat", sum := "744f8d2b8d868ecd286630ad1d825e177d5e6fc3e198c760a61f794979c09b4f", func := "dromond/dromondlaw25.ReportMakes", spec := "reportMakes", inPlace := ["internal/abi.NoEscape", "internal/bytealg.MakeNoZero"], recurses := true, apart := false }
def ReportMakesSaid : Prop := reportMakesRow.holds Tryz.pinned (OpenSpec.ofChange reportMakesSpec)

/-- ITS FALSE NEIGHBOUR: 'it returns false'. Refute it at one input. -/
def reportMakesWrong : ChangeSpec := { name := "reportMakes", fn := fun _ => fun
  | [d1, d2, d3] => { results := [.lit (.bool false)], args := [d1, d2, d3] }
  | _ => none }
def ReportMakesWrongFalsely : Prop := reportMakesRow.holds Tryz.pinned (OpenSpec.ofChange reportMakesWrong)

/-- 'dromondlaw25.ReportNever': WHATEVER THE INPUT: true; the input reads as it did. -/
def reportNeverSpec : ChangeSpec := { name := "reportNever", fn := fun _ => fun
  | [d1, d2, d3] => { results := [.lit (.bool true)], args := [d1, d2, d3] }
  | _ => none }
def reportNeverRow : OpenClaim := { program := "ytogjghmoankleaagreat", sum := "744f8d2b8d868ecd286630ad1d825e177d5e6fc3e198c760a61f794979c09b4f", func := "dromond/dromondlaw25.ReportNever", spec := "reportNever", inPlace := ["internal/abi.NoEscape", "internal/bytealg.MakeNoZero"], recurses := true, apart := false }
def ReportNeverSaid : Prop := reportNeverRow.holds Tryz.pinned (OpenSpec.ofChange reportNeverSpec)

/-- ITS FALSE NEIGHBOUR: 'it returns false'. Refute it at one input. -/
def reportNeverWrong : ChangeSpec := { name := "reportNever", fn := fun _ => fun
  | [d1, d2, d3] => { results := [.lit (.bool false)], args := [d1, d2, d3] }
  | _ => none }
def ReportNeverWrongFalsely : Prop := reportNeverRow.holds Tryz.pinned (OpenSpec.ofChange reportNeverWrong)

/- THE SECOND FORM. 'bulk': how many values and letters a reading holds, each counted each time it is reached (what is shared counts as often as it is met; a slice's spare places count too). A statement '..UptoSaid' is the law's where the arguments, and the package variables that the reading takes, are together of bulk at most 1048576: NARROWER than '..Said'. Prove '..Said' where nothing that the law and all that it calls make is longer than what came in: it says more and counts as full. Else prove '..UptoSaid'. A law counts once. -/
mutual
def uptoBulk {H : Type} : DataW H → Nat
  | .lit (.string bytes) => bytes.length + 1
  | .lit _ => 1
  | .nil => 1
  | .ptr d => uptoBulk d + 1
  | .slice elems spare => uptoBulkAll elems + uptoBulkAll spare + 1
  | .agg parts => uptoBulkAll parts + 1
  | .iface _ d => uptoBulk d + 1
  | .map entries => uptoBulkEntries entries + 1
  | .held _ => 1
def uptoBulkAll {H : Type} : List (DataW H) → Nat
  | [] => 0
  | d :: r => uptoBulk d + uptoBulkAll r
def uptoBulkEntries {H : Type} : List (Lit × DataW H) → Nat
  | [] => 0
  | x :: r => uptoBulkEntry x + uptoBulkEntries r
def uptoBulkEntry {H : Type} : Lit × DataW H → Nat
  | (.string bytes, d) => bytes.length + uptoBulk d + 1
  | (_, d) => uptoBulk d + 1
 end
def uptoSmall : (H : Type) → List (DataW H) → Bool := fun _ ds => decide (uptoBulkAll ds ≤ 1048576)
def OpenSpec.upto (s : _root_.Go.ChangeSpec) : _root_.Go.OpenSpec := { _root_.Go.OpenSpec.ofChange s with cond := some uptoSmall }

/-- 'dromondlaw25.ReportMakes', WHERE WHAT IT READS IS OF BULK AT MOST 1048576: true; the input reads as it did. -/
def reportMakesUptoRow : OpenClaim := { program := "ytogjghmoankleaagreat", sum := "744f8d2b8d868ecd286630ad1d825e177d5e6fc3e198c760a61f794979c09b4f", func := "dromond/dromondlaw25.ReportMakes", spec := "reportMakes", inPlace := ["internal/abi.NoEscape", "internal/bytealg.MakeNoZero"], recurses := true, apart := false, narrowed := true }
def ReportMakesUptoSaid : Prop := reportMakesUptoRow.holds Tryz.pinned (OpenSpec.upto reportMakesSpec)

/-- 'dromondlaw25.ReportNever', WHERE WHAT IT READS IS OF BULK AT MOST 1048576: true; the input reads as it did. -/
def reportNeverUptoRow : OpenClaim := { program := "ytogjghmoankleaagreat", sum := "744f8d2b8d868ecd286630ad1d825e177d5e6fc3e198c760a61f794979c09b4f", func := "dromond/dromondlaw25.ReportNever", spec := "reportNever", inPlace := ["internal/abi.NoEscape", "internal/bytealg.MakeNoZero"], recurses := true, apart := false, narrowed := true }
def ReportNeverUptoSaid : Prop := reportNeverUptoRow.holds Tryz.pinned (OpenSpec.upto reportNeverSpec)

end Rows
end Go.Proofs.YtogjghmoankleaaGreat
