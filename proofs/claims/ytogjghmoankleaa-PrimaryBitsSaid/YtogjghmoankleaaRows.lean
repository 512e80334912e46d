/-
  NARROWER THAN 'FOR EVERY INPUT', by the rows' own cells (each row's printed sentence says how): AsbValues: loops · AsbTargets: loops · AsbOwn: loops.
  DERIVED. THE GIVEN ROWS OF THIS SEAT. 7 by the template 'for every input the law returns true; each argument reads behind the call as it read before'; 0 by the template 'total and deterministic' (their statements: YtogjghmoankleaaTotals.lean).
  GIVEN WITH THE SEED: the statements are not yours to turn. If you find one false, say at which input.
  Laid BY PROGRAM, IN A SANDBOX (cutbox-rows.mjs): the forced cells as the released guide's own fill.sh prints them over the translation 59378300dcc9052c… (all of the seat's roots in one cut). By AI agents, Wed Nov 11 2026. No macro, syntax, notation, axiom, sorry.
-/
import Derived.Test.YtogjghmoankleaaChecked
import GoSem.Claim
import GoSem.ClaimJoined
import GoSem.ClaimMapViews
import Derived.JoinedTies
import Derived.KernelRfl
namespace Go.Proofs.Ytogjghmoankleaa
/- THE CELL 'sum', in the pinned program and in every row, IS THE sha256 OF THE DUMP (.gsa) THAT YtogjghmoankleaaProg.lean LOADS. Nothing in Lean hashes anything: it is a label: what it is worth is what the hold of that sum in a sandbox is worth. -/
noncomputable def Try.pinned : Pinned := { name := "ytogjghmoankleaa", sum := "59378300dcc9052c1d7598626ff11d1225ceb5d351209c1719ed19f1c56f4477", checked := Try.checked }
namespace Rows
def none {H : Type} : Left H := { results := [], args := [] }

/-- 'dromondlaw15.AsbValues': WHATEVER THE INPUT: true; the input reads as it did. -/
def asbValuesSpec : ChangeSpec := { name := "asbValues", fn := fun _ => fun
  | [d1, d2] => { results := [.lit (.bool true)], args := [d1, d2] }
  | _ => none }
def asbValuesRow : OpenClaim := { program := "ytogjghmoankleaa", sum := "59378300dcc9052c1d7598626ff11d1225ceb5d351209c1719ed19f1c56f4477", func := "dromond/dromondlaw15.AsbValues", spec := "asbValues", unfollowed := true, recurses := true, loops := true, apart := false }
def AsbValuesSaid : Prop := asbValuesRow.holds Try.pinned (OpenSpec.ofChange asbValuesSpec)

/-- ITS FALSE NEIGHBOUR: 'it returns false'. Refute it at one input. -/
def asbValuesWrong : ChangeSpec := { name := "asbValues", fn := fun _ => fun
  | [d1, d2] => { results := [.lit (.bool false)], args := [d1, d2] }
  | _ => none }
def AsbValuesWrongFalsely : Prop := asbValuesRow.holds Try.pinned (OpenSpec.ofChange asbValuesWrong)

/-- 'dromondlaw15.AsbTargets': WHATEVER THE INPUT: true; the input reads as it did. -/
def asbTargetsSpec : ChangeSpec := { name := "asbTargets", fn := fun _ => fun
  | [d1, d2] => { results := [.lit (.bool true)], args := [d1, d2] }
  | _ => none }
def asbTargetsRow : OpenClaim := { program := "ytogjghmoankleaa", sum := "59378300dcc9052c1d7598626ff11d1225ceb5d351209c1719ed19f1c56f4477", func := "dromond/dromondlaw15.AsbTargets", spec := "asbTargets", unfollowed := true, recurses := true, loops := true, apart := false }
def AsbTargetsSaid : Prop := asbTargetsRow.holds Try.pinned (OpenSpec.ofChange asbTargetsSpec)

/-- ITS FALSE NEIGHBOUR: 'it returns false'. Refute it at one input. -/
def asbTargetsWrong : ChangeSpec := { name := "asbTargets", fn := fun _ => fun
  | [d1, d2] => { results := [.lit (.bool false)], args := [d1, d2] }
  | _ => none }
def AsbTargetsWrongFalsely : Prop := asbTargetsRow.holds Try.pinned (OpenSpec.ofChange asbTargetsWrong)

/-- 'dromondlaw15.AsbOwn': WHATEVER THE INPUT: true; the input reads as it did. -/
def asbOwnSpec : ChangeSpec := { name := "asbOwn", fn := fun _ => fun
  | [d1, d2] => { results := [.lit (.bool true)], args := [d1, d2] }
  | _ => none }
def asbOwnRow : OpenClaim := { program := "ytogjghmoankleaa", sum := "59378300dcc9052c1d7598626ff11d1225ceb5d351209c1719ed19f1c56f4477", func := "dromond/dromondlaw15.AsbOwn", spec := "asbOwn", unfollowed := true, recurses := true, loops := true, apart := false }
def AsbOwnSaid : Prop := asbOwnRow.holds Try.pinned (OpenSpec.ofChange asbOwnSpec)

/-- ITS FALSE NEIGHBOUR: 'it returns false'. Refute it at one input. -/
def asbOwnWrong : ChangeSpec := { name := "asbOwn", fn := fun _ => fun
  | [d1, d2] => { results := [.lit (.bool false)], args := [d1, d2] }
  | _ => none }
def AsbOwnWrongFalsely : Prop := asbOwnRow.holds Try.pinned (OpenSpec.ofChange asbOwnWrong)

/-- 'dromondlaw25.ReportBuilds': WHATEVER THE INPUT: true; the input reads as it did. -/
def reportBuildsSpec : ChangeSpec := { name := "reportBuilds", fn := fun _ => fun
  | [d] => { results := [.lit (.bool true)], args := [d] }
  | _ => none }
def reportBuildsRow : OpenClaim := { program := "ytogjghmoankleaa", sum := "59378300dcc9052c1d7598626ff11d1225ceb5d351209c1719ed19f1c56f4477", func := "dromond/dromondlaw25.ReportBuilds", spec := "reportBuilds", recurses := true, apart := false }
def ReportBuildsSaid : Prop := reportBuildsRow.holds Try.pinned (OpenSpec.ofChange reportBuildsSpec)

/-- ITS FALSE NEIGHBOUR: 'it returns false'. Refute it at one input. -/
def reportBuildsWrong : ChangeSpec := { name := "reportBuilds", fn := fun _ => fun
  | [d] => { results := [.lit (.bool false)], args := [d] }
  | _ => none }
def ReportBuildsWrongFalsely : Prop := reportBuildsRow.holds Try.pinned (OpenSpec.ofChange reportBuildsWrong)

/-- 'dromondlaw25.ReportParses': WHATEVER THE INPUT: true; the input reads as it did. -/
def reportParsesSpec : ChangeSpec := { name := "reportParses", fn := fun _ => fun
  | [d] => { results := [.lit (.bool true)], args := [d] }
  | _ => none }
def reportParsesRow : OpenClaim := { program := "ytogjghmoankleaa", sum := "59378300dcc9052c1d7598626ff11d1225ceb5d351209c1719ed19f1c56f4477", func := "dromond/dromondlaw25.ReportParses", spec := "reportParses", recurses := true, apart := false }
def ReportParsesSaid : Prop := reportParsesRow.holds Try.pinned (OpenSpec.ofChange reportParsesSpec)

/-- ITS FALSE NEIGHBOUR: 'it returns false'. Refute it at one input. -/
def reportParsesWrong : ChangeSpec := { name := "reportParses", fn := fun _ => fun
  | [d] => { results := [.lit (.bool false)], args := [d] }
  | _ => none }
def ReportParsesWrongFalsely : Prop := reportParsesRow.holds Try.pinned (OpenSpec.ofChange reportParsesWrong)

/-- 'dromondlaw11.PrimaryBits': WHATEVER THE INPUT: true; the input reads as it did. -/
def primaryBitsSpec : ChangeSpec := { name := "primaryBits", fn := fun _ => fun
  | [d1, d2] => { results := [.lit (.bool true)], args := [d1, d2] }
  | _ => none }
def primaryBitsRow : OpenClaim := { program := "ytogjghmoankleaa", sum := "59378300dcc9052c1d7598626ff11d1225ceb5d351209c1719ed19f1c56f4477", func := "dromond/dromondlaw11.PrimaryBits", spec := "primaryBits", inPlace := ["internal/abi.NoEscape", "internal/bytealg.MakeNoZero"], recurses := true, apart := false }
def PrimaryBitsSaid : Prop := primaryBitsRow.holds Try.pinned (OpenSpec.ofChange primaryBitsSpec)

/-- ITS FALSE NEIGHBOUR: 'it returns false'. Refute it at one input. -/
def primaryBitsWrong : ChangeSpec := { name := "primaryBits", fn := fun _ => fun
  | [d1, d2] => { results := [.lit (.bool false)], args := [d1, d2] }
  | _ => none }
def PrimaryBitsWrongFalsely : Prop := primaryBitsRow.holds Try.pinned (OpenSpec.ofChange primaryBitsWrong)

/-- 'dromondlaw11.PrimaryBack': WHATEVER THE INPUT: true; the input reads as it did. -/
def primaryBackSpec : ChangeSpec := { name := "primaryBack", fn := fun _ => fun
  | [d1, d2] => { results := [.lit (.bool true)], args := [d1, d2] }
  | _ => none }
def primaryBackRow : OpenClaim := { program := "ytogjghmoankleaa", sum := "59378300dcc9052c1d7598626ff11d1225ceb5d351209c1719ed19f1c56f4477", func := "dromond/dromondlaw11.PrimaryBack", spec := "primaryBack", inPlace := ["internal/abi.NoEscape", "internal/bytealg.MakeNoZero"], recurses := true, apart := false }
def PrimaryBackSaid : Prop := primaryBackRow.holds Try.pinned (OpenSpec.ofChange primaryBackSpec)

/-- ITS FALSE NEIGHBOUR: 'it returns false'. Refute it at one input. -/
def primaryBackWrong : ChangeSpec := { name := "primaryBack", fn := fun _ => fun
  | [d1, d2] => { results := [.lit (.bool false)], args := [d1, d2] }
  | _ => none }
def PrimaryBackWrongFalsely : Prop := primaryBackRow.holds Try.pinned (OpenSpec.ofChange primaryBackWrong)

/- THE SECOND FORM. 'bulk': how many values and letters a reading holds, each counted each time it is reached (what is shared counts as often as it is met; a slice's spare places count too). A statement '..UptoSaid' is the law's where the arguments, and the package variables that the reading takes, are together of bulk at most 1048576: NARROWER than '..Said'. Prove '..Said' where nothing that the law and all that it calls make is longer than what came in: it says more and counts as full. Else prove '..UptoSaid'. A law counts once. -/
mutual
def uptoBulk {H : Type} : DataW H → Nat
  | .lit (.string bytes) => bytes.length + 1
  | .lit _ => 1
  | .nil => 1
  | .ptr d => uptoBulk d + 1
  | .slice elems spare => uptoBulkAll elems + uptoBulkAll spare + 1
  | .agg parts => uptoBulkAll parts + 1
  | .iface _ d => uptoBulk d + 1
  | .map entries => uptoBulkEntries entries + 1
  | .held _ => 1
def uptoBulkAll {H : Type} : List (DataW H) → Nat
  | [] => 0
  | d :: r => uptoBulk d + uptoBulkAll r
def uptoBulkEntries {H : Type} : List (Lit × DataW H) → Nat
  | [] => 0
  | x :: r => uptoBulkEntry x + uptoBulkEntries r
def uptoBulkEntry {H : Type} : Lit × DataW H → Nat
  | (.string bytes, d) => bytes.length + uptoBulk d + 1
  | (_, d) => uptoBulk d + 1
 end
def uptoSmall : (H : Type) → List (DataW H) → Bool := fun _ ds => decide (uptoBulkAll ds ≤ 1048576)
def OpenSpec.upto (s : _root_.Go.ChangeSpec) : _root_.Go.OpenSpec := { _root_.Go.OpenSpec.ofChange s with cond := some uptoSmall }

/-- 'dromondlaw15.AsbValues', WHERE WHAT IT READS IS OF BULK AT MOST 1048576: true; the input reads as it did. -/
def asbValuesUptoRow : OpenClaim := { program := "ytogjghmoankleaa", sum := "59378300dcc9052c1d7598626ff11d1225ceb5d351209c1719ed19f1c56f4477", func := "dromond/dromondlaw15.AsbValues", spec := "asbValues", unfollowed := true, recurses := true, loops := true, apart := false, narrowed := true }
def AsbValuesUptoSaid : Prop := asbValuesUptoRow.holds Try.pinned (OpenSpec.upto asbValuesSpec)

/-- 'dromondlaw15.AsbTargets', WHERE WHAT IT READS IS OF BULK AT MOST 1048576: true; the input reads as it did. -/
def asbTargetsUptoRow : OpenClaim := { program := "ytogjghmoankleaa", sum := "59378300dcc9052c1d7598626ff11d1225ceb5d351209c1719ed19f1c56f4477", func := "dromond/dromondlaw15.AsbTargets", spec := "asbTargets", unfollowed := true, recurses := true, loops := true, apart := false, narrowed := true }
def AsbTargetsUptoSaid : Prop := asbTargetsUptoRow.holds Try.pinned (OpenSpec.upto asbTargetsSpec)

/-- 'dromondlaw15.AsbOwn', WHERE WHAT IT READS IS OF BULK AT MOST 1048576: true; the input reads as it did. -/
def asbOwnUptoRow : OpenClaim := { program := "ytogjghmoankleaa", sum := "59378300dcc9052c1d7598626ff11d1225ceb5d351209c1719ed19f1c56f4477", func := "dromond/dromondlaw15.AsbOwn", spec := "asbOwn", unfollowed := true, recurses := true, loops := true, apart := false, narrowed := true }
def AsbOwnUptoSaid : Prop := asbOwnUptoRow.holds Try.pinned (OpenSpec.upto asbOwnSpec)

/-- 'dromondlaw25.ReportBuilds', WHERE WHAT IT READS IS OF BULK AT MOST 1048576: true; the input reads as it did. -/
def reportBuildsUptoRow : OpenClaim := { program := "ytogjghmoankleaa", sum := "59378300dcc9052c1d7598626ff11d1225ceb5d351209c1719ed19f1c56f4477", func := "dromond/dromondlaw25.ReportBuilds", spec := "reportBuilds", recurses := true, apart := false, narrowed := true }
def ReportBuildsUptoSaid : Prop := reportBuildsUptoRow.holds Try.pinned (OpenSpec.upto reportBuildsSpec)

/-- 'dromondlaw25.ReportParses', WHERE WHAT IT READS IS OF BULK AT MOST 1048576: true; the input reads as it did. -/
def reportParsesUptoRow : OpenClaim := { program := "ytogjghmoankleaa", sum := "59378300dcc9052c1d7598626ff11d1225ceb5d351209c1719ed19f1c56f4477", func := "dromond/dromondlaw25.ReportParses", spec := "reportParses", recurses := true, apart := false, narrowed := true }
def ReportParsesUptoSaid : Prop := reportParsesUptoRow.holds Try.pinned (OpenSpec.upto reportParsesSpec)

/-- 'dromondlaw11.PrimaryBits', WHERE WHAT IT READS IS OF BULK AT MOST 1048576: true; the input reads as it did. -/
def primaryBitsUptoRow : OpenClaim := { program := "ytogjghmoankleaa", sum := "59378300dcc9052c1d7598626ff11d1225ceb5d351209c1719ed19f1c56f4477", func := "dromond/dromondlaw11.PrimaryBits", spec := "primaryBits", inPlace := ["internal/abi.NoEscape", "internal/bytealg.MakeNoZero"], recurses := true, apart := false, narrowed := true }
def PrimaryBitsUptoSaid : Prop := primaryBitsUptoRow.holds Try.pinned (OpenSpec.upto primaryBitsSpec)

/-- 'dromondlaw11.PrimaryBack', WHERE WHAT IT READS IS OF BULK AT MOST 1048576: true; the input reads as it did. -/
def primaryBackUptoRow : OpenClaim := { program := "ytogjghmoankleaa", sum := "59378300dcc9052c1d7598626ff11d1225ceb5d351209c1719ed19f1c56f4477", func := "dromond/dromondlaw11.PrimaryBack", spec := "primaryBack", inPlace := ["internal/abi.NoEscape", "internal/bytealg.MakeNoZero"], recurses := true, apart := false, narrowed := true }
def PrimaryBackUptoSaid : Prop := primaryBackUptoRow.holds Try.pinned (OpenSpec.upto primaryBackSpec)

end Rows
end Go.Proofs.Ytogjghmoankleaa
