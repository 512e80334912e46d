/-
  No cell of these rows narrows 'for every input' (looked for: loops, veiled, ifaces, maps, wideKeys, modest, calm, conditions, laid).
  DERIVED. THE GIVEN ROWS OF THIS SEAT. 3 by the template 'for every input the law returns true; each argument reads behind the call as it read before'; 0 by the template 'total and deterministic' (their statements: YtmgndegooeghkaaTotals.lean).
  GIVEN WITH THE SEED: the statements are not yours to turn. If you find one false, say at which input.
  Laid BY PROGRAM, IN A SANDBOX (cutbox-rows.mjs): the forced cells as the released guide's own fill.sh prints them over the translation 0d22b355f7b40b54… (all of the seat's roots in one cut). By AI agents, Wed Nov 11 2026. No macro, syntax, notation, axiom, sorry.
-/
import Derived.Test.YtmgndegooeghkaaChecked
import GoSem.Claim
import GoSem.ClaimJoined
import GoSem.ClaimMapViews
import Derived.JoinedTies
import Derived.KernelRfl
namespace Go.Proofs.Ytmgndegooeghkaa
/- THE CELL 'sum', in the pinned program and in every row, IS THE sha256 OF THE DUMP (.gsa) THAT YtmgndegooeghkaaProg.lean LOADS. Nothing in Lean hashes anything: it is a label: what it is worth is what the hold of that sum in a sandbox is worth. -/
noncomputable def Try.pinned : Pinned := { name := "ytmgndegooeghkaa", sum := "0d22b355f7b40b541f9719c44dda7a69206978a2875057aaa252f80bce61b208", checked := Try.checked }
namespace Rows
def none {H : Type} : Left H := { results := [], args := [] }

/-- 'dromondlaw25.ReportWants': WHATEVER THE INPUT: true; the input reads as it did. -/
def reportWantsSpec : ChangeSpec := { name := "reportWants", fn := fun _ => fun
  | [d] => { results := [.lit (.bool true)], args := [d] }
  | _ => none }
def reportWantsRow : OpenClaim := { program := "ytmgndegooeghkaa", sum := "0d22b355f7b40b541f9719c44dda7a69206978a2875057aaa252f80bce61b208", func := "dromond/dromondlaw25.ReportWants", spec := "reportWants", recurses := true, apart := false }
def ReportWantsSaid : Prop := reportWantsRow.holds Try.pinned (OpenSpec.ofChange reportWantsSpec)

/-- ITS FALSE NEIGHBOUR: 'it returns false'. Refute it at one input. -/
def reportWantsWrong : ChangeSpec := { name := "reportWants", fn := fun _ => fun
  | [d] => { results := [.lit (.bool false)], args := [d] }
  | _ => none }
def ReportWantsWrongFalsely : Prop := reportWantsRow.holds Try.pinned (OpenSpec.ofChange reportWantsWrong)

/-- 'dromondlaw25.ReportBuilds': WHATEVER THE INPUT: true; the input reads as it did. -/
def reportBuildsSpec : ChangeSpec := { name := "reportBuilds", fn := fun _ => fun
  | [d] => { results := [.lit (.bool true)], args := [d] }
  | _ => none }
def reportBuildsRow : OpenClaim := { program := "ytmgndegooeghkaa", sum := "0d22b355f7b40b541f9719c44dda7a69206978a2875057aaa252f80bce61b208", func := "dromond/dromondlaw25.ReportBuilds", spec := "reportBuilds", recurses := true, apart := false }
def ReportBuildsSaid : Prop := reportBuildsRow.holds Try.pinned (OpenSpec.ofChange reportBuildsSpec)

/-- ITS FALSE NEIGHBOUR: 'it returns false'. Refute it at one input. -/
def reportBuildsWrong : ChangeSpec := { name := "reportBuilds", fn := fun _ => fun
  | [d] => { results := [.lit (.bool false)], args := [d] }
  | _ => none }
def ReportBuildsWrongFalsely : Prop := reportBuildsRow.holds Try.pinned (OpenSpec.ofChange reportBuildsWrong)

/-- 'dromondlaw25.ReportParses': WHATEVER THE INPUT: true; the input reads as it did. -/
def reportParsesSpec : ChangeSpec := { name := "reportParses", fn := fun _ => fun
  | [d] => { results := [.lit (.bool true)], args := [d] }
  | _ => none }
def reportParsesRow : OpenClaim := { program := "ytmgndegooeghkaa", sum := "0d22b355f7b40b541f9719c44dda7a69206978a2875057aaa252f80bce61b208", func := "dromond/dromondlaw25.ReportParses", spec := "reportParses", recurses := true, apart := false }
def ReportParsesSaid : Prop := reportParsesRow.holds Try.pinned (OpenSpec.ofChange reportParsesSpec)

/-- ITS FALSE NEIGHBOUR: 'it returns false'. Refute it at one input. -/
def reportParsesWrong : ChangeSpec := { name := "reportParses", fn := fun _ => fun
  | [d] => { results := [.lit (.bool false)], args := [d] }
  | _ => none }
def ReportParsesWrongFalsely : Prop := reportParsesRow.holds Try.pinned (OpenSpec.ofChange reportParsesWrong)

/- THE SECOND FORM. 'bulk': how many values and letters a reading holds, each counted each time it is reached (what is shared counts as often as it is met; a slice's spare places count too). A statement '..UptoSaid' is the law's where the arguments, and the package variables that the reading takes, are together of bulk at most 1048576: NARROWER than '..Said'. Prove '..Said' where nothing that the law and all that it calls make is longer than what came in: it says more and counts as full. Else prove '..UptoSaid'. A law counts once. -/
mutual
def uptoBulk {H : Type} : DataW H → Nat
  | .lit (.string bytes) => bytes.length + 1
  | .lit _ => 1
  | .nil => 1
  | .ptr d => uptoBulk d + 1
  | .slice elems spare => uptoBulkAll elems + uptoBulkAll spare + 1
  | .agg parts => uptoBulkAll parts + 1
  | .iface _ d => uptoBulk d + 1
  | .map entries => uptoBulkEntries entries + 1
  | .held _ => 1
def uptoBulkAll {H : Type} : List (DataW H) → Nat
  | [] => 0
  | d :: r => uptoBulk d + uptoBulkAll r
def uptoBulkEntries {H : Type} : List (Lit × DataW H) → Nat
  | [] => 0
  | x :: r => uptoBulkEntry x + uptoBulkEntries r
def uptoBulkEntry {H : Type} : Lit × DataW H → Nat
  | (.string bytes, d) => bytes.length + uptoBulk d + 1
  | (_, d) => uptoBulk d + 1
 end
def uptoSmall : (H : Type) → List (DataW H) → Bool := fun _ ds => decide (uptoBulkAll ds ≤ 1048576)
def OpenSpec.upto (s : _root_.Go.ChangeSpec) : _root_.Go.OpenSpec := { _root_.Go.OpenSpec.ofChange s with cond := some uptoSmall }

/-- 'dromondlaw25.ReportWants', WHERE WHAT IT READS IS OF BULK AT MOST 1048576: true; the input reads as it did. -/
def reportWantsUptoRow : OpenClaim := { program := "ytmgndegooeghkaa", sum := "0d22b355f7b40b541f9719c44dda7a69206978a2875057aaa252f80bce61b208", func := "dromond/dromondlaw25.ReportWants", spec := "reportWants", recurses := true, apart := false, narrowed := true }
def ReportWantsUptoSaid : Prop := reportWantsUptoRow.holds Try.pinned (OpenSpec.upto reportWantsSpec)

/-- 'dromondlaw25.ReportBuilds', WHERE WHAT IT READS IS OF BULK AT MOST 1048576: true; the input reads as it did. -/
def reportBuildsUptoRow : OpenClaim := { program := "ytmgndegooeghkaa", sum := "0d22b355f7b40b541f9719c44dda7a69206978a2875057aaa252f80bce61b208", func := "dromond/dromondlaw25.ReportBuilds", spec := "reportBuilds", recurses := true, apart := false, narrowed := true }
def ReportBuildsUptoSaid : Prop := reportBuildsUptoRow.holds Try.pinned (OpenSpec.upto reportBuildsSpec)

/-- 'dromondlaw25.ReportParses', WHERE WHAT IT READS IS OF BULK AT MOST 1048576: true; the input reads as it did. -/
def reportParsesUptoRow : OpenClaim := { program := "ytmgndegooeghkaa", sum := "0d22b355f7b40b541f9719c44dda7a69206978a2875057aaa252f80bce61b208", func := "dromond/dromondlaw25.ReportParses", spec := "reportParses", recurses := true, apart := false, narrowed := true }
def ReportParsesUptoSaid : Prop := reportParsesUptoRow.holds Try.pinned (OpenSpec.upto reportParsesSpec)

end Rows
end Go.Proofs.Ytmgndegooeghkaa
