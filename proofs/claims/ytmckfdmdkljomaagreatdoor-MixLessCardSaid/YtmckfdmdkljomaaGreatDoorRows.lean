/-
  NARROWER THAN 'FOR EVERY INPUT', by the rows' own cells (each row's printed sentence says how): MixMay: laid · MixKeeps: laid · MixOps: laid · MixLess: laid.
  DERIVED. THE GIVEN ROWS OF THIS SEAT. 4 by the template 'for every input the law returns true; each argument reads behind the call as it read before'; 0 by the template 'total and deterministic' (their statements: YtmckfdmdkljomaaGreatDoorTotals.lean).
  GIVEN WITH THE SEED: the statements are not yours to turn. If you find one false, say at which input.
  Laid BY PROGRAM, IN A SANDBOX (cutbox-rows.mjs): the forced cells as the released guide's own fill.sh prints them over the translation 841ecf9eebca876d… (all of the seat's roots in one cut). By AI agents, Wed Nov 11 2026. No macro, syntax, notation, axiom, sorry.
-/
import Derived.Test.YtmckfdmdkljomaaGreatDoorChecked
import GoSem.Claim
import GoSem.ClaimJoined
import GoSem.ClaimMapViews
import Derived.JoinedTies
import Derived.KernelRfl
namespace Go.Proofs.YtmckfdmdkljomaaGreatDoor
/- THE CELL 'sum', in the pinned program and in every row, IS THE sha256 OF THE DUMP (.gsa) THAT YtmckfdmdkljomaaGreatDoorProg.lean LOADS. Nothing in Lean hashes anything: it is a label: what it is worth is what the hold of that sum in a sandbox is worth. -/
noncomputable def Tryz.pinned : Pinned := { name := "ytmckfdmdkljomaagreatdoor", sum := "841ecf9eebca876d0f3decf804fa999b24e02587ae7f5ed48ab559892e7e4d2a", checked := Tryz.checked }
namespace Rows
def none {H : Type} : Left H := { results := [], args := [] }

/- WHAT THE LISTED PACKAGE-LEVEL VARIABLES READ AS WHEN THE CALL BEGINS. Each datum BY PROGRAM (the guide's laid-datum.mjs) off the statement by which the dump's own 'gosem.cut.vars' lays the variable. In a bare row this is a premise. The card (YtmckfdmdkljomaaGreatDoorCards.lean) ties it to the program's text. -/
def laid_dromond_asb_errForm {H : Type} : DataW H := .iface "*errors.errorString" (.ptr (.agg [.lit (.string [102, 111, 114, 109])]))

/-- 'dromondlaw17.MixMay': WHATEVER THE INPUT: true; the input reads as it did. -/
def mixMaySpec : ChangeSpec := { name := "mixMay", fn := fun _ => fun
  | [d1, d2, d3] => { results := [.lit (.bool true)], args := [d1, d2, d3] }
  | _ => none }
def mixMayRow : OpenClaim := { program := "ytmckfdmdkljomaagreatdoor", sum := "841ecf9eebca876d0f3decf804fa999b24e02587ae7f5ed48ab559892e7e4d2a", func := "dromond/dromondlaw17.MixMay", spec := "mixMay", inPlace := ["internal/reflectlite.TypeOf", "internal/abi.NoEscape", "internal/bytealg.MakeNoZero"], unfollowed := true, recurses := true, named := ["dromond/asb.errForm"], plainKeys := false, apart := false, laid := [("dromond/asb.errForm", laid_dromond_asb_errForm)] }
def MixMaySaid : Prop := mixMayRow.holds Tryz.pinned (OpenSpec.ofChange mixMaySpec)

/-- ITS FALSE NEIGHBOUR: 'it returns false'. Refute it at one input. -/
def mixMayWrong : ChangeSpec := { name := "mixMay", fn := fun _ => fun
  | [d1, d2, d3] => { results := [.lit (.bool false)], args := [d1, d2, d3] }
  | _ => none }
def MixMayWrongFalsely : Prop := mixMayRow.holds Tryz.pinned (OpenSpec.ofChange mixMayWrong)

/-- 'dromondlaw17.MixKeeps': WHATEVER THE INPUT: true; the input reads as it did. -/
def mixKeepsSpec : ChangeSpec := { name := "mixKeeps", fn := fun _ => fun
  | [d1, d2, d3] => { results := [.lit (.bool true)], args := [d1, d2, d3] }
  | _ => none }
def mixKeepsRow : OpenClaim := { program := "ytmckfdmdkljomaagreatdoor", sum := "841ecf9eebca876d0f3decf804fa999b24e02587ae7f5ed48ab559892e7e4d2a", func := "dromond/dromondlaw17.MixKeeps", spec := "mixKeeps", inPlace := ["internal/reflectlite.TypeOf", "internal/abi.NoEscape", "internal/bytealg.MakeNoZero"], unfollowed := true, recurses := true, named := ["dromond/asb.errForm"], plainKeys := false, apart := false, laid := [("dromond/asb.errForm", laid_dromond_asb_errForm)] }
def MixKeepsSaid : Prop := mixKeepsRow.holds Tryz.pinned (OpenSpec.ofChange mixKeepsSpec)

/-- ITS FALSE NEIGHBOUR: 'it returns false'. Refute it at one input. -/
def mixKeepsWrong : ChangeSpec := { name := "mixKeeps", fn := fun _ => fun
  | [d1, d2, d3] => { results := [.lit (.bool false)], args := [d1, d2, d3] }
  | _ => none }
def MixKeepsWrongFalsely : Prop := mixKeepsRow.holds Tryz.pinned (OpenSpec.ofChange mixKeepsWrong)

/-- 'dromondlaw17.MixOps': WHATEVER THE INPUT: true; the input reads as it did. -/
def mixOpsSpec : ChangeSpec := { name := "mixOps", fn := fun _ => fun
  | [d1, d2] => { results := [.lit (.bool true)], args := [d1, d2] }
  | _ => none }
def mixOpsRow : OpenClaim := { program := "ytmckfdmdkljomaagreatdoor", sum := "841ecf9eebca876d0f3decf804fa999b24e02587ae7f5ed48ab559892e7e4d2a", func := "dromond/dromondlaw17.MixOps", spec := "mixOps", inPlace := ["internal/reflectlite.TypeOf", "internal/abi.NoEscape", "internal/bytealg.MakeNoZero"], unfollowed := true, recurses := true, named := ["dromond/asb.errForm"], plainKeys := false, apart := false, laid := [("dromond/asb.errForm", laid_dromond_asb_errForm)] }
def MixOpsSaid : Prop := mixOpsRow.holds Tryz.pinned (OpenSpec.ofChange mixOpsSpec)

/-- ITS FALSE NEIGHBOUR: 'it returns false'. Refute it at one input. -/
def mixOpsWrong : ChangeSpec := { name := "mixOps", fn := fun _ => fun
  | [d1, d2] => { results := [.lit (.bool false)], args := [d1, d2] }
  | _ => none }
def MixOpsWrongFalsely : Prop := mixOpsRow.holds Tryz.pinned (OpenSpec.ofChange mixOpsWrong)

/-- 'dromondlaw17.MixLess': WHATEVER THE INPUT: true; the input reads as it did. -/
def mixLessSpec : ChangeSpec := { name := "mixLess", fn := fun _ => fun
  | [d1, d2] => { results := [.lit (.bool true)], args := [d1, d2] }
  | _ => none }
def mixLessRow : OpenClaim := { program := "ytmckfdmdkljomaagreatdoor", sum := "841ecf9eebca876d0f3decf804fa999b24e02587ae7f5ed48ab559892e7e4d2a", func := "dromond/dromondlaw17.MixLess", spec := "mixLess", inPlace := ["internal/reflectlite.TypeOf", "internal/abi.NoEscape", "internal/bytealg.MakeNoZero"], unfollowed := true, recurses := true, named := ["dromond/asb.errForm"], plainKeys := false, apart := false, laid := [("dromond/asb.errForm", laid_dromond_asb_errForm)] }
def MixLessSaid : Prop := mixLessRow.holds Tryz.pinned (OpenSpec.ofChange mixLessSpec)

/-- ITS FALSE NEIGHBOUR: 'it returns false'. Refute it at one input. -/
def mixLessWrong : ChangeSpec := { name := "mixLess", fn := fun _ => fun
  | [d1, d2] => { results := [.lit (.bool false)], args := [d1, d2] }
  | _ => none }
def MixLessWrongFalsely : Prop := mixLessRow.holds Tryz.pinned (OpenSpec.ofChange mixLessWrong)

/- THE SECOND FORM. 'bulk': how many values and letters a reading holds, each counted each time it is reached (what is shared counts as often as it is met; a slice's spare places count too). A statement '..UptoSaid' is the law's where the arguments, and the package variables that the reading takes, are together of bulk at most 1048576: NARROWER than '..Said'. Prove '..Said' where nothing that the law and all that it calls make is longer than what came in: it says more and counts as full. Else prove '..UptoSaid'. A law counts once. -/
mutual
def uptoBulk {H : Type} : DataW H → Nat
  | .lit (.string bytes) => bytes.length + 1
  | .lit _ => 1
  | .nil => 1
  | .ptr d => uptoBulk d + 1
  | .slice elems spare => uptoBulkAll elems + uptoBulkAll spare + 1
  | .agg parts => uptoBulkAll parts + 1
  | .iface _ d => uptoBulk d + 1
  | .map entries => uptoBulkEntries entries + 1
  | .held _ => 1
def uptoBulkAll {H : Type} : List (DataW H) → Nat
  | [] => 0
  | d :: r => uptoBulk d + uptoBulkAll r
def uptoBulkEntries {H : Type} : List (Lit × DataW H) → Nat
  | [] => 0
  | x :: r => uptoBulkEntry x + uptoBulkEntries r
def uptoBulkEntry {H : Type} : Lit × DataW H → Nat
  | (.string bytes, d) => bytes.length + uptoBulk d + 1
  | (_, d) => uptoBulk d + 1
 end
def uptoSmall : (H : Type) → List (DataW H) → Bool := fun _ ds => decide (uptoBulkAll ds ≤ 1048576)
def OpenSpec.upto (s : _root_.Go.ChangeSpec) : _root_.Go.OpenSpec := { _root_.Go.OpenSpec.ofChange s with cond := some uptoSmall }

/-- 'dromondlaw17.MixMay', WHERE WHAT IT READS IS OF BULK AT MOST 1048576: true; the input reads as it did. -/
def mixMayUptoRow : OpenClaim := { program := "ytmckfdmdkljomaagreatdoor", sum := "841ecf9eebca876d0f3decf804fa999b24e02587ae7f5ed48ab559892e7e4d2a", func := "dromond/dromondlaw17.MixMay", spec := "mixMay", inPlace := ["internal/reflectlite.TypeOf", "internal/abi.NoEscape", "internal/bytealg.MakeNoZero"], unfollowed := true, recurses := true, named := ["dromond/asb.errForm"], plainKeys := false, apart := false, laid := [("dromond/asb.errForm", laid_dromond_asb_errForm)], narrowed := true }
def MixMayUptoSaid : Prop := mixMayUptoRow.holds Tryz.pinned (OpenSpec.upto mixMaySpec)

/-- 'dromondlaw17.MixKeeps', WHERE WHAT IT READS IS OF BULK AT MOST 1048576: true; the input reads as it did. -/
def mixKeepsUptoRow : OpenClaim := { program := "ytmckfdmdkljomaagreatdoor", sum := "841ecf9eebca876d0f3decf804fa999b24e02587ae7f5ed48ab559892e7e4d2a", func := "dromond/dromondlaw17.MixKeeps", spec := "mixKeeps", inPlace := ["internal/reflectlite.TypeOf", "internal/abi.NoEscape", "internal/bytealg.MakeNoZero"], unfollowed := true, recurses := true, named := ["dromond/asb.errForm"], plainKeys := false, apart := false, laid := [("dromond/asb.errForm", laid_dromond_asb_errForm)], narrowed := true }
def MixKeepsUptoSaid : Prop := mixKeepsUptoRow.holds Tryz.pinned (OpenSpec.upto mixKeepsSpec)

/-- 'dromondlaw17.MixOps', WHERE WHAT IT READS IS OF BULK AT MOST 1048576: true; the input reads as it did. -/
def mixOpsUptoRow : OpenClaim := { program := "ytmckfdmdkljomaagreatdoor", sum := "841ecf9eebca876d0f3decf804fa999b24e02587ae7f5ed48ab559892e7e4d2a", func := "dromond/dromondlaw17.MixOps", spec := "mixOps", inPlace := ["internal/reflectlite.TypeOf", "internal/abi.NoEscape", "internal/bytealg.MakeNoZero"], unfollowed := true, recurses := true, named := ["dromond/asb.errForm"], plainKeys := false, apart := false, laid := [("dromond/asb.errForm", laid_dromond_asb_errForm)], narrowed := true }
def MixOpsUptoSaid : Prop := mixOpsUptoRow.holds Tryz.pinned (OpenSpec.upto mixOpsSpec)

/-- 'dromondlaw17.MixLess', WHERE WHAT IT READS IS OF BULK AT MOST 1048576: true; the input reads as it did. -/
def mixLessUptoRow : OpenClaim := { program := "ytmckfdmdkljomaagreatdoor", sum := "841ecf9eebca876d0f3decf804fa999b24e02587ae7f5ed48ab559892e7e4d2a", func := "dromond/dromondlaw17.MixLess", spec := "mixLess", inPlace := ["internal/reflectlite.TypeOf", "internal/abi.NoEscape", "internal/bytealg.MakeNoZero"], unfollowed := true, recurses := true, named := ["dromond/asb.errForm"], plainKeys := false, apart := false, laid := [("dromond/asb.errForm", laid_dromond_asb_errForm)], narrowed := true }
def MixLessUptoSaid : Prop := mixLessUptoRow.holds Tryz.pinned (OpenSpec.upto mixLessSpec)

end Rows
end Go.Proofs.YtmckfdmdkljomaaGreatDoor
