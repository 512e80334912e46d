/-
  NARROWER THAN 'FOR EVERY INPUT', by the rows' own cells (each row's printed sentence says how): AsbBuilds: loops, laid · AsbParses: laid.
  DERIVED. THE GIVEN ROWS OF THIS SEAT. 2 by the template 'for every input the law returns true; each argument reads behind the call as it read before'; 0 by the template 'total and deterministic' (their statements: YtblfmokklfhklaaGreatDoorTotals.lean).
  GIVEN WITH THE SEED: the statements are not yours to turn. If you find one false, say at which input.
  Laid BY PROGRAM, IN A SANDBOX (cutbox-rows.mjs): the forced cells as the released guide's own fill.sh prints them over the translation 76a154b418d3e803… (all of the seat's roots in one cut). By AI agents, Wed Nov 11 2026. No macro, syntax, notation, axiom, sorry.
-/
import Derived.Test.YtblfmokklfhklaaGreatDoorChecked
import GoSem.Claim
import GoSem.ClaimJoined
import GoSem.ClaimMapViews
import Derived.JoinedTies
import Derived.KernelRfl
namespace Go.Proofs.YtblfmokklfhklaaGreatDoor
/- THE CELL 'sum', in the pinned program and in every row, IS THE sha256 OF THE DUMP (.gsa) THAT YtblfmokklfhklaaGreatDoorProg.lean LOADS. Nothing in Lean hashes anything: it is a label: what it is worth is what the hold of that sum in a sandbox is worth. -/
noncomputable def Tryz.pinned : Pinned := { name := "ytblfmokklfhklaagreatdoor", sum := "76a154b418d3e803a0594549ae2ef090763388864f3a6a525984217e5ccab575", checked := Tryz.checked }
namespace Rows
def none {H : Type} : Left H := { results := [], args := [] }

/- WHAT THE LISTED PACKAGE-LEVEL VARIABLES READ AS WHEN THE CALL BEGINS. Each datum BY PROGRAM (the guide's laid-datum.mjs) off the statement by which the dump's own 'gosem.cut.vars' lays the variable. In a bare row this is a premise. The card (YtblfmokklfhklaaGreatDoorCards.lean) ties it to the program's text. -/
def laid_dromond_asb_errForm {H : Type} : DataW H := .iface "*errors.errorString" (.ptr (.agg [.lit (.string [102, 111, 114, 109])]))

/-- 'dromondlaw15.AsbBuilds': WHATEVER THE INPUT: true; the input reads as it did. -/
def asbBuildsSpec : ChangeSpec := { name := "asbBuilds", fn := fun _ => fun
  | [d] => { results := [.lit (.bool true)], args := [d] }
  | _ => none }
def asbBuildsRow : OpenClaim := { program := "ytblfmokklfhklaagreatdoor", sum := "76a154b418d3e803a0594549ae2ef090763388864f3a6a525984217e5ccab575", func := "dromond/dromondlaw15.AsbBuilds", spec := "asbBuilds", inPlace := ["internal/reflectlite.TypeOf"], unfollowed := true, recurses := true, named := ["dromond/asb.errForm"], loops := true, apart := false, laid := [("dromond/asb.errForm", laid_dromond_asb_errForm)] }
def AsbBuildsSaid : Prop := asbBuildsRow.holds Tryz.pinned (OpenSpec.ofChange asbBuildsSpec)

/-- ITS FALSE NEIGHBOUR: 'it returns false'. Refute it at one input. -/
def asbBuildsWrong : ChangeSpec := { name := "asbBuilds", fn := fun _ => fun
  | [d] => { results := [.lit (.bool false)], args := [d] }
  | _ => none }
def AsbBuildsWrongFalsely : Prop := asbBuildsRow.holds Tryz.pinned (OpenSpec.ofChange asbBuildsWrong)

/-- 'dromondlaw15.AsbParses': WHATEVER THE INPUT: true; the input reads as it did. -/
def asbParsesSpec : ChangeSpec := { name := "asbParses", fn := fun _ => fun
  | [d] => { results := [.lit (.bool true)], args := [d] }
  | _ => none }
def asbParsesRow : OpenClaim := { program := "ytblfmokklfhklaagreatdoor", sum := "76a154b418d3e803a0594549ae2ef090763388864f3a6a525984217e5ccab575", func := "dromond/dromondlaw15.AsbParses", spec := "asbParses", inPlace := ["internal/reflectlite.TypeOf"], unfollowed := true, recurses := true, named := ["dromond/asb.errForm"], apart := false, laid := [("dromond/asb.errForm", laid_dromond_asb_errForm)] }
def AsbParsesSaid : Prop := asbParsesRow.holds Tryz.pinned (OpenSpec.ofChange asbParsesSpec)

/-- ITS FALSE NEIGHBOUR: 'it returns false'. Refute it at one input. -/
def asbParsesWrong : ChangeSpec := { name := "asbParses", fn := fun _ => fun
  | [d] => { results := [.lit (.bool false)], args := [d] }
  | _ => none }
def AsbParsesWrongFalsely : Prop := asbParsesRow.holds Tryz.pinned (OpenSpec.ofChange asbParsesWrong)

/- THE SECOND FORM. 'bulk': how many values and letters a reading holds, each counted each time it is reached (what is shared counts as often as it is met; a slice's spare places count too). A statement '..UptoSaid' is the law's where the arguments, and the package variables that the reading takes, are together of bulk at most 1048576: NARROWER than '..Said'. Prove '..Said' where nothing that the law and all that it calls make is longer than what came in: it says more and counts as full. Else prove '..UptoSaid'. A law counts once. -/
mutual
def uptoBulk {H : Type} : DataW H → Nat
  | .lit (.string bytes) => bytes.length + 1
  | .lit _ => 1
  | .nil => 1
  | .ptr d => uptoBulk d + 1
  | .slice elems spare => uptoBulkAll elems + uptoBulkAll spare + 1
  | .agg parts => uptoBulkAll parts + 1
  | .iface _ d => uptoBulk d + 1
  | .map entries => uptoBulkEntries entries + 1
  | .held _ => 1
def uptoBulkAll {H : Type} : List (DataW H) → Nat
  | [] => 0
  | d :: r => uptoBulk d + uptoBulkAll r
def uptoBulkEntries {H : Type} : List (Lit × DataW H) → Nat
  | [] => 0
  | x :: r => uptoBulkEntry x + uptoBulkEntries r
def uptoBulkEntry {H : Type} : Lit × DataW H → Nat
  | (.string bytes, d) => bytes.length + uptoBulk d + 1
  | (_, d) => uptoBulk d + 1
 end
def uptoSmall : (H : Type) → List (DataW H) → Bool := fun _ ds => decide (uptoBulkAll ds ≤ 1048576)
def OpenSpec.upto (s : _root_.Go.ChangeSpec) : _root_.Go.OpenSpec := { _root_.Go.OpenSpec.ofChange s with cond := some uptoSmall }

/-- 'dromondlaw15.AsbBuilds', WHERE WHAT IT READS IS OF BULK AT MOST 1048576: true; the input reads as it did. -/
def asbBuildsUptoRow : OpenClaim := { program := "ytblfmokklfhklaagreatdoor", sum := "76a154b418d3e803a0594549ae2ef090763388864f3a6a525984217e5ccab575", func := "dromond/dromondlaw15.AsbBuilds", spec := "asbBuilds", inPlace := ["internal/reflectlite.TypeOf"], unfollowed := true, recurses := true, named := ["dromond/asb.errForm"], loops := true, apart := false, laid := [("dromond/asb.errForm", laid_dromond_asb_errForm)], narrowed := true }
def AsbBuildsUptoSaid : Prop := asbBuildsUptoRow.holds Tryz.pinned (OpenSpec.upto asbBuildsSpec)

/-- 'dromondlaw15.AsbParses', WHERE WHAT IT READS IS OF BULK AT MOST 1048576: true; the input reads as it did. -/
def asbParsesUptoRow : OpenClaim := { program := "ytblfmokklfhklaagreatdoor", sum := "76a154b418d3e803a0594549ae2ef090763388864f3a6a525984217e5ccab575", func := "dromond/dromondlaw15.AsbParses", spec := "asbParses", inPlace := ["internal/reflectlite.TypeOf"], unfollowed := true, recurses := true, named := ["dromond/asb.errForm"], apart := false, laid := [("dromond/asb.errForm", laid_dromond_asb_errForm)], narrowed := true }
def AsbParsesUptoSaid : Prop := asbParsesUptoRow.holds Tryz.pinned (OpenSpec.upto asbParsesSpec)

end Rows
end Go.Proofs.YtblfmokklfhklaaGreatDoor
