/-
  No cell of these rows narrows 'for every input' (looked for: loops, veiled, ifaces, maps, wideKeys, modest, calm, conditions, laid).
  DERIVED. THE GIVEN ROWS OF THIS SEAT. 5 by the template 'for every input the law returns true; each argument reads behind the call as it read before'; 0 by the template 'total and deterministic' (their statements: YtcajjhmldghakaaGreatTotals.lean).
  GIVEN WITH THE SEED: the statements are not yours to turn. If you find one false, say at which input.
  Laid BY PROGRAM, IN A SANDBOX (cutbox-rows.mjs): the forced cells as the released guide's own fill.sh prints them over the translation e462b08fefcd52d2… (all of the seat's roots in one cut). By AI agents, Wed Nov 11 2026. No macro, syntax, notation, axiom, sorry.
-/
import Derived.Test.YtcajjhmldghakaaGreatChecked
import GoSem.Claim
import GoSem.ClaimJoined
import GoSem.ClaimMapViews
import Derived.JoinedTies
import Derived.KernelRfl
namespace Go.Proofs.YtcajjhmldghakaaGreat
/- THE CELL 'sum', in the pinned program and in every row, IS THE sha256 OF THE DUMP (.gsa) THAT YtcajjhmldghakaaGreatProg.lean LOADS. Nothing in Lean hashes anything: it is a label: what it is worth is what the hold of that sum in a sandbox is worth. -/
noncomputable def Tryz.pinned : Pinned := { name := "ytcajjhmldghakaagreat", sum := "e462b08fefcd52d2f8948aedec9f4cf20a4e31776e1fbd651e8022c583dc58fd", checked := Tryz.checked }
namespace Rows
def none {H : Type} : Left H := { results := [], args := [] }

/-- 'dromondlaw13.BundleRight': WHATEVER THE INPUT: true; the input reads as it did. -/
def bundleRightSpec : ChangeSpec := { name := "bundleRight", fn := fun _ => fun
  | [d] => { results := [.lit (.bool true)], args := [d] }
  | _ => none }
def bundleRightRow : OpenClaim := { program := "ytcajjhmldghakaagreat", sum := "e462b08fefcd52d2f8948aedec9f4cf20a4e31776e1fbd651e8022c583dc58fd", func := "dromond/dromondlaw13.BundleRight", spec := "bundleRight", inPlace := ["internal/abi.NoEscape", "internal/bytealg.MakeNoZero"], unfollowed := true, recurses := true, apart := false }
def BundleRightSaid : Prop := bundleRightRow.holds Tryz.pinned (OpenSpec.ofChange bundleRightSpec)

/-- ITS FALSE NEIGHBOUR: 'it returns false'. Refute it at one input. -/
def bundleRightWrong : ChangeSpec := { name := "bundleRight", fn := fun _ => fun
  | [d] => { results := [.lit (.bool false)], args := [d] }
  | _ => none }
def BundleRightWrongFalsely : Prop := bundleRightRow.holds Tryz.pinned (OpenSpec.ofChange bundleRightWrong)

/-- 'dromondlaw13.BundleUndo': WHATEVER THE INPUT: true; the input reads as it did. -/
def bundleUndoSpec : ChangeSpec := { name := "bundleUndo", fn := fun _ => fun
  | [d1, d2] => { results := [.lit (.bool true)], args := [d1, d2] }
  | _ => none }
def bundleUndoRow : OpenClaim := { program := "ytcajjhmldghakaagreat", sum := "e462b08fefcd52d2f8948aedec9f4cf20a4e31776e1fbd651e8022c583dc58fd", func := "dromond/dromondlaw13.BundleUndo", spec := "bundleUndo", inPlace := ["internal/abi.NoEscape", "internal/bytealg.MakeNoZero", "slices.overlaps[dromond/api.Block]"], unfollowed := true, recurses := true, apart := false }
def BundleUndoSaid : Prop := bundleUndoRow.holds Tryz.pinned (OpenSpec.ofChange bundleUndoSpec)

/-- ITS FALSE NEIGHBOUR: 'it returns false'. Refute it at one input. -/
def bundleUndoWrong : ChangeSpec := { name := "bundleUndo", fn := fun _ => fun
  | [d1, d2] => { results := [.lit (.bool false)], args := [d1, d2] }
  | _ => none }
def BundleUndoWrongFalsely : Prop := bundleUndoRow.holds Tryz.pinned (OpenSpec.ofChange bundleUndoWrong)

/-- 'dromondlaw13.BundleEdits': WHATEVER THE INPUT: true; the input reads as it did. -/
def bundleEditsSpec : ChangeSpec := { name := "bundleEdits", fn := fun _ => fun
  | [d1, d2, d3] => { results := [.lit (.bool true)], args := [d1, d2, d3] }
  | _ => none }
def bundleEditsRow : OpenClaim := { program := "ytcajjhmldghakaagreat", sum := "e462b08fefcd52d2f8948aedec9f4cf20a4e31776e1fbd651e8022c583dc58fd", func := "dromond/dromondlaw13.BundleEdits", spec := "bundleEdits", inPlace := ["internal/abi.NoEscape", "internal/bytealg.MakeNoZero", "slices.overlaps[dromond/api.Block]"], unfollowed := true, recurses := true, apart := false }
def BundleEditsSaid : Prop := bundleEditsRow.holds Tryz.pinned (OpenSpec.ofChange bundleEditsSpec)

/-- ITS FALSE NEIGHBOUR: 'it returns false'. Refute it at one input. -/
def bundleEditsWrong : ChangeSpec := { name := "bundleEdits", fn := fun _ => fun
  | [d1, d2, d3] => { results := [.lit (.bool false)], args := [d1, d2, d3] }
  | _ => none }
def BundleEditsWrongFalsely : Prop := bundleEditsRow.holds Tryz.pinned (OpenSpec.ofChange bundleEditsWrong)

/-- 'dromondlaw13.BundleBack': WHATEVER THE INPUT: true; the input reads as it did. -/
def bundleBackSpec : ChangeSpec := { name := "bundleBack", fn := fun _ => fun
  | [d] => { results := [.lit (.bool true)], args := [d] }
  | _ => none }
def bundleBackRow : OpenClaim := { program := "ytcajjhmldghakaagreat", sum := "e462b08fefcd52d2f8948aedec9f4cf20a4e31776e1fbd651e8022c583dc58fd", func := "dromond/dromondlaw13.BundleBack", spec := "bundleBack", inPlace := ["internal/abi.NoEscape", "internal/bytealg.MakeNoZero"], unfollowed := true, recurses := true, apart := false }
def BundleBackSaid : Prop := bundleBackRow.holds Tryz.pinned (OpenSpec.ofChange bundleBackSpec)

/-- ITS FALSE NEIGHBOUR: 'it returns false'. Refute it at one input. -/
def bundleBackWrong : ChangeSpec := { name := "bundleBack", fn := fun _ => fun
  | [d] => { results := [.lit (.bool false)], args := [d] }
  | _ => none }
def BundleBackWrongFalsely : Prop := bundleBackRow.holds Tryz.pinned (OpenSpec.ofChange bundleBackWrong)

/-- 'dromondlaw13.BundleLong': WHATEVER THE INPUT: true; the input reads as it did. -/
def bundleLongSpec : ChangeSpec := { name := "bundleLong", fn := fun _ => fun
  | [d1, d2] => { results := [.lit (.bool true)], args := [d1, d2] }
  | _ => none }
def bundleLongRow : OpenClaim := { program := "ytcajjhmldghakaagreat", sum := "e462b08fefcd52d2f8948aedec9f4cf20a4e31776e1fbd651e8022c583dc58fd", func := "dromond/dromondlaw13.BundleLong", spec := "bundleLong", inPlace := ["internal/abi.NoEscape", "internal/bytealg.MakeNoZero"], unfollowed := true, recurses := true, apart := false }
def BundleLongSaid : Prop := bundleLongRow.holds Tryz.pinned (OpenSpec.ofChange bundleLongSpec)

/-- ITS FALSE NEIGHBOUR: 'it returns false'. Refute it at one input. -/
def bundleLongWrong : ChangeSpec := { name := "bundleLong", fn := fun _ => fun
  | [d1, d2] => { results := [.lit (.bool false)], args := [d1, d2] }
  | _ => none }
def BundleLongWrongFalsely : Prop := bundleLongRow.holds Tryz.pinned (OpenSpec.ofChange bundleLongWrong)

/- THE SECOND FORM. 'bulk': how many values and letters a reading holds, each counted each time it is reached (what is shared counts as often as it is met; a slice's spare places count too). A statement '..UptoSaid' is the law's where the arguments, and the package variables that the reading takes, are together of bulk at most 1048576: NARROWER than '..Said'. Prove '..Said' where nothing that the law and all that it calls make is longer than what came in: it says more and counts as full. Else prove '..UptoSaid'. A law counts once. -/
mutual
def uptoBulk {H : Type} : DataW H → Nat
  | .lit (.string bytes) => bytes.length + 1
  | .lit _ => 1
  | .nil => 1
  | .ptr d => uptoBulk d + 1
  | .slice elems spare => uptoBulkAll elems + uptoBulkAll spare + 1
  | .agg parts => uptoBulkAll parts + 1
  | .iface _ d => uptoBulk d + 1
  | .map entries => uptoBulkEntries entries + 1
  | .held _ => 1
def uptoBulkAll {H : Type} : List (DataW H) → Nat
  | [] => 0
  | d :: r => uptoBulk d + uptoBulkAll r
def uptoBulkEntries {H : Type} : List (Lit × DataW H) → Nat
  | [] => 0
  | x :: r => uptoBulkEntry x + uptoBulkEntries r
def uptoBulkEntry {H : Type} : Lit × DataW H → Nat
  | (.string bytes, d) => bytes.length + uptoBulk d + 1
  | (_, d) => uptoBulk d + 1
 end
def uptoSmall : (H : Type) → List (DataW H) → Bool := fun _ ds => decide (uptoBulkAll ds ≤ 1048576)
def OpenSpec.upto (s : _root_.Go.ChangeSpec) : _root_.Go.OpenSpec := { _root_.Go.OpenSpec.ofChange s with cond := some uptoSmall }

/-- 'dromondlaw13.BundleRight', WHERE WHAT IT READS IS OF BULK AT MOST 1048576: true; the input reads as it did. -/
def bundleRightUptoRow : OpenClaim := { program := "ytcajjhmldghakaagreat", sum := "e462b08fefcd52d2f8948aedec9f4cf20a4e31776e1fbd651e8022c583dc58fd", func := "dromond/dromondlaw13.BundleRight", spec := "bundleRight", inPlace := ["internal/abi.NoEscape", "internal/bytealg.MakeNoZero"], unfollowed := true, recurses := true, apart := false, narrowed := true }
def BundleRightUptoSaid : Prop := bundleRightUptoRow.holds Tryz.pinned (OpenSpec.upto bundleRightSpec)

/-- 'dromondlaw13.BundleUndo', WHERE WHAT IT READS IS OF BULK AT MOST 1048576: true; the input reads as it did. -/
def bundleUndoUptoRow : OpenClaim := { program := "ytcajjhmldghakaagreat", sum := "e462b08fefcd52d2f8948aedec9f4cf20a4e31776e1fbd651e8022c583dc58fd", func := "dromond/dromondlaw13.BundleUndo", spec := "bundleUndo", inPlace := ["internal/abi.NoEscape", "internal/bytealg.MakeNoZero", "slices.overlaps[dromond/api.Block]"], unfollowed := true, recurses := true, apart := false, narrowed := true }
def BundleUndoUptoSaid : Prop := bundleUndoUptoRow.holds Tryz.pinned (OpenSpec.upto bundleUndoSpec)

/-- 'dromondlaw13.BundleEdits', WHERE WHAT IT READS IS OF BULK AT MOST 1048576: true; the input reads as it did. -/
def bundleEditsUptoRow : OpenClaim := { program := "ytcajjhmldghakaagreat", sum := "e462b08fefcd52d2f8948aedec9f4cf20a4e31776e1fbd651e8022c583dc58fd", func := "dromond/dromondlaw13.BundleEdits", spec := "bundleEdits", inPlace := ["internal/abi.NoEscape", "internal/bytealg.MakeNoZero", "slices.overlaps[dromond/api.Block]"], unfollowed := true, recurses := true, apart := false, narrowed := true }
def BundleEditsUptoSaid : Prop := bundleEditsUptoRow.holds Tryz.pinned (OpenSpec.upto bundleEditsSpec)

/-- 'dromondlaw13.BundleBack', WHERE WHAT IT READS IS OF BULK AT MOST 1048576: true; the input reads as it did. -/
def bundleBackUptoRow : OpenClaim := { program := "ytcajjhmldghakaagreat", sum := "e462b08fefcd52d2f8948aedec9f4cf20a4e31776e1fbd651e8022c583dc58fd", func := "dromond/dromondlaw13.BundleBack", spec := "bundleBack", inPlace := ["internal/abi.NoEscape", "internal/bytealg.MakeNoZero"], unfollowed := true, recurses := true, apart := false, narrowed := true }
def BundleBackUptoSaid : Prop := bundleBackUptoRow.holds Tryz.pinned (OpenSpec.upto bundleBackSpec)

/-- 'dromondlaw13.BundleLong', WHERE WHAT IT READS IS OF BULK AT MOST 1048576: true; the input reads as it did. -/
def bundleLongUptoRow : OpenClaim := { program := "ytcajjhmldghakaagreat", sum := "e462b08fefcd52d2f8948aedec9f4cf20a4e31776e1fbd651e8022c583dc58fd", func := "dromond/dromondlaw13.BundleLong", spec := "bundleLong", inPlace := ["internal/abi.NoEscape", "internal/bytealg.MakeNoZero"], unfollowed := true, recurses := true, apart := false, narrowed := true }
def BundleLongUptoSaid : Prop := bundleLongUptoRow.holds Tryz.pinned (OpenSpec.upto bundleLongSpec)

end Rows
end Go.Proofs.YtcajjhmldghakaaGreat
