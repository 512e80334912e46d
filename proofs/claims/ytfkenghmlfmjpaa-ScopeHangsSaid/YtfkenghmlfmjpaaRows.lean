/-
  No cell of these rows narrows 'for every input' (looked for: loops, veiled, ifaces, maps, wideKeys, modest, calm, conditions, laid).
  DERIVED. THE GIVEN ROWS OF THIS SEAT. 3 by the template 'for every input the law returns true; each argument reads behind the call as it read before'; 0 by the template 'total and deterministic' (their statements: YtfkenghmlfmjpaaTotals.lean).
  GIVEN WITH THE SEED: the statements are not yours to turn. If you find one false, say at which input.
  Laid BY PROGRAM, IN A SANDBOX (cutbox-rows.mjs): the forced cells as the released guide's own fill.sh prints them over the translation 6b9dfaf0afff3ed9… (all of the seat's roots in one cut). By AI agents, Wed Nov 11 2026. No macro, syntax, notation, axiom, sorry.
-/
import Derived.Test.YtfkenghmlfmjpaaChecked
import GoSem.Claim
import GoSem.ClaimJoined
import GoSem.ClaimMapViews
import Derived.JoinedTies
import Derived.KernelRfl
namespace Go.Proofs.Ytfkenghmlfmjpaa
/- THE CELL 'sum', in the pinned program and in every row, IS THE sha256 OF THE DUMP (.gsa) THAT YtfkenghmlfmjpaaProg.lean LOADS. Nothing in Lean hashes anything: it is a label: what it is worth is what the hold of that sum in a sandbox is worth. -/
noncomputable def Try.pinned : Pinned := { name := "ytfkenghmlfmjpaa", sum := "6b9dfaf0afff3ed968a93d44b62f2891cfe19f8ab00ed16e2efd2b228d26663a", checked := Try.checked }
namespace Rows
def none {H : Type} : Left H := { results := [], args := [] }

/-- 'dromondlaw16.ScopeHangs': WHATEVER THE INPUT: true; the input reads as it did. -/
def scopeHangsSpec : ChangeSpec := { name := "scopeHangs", fn := fun _ => fun
  | [d1, d2, d3] => { results := [.lit (.bool true)], args := [d1, d2, d3] }
  | _ => none }
def scopeHangsRow : OpenClaim := { program := "ytfkenghmlfmjpaa", sum := "6b9dfaf0afff3ed968a93d44b62f2891cfe19f8ab00ed16e2efd2b228d26663a", func := "dromond/dromondlaw16.ScopeHangs", spec := "scopeHangs", inPlace := ["internal/abi.NoEscape", "internal/bytealg.MakeNoZero"], unfollowed := true, recurses := true, apart := false }
def ScopeHangsSaid : Prop := scopeHangsRow.holds Try.pinned (OpenSpec.ofChange scopeHangsSpec)

/-- ITS FALSE NEIGHBOUR: 'it returns false'. Refute it at one input. -/
def scopeHangsWrong : ChangeSpec := { name := "scopeHangs", fn := fun _ => fun
  | [d1, d2, d3] => { results := [.lit (.bool false)], args := [d1, d2, d3] }
  | _ => none }
def ScopeHangsWrongFalsely : Prop := scopeHangsRow.holds Try.pinned (OpenSpec.ofChange scopeHangsWrong)

/-- 'dromondlaw16.ScopeTexts': WHATEVER THE INPUT: true; the input reads as it did. -/
def scopeTextsSpec : ChangeSpec := { name := "scopeTexts", fn := fun _ => fun
  | [d1, d2, d3] => { results := [.lit (.bool true)], args := [d1, d2, d3] }
  | _ => none }
def scopeTextsRow : OpenClaim := { program := "ytfkenghmlfmjpaa", sum := "6b9dfaf0afff3ed968a93d44b62f2891cfe19f8ab00ed16e2efd2b228d26663a", func := "dromond/dromondlaw16.ScopeTexts", spec := "scopeTexts", inPlace := ["internal/abi.NoEscape", "internal/bytealg.MakeNoZero"], unfollowed := true, recurses := true, apart := false }
def ScopeTextsSaid : Prop := scopeTextsRow.holds Try.pinned (OpenSpec.ofChange scopeTextsSpec)

/-- ITS FALSE NEIGHBOUR: 'it returns false'. Refute it at one input. -/
def scopeTextsWrong : ChangeSpec := { name := "scopeTexts", fn := fun _ => fun
  | [d1, d2, d3] => { results := [.lit (.bool false)], args := [d1, d2, d3] }
  | _ => none }
def ScopeTextsWrongFalsely : Prop := scopeTextsRow.holds Try.pinned (OpenSpec.ofChange scopeTextsWrong)

/-- 'dromondlaw16.ScopeApart': WHATEVER THE INPUT: true; the input reads as it did. -/
def scopeApartSpec : ChangeSpec := { name := "scopeApart", fn := fun _ => fun
  | [d1, d2, d3] => { results := [.lit (.bool true)], args := [d1, d2, d3] }
  | _ => none }
def scopeApartRow : OpenClaim := { program := "ytfkenghmlfmjpaa", sum := "6b9dfaf0afff3ed968a93d44b62f2891cfe19f8ab00ed16e2efd2b228d26663a", func := "dromond/dromondlaw16.ScopeApart", spec := "scopeApart", inPlace := ["internal/abi.NoEscape", "internal/bytealg.MakeNoZero"], unfollowed := true, recurses := true, apart := false }
def ScopeApartSaid : Prop := scopeApartRow.holds Try.pinned (OpenSpec.ofChange scopeApartSpec)

/-- ITS FALSE NEIGHBOUR: 'it returns false'. Refute it at one input. -/
def scopeApartWrong : ChangeSpec := { name := "scopeApart", fn := fun _ => fun
  | [d1, d2, d3] => { results := [.lit (.bool false)], args := [d1, d2, d3] }
  | _ => none }
def ScopeApartWrongFalsely : Prop := scopeApartRow.holds Try.pinned (OpenSpec.ofChange scopeApartWrong)

/- THE SECOND FORM. 'bulk': how many values and letters a reading holds, each counted each time it is reached (what is shared counts as often as it is met; a slice's spare places count too). A statement '..UptoSaid' is the law's where the arguments, and the package variables that the reading takes, are together of bulk at most 1048576: NARROWER than '..Said'. Prove '..Said' where nothing that the law and all that it calls make is longer than what came in: it says more and counts as full. Else prove '..UptoSaid'. A law counts once. -/
mutual
def uptoBulk {H : Type} : DataW H → Nat
  | .lit (.string bytes) => bytes.length + 1
  | .lit _ => 1
  | .nil => 1
  | .ptr d => uptoBulk d + 1
  | .slice elems spare => uptoBulkAll elems + uptoBulkAll spare + 1
  | .agg parts => uptoBulkAll parts + 1
  | .iface _ d => uptoBulk d + 1
  | .map entries => uptoBulkEntries entries + 1
  | .held _ => 1
def uptoBulkAll {H : Type} : List (DataW H) → Nat
  | [] => 0
  | d :: r => uptoBulk d + uptoBulkAll r
def uptoBulkEntries {H : Type} : List (Lit × DataW H) → Nat
  | [] => 0
  | x :: r => uptoBulkEntry x + uptoBulkEntries r
def uptoBulkEntry {H : Type} : Lit × DataW H → Nat
  | (.string bytes, d) => bytes.length + uptoBulk d + 1
  | (_, d) => uptoBulk d + 1
 end
def uptoSmall : (H : Type) → List (DataW H) → Bool := fun _ ds => decide (uptoBulkAll ds ≤ 1048576)
def OpenSpec.upto (s : _root_.Go.ChangeSpec) : _root_.Go.OpenSpec := { _root_.Go.OpenSpec.ofChange s with cond := some uptoSmall }

/-- 'dromondlaw16.ScopeHangs', WHERE WHAT IT READS IS OF BULK AT MOST 1048576: true; the input reads as it did. -/
def scopeHangsUptoRow : OpenClaim := { program := "ytfkenghmlfmjpaa", sum := "6b9dfaf0afff3ed968a93d44b62f2891cfe19f8ab00ed16e2efd2b228d26663a", func := "dromond/dromondlaw16.ScopeHangs", spec := "scopeHangs", inPlace := ["internal/abi.NoEscape", "internal/bytealg.MakeNoZero"], unfollowed := true, recurses := true, apart := false, narrowed := true }
def ScopeHangsUptoSaid : Prop := scopeHangsUptoRow.holds Try.pinned (OpenSpec.upto scopeHangsSpec)

/-- 'dromondlaw16.ScopeTexts', WHERE WHAT IT READS IS OF BULK AT MOST 1048576: true; the input reads as it did. -/
def scopeTextsUptoRow : OpenClaim := { program := "ytfkenghmlfmjpaa", sum := "6b9dfaf0afff3ed968a93d44b62f2891cfe19f8ab00ed16e2efd2b228d26663a", func := "dromond/dromondlaw16.ScopeTexts", spec := "scopeTexts", inPlace := ["internal/abi.NoEscape", "internal/bytealg.MakeNoZero"], unfollowed := true, recurses := true, apart := false, narrowed := true }
def ScopeTextsUptoSaid : Prop := scopeTextsUptoRow.holds Try.pinned (OpenSpec.upto scopeTextsSpec)

/-- 'dromondlaw16.ScopeApart', WHERE WHAT IT READS IS OF BULK AT MOST 1048576: true; the input reads as it did. -/
def scopeApartUptoRow : OpenClaim := { program := "ytfkenghmlfmjpaa", sum := "6b9dfaf0afff3ed968a93d44b62f2891cfe19f8ab00ed16e2efd2b228d26663a", func := "dromond/dromondlaw16.ScopeApart", spec := "scopeApart", inPlace := ["internal/abi.NoEscape", "internal/bytealg.MakeNoZero"], unfollowed := true, recurses := true, apart := false, narrowed := true }
def ScopeApartUptoSaid : Prop := scopeApartUptoRow.holds Try.pinned (OpenSpec.upto scopeApartSpec)

end Rows
end Go.Proofs.Ytfkenghmlfmjpaa
