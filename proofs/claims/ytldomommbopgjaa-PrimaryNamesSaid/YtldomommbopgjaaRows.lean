/-
  No cell of these rows narrows 'for every input' (looked for: loops, veiled, ifaces, maps, wideKeys, modest, calm, conditions, laid).
  DERIVED. THE GIVEN ROWS OF THIS SEAT. 3 by the template 'for every input the law returns true; each argument reads behind the call as it read before'; 0 by the template 'total and deterministic' (their statements: YtldomommbopgjaaTotals.lean).
  GIVEN WITH THE SEED: the statements are not yours to turn. If you find one false, say at which input.
  Laid BY PROGRAM, IN A SANDBOX (cutbox-rows.mjs): the forced cells as the released guide's own fill.sh prints them over the translation 0214d948fb02a51e… (all of the seat's roots in one cut). By AI agents, Wed Nov 11 2026. No macro, syntax, notation, axiom, sorry.
-/
import Derived.Test.YtldomommbopgjaaChecked
import GoSem.Claim
import GoSem.ClaimJoined
import GoSem.ClaimMapViews
import Derived.JoinedTies
import Derived.KernelRfl
namespace Go.Proofs.Ytldomommbopgjaa
/- THE CELL 'sum', in the pinned program and in every row, IS THE sha256 OF THE DUMP (.gsa) THAT YtldomommbopgjaaProg.lean LOADS. Nothing in Lean hashes anything: it is a label: what it is worth is what the hold of that sum in a sandbox is worth. -/
noncomputable def Try.pinned : Pinned := { name := "ytldomommbopgjaa", sum := "0214d948fb02a51e690bf9891523ab6ccf64543847502f35f79aa9ad1383bc0f", checked := Try.checked }
namespace Rows
def none {H : Type} : Left H := { results := [], args := [] }

/-- 'dromondlaw11.PrimaryNames': WHATEVER THE INPUT: true; the input reads as it did. -/
def primaryNamesSpec : ChangeSpec := { name := "primaryNames", fn := fun _ => fun
  | [d1, d2] => { results := [.lit (.bool true)], args := [d1, d2] }
  | _ => none }
def primaryNamesRow : OpenClaim := { program := "ytldomommbopgjaa", sum := "0214d948fb02a51e690bf9891523ab6ccf64543847502f35f79aa9ad1383bc0f", func := "dromond/dromondlaw11.PrimaryNames", spec := "primaryNames", inPlace := ["internal/abi.NoEscape", "internal/bytealg.MakeNoZero"], recurses := true, apart := false }
def PrimaryNamesSaid : Prop := primaryNamesRow.holds Try.pinned (OpenSpec.ofChange primaryNamesSpec)

/-- ITS FALSE NEIGHBOUR: 'it returns false'. Refute it at one input. -/
def primaryNamesWrong : ChangeSpec := { name := "primaryNames", fn := fun _ => fun
  | [d1, d2] => { results := [.lit (.bool false)], args := [d1, d2] }
  | _ => none }
def PrimaryNamesWrongFalsely : Prop := primaryNamesRow.holds Try.pinned (OpenSpec.ofChange primaryNamesWrong)

/-- 'dromondlaw11.PrimaryBits': WHATEVER THE INPUT: true; the input reads as it did. -/
def primaryBitsSpec : ChangeSpec := { name := "primaryBits", fn := fun _ => fun
  | [d1, d2] => { results := [.lit (.bool true)], args := [d1, d2] }
  | _ => none }
def primaryBitsRow : OpenClaim := { program := "ytldomommbopgjaa", sum := "0214d948fb02a51e690bf9891523ab6ccf64543847502f35f79aa9ad1383bc0f", func := "dromond/dromondlaw11.PrimaryBits", spec := "primaryBits", inPlace := ["internal/abi.NoEscape", "internal/bytealg.MakeNoZero"], recurses := true, apart := false }
def PrimaryBitsSaid : Prop := primaryBitsRow.holds Try.pinned (OpenSpec.ofChange primaryBitsSpec)

/-- ITS FALSE NEIGHBOUR: 'it returns false'. Refute it at one input. -/
def primaryBitsWrong : ChangeSpec := { name := "primaryBits", fn := fun _ => fun
  | [d1, d2] => { results := [.lit (.bool false)], args := [d1, d2] }
  | _ => none }
def PrimaryBitsWrongFalsely : Prop := primaryBitsRow.holds Try.pinned (OpenSpec.ofChange primaryBitsWrong)

/-- 'dromondlaw11.PrimaryBack': WHATEVER THE INPUT: true; the input reads as it did. -/
def primaryBackSpec : ChangeSpec := { name := "primaryBack", fn := fun _ => fun
  | [d1, d2] => { results := [.lit (.bool true)], args := [d1, d2] }
  | _ => none }
def primaryBackRow : OpenClaim := { program := "ytldomommbopgjaa", sum := "0214d948fb02a51e690bf9891523ab6ccf64543847502f35f79aa9ad1383bc0f", func := "dromond/dromondlaw11.PrimaryBack", spec := "primaryBack", inPlace := ["internal/abi.NoEscape", "internal/bytealg.MakeNoZero"], recurses := true, apart := false }
def PrimaryBackSaid : Prop := primaryBackRow.holds Try.pinned (OpenSpec.ofChange primaryBackSpec)

/-- ITS FALSE NEIGHBOUR: 'it returns false'. Refute it at one input. -/
def primaryBackWrong : ChangeSpec := { name := "primaryBack", fn := fun _ => fun
  | [d1, d2] => { results := [.lit (.bool false)], args := [d1, d2] }
  | _ => none }
def PrimaryBackWrongFalsely : Prop := primaryBackRow.holds Try.pinned (OpenSpec.ofChange primaryBackWrong)

/- THE SECOND FORM. 'bulk': how many values and letters a reading holds, each counted each time it is reached (what is shared counts as often as it is met; a slice's spare places count too). A statement '..UptoSaid' is the law's where the arguments, and the package variables that the reading takes, are together of bulk at most 1048576: NARROWER than '..Said'. Prove '..Said' where nothing that the law and all that it calls make is longer than what came in: it says more and counts as full. Else prove '..UptoSaid'. A law counts once. -/
mutual
def uptoBulk {H : Type} : DataW H → Nat
  | .lit (.string bytes) => bytes.length + 1
  | .lit _ => 1
  | .nil => 1
  | .ptr d => uptoBulk d + 1
  | .slice elems spare => uptoBulkAll elems + uptoBulkAll spare + 1
  | .agg parts => uptoBulkAll parts + 1
  | .iface _ d => uptoBulk d + 1
  | .map entries => uptoBulkEntries entries + 1
  | .held _ => 1
def uptoBulkAll {H : Type} : List (DataW H) → Nat
  | [] => 0
  | d :: r => uptoBulk d + uptoBulkAll r
def uptoBulkEntries {H : Type} : List (Lit × DataW H) → Nat
  | [] => 0
  | x :: r => uptoBulkEntry x + uptoBulkEntries r
def uptoBulkEntry {H : Type} : Lit × DataW H → Nat
  | (.string bytes, d) => bytes.length + uptoBulk d + 1
  | (_, d) => uptoBulk d + 1
 end
def uptoSmall : (H : Type) → List (DataW H) → Bool := fun _ ds => decide (uptoBulkAll ds ≤ 1048576)
def OpenSpec.upto (s : _root_.Go.ChangeSpec) : _root_.Go.OpenSpec := { _root_.Go.OpenSpec.ofChange s with cond := some uptoSmall }

/-- 'dromondlaw11.PrimaryNames', WHERE WHAT IT READS IS OF BULK AT MOST 1048576: true; the input reads as it did. -/
def primaryNamesUptoRow : OpenClaim := { program := "ytldomommbopgjaa", sum := "0214d948fb02a51e690bf9891523ab6ccf64543847502f35f79aa9ad1383bc0f", func := "dromond/dromondlaw11.PrimaryNames", spec := "primaryNames", inPlace := ["internal/abi.NoEscape", "internal/bytealg.MakeNoZero"], recurses := true, apart := false, narrowed := true }
def PrimaryNamesUptoSaid : Prop := primaryNamesUptoRow.holds Try.pinned (OpenSpec.upto primaryNamesSpec)

/-- 'dromondlaw11.PrimaryBits', WHERE WHAT IT READS IS OF BULK AT MOST 1048576: true; the input reads as it did. -/
def primaryBitsUptoRow : OpenClaim := { program := "ytldomommbopgjaa", sum := "0214d948fb02a51e690bf9891523ab6ccf64543847502f35f79aa9ad1383bc0f", func := "dromond/dromondlaw11.PrimaryBits", spec := "primaryBits", inPlace := ["internal/abi.NoEscape", "internal/bytealg.MakeNoZero"], recurses := true, apart := false, narrowed := true }
def PrimaryBitsUptoSaid : Prop := primaryBitsUptoRow.holds Try.pinned (OpenSpec.upto primaryBitsSpec)

/-- 'dromondlaw11.PrimaryBack', WHERE WHAT IT READS IS OF BULK AT MOST 1048576: true; the input reads as it did. -/
def primaryBackUptoRow : OpenClaim := { program := "ytldomommbopgjaa", sum := "0214d948fb02a51e690bf9891523ab6ccf64543847502f35f79aa9ad1383bc0f", func := "dromond/dromondlaw11.PrimaryBack", spec := "primaryBack", inPlace := ["internal/abi.NoEscape", "internal/bytealg.MakeNoZero"], recurses := true, apart := false, narrowed := true }
def PrimaryBackUptoSaid : Prop := primaryBackUptoRow.holds Try.pinned (OpenSpec.upto primaryBackSpec)

end Rows
end Go.Proofs.Ytldomommbopgjaa
