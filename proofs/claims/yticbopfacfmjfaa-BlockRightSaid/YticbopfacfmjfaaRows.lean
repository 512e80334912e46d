/-
  No cell of these rows narrows 'for every input' (looked for: loops, veiled, ifaces, maps, wideKeys, modest, calm, conditions, laid).
  DERIVED. THE GIVEN ROWS OF THIS SEAT. 2 by the template 'for every input the law returns true; each argument reads behind the call as it read before'; 0 by the template 'total and deterministic' (their statements: YticbopfacfmjfaaTotals.lean).
  GIVEN WITH THE SEED: the statements are not yours to turn. If you find one false, say at which input.
  Laid BY PROGRAM, IN A SANDBOX (cutbox-rows.mjs): the forced cells as the released guide's own fill.sh prints them over the translation c4e032aeb63c0992… (all of the seat's roots in one cut). By AI agents, Wed Nov 11 2026. No macro, syntax, notation, axiom, sorry.
-/
import Derived.Test.YticbopfacfmjfaaChecked
import GoSem.Claim
import GoSem.ClaimJoined
import GoSem.ClaimMapViews
import Derived.JoinedTies
import Derived.KernelRfl
namespace Go.Proofs.Yticbopfacfmjfaa
/- THE CELL 'sum', in the pinned program and in every row, IS THE sha256 OF THE DUMP (.gsa) THAT YticbopfacfmjfaaProg.lean LOADS. Nothing in Lean hashes anything: it is a label: what it is worth is what the hold of that sum in a sandbox is worth. -/
noncomputable def Try.pinned : Pinned := { name := "yticbopfacfmjfaa", sum := "c4e032aeb63c0992d2f9f2c037f406407a2272c46b915bceb45bc821910b2c97", checked := Try.checked }
namespace Rows
def none {H : Type} : Left H := { results := [], args := [] }

/-- 'dromondlaw12.BlockRight': WHATEVER THE INPUT: true; the input reads as it did. -/
def blockRightSpec : ChangeSpec := { name := "blockRight", fn := fun _ => fun
  | [d1, d2] => { results := [.lit (.bool true)], args := [d1, d2] }
  | _ => none }
def blockRightRow : OpenClaim := { program := "yticbopfacfmjfaa", sum := "c4e032aeb63c0992d2f9f2c037f406407a2272c46b915bceb45bc821910b2c97", func := "dromond/dromondlaw12.BlockRight", spec := "blockRight", inPlace := ["internal/abi.NoEscape", "internal/bytealg.MakeNoZero"], recurses := true, apart := false }
def BlockRightSaid : Prop := blockRightRow.holds Try.pinned (OpenSpec.ofChange blockRightSpec)

/-- ITS FALSE NEIGHBOUR: 'it returns false'. Refute it at one input. -/
def blockRightWrong : ChangeSpec := { name := "blockRight", fn := fun _ => fun
  | [d1, d2] => { results := [.lit (.bool false)], args := [d1, d2] }
  | _ => none }
def BlockRightWrongFalsely : Prop := blockRightRow.holds Try.pinned (OpenSpec.ofChange blockRightWrong)

/-- 'dromondlaw12.BlockHeaders': WHATEVER THE INPUT: true; the input reads as it did. -/
def blockHeadersSpec : ChangeSpec := { name := "blockHeaders", fn := fun _ => fun
  | [d1, d2] => { results := [.lit (.bool true)], args := [d1, d2] }
  | _ => none }
def blockHeadersRow : OpenClaim := { program := "yticbopfacfmjfaa", sum := "c4e032aeb63c0992d2f9f2c037f406407a2272c46b915bceb45bc821910b2c97", func := "dromond/dromondlaw12.BlockHeaders", spec := "blockHeaders", inPlace := ["internal/abi.NoEscape", "internal/bytealg.MakeNoZero"], recurses := true, apart := false }
def BlockHeadersSaid : Prop := blockHeadersRow.holds Try.pinned (OpenSpec.ofChange blockHeadersSpec)

/-- ITS FALSE NEIGHBOUR: 'it returns false'. Refute it at one input. -/
def blockHeadersWrong : ChangeSpec := { name := "blockHeaders", fn := fun _ => fun
  | [d1, d2] => { results := [.lit (.bool false)], args := [d1, d2] }
  | _ => none }
def BlockHeadersWrongFalsely : Prop := blockHeadersRow.holds Try.pinned (OpenSpec.ofChange blockHeadersWrong)

/- THE SECOND FORM. 'bulk': how many values and letters a reading holds, each counted each time it is reached (what is shared counts as often as it is met; a slice's spare places count too). A statement '..UptoSaid' is the law's where the arguments, and the package variables that the reading takes, are together of bulk at most 1048576: NARROWER than '..Said'. Prove '..Said' where nothing that the law and all that it calls make is longer than what came in: it says more and counts as full. Else prove '..UptoSaid'. A law counts once. -/
mutual
def uptoBulk {H : Type} : DataW H → Nat
  | .lit (.string bytes) => bytes.length + 1
  | .lit _ => 1
  | .nil => 1
  | .ptr d => uptoBulk d + 1
  | .slice elems spare => uptoBulkAll elems + uptoBulkAll spare + 1
  | .agg parts => uptoBulkAll parts + 1
  | .iface _ d => uptoBulk d + 1
  | .map entries => uptoBulkEntries entries + 1
  | .held _ => 1
def uptoBulkAll {H : Type} : List (DataW H) → Nat
  | [] => 0
  | d :: r => uptoBulk d + uptoBulkAll r
def uptoBulkEntries {H : Type} : List (Lit × DataW H) → Nat
  | [] => 0
  | x :: r => uptoBulkEntry x + uptoBulkEntries r
def uptoBulkEntry {H : Type} : Lit × DataW H → Nat
  | (.string bytes, d) => bytes.length + uptoBulk d + 1
  | (_, d) => uptoBulk d + 1
 end
def uptoSmall : (H : Type) → List (DataW H) → Bool := fun _ ds => decide (uptoBulkAll ds ≤ 1048576)
def OpenSpec.upto (s : _root_.Go.ChangeSpec) : _root_.Go.OpenSpec := { _root_.Go.OpenSpec.ofChange s with cond := some uptoSmall }

/-- 'dromondlaw12.BlockRight', WHERE WHAT IT READS IS OF BULK AT MOST 1048576: true; the input reads as it did. -/
def blockRightUptoRow : OpenClaim := { program := "yticbopfacfmjfaa", sum := "c4e032aeb63c0992d2f9f2c037f406407a2272c46b915bceb45bc821910b2c97", func := "dromond/dromondlaw12.BlockRight", spec := "blockRight", inPlace := ["internal/abi.NoEscape", "internal/bytealg.MakeNoZero"], recurses := true, apart := false, narrowed := true }
def BlockRightUptoSaid : Prop := blockRightUptoRow.holds Try.pinned (OpenSpec.upto blockRightSpec)

/-- 'dromondlaw12.BlockHeaders', WHERE WHAT IT READS IS OF BULK AT MOST 1048576: true; the input reads as it did. -/
def blockHeadersUptoRow : OpenClaim := { program := "yticbopfacfmjfaa", sum := "c4e032aeb63c0992d2f9f2c037f406407a2272c46b915bceb45bc821910b2c97", func := "dromond/dromondlaw12.BlockHeaders", spec := "blockHeaders", inPlace := ["internal/abi.NoEscape", "internal/bytealg.MakeNoZero"], recurses := true, apart := false, narrowed := true }
def BlockHeadersUptoSaid : Prop := blockHeadersUptoRow.holds Try.pinned (OpenSpec.upto blockHeadersSpec)

end Rows
end Go.Proofs.Yticbopfacfmjfaa
