/-
  No cell of these rows narrows 'for every input' (looked for: loops, veiled, ifaces, maps, wideKeys, modest, calm, conditions, laid).
  DERIVED. THE GIVEN ROWS OF THIS SEAT. 5 by the template 'for every input the law returns true; each argument reads behind the call as it read before'; 0 by the template 'total and deterministic' (their statements: YtkeabdfgacicaaaTotals.lean).
  GIVEN WITH THE SEED: the statements are not yours to turn. If you find one false, say at which input.
  Laid BY PROGRAM, IN A SANDBOX (cutbox-rows.mjs): the forced cells as the released guide's own fill.sh prints them over the translation b38fefc2bc9e0fb2… (all of the seat's roots in one cut). By AI agents, Wed Nov 11 2026. No macro, syntax, notation, axiom, sorry.
-/
import Derived.Test.YtkeabdfgacicaaaChecked
import GoSem.Claim
import GoSem.ClaimJoined
import GoSem.ClaimMapViews
import Derived.JoinedTies
import Derived.KernelRfl
namespace Go.Proofs.Ytkeabdfgacicaaa
/- THE CELL 'sum', in the pinned program and in every row, IS THE sha256 OF THE DUMP (.gsa) THAT YtkeabdfgacicaaaProg.lean LOADS. Nothing in Lean hashes anything: it is a label: what it is worth is what the hold of that sum in a sandbox is worth. -/
noncomputable def Try.pinned : Pinned := { name := "ytkeabdfgacicaaa", sum := "b38fefc2bc9e0fb2f5c28bb0d95fd2ed654b07c41ff212f880e78636e17d11f2", checked := Try.checked }
namespace Rows
def none {H : Type} : Left H := { results := [], args := [] }

/-- 'dromondlaw16.ScopeApart': WHATEVER THE INPUT: true; the input reads as it did. -/
def scopeApartSpec : ChangeSpec := { name := "scopeApart", fn := fun _ => fun
  | [d1, d2, d3] => { results := [.lit (.bool true)], args := [d1, d2, d3] }
  | _ => none }
def scopeApartRow : OpenClaim := { program := "ytkeabdfgacicaaa", sum := "b38fefc2bc9e0fb2f5c28bb0d95fd2ed654b07c41ff212f880e78636e17d11f2", func := "dromond/dromondlaw16.ScopeApart", spec := "scopeApart", inPlace := ["internal/abi.NoEscape", "internal/bytealg.MakeNoZero"], unfollowed := true, recurses := true, apart := false }
def ScopeApartSaid : Prop := scopeApartRow.holds Try.pinned (OpenSpec.ofChange scopeApartSpec)

/-- ITS FALSE NEIGHBOUR: 'it returns false'. Refute it at one input. -/
def scopeApartWrong : ChangeSpec := { name := "scopeApart", fn := fun _ => fun
  | [d1, d2, d3] => { results := [.lit (.bool false)], args := [d1, d2, d3] }
  | _ => none }
def ScopeApartWrongFalsely : Prop := scopeApartRow.holds Try.pinned (OpenSpec.ofChange scopeApartWrong)

/-- 'dromondlaw12.BlockBack': WHATEVER THE INPUT: true; the input reads as it did. -/
def blockBackSpec : ChangeSpec := { name := "blockBack", fn := fun _ => fun
  | [d] => { results := [.lit (.bool true)], args := [d] }
  | _ => none }
def blockBackRow : OpenClaim := { program := "ytkeabdfgacicaaa", sum := "b38fefc2bc9e0fb2f5c28bb0d95fd2ed654b07c41ff212f880e78636e17d11f2", func := "dromond/dromondlaw12.BlockBack", spec := "blockBack", inPlace := ["internal/abi.NoEscape", "internal/bytealg.MakeNoZero"], unfollowed := true, recurses := true, apart := false }
def BlockBackSaid : Prop := blockBackRow.holds Try.pinned (OpenSpec.ofChange blockBackSpec)

/-- ITS FALSE NEIGHBOUR: 'it returns false'. Refute it at one input. -/
def blockBackWrong : ChangeSpec := { name := "blockBack", fn := fun _ => fun
  | [d] => { results := [.lit (.bool false)], args := [d] }
  | _ => none }
def BlockBackWrongFalsely : Prop := blockBackRow.holds Try.pinned (OpenSpec.ofChange blockBackWrong)

/-- 'dromondlaw12.BlockBits': WHATEVER THE INPUT: true; the input reads as it did. -/
def blockBitsSpec : ChangeSpec := { name := "blockBits", fn := fun _ => fun
  | [d1, d2] => { results := [.lit (.bool true)], args := [d1, d2] }
  | _ => none }
def blockBitsRow : OpenClaim := { program := "ytkeabdfgacicaaa", sum := "b38fefc2bc9e0fb2f5c28bb0d95fd2ed654b07c41ff212f880e78636e17d11f2", func := "dromond/dromondlaw12.BlockBits", spec := "blockBits", inPlace := ["internal/abi.NoEscape", "internal/bytealg.MakeNoZero"], unfollowed := true, recurses := true, apart := false }
def BlockBitsSaid : Prop := blockBitsRow.holds Try.pinned (OpenSpec.ofChange blockBitsSpec)

/-- ITS FALSE NEIGHBOUR: 'it returns false'. Refute it at one input. -/
def blockBitsWrong : ChangeSpec := { name := "blockBits", fn := fun _ => fun
  | [d1, d2] => { results := [.lit (.bool false)], args := [d1, d2] }
  | _ => none }
def BlockBitsWrongFalsely : Prop := blockBitsRow.holds Try.pinned (OpenSpec.ofChange blockBitsWrong)

/-- 'dromondlaw11.PrimaryBits': WHATEVER THE INPUT: true; the input reads as it did. -/
def primaryBitsSpec : ChangeSpec := { name := "primaryBits", fn := fun _ => fun
  | [d1, d2] => { results := [.lit (.bool true)], args := [d1, d2] }
  | _ => none }
def primaryBitsRow : OpenClaim := { program := "ytkeabdfgacicaaa", sum := "b38fefc2bc9e0fb2f5c28bb0d95fd2ed654b07c41ff212f880e78636e17d11f2", func := "dromond/dromondlaw11.PrimaryBits", spec := "primaryBits", inPlace := ["internal/abi.NoEscape", "internal/bytealg.MakeNoZero"], recurses := true, apart := false }
def PrimaryBitsSaid : Prop := primaryBitsRow.holds Try.pinned (OpenSpec.ofChange primaryBitsSpec)

/-- ITS FALSE NEIGHBOUR: 'it returns false'. Refute it at one input. -/
def primaryBitsWrong : ChangeSpec := { name := "primaryBits", fn := fun _ => fun
  | [d1, d2] => { results := [.lit (.bool false)], args := [d1, d2] }
  | _ => none }
def PrimaryBitsWrongFalsely : Prop := primaryBitsRow.holds Try.pinned (OpenSpec.ofChange primaryBitsWrong)

/-- 'dromondlaw11.PrimaryBack': WHATEVER THE INPUT: true; the input reads as it did. -/
def primaryBackSpec : ChangeSpec := { name := "primaryBack", fn := fun _ => fun
  | [d1, d2] => { results := [.lit (.bool true)], args := [d1, d2] }
  | _ => none }
def primaryBackRow : OpenClaim := { program := "ytkeabdfgacicaaa", sum := "b38fefc2bc9e0fb2f5c28bb0d95fd2ed654b07c41ff212f880e78636e17d11f2", func := "dromond/dromondlaw11.PrimaryBack", spec := "primaryBack", inPlace := ["internal/abi.NoEscape", "internal/bytealg.MakeNoZero"], recurses := true, apart := false }
def PrimaryBackSaid : Prop := primaryBackRow.holds Try.pinned (OpenSpec.ofChange primaryBackSpec)

/-- ITS FALSE NEIGHBOUR: 'it returns false'. Refute it at one input. -/
def primaryBackWrong : ChangeSpec := { name := "primaryBack", fn := fun _ => fun
  | [d1, d2] => { results := [.lit (.bool false)], args := [d1, d2] }
  | _ => none }
def PrimaryBackWrongFalsely : Prop := primaryBackRow.holds Try.pinned (OpenSpec.ofChange primaryBackWrong)

/- THE SECOND FORM. 'bulk': how many values and letters a reading holds, each counted each time it is reached (what is shared counts as often as it is met; a slice's spare places count too). A statement '..UptoSaid' is the law's where the arguments, and the package variables that the reading takes, are together of bulk at most 1048576: NARROWER than '..Said'. Prove '..Said' where nothing that the law and all that it calls make is longer than what came in: it says more and counts as full. Else prove '..UptoSaid'. A law counts once. -/
mutual
def uptoBulk {H : Type} : DataW H → Nat
  | .lit (.string bytes) => bytes.length + 1
  | .lit _ => 1
  | .nil => 1
  | .ptr d => uptoBulk d + 1
  | .slice elems spare => uptoBulkAll elems + uptoBulkAll spare + 1
  | .agg parts => uptoBulkAll parts + 1
  | .iface _ d => uptoBulk d + 1
  | .map entries => uptoBulkEntries entries + 1
  | .held _ => 1
def uptoBulkAll {H : Type} : List (DataW H) → Nat
  | [] => 0
  | d :: r => uptoBulk d + uptoBulkAll r
def uptoBulkEntries {H : Type} : List (Lit × DataW H) → Nat
  | [] => 0
  | x :: r => uptoBulkEntry x + uptoBulkEntries r
def uptoBulkEntry {H : Type} : Lit × DataW H → Nat
  | (.string bytes, d) => bytes.length + uptoBulk d + 1
  | (_, d) => uptoBulk d + 1
 end
def uptoSmall : (H : Type) → List (DataW H) → Bool := fun _ ds => decide (uptoBulkAll ds ≤ 1048576)
def OpenSpec.upto (s : _root_.Go.ChangeSpec) : _root_.Go.OpenSpec := { _root_.Go.OpenSpec.ofChange s with cond := some uptoSmall }

/-- 'dromondlaw16.ScopeApart', WHERE WHAT IT READS IS OF BULK AT MOST 1048576: true; the input reads as it did. -/
def scopeApartUptoRow : OpenClaim := { program := "ytkeabdfgacicaaa", sum := "b38fefc2bc9e0fb2f5c28bb0d95fd2ed654b07c41ff212f880e78636e17d11f2", func := "dromond/dromondlaw16.ScopeApart", spec := "scopeApart", inPlace := ["internal/abi.NoEscape", "internal/bytealg.MakeNoZero"], unfollowed := true, recurses := true, apart := false, narrowed := true }
def ScopeApartUptoSaid : Prop := scopeApartUptoRow.holds Try.pinned (OpenSpec.upto scopeApartSpec)

/-- 'dromondlaw12.BlockBack', WHERE WHAT IT READS IS OF BULK AT MOST 1048576: true; the input reads as it did. -/
def blockBackUptoRow : OpenClaim := { program := "ytkeabdfgacicaaa", sum := "b38fefc2bc9e0fb2f5c28bb0d95fd2ed654b07c41ff212f880e78636e17d11f2", func := "dromond/dromondlaw12.BlockBack", spec := "blockBack", inPlace := ["internal/abi.NoEscape", "internal/bytealg.MakeNoZero"], unfollowed := true, recurses := true, apart := false, narrowed := true }
def BlockBackUptoSaid : Prop := blockBackUptoRow.holds Try.pinned (OpenSpec.upto blockBackSpec)

/-- 'dromondlaw12.BlockBits', WHERE WHAT IT READS IS OF BULK AT MOST 1048576: true; the input reads as it did. -/
def blockBitsUptoRow : OpenClaim := { program := "ytkeabdfgacicaaa", sum := "b38fefc2bc9e0fb2f5c28bb0d95fd2ed654b07c41ff212f880e78636e17d11f2", func := "dromond/dromondlaw12.BlockBits", spec := "blockBits", inPlace := ["internal/abi.NoEscape", "internal/bytealg.MakeNoZero"], unfollowed := true, recurses := true, apart := false, narrowed := true }
def BlockBitsUptoSaid : Prop := blockBitsUptoRow.holds Try.pinned (OpenSpec.upto blockBitsSpec)

/-- 'dromondlaw11.PrimaryBits', WHERE WHAT IT READS IS OF BULK AT MOST 1048576: true; the input reads as it did. -/
def primaryBitsUptoRow : OpenClaim := { program := "ytkeabdfgacicaaa", sum := "b38fefc2bc9e0fb2f5c28bb0d95fd2ed654b07c41ff212f880e78636e17d11f2", func := "dromond/dromondlaw11.PrimaryBits", spec := "primaryBits", inPlace := ["internal/abi.NoEscape", "internal/bytealg.MakeNoZero"], recurses := true, apart := false, narrowed := true }
def PrimaryBitsUptoSaid : Prop := primaryBitsUptoRow.holds Try.pinned (OpenSpec.upto primaryBitsSpec)

/-- 'dromondlaw11.PrimaryBack', WHERE WHAT IT READS IS OF BULK AT MOST 1048576: true; the input reads as it did. -/
def primaryBackUptoRow : OpenClaim := { program := "ytkeabdfgacicaaa", sum := "b38fefc2bc9e0fb2f5c28bb0d95fd2ed654b07c41ff212f880e78636e17d11f2", func := "dromond/dromondlaw11.PrimaryBack", spec := "primaryBack", inPlace := ["internal/abi.NoEscape", "internal/bytealg.MakeNoZero"], recurses := true, apart := false, narrowed := true }
def PrimaryBackUptoSaid : Prop := primaryBackUptoRow.holds Try.pinned (OpenSpec.upto primaryBackSpec)

end Rows
end Go.Proofs.Ytkeabdfgacicaaa
