/-
  NARROWER THAN 'FOR EVERY INPUT', by the rows' own cells (each row's printed sentence says how): ItemSame: loops · ItemCut: loops · ItemBuilds: loops.
  DERIVED. THE GIVEN ROWS OF THIS SEAT. 9 by the template 'for every input the law returns true; each argument reads behind the call as it read before'; 0 by the template 'total and deterministic' (their statements: YtmekhofncflhaaaTotals.lean).
  GIVEN WITH THE SEED: the statements are not yours to turn. If you find one false, say at which input.
  Laid BY PROGRAM, IN A SANDBOX (cutbox-rows.mjs): the forced cells as the released guide's own fill.sh prints them over the translation 5e6859dec0a68708… (all of the seat's roots in one cut). By AI agents, Wed Nov 11 2026. No macro, syntax, notation, axiom, sorry.
-/
import Derived.Test.YtmekhofncflhaaaChecked
import GoSem.Claim
import GoSem.ClaimJoined
import GoSem.ClaimMapViews
import Derived.JoinedTies
import Derived.KernelRfl
namespace Go.Proofs.Ytmekhofncflhaaa
/- THE CELL 'sum', in the pinned program and in every row, IS THE sha256 OF THE DUMP (.gsa) THAT YtmekhofncflhaaaProg.lean LOADS. Nothing in Lean hashes anything: it is a label: what it is worth is what the hold of that sum in a sandbox is worth. -/
noncomputable def Try.pinned : Pinned := { name := "ytmekhofncflhaaa", sum := "5e6859dec0a68708ddb075f7a961c3d4b236524e78eeb7bce3dd4dcb71f3386c", checked := Try.checked }
namespace Rows
def none {H : Type} : Left H := { results := [], args := [] }

/-- 'dromondlaw01.CborHeads': WHATEVER THE INPUT: true; the input reads as it did. -/
def cborHeadsSpec : ChangeSpec := { name := "cborHeads", fn := fun _ => fun
  | [d1, d2] => { results := [.lit (.bool true)], args := [d1, d2] }
  | _ => none }
def cborHeadsRow : OpenClaim := { program := "ytmekhofncflhaaa", sum := "5e6859dec0a68708ddb075f7a961c3d4b236524e78eeb7bce3dd4dcb71f3386c", func := "dromond/dromondlaw01.CborHeads", spec := "cborHeads", apart := false }
def CborHeadsSaid : Prop := cborHeadsRow.holds Try.pinned (OpenSpec.ofChange cborHeadsSpec)

/-- ITS FALSE NEIGHBOUR: 'it returns false'. Refute it at one input. -/
def cborHeadsWrong : ChangeSpec := { name := "cborHeads", fn := fun _ => fun
  | [d1, d2] => { results := [.lit (.bool false)], args := [d1, d2] }
  | _ => none }
def CborHeadsWrongFalsely : Prop := cborHeadsRow.holds Try.pinned (OpenSpec.ofChange cborHeadsWrong)

/-- 'dromondlaw01.CborOne': WHATEVER THE INPUT: true; the input reads as it did. -/
def cborOneSpec : ChangeSpec := { name := "cborOne", fn := fun _ => fun
  | [d1, d2] => { results := [.lit (.bool true)], args := [d1, d2] }
  | _ => none }
def cborOneRow : OpenClaim := { program := "ytmekhofncflhaaa", sum := "5e6859dec0a68708ddb075f7a961c3d4b236524e78eeb7bce3dd4dcb71f3386c", func := "dromond/dromondlaw01.CborOne", spec := "cborOne", apart := false }
def CborOneSaid : Prop := cborOneRow.holds Try.pinned (OpenSpec.ofChange cborOneSpec)

/-- ITS FALSE NEIGHBOUR: 'it returns false'. Refute it at one input. -/
def cborOneWrong : ChangeSpec := { name := "cborOne", fn := fun _ => fun
  | [d1, d2] => { results := [.lit (.bool false)], args := [d1, d2] }
  | _ => none }
def CborOneWrongFalsely : Prop := cborOneRow.holds Try.pinned (OpenSpec.ofChange cborOneWrong)

/-- 'dromondlaw02.ItemSame': WHATEVER THE INPUT: true; the input reads as it did. -/
def itemSameSpec : ChangeSpec := { name := "itemSame", fn := fun _ => fun
  | [d1, d2] => { results := [.lit (.bool true)], args := [d1, d2] }
  | _ => none }
def itemSameRow : OpenClaim := { program := "ytmekhofncflhaaa", sum := "5e6859dec0a68708ddb075f7a961c3d4b236524e78eeb7bce3dd4dcb71f3386c", func := "dromond/dromondlaw02.ItemSame", spec := "itemSame", recurses := true, loops := true, apart := false }
def ItemSameSaid : Prop := itemSameRow.holds Try.pinned (OpenSpec.ofChange itemSameSpec)

/-- ITS FALSE NEIGHBOUR: 'it returns false'. Refute it at one input. -/
def itemSameWrong : ChangeSpec := { name := "itemSame", fn := fun _ => fun
  | [d1, d2] => { results := [.lit (.bool false)], args := [d1, d2] }
  | _ => none }
def ItemSameWrongFalsely : Prop := itemSameRow.holds Try.pinned (OpenSpec.ofChange itemSameWrong)

/-- 'dromondlaw01.CborStrings': WHATEVER THE INPUT: true; the input reads as it did. -/
def cborStringsSpec : ChangeSpec := { name := "cborStrings", fn := fun _ => fun
  | [d1, d2] => { results := [.lit (.bool true)], args := [d1, d2] }
  | _ => none }
def cborStringsRow : OpenClaim := { program := "ytmekhofncflhaaa", sum := "5e6859dec0a68708ddb075f7a961c3d4b236524e78eeb7bce3dd4dcb71f3386c", func := "dromond/dromondlaw01.CborStrings", spec := "cborStrings", apart := false }
def CborStringsSaid : Prop := cborStringsRow.holds Try.pinned (OpenSpec.ofChange cborStringsSpec)

/-- ITS FALSE NEIGHBOUR: 'it returns false'. Refute it at one input. -/
def cborStringsWrong : ChangeSpec := { name := "cborStrings", fn := fun _ => fun
  | [d1, d2] => { results := [.lit (.bool false)], args := [d1, d2] }
  | _ => none }
def CborStringsWrongFalsely : Prop := cborStringsRow.holds Try.pinned (OpenSpec.ofChange cborStringsWrong)

/-- 'dromondlaw01.CborReads': WHATEVER THE INPUT: true; the input reads as it did. -/
def cborReadsSpec : ChangeSpec := { name := "cborReads", fn := fun _ => fun
  | [d1, d2] => { results := [.lit (.bool true)], args := [d1, d2] }
  | _ => none }
def cborReadsRow : OpenClaim := { program := "ytmekhofncflhaaa", sum := "5e6859dec0a68708ddb075f7a961c3d4b236524e78eeb7bce3dd4dcb71f3386c", func := "dromond/dromondlaw01.CborReads", spec := "cborReads", apart := false }
def CborReadsSaid : Prop := cborReadsRow.holds Try.pinned (OpenSpec.ofChange cborReadsSpec)

/-- ITS FALSE NEIGHBOUR: 'it returns false'. Refute it at one input. -/
def cborReadsWrong : ChangeSpec := { name := "cborReads", fn := fun _ => fun
  | [d1, d2] => { results := [.lit (.bool false)], args := [d1, d2] }
  | _ => none }
def CborReadsWrongFalsely : Prop := cborReadsRow.holds Try.pinned (OpenSpec.ofChange cborReadsWrong)

/-- 'dromondlaw02.ItemParses': WHATEVER THE INPUT: true; the input reads as it did. -/
def itemParsesSpec : ChangeSpec := { name := "itemParses", fn := fun _ => fun
  | [d] => { results := [.lit (.bool true)], args := [d] }
  | _ => none }
def itemParsesRow : OpenClaim := { program := "ytmekhofncflhaaa", sum := "5e6859dec0a68708ddb075f7a961c3d4b236524e78eeb7bce3dd4dcb71f3386c", func := "dromond/dromondlaw02.ItemParses", spec := "itemParses", recurses := true, apart := false }
def ItemParsesSaid : Prop := itemParsesRow.holds Try.pinned (OpenSpec.ofChange itemParsesSpec)

/-- ITS FALSE NEIGHBOUR: 'it returns false'. Refute it at one input. -/
def itemParsesWrong : ChangeSpec := { name := "itemParses", fn := fun _ => fun
  | [d] => { results := [.lit (.bool false)], args := [d] }
  | _ => none }
def ItemParsesWrongFalsely : Prop := itemParsesRow.holds Try.pinned (OpenSpec.ofChange itemParsesWrong)

/-- 'dromondlaw02.ItemCut': WHATEVER THE INPUT: true; the input reads as it did. -/
def itemCutSpec : ChangeSpec := { name := "itemCut", fn := fun _ => fun
  | [d1, d2] => { results := [.lit (.bool true)], args := [d1, d2] }
  | _ => none }
def itemCutRow : OpenClaim := { program := "ytmekhofncflhaaa", sum := "5e6859dec0a68708ddb075f7a961c3d4b236524e78eeb7bce3dd4dcb71f3386c", func := "dromond/dromondlaw02.ItemCut", spec := "itemCut", recurses := true, loops := true, apart := false }
def ItemCutSaid : Prop := itemCutRow.holds Try.pinned (OpenSpec.ofChange itemCutSpec)

/-- ITS FALSE NEIGHBOUR: 'it returns false'. Refute it at one input. -/
def itemCutWrong : ChangeSpec := { name := "itemCut", fn := fun _ => fun
  | [d1, d2] => { results := [.lit (.bool false)], args := [d1, d2] }
  | _ => none }
def ItemCutWrongFalsely : Prop := itemCutRow.holds Try.pinned (OpenSpec.ofChange itemCutWrong)

/-- 'dromondlaw02.ItemDeep': WHATEVER THE INPUT: true; the input reads as it did. -/
def itemDeepSpec : ChangeSpec := { name := "itemDeep", fn := fun _ => fun
  | [d1, d2] => { results := [.lit (.bool true)], args := [d1, d2] }
  | _ => none }
def itemDeepRow : OpenClaim := { program := "ytmekhofncflhaaa", sum := "5e6859dec0a68708ddb075f7a961c3d4b236524e78eeb7bce3dd4dcb71f3386c", func := "dromond/dromondlaw02.ItemDeep", spec := "itemDeep", recurses := true, apart := false }
def ItemDeepSaid : Prop := itemDeepRow.holds Try.pinned (OpenSpec.ofChange itemDeepSpec)

/-- ITS FALSE NEIGHBOUR: 'it returns false'. Refute it at one input. -/
def itemDeepWrong : ChangeSpec := { name := "itemDeep", fn := fun _ => fun
  | [d1, d2] => { results := [.lit (.bool false)], args := [d1, d2] }
  | _ => none }
def ItemDeepWrongFalsely : Prop := itemDeepRow.holds Try.pinned (OpenSpec.ofChange itemDeepWrong)

/-- 'dromondlaw02.ItemBuilds': WHATEVER THE INPUT: true; the input reads as it did. -/
def itemBuildsSpec : ChangeSpec := { name := "itemBuilds", fn := fun _ => fun
  | [d] => { results := [.lit (.bool true)], args := [d] }
  | _ => none }
def itemBuildsRow : OpenClaim := { program := "ytmekhofncflhaaa", sum := "5e6859dec0a68708ddb075f7a961c3d4b236524e78eeb7bce3dd4dcb71f3386c", func := "dromond/dromondlaw02.ItemBuilds", spec := "itemBuilds", recurses := true, loops := true, apart := false }
def ItemBuildsSaid : Prop := itemBuildsRow.holds Try.pinned (OpenSpec.ofChange itemBuildsSpec)

/-- ITS FALSE NEIGHBOUR: 'it returns false'. Refute it at one input. -/
def itemBuildsWrong : ChangeSpec := { name := "itemBuilds", fn := fun _ => fun
  | [d] => { results := [.lit (.bool false)], args := [d] }
  | _ => none }
def ItemBuildsWrongFalsely : Prop := itemBuildsRow.holds Try.pinned (OpenSpec.ofChange itemBuildsWrong)

/- THE SECOND FORM. 'bulk': how many values and letters a reading holds, each counted each time it is reached (what is shared counts as often as it is met; a slice's spare places count too). A statement '..UptoSaid' is the law's where the arguments, and the package variables that the reading takes, are together of bulk at most 1048576: NARROWER than '..Said'. Prove '..Said' where nothing that the law and all that it calls make is longer than what came in: it says more and counts as full. Else prove '..UptoSaid'. A law counts once. -/
mutual
def uptoBulk {H : Type} : DataW H → Nat
  | .lit (.string bytes) => bytes.length + 1
  | .lit _ => 1
  | .nil => 1
  | .ptr d => uptoBulk d + 1
  | .slice elems spare => uptoBulkAll elems + uptoBulkAll spare + 1
  | .agg parts => uptoBulkAll parts + 1
  | .iface _ d => uptoBulk d + 1
  | .map entries => uptoBulkEntries entries + 1
  | .held _ => 1
def uptoBulkAll {H : Type} : List (DataW H) → Nat
  | [] => 0
  | d :: r => uptoBulk d + uptoBulkAll r
def uptoBulkEntries {H : Type} : List (Lit × DataW H) → Nat
  | [] => 0
  | x :: r => uptoBulkEntry x + uptoBulkEntries r
def uptoBulkEntry {H : Type} : Lit × DataW H → Nat
  | (.string bytes, d) => bytes.length + uptoBulk d + 1
  | (_, d) => uptoBulk d + 1
 end
def uptoSmall : (H : Type) → List (DataW H) → Bool := fun _ ds => decide (uptoBulkAll ds ≤ 1048576)
def OpenSpec.upto (s : _root_.Go.ChangeSpec) : _root_.Go.OpenSpec := { _root_.Go.OpenSpec.ofChange s with cond := some uptoSmall }

/-- 'dromondlaw01.CborHeads', WHERE WHAT IT READS IS OF BULK AT MOST 1048576: true; the input reads as it did. -/
def cborHeadsUptoRow : OpenClaim := { program := "ytmekhofncflhaaa", sum := "5e6859dec0a68708ddb075f7a961c3d4b236524e78eeb7bce3dd4dcb71f3386c", func := "dromond/dromondlaw01.CborHeads", spec := "cborHeads", apart := false, narrowed := true }
def CborHeadsUptoSaid : Prop := cborHeadsUptoRow.holds Try.pinned (OpenSpec.upto cborHeadsSpec)

/-- 'dromondlaw01.CborOne', WHERE WHAT IT READS IS OF BULK AT MOST 1048576: true; the input reads as it did. -/
def cborOneUptoRow : OpenClaim := { program := "ytmekhofncflhaaa", sum := "5e6859dec0a68708ddb075f7a961c3d4b236524e78eeb7bce3dd4dcb71f3386c", func := "dromond/dromondlaw01.CborOne", spec := "cborOne", apart := false, narrowed := true }
def CborOneUptoSaid : Prop := cborOneUptoRow.holds Try.pinned (OpenSpec.upto cborOneSpec)

/-- 'dromondlaw02.ItemSame', WHERE WHAT IT READS IS OF BULK AT MOST 1048576: true; the input reads as it did. -/
def itemSameUptoRow : OpenClaim := { program := "ytmekhofncflhaaa", sum := "5e6859dec0a68708ddb075f7a961c3d4b236524e78eeb7bce3dd4dcb71f3386c", func := "dromond/dromondlaw02.ItemSame", spec := "itemSame", recurses := true, loops := true, apart := false, narrowed := true }
def ItemSameUptoSaid : Prop := itemSameUptoRow.holds Try.pinned (OpenSpec.upto itemSameSpec)

/-- 'dromondlaw01.CborStrings', WHERE WHAT IT READS IS OF BULK AT MOST 1048576: true; the input reads as it did. -/
def cborStringsUptoRow : OpenClaim := { program := "ytmekhofncflhaaa", sum := "5e6859dec0a68708ddb075f7a961c3d4b236524e78eeb7bce3dd4dcb71f3386c", func := "dromond/dromondlaw01.CborStrings", spec := "cborStrings", apart := false, narrowed := true }
def CborStringsUptoSaid : Prop := cborStringsUptoRow.holds Try.pinned (OpenSpec.upto cborStringsSpec)

/-- 'dromondlaw01.CborReads', WHERE WHAT IT READS IS OF BULK AT MOST 1048576: true; the input reads as it did. -/
def cborReadsUptoRow : OpenClaim := { program := "ytmekhofncflhaaa", sum := "5e6859dec0a68708ddb075f7a961c3d4b236524e78eeb7bce3dd4dcb71f3386c", func := "dromond/dromondlaw01.CborReads", spec := "cborReads", apart := false, narrowed := true }
def CborReadsUptoSaid : Prop := cborReadsUptoRow.holds Try.pinned (OpenSpec.upto cborReadsSpec)

/-- 'dromondlaw02.ItemParses', WHERE WHAT IT READS IS OF BULK AT MOST 1048576: true; the input reads as it did. -/
def itemParsesUptoRow : OpenClaim := { program := "ytmekhofncflhaaa", sum := "5e6859dec0a68708ddb075f7a961c3d4b236524e78eeb7bce3dd4dcb71f3386c", func := "dromond/dromondlaw02.ItemParses", spec := "itemParses", recurses := true, apart := false, narrowed := true }
def ItemParsesUptoSaid : Prop := itemParsesUptoRow.holds Try.pinned (OpenSpec.upto itemParsesSpec)

/-- 'dromondlaw02.ItemCut', WHERE WHAT IT READS IS OF BULK AT MOST 1048576: true; the input reads as it did. -/
def itemCutUptoRow : OpenClaim := { program := "ytmekhofncflhaaa", sum := "5e6859dec0a68708ddb075f7a961c3d4b236524e78eeb7bce3dd4dcb71f3386c", func := "dromond/dromondlaw02.ItemCut", spec := "itemCut", recurses := true, loops := true, apart := false, narrowed := true }
def ItemCutUptoSaid : Prop := itemCutUptoRow.holds Try.pinned (OpenSpec.upto itemCutSpec)

/-- 'dromondlaw02.ItemDeep', WHERE WHAT IT READS IS OF BULK AT MOST 1048576: true; the input reads as it did. -/
def itemDeepUptoRow : OpenClaim := { program := "ytmekhofncflhaaa", sum := "5e6859dec0a68708ddb075f7a961c3d4b236524e78eeb7bce3dd4dcb71f3386c", func := "dromond/dromondlaw02.ItemDeep", spec := "itemDeep", recurses := true, apart := false, narrowed := true }
def ItemDeepUptoSaid : Prop := itemDeepUptoRow.holds Try.pinned (OpenSpec.upto itemDeepSpec)

/-- 'dromondlaw02.ItemBuilds', WHERE WHAT IT READS IS OF BULK AT MOST 1048576: true; the input reads as it did. -/
def itemBuildsUptoRow : OpenClaim := { program := "ytmekhofncflhaaa", sum := "5e6859dec0a68708ddb075f7a961c3d4b236524e78eeb7bce3dd4dcb71f3386c", func := "dromond/dromondlaw02.ItemBuilds", spec := "itemBuilds", recurses := true, loops := true, apart := false, narrowed := true }
def ItemBuildsUptoSaid : Prop := itemBuildsUptoRow.holds Try.pinned (OpenSpec.upto itemBuildsSpec)

end Rows
end Go.Proofs.Ytmekhofncflhaaa
