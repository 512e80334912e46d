/-
  No cell of these rows narrows 'for every input' (looked for: loops, veiled, ifaces, maps, wideKeys, modest, calm, conditions, laid).
  DERIVED. THE GIVEN ROWS OF THIS SEAT. 5 by the template 'for every input the law returns true; each argument reads behind the call as it read before'; 0 by the template 'total and deterministic' (their statements: YtmcehdinkghlfaaTotals.lean).
  GIVEN WITH THE SEED: the statements are not yours to turn. If you find one false, say at which input.
  Laid BY PROGRAM, IN A SANDBOX (cutbox-rows.mjs): the forced cells as the released guide's own fill.sh prints them over the translation e138256d67a248f0… (all of the seat's roots in one cut). By AI agents, Wed Nov 11 2026. No macro, syntax, notation, axiom, sorry.
-/
import Derived.Test.YtmcehdinkghlfaaChecked
import GoSem.Claim
import GoSem.ClaimJoined
import GoSem.ClaimMapViews
import Derived.JoinedTies
import Derived.KernelRfl
namespace Go.Proofs.Ytmcehdinkghlfaa
/- THE CELL 'sum', in the pinned program and in every row, IS THE sha256 OF THE DUMP (.gsa) THAT YtmcehdinkghlfaaProg.lean LOADS. Nothing in Lean hashes anything: it is a label: what it is worth is what the hold of that sum in a sandbox is worth. -/
noncomputable def Try.pinned : Pinned := { name := "ytmcehdinkghlfaa", sum := "e138256d67a248f00bb7b7b72253c697e3a7d63027fe82539cab45e2cfb6ad4f", checked := Try.checked }
namespace Rows
def none {H : Type} : Left H := { results := [], args := [] }

/-- 'dromondlaw20.KeysOnce': WHATEVER THE INPUT: true; the input reads as it did. -/
def keysOnceSpec : ChangeSpec := { name := "keysOnce", fn := fun _ => fun
  | [d1, d2, d3] => { results := [.lit (.bool true)], args := [d1, d2, d3] }
  | _ => none }
def keysOnceRow : OpenClaim := { program := "ytmcehdinkghlfaa", sum := "e138256d67a248f00bb7b7b72253c697e3a7d63027fe82539cab45e2cfb6ad4f", func := "dromond/dromondlaw20.KeysOnce", spec := "keysOnce", unfollowed := true, recurses := true, apart := false }
def KeysOnceSaid : Prop := keysOnceRow.holds Try.pinned (OpenSpec.ofChange keysOnceSpec)

/-- ITS FALSE NEIGHBOUR: 'it returns false'. Refute it at one input. -/
def keysOnceWrong : ChangeSpec := { name := "keysOnce", fn := fun _ => fun
  | [d1, d2, d3] => { results := [.lit (.bool false)], args := [d1, d2, d3] }
  | _ => none }
def KeysOnceWrongFalsely : Prop := keysOnceRow.holds Try.pinned (OpenSpec.ofChange keysOnceWrong)

/-- 'dromondlaw20.KeysNew': WHATEVER THE INPUT: true; the input reads as it did. -/
def keysNewSpec : ChangeSpec := { name := "keysNew", fn := fun _ => fun
  | [d1, d2, d3] => { results := [.lit (.bool true)], args := [d1, d2, d3] }
  | _ => none }
def keysNewRow : OpenClaim := { program := "ytmcehdinkghlfaa", sum := "e138256d67a248f00bb7b7b72253c697e3a7d63027fe82539cab45e2cfb6ad4f", func := "dromond/dromondlaw20.KeysNew", spec := "keysNew", unfollowed := true, recurses := true, apart := false }
def KeysNewSaid : Prop := keysNewRow.holds Try.pinned (OpenSpec.ofChange keysNewSpec)

/-- ITS FALSE NEIGHBOUR: 'it returns false'. Refute it at one input. -/
def keysNewWrong : ChangeSpec := { name := "keysNew", fn := fun _ => fun
  | [d1, d2, d3] => { results := [.lit (.bool false)], args := [d1, d2, d3] }
  | _ => none }
def KeysNewWrongFalsely : Prop := keysNewRow.holds Try.pinned (OpenSpec.ofChange keysNewWrong)

/-- 'dromondlaw20.KeysPlays': WHATEVER THE INPUT: true; the input reads as it did. -/
def keysPlaysSpec : ChangeSpec := { name := "keysPlays", fn := fun _ => fun
  | [d1, d2, d3] => { results := [.lit (.bool true)], args := [d1, d2, d3] }
  | _ => none }
def keysPlaysRow : OpenClaim := { program := "ytmcehdinkghlfaa", sum := "e138256d67a248f00bb7b7b72253c697e3a7d63027fe82539cab45e2cfb6ad4f", func := "dromond/dromondlaw20.KeysPlays", spec := "keysPlays", unfollowed := true, recurses := true, apart := false }
def KeysPlaysSaid : Prop := keysPlaysRow.holds Try.pinned (OpenSpec.ofChange keysPlaysSpec)

/-- ITS FALSE NEIGHBOUR: 'it returns false'. Refute it at one input. -/
def keysPlaysWrong : ChangeSpec := { name := "keysPlays", fn := fun _ => fun
  | [d1, d2, d3] => { results := [.lit (.bool false)], args := [d1, d2, d3] }
  | _ => none }
def KeysPlaysWrongFalsely : Prop := keysPlaysRow.holds Try.pinned (OpenSpec.ofChange keysPlaysWrong)

/-- 'dromondlaw20.KeysSpent': WHATEVER THE INPUT: true; the input reads as it did. -/
def keysSpentSpec : ChangeSpec := { name := "keysSpent", fn := fun _ => fun
  | [d1, d2] => { results := [.lit (.bool true)], args := [d1, d2] }
  | _ => none }
def keysSpentRow : OpenClaim := { program := "ytmcehdinkghlfaa", sum := "e138256d67a248f00bb7b7b72253c697e3a7d63027fe82539cab45e2cfb6ad4f", func := "dromond/dromondlaw20.KeysSpent", spec := "keysSpent", unfollowed := true, recurses := true, apart := false }
def KeysSpentSaid : Prop := keysSpentRow.holds Try.pinned (OpenSpec.ofChange keysSpentSpec)

/-- ITS FALSE NEIGHBOUR: 'it returns false'. Refute it at one input. -/
def keysSpentWrong : ChangeSpec := { name := "keysSpent", fn := fun _ => fun
  | [d1, d2] => { results := [.lit (.bool false)], args := [d1, d2] }
  | _ => none }
def KeysSpentWrongFalsely : Prop := keysSpentRow.holds Try.pinned (OpenSpec.ofChange keysSpentWrong)

/-- 'dromondlaw03.TableTexts': WHATEVER THE INPUT: true; the input reads as it did. -/
def tableTextsSpec : ChangeSpec := { name := "tableTexts", fn := fun _ => fun
  | [d1, d2, d3] => { results := [.lit (.bool true)], args := [d1, d2, d3] }
  | _ => none }
def tableTextsRow : OpenClaim := { program := "ytmcehdinkghlfaa", sum := "e138256d67a248f00bb7b7b72253c697e3a7d63027fe82539cab45e2cfb6ad4f", func := "dromond/dromondlaw03.TableTexts", spec := "tableTexts", unfollowed := true, recurses := true, apart := false }
def TableTextsSaid : Prop := tableTextsRow.holds Try.pinned (OpenSpec.ofChange tableTextsSpec)

/-- ITS FALSE NEIGHBOUR: 'it returns false'. Refute it at one input. -/
def tableTextsWrong : ChangeSpec := { name := "tableTexts", fn := fun _ => fun
  | [d1, d2, d3] => { results := [.lit (.bool false)], args := [d1, d2, d3] }
  | _ => none }
def TableTextsWrongFalsely : Prop := tableTextsRow.holds Try.pinned (OpenSpec.ofChange tableTextsWrong)

/- THE SECOND FORM. 'bulk': how many values and letters a reading holds, each counted each time it is reached (what is shared counts as often as it is met; a slice's spare places count too). A statement '..UptoSaid' is the law's where the arguments, and the package variables that the reading takes, are together of bulk at most 1048576: NARROWER than '..Said'. Prove '..Said' where nothing that the law and all that it calls make is longer than what came in: it says more and counts as full. Else prove '..UptoSaid'. A law counts once. -/
mutual
def uptoBulk {H : Type} : DataW H → Nat
  | .lit (.string bytes) => bytes.length + 1
  | .lit _ => 1
  | .nil => 1
  | .ptr d => uptoBulk d + 1
  | .slice elems spare => uptoBulkAll elems + uptoBulkAll spare + 1
  | .agg parts => uptoBulkAll parts + 1
  | .iface _ d => uptoBulk d + 1
  | .map entries => uptoBulkEntries entries + 1
  | .held _ => 1
def uptoBulkAll {H : Type} : List (DataW H) → Nat
  | [] => 0
  | d :: r => uptoBulk d + uptoBulkAll r
def uptoBulkEntries {H : Type} : List (Lit × DataW H) → Nat
  | [] => 0
  | x :: r => uptoBulkEntry x + uptoBulkEntries r
def uptoBulkEntry {H : Type} : Lit × DataW H → Nat
  | (.string bytes, d) => bytes.length + uptoBulk d + 1
  | (_, d) => uptoBulk d + 1
 end
def uptoSmall : (H : Type) → List (DataW H) → Bool := fun _ ds => decide (uptoBulkAll ds ≤ 1048576)
def OpenSpec.upto (s : _root_.Go.ChangeSpec) : _root_.Go.OpenSpec := { _root_.Go.OpenSpec.ofChange s with cond := some uptoSmall }

/-- 'dromondlaw20.KeysOnce', WHERE WHAT IT READS IS OF BULK AT MOST 1048576: true; the input reads as it did. -/
def keysOnceUptoRow : OpenClaim := { program := "ytmcehdinkghlfaa", sum := "e138256d67a248f00bb7b7b72253c697e3a7d63027fe82539cab45e2cfb6ad4f", func := "dromond/dromondlaw20.KeysOnce", spec := "keysOnce", unfollowed := true, recurses := true, apart := false, narrowed := true }
def KeysOnceUptoSaid : Prop := keysOnceUptoRow.holds Try.pinned (OpenSpec.upto keysOnceSpec)

/-- 'dromondlaw20.KeysNew', WHERE WHAT IT READS IS OF BULK AT MOST 1048576: true; the input reads as it did. -/
def keysNewUptoRow : OpenClaim := { program := "ytmcehdinkghlfaa", sum := "e138256d67a248f00bb7b7b72253c697e3a7d63027fe82539cab45e2cfb6ad4f", func := "dromond/dromondlaw20.KeysNew", spec := "keysNew", unfollowed := true, recurses := true, apart := false, narrowed := true }
def KeysNewUptoSaid : Prop := keysNewUptoRow.holds Try.pinned (OpenSpec.upto keysNewSpec)

/-- 'dromondlaw20.KeysPlays', WHERE WHAT IT READS IS OF BULK AT MOST 1048576: true; the input reads as it did. -/
def keysPlaysUptoRow : OpenClaim := { program := "ytmcehdinkghlfaa", sum := "e138256d67a248f00bb7b7b72253c697e3a7d63027fe82539cab45e2cfb6ad4f", func := "dromond/dromondlaw20.KeysPlays", spec := "keysPlays", unfollowed := true, recurses := true, apart := false, narrowed := true }
def KeysPlaysUptoSaid : Prop := keysPlaysUptoRow.holds Try.pinned (OpenSpec.upto keysPlaysSpec)

/-- 'dromondlaw20.KeysSpent', WHERE WHAT IT READS IS OF BULK AT MOST 1048576: true; the input reads as it did. -/
def keysSpentUptoRow : OpenClaim := { program := "ytmcehdinkghlfaa", sum := "e138256d67a248f00bb7b7b72253c697e3a7d63027fe82539cab45e2cfb6ad4f", func := "dromond/dromondlaw20.KeysSpent", spec := "keysSpent", unfollowed := true, recurses := true, apart := false, narrowed := true }
def KeysSpentUptoSaid : Prop := keysSpentUptoRow.holds Try.pinned (OpenSpec.upto keysSpentSpec)

/-- 'dromondlaw03.TableTexts', WHERE WHAT IT READS IS OF BULK AT MOST 1048576: true; the input reads as it did. -/
def tableTextsUptoRow : OpenClaim := { program := "ytmcehdinkghlfaa", sum := "e138256d67a248f00bb7b7b72253c697e3a7d63027fe82539cab45e2cfb6ad4f", func := "dromond/dromondlaw03.TableTexts", spec := "tableTexts", unfollowed := true, recurses := true, apart := false, narrowed := true }
def TableTextsUptoSaid : Prop := tableTextsUptoRow.holds Try.pinned (OpenSpec.upto tableTextsSpec)

end Rows
end Go.Proofs.Ytmcehdinkghlfaa
