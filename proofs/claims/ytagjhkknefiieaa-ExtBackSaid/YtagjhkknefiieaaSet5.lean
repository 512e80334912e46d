/-
  An item's block: its five cells, stored anew.
-/
import Derived.Test.YtagjhkknefiieaaItMem
namespace Go.Proofs.Ytagjhkknefiieaa
open Go.RowKit
set_option linter.unusedVariables false

/-- A block's five cells, stored anew. -/
def set5 (W : World) (b : Nat) (t : T) (A : Option Addr) (c : Nat) : World := ((((W.setCell ⟨b, 0, none⟩ (.int .i64 t.kind)).setCell ⟨b, 1, none⟩ (.int .u64 (t.n : Int))).setCell ⟨b, 2, none⟩ (str t.s)).setCell ⟨b, 3, none⟩ (.slice A t.k c)).setCell ⟨b, 4, none⟩ (.bool t.op)
section
variable {W : World} {b : Nat} {t0 t : T} {A0 A : Option Addr} {c0 c : Nat}
theorem set5_blk (h : Blk W b 63 (itemC t0 A0 c0)) : Blk (set5 W b t A c) b 63 (itemC t A c) := by
  have := ((((h.set_ 0 (.int .i64 t.kind)).set_ 1 (.int .u64 (t.n : Int))).set_ 2 (str t.s)).set_ 3 (.slice A t.k c)).set_ 4 (.bool t.op)
  unfold set5
  simpa [itemC] using this
theorem set5_mod {w : World} {S : List Nat} (h : Mod S w W) (hb : w.heap.size ≤ b) : Mod S w (set5 W b t A c) :=
  ((((h.setCell (.inr hb) _).setCell (.inr hb) _).setCell (.inr hb) _).setCell (.inr hb) _).setCell (.inr hb) _
theorem set5_modb : Mod [b] W (set5 W b t A c) :=
  (((((Mod.refl _ _).setCell (.inl (by simp)) _).setCell (.inl (by simp)) _).setCell (.inl (by simp)) _).setCell (.inl (by simp)) _).setCell (.inl (by simp)) _
theorem set5_far {g : Nat} {ty : TypeId} {cs : Array Value} (h : Blk W g ty cs) (hg : g ≠ b) : Blk (set5 W b t A c) g ty cs := h.mod set5_modb (by simpa using hg)
end
/-- The cells of an item's block. -/
theorem cells5 {W : World} {b : Nat} {t : T} {A : Option Addr} {c : Nat} (h : Blk W b 63 (itemC t A c)) : W.cell? ⟨b, 0, none⟩ = some (.int .i64 t.kind) ∧ W.cell? ⟨b, 1, none⟩ = some (.int .u64 (t.n : Int)) ∧ W.cell? ⟨b, 2, none⟩ = some (str t.s) ∧
    W.cell? ⟨b, 3, none⟩ = some (.slice A t.k c) ∧ W.cell? ⟨b, 4, none⟩ = some (.bool t.op) := ⟨h.cell 0, h.cell 1, h.cell 2, h.cell 3, h.cell 4⟩
end Go.Proofs.Ytagjhkknefiieaa
