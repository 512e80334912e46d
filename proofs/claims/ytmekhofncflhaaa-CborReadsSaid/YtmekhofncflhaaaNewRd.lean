/-
  A new reader; the walk of awake; both with the worlds in one form.
-/
import Derived.Test.YtmekhofncflhaaaRdOps
import Derived.Test.YtmekhofncflhaaaCborHeads
import Derived.Test.YtmekhofncflhaaaCborPlain
namespace Go.Proofs.Ytmekhofncflhaaa
open Go.RowKit
set_option linter.unusedVariables false

def NewAt (r : RS) (w : World) (e : Ending) (w' : World) : Prop := e = .returned (.pointer (some ⟨w.heap.size, 0, none⟩)) ∧ Ext w w' ∧ RdAt w' w.heap.size r
theorem newReader_rd (s : List UInt8) (w : World) : Calls Try.prog 16 #[str s] w (NewAt (RS.new s) w) :=
  (newReader_any s w).mono fun _ _ ⟨he, hw⟩ => ⟨he, by rw [hw]; exact (Mod.refl _ _).alloc _, by rw [hw]; exact Blk.new _ _ _⟩
end Go.Proofs.Ytmekhofncflhaaa
