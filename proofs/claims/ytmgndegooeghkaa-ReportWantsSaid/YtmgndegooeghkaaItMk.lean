/-
  Items: a number, bytes, an array, made.
-/
import Derived.Test.YtmgndegooeghkaaItMem
namespace Go.Proofs.Ytmgndegooeghkaa
open Go.RowKit
set_option linter.unusedVariables false

/-- A number; bytes. -/
def numT (n : Nat) : T := T.mk 0 n [] false 0 fun _ => T.nil
def strT (s : List UInt8) : T := T.mk 2 0 s false 0 fun _ => T.nil

theorem Num_any (n : Nat) (w : World) : Calls Try.prog 39 #[.int .u64 (n : Int)] w (Ret (itemV (numT n) none 0) w) := by
  go_enter Try.func39, Try.ntmps39
  go_wp2
  refine bodyPost_ret (v := itemV (numT n) none 0) ?_ rfl (Ret.mk rfl ((Mod.refl _ _).alloc _))
  simp [results, Try.results39, go_sem]
  exact ⟨rfl, rfl, rfl, rfl, rfl⟩
theorem List_any (ch : Nat → T) (k : Nat) (A : Option Addr) (c : Nat) (w : World) : Calls Try.prog 37 #[.slice A k c] w (Ret (itemV (T.mk 4 0 [] false k ch) A c) w) := by
  go_enter Try.func37, Try.ntmps37
  go_wp2
  refine bodyPost_ret (v := itemV (T.mk 4 0 [] false k ch) A c) ?_ rfl (Ret.mk rfl ((Mod.refl _ _).alloc _))
  simp [results, Try.results37, go_sem]
  exact ⟨rfl, rfl, rfl, rfl, rfl⟩
end Go.Proofs.Ytmgndegooeghkaa
