/-
  The walks of cbor.Bytes, cbor.Text and of the reference's.
-/
import Derived.Test.YtagjhkknefiieaaRef01
namespace Go.Proofs.Ytagjhkknefiieaa
open Go.RowKit
set_option linter.unusedVariables false

set_option maxRecDepth 20000 in
set_option maxHeartbeats 400000 in
theorem wBytes_any (l : List UInt8) (hl : Hid (l.length < 4611686018427387904)) (w : World) : Calls Try.prog 73 #[str l] w (Ret (str (headL 2 l.length ++ l)) w) := by
  have hw : IntKind.u64.wrap (l.length : Int) = (l.length : Int) := IntWalk.u64_in _ (by have := hl.out; omega)
  have hno : (9223372036854775807 < (headL 2 l.length).length + l.length) = False := by have h1 := hl.out; have h2 := headL_le 2 l.length; simp; omega
  go_enter Try.func73, Try.ntmps73
  go_wp2_with (go_at_call 72; refine (head_in _ _ (by omega) (by omega) (by omega) (by have := hl.out; omega) _).mono ?_; rintro x w1 ⟨rfl, hb⟩; simp only [Int.toNat_natCast, show Int.toNat 2 = 2 from rfl])
  go_ret
  exact Ret.mk (str_app _ _) hb

set_option maxRecDepth 20000 in
set_option maxHeartbeats 400000 in
theorem wText_any (l : List UInt8) (hl : Hid (l.length < 4611686018427387904)) (w : World) : Calls Try.prog 74 #[str l] w (Ret (str (headL 3 l.length ++ l)) w) := by
  have hw : IntKind.u64.wrap (l.length : Int) = (l.length : Int) := IntWalk.u64_in _ (by have := hl.out; omega)
  have hno : (9223372036854775807 < (headL 3 l.length).length + l.length) = False := by have h1 := hl.out; have h2 := headL_le 3 l.length; simp; omega
  go_enter Try.func74, Try.ntmps74
  go_wp2_with (go_at_call 72; refine (head_in _ _ (by omega) (by omega) (by omega) (by have := hl.out; omega) _).mono ?_; rintro x w1 ⟨rfl, hb⟩; simp only [Int.toNat_natCast, show Int.toNat 3 = 3 from rfl])
  go_ret
  exact Ret.mk (str_app _ _) hb

end Go.Proofs.Ytagjhkknefiieaa
