/-
  What the laws of the layer wake the program by.
-/
import Derived.Test.YtagjhkknefiieaaExt2
namespace Go.Proofs.Ytagjhkknefiieaa
open Go.RowKit
set_option linter.unusedVariables false

set_option maxRecDepth 20000 in
set_option maxHeartbeats 1600000 in
theorem Lived_none (w : World) : Calls Try.prog 26 #[.agg #[.int .u64 0, .int .i64 0, .int .i64 0, str [], .int .u64 0, .int .u64 0, .int .i64 0, str [], .int .u64 0, .int .u64 0, .int .i64 0, str [], .int .u64 0, .int .u64 0, .int .u64 0, .int .u64 0, .int .u64 0, .int .u64 0, .int .u64 0, .slice none 0 0], .int .u64 5] w (Ret (.int .u64 5) w) := by
  have HB := hid (Blk.new w 56 #[.int .u64 0, .int .i64 0, .int .i64 0, str [], .int .u64 0, .int .u64 0, .int .i64 0, str [], .int .u64 0, .int .u64 0, .int .i64 0, str [], .int .u64 0, .int .u64 0, .int .u64 0, .int .u64 0, .int .u64 0, .int .u64 0, .int .u64 0, .slice none 0 0])
  have HE := hid ((Mod.refl [] w).alloc (.cells #[.int .u64 0, .int .i64 0, .int .i64 0, str [], .int .u64 0, .int .u64 0, .int .i64 0, str [], .int .u64 0, .int .u64 0, .int .i64 0, str [], .int .u64 0, .int .u64 0, .int .u64 0, .int .u64 0, .int .u64 0, .int .u64 0, .int .u64 0, .slice none 0 0] 56))
  go_enter Try.func26, Try.ntmps26
  go_wp2_with (refine wpList_row (by rfl) 56 _ rfl _ rfl HB.out Try.underlying56 rfl (by kernel_rfl) ?_)
  refine (Find_none _).mono ?_
  rintro e w1 ⟨rfl, hb1⟩
  have HE1 := hid (HE.out.trans hb1)
  have c14 : (w1.alloc (.cells #[.int .i64 0, .int .i64 0, .int .u64 0, .int .i64 0, .string ⟨#[]⟩] 90)).cell? ⟨w.heap.size, 14, none⟩ = some (.int .u64 0) := ((HB.out.ext hb1).alloc _).cell 14
  clear hb1
  go_wp2_with fail
  go_ret
  exact Ret.mk rfl (HE1.out.alloc _)
set_option maxRecDepth 20000 in
set_option maxHeartbeats 1600000 in
theorem awake14_any (w : World) : Calls Try.prog 7 #[] w (Ret (.bool true) w) := by
  have K : Hid (∀ W, Calls Try.prog 14 #[.int .i64 30, .int .i64 0] W (Ret (.tuple #[str [130, 24, 30, 0], .int .i64 0]) W)) := fun W => Hops_yes 30 0 (by decide) W
  go_enter Try.func7, Try.ntmps7
  go_wp2_with fail
  refine (K.out _).mono ?_
  rintro e w1 ⟨rfl, hb1⟩
  go_wp2_with fail
  refine (Lived_none _).mono ?_
  rintro e w2 ⟨rfl, hb2⟩
  go_wp2_with fail
  go_ret
  exact Ret.mk rfl (hb1.trans hb2)
end Go.Proofs.Ytagjhkknefiieaa
