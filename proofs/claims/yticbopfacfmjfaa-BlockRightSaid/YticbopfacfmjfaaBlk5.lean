/-
  A block's bytes; the block that the laws wake the program by.
-/
import Derived.Test.YticbopfacfmjfaaBlk4
namespace Go.Proofs.Yticbopfacfmjfaa
open Go.RowKit
set_option linter.unusedVariables false

set_option maxRecDepth 20000 in
set_option maxHeartbeats 800000 in
theorem Build_bad (b : BV) (hb : b.right ≠ 0) (w : World) : Calls Try.prog 8 #[b.v] w (Ret (.tuple #[str [], .int .i64 b.right]) w) := by
  have HE0 := hid ((Mod.refl [] w).alloc (.cells b.c 24))
  have k1 : Hid (∀ W, Calls Try.prog 7 #[b.v] W (Ret (.tuple #[itemV (numT 0) none 0, .int .i64 b.right]) W)) := fun W => Item_bad b hb W
  generalize b.right = r at *
  have e1 : (r = 0) = False := by simp [hb]
  have e2 : (r == 0) = false := by simp [hb]
  go_enter Try.func8, Try.ntmps8
  go_wp2_with fail
  refine (k1.out _).mono ?_
  rintro e w1 ⟨rfl, hb1⟩
  have HE1 := hid (HE0.out.trans hb1)
  clear hb1
  go_wp2_with fail
  refine bodyPost_ret (v := .tuple #[str [], .int .i64 r]) (by simp [results, Try.results8, go_sem]) rfl (Ret.mk rfl (HE1.out.alloc _))
set_option maxRecDepth 20000 in
set_option maxHeartbeats 800000 in
theorem Build_ok (ty num fl crc : Nat) (data : List UInt8) (hb : BV.right ⟨ty, num, fl, crc, data⟩ = 0) (t : T) (hok : t.ok) (hsz : t.size ≤ 100000) (KS : Hid (∀ N A c W, N ≤ W.heap.size → IsL W (fun b => N ≤ b) (blkT ty num fl crc data []) A → Calls Try.prog 16 #[.int .i64 (crc : Int), itemV (blkT ty num fl crc data []) A c] W (fun e w' => ∃ A c, e = .returned (itemV t A c) ∧ Ext W w' ∧ IsL w' (fun b => N ≤ b) t A))) (w : World) : Calls Try.prog 8 #[BV.v ⟨ty, num, fl, crc, data⟩] w (Ret (buildV t) w) := by
  have HE0 := hid ((Mod.refl [] w).alloc (.cells (BV.c ⟨ty, num, fl, crc, data⟩) 24))
  go_enter Try.func8, Try.ntmps8
  go_wp2_with fail
  refine (Item_ok ty num fl crc data hb t KS _).mono ?_
  rintro e w1 ⟨A, c, rfl, hb1, hl1⟩
  have HE1 := hid (HE0.out.trans hb1)
  have HL1 := hid hl1
  clear hb1 hl1
  go_wp2_with fail
  refine (iBuild_any t hok hsz A c _ (IsL.ext (IsL.weak (fun _ _ _ => trivial) _ HL1.out) ((Mod.refl _ _).alloc _))).mono ?_
  rintro e w2 ⟨rfl, hb2⟩
  have HE2 := hid ((HE1.out.alloc _).trans hb2)
  clear hb2
  obtain ⟨s, E, hV⟩ : ∃ s E, buildV t = .tuple #[str s, .int .i64 E] := by unfold buildV; split; exact ⟨_, _, rfl⟩; exact ⟨_, _, rfl⟩
  rw [hV]
  go_wp2_with fail
  refine bodyPost_ret (v := .tuple #[str s, .int .i64 E]) (by simp [results, Try.results8, go_sem]) rfl (Ret.mk hV.symm HE2.out)

set_option maxRecDepth 20000 in
theorem awake12_any (w : World) : Calls Try.prog 5 #[] w (Ret (.bool true) w) := by
  have K : Hid (∀ W, Calls Try.prog 8 #[BV.v ⟨1, 1, 0, 0, [104, 105]⟩] W (Ret (.tuple #[str [133, 1, 1, 0, 0, 66, 104, 105], .int .i64 0]) W)) := fun W => by
    have h := Build_ok 1 1 0 0 [104, 105] (by decide) (blkT 1 1 0 0 [104, 105] []) (blkT_ok (by omega) (by omega) (by omega) (by omega) (by decide) (by decide)) (by decide) (fun N A c W hN hl => (summed_0 _ A c W).mono fun e w' ⟨he, hb⟩ => ⟨A, c, he, hb, hl.ext hb⟩) W
    have e : buildV (blkT 1 1 0 0 [104, 105] []) = .tuple #[str [133, 1, 1, 0, 0, 66, 104, 105], .int .i64 0] := by
      have h1 : (blkT 1 1 0 0 [104, 105] []).right 8 = true := by decide
      have h2 : (blkT 1 1 0 0 [104, 105] []).bytes = [133, 1, 1, 0, 0, 66, 104, 105] := by decide
      rw [buildV, h1, h2]; rfl
    rw [e] at h
    exact h
  go_enter Try.func5, Try.ntmps5
  go_wp2_with fail
  refine (K.out _).mono ?_
  rintro e w1 ⟨rfl, hb1⟩
  go_wp2_with fail
  go_ret
  exact Ret.mk rfl hb1
end Go.Proofs.Yticbopfacfmjfaa
