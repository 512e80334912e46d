/-
  The walks of package cbor's opens, Open and NewReader.
-/
import Derived.Test.YtagjhkknefiieaaHead
namespace Go.Proofs.Ytagjhkknefiieaa
open Go.RowKit
set_option linter.unusedVariables false

theorem ret_bool {b c : Bool} (h : b = c) : Ending.returned (.bool b) = .returned (.bool c) := by rw [h]
set_option maxHeartbeats 400000 in
theorem opens_any (m : Int) (w : World) : Calls Try.prog 89 #[.int .i64 m] w fun e w' => e = .returned (.bool (opensB m)) ∧ w = w' := by
  go_enter Try.func89, Try.ntmps89
  go_wp2
  all_goals go_ret
  all_goals exact ⟨ret_bool (by unfold opensB; rw [Bool.eq_iff_iff]; simp [*]; try omega), rfl⟩

theorem open_bits : ∀ m : Fin 8, bits .or .i64 ((m.val : Int) * 32) 31 = (m.val : Int) * 32 + 31 := by decide +kernel
set_option maxHeartbeats 400000 in
theorem open_yes (m : Nat) (h : opensB m = true) (w : World) : Calls Try.prog 75 #[.int .i64 m] w (Ret (str (openL m)) w) := by
  have hm : 2 ≤ m ∧ m ≤ 7 := by unfold opensB at h; simp at h; omega
  obtain ⟨h2, h7⟩ := hm
  have ho := open_bits ⟨m, by omega⟩
  dsimp only at ho
  have e : openL m = [b8i ((m : Int) * 32 + 31)] := by
    unfold openL b8 b8i; rw [if_pos h]; congr 2; omega
  have hcv := convByte
  rw [e]
  have hw : 0 ≤ (m : Int) * 32 + 31 := by omega
  go_enter Try.func75, Try.ntmps75
  go_wp2_with (go_at_call 89; refine (opens_any _ _).mono ?_; rintro e w' ⟨rfl, rfl⟩)
  go_ret
  exact ⟨rfl, (Mod.refl _ _).alloc _⟩
set_option maxHeartbeats 400000 in
theorem open_no (m : Int) (h : opensB m = false) (w : World) : Calls Try.prog 75 #[.int .i64 m] w (Ret (str (openL m)) w) := by
  have e : openL m = [] := by unfold openL; simp [h]
  rw [e]
  go_enter Try.func75, Try.ntmps75
  go_wp2_with (go_at_call 89; refine (opens_any _ _).mono ?_; rintro e w' ⟨rfl, rfl⟩)
  go_ret
  exact ⟨rfl, Mod.refl _ _⟩
theorem open_any (m : Int) (w : World) : Calls Try.prog 75 #[.int .i64 m] w (Ret (str (openL m)) w) := by
  cases h : opensB m with
  | false => exact open_no m h w
  | true =>
    have : 0 ≤ m := by unfold opensB at h; simp at h; omega
    obtain ⟨n, rfl⟩ := Int.eq_ofNat_of_zero_le this
    exact open_yes n h w

/-- The cells of a reader. -/
def rdr (s : List UInt8) (at_ bad e from_ : Int) : Array Value := #[str s, .int .i64 at_, .int .i64 bad, .int .i64 e, .int .i64 from_]
set_option maxHeartbeats 400000 in
theorem newReader_any (s : List UInt8) (w : World) : Calls Try.prog 90 #[str s] w fun e w' =>
    e = .returned (.pointer (some ⟨w.heap.size, 0, none⟩)) ∧ w' = w.alloc (.cells (rdr s 0 (-1) 0 0) 137) := by
  go_enter Try.func90, Try.ntmps90
  go_wp2
  go_ret
  exact ⟨rfl, rfl⟩
end Go.Proofs.Ytagjhkknefiieaa
