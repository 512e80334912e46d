/-
  The law CborHeads: for every type and number the walk of the Go text returns true, and turns nothing that was there.
-/
import Derived.Test.YtmekhofncflhaaaRef01
namespace Go.Proofs.Ytmekhofncflhaaa
open Go.RowKit
set_option linter.unusedVariables false

theorem awake1_any (w : World) : Calls Try.prog 12 #[] w (Ret (.bool true) w) := by
  have e1 : headL (mjr 0) (500 : Int).toNat = [25, 1, 244] := by decide +kernel
  go_enter Try.func12, Try.ntmps12
  go_wp2_with (first | (go_at_call 13; refine (head_any _ _ (by omega) (by omega) _).mono ?_; rintro e w' ⟨rfl, hb⟩; rw [e1]) | (go_at_call 16; refine (newReader_any [] _).mono ?_; rintro e w' ⟨rfl, rfl⟩))
  go_ret
  exact Ret.mk rfl (hb.alloc _)

theorem mjr_zero {m : Int} (h : mjB m = true) : Value.int .i64 0 = .int .i64 ((mjr m : Nat) : Int) := mjr_out h
theorem open_str_yes {x : Int} (h : opensB x = true) : str [b8i (32 * ((mjr x : Nat) : Int) + 31)] = str (openL x) := by
  have h' := h
  unfold opensB at h'; simp at h'
  unfold openL b8i b8 mjr
  rw [if_pos h, if_pos (by omega)]
  congr 4
theorem open_str_no {x : Int} (h : opensB x = false) : Value.string { data := #[] } = str (openL x) := by
  unfold openL; rw [h]; rfl

set_option maxHeartbeats 400000 in
theorem cborHeads_walk (x n : Int) (hn0 : 0 ≤ n) (hn1 : Hid (n < 18446744073709551616)) (w : World) : Calls Try.prog 3 #[.int .i64 x, .int .u64 n] w (Ret (.bool true) w) := by
  go_enter Try.func3, Try.ntmps3
  go_upto_region 2 with fail
  go_cut [13] (fun s wx => s = .bool (mjB x) ∧ wx = w)
  case first =>
    go_wp2
    all_goals (go_meet; exact ⟨mj_bool (by unfold mjB; simp [*]), rfl⟩)
  obtain ⟨rfl, rfl⟩ := hcut
  go_upto_if 13 with fail
  go_cut [5] (fun s0 wx => s0 = .int .i64 ((mjr x : Nat) : Int) ∧ wx = wc)
  case first =>
    cases h : mjB x
    · go_wp2
      go_meet
      exact ⟨mjr_in h, rfl⟩
    · go_wp2
      go_meet
      exact ⟨mjr_out h, rfl⟩
  obtain ⟨rfl, hw⟩ := hcut
  subst hw
  go_upto_region 5 with fail
  go_cut [23] (fun s wx => s = .bool (opensB x) ∧ wx = wc)
  case first =>
    go_wp2
    all_goals (go_meet; exact ⟨mj_bool (by rw [Bool.eq_iff_iff]; unfold opensB; simp; omega), rfl⟩)
  obtain ⟨rfl, hw⟩ := hcut
  subst hw
  have hle := mjr_le x
  go_upto_if 23 with fail
  go_cut [6] (fun s wx => s = str (openL x) ∧ Ext wc wx)
  case first =>
    have hcv := convByte
    cases h : opensB x
    · go_wp2
      go_meet
      exact ⟨open_str_no h, Mod.refl _ _⟩
    · have hs := open_str_yes h
      go_wp2
      go_meet
      exact ⟨rfl, (Mod.refl _ _).alloc _⟩
  obtain ⟨rfl, hb0⟩ := hcut
  go_wp2_with (first | (go_at_call 12; refine (awake1_any _).mono ?_; rintro e w1 ⟨rfl, hb1⟩) | (go_at_call 13; refine (head_any _ _ hn0 hn1.out _).mono ?_; rintro e w2 ⟨rfl, hb2⟩) | (go_at_call 14; refine (rhead_in _ _ (by omega) (by omega) hn0 hn1.out _).mono ?_; rintro e w3 ⟨rfl, hb3⟩) | (go_at_call 15; refine (open_any _ _).mono ?_; rintro e w4 ⟨rfl, hb4⟩))
  go_ret
  exact Ret.mk rfl ((((hb0.trans hb1).trans hb2).trans hb3).trans hb4)
end Go.Proofs.Ytmekhofncflhaaa
