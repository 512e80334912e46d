/-
  The law CborStrings: its walk.
-/
import Derived.Test.YtmekhofncflhaaaNewRd
import Derived.Test.YtmekhofncflhaaaStrs
namespace Go.Proofs.Ytmekhofncflhaaa
open Go.RowKit
set_option linter.unusedVariables false

theorem zeros_row {w : World} {b t k : Nat} (h : w.rowIs b t k (fun _ => .int .u8 0)) : w.rowIs b t k (fun _ => .int .u8 ((0 : Nat) : Int)) := h

theorem reader_done (l : List UInt8) : RS.done ⟨l, l.length, -1, 0, 0⟩ = true := by simp [RS.done]

/-- What is checked of the long string. -/
def StrOk (L : List UInt8) : Prop := L.length ≤ 70000

set_option maxRecDepth 20000 in
set_option maxHeartbeats 800000 in
theorem cborStrings_big (l : List UInt8) (n : Nat) (hl : Hid (70000 < l.length)) (w : World) : Calls Try.prog 6 #[str l, .int .u32 (n : Int)] w (Ret (.bool true) w) := by
  have t1 : decide (70000 < (l.length : Int)) = true := by have := hl.out; simp; omega
  go_enter Try.func6, Try.ntmps6
  go_wp2_with fail
  refine (awake1_any _).mono ?_; rintro e w1 ⟨rfl, hb1⟩
  go_wp2_with fail
  refine (awake1_any _).mono ?_; rintro e w2 ⟨rfl, hb2⟩
  go_wp2_with fail
  go_ret
  exact Ret.mk rfl (hb1.trans hb2)

set_option maxRecDepth 20000 in
set_option maxHeartbeats 1600000 in
theorem cborStrings_small (l : List UInt8) (n : Nat) (hl : Hid (¬ 70000 < l.length)) (w : World) : Calls Try.prog 6 #[str l, .int .u32 (n : Int)] w (Ret (.bool true) w) := by
  have t1 : decide (70000 < (l.length : Int)) = false := by have := hl.out; simp; omega
  go_enter Try.func6, Try.ntmps6
  go_upto_region 4 with (go_at_call 12; refine (awake1_any _).mono ?_; rintro e w1 ⟨rfl, hb1⟩)
  go_cut [26] (fun s wx => (∃ c : Bool, s = .bool c) ∧ wx = w1)
  case first =>
    go_wp2
    all_goals (go_meet; exact ⟨⟨_, rfl⟩, rfl⟩)
  obtain ⟨⟨c, rfl⟩, hw⟩ := hcut
  subst hw
  go_upto_if 26 with fail
  go_cut [5] (fun s wx => (∃ L, StrOk L ∧ s = str L) ∧ Ext wc wx)
  case first =>
    cases c
    · go_wp2
      go_meet
      exact ⟨⟨l, Nat.le_of_not_lt hl.out, rfl⟩, Mod.refl _ _⟩
    · have hmk : ∀ W : World, (Instr.makeSlice 23 (.int .i64 ((n : Int) % 70000)) (.int .i64 ((n : Int) % 70000))).run Try.prog W = .ok (.slice (some ⟨W.heap.size, 0, none⟩) (n % 70000) (n % 70000)) (W.alloc (.cells (madeCells #[.int .u8 0] (n % 70000)) 5)) := by
        intro W
        have := run_make_row' (P := Try.prog) 23 5 (.int .u8 0) 1 Try.underlying23 infoByte rfl .i64 .i64 (n % 70000) (by omega) (by omega) W
        simpa using this
      have hcv := run_row_string (P := Try.prog) (wc.alloc (.cells (madeCells #[.int .u8 0] (n % 70000)) 5)) 23 9 5 Try.underlying23 Try.underlying5 Try.underlying9 wc.heap.size 5 (n % 70000) (n % 70000) (fun _ => 0) (zeros_row (World.rowIs_made wc _ _ _))
      go_wp2
      go_meet
      exact ⟨⟨_, by unfold StrOk; simp; omega, rfl⟩, (Mod.refl _ _).alloc _⟩
  obtain ⟨⟨L, hL, rfl⟩, hb2⟩ := hcut
  rename_i wc2
  have H1 : Hid (L.length < 4611686018427387904) := by have : L.length ≤ 70000 := hL; unfold Hid; omega
  have H2 : Hid ((RS.new (headL 2 L.length ++ L)).ok) := RS.new_ok (by have : L.length ≤ 70000 := hL; have := headL_le 2 L.length; rw [List.length_append]; omega)
  have H3 : Hid ((RS.new (headL 3 L.length ++ L)).ok) := RS.new_ok (by have : L.length ≤ 70000 := hL; have := headL_le 3 L.length; rw [List.length_append]; omega)
  have H4 := hid (RS.str_head (m := 2) (by omega) (s := L) (by have : L.length ≤ 70000 := hL; omega) (most := 80000) (by have : L.length ≤ 70000 := hL; omega))
  have H5 := hid (RS.str_head (m := 3) (by omega) (s := L) (by have : L.length ≤ 70000 := hL; omega) (most := 80000) (by have : L.length ≤ 70000 := hL; omega))
  have H6 : Hid ((80000 : Int) < 9223372036854775808) := by unfold Hid; omega
  go_wp2_with fail
  refine (wBytes_any L H1 _).mono ?_; rintro e w3 ⟨rfl, hb3⟩
  go_wp2_with fail
  refine (wText_any L H1 _).mono ?_; rintro e w4 ⟨rfl, hb4⟩
  go_wp2_with fail
  refine (rBytes_any L H1 _).mono ?_; rintro e w5 ⟨rfl, hb5⟩
  go_wp2_with fail
  refine (rText_any L H1 _).mono ?_; rintro e w6 ⟨rfl, hb6⟩
  go_wp2_with fail
  refine (newReader_rd _ _).mono ?_; rintro e w7 ⟨rfl, hb7, hr7⟩
  go_wp2_with fail
  refine (newReader_rd _ _).mono ?_; rintro e w8 ⟨rfl, hb8, hr8⟩
  go_wp2_with fail
  refine (RBytes_any _ _ H2.out 80000 H6 _ (hr7.ext hb8)).mono ?_; rintro e w9 ⟨rfl, hm9, hr9⟩
  rw [H4.out] at hr9 ⊢
  go_wp2_with fail
  refine (Done_any _ _ _ hr9).mono ?_; rintro e w10 ⟨rfl, hb10⟩
  rw [reader_done]
  have hr8' : RdAt w10 w7.heap.size (RS.new (headL 3 L.length ++ L)) := (Blk.mod hr8 hm9 (by have := hr7.lt; simp; omega)).ext hb10
  go_wp2_with fail
  refine (RText_any _ _ H3.out 80000 H6 _ hr8').mono ?_; rintro e w11 ⟨rfl, hm11, hr11⟩
  rw [H5.out] at hr11 ⊢
  go_wp2_with fail
  refine (Done_any _ _ _ hr11).mono ?_; rintro e w12 ⟨rfl, hb12⟩
  rw [reader_done]
  go_wp2_with fail
  go_ret
  refine Ret.mk rfl ?_
  have k7 : Ext w w6 := (((((hb1.trans hb2).trans hb3).trans hb4).trans hb5).trans hb6)
  have k8 := k7.trans hb7
  have s6 := k7.size
  have s7 := k8.size
  refine Mod.trans ?_ hb12
  refine Mod.new (S := [w6.heap.size, w7.heap.size]) ((((k8.trans hb8).of_ext.trans (hm9.mono (by simp))).trans hb10.of_ext).trans (hm11.mono (by simp))) ?_
  intro k hk
  simp at hk
  rcases hk with rfl | rfl
  · exact .inr s6
  · exact .inr s7
theorem cborStrings_walk (l : List UInt8) (n : Nat) (w : World) : Calls Try.prog 6 #[str l, .int .u32 (n : Int)] w (Ret (.bool true) w) := by
  by_cases hl : 70000 < l.length
  · exact cborStrings_big l n hl w
  · exact cborStrings_small l n hl w
end Go.Proofs.Ytmekhofncflhaaa
