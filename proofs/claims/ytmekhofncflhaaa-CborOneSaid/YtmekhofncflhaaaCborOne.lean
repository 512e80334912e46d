/-
  The law CborOne: its walk.
-/
import Derived.Test.YtmekhofncflhaaaNewRd
namespace Go.Proofs.Ytmekhofncflhaaa
open Go.RowKit
set_option linter.unusedVariables false
theorem u64_nat {n : Nat} (h : n < 18446744073709551616) : 0 ≤ (n : Int) ∧ (n : Int) < 18446744073709551616 := ⟨by omega, by omega⟩

set_option maxRecDepth 20000 in
set_option maxHeartbeats 800000 in
theorem cborOne_big (l : List UInt8) (n : Nat) (hn : Hid (n < 18446744073709551616)) (hl : Hid (12 < l.length)) (w : World) : Calls Try.prog 4 #[str l, .int .u64 (n : Int)] w (Ret (.bool true) w) := by
  have t1 : decide (12 < (l.length : Int)) = true := by have := hl.out; simp; omega
  go_enter Try.func4, Try.ntmps4
  go_wp2_with fail
  refine (awake1_any _).mono ?_; rintro e w1 ⟨rfl, hb1⟩
  go_wp2_with fail
  refine (awake1_any _).mono ?_; rintro e w2 ⟨rfl, hb2⟩
  go_wp2_with fail
  go_ret
  exact Ret.mk rfl (hb1.trans hb2)
theorem mod_new {w w1 w2 w3 : World} (h1 : Ext w w1) (h2 : Ext w1 w2) (h3 : Mod [w1.heap.size] w2 w3) : Ext w w3 := by
  have hs := h1.size
  exact Mod.new (S := [w1.heap.size]) ((h1.of_ext.trans h2.of_ext).trans h3) (fun k hk => by rw [List.mem_singleton] at hk; subst hk; exact .inr hs)

set_option maxRecDepth 20000 in
set_option maxHeartbeats 800000 in
theorem cborOne_no (l : List UInt8) (n : Nat) (hn : Hid (n < 18446744073709551616)) (hl : Hid (¬ 12 < l.length)) (hd : Hid ((RS.new l).Uint.1.done = false)) (w : World) : Calls Try.prog 4 #[str l, .int .u64 (n : Int)] w (Ret (.bool true) w) := by
  have t1 : decide (12 < (l.length : Int)) = false := by have := hl.out; simp; omega
  have H4 : Hid (RS.new l).ok := RS.new_ok (by have := hl.out; omega)
  have H1 := hid (u64_nat (RS.Uint_lt (RS.new l)))
  have H2 := hid (u64_nat hn.out)
  have H3 := hid (RS.uint_head hn.out)
  have H5 : Hid (RS.new (headL 0 n)).ok := RS.new_ok (by have := headL_le 0 n; omega)
  go_enter Try.func4, Try.ntmps4
  go_wp2_with (go_at_call 12; refine (awake1_any _).mono ?_; rintro e w1 ⟨rfl, hb1⟩)
  refine (newReader_rd l _).mono ?_; rintro e w2 ⟨rfl, hb2, hr2⟩
  go_wp2_with fail
  refine (Uint_any _ (RS.new l) H4.out _ hr2).mono ?_; rintro e w3 ⟨rfl, hm3, hr3⟩
  go_wp2_with fail
  refine (Done_any _ _ _ hr3).mono ?_; rintro e w4 ⟨rfl, hb4⟩; rw [hd.out]
  go_wp2_with fail
  refine (head_any 0 _ H2.out.1 H2.out.2 _).mono ?_; rintro e w6 ⟨rfl, hb6⟩; rw [Int.toNat_natCast, show mjr 0 = 0 from rfl]
  go_wp2_with fail
  refine (newReader_rd _ _).mono ?_; rintro e w7 ⟨rfl, hb7, hr7⟩
  go_wp2_with fail
  refine (Uint_any _ (RS.new (headL 0 n)) H5.out _ hr7).mono ?_; rintro e w8 ⟨rfl, hm8, hr8⟩; rw [H3.out] at hr8 ⊢
  go_wp2_with fail
  refine (Done_any _ _ _ hr8).mono ?_; rintro e w9 ⟨rfl, hb9⟩
  go_wp2_with fail
  go_ret
  refine Ret.mk ?_ ((mod_new ((mod_new hb1 hb2 hm3).trans (hb4.trans hb6)) hb7 hm8).trans hb9)
  simp [RS.done]

set_option maxRecDepth 20000 in
set_option maxHeartbeats 800000 in
theorem cborOne_yes (l : List UInt8) (n : Nat) (hn : Hid (n < 18446744073709551616)) (hl : Hid (¬ 12 < l.length)) (hd : Hid ((RS.new l).Uint.1.done = true)) (w : World) : Calls Try.prog 4 #[str l, .int .u64 (n : Int)] w (Ret (.bool true) w) := by
  have t1 : decide (12 < (l.length : Int)) = false := by have := hl.out; simp; omega
  have H4 : Hid (RS.new l).ok := RS.new_ok (by have := hl.out; omega)
  have H1 := hid (u64_nat (RS.Uint_lt (RS.new l)))
  have H2 := hid (u64_nat hn.out)
  have H3 := hid (RS.uint_head hn.out)
  have H5 : Hid (RS.new (headL 0 n)).ok := RS.new_ok (by have := headL_le 0 n; omega)
  have H6 : Hid (headL (mjr 0) ((((RS.new l).Uint.2 : Nat) : Int).toNat) = l) := by
    rw [Int.toNat_natCast]; exact RS.uint_done hd.out
  go_enter Try.func4, Try.ntmps4
  go_wp2_with (go_at_call 12; refine (awake1_any _).mono ?_; rintro e w1 ⟨rfl, hb1⟩)
  refine (newReader_rd l _).mono ?_; rintro e w2 ⟨rfl, hb2, hr2⟩
  go_wp2_with fail
  refine (Uint_any _ (RS.new l) H4.out _ hr2).mono ?_; rintro e w3 ⟨rfl, hm3, hr3⟩
  go_wp2_with fail
  refine (Done_any _ _ _ hr3).mono ?_; rintro e w4 ⟨rfl, hb4⟩; rw [hd.out]
  go_wp2_with fail
  refine (head_any 0 _ H1.out.1 H1.out.2 _).mono ?_; rintro e w5 ⟨rfl, hb5⟩; rw [H6.out]
  go_wp2_with fail
  refine (head_any 0 _ H2.out.1 H2.out.2 _).mono ?_; rintro e w6 ⟨rfl, hb6⟩; rw [Int.toNat_natCast, show mjr 0 = 0 from rfl]
  go_wp2_with fail
  refine (newReader_rd _ _).mono ?_; rintro e w7 ⟨rfl, hb7, hr7⟩
  go_wp2_with fail
  refine (Uint_any _ (RS.new (headL 0 n)) H5.out _ hr7).mono ?_; rintro e w8 ⟨rfl, hm8, hr8⟩; rw [H3.out] at hr8 ⊢
  go_wp2_with fail
  refine (Done_any _ _ _ hr8).mono ?_; rintro e w9 ⟨rfl, hb9⟩
  go_wp2_with fail
  go_ret
  refine Ret.mk ?_ ((mod_new ((mod_new hb1 hb2 hm3).trans ((hb4.trans hb5).trans hb6)) hb7 hm8).trans hb9)
  simp [RS.done]

theorem cborOne_walk (l : List UInt8) (n : Nat) (hn : n < 18446744073709551616) (w : World) : Calls Try.prog 4 #[str l, .int .u64 (n : Int)] w (Ret (.bool true) w) := by
  by_cases hl : 12 < l.length
  · exact cborOne_big l n hn hl w
  · cases hd : (RS.new l).Uint.1.done
    · exact cborOne_no l n hn hl hd w
    · exact cborOne_yes l n hn hl hd w
end Go.Proofs.Ytmekhofncflhaaa
