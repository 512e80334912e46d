/-
  The law BlockHeaders: its walk.
-/
import Derived.Test.YticbopfacfmjfaaBlk5
import Derived.Test.YticbopfacfmjfaaBlk2
namespace Go.Proofs.Yticbopfacfmjfaa
open Go.RowKit
set_option linter.unusedVariables false

theorem bv_nat {b : BV} (h : b.right = 0) : ∃ ty num : Nat, b = ⟨ty, num, b.fl, b.crc, b.data⟩ := by
  obtain ⟨ty, num, fl, crc, data⟩ := b
  have h := BV.right_zero h
  simp only [] at h
  obtain ⟨ty, rfl⟩ := Int.eq_ofNat_of_zero_le (show 0 ≤ ty by omega)
  obtain ⟨num, rfl⟩ := Int.eq_ofNat_of_zero_le (show 0 ≤ num by omega)
  exact ⟨ty, num, rfl⟩
theorem hdr_call {b : BV} (h : b.right = 0) (w : World) : Calls Try.prog 9 #[b.v] w (Ret (.tuple #[str b.hdr, .int .i64 0]) w) := by
  obtain ⟨ty, num, e⟩ := bv_nat h
  rw [e] at h ⊢
  simpa [BV.hdr] using cHeader_ok ty num b.fl b.crc b.data h w

set_option maxRecDepth 20000 in
set_option maxHeartbeats 800000 in
theorem blockHeaders_walk (b c : BV) (w : World) : Calls Try.prog 4 #[b.v, c.v] w (Ret (.bool true) w) := by
  have HE0 := hid (((Mod.refl [] w).alloc (.cells b.c 24)).alloc (.cells c.c 24))
  have HB := hid ((Blk.new w 24 b.c).alloc (.cells c.c 24))
  have HC : Hid (Blk ((w.alloc (.cells b.c 24)).alloc (.cells c.c 24)) (w.heap.size + 1) 24 c.c) := by
    have := Blk.new (w.alloc (.cells b.c 24)) 24 c.c
    unfold Hid
    simpa using this
  have k1 : Hid (∀ W, Calls Try.prog 6 #[b.v] W (Ret (.int .i64 b.right) W)) := fun W => rbRight_any b W
  have k2 : Hid (∀ W, Calls Try.prog 6 #[c.v] W (Ret (.int .i64 c.right) W)) := fun W => rbRight_any c W
  go_enter Try.func4, Try.ntmps4
  go_wp2_with fail
  refine (awake12_any _).mono ?_
  rintro e w1 ⟨rfl, hb1⟩
  have HE1 := hid (HE0.out.trans hb1)
  have HB1 := hid (HB.out.ext hb1)
  have HC1 := hid (HC.out.ext hb1)
  have cb4 : w1.cell? ⟨w.heap.size, 4, none⟩ = some (str b.data) := HB1.out.cell 4
  have cc4 : w1.cell? ⟨w.heap.size + 1, 4, none⟩ = some (str c.data) := HC1.out.cell 4
  clear hb1
  by_cases l1 : 500 < b.data.length
  · have t1 : decide (500 < (b.data.length : Int)) = true := by simp; omega
    clear l1
    go_wp2_with fail
    refine (awake12_any _).mono ?_
    rintro e w3 ⟨rfl, hb3⟩
    go_wp2_with fail
    go_ret
    exact Ret.mk rfl (HE1.out.trans hb3)
  have t1 : decide (500 < (b.data.length : Int)) = false := by simp; omega
  by_cases l2 : 500 < c.data.length
  · have t2 : decide (500 < (c.data.length : Int)) = true := by simp; omega
    clear l1 l2
    go_wp2_with fail
    refine (awake12_any _).mono ?_
    rintro e w3 ⟨rfl, hb3⟩
    go_wp2_with fail
    go_ret
    exact Ret.mk rfl (HE1.out.trans hb3)
  have t2 : decide (500 < (c.data.length : Int)) = false := by simp; omega
  clear l1 l2
  go_wp2_with (first
    | (refine wpList_row (by rfl) 24 _ rfl _ rfl HB1.out Try.underlying24 rfl (by kernel_rfl) ?_)
    | (refine wpList_row (by rfl) 24 _ rfl _ rfl HC1.out Try.underlying24 rfl (by kernel_rfl) ?_))
  refine (k1.out _).mono ?_
  rintro e w2 ⟨rfl, hb2⟩
  have HE2 := hid (HE1.out.trans hb2)
  have HB2 := hid (HB1.out.ext hb2)
  have HC2 := hid (HC1.out.ext hb2)
  clear hb2 cb4 cc4
  by_cases r1 : b.right = 0
  case neg =>
    have e1 : (b.right = 0) = False := by simp [r1]
    have e2 : (b.right == 0) = false := by simp [r1]
    clear r1
    go_wp2_with fail
    refine (awake12_any _).mono ?_
    rintro e w3 ⟨rfl, hb3⟩
    go_wp2_with fail
    go_ret
    exact Ret.mk rfl (HE2.out.trans hb3)
  have R1 := hid r1
  rw [r1]
  clear r1
  go_wp2_with (first
    | (refine wpList_row (by rfl) 24 _ rfl _ rfl HB2.out Try.underlying24 rfl (by kernel_rfl) ?_)
    | (refine wpList_row (by rfl) 24 _ rfl _ rfl HC2.out Try.underlying24 rfl (by kernel_rfl) ?_))
  refine (k2.out _).mono ?_
  rintro e w3 ⟨rfl, hb3⟩
  have HE3 := hid (HE2.out.trans hb3)
  have HB3 := hid (HB2.out.ext hb3)
  have HC3 := hid (HC2.out.ext hb3)
  clear hb3
  by_cases r2 : c.right = 0
  case neg =>
    have e1 : (c.right = 0) = False := by simp [r2]
    have e2 : (c.right == 0) = false := by simp [r2]
    clear r2
    go_wp2_with fail
    refine (awake12_any _).mono ?_
    rintro e w4 ⟨rfl, hb4⟩
    go_wp2_with fail
    go_ret
    exact Ret.mk rfl (HE3.out.trans hb4)
  have R2 := hid r2
  rw [r2]
  clear r2
  go_wp2_with (first
    | (refine wpList_row (by rfl) 24 _ rfl _ rfl HB3.out Try.underlying24 rfl (by kernel_rfl) ?_)
    | (refine wpList_row (by rfl) 24 _ rfl _ rfl HC3.out Try.underlying24 rfl (by kernel_rfl) ?_))
  refine (hdr_call R1.out _).mono ?_
  rintro e w4 ⟨rfl, hb4⟩
  have HE4 := hid (HE3.out.trans hb4)
  have HB4 := hid (HB3.out.ext hb4)
  have HC4 := hid (HC3.out.ext hb4)
  clear hb4
  go_wp2_with (first
    | (refine wpList_row (by rfl) 24 _ rfl _ rfl HB4.out Try.underlying24 rfl (by kernel_rfl) ?_)
    | (refine wpList_row (by rfl) 24 _ rfl _ rfl HC4.out Try.underlying24 rfl (by kernel_rfl) ?_))
  refine (hdr_call R2.out _).mono ?_
  rintro e w5 ⟨rfl, hb5⟩
  have HE5 := hid (HE4.out.trans hb5)
  have HB5 := hid (HB4.out.ext hb5)
  have HC5 := hid (HC4.out.ext hb5)
  clear hb5
  have HH := hid (BV.hdr_eq R1.out R2.out)
  have HN := hid (BV.hdr_ne b)
  generalize b.hdr = x at *
  generalize c.hdr = y at *
  obtain ⟨p0, p1, p2⟩ : w5.cell? ⟨w.heap.size, 0, none⟩ = some (.int .i64 b.ty) ∧ w5.cell? ⟨w.heap.size, 1, none⟩ = some (.int .i64 b.num) ∧ w5.cell? ⟨w.heap.size, 2, none⟩ = some (.int .u64 (b.fl : Int)) := ⟨HB5.out.cell 0, HB5.out.cell 1, HB5.out.cell 2⟩
  obtain ⟨q0, q1, q2⟩ : w5.cell? ⟨w.heap.size + 1, 0, none⟩ = some (.int .i64 c.ty) ∧ w5.cell? ⟨w.heap.size + 1, 1, none⟩ = some (.int .i64 c.num) ∧ w5.cell? ⟨w.heap.size + 1, 2, none⟩ = some (.int .u64 (c.fl : Int)) := ⟨HC5.out.cell 0, HC5.out.cell 1, HC5.out.cell 2⟩
  have hxe : x.isEmpty = false := by have := HN.out; cases x <;> simp_all
  have hxn : (x = []) = False := by simpa using HN.out
  have hxb : (x == []) = false := by simpa using HN.out
  clear R1 R2 k1 k2 t1 t2
  by_cases g1 : b.ty = c.ty
  case neg =>
    have hn : ¬ x = y := fun h => g1 (HH.out.1 h).1
    have m1 : (x = y) = False := by simpa using hn
    have m2 : (x == y) = false := by simpa using hn
    have z1 : (b.ty = c.ty) = False := by simpa using g1
    have z2 : (b.ty == c.ty) = false := by simpa using g1
    clear hn g1
    go_wp2_with fail
    go_ret
    exact Ret.mk rfl HE5.out
  by_cases g2 : b.num = c.num
  case neg =>
    have hn : ¬ x = y := fun h => g2 (HH.out.1 h).2.1
    have m1 : (x = y) = False := by simpa using hn
    have m2 : (x == y) = false := by simpa using hn
    have z1 : (b.num = c.num) = False := by simpa using g2
    have z2 : (b.num == c.num) = false := by simpa using g2
    rw [g1] at p0
    clear hn g2 g1
    go_wp2_with fail
    go_ret
    exact Ret.mk rfl HE5.out
  by_cases g3 : b.fl = c.fl
  case neg =>
    have hn : ¬ x = y := fun h => g3 (HH.out.1 h).2.2
    have m1 : (x = y) = False := by simpa using hn
    have m2 : (x == y) = false := by simpa using hn
    have z1 : ((b.fl : Int) = (c.fl : Int)) = False := by simp; omega
    have z2 : ((b.fl : Int) == (c.fl : Int)) = false := by simp; omega
    rw [g1] at p0
    rw [g2] at p1
    clear hn g2 g1 g3
    go_wp2_with fail
    go_ret
    exact Ret.mk rfl HE5.out
  obtain rfl : x = y := HH.out.2 ⟨g1, g2, g3⟩
  rw [g1] at p0
  rw [g2] at p1
  rw [g3] at p2
  clear g1 g2 g3
  go_wp2_with fail
  go_ret
  exact Ret.mk rfl HE5.out
end Go.Proofs.Yticbopfacfmjfaa
