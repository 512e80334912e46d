/-
  The law BlockRight: its walk.
-/
import Derived.Test.YticbopfacfmjfaaRef12b
import Derived.Test.YticbopfacfmjfaaBlk2
import Derived.Test.YticbopfacfmjfaaItRef2
namespace Go.Proofs.Yticbopfacfmjfaa
open Go.RowKit
set_option linter.unusedVariables false

set_option maxRecDepth 20000 in
set_option maxHeartbeats 1600000 in
theorem blockRight_walk (b : BV) (hfl : Hid (b.fl < 18446744073709551616)) (n : Nat) (hn : Hid (n ≤ 65535)) (w : World) : Calls Try.prog 3 #[b.v, .int .u16 (n : Int)] w (Ret (.bool true) w) := by
  have HE0 := hid ((Mod.refl [] w).alloc (.cells b.c 24))
  have HB := hid (Blk.new w 24 b.c)
  go_enter Try.func3, Try.ntmps3
  go_wp2_with fail
  refine (awake12_any _).mono ?_
  rintro e w1 ⟨rfl, hb1⟩
  have HE1 := hid (HE0.out.trans hb1)
  have HB1 := hid (HB.out.ext hb1)
  have cb4 : w1.cell? ⟨w.heap.size, 4, none⟩ = some (str b.data) := HB1.out.cell 4
  clear hb1
  by_cases l1 : 500 < b.data.length
  · have t1 : decide (500 < (b.data.length : Int)) = true := by simp; omega
    clear l1
    go_wp2_with fail
    refine (awake12_any _).mono ?_
    rintro e w3 ⟨rfl, hb3⟩
    go_wp2_with fail
    go_ret
    exact Ret.mk rfl (HE1.out.trans hb3)
  have t1 : decide (500 < (b.data.length : Int)) = false := by simp; omega
  have L1 := hid l1
  clear l1
  go_upto_if 22 with fail
  go_cut [] (fun wx => ∃ d : List UInt8, d.length < 1000000 ∧ Hid (Ext w wx ∧ Blk wx w.heap.size 24 (BV.c { b with data := d })))
  case first =>
    by_cases l2 : 60000 < n
    · have t2 : decide (60000 < (n : Int)) = true := by simp; omega
      have HBA := hid (HB1.out.alloc (.cells (madeCells #[.int .u8 0] (3900 + n % 200)) 5))
      have cA : (w1.alloc (.cells (madeCells #[.int .u8 0] (3900 + n % 200)) 5)).cell? ⟨w.heap.size, 4, none⟩ = some (str b.data) := HBA.out.cell 4
      have fA : (w1.alloc (.cells (madeCells #[.int .u8 0] (3900 + n % 200)) 5)).frozen? ⟨w.heap.size, 4, none⟩ = false := Blk.frozen HBA.out 4
      have hmk : ∀ W : World, (Instr.makeSlice 27 (.int .i64 (3900 + (n : Int) % 200)) (.int .i64 (3900 + (n : Int) % 200))).run Try.prog W = .ok (.slice (some ⟨W.heap.size, 0, none⟩) (3900 + n % 200) (3900 + n % 200)) (W.alloc (.cells (madeCells #[.int .u8 0] (3900 + n % 200)) 5)) := by
        intro W
        have := run_make_row' (P := Try.prog) 27 5 (.int .u8 0) 1 Try.underlying27 infoByte8 rfl .i64 .i64 (3900 + n % 200) (by omega) (by omega) W
        simpa using this
      have hcv := conv_made (3900 + n % 200) (3900 + n % 200)
      go_wp2_with fail
      go_meet
      have hst := HBA.out.set_ 4 (str (List.replicate (3900 + n % 200) 0))
      have e : Value.string ⟨Array.replicate (3900 + n % 200) 0⟩ = str (List.replicate (3900 + n % 200) 0) := by simp
      refine ⟨List.replicate (3900 + n % 200) 0, by simp; omega, (HE1.out.alloc _).setCell (.inr (Nat.le_refl _)) _, ?_⟩
      rw [e]
      simpa using hst
    · have t2 : decide (60000 < (n : Int)) = false := by simp; omega
      go_wp2_with fail
      go_meet
      exact ⟨b.data, by have := L1.out; omega, HE1.out, HB1.out⟩
  obtain ⟨d, hd, hW⟩ := hcut
  rename World => V
  obtain ⟨B, hB, hBf⟩ : ∃ B : BV, B = { b with data := d } ∧ B.fl = b.fl := ⟨_, rfl, rfl⟩
  rw [← hB] at hW
  have HEV := hid hW.out.1
  have HBV := hid hW.out.2
  have HF : Hid (B.fl < 18446744073709551616) := by rw [hBf]; exact hfl
  clear hW hB hBf hd cb4 HB1 HE1 HB HE0 t1 L1
  have kR := hid (fun W => rbRight_any B W)
  have kC := hid (fun W => cbRight_any B W)
  go_wp2_with (refine wpList_row (by rfl) 24 _ rfl _ rfl HBV.out Try.underlying24 rfl (by kernel_rfl) ?_)
  refine (kR.out _).mono ?_
  rintro e w2 ⟨rfl, hb2⟩
  have HE2 := hid (HEV.out.trans hb2)
  have HB2 := hid (HBV.out.ext hb2)
  clear hb2
  by_cases hr : B.right = 0
  case neg =>
    have KI := hid (fun W => Item_bad B hr W)
    have KB := hid (fun W => Build_bad B hr W)
    have KH := hid (fun W => cHeader_bad B hr W)
    generalize B.right = r at *
    have e1 : (r = 0) = False := by simp [hr]
    have e2 : (r == 0) = false := by simp [hr]
    clear hr
    go_wp2_with (refine wpList_row (by rfl) 24 _ rfl _ rfl HB2.out Try.underlying24 rfl (by kernel_rfl) ?_)
    refine (KI.out _).mono ?_
    rintro e w3 ⟨rfl, hb3⟩
    have HE3 := hid ((HE2.out.trans hb3).alloc (.cells (itemC (numT 0) none 0) 32))
    have HB3 := hid ((HB2.out.ext hb3).alloc (.cells (itemC (numT 0) none 0) 32))
    have HX3 := hid (Blk.new w3 32 (itemC (numT 0) none 0))
    clear hb3
    go_wp2_with (refine wpList_row (by rfl) 24 _ rfl _ rfl HB3.out Try.underlying24 rfl (by kernel_rfl) ?_)
    refine (KB.out _).mono ?_
    rintro e w4 ⟨rfl, hb4⟩
    have HE4 := hid (HE3.out.trans hb4)
    have HB4 := hid (HB3.out.ext hb4)
    have HX4 := hid (HX3.out.ext hb4)
    clear hb4
    go_wp2_with (refine wpList_row (by rfl) 24 _ rfl _ rfl HB4.out Try.underlying24 rfl (by kernel_rfl) ?_)
    refine (KH.out _).mono ?_
    rintro e w5 ⟨rfl, hb5⟩
    have HE5 := hid (HE4.out.trans hb5)
    have HB5 := hid (HB4.out.ext hb5)
    have HX5 := hid (HX4.out.ext hb5)
    clear hb5
    go_wp2_with (refine wpList_row (by rfl) 24 _ rfl _ rfl HB5.out Try.underlying24 rfl (by kernel_rfl) ?_)
    refine (kC.out _).mono ?_
    rintro e w6 ⟨rfl, hb6⟩
    have HE6 := hid (HE5.out.trans hb6)
    have HX6 := hid (HX5.out.ext hb6)
    clear hb6
    go_wp2_with (refine wpList_row (by rfl) 32 _ rfl _ rfl HX6.out Try.underlying32 rfl (by kernel_rfl) ?_)
    refine (Count_any (numT 0) 2 (by omega) (num_ok (by omega)) none 0 _ (fun h => absurd h (by decide))).mono ?_
    rintro e w7 ⟨rfl, hb7⟩
    have HE7 := hid (HE6.out.trans hb7)
    have x0 : w7.cell? ⟨w3.heap.size, 0, none⟩ = some (.int .i64 0) := (HX6.out.ext hb7).cell 0
    have x1 : w7.cell? ⟨w3.heap.size, 1, none⟩ = some (.int .u64 0) := (HX6.out.ext hb7).cell 1
    clear hb7
    have hct : (numT 0).count 2 = 1 := by decide
    rw [hct]
    go_wp2_with fail
    go_ret
    exact Ret.mk rfl HE7.out
  obtain ⟨ty, num, eB⟩ := bv_nat hr
  obtain ⟨Bty, Bnum, fl, crcI, data⟩ := B
  simp only [BV.mk.injEq, true_and, and_true] at eB
  obtain ⟨rfl, rfl⟩ := eB
  have hb := BV.right_zero hr
  simp only [] at hb
  obtain ⟨crc, rfl⟩ := Int.eq_ofNat_of_zero_le (show 0 ≤ crcI by omega)
  have hs := sumB_length (ty := ty) (num := num) (fl := fl) (data := data) (show crc ≤ 2 by omega)
  have KI := hid (fun W => Item_any ty num fl crc data hr W)
  have KB := hid (fun W => Build_any ty num fl crc data hr W)
  have KH := hid (fun W => cHeader_ok ty num fl crc data hr W)
  have RB := hid (fun W => rBuild_ok ty num fl crc data (by unfold Hid; omega) (by unfold Hid; omega) (by unfold Hid; omega) (by unfold Hid; omega) (by unfold Hid; omega) W)
  have RH := hid (fun W => rHeader_ok ty num fl crc data (by unfold Hid; omega) (by unfold Hid; omega) (by unfold Hid; omega) W)
  have XO : Hid ((finT ty num fl crc data).ok) := blkT_ok (by omega) (by omega) (by omega) (by omega) (by omega) (by omega)
  have XS : Hid ((finT ty num fl crc data).size ≤ 100000) := blkT_size (by omega) (by omega)
  have XR : Hid ((finT ty num fl crc data).right 8 = true) := blkT_right 8 (by omega)
  have XP : Hid ((finT ty num fl crc data).plain = true) := blkT_plain
  have XB : Hid ((finT ty num fl crc data).bytes = blkB ty num fl crc data (sumB ty num fl crc data)) := blkT_bytes ty num fl crc data _
  generalize finT ty num fl crc data = X at *
  generalize blkB ty num fl crc data (sumB ty num fl crc data) = S at *
  generalize headL 0 ty ++ headL 0 num ++ headL 0 fl = H at *
  rw [hr]
  rw [hr] at kC
  have kC2 : Hid (∀ W, Calls Try.prog 10 #[BV.v ⟨ty, num, fl, crc, data⟩] W (Ret (.int .i64 0) W)) := kC
  clear hr hb hs kC kR HF
  go_wp2_with (refine wpList_row (by rfl) 24 _ rfl _ rfl HB2.out Try.underlying24 rfl (by kernel_rfl) ?_)
  refine (KI.out _).mono ?_
  rintro e w3 ⟨A, c, rfl, hb3, hl3⟩
  have HE3 := hid ((HE2.out.trans hb3).alloc (.cells (itemC X A c) 32))
  have HB3 := hid ((HB2.out.ext hb3).alloc (.cells (itemC X A c) 32))
  have HX3 := hid (Blk.new w3 32 (itemC X A c))
  have HL3 : Hid (IsL (w3.alloc (.cells (itemC X A c) 32)) (fun _ => True) X A) := IsL.ext (IsL.weak (fun _ _ _ => trivial) _ hl3) ((Mod.refl _ _).alloc _)
  clear hb3 hl3
  go_wp2_with (refine wpList_row (by rfl) 24 _ rfl _ rfl HB3.out Try.underlying24 rfl (by kernel_rfl) ?_)
  refine (KB.out _).mono ?_
  rintro e w4 ⟨rfl, hb4⟩
  have HE4 := hid (HE3.out.trans hb4)
  have HB4 := hid (HB3.out.ext hb4)
  have HX4 := hid (HX3.out.ext hb4)
  have HL4 := hid (HL3.out.ext hb4)
  clear hb4
  go_wp2_with (refine wpList_row (by rfl) 24 _ rfl _ rfl HB4.out Try.underlying24 rfl (by kernel_rfl) ?_)
  refine (KH.out _).mono ?_
  rintro e w5 ⟨rfl, hb5⟩
  have HE5 := hid (HE4.out.trans hb5)
  have HB5 := hid (HB4.out.ext hb5)
  have HX5 := hid (HX4.out.ext hb5)
  have HL5 := hid (HL4.out.ext hb5)
  clear hb5
  go_wp2_with (refine wpList_row (by rfl) 24 _ rfl _ rfl HB5.out Try.underlying24 rfl (by kernel_rfl) ?_)
  refine (kC2.out _).mono ?_
  rintro e w6 ⟨rfl, hb6⟩
  have HE6 := hid (HE5.out.trans hb6)
  have HB6 := hid (HB5.out.ext hb6)
  have HX6 := hid (HX5.out.ext hb6)
  have HL6 := hid (HL5.out.ext hb6)
  clear hb6
  go_wp2_with (refine wpList_row (by rfl) 32 _ rfl _ rfl HX6.out Try.underlying32 rfl (by kernel_rfl) ?_)
  refine (rRight_any X XO.out A c _ HL6.out).mono ?_
  rintro e w7 ⟨rfl, hb7⟩
  have HE7 := hid (HE6.out.trans hb7)
  have HB7 := hid (HB6.out.ext hb7)
  have HX7 := hid (HX6.out.ext hb7)
  have HL7 := hid (HL6.out.ext hb7)
  clear hb7
  rw [XR.out]
  go_wp2_with (refine wpList_row (by rfl) 32 _ rfl _ rfl HX7.out Try.underlying32 rfl (by kernel_rfl) ?_)
  refine (rBytesI_any X XO.out XP.out XS.out A c _ HL7.out).mono ?_
  rintro e w8 ⟨rfl, hb8⟩
  have HE8 := hid (HE7.out.trans hb8)
  have HB8 := hid (HB7.out.ext hb8)
  clear hb8
  rw [XB.out]
  go_wp2_with (refine wpList_row (by rfl) 24 _ rfl _ rfl HB8.out Try.underlying24 rfl (by kernel_rfl) ?_)
  refine (RB.out _).mono ?_
  rintro e w9 ⟨rfl, hb9⟩
  have HE9 := hid (HE8.out.trans hb9)
  have HB9 := hid (HB8.out.ext hb9)
  clear hb9
  go_wp2_with (refine wpList_row (by rfl) 24 _ rfl _ rfl HB9.out Try.underlying24 rfl (by kernel_rfl) ?_)
  refine (RH.out _).mono ?_
  rintro e w10 ⟨rfl, hb10⟩
  have HE10 := hid (HE9.out.trans hb10)
  clear hb10
  go_wp2_with fail
  go_ret
  exact Ret.mk (by simp) HE10.out
end Go.Proofs.Yticbopfacfmjfaa
