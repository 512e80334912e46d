/-
  The law PrimaryNames: the branches in which the names differ (or not).
  The law PrimaryNames: the branches in which the names differ (or not).
-/
import Derived.Test.YtldomommbopgjaaMPrimaryNamese

namespace Go.Proofs.Ytldomommbopgjaa
open Go.RowKit
set_option linter.unusedVariables false

set_option maxRecDepth 20000 in
set_option maxHeartbeats 8000000 in
theorem names_n (fl1 : Nat) (crc1 : Int) (d1 : EV) (sa1 : Int) (sb1 : List UInt8) (sc1 sd1 : Nat) (r1 : EV) (t1 q1 l1 o1 n1 : Nat) (fl2 : Nat) (crc2 : Int) (d2 : EV)    (r2 : EV) (  l2  n2 : Nat) (hf1 : fl1 < 18446744073709551616) (hf2 : fl2 < 18446744073709551616) (hF1 : (⟨fl1, crc1, d1, ⟨sa1, sb1, sc1, sd1⟩, r1, t1, q1, l1, o1, n1⟩ : PV).few = true) (hF2 : (⟨fl2, crc2, d2, ⟨sa1, sb1, sc1, sd1⟩, r2, t1, q1, l2, o1, n2⟩ : PV).few = true) (h1 : has fl1 1 = true) (h2 : has fl2 1 = true) (hx : ¬ n1 = n2) (w : World) : Calls Try.prog 3 #[.agg (⟨fl1, crc1, d1, ⟨sa1, sb1, sc1, sd1⟩, r1, t1, q1, l1, o1, n1⟩ : PV).c, .agg (⟨fl2, crc2, d2, ⟨sa1, sb1, sc1, sd1⟩, r2, t1, q1, l2, o1, n2⟩ : PV).c] w (Ret (.bool true) w) := by
  have KA := hid (fun W => awake11_any W)
  have KF1 := hid (fun W => few11P_any (⟨fl1, crc1, d1, ⟨sa1, sb1, sc1, sd1⟩, r1, t1, q1, l1, o1, n1⟩ : PV) W)
  have KF2 := hid (fun W => few11P_any (⟨fl2, crc2, d2, ⟨sa1, sb1, sc1, sd1⟩, r2, t1, q1, l2, o1, n2⟩ : PV) W)
  have KN1 := hid (fun W => Name_any (⟨fl1, crc1, d1, ⟨sa1, sb1, sc1, sd1⟩, r1, t1, q1, l1, o1, n1⟩ : PV) hf1 W)
  have KN2 := hid (fun W => Name_any (⟨fl2, crc2, d2, ⟨sa1, sb1, sc1, sd1⟩, r2, t1, q1, l2, o1, n2⟩ : PV) hf2 W)
  have KW1 := hid (fun W => Whole_any (⟨fl1, crc1, d1, ⟨sa1, sb1, sc1, sd1⟩, r1, t1, q1, l1, o1, n1⟩ : PV) hf1 W)
  have KW2 := hid (fun W => Whole_any (⟨fl2, crc2, d2, ⟨sa1, sb1, sc1, sd1⟩, r2, t1, q1, l2, o1, n2⟩ : PV) hf2 W)
  have KM1 := hid (fun W => Name_any (⟨fl1 / 2 * 2, crc1, d1, ⟨sa1, sb1, sc1, sd1⟩, r1, t1, q1, l1, 0, 0⟩ : PV) (show fl1 / 2 * 2 < 18446744073709551616 by omega) W)
  have KM2 := hid (fun W => Name_any (⟨fl2 / 2 * 2, crc2, d2, ⟨sa1, sb1, sc1, sd1⟩, r2, t1, q1, l2, 0, 0⟩ : PV) (show fl2 / 2 * 2 < 18446744073709551616 by omega) W)
  have KH1 : Hid (∀ W, Calls Try.prog 8 #[.int .u64 (fl1 : Int), .int .i64 1] W (Ret (.bool (has fl1 1)) W)) := fun W => Has_any fl1 1 hf1 (by omega) (by omega) W
  have KH2 : Hid (∀ W, Calls Try.prog 8 #[.int .u64 (fl2 : Int), .int .i64 1] W (Ret (.bool (has fl2 1)) W)) := fun W => Has_any fl2 1 hf2 (by omega) (by omega) W
  have hw1 : has (fl1 / 2 * 2) 1 = false := by unfold has; simp
  have hw2 : has (fl2 / 2 * 2) 1 = false := by unfold has; simp
  have KG1 : Hid (∀ W, Calls Try.prog 8 #[.int .u64 ((fl1 : Int) / 2 * 2), .int .i64 1] W (Ret (.bool false) W)) := fun W => by have := Has_any (fl1 / 2 * 2) 1 (by omega) (by omega) (by omega) W; rw [hw1] at this; simpa using this
  unfold PV.idV at KN1 KN2 KM1 KM2
  dsimp only at KN1 KN2 KM1 KM2
  rw [hw1] at KM1
  rw [hw2] at KM2
  dsimp only [PV.whole] at KW1 KW2
  simp only [Bool.false_eq_true, if_false] at KM1 KM2
  have u1 : IntKind.u64.wrap ((fl1 : Int) / 2) = (fl1 : Int) / 2 := IntWalk.u64_in _ (by omega)
  have u2 : IntKind.u64.wrap ((fl1 : Int) / 2 * 2) = (fl1 : Int) / 2 * 2 := IntWalk.u64_in _ (by omega)
  have f0 : (0 : Int) ≤ (fl1 : Int) := by omega
  have HE := hid (((Mod.refl [] w).alloc (.cells (⟨fl1, crc1, d1, ⟨sa1, sb1, sc1, sd1⟩, r1, t1, q1, l1, o1, n1⟩ : PV).c 26)).alloc (.cells (⟨fl2, crc2, d2, ⟨sa1, sb1, sc1, sd1⟩, r2, t1, q1, l2, o1, n2⟩ : PV).c 26))
  have HB1 := hid ((Blk.new w 26 (⟨fl1, crc1, d1, ⟨sa1, sb1, sc1, sd1⟩, r1, t1, q1, l1, o1, n1⟩ : PV).c).alloc (.cells (⟨fl2, crc2, d2, ⟨sa1, sb1, sc1, sd1⟩, r2, t1, q1, l2, o1, n2⟩ : PV).c 26))
  have HB2 : Hid (Blk ((w.alloc (.cells (⟨fl1, crc1, d1, ⟨sa1, sb1, sc1, sd1⟩, r1, t1, q1, l1, o1, n1⟩ : PV).c 26)).alloc (.cells (⟨fl2, crc2, d2, ⟨sa1, sb1, sc1, sd1⟩, r2, t1, q1, l2, o1, n2⟩ : PV).c 26)) (w.heap.size + 1) 26 (⟨fl2, crc2, d2, ⟨sa1, sb1, sc1, sd1⟩, r2, t1, q1, l2, o1, n2⟩ : PV).c) := Blk.newL _ _ _ (by simp)
  obtain ⟨oo1, hoo1⟩ : ∃ x, (if has fl1 1 = true then o1 else 0) = x := ⟨_, rfl⟩
  obtain ⟨nn1, hnn1⟩ : ∃ x, (if has fl1 1 = true then n1 else 0) = x := ⟨_, rfl⟩
  obtain ⟨oo2, hoo2⟩ : ∃ x, (if has fl2 1 = true then o1 else 0) = x := ⟨_, rfl⟩
  obtain ⟨nn2, hnn2⟩ : ∃ x, (if has fl2 1 = true then n2 else 0) = x := ⟨_, rfl⟩
  rw [hoo1, hnn1] at KN1
  rw [hoo2, hnn2] at KN2
  have HO1 := hid hoo1
  have HO2 := hid hoo2
  have HN1 := hid hnn1
  have HN2 := hid hnn2
  clear hw1 hw2 hf1 hf2 hoo1 hoo2 hnn1 hnn2
  rw [hF1] at KF1
  rw [hF2] at KF2
  clear hF1 hF2
  go_enter Try.func3, Try.ntmps3
  go_upto_region 1 with fail
  generalize (w.alloc (.cells (⟨fl1, crc1, d1, ⟨sa1, sb1, sc1, sd1⟩, r1, t1, q1, l1, o1, n1⟩ : PV).c 26)).alloc (.cells (⟨fl2, crc2, d2, ⟨sa1, sb1, sc1, sd1⟩, r2, t1, q1, l2, o1, n2⟩ : PV).c 26) = V at *
  have HL1 : Hid (∀ e : Later V, Blk e.x w.heap.size 26 (⟨fl1, crc1, d1, ⟨sa1, sb1, sc1, sd1⟩, r1, t1, q1, l1, o1, n1⟩ : PV).c) := fun e => HB1.out.later e
  have HL2 : Hid (∀ e : Later V, Blk e.x (w.heap.size + 1) 26 (⟨fl2, crc2, d2, ⟨sa1, sb1, sc1, sd1⟩, r2, t1, q1, l2, o1, n2⟩ : PV).c) := fun e => HB2.out.later e
  have x1_0 : ∀ e : Later V, e.x.cell? ⟨w.heap.size, 0, none⟩ = some (.int .u64 (fl1 : Int)) := HB1.out.cellL 0 rfl
  have x1_1 : ∀ e : Later V, e.x.cell? ⟨w.heap.size, 1, none⟩ = some (.int .i64 crc1) := HB1.out.cellL 1 rfl
  have x1_2 : ∀ e : Later V, e.x.cell? ⟨w.heap.size, 2, none⟩ = some (.int .i64 d1.sch) := HB1.out.cellL 2 rfl
  have x1_3 : ∀ e : Later V, e.x.cell? ⟨w.heap.size, 3, none⟩ = some (str d1.name) := HB1.out.cellL 3 rfl
  have x1_4 : ∀ e : Later V, e.x.cell? ⟨w.heap.size, 4, none⟩ = some (.int .u64 (d1.node : Int)) := HB1.out.cellL 4 rfl
  have x1_5 : ∀ e : Later V, e.x.cell? ⟨w.heap.size, 5, none⟩ = some (.int .u64 (d1.svc : Int)) := HB1.out.cellL 5 rfl
  have x1_6 : ∀ e : Later V, e.x.cell? ⟨w.heap.size, 6, none⟩ = some (.int .i64 sa1) := HB1.out.cellL 6 rfl
  have x1_7 : ∀ e : Later V, e.x.cell? ⟨w.heap.size, 7, none⟩ = some (str sb1) := HB1.out.cellL 7 rfl
  have x1_8 : ∀ e : Later V, e.x.cell? ⟨w.heap.size, 8, none⟩ = some (.int .u64 (sc1 : Int)) := HB1.out.cellL 8 rfl
  have x1_9 : ∀ e : Later V, e.x.cell? ⟨w.heap.size, 9, none⟩ = some (.int .u64 (sd1 : Int)) := HB1.out.cellL 9 rfl
  have x1_10 : ∀ e : Later V, e.x.cell? ⟨w.heap.size, 10, none⟩ = some (.int .i64 r1.sch) := HB1.out.cellL 10 rfl
  have x1_11 : ∀ e : Later V, e.x.cell? ⟨w.heap.size, 11, none⟩ = some (str r1.name) := HB1.out.cellL 11 rfl
  have x1_12 : ∀ e : Later V, e.x.cell? ⟨w.heap.size, 12, none⟩ = some (.int .u64 (r1.node : Int)) := HB1.out.cellL 12 rfl
  have x1_13 : ∀ e : Later V, e.x.cell? ⟨w.heap.size, 13, none⟩ = some (.int .u64 (r1.svc : Int)) := HB1.out.cellL 13 rfl
  have x1_14 : ∀ e : Later V, e.x.cell? ⟨w.heap.size, 14, none⟩ = some (.int .u64 (t1 : Int)) := HB1.out.cellL 14 rfl
  have x1_15 : ∀ e : Later V, e.x.cell? ⟨w.heap.size, 15, none⟩ = some (.int .u64 (q1 : Int)) := HB1.out.cellL 15 rfl
  have x1_16 : ∀ e : Later V, e.x.cell? ⟨w.heap.size, 16, none⟩ = some (.int .u64 (l1 : Int)) := HB1.out.cellL 16 rfl
  have x1_17 : ∀ e : Later V, e.x.cell? ⟨w.heap.size, 17, none⟩ = some (.int .u64 (o1 : Int)) := HB1.out.cellL 17 rfl
  have x1_18 : ∀ e : Later V, e.x.cell? ⟨w.heap.size, 18, none⟩ = some (.int .u64 (n1 : Int)) := HB1.out.cellL 18 rfl
  have x2_0 : ∀ e : Later V, e.x.cell? ⟨w.heap.size + 1, 0, none⟩ = some (.int .u64 (fl2 : Int)) := HB2.out.cellL 0 rfl
  have x2_1 : ∀ e : Later V, e.x.cell? ⟨w.heap.size + 1, 1, none⟩ = some (.int .i64 crc2) := HB2.out.cellL 1 rfl
  have x2_2 : ∀ e : Later V, e.x.cell? ⟨w.heap.size + 1, 2, none⟩ = some (.int .i64 d2.sch) := HB2.out.cellL 2 rfl
  have x2_3 : ∀ e : Later V, e.x.cell? ⟨w.heap.size + 1, 3, none⟩ = some (str d2.name) := HB2.out.cellL 3 rfl
  have x2_4 : ∀ e : Later V, e.x.cell? ⟨w.heap.size + 1, 4, none⟩ = some (.int .u64 (d2.node : Int)) := HB2.out.cellL 4 rfl
  have x2_5 : ∀ e : Later V, e.x.cell? ⟨w.heap.size + 1, 5, none⟩ = some (.int .u64 (d2.svc : Int)) := HB2.out.cellL 5 rfl
  have x2_6 : ∀ e : Later V, e.x.cell? ⟨w.heap.size + 1, 6, none⟩ = some (.int .i64 sa1) := HB2.out.cellL 6 rfl
  have x2_7 : ∀ e : Later V, e.x.cell? ⟨w.heap.size + 1, 7, none⟩ = some (str sb1) := HB2.out.cellL 7 rfl
  have x2_8 : ∀ e : Later V, e.x.cell? ⟨w.heap.size + 1, 8, none⟩ = some (.int .u64 (sc1 : Int)) := HB2.out.cellL 8 rfl
  have x2_9 : ∀ e : Later V, e.x.cell? ⟨w.heap.size + 1, 9, none⟩ = some (.int .u64 (sd1 : Int)) := HB2.out.cellL 9 rfl
  have x2_10 : ∀ e : Later V, e.x.cell? ⟨w.heap.size + 1, 10, none⟩ = some (.int .i64 r2.sch) := HB2.out.cellL 10 rfl
  have x2_11 : ∀ e : Later V, e.x.cell? ⟨w.heap.size + 1, 11, none⟩ = some (str r2.name) := HB2.out.cellL 11 rfl
  have x2_12 : ∀ e : Later V, e.x.cell? ⟨w.heap.size + 1, 12, none⟩ = some (.int .u64 (r2.node : Int)) := HB2.out.cellL 12 rfl
  have x2_13 : ∀ e : Later V, e.x.cell? ⟨w.heap.size + 1, 13, none⟩ = some (.int .u64 (r2.svc : Int)) := HB2.out.cellL 13 rfl
  have x2_14 : ∀ e : Later V, e.x.cell? ⟨w.heap.size + 1, 14, none⟩ = some (.int .u64 (t1 : Int)) := HB2.out.cellL 14 rfl
  have x2_15 : ∀ e : Later V, e.x.cell? ⟨w.heap.size + 1, 15, none⟩ = some (.int .u64 (q1 : Int)) := HB2.out.cellL 15 rfl
  have x2_16 : ∀ e : Later V, e.x.cell? ⟨w.heap.size + 1, 16, none⟩ = some (.int .u64 (l2 : Int)) := HB2.out.cellL 16 rfl
  have x2_17 : ∀ e : Later V, e.x.cell? ⟨w.heap.size + 1, 17, none⟩ = some (.int .u64 (o1 : Int)) := HB2.out.cellL 17 rfl
  have x2_18 : ∀ e : Later V, e.x.cell? ⟨w.heap.size + 1, 18, none⟩ = some (.int .u64 (n2 : Int)) := HB2.out.cellL 18 rfl
  obtain ⟨e, he⟩ := Later.self V
  rw [he]
  clear he
  go_upto_region 3 with (first | (refine wpList_row (by rfl) 26 _ rfl _ rfl (HL1.out _) Try.underlying26 rfl (by kernel_rfl) ?_) | (refine wpList_row (by rfl) 26 _ rfl _ rfl (HL2.out _) Try.underlying26 rfl (by kernel_rfl) ?_) | (go_at_call 6; refine (Ret.later (KA.out _)).mono ?_; rintro x _ ⟨rfl, e, rfl⟩) | (go_at_call 7; first | ((with_reducible refine (Ret.later (KF1.out _)).mono ?_); rintro x _ ⟨rfl, e, rfl⟩) | ((with_reducible refine (Ret.later (KF2.out _)).mono ?_); rintro x _ ⟨rfl, e, rfl⟩)))
  rw [h1] at KH1 KN1 HO1 HN1
  rw [h2] at KH2 KN2 HO2 HN2
  clear h1 h2
  obtain rfl : o1 = oo1 := HO1.out
  obtain rfl : n1 = nn1 := HN1.out
  obtain rfl : o1 = oo2 := HO2.out
  obtain rfl : n2 = nn2 := HN2.out
  clear HO1 HO2 HN1 HN2
  have ga : (((n1 : Int)) == ((n2 : Int))) = false := by rw [beq_eq_false_iff_ne]; omega
  have gb : (((n1 : Int)) = ((n2 : Int))) = False := eq_false (by omega)
  have gc : (((n1 : Int)) != ((n2 : Int))) = true := by rw [bne_iff_ne]; omega
  have gn : (n1 = n2) = False := eq_false hx
  have gm : (n1 == n2) = false := by rw [beq_eq_false_iff_ne]; exact hx
  clear hx
  refine wp_region_later (by kernel_rfl) (by kernel_rfl) ?_
  repeat (go_big_quiet_step ((first | (go_at_call 8; first | (with_reducible exact Ret.later (KH1.out _)) | (with_reducible exact Ret.later (KH2.out _))))))
  refine wpQuiet_nil ?_
  rintro _ ⟨e, rfl⟩
  go_upto_region 6 with fail
  refine wp_region_later (by kernel_rfl) (by kernel_rfl) ?_
  repeat (first | (refine later_row (by rfl) 26 _ rfl _ rfl HL1.out Try.underlying26 rfl (by kernel_rfl) ?_; simp only [Act.put, List.setIfInBounds_toArray, List.set_cons_zero, List.set_cons_succ]) | (refine later_row (by rfl) 26 _ rfl _ rfl HL2.out Try.underlying26 rfl (by kernel_rfl) ?_; simp only [Act.put, List.setIfInBounds_toArray, List.set_cons_zero, List.set_cons_succ]) | go_big_quiet_step ((first | (go_at_call 9; first | (with_reducible exact Ret.later (KN1.out _)) | (with_reducible exact Ret.later (KN2.out _))))))
  refine wpQuiet_nil ?_
  rintro _ ⟨e, rfl⟩
  clear x1_0 x2_0 x1_1 x2_1 x1_2 x2_2 x1_3 x2_3 x1_4 x2_4 x1_5 x2_5 x1_6 x2_6 x1_7 x2_7 x1_8 x2_8 x1_9 x2_9 x1_10 x2_10 x1_11 x2_11 x1_12 x2_12 x1_13 x2_13 x1_14 x2_14 x1_15 x2_15 x1_16 x2_16 x1_17 x2_17 x1_18 x2_18
  go_upto_region 9 with (first | (refine wpList_row (by rfl) 26 _ rfl _ rfl (HL1.out _) Try.underlying26 rfl (by kernel_rfl) ?_) | (refine wpList_store_mid rfl 26 _ _ rfl e.x.heap.size 0 (⟨fl1 / 2 * 2, crc1, d1, ⟨sa1, sb1, sc1, sd1⟩, r1, t1, q1, l1, 0, 0⟩ : PV).c (by rfl) (by rfl) ((Blk.new _ _ _).there (Nat.le_refl 19)) (by kernel_rfl) (PV.one _) ?_) | (go_at_call 10; refine (Ret.later (KW1.out _)).mono ?_; rintro x _ ⟨rfl, e, rfl⟩))
  generalize hU : World.setCells _ _ _ _ = U1
  have HMU : Hid (Ext e.x U1) := hid (by rw [← hU]; exact setCells_mod _ _ ((Mod.refl [] e.x).alloc _) (.inr (Nat.le_refl _)))
  have HA1 : Hid (Blk U1 e.x.heap.size 26 (⟨fl1 / 2 * 2, crc1, d1, ⟨sa1, sb1, sc1, sd1⟩, r1, t1, q1, l1, 0, 0⟩ : PV).c) := hid (by rw [← hU]; exact setCells_all (Blk.new _ _ _) rfl)
  clear hU
  have HC2 : Hid (Blk U1 (w.heap.size + 1) 26 (⟨fl2, crc2, d2, ⟨sa1, sb1, sc1, sd1⟩, r2, t1, q1, l2, o1, n2⟩ : PV).c) := hid ((HB2.out.later e).ext HMU.out)
  have HC1 : Hid (Blk U1 w.heap.size 26 (⟨fl1, crc1, d1, ⟨sa1, sb1, sc1, sd1⟩, r1, t1, q1, l1, o1, n1⟩ : PV).c) := hid ((HB1.out.later e).ext HMU.out)
  have HEU : Hid (Ext w U1) := hid ((HE.out.trans e.h).trans HMU.out)
  clear HMU
  generalize e.x.heap.size = g1 at *
  clear e
  obtain ⟨e, he⟩ := Later.self U1
  rw [he]
  clear he
  go_upto_region 10 with (first | (refine wpList_row (by rfl) 26 _ rfl _ rfl (HC2.out.later _) Try.underlying26 rfl (by kernel_rfl) ?_) | (refine wpList_store_mid rfl 26 _ _ rfl e.x.heap.size 0 (⟨fl2 / 2 * 2, crc2, d2, ⟨sa1, sb1, sc1, sd1⟩, r2, t1, q1, l2, 0, 0⟩ : PV).c (by rfl) (by rfl) ((Blk.new _ _ _).there (Nat.le_refl 19)) (by kernel_rfl) (PV.one _) ?_) | (go_at_call 10; refine (Ret.later (KW2.out _)).mono ?_; rintro x _ ⟨rfl, e, rfl⟩))
  generalize hU : World.setCells _ _ _ _ = U2
  have HMU : Hid (Ext e.x U2) := hid (by rw [← hU]; exact setCells_mod _ _ ((Mod.refl [] e.x).alloc _) (.inr (Nat.le_refl _)))
  have HA3 : Hid (Blk U2 e.x.heap.size 26 (⟨fl2 / 2 * 2, crc2, d2, ⟨sa1, sb1, sc1, sd1⟩, r2, t1, q1, l2, 0, 0⟩ : PV).c) := hid (by rw [← hU]; exact setCells_all (Blk.new _ _ _) rfl)
  clear hU
  have HA2 : Hid (Blk U2 g1 26 (⟨fl1 / 2 * 2, crc1, d1, ⟨sa1, sb1, sc1, sd1⟩, r1, t1, q1, l1, 0, 0⟩ : PV).c) := hid ((HA1.out.later e).ext HMU.out)
  have HD1 : Hid (Blk U2 w.heap.size 26 (⟨fl1, crc1, d1, ⟨sa1, sb1, sc1, sd1⟩, r1, t1, q1, l1, o1, n1⟩ : PV).c) := hid ((HC1.out.later e).ext HMU.out)
  have HEV : Hid (Ext w U2) := hid ((HEU.out.trans e.h).trans HMU.out)
  clear HMU
  generalize e.x.heap.size = g2 at *
  clear e
  have y0 : ∀ e : Later U2, e.x.cell? ⟨w.heap.size, 0, none⟩ = some (.int .u64 (fl1 : Int)) := HD1.out.cellL 0 rfl
  have y1 : ∀ e : Later U2, e.x.cell? ⟨w.heap.size, 1, none⟩ = some (.int .i64 crc1) := HD1.out.cellL 1 rfl
  have y2 : ∀ e : Later U2, e.x.cell? ⟨w.heap.size, 2, none⟩ = some (.int .i64 d1.sch) := HD1.out.cellL 2 rfl
  have y3 : ∀ e : Later U2, e.x.cell? ⟨w.heap.size, 3, none⟩ = some (str d1.name) := HD1.out.cellL 3 rfl
  have y4 : ∀ e : Later U2, e.x.cell? ⟨w.heap.size, 4, none⟩ = some (.int .u64 (d1.node : Int)) := HD1.out.cellL 4 rfl
  have y5 : ∀ e : Later U2, e.x.cell? ⟨w.heap.size, 5, none⟩ = some (.int .u64 (d1.svc : Int)) := HD1.out.cellL 5 rfl
  have y10 : ∀ e : Later U2, e.x.cell? ⟨w.heap.size, 10, none⟩ = some (.int .i64 r1.sch) := HD1.out.cellL 10 rfl
  have y11 : ∀ e : Later U2, e.x.cell? ⟨w.heap.size, 11, none⟩ = some (str r1.name) := HD1.out.cellL 11 rfl
  have y12 : ∀ e : Later U2, e.x.cell? ⟨w.heap.size, 12, none⟩ = some (.int .u64 (r1.node : Int)) := HD1.out.cellL 12 rfl
  have y13 : ∀ e : Later U2, e.x.cell? ⟨w.heap.size, 13, none⟩ = some (.int .u64 (r1.svc : Int)) := HD1.out.cellL 13 rfl
  have y16 : ∀ e : Later U2, e.x.cell? ⟨w.heap.size, 16, none⟩ = some (.int .u64 (l1 : Int)) := HD1.out.cellL 16 rfl
  have z0 : ∀ e : Later U2, e.x.cell? ⟨g1, 0, none⟩ = some (.int .u64 ((fl1 : Int) / 2 * 2)) := HA2.out.cellL 0 (by simp)
  have z1 : ∀ e : Later U2, e.x.cell? ⟨g1, 1, none⟩ = some (.int .i64 crc1) := HA2.out.cellL 1 rfl
  have z2 : ∀ e : Later U2, e.x.cell? ⟨g1, 2, none⟩ = some (.int .i64 d1.sch) := HA2.out.cellL 2 rfl
  have z3 : ∀ e : Later U2, e.x.cell? ⟨g1, 3, none⟩ = some (str d1.name) := HA2.out.cellL 3 rfl
  have z4 : ∀ e : Later U2, e.x.cell? ⟨g1, 4, none⟩ = some (.int .u64 (d1.node : Int)) := HA2.out.cellL 4 rfl
  have z5 : ∀ e : Later U2, e.x.cell? ⟨g1, 5, none⟩ = some (.int .u64 (d1.svc : Int)) := HA2.out.cellL 5 rfl
  have z10 : ∀ e : Later U2, e.x.cell? ⟨g1, 10, none⟩ = some (.int .i64 r1.sch) := HA2.out.cellL 10 rfl
  have z11 : ∀ e : Later U2, e.x.cell? ⟨g1, 11, none⟩ = some (str r1.name) := HA2.out.cellL 11 rfl
  have z12 : ∀ e : Later U2, e.x.cell? ⟨g1, 12, none⟩ = some (.int .u64 (r1.node : Int)) := HA2.out.cellL 12 rfl
  have z13 : ∀ e : Later U2, e.x.cell? ⟨g1, 13, none⟩ = some (.int .u64 (r1.svc : Int)) := HA2.out.cellL 13 rfl
  have z16 : ∀ e : Later U2, e.x.cell? ⟨g1, 16, none⟩ = some (.int .u64 (l1 : Int)) := HA2.out.cellL 16 rfl
  have z17 : ∀ e : Later U2, e.x.cell? ⟨g1, 17, none⟩ = some (.int .u64 0) := HA2.out.cellL 17 rfl
  have z18 : ∀ e : Later U2, e.x.cell? ⟨g1, 18, none⟩ = some (.int .u64 0) := HA2.out.cellL 18 rfl
  obtain ⟨e, he⟩ := Later.self U2
  rw [he]
  clear he
  go_upto_region 12 with (go_at_call 8; refine (Ret.later (KG1.out _)).mono ?_; rintro x _ ⟨rfl, e, rfl⟩)
  refine wp_region_later (by kernel_rfl) (by kernel_rfl) ?_
  repeat (first | (refine later_row (by rfl) 26 _ rfl _ rfl (fun e => HA2.out.later e) Try.underlying26 rfl (by kernel_rfl) ?_; simp only [Act.put, List.setIfInBounds_toArray, List.set_cons_zero, List.set_cons_succ]) | (refine later_row (by rfl) 26 _ rfl _ rfl (fun e => HA3.out.later e) Try.underlying26 rfl (by kernel_rfl) ?_; simp only [Act.put, List.setIfInBounds_toArray, List.set_cons_zero, List.set_cons_succ]) | go_big_quiet_step ((first | (go_at_call 9; first | (with_reducible exact Ret.later (KM1.out _)) | (with_reducible exact Ret.later (KM2.out _))))))
  refine wpQuiet_nil ?_
  rintro _ ⟨e, rfl⟩
  go_wp2_with fail
  all_goals go_ret
  all_goals exact Ret.mk (by simp) (HEV.out.trans e.h)
set_option maxRecDepth 20000 in
set_option maxHeartbeats 8000000 in
theorem names_tt (fl1 : Nat) (crc1 : Int) (d1 : EV) (sa1 : Int) (sb1 : List UInt8) (sc1 sd1 : Nat) (r1 : EV) (t1 q1 l1 o1 n1 : Nat) (fl2 : Nat) (crc2 : Int) (d2 : EV)    (r2 : EV) (  l2   : Nat) (hf1 : fl1 < 18446744073709551616) (hf2 : fl2 < 18446744073709551616) (hF1 : (⟨fl1, crc1, d1, ⟨sa1, sb1, sc1, sd1⟩, r1, t1, q1, l1, o1, n1⟩ : PV).few = true) (hF2 : (⟨fl2, crc2, d2, ⟨sa1, sb1, sc1, sd1⟩, r2, t1, q1, l2, o1, n1⟩ : PV).few = true) (h1 : has fl1 1 = true) (h2 : has fl2 1 = true) (w : World) : Calls Try.prog 3 #[.agg (⟨fl1, crc1, d1, ⟨sa1, sb1, sc1, sd1⟩, r1, t1, q1, l1, o1, n1⟩ : PV).c, .agg (⟨fl2, crc2, d2, ⟨sa1, sb1, sc1, sd1⟩, r2, t1, q1, l2, o1, n1⟩ : PV).c] w (Ret (.bool true) w) := by
  have KA := hid (fun W => awake11_any W)
  have KF1 := hid (fun W => few11P_any (⟨fl1, crc1, d1, ⟨sa1, sb1, sc1, sd1⟩, r1, t1, q1, l1, o1, n1⟩ : PV) W)
  have KF2 := hid (fun W => few11P_any (⟨fl2, crc2, d2, ⟨sa1, sb1, sc1, sd1⟩, r2, t1, q1, l2, o1, n1⟩ : PV) W)
  have KN1 := hid (fun W => Name_any (⟨fl1, crc1, d1, ⟨sa1, sb1, sc1, sd1⟩, r1, t1, q1, l1, o1, n1⟩ : PV) hf1 W)
  have KN2 := hid (fun W => Name_any (⟨fl2, crc2, d2, ⟨sa1, sb1, sc1, sd1⟩, r2, t1, q1, l2, o1, n1⟩ : PV) hf2 W)
  have KW1 := hid (fun W => Whole_any (⟨fl1, crc1, d1, ⟨sa1, sb1, sc1, sd1⟩, r1, t1, q1, l1, o1, n1⟩ : PV) hf1 W)
  have KW2 := hid (fun W => Whole_any (⟨fl2, crc2, d2, ⟨sa1, sb1, sc1, sd1⟩, r2, t1, q1, l2, o1, n1⟩ : PV) hf2 W)
  have KM1 := hid (fun W => Name_any (⟨fl1 / 2 * 2, crc1, d1, ⟨sa1, sb1, sc1, sd1⟩, r1, t1, q1, l1, 0, 0⟩ : PV) (show fl1 / 2 * 2 < 18446744073709551616 by omega) W)
  have KM2 := hid (fun W => Name_any (⟨fl2 / 2 * 2, crc2, d2, ⟨sa1, sb1, sc1, sd1⟩, r2, t1, q1, l2, 0, 0⟩ : PV) (show fl2 / 2 * 2 < 18446744073709551616 by omega) W)
  have KH1 : Hid (∀ W, Calls Try.prog 8 #[.int .u64 (fl1 : Int), .int .i64 1] W (Ret (.bool (has fl1 1)) W)) := fun W => Has_any fl1 1 hf1 (by omega) (by omega) W
  have KH2 : Hid (∀ W, Calls Try.prog 8 #[.int .u64 (fl2 : Int), .int .i64 1] W (Ret (.bool (has fl2 1)) W)) := fun W => Has_any fl2 1 hf2 (by omega) (by omega) W
  have hw1 : has (fl1 / 2 * 2) 1 = false := by unfold has; simp
  have hw2 : has (fl2 / 2 * 2) 1 = false := by unfold has; simp
  have KG1 : Hid (∀ W, Calls Try.prog 8 #[.int .u64 ((fl1 : Int) / 2 * 2), .int .i64 1] W (Ret (.bool false) W)) := fun W => by have := Has_any (fl1 / 2 * 2) 1 (by omega) (by omega) (by omega) W; rw [hw1] at this; simpa using this
  unfold PV.idV at KN1 KN2 KM1 KM2
  dsimp only at KN1 KN2 KM1 KM2
  rw [hw1] at KM1
  rw [hw2] at KM2
  dsimp only [PV.whole] at KW1 KW2
  simp only [Bool.false_eq_true, if_false] at KM1 KM2
  have u1 : IntKind.u64.wrap ((fl1 : Int) / 2) = (fl1 : Int) / 2 := IntWalk.u64_in _ (by omega)
  have u2 : IntKind.u64.wrap ((fl1 : Int) / 2 * 2) = (fl1 : Int) / 2 * 2 := IntWalk.u64_in _ (by omega)
  have f0 : (0 : Int) ≤ (fl1 : Int) := by omega
  have HE := hid (((Mod.refl [] w).alloc (.cells (⟨fl1, crc1, d1, ⟨sa1, sb1, sc1, sd1⟩, r1, t1, q1, l1, o1, n1⟩ : PV).c 26)).alloc (.cells (⟨fl2, crc2, d2, ⟨sa1, sb1, sc1, sd1⟩, r2, t1, q1, l2, o1, n1⟩ : PV).c 26))
  have HB1 := hid ((Blk.new w 26 (⟨fl1, crc1, d1, ⟨sa1, sb1, sc1, sd1⟩, r1, t1, q1, l1, o1, n1⟩ : PV).c).alloc (.cells (⟨fl2, crc2, d2, ⟨sa1, sb1, sc1, sd1⟩, r2, t1, q1, l2, o1, n1⟩ : PV).c 26))
  have HB2 : Hid (Blk ((w.alloc (.cells (⟨fl1, crc1, d1, ⟨sa1, sb1, sc1, sd1⟩, r1, t1, q1, l1, o1, n1⟩ : PV).c 26)).alloc (.cells (⟨fl2, crc2, d2, ⟨sa1, sb1, sc1, sd1⟩, r2, t1, q1, l2, o1, n1⟩ : PV).c 26)) (w.heap.size + 1) 26 (⟨fl2, crc2, d2, ⟨sa1, sb1, sc1, sd1⟩, r2, t1, q1, l2, o1, n1⟩ : PV).c) := Blk.newL _ _ _ (by simp)
  obtain ⟨oo1, hoo1⟩ : ∃ x, (if has fl1 1 = true then o1 else 0) = x := ⟨_, rfl⟩
  obtain ⟨nn1, hnn1⟩ : ∃ x, (if has fl1 1 = true then n1 else 0) = x := ⟨_, rfl⟩
  obtain ⟨oo2, hoo2⟩ : ∃ x, (if has fl2 1 = true then o1 else 0) = x := ⟨_, rfl⟩
  obtain ⟨nn2, hnn2⟩ : ∃ x, (if has fl2 1 = true then n1 else 0) = x := ⟨_, rfl⟩
  rw [hoo1, hnn1] at KN1
  rw [hoo2, hnn2] at KN2
  have HO1 := hid hoo1
  have HO2 := hid hoo2
  have HN1 := hid hnn1
  have HN2 := hid hnn2
  clear hw1 hw2 hf1 hf2 hoo1 hoo2 hnn1 hnn2
  rw [hF1] at KF1
  rw [hF2] at KF2
  clear hF1 hF2
  go_enter Try.func3, Try.ntmps3
  go_upto_region 1 with fail
  generalize (w.alloc (.cells (⟨fl1, crc1, d1, ⟨sa1, sb1, sc1, sd1⟩, r1, t1, q1, l1, o1, n1⟩ : PV).c 26)).alloc (.cells (⟨fl2, crc2, d2, ⟨sa1, sb1, sc1, sd1⟩, r2, t1, q1, l2, o1, n1⟩ : PV).c 26) = V at *
  have HL1 : Hid (∀ e : Later V, Blk e.x w.heap.size 26 (⟨fl1, crc1, d1, ⟨sa1, sb1, sc1, sd1⟩, r1, t1, q1, l1, o1, n1⟩ : PV).c) := fun e => HB1.out.later e
  have HL2 : Hid (∀ e : Later V, Blk e.x (w.heap.size + 1) 26 (⟨fl2, crc2, d2, ⟨sa1, sb1, sc1, sd1⟩, r2, t1, q1, l2, o1, n1⟩ : PV).c) := fun e => HB2.out.later e
  have x1_0 : ∀ e : Later V, e.x.cell? ⟨w.heap.size, 0, none⟩ = some (.int .u64 (fl1 : Int)) := HB1.out.cellL 0 rfl
  have x1_1 : ∀ e : Later V, e.x.cell? ⟨w.heap.size, 1, none⟩ = some (.int .i64 crc1) := HB1.out.cellL 1 rfl
  have x1_2 : ∀ e : Later V, e.x.cell? ⟨w.heap.size, 2, none⟩ = some (.int .i64 d1.sch) := HB1.out.cellL 2 rfl
  have x1_3 : ∀ e : Later V, e.x.cell? ⟨w.heap.size, 3, none⟩ = some (str d1.name) := HB1.out.cellL 3 rfl
  have x1_4 : ∀ e : Later V, e.x.cell? ⟨w.heap.size, 4, none⟩ = some (.int .u64 (d1.node : Int)) := HB1.out.cellL 4 rfl
  have x1_5 : ∀ e : Later V, e.x.cell? ⟨w.heap.size, 5, none⟩ = some (.int .u64 (d1.svc : Int)) := HB1.out.cellL 5 rfl
  have x1_6 : ∀ e : Later V, e.x.cell? ⟨w.heap.size, 6, none⟩ = some (.int .i64 sa1) := HB1.out.cellL 6 rfl
  have x1_7 : ∀ e : Later V, e.x.cell? ⟨w.heap.size, 7, none⟩ = some (str sb1) := HB1.out.cellL 7 rfl
  have x1_8 : ∀ e : Later V, e.x.cell? ⟨w.heap.size, 8, none⟩ = some (.int .u64 (sc1 : Int)) := HB1.out.cellL 8 rfl
  have x1_9 : ∀ e : Later V, e.x.cell? ⟨w.heap.size, 9, none⟩ = some (.int .u64 (sd1 : Int)) := HB1.out.cellL 9 rfl
  have x1_10 : ∀ e : Later V, e.x.cell? ⟨w.heap.size, 10, none⟩ = some (.int .i64 r1.sch) := HB1.out.cellL 10 rfl
  have x1_11 : ∀ e : Later V, e.x.cell? ⟨w.heap.size, 11, none⟩ = some (str r1.name) := HB1.out.cellL 11 rfl
  have x1_12 : ∀ e : Later V, e.x.cell? ⟨w.heap.size, 12, none⟩ = some (.int .u64 (r1.node : Int)) := HB1.out.cellL 12 rfl
  have x1_13 : ∀ e : Later V, e.x.cell? ⟨w.heap.size, 13, none⟩ = some (.int .u64 (r1.svc : Int)) := HB1.out.cellL 13 rfl
  have x1_14 : ∀ e : Later V, e.x.cell? ⟨w.heap.size, 14, none⟩ = some (.int .u64 (t1 : Int)) := HB1.out.cellL 14 rfl
  have x1_15 : ∀ e : Later V, e.x.cell? ⟨w.heap.size, 15, none⟩ = some (.int .u64 (q1 : Int)) := HB1.out.cellL 15 rfl
  have x1_16 : ∀ e : Later V, e.x.cell? ⟨w.heap.size, 16, none⟩ = some (.int .u64 (l1 : Int)) := HB1.out.cellL 16 rfl
  have x1_17 : ∀ e : Later V, e.x.cell? ⟨w.heap.size, 17, none⟩ = some (.int .u64 (o1 : Int)) := HB1.out.cellL 17 rfl
  have x1_18 : ∀ e : Later V, e.x.cell? ⟨w.heap.size, 18, none⟩ = some (.int .u64 (n1 : Int)) := HB1.out.cellL 18 rfl
  have x2_0 : ∀ e : Later V, e.x.cell? ⟨w.heap.size + 1, 0, none⟩ = some (.int .u64 (fl2 : Int)) := HB2.out.cellL 0 rfl
  have x2_1 : ∀ e : Later V, e.x.cell? ⟨w.heap.size + 1, 1, none⟩ = some (.int .i64 crc2) := HB2.out.cellL 1 rfl
  have x2_2 : ∀ e : Later V, e.x.cell? ⟨w.heap.size + 1, 2, none⟩ = some (.int .i64 d2.sch) := HB2.out.cellL 2 rfl
  have x2_3 : ∀ e : Later V, e.x.cell? ⟨w.heap.size + 1, 3, none⟩ = some (str d2.name) := HB2.out.cellL 3 rfl
  have x2_4 : ∀ e : Later V, e.x.cell? ⟨w.heap.size + 1, 4, none⟩ = some (.int .u64 (d2.node : Int)) := HB2.out.cellL 4 rfl
  have x2_5 : ∀ e : Later V, e.x.cell? ⟨w.heap.size + 1, 5, none⟩ = some (.int .u64 (d2.svc : Int)) := HB2.out.cellL 5 rfl
  have x2_6 : ∀ e : Later V, e.x.cell? ⟨w.heap.size + 1, 6, none⟩ = some (.int .i64 sa1) := HB2.out.cellL 6 rfl
  have x2_7 : ∀ e : Later V, e.x.cell? ⟨w.heap.size + 1, 7, none⟩ = some (str sb1) := HB2.out.cellL 7 rfl
  have x2_8 : ∀ e : Later V, e.x.cell? ⟨w.heap.size + 1, 8, none⟩ = some (.int .u64 (sc1 : Int)) := HB2.out.cellL 8 rfl
  have x2_9 : ∀ e : Later V, e.x.cell? ⟨w.heap.size + 1, 9, none⟩ = some (.int .u64 (sd1 : Int)) := HB2.out.cellL 9 rfl
  have x2_10 : ∀ e : Later V, e.x.cell? ⟨w.heap.size + 1, 10, none⟩ = some (.int .i64 r2.sch) := HB2.out.cellL 10 rfl
  have x2_11 : ∀ e : Later V, e.x.cell? ⟨w.heap.size + 1, 11, none⟩ = some (str r2.name) := HB2.out.cellL 11 rfl
  have x2_12 : ∀ e : Later V, e.x.cell? ⟨w.heap.size + 1, 12, none⟩ = some (.int .u64 (r2.node : Int)) := HB2.out.cellL 12 rfl
  have x2_13 : ∀ e : Later V, e.x.cell? ⟨w.heap.size + 1, 13, none⟩ = some (.int .u64 (r2.svc : Int)) := HB2.out.cellL 13 rfl
  have x2_14 : ∀ e : Later V, e.x.cell? ⟨w.heap.size + 1, 14, none⟩ = some (.int .u64 (t1 : Int)) := HB2.out.cellL 14 rfl
  have x2_15 : ∀ e : Later V, e.x.cell? ⟨w.heap.size + 1, 15, none⟩ = some (.int .u64 (q1 : Int)) := HB2.out.cellL 15 rfl
  have x2_16 : ∀ e : Later V, e.x.cell? ⟨w.heap.size + 1, 16, none⟩ = some (.int .u64 (l2 : Int)) := HB2.out.cellL 16 rfl
  have x2_17 : ∀ e : Later V, e.x.cell? ⟨w.heap.size + 1, 17, none⟩ = some (.int .u64 (o1 : Int)) := HB2.out.cellL 17 rfl
  have x2_18 : ∀ e : Later V, e.x.cell? ⟨w.heap.size + 1, 18, none⟩ = some (.int .u64 (n1 : Int)) := HB2.out.cellL 18 rfl
  obtain ⟨e, he⟩ := Later.self V
  rw [he]
  clear he
  go_upto_region 3 with (first | (refine wpList_row (by rfl) 26 _ rfl _ rfl (HL1.out _) Try.underlying26 rfl (by kernel_rfl) ?_) | (refine wpList_row (by rfl) 26 _ rfl _ rfl (HL2.out _) Try.underlying26 rfl (by kernel_rfl) ?_) | (go_at_call 6; refine (Ret.later (KA.out _)).mono ?_; rintro x _ ⟨rfl, e, rfl⟩) | (go_at_call 7; first | ((with_reducible refine (Ret.later (KF1.out _)).mono ?_); rintro x _ ⟨rfl, e, rfl⟩) | ((with_reducible refine (Ret.later (KF2.out _)).mono ?_); rintro x _ ⟨rfl, e, rfl⟩)))
  rw [h1] at KH1 KN1 HO1 HN1
  rw [h2] at KH2 KN2 HO2 HN2
  clear h1 h2
  obtain rfl : o1 = oo1 := HO1.out
  obtain rfl : n1 = nn1 := HN1.out
  obtain rfl : o1 = oo2 := HO2.out
  obtain rfl : n1 = nn2 := HN2.out
  clear HO1 HO2 HN1 HN2
  refine wp_region_later (by kernel_rfl) (by kernel_rfl) ?_
  repeat (go_big_quiet_step ((first | (go_at_call 8; first | (with_reducible exact Ret.later (KH1.out _)) | (with_reducible exact Ret.later (KH2.out _))))))
  refine wpQuiet_nil ?_
  rintro _ ⟨e, rfl⟩
  go_upto_region 6 with fail
  refine wp_region_later (by kernel_rfl) (by kernel_rfl) ?_
  repeat (first | (refine later_row (by rfl) 26 _ rfl _ rfl HL1.out Try.underlying26 rfl (by kernel_rfl) ?_; simp only [Act.put, List.setIfInBounds_toArray, List.set_cons_zero, List.set_cons_succ]) | (refine later_row (by rfl) 26 _ rfl _ rfl HL2.out Try.underlying26 rfl (by kernel_rfl) ?_; simp only [Act.put, List.setIfInBounds_toArray, List.set_cons_zero, List.set_cons_succ]) | go_big_quiet_step ((first | (go_at_call 9; first | (with_reducible exact Ret.later (KN1.out _)) | (with_reducible exact Ret.later (KN2.out _))))))
  refine wpQuiet_nil ?_
  rintro _ ⟨e, rfl⟩
  clear x1_0 x2_0 x1_1 x2_1 x1_2 x2_2 x1_3 x2_3 x1_4 x2_4 x1_5 x2_5 x1_6 x2_6 x1_7 x2_7 x1_8 x2_8 x1_9 x2_9 x1_10 x2_10 x1_11 x2_11 x1_12 x2_12 x1_13 x2_13 x1_14 x2_14 x1_15 x2_15 x1_16 x2_16 x1_17 x2_17 x1_18 x2_18
  go_upto_region 9 with (first | (refine wpList_row (by rfl) 26 _ rfl _ rfl (HL1.out _) Try.underlying26 rfl (by kernel_rfl) ?_) | (refine wpList_store_mid rfl 26 _ _ rfl e.x.heap.size 0 (⟨fl1 / 2 * 2, crc1, d1, ⟨sa1, sb1, sc1, sd1⟩, r1, t1, q1, l1, 0, 0⟩ : PV).c (by rfl) (by rfl) ((Blk.new _ _ _).there (Nat.le_refl 19)) (by kernel_rfl) (PV.one _) ?_) | (go_at_call 10; refine (Ret.later (KW1.out _)).mono ?_; rintro x _ ⟨rfl, e, rfl⟩))
  generalize hU : World.setCells _ _ _ _ = U1
  have HMU : Hid (Ext e.x U1) := hid (by rw [← hU]; exact setCells_mod _ _ ((Mod.refl [] e.x).alloc _) (.inr (Nat.le_refl _)))
  have HA1 : Hid (Blk U1 e.x.heap.size 26 (⟨fl1 / 2 * 2, crc1, d1, ⟨sa1, sb1, sc1, sd1⟩, r1, t1, q1, l1, 0, 0⟩ : PV).c) := hid (by rw [← hU]; exact setCells_all (Blk.new _ _ _) rfl)
  clear hU
  have HC2 : Hid (Blk U1 (w.heap.size + 1) 26 (⟨fl2, crc2, d2, ⟨sa1, sb1, sc1, sd1⟩, r2, t1, q1, l2, o1, n1⟩ : PV).c) := hid ((HB2.out.later e).ext HMU.out)
  have HC1 : Hid (Blk U1 w.heap.size 26 (⟨fl1, crc1, d1, ⟨sa1, sb1, sc1, sd1⟩, r1, t1, q1, l1, o1, n1⟩ : PV).c) := hid ((HB1.out.later e).ext HMU.out)
  have HEU : Hid (Ext w U1) := hid ((HE.out.trans e.h).trans HMU.out)
  clear HMU
  generalize e.x.heap.size = g1 at *
  clear e
  obtain ⟨e, he⟩ := Later.self U1
  rw [he]
  clear he
  go_upto_region 10 with (first | (refine wpList_row (by rfl) 26 _ rfl _ rfl (HC2.out.later _) Try.underlying26 rfl (by kernel_rfl) ?_) | (refine wpList_store_mid rfl 26 _ _ rfl e.x.heap.size 0 (⟨fl2 / 2 * 2, crc2, d2, ⟨sa1, sb1, sc1, sd1⟩, r2, t1, q1, l2, 0, 0⟩ : PV).c (by rfl) (by rfl) ((Blk.new _ _ _).there (Nat.le_refl 19)) (by kernel_rfl) (PV.one _) ?_) | (go_at_call 10; refine (Ret.later (KW2.out _)).mono ?_; rintro x _ ⟨rfl, e, rfl⟩))
  generalize hU : World.setCells _ _ _ _ = U2
  have HMU : Hid (Ext e.x U2) := hid (by rw [← hU]; exact setCells_mod _ _ ((Mod.refl [] e.x).alloc _) (.inr (Nat.le_refl _)))
  have HA3 : Hid (Blk U2 e.x.heap.size 26 (⟨fl2 / 2 * 2, crc2, d2, ⟨sa1, sb1, sc1, sd1⟩, r2, t1, q1, l2, 0, 0⟩ : PV).c) := hid (by rw [← hU]; exact setCells_all (Blk.new _ _ _) rfl)
  clear hU
  have HA2 : Hid (Blk U2 g1 26 (⟨fl1 / 2 * 2, crc1, d1, ⟨sa1, sb1, sc1, sd1⟩, r1, t1, q1, l1, 0, 0⟩ : PV).c) := hid ((HA1.out.later e).ext HMU.out)
  have HD1 : Hid (Blk U2 w.heap.size 26 (⟨fl1, crc1, d1, ⟨sa1, sb1, sc1, sd1⟩, r1, t1, q1, l1, o1, n1⟩ : PV).c) := hid ((HC1.out.later e).ext HMU.out)
  have HEV : Hid (Ext w U2) := hid ((HEU.out.trans e.h).trans HMU.out)
  clear HMU
  generalize e.x.heap.size = g2 at *
  clear e
  have y0 : ∀ e : Later U2, e.x.cell? ⟨w.heap.size, 0, none⟩ = some (.int .u64 (fl1 : Int)) := HD1.out.cellL 0 rfl
  have y1 : ∀ e : Later U2, e.x.cell? ⟨w.heap.size, 1, none⟩ = some (.int .i64 crc1) := HD1.out.cellL 1 rfl
  have y2 : ∀ e : Later U2, e.x.cell? ⟨w.heap.size, 2, none⟩ = some (.int .i64 d1.sch) := HD1.out.cellL 2 rfl
  have y3 : ∀ e : Later U2, e.x.cell? ⟨w.heap.size, 3, none⟩ = some (str d1.name) := HD1.out.cellL 3 rfl
  have y4 : ∀ e : Later U2, e.x.cell? ⟨w.heap.size, 4, none⟩ = some (.int .u64 (d1.node : Int)) := HD1.out.cellL 4 rfl
  have y5 : ∀ e : Later U2, e.x.cell? ⟨w.heap.size, 5, none⟩ = some (.int .u64 (d1.svc : Int)) := HD1.out.cellL 5 rfl
  have y10 : ∀ e : Later U2, e.x.cell? ⟨w.heap.size, 10, none⟩ = some (.int .i64 r1.sch) := HD1.out.cellL 10 rfl
  have y11 : ∀ e : Later U2, e.x.cell? ⟨w.heap.size, 11, none⟩ = some (str r1.name) := HD1.out.cellL 11 rfl
  have y12 : ∀ e : Later U2, e.x.cell? ⟨w.heap.size, 12, none⟩ = some (.int .u64 (r1.node : Int)) := HD1.out.cellL 12 rfl
  have y13 : ∀ e : Later U2, e.x.cell? ⟨w.heap.size, 13, none⟩ = some (.int .u64 (r1.svc : Int)) := HD1.out.cellL 13 rfl
  have y16 : ∀ e : Later U2, e.x.cell? ⟨w.heap.size, 16, none⟩ = some (.int .u64 (l1 : Int)) := HD1.out.cellL 16 rfl
  have z0 : ∀ e : Later U2, e.x.cell? ⟨g1, 0, none⟩ = some (.int .u64 ((fl1 : Int) / 2 * 2)) := HA2.out.cellL 0 (by simp)
  have z1 : ∀ e : Later U2, e.x.cell? ⟨g1, 1, none⟩ = some (.int .i64 crc1) := HA2.out.cellL 1 rfl
  have z2 : ∀ e : Later U2, e.x.cell? ⟨g1, 2, none⟩ = some (.int .i64 d1.sch) := HA2.out.cellL 2 rfl
  have z3 : ∀ e : Later U2, e.x.cell? ⟨g1, 3, none⟩ = some (str d1.name) := HA2.out.cellL 3 rfl
  have z4 : ∀ e : Later U2, e.x.cell? ⟨g1, 4, none⟩ = some (.int .u64 (d1.node : Int)) := HA2.out.cellL 4 rfl
  have z5 : ∀ e : Later U2, e.x.cell? ⟨g1, 5, none⟩ = some (.int .u64 (d1.svc : Int)) := HA2.out.cellL 5 rfl
  have z10 : ∀ e : Later U2, e.x.cell? ⟨g1, 10, none⟩ = some (.int .i64 r1.sch) := HA2.out.cellL 10 rfl
  have z11 : ∀ e : Later U2, e.x.cell? ⟨g1, 11, none⟩ = some (str r1.name) := HA2.out.cellL 11 rfl
  have z12 : ∀ e : Later U2, e.x.cell? ⟨g1, 12, none⟩ = some (.int .u64 (r1.node : Int)) := HA2.out.cellL 12 rfl
  have z13 : ∀ e : Later U2, e.x.cell? ⟨g1, 13, none⟩ = some (.int .u64 (r1.svc : Int)) := HA2.out.cellL 13 rfl
  have z16 : ∀ e : Later U2, e.x.cell? ⟨g1, 16, none⟩ = some (.int .u64 (l1 : Int)) := HA2.out.cellL 16 rfl
  have z17 : ∀ e : Later U2, e.x.cell? ⟨g1, 17, none⟩ = some (.int .u64 0) := HA2.out.cellL 17 rfl
  have z18 : ∀ e : Later U2, e.x.cell? ⟨g1, 18, none⟩ = some (.int .u64 0) := HA2.out.cellL 18 rfl
  obtain ⟨e, he⟩ := Later.self U2
  rw [he]
  clear he
  go_upto_region 12 with (go_at_call 8; refine (Ret.later (KG1.out _)).mono ?_; rintro x _ ⟨rfl, e, rfl⟩)
  refine wp_region_later (by kernel_rfl) (by kernel_rfl) ?_
  repeat (first | (refine later_row (by rfl) 26 _ rfl _ rfl (fun e => HA2.out.later e) Try.underlying26 rfl (by kernel_rfl) ?_; simp only [Act.put, List.setIfInBounds_toArray, List.set_cons_zero, List.set_cons_succ]) | (refine later_row (by rfl) 26 _ rfl _ rfl (fun e => HA3.out.later e) Try.underlying26 rfl (by kernel_rfl) ?_; simp only [Act.put, List.setIfInBounds_toArray, List.set_cons_zero, List.set_cons_succ]) | go_big_quiet_step ((first | (go_at_call 9; first | (with_reducible exact Ret.later (KM1.out _)) | (with_reducible exact Ret.later (KM2.out _))))))
  refine wpQuiet_nil ?_
  rintro _ ⟨e, rfl⟩
  go_wp2_with fail
  all_goals go_ret
  all_goals exact Ret.mk (by simp) (HEV.out.trans e.h)
end Go.Proofs.Ytldomommbopgjaa


namespace Go.Proofs.Ytldomommbopgjaa
open Go.RowKit
set_option linter.unusedVariables false

set_option maxRecDepth 20000 in
set_option maxHeartbeats 8000000 in
theorem lawNames_any (fl1 : Nat) (crc1 : Int) (d1 : EV) (sa1 : Int) (sb1 : List UInt8) (sc1 sd1 : Nat) (r1 : EV) (t1 q1 l1 o1 n1 : Nat) (fl2 : Nat) (crc2 : Int) (d2 : EV) (sa2 : Int) (sb2 : List UInt8) (sc2 sd2 : Nat) (r2 : EV) (t2 q2 l2 o2 n2 : Nat) (hf1 : fl1 < 18446744073709551616) (hf2 : fl2 < 18446744073709551616)  (w : World) : Calls Try.prog 3 #[.agg (⟨fl1, crc1, d1, ⟨sa1, sb1, sc1, sd1⟩, r1, t1, q1, l1, o1, n1⟩ : PV).c, .agg (⟨fl2, crc2, d2, ⟨sa2, sb2, sc2, sd2⟩, r2, t2, q2, l2, o2, n2⟩ : PV).c] w (Ret (.bool true) w) := by
  cases hF : ((⟨fl1, crc1, d1, ⟨sa1, sb1, sc1, sd1⟩, r1, t1, q1, l1, o1, n1⟩ : PV).few && (⟨fl2, crc2, d2, ⟨sa2, sb2, sc2, sd2⟩, r2, t2, q2, l2, o2, n2⟩ : PV).few)
  · exact names_few _ _ _ _ _ _ _ _ _ _ _ _ _ _ _ _ _ _ _ _ _ _ _ _ _ _ hf1 hf2 hF w
  obtain ⟨hF1, hF2⟩ := Bool.and_eq_true_iff.1 hF
  by_cases hx : sa1 = sa2
  case neg => exact names_sa _ _ _ _ _ _ _ _ _ _ _ _ _ _ _ _ _ _ _ _ _ _ _ _ _ _ hf1 hf2 hF1 hF2 hx w
  subst hx
  by_cases hx : sb1 = sb2
  case neg => exact names_sb _ _ _ _ _ _ _ _ _ _ _ _ _ _ _ _ _ _ _ _ _ _ _ _ _ hf1 hf2 hF1 hF2 hx w
  subst hx
  by_cases hx : sc1 = sc2
  case neg => exact names_sc _ _ _ _ _ _ _ _ _ _ _ _ _ _ _ _ _ _ _ _ _ _ _ _ hf1 hf2 hF1 hF2 hx w
  subst hx
  by_cases hx : sd1 = sd2
  case neg => exact names_sd _ _ _ _ _ _ _ _ _ _ _ _ _ _ _ _ _ _ _ _ _ _ _ hf1 hf2 hF1 hF2 hx w
  subst hx
  by_cases hx : t1 = t2
  case neg => exact names_t _ _ _ _ _ _ _ _ _ _ _ _ _ _ _ _ _ _ _ _ _ _ hf1 hf2 hF1 hF2 hx w
  subst hx
  by_cases hx : q1 = q2
  case neg => exact names_q _ _ _ _ _ _ _ _ _ _ _ _ _ _ _ _ _ _ _ _ _ hf1 hf2 hF1 hF2 hx w
  subst hx
  cases h1 : has fl1 1 <;> cases h2 : has fl2 1
  · exact names_ff _ _ _ _ _ _ _ _ _ _ _ _ _ _ _ _ _ _ _ _ hf1 hf2 hF1 hF2 h1 h2 w
  · exact names_ft _ _ _ _ _ _ _ _ _ _ _ _ _ _ _ _ _ _ _ _ hf1 hf2 hF1 hF2 h1 h2 w
  · exact names_tf _ _ _ _ _ _ _ _ _ _ _ _ _ _ _ _ _ _ _ _ hf1 hf2 hF1 hF2 h1 h2 w
  by_cases hx : o1 = o2
  case neg => exact names_o _ _ _ _ _ _ _ _ _ _ _ _ _ _ _ _ _ _ _ _ hf1 hf2 hF1 hF2 h1 h2 hx w
  subst hx
  by_cases hx : n1 = n2
  case neg => exact names_n _ _ _ _ _ _ _ _ _ _ _ _ _ _ _ _ _ _ _ hf1 hf2 hF1 hF2 h1 h2 hx w
  subst hx
  exact names_tt _ _ _ _ _ _ _ _ _ _ _ _ _ _ _ _ _ _ hf1 hf2 hF1 hF2 h1 h2 w
end Go.Proofs.Ytldomommbopgjaa
