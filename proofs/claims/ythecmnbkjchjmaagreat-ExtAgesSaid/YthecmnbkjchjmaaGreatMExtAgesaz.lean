/-
 The reference's blocks: bytes, header.
-/
import Derived.Test.YthecmnbkjchjmaaGreatMExtAgesax
import Derived.Test.YthecmnbkjchjmaaGreatMExtAgesay

namespace Go.Proofs.YthecmnbkjchjmaaGreat
open Go.RowKit
set_option linter.unusedVariables false
set_option linter.unusedSimpArgs false

set_option maxRecDepth 20000 in
theorem R4B_1 (l : List UInt8) (hl : Hid (l.length < 1000000)) (w : World) : Calls Tryz.prog 53 #[.int .i64 1, str l] w (Ret (str (be (Crc.x25 l) 2)) w) := by
 have hd : Crc.x25 l < 65536 := by unfold Crc.x25; omega
 have K := hid (fun W => Sum16 l hl W)
 generalize Crc.x25 l = d at *
 have hcv : ∀ W : World, (convert 100 9 (.slice (some ⟨W.heap.size, 0, none⟩) 2 2)).run Tryz.prog (W.alloc (.cells #[.int .u8 ((d : Int) / 256), .int .u8 ((d : Int) % 256)] 5)) = .ok (str (be d 2)) (W.alloc (.cells #[.int .u8 ((d : Int) / 256), .int .u8 ((d : Int) % 256)] 5)) := fun W => by
  have := conv_new (be d 2) 2 W
  rw [be_length, be2 hd] at this
  simpa [b8_cast (show d / 256 < 256 by omega), b8_cast (show d % 256 < 256 by omega), be2 hd] using this
 go_enter Tryz.func53, Tryz.ntmps53
 go_wp2_with fail
 refine (K.out _).mono ?_
 rintro e w1 ⟨rfl, hb1⟩
 go_wp2_with fail
 go_ret
 exact Ret.mk rfl (hb1.alloc _)
set_option maxRecDepth 20000 in
theorem R4B_2 (l : List UInt8) (hl : Hid (l.length < 1000000)) (w : World) : Calls Tryz.prog 53 #[.int .i64 2, str l] w (Ret (str (be (Crc.cast l) 4)) w) := by
 have hd : Crc.cast l < 4294967296 := by unfold Crc.cast; omega
 have K := hid (fun W => Sum32 l hl W)
 generalize Crc.cast l = d at *
 have hcv : ∀ W : World, (convert 100 9 (.slice (some ⟨W.heap.size, 0, none⟩) 4 4)).run Tryz.prog (W.alloc (.cells #[.int .u8 ((d : Int) / 16777216), .int .u8 ((d : Int) / 65536 % 256), .int .u8 ((d : Int) / 256 % 256), .int .u8 ((d : Int) % 256)] 5)) = .ok (str (be d 4)) (W.alloc (.cells #[.int .u8 ((d : Int) / 16777216), .int .u8 ((d : Int) / 65536 % 256), .int .u8 ((d : Int) / 256 % 256), .int .u8 ((d : Int) % 256)] 5)) := fun W => by
  have := conv_new (be d 4) 4 W
  rw [be_length, be4 hd] at this
  simpa [b8_cast (show d / 16777216 < 256 by omega), b8_cast (show d / 65536 % 256 < 256 by omega), b8_cast (show d / 256 % 256 < 256 by omega), b8_cast (show d % 256 < 256 by omega), be4 hd] using this
 go_enter Tryz.func53, Tryz.ntmps53
 go_wp2_with fail
 refine (K.out _).mono ?_
 rintro e w1 ⟨rfl, hb1⟩
 go_wp2_with fail
 go_ret
 exact Ret.mk rfl (hb1.alloc _)
theorem R4B_0 (l : List UInt8) (w : World) : Calls Tryz.prog 53 #[.int .i64 0, str l] w (Ret (str []) w) := by
 go_enter Tryz.func53, Tryz.ntmps53
 go_wp2_with fail
 go_ret
 exact Ret.mk rfl (Mod.refl _ _)
theorem R4B_any (k : Nat) (h2 : k <= 2) (l : List UInt8) (hl : Hid (l.length < 1000000)) (w : World) : Calls Tryz.prog 53 #[.int .i64 (k : Int), str l] w (Ret (str (if k = 0 then [] else Crc.sumL k l)) w) := by
 have : k = 0 \/ k = 1 \/ k = 2 := by omega
 rcases this with rfl | rfl | rfl
 . exact R4B_0 l w
 . exact R4B_1 l hl w
 . exact R4B_2 l hl w

abbrev numsV (ty num fl crc : Nat) : Value := .agg #[.int .u64 (ty : Int), .int .u64 (num : Int), .int .u64 (fl : Int), .int .u64 (crc : Int)]
set_option maxRecDepth 20000 in
theorem nums_any (ty num fl crc : Nat) (data : List UInt8) (h1 : ty <= 65535) (h2 : num <= 65535) (h3 : crc <= 2) (w : World) : Calls Tryz.prog 55 #[BV.v ⟨ty, num, fl, crc, data⟩] w (Ret (numsV ty num fl crc) w) := by
 have t1 : IntKind.u64.wrap (ty : Int) = (ty : Int) := IntWalk.u64_in _ (by omega)
 have t2 : IntKind.u64.wrap (num : Int) = (num : Int) := IntWalk.u64_in _ (by omega)
 have t3 : IntKind.u64.wrap (crc : Int) = (crc : Int) := IntWalk.u64_in _ (by omega)
 go_enter Tryz.func55, Tryz.ntmps55
 go_wp2_with fail
 refine bodyPost_ret (v := numsV ty num fl crc) (by simp [results, Tryz.results55, go_sem]) rfl (Ret.mk rfl (((Mod.refl _ _).alloc _).alloc _))
def num4 (ty num fl crc i : Nat) : Nat := if i = 0 then ty else if i = 1 then num else if i = 2 then fl else crc
def cat4 (ty num fl crc : Nat) (j : Nat) : List UInt8 := T.cat (fun i => headL 0 (num4 ty num fl crc i)) j
theorem cat4_le (ty num fl crc : Nat) : ∀ j, (cat4 ty num fl crc j).length <= 9 * j
 | 0 => by simp [cat4, T.cat]
 | j + 1 => by
  have h := cat4_le ty num fl crc j
  have := headL_le 0 (num4 ty num fl crc j)
  unfold cat4 at h ⊢
  rw [T.cat, List.length_append]
  omega
theorem rHead_n (m n : Nat) (hm : m <= 7) (hn : n < 18446744073709551616) (w : World) : Calls Tryz.prog 28 #[.int .i64 (m : Int), .int .u64 (n : Int)] w (Ret (str (headL m n)) w) := by
 simpa using rhead_in (m : Int) (n : Int) (by omega) (by omega) (by omega) (by omega) w

set_option maxRecDepth 20000 in
set_option maxHeartbeats 800000 in
theorem rbytes_0 (ty num fl : Nat) (data sum : List UInt8) (h1 : Hid (ty <= 65535)) (h2 : Hid (num <= 65535)) (h3 : Hid (fl <= 255)) (hd : Hid (data.length <= 4000)) (hs : Hid (sum.length <= 4000)) (w : World) : Calls Tryz.prog 56 #[numsV ty num fl 0, str data, str sum] w (Ret (str (blkB ty num fl 0 data sum)) w) := by
 have HC : Hid (∀ W, Ext (w.alloc (.cells #[.int .u64 (ty : Int), .int .u64 (num : Int), .int .u64 (fl : Int), .int .u64 0] 101)) W -> ∀ j, j < 4 -> W.cell? ⟨w.heap.size, j, none⟩ = some (.int .u64 ((num4 ty num fl 0 j : Nat) : Int))) := fun W hW j hj => by
  have hB := (Blk.new w 101 #[.int .u64 (ty : Int), .int .u64 (num : Int), .int .u64 (fl : Int), .int .u64 0]).ext hW
  have h4 : j = 0 \/ j = 1 \/ j = 2 \/ j = 3 := by omega
  rcases h4 with rfl | rfl | rfl | rfl
  . exact hB.cell 0
  . exact hB.cell 1
  . exact hB.cell 2
  . exact hB.cell 3
 have HN : Hid (∀ j, num4 ty num fl 0 j < 18446744073709551616) := fun j => by
  have := h1.out; have := h2.out; have := h3.out
  unfold num4
  split
  . omega
  .
   split
   . omega
   . split <;> omega
 have K5 := hid (fun W => rBytes_any data (by have := hd.out; unfold Hid; omega) W)
 have K6 := hid (fun W => rBytes_any sum (by have := hs.out; unfold Hid; omega) W)
 have KH := hid (fun W => rHead_n 4 5 (by omega) (by omega) W)
 have HE := hid ((Mod.refl [] w).alloc (.cells #[.int .u64 (ty : Int), .int .u64 (num : Int), .int .u64 (fl : Int), .int .u64 0] 101))
 have hblk : blkB ty num fl 0 data sum = (headL 4 5 ++ cat4 ty num fl 0 4) ++ (headL 2 data.length ++ data) := by
  simp [blkB, cat4, T.cat, num4]
 have HBK := hid hblk; clear hblk
 go_enter Tryz.func56, Tryz.ntmps56
 go_wp2_with fail
 generalize w.alloc (.cells #[.int .u64 (ty : Int), .int .u64 (num : Int), .int .u64 (fl : Int), .int .u64 0] 101) = V at *
 refine (KH.out _).mono ?_
 rintro e w1 ⟨rfl, hb1⟩
 have HB1 := hid hb1
 clear hb1
 go_wp2_with fail
 have hh4 := headL_le 4 5
 generalize headL 4 5 = P at *
 go_loopw [8, 9] (fun s i wr => ∃ j : Nat, j <= 4 /\ i = .int .i64 j /\ s = str (P ++ cat4 ty num fl 0 j) /\ Ext V wr) (fun _ i _ => 4 - (intOf i).toNat)
 case atStart => exact ⟨0, Nat.zero_le _, rfl, by simp [cat4, T.cat], HB1.out⟩
 case round =>
  obtain ⟨j, hj, rfl, rfl, hw⟩ := hrel
  have hcl := cat4_le ty num fl 0 j
  by_cases hlt : j < 4
  .
   have hcell := HC.out wr hw j hlt
   have HS : Hid (cat4 ty num fl 0 (j + 1) = cat4 ty num fl 0 j ++ headL 0 (num4 ty num fl 0 j)) := rfl
   have K := hid (fun W => rHead_n 0 (num4 ty num fl 0 j) (by omega) (HN.out j) W)
   have hl2 := headL_le 0 (num4 ty num fl 0 j)
   generalize num4 ty num fl 0 j = x at *
   generalize headL 0 x = y at *
   generalize cat4 ty num fl 0 j = z at *
   have HW := hid hw
   clear hw
   go_wp2_with fail
   refine (K.out _).mono ?_
   rintro e w2 ⟨rfl, hb2⟩
   have hlen : (P ++ z).length + y.length <= 100 := by rw [List.length_append]; omega
   generalize hq : P ++ z = q at *
   have HQ := hid hq; clear hq
   have hlx : ¬ 9223372036854775807 < q.length + y.length := by omega
   go_wp2_with fail
   go_roundw
   case rel => exact ⟨j + 1, by omega, by go_num, by rw [HS.out, <- List.append_assoc, HQ.out]; exact str_app _ _, HW.out.trans hb2⟩
   case measure => simp [intOf]; omega
  .
   obtain rfl : j = 4 := by omega
   have HW := hid hw
   clear hw
   have hp2 : (P ++ cat4 ty num fl 0 4).length <= 100 := by rw [List.length_append]; omega
   generalize P ++ cat4 ty num fl 0 4 = q at *
   go_wp2_with fail
   refine (K5.out _).mono ?_
   rintro e w2 ⟨rfl, hb2⟩
   have HB2 := hid (HW.out.trans hb2)
   clear hb2
   have hd2 : (headL 2 data.length ++ data).length <= 5000 := by have := headL_le 2 data.length; have := hd.out; rw [List.length_append]; omega
   have hs2 : (headL 2 sum.length ++ sum).length <= 5000 := by have := headL_le 2 sum.length; have := hs.out; rw [List.length_append]; omega
   generalize headL 2 data.length ++ data = dd at *
   generalize headL 2 sum.length ++ sum = ss at *
   have hlx : ¬ 9223372036854775807 < q.length + dd.length := by omega
   go_wp2_with fail
   go_ret
   refine Ret.mk ?_ (HE.out.trans HB2.out)
   rw [HBK.out]
   exact str_app _ _

set_option maxRecDepth 20000 in
set_option maxHeartbeats 800000 in
theorem rbytes_1 (ty num fl : Nat) (data sum : List UInt8) (h1 : Hid (ty <= 65535)) (h2 : Hid (num <= 65535)) (h3 : Hid (fl <= 255)) (hd : Hid (data.length <= 4000)) (hs : Hid (sum.length <= 4000)) (w : World) : Calls Tryz.prog 56 #[numsV ty num fl 1, str data, str sum] w (Ret (str (blkB ty num fl 1 data sum)) w) := by
 have HC : Hid (∀ W, Ext (w.alloc (.cells #[.int .u64 (ty : Int), .int .u64 (num : Int), .int .u64 (fl : Int), .int .u64 1] 101)) W -> ∀ j, j < 4 -> W.cell? ⟨w.heap.size, j, none⟩ = some (.int .u64 ((num4 ty num fl 1 j : Nat) : Int))) := fun W hW j hj => by
  have hB := (Blk.new w 101 #[.int .u64 (ty : Int), .int .u64 (num : Int), .int .u64 (fl : Int), .int .u64 1]).ext hW
  have h4 : j = 0 \/ j = 1 \/ j = 2 \/ j = 3 := by omega
  rcases h4 with rfl | rfl | rfl | rfl
  . exact hB.cell 0
  . exact hB.cell 1
  . exact hB.cell 2
  . exact hB.cell 3
 have HN : Hid (∀ j, num4 ty num fl 1 j < 18446744073709551616) := fun j => by
  have := h1.out; have := h2.out; have := h3.out
  unfold num4
  split
  . omega
  .
   split
   . omega
   . split <;> omega
 have K5 := hid (fun W => rBytes_any data (by have := hd.out; unfold Hid; omega) W)
 have K6 := hid (fun W => rBytes_any sum (by have := hs.out; unfold Hid; omega) W)
 have KH := hid (fun W => rHead_n 4 6 (by omega) (by omega) W)
 have HE := hid ((Mod.refl [] w).alloc (.cells #[.int .u64 (ty : Int), .int .u64 (num : Int), .int .u64 (fl : Int), .int .u64 1] 101))
 have hblk : blkB ty num fl 1 data sum = (headL 4 6 ++ cat4 ty num fl 1 4) ++ (headL 2 data.length ++ data) ++ (headL 2 sum.length ++ sum) := by
  simp [blkB, cat4, T.cat, num4]
 have HBK := hid hblk; clear hblk
 go_enter Tryz.func56, Tryz.ntmps56
 go_wp2_with fail
 generalize w.alloc (.cells #[.int .u64 (ty : Int), .int .u64 (num : Int), .int .u64 (fl : Int), .int .u64 1] 101) = V at *
 refine (KH.out _).mono ?_
 rintro e w1 ⟨rfl, hb1⟩
 have HB1 := hid hb1
 clear hb1
 go_wp2_with fail
 have hh4 := headL_le 4 6
 generalize headL 4 6 = P at *
 go_loopw [8, 9] (fun s i wr => ∃ j : Nat, j <= 4 /\ i = .int .i64 j /\ s = str (P ++ cat4 ty num fl 1 j) /\ Ext V wr) (fun _ i _ => 4 - (intOf i).toNat)
 case atStart => exact ⟨0, Nat.zero_le _, rfl, by simp [cat4, T.cat], HB1.out⟩
 case round =>
  obtain ⟨j, hj, rfl, rfl, hw⟩ := hrel
  have hcl := cat4_le ty num fl 1 j
  by_cases hlt : j < 4
  .
   have hcell := HC.out wr hw j hlt
   have HS : Hid (cat4 ty num fl 1 (j + 1) = cat4 ty num fl 1 j ++ headL 0 (num4 ty num fl 1 j)) := rfl
   have K := hid (fun W => rHead_n 0 (num4 ty num fl 1 j) (by omega) (HN.out j) W)
   have hl2 := headL_le 0 (num4 ty num fl 1 j)
   generalize num4 ty num fl 1 j = x at *
   generalize headL 0 x = y at *
   generalize cat4 ty num fl 1 j = z at *
   have HW := hid hw
   clear hw
   go_wp2_with fail
   refine (K.out _).mono ?_
   rintro e w2 ⟨rfl, hb2⟩
   have hlen : (P ++ z).length + y.length <= 100 := by rw [List.length_append]; omega
   generalize hq : P ++ z = q at *
   have HQ := hid hq; clear hq
   have hlx : ¬ 9223372036854775807 < q.length + y.length := by omega
   go_wp2_with fail
   go_roundw
   case rel => exact ⟨j + 1, by omega, by go_num, by rw [HS.out, <- List.append_assoc, HQ.out]; exact str_app _ _, HW.out.trans hb2⟩
   case measure => simp [intOf]; omega
  .
   obtain rfl : j = 4 := by omega
   have HW := hid hw
   clear hw
   have hp2 : (P ++ cat4 ty num fl 1 4).length <= 100 := by rw [List.length_append]; omega
   generalize P ++ cat4 ty num fl 1 4 = q at *
   go_wp2_with fail
   refine (K5.out _).mono ?_
   rintro e w2 ⟨rfl, hb2⟩
   have HB2 := hid (HW.out.trans hb2)
   clear hb2
   have hd2 : (headL 2 data.length ++ data).length <= 5000 := by have := headL_le 2 data.length; have := hd.out; rw [List.length_append]; omega
   have hs2 : (headL 2 sum.length ++ sum).length <= 5000 := by have := headL_le 2 sum.length; have := hs.out; rw [List.length_append]; omega
   generalize headL 2 data.length ++ data = dd at *
   generalize headL 2 sum.length ++ sum = ss at *
   have hlx : ¬ 9223372036854775807 < q.length + dd.length := by omega
   go_wp2_with fail
   refine (K6.out _).mono ?_
   rintro e w3 ⟨rfl, hb3⟩
   have HB3 := hid (HB2.out.trans hb3)
   clear hb3
   have hq3 : (q ++ dd).length <= 10000 := by rw [List.length_append]; omega
   rw [str_app q dd]
   generalize hqd : q ++ dd = r at *
   have HQD := hid hqd; clear hqd
   have hly : ¬ 9223372036854775807 < r.length + ss.length := by omega
   go_wp2_with fail
   go_ret
   refine Ret.mk ?_ (HE.out.trans HB3.out)
   rw [HBK.out]
   exact str_app _ _

set_option maxRecDepth 20000 in
set_option maxHeartbeats 800000 in
theorem rbytes_2 (ty num fl : Nat) (data sum : List UInt8) (h1 : Hid (ty <= 65535)) (h2 : Hid (num <= 65535)) (h3 : Hid (fl <= 255)) (hd : Hid (data.length <= 4000)) (hs : Hid (sum.length <= 4000)) (w : World) : Calls Tryz.prog 56 #[numsV ty num fl 2, str data, str sum] w (Ret (str (blkB ty num fl 2 data sum)) w) := by
 have HC : Hid (∀ W, Ext (w.alloc (.cells #[.int .u64 (ty : Int), .int .u64 (num : Int), .int .u64 (fl : Int), .int .u64 2] 101)) W -> ∀ j, j < 4 -> W.cell? ⟨w.heap.size, j, none⟩ = some (.int .u64 ((num4 ty num fl 2 j : Nat) : Int))) := fun W hW j hj => by
  have hB := (Blk.new w 101 #[.int .u64 (ty : Int), .int .u64 (num : Int), .int .u64 (fl : Int), .int .u64 2]).ext hW
  have h4 : j = 0 \/ j = 1 \/ j = 2 \/ j = 3 := by omega
  rcases h4 with rfl | rfl | rfl | rfl
  . exact hB.cell 0
  . exact hB.cell 1
  . exact hB.cell 2
  . exact hB.cell 3
 have HN : Hid (∀ j, num4 ty num fl 2 j < 18446744073709551616) := fun j => by
  have := h1.out; have := h2.out; have := h3.out
  unfold num4
  split
  . omega
  .
   split
   . omega
   . split <;> omega
 have K5 := hid (fun W => rBytes_any data (by have := hd.out; unfold Hid; omega) W)
 have K6 := hid (fun W => rBytes_any sum (by have := hs.out; unfold Hid; omega) W)
 have KH := hid (fun W => rHead_n 4 6 (by omega) (by omega) W)
 have HE := hid ((Mod.refl [] w).alloc (.cells #[.int .u64 (ty : Int), .int .u64 (num : Int), .int .u64 (fl : Int), .int .u64 2] 101))
 have hblk : blkB ty num fl 2 data sum = (headL 4 6 ++ cat4 ty num fl 2 4) ++ (headL 2 data.length ++ data) ++ (headL 2 sum.length ++ sum) := by
  simp [blkB, cat4, T.cat, num4]
 have HBK := hid hblk; clear hblk
 go_enter Tryz.func56, Tryz.ntmps56
 go_wp2_with fail
 generalize w.alloc (.cells #[.int .u64 (ty : Int), .int .u64 (num : Int), .int .u64 (fl : Int), .int .u64 2] 101) = V at *
 refine (KH.out _).mono ?_
 rintro e w1 ⟨rfl, hb1⟩
 have HB1 := hid hb1
 clear hb1
 go_wp2_with fail
 have hh4 := headL_le 4 6
 generalize headL 4 6 = P at *
 go_loopw [8, 9] (fun s i wr => ∃ j : Nat, j <= 4 /\ i = .int .i64 j /\ s = str (P ++ cat4 ty num fl 2 j) /\ Ext V wr) (fun _ i _ => 4 - (intOf i).toNat)
 case atStart => exact ⟨0, Nat.zero_le _, rfl, by simp [cat4, T.cat], HB1.out⟩
 case round =>
  obtain ⟨j, hj, rfl, rfl, hw⟩ := hrel
  have hcl := cat4_le ty num fl 2 j
  by_cases hlt : j < 4
  .
   have hcell := HC.out wr hw j hlt
   have HS : Hid (cat4 ty num fl 2 (j + 1) = cat4 ty num fl 2 j ++ headL 0 (num4 ty num fl 2 j)) := rfl
   have K := hid (fun W => rHead_n 0 (num4 ty num fl 2 j) (by omega) (HN.out j) W)
   have hl2 := headL_le 0 (num4 ty num fl 2 j)
   generalize num4 ty num fl 2 j = x at *
   generalize headL 0 x = y at *
   generalize cat4 ty num fl 2 j = z at *
   have HW := hid hw
   clear hw
   go_wp2_with fail
   refine (K.out _).mono ?_
   rintro e w2 ⟨rfl, hb2⟩
   have hlen : (P ++ z).length + y.length <= 100 := by rw [List.length_append]; omega
   generalize hq : P ++ z = q at *
   have HQ := hid hq; clear hq
   have hlx : ¬ 9223372036854775807 < q.length + y.length := by omega
   go_wp2_with fail
   go_roundw
   case rel => exact ⟨j + 1, by omega, by go_num, by rw [HS.out, <- List.append_assoc, HQ.out]; exact str_app _ _, HW.out.trans hb2⟩
   case measure => simp [intOf]; omega
  .
   obtain rfl : j = 4 := by omega
   have HW := hid hw
   clear hw
   have hp2 : (P ++ cat4 ty num fl 2 4).length <= 100 := by rw [List.length_append]; omega
   generalize P ++ cat4 ty num fl 2 4 = q at *
   go_wp2_with fail
   refine (K5.out _).mono ?_
   rintro e w2 ⟨rfl, hb2⟩
   have HB2 := hid (HW.out.trans hb2)
   clear hb2
   have hd2 : (headL 2 data.length ++ data).length <= 5000 := by have := headL_le 2 data.length; have := hd.out; rw [List.length_append]; omega
   have hs2 : (headL 2 sum.length ++ sum).length <= 5000 := by have := headL_le 2 sum.length; have := hs.out; rw [List.length_append]; omega
   generalize headL 2 data.length ++ data = dd at *
   generalize headL 2 sum.length ++ sum = ss at *
   have hlx : ¬ 9223372036854775807 < q.length + dd.length := by omega
   go_wp2_with fail
   refine (K6.out _).mono ?_
   rintro e w3 ⟨rfl, hb3⟩
   have HB3 := hid (HB2.out.trans hb3)
   clear hb3
   have hq3 : (q ++ dd).length <= 10000 := by rw [List.length_append]; omega
   rw [str_app q dd]
   generalize hqd : q ++ dd = r at *
   have HQD := hid hqd; clear hqd
   have hly : ¬ 9223372036854775807 < r.length + ss.length := by omega
   go_wp2_with fail
   go_ret
   refine Ret.mk ?_ (HE.out.trans HB3.out)
   rw [HBK.out]
   exact str_app _ _

theorem rbytes_any (ty num fl crc : Nat) (hc : crc <= 2) (data sum : List UInt8) (h1 : Hid (ty <= 65535)) (h2 : Hid (num <= 65535)) (h3 : Hid (fl <= 255)) (hd : Hid (data.length <= 4000)) (hs : Hid (sum.length <= 4000)) (w : World) : Calls Tryz.prog 56 #[numsV ty num fl crc, str data, str sum] w (Ret (str (blkB ty num fl crc data sum)) w) := by
 have : crc = 0 \/ crc = 1 \/ crc = 2 := by omega
 rcases this with rfl | rfl | rfl
 . exact rbytes_0 ty num fl data sum h1 h2 h3 hd hs w
 . exact rbytes_1 ty num fl data sum h1 h2 h3 hd hs w
 . exact rbytes_2 ty num fl data sum h1 h2 h3 hd hs w
end Go.Proofs.YthecmnbkjchjmaaGreat


namespace Go.Proofs.YthecmnbkjchjmaaGreat
open Go.RowKit
set_option linter.unusedVariables false
set_option linter.unusedSimpArgs false

theorem infoByte8 : (Tryz.prog.info? 5).map (fun i => (i.zero, i.size, i.bytes)) = some (some (.int .u8 0), 1, 1) := by kernel_rfl
theorem conv_made (k c : Nat) (W : World) : (convert 100 9 (.slice (some ⟨W.heap.size, 0, none⟩) k c)).run Tryz.prog (W.alloc (.cells (madeCells #[.int .u8 0] k) 5)) = .ok (str (List.replicate k 0)) (W.alloc (.cells (madeCells #[.int .u8 0] k) 5)) := by
 have h := run_convert_bytes_back (P := Tryz.prog) (W.alloc (.cells (madeCells #[.int .u8 0] k) 5)) 100 9 5 ⟨W.heap.size, 0, none⟩ c (List.replicate k 0) Tryz.underlying100 Tryz.underlying5 Tryz.underlying9 (fun j hj => by
  rw [addr_add, Nat.zero_add, (Blk.new W 5 _).cell j]
  rw [List.length_replicate] at hj
  have := toList_madeCells_one (.int .u8 0) k
  rw [<- Array.getElem?_toList, this, List.getElem?_replicate, if_pos hj]
  simp)
 rw [List.length_replicate] at h
 exact h
set_option maxRecDepth 20000 in
set_option maxHeartbeats 800000 in
theorem rBuild_ok (ty num fl crc : Nat) (data : List UInt8) (h1 : Hid (ty <= 65535)) (h2 : Hid (num <= 65535)) (h3 : Hid (fl <= 255)) (h4 : Hid (crc <= 2)) (h5 : Hid (data.length <= 4000)) (w : World) : Calls Tryz.prog 27 #[BV.v ⟨ty, num, fl, crc, data⟩] w (Ret (str (blkB ty num fl crc data (sumB ty num fl crc data))) w) := by
 have HB := hid (Blk.new w 38 (BV.c ⟨ty, num, fl, crc, data⟩))
 have HE0 := hid ((Mod.refl [] w).alloc (.cells (BV.c ⟨ty, num, fl, crc, data⟩) 38))
 go_enter Tryz.func27, Tryz.ntmps27
 go_wp2_with fail
 refine (nums_any ty num fl crc data h1.out h2.out h4.out _).mono ?_
 rintro e w1 ⟨rfl, hb1⟩
 have HE1 := hid (HE0.out.trans hb1)
 have HB1 := hid (HB.out.ext hb1)
 clear hb1
 have hmk : ∀ W : World, (Instr.makeSlice 100 (.int .i64 (2 * (crc : Int))) (.int .i64 (2 * (crc : Int)))).run Tryz.prog W = .ok (.slice (some ⟨W.heap.size, 0, none⟩) (2 * crc) (2 * crc)) (W.alloc (.cells (madeCells #[.int .u8 0] (2 * crc)) 5)) := by
  intro W
  have := run_make_row' (P := Tryz.prog) 100 5 (.int .u8 0) 1 Tryz.underlying100 infoByte8 rfl .i64 .i64 (2 * crc) (by have := h4.out; omega) (by have := h4.out; omega) W
  simpa using this
 have hcv := conv_made (2 * crc) (2 * crc)
 have twr : IntKind.i64.wrap (2 * (crc : Int)) = 2 * (crc : Int) := IntWalk.i64_in _ (by have := h4.out; omega)
 have KB := hid (fun W => rbytes_any ty num fl crc h4.out data (List.replicate (2 * crc) 0) h1 h2 h3 h5 (by have := h4.out; unfold Hid; simp; omega) W)
 have KC := hid (fun W => R4B_any crc h4.out (blkB ty num fl crc data (List.replicate (2 * crc) 0)) (blkB_length h5.out (by have := h4.out; simp; omega)) W)
 have KE := hid (fun W => rbytes_any ty num fl crc h4.out data (sumB ty num fl crc data) h1 h2 h3 h5 (by have := h4.out; unfold Hid; rw [sumB_length h4.out]; omega) W)
 have hsb : (if crc = 0 then [] else Crc.sumL crc (blkB ty num fl crc data (List.replicate (2 * crc) 0))) = sumB ty num fl crc data := rfl
 rw [hsb] at KC
 clear hsb
 generalize blkB ty num fl crc data (List.replicate (2 * crc) 0) = X at *
 generalize sumB ty num fl crc data = Y at *
 generalize blkB ty num fl crc data Y = Z at *
 go_upto_region 2 with fail
 have HL1 := hid (Blk.new w1 101 #[.int .u64 (ty : Int), .int .u64 (num : Int), .int .u64 (fl : Int), .int .u64 (crc : Int)])
 have HB2 := hid (HB1.out.alloc (.cells #[.int .u64 (ty : Int), .int .u64 (num : Int), .int .u64 (fl : Int), .int .u64 (crc : Int)] 101))
 have HE2 := hid (HE1.out.alloc (.cells #[.int .u64 (ty : Int), .int .u64 (num : Int), .int .u64 (fl : Int), .int .u64 (crc : Int)] 101))
 generalize w1.alloc (.cells #[.int .u64 (ty : Int), .int .u64 (num : Int), .int .u64 (fl : Int), .int .u64 (crc : Int)] 101) = V at *
 have HS : Hid (∀ w', Ext V w' -> w'.cell? ⟨w.heap.size, 3, none⟩ = some (.int .i64 (crc : Int)) /\ w'.cell? ⟨w.heap.size, 4, none⟩ = some (str data) /\ w'.cell? ⟨w1.heap.size, 0, none⟩ = some (.int .u64 (ty : Int)) /\ w'.cell? ⟨w1.heap.size, 1, none⟩ = some (.int .u64 (num : Int)) /\ w'.cell? ⟨w1.heap.size, 2, none⟩ = some (.int .u64 (fl : Int)) /\ w'.cell? ⟨w1.heap.size, 3, none⟩ = some (.int .u64 (crc : Int))) := fun W hW => by
  have b1 := HB2.out.ext hW
  have b2 := HL1.out.ext hW
  exact ⟨b1.cell 3, b1.cell 4, b2.cell 0, b2.cell 1, b2.cell 2, b2.cell 3⟩
 obtain ⟨p0, p1, p2, p3, p4, p5⟩ := HS.out V (Mod.refl _ _)
 have hcv2 : (convert 100 9 (.slice (some ⟨V.heap.size, 0, none⟩) (2 * crc) (2 * crc))).run Tryz.prog (V.alloc (.cells (madeCells #[.int .u8 0] (2 * crc)) 5)).drew = .ok (str (List.replicate (2 * crc) 0)) (V.alloc (.cells (madeCells #[.int .u8 0] (2 * crc)) 5)).drew := hcv V.drew
 go_region_held (fun w' => w'.cell? ⟨w.heap.size, 3, none⟩ = some (.int .i64 (crc : Int)) /\ w'.cell? ⟨w.heap.size, 4, none⟩ = some (str data) /\ w'.cell? ⟨w1.heap.size, 0, none⟩ = some (.int .u64 (ty : Int)) /\ w'.cell? ⟨w1.heap.size, 1, none⟩ = some (.int .u64 (num : Int)) /\ w'.cell? ⟨w1.heap.size, 2, none⟩ = some (.int .u64 (fl : Int)) /\ w'.cell? ⟨w1.heap.size, 3, none⟩ = some (.int .u64 (crc : Int))) (go_keep)
  (first
   | (go_at_call 56; refine (KB.out _).mono ?_; rintro x w3 ⟨rfl, hb3⟩; have hx : Ext V w3 := (by (with_reducible refine Mod.trans ?_ hb3); (repeat (first | with_reducible assumption | with_reducible exact Mod.refl _ _ | with_reducible refine Mod.drew ?_ | with_reducible refine Mod.alloc ?_ _))); have z := HS.out w3 hx)
   | (go_at_call 53; refine (KC.out _).mono ?_; rintro x w4 ⟨rfl, hb4⟩; have hx : Ext V w4 := (by (with_reducible refine Mod.trans ?_ hb4); (repeat (first | with_reducible assumption | with_reducible exact Mod.refl _ _ | with_reducible refine Mod.drew ?_ | with_reducible refine Mod.alloc ?_ _))); have z := HS.out w4 hx))
 all_goals obtain ⟨q0, q1, q2, q3, q4, q5⟩ := HS.out w4 hx
 all_goals go_wp2_with fail
 all_goals refine (KE.out _).mono ?_
 all_goals rintro e w5 ⟨rfl, hb5⟩
 all_goals go_wp2_with fail
 all_goals go_ret
 all_goals exact Ret.mk rfl (HE2.out.trans (hx.trans (by first | exact hb5 | exact (Mod.refl _ _).drew.trans hb5)))
end Go.Proofs.YthecmnbkjchjmaaGreat
