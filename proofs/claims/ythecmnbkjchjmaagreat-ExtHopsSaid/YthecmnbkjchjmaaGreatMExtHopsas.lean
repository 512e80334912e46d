/-
 The reference's blocks: bytes, header.
-/
import Derived.Test.YthecmnbkjchjmaaGreatMExtHopsar
import Derived.Deep.AppendLies
import Derived.Deep.RegionLaw
namespace Go.Proofs.YthecmnbkjchjmaaGreat
open Go.RowKit
set_option linter.unusedVariables false
set_option linter.unusedSimpArgs false
set_option maxRecDepth 20000 in
theorem R4B_1 (l : List UInt8) (hl : Hid (l.length < 1000000)) (w : World) : Calls Tryz.prog 53 #[.int .i64 1, str l] w (Ret (str (be (Crc.x25 l) 2)) w) := by
 have hd : Crc.x25 l < 65536 := by unfold Crc.x25; omega
 have K := hid (fun W => Sum16 l hl W)
 generalize Crc.x25 l = d at *
 have hcv : ∀ W : World, (convert 100 9 (.slice (some ⟨W.heap.size, 0, none⟩) 2 2)).run Tryz.prog (W.alloc (.cells #[.int .u8 ((d : Int) / 256), .int .u8 ((d : Int) % 256)] 5)) = .ok (str (be d 2)) (W.alloc (.cells #[.int .u8 ((d : Int) / 256), .int .u8 ((d : Int) % 256)] 5)) := fun W => by
  have := conv_new (be d 2) 2 W
  rw [be_length, be2 hd] at this
  simpa [b8_cast (show d / 256 < 256 by omega), b8_cast (show d % 256 < 256 by omega), be2 hd] using this
 go_enter Tryz.func53, Tryz.ntmps53
 go_wp2_with fail
 refine (K.out _).mono ?_
 rintro e w1 ⟨rfl, hb1⟩
 go_wp2_with fail
 go_ret
 exact Ret.mk rfl (hb1.alloc _)
set_option maxRecDepth 20000 in
theorem R4B_2 (l : List UInt8) (hl : Hid (l.length < 1000000)) (w : World) : Calls Tryz.prog 53 #[.int .i64 2, str l] w (Ret (str (be (Crc.cast l) 4)) w) := by
 have hd : Crc.cast l < 4294967296 := by unfold Crc.cast; omega
 have K := hid (fun W => Sum32 l hl W)
 generalize Crc.cast l = d at *
 have hcv : ∀ W : World, (convert 100 9 (.slice (some ⟨W.heap.size, 0, none⟩) 4 4)).run Tryz.prog (W.alloc (.cells #[.int .u8 ((d : Int) / 16777216), .int .u8 ((d : Int) / 65536 % 256), .int .u8 ((d : Int) / 256 % 256), .int .u8 ((d : Int) % 256)] 5)) = .ok (str (be d 4)) (W.alloc (.cells #[.int .u8 ((d : Int) / 16777216), .int .u8 ((d : Int) / 65536 % 256), .int .u8 ((d : Int) / 256 % 256), .int .u8 ((d : Int) % 256)] 5)) := fun W => by
  have := conv_new (be d 4) 4 W
  rw [be_length, be4 hd] at this
  simpa [b8_cast (show d / 16777216 < 256 by omega), b8_cast (show d / 65536 % 256 < 256 by omega), b8_cast (show d / 256 % 256 < 256 by omega), b8_cast (show d % 256 < 256 by omega), be4 hd] using this
 go_enter Tryz.func53, Tryz.ntmps53
 go_wp2_with fail
 refine (K.out _).mono ?_
 rintro e w1 ⟨rfl, hb1⟩
 go_wp2_with fail
 go_ret
 exact Ret.mk rfl (hb1.alloc _)
theorem R4B_0 (l : List UInt8) (w : World) : Calls Tryz.prog 53 #[.int .i64 0, str l] w (Ret (str []) w) := by
 go_enter Tryz.func53, Tryz.ntmps53
 go_wp2_with fail
 go_ret
 exact Ret.mk rfl (Mod.refl _ _)
theorem R4B_any (k : Nat) (h2 : k <= 2) (l : List UInt8) (hl : Hid (l.length < 1000000)) (w : World) : Calls Tryz.prog 53 #[.int .i64 (k : Int), str l] w (Ret (str (if k = 0 then [] else Crc.sumL k l)) w) := by
 have : k = 0 \/ k = 1 \/ k = 2 := by omega
 rcases this with rfl | rfl | rfl
 . exact R4B_0 l w
 . exact R4B_1 l hl w
 . exact R4B_2 l hl w
abbrev numsV (ty num fl crc : Nat) : Value := .agg #[.int .u64 (ty : Int), .int .u64 (num : Int), .int .u64 (fl : Int), .int .u64 (crc : Int)]
set_option maxRecDepth 20000 in
theorem nums_any (ty num fl crc : Nat) (data : List UInt8) (h1 : ty <= 65535) (h2 : num <= 65535) (h3 : crc <= 2) (w : World) : Calls Tryz.prog 55 #[BV.v ⟨ty, num, fl, crc, data⟩] w (Ret (numsV ty num fl crc) w) := by
 have t1 : IntKind.u64.wrap (ty : Int) = (ty : Int) := IntWalk.u64_in _ (by omega)
 have t2 : IntKind.u64.wrap (num : Int) = (num : Int) := IntWalk.u64_in _ (by omega)
 have t3 : IntKind.u64.wrap (crc : Int) = (crc : Int) := IntWalk.u64_in _ (by omega)
 go_enter Tryz.func55, Tryz.ntmps55
 go_wp2_with fail
 refine bodyPost_ret (v := numsV ty num fl crc) (by simp [results, Tryz.results55, go_sem]) rfl (Ret.mk rfl (((Mod.refl _ _).alloc _).alloc _))
def num4 (ty num fl crc i : Nat) : Nat := if i = 0 then ty else if i = 1 then num else if i = 2 then fl else crc
def cat4 (ty num fl crc : Nat) (j : Nat) : List UInt8 := T.cat (fun i => headL 0 (num4 ty num fl crc i)) j
theorem cat4_le (ty num fl crc : Nat) : ∀ j, (cat4 ty num fl crc j).length <= 9 * j
 | 0 => by simp [cat4, T.cat]
 | j + 1 => by
  have h := cat4_le ty num fl crc j
  have := headL_le 0 (num4 ty num fl crc j)
  unfold cat4 at h ⊢
  rw [T.cat, List.length_append]
  omega
theorem rHead_n (m n : Nat) (hm : m <= 7) (hn : n < 18446744073709551616) (w : World) : Calls Tryz.prog 28 #[.int .i64 (m : Int), .int .u64 (n : Int)] w (Ret (str (headL m n)) w) := by
 simpa using rhead_in (m : Int) (n : Int) (by omega) (by omega) (by omega) (by omega) w
set_option maxRecDepth 20000 in
set_option maxHeartbeats 800000 in
theorem rbytes_0 (ty num fl : Nat) (data sum : List UInt8) (h1 : Hid (ty <= 65535)) (h2 : Hid (num <= 65535)) (h3 : Hid (fl <= 255)) (hd : Hid (data.length <= 4000)) (hs : Hid (sum.length <= 4000)) (w : World) : Calls Tryz.prog 56 #[numsV ty num fl 0, str data, str sum] w (Ret (str (blkB ty num fl 0 data sum)) w) := by
 have HC : Hid (∀ W, Ext (w.alloc (.cells #[.int .u64 (ty : Int), .int .u64 (num : Int), .int .u64 (fl : Int), .int .u64 0] 101)) W -> ∀ j, j < 4 -> W.cell? ⟨w.heap.size, j, none⟩ = some (.int .u64 ((num4 ty num fl 0 j : Nat) : Int))) := fun W hW j hj => by
  have hB := (Blk.new w 101 #[.int .u64 (ty : Int), .int .u64 (num : Int), .int .u64 (fl : Int), .int .u64 0]).ext hW
  have h4 : j = 0 \/ j = 1 \/ j = 2 \/ j = 3 := by omega
  rcases h4 with rfl | rfl | rfl | rfl
  . exact hB.cell 0
  . exact hB.cell 1
  . exact hB.cell 2
  . exact hB.cell 3
 have HN : Hid (∀ j, num4 ty num fl 0 j < 18446744073709551616) := fun j => by
  have := h1.out; have := h2.out; have := h3.out
  unfold num4
  split
  . omega
  .
   split
   . omega
   . split <;> omega
 have K5 := hid (fun W => rBytes_any data (by have := hd.out; unfold Hid; omega) W)
 have K6 := hid (fun W => rBytes_any sum (by have := hs.out; unfold Hid; omega) W)
 have KH := hid (fun W => rHead_n 4 5 (by omega) (by omega) W)
 have HE := hid ((Mod.refl [] w).alloc (.cells #[.int .u64 (ty : Int), .int .u64 (num : Int), .int .u64 (fl : Int), .int .u64 0] 101))
 have hblk : blkB ty num fl 0 data sum = (headL 4 5 ++ cat4 ty num fl 0 4) ++ (headL 2 data.length ++ data) := by
  simp [blkB, cat4, T.cat, num4]
 have HBK := hid hblk; clear hblk
 go_enter Tryz.func56, Tryz.ntmps56
 go_wp2_with fail
 generalize w.alloc (.cells #[.int .u64 (ty : Int), .int .u64 (num : Int), .int .u64 (fl : Int), .int .u64 0] 101) = V at *
 refine (KH.out _).mono ?_
 rintro e w1 ⟨rfl, hb1⟩
 have HB1 := hid hb1
 clear hb1
 go_wp2_with fail
 have hh4 := headL_le 4 5
 generalize headL 4 5 = P at *
 go_loopw [8, 9] (fun s i wr => ∃ j : Nat, j <= 4 /\ i = .int .i64 j /\ s = str (P ++ cat4 ty num fl 0 j) /\ Ext V wr) (fun _ i _ => 4 - (intOf i).toNat)
 case atStart => exact ⟨0, Nat.zero_le _, rfl, by simp [cat4, T.cat], HB1.out⟩
 case round =>
  obtain ⟨j, hj, rfl, rfl, hw⟩ := hrel
  have hcl := cat4_le ty num fl 0 j
  by_cases hlt : j < 4
  .
   have hcell := HC.out wr hw j hlt
   have HS : Hid (cat4 ty num fl 0 (j + 1) = cat4 ty num fl 0 j ++ headL 0 (num4 ty num fl 0 j)) := rfl
   have K := hid (fun W => rHead_n 0 (num4 ty num fl 0 j) (by omega) (HN.out j) W)
   have hl2 := headL_le 0 (num4 ty num fl 0 j)
   generalize num4 ty num fl 0 j = x at *
   generalize headL 0 x = y at *
   generalize cat4 ty num fl 0 j = z at *
   have HW := hid hw
   clear hw
   go_wp2_with fail
   refine (K.out _).mono ?_
   rintro e w2 ⟨rfl, hb2⟩
   have hlen : (P ++ z).length + y.length <= 100 := by rw [List.length_append]; omega
   generalize hq : P ++ z = q at *
   have HQ := hid hq; clear hq
   have hlx : ¬ 9223372036854775807 < q.length + y.length := by omega
   go_wp2_with fail
   go_roundw
   case rel => exact ⟨j + 1, by omega, by go_num, by rw [HS.out, <- List.append_assoc, HQ.out]; exact str_app _ _, HW.out.trans hb2⟩
   case measure => simp [intOf]; omega
  .
   obtain rfl : j = 4 := by omega
   have HW := hid hw
   clear hw
   have hp2 : (P ++ cat4 ty num fl 0 4).length <= 100 := by rw [List.length_append]; omega
   generalize P ++ cat4 ty num fl 0 4 = q at *
   go_wp2_with fail
   refine (K5.out _).mono ?_
   rintro e w2 ⟨rfl, hb2⟩
   have HB2 := hid (HW.out.trans hb2)
   clear hb2
   have hd2 : (headL 2 data.length ++ data).length <= 5000 := by have := headL_le 2 data.length; have := hd.out; rw [List.length_append]; omega
   have hs2 : (headL 2 sum.length ++ sum).length <= 5000 := by have := headL_le 2 sum.length; have := hs.out; rw [List.length_append]; omega
   generalize headL 2 data.length ++ data = dd at *
   generalize headL 2 sum.length ++ sum = ss at *
   have hlx : ¬ 9223372036854775807 < q.length + dd.length := by omega
   go_wp2_with fail
   go_ret
   refine Ret.mk ?_ (HE.out.trans HB2.out)
   rw [HBK.out]
   exact str_app _ _
set_option maxRecDepth 20000 in
set_option maxHeartbeats 800000 in
theorem rbytes_1 (ty num fl : Nat) (data sum : List UInt8) (h1 : Hid (ty <= 65535)) (h2 : Hid (num <= 65535)) (h3 : Hid (fl <= 255)) (hd : Hid (data.length <= 4000)) (hs : Hid (sum.length <= 4000)) (w : World) : Calls Tryz.prog 56 #[numsV ty num fl 1, str data, str sum] w (Ret (str (blkB ty num fl 1 data sum)) w) := by
 have HC : Hid (∀ W, Ext (w.alloc (.cells #[.int .u64 (ty : Int), .int .u64 (num : Int), .int .u64 (fl : Int), .int .u64 1] 101)) W -> ∀ j, j < 4 -> W.cell? ⟨w.heap.size, j, none⟩ = some (.int .u64 ((num4 ty num fl 1 j : Nat) : Int))) := fun W hW j hj => by
  have hB := (Blk.new w 101 #[.int .u64 (ty : Int), .int .u64 (num : Int), .int .u64 (fl : Int), .int .u64 1]).ext hW
  have h4 : j = 0 \/ j = 1 \/ j = 2 \/ j = 3 := by omega
  rcases h4 with rfl | rfl | rfl | rfl
  . exact hB.cell 0
  . exact hB.cell 1
  . exact hB.cell 2
  . exact hB.cell 3
 have HN : Hid (∀ j, num4 ty num fl 1 j < 18446744073709551616) := fun j => by
  have := h1.out; have := h2.out; have := h3.out
  unfold num4
  split
  . omega
  .
   split
   . omega
   . split <;> omega
 have K5 := hid (fun W => rBytes_any data (by have := hd.out; unfold Hid; omega) W)
 have K6 := hid (fun W => rBytes_any sum (by have := hs.out; unfold Hid; omega) W)
 have KH := hid (fun W => rHead_n 4 6 (by omega) (by omega) W)
 have HE := hid ((Mod.refl [] w).alloc (.cells #[.int .u64 (ty : Int), .int .u64 (num : Int), .int .u64 (fl : Int), .int .u64 1] 101))
 have hblk : blkB ty num fl 1 data sum = (headL 4 6 ++ cat4 ty num fl 1 4) ++ (headL 2 data.length ++ data) ++ (headL 2 sum.length ++ sum) := by
  simp [blkB, cat4, T.cat, num4]
 have HBK := hid hblk; clear hblk
 go_enter Tryz.func56, Tryz.ntmps56
 go_wp2_with fail
 generalize w.alloc (.cells #[.int .u64 (ty : Int), .int .u64 (num : Int), .int .u64 (fl : Int), .int .u64 1] 101) = V at *
 refine (KH.out _).mono ?_
 rintro e w1 ⟨rfl, hb1⟩
 have HB1 := hid hb1
 clear hb1
 go_wp2_with fail
 have hh4 := headL_le 4 6
 generalize headL 4 6 = P at *
 go_loopw [8, 9] (fun s i wr => ∃ j : Nat, j <= 4 /\ i = .int .i64 j /\ s = str (P ++ cat4 ty num fl 1 j) /\ Ext V wr) (fun _ i _ => 4 - (intOf i).toNat)
 case atStart => exact ⟨0, Nat.zero_le _, rfl, by simp [cat4, T.cat], HB1.out⟩
 case round =>
  obtain ⟨j, hj, rfl, rfl, hw⟩ := hrel
  have hcl := cat4_le ty num fl 1 j
  by_cases hlt : j < 4
  .
   have hcell := HC.out wr hw j hlt
   have HS : Hid (cat4 ty num fl 1 (j + 1) = cat4 ty num fl 1 j ++ headL 0 (num4 ty num fl 1 j)) := rfl
   have K := hid (fun W => rHead_n 0 (num4 ty num fl 1 j) (by omega) (HN.out j) W)
   have hl2 := headL_le 0 (num4 ty num fl 1 j)
   generalize num4 ty num fl 1 j = x at *
   generalize headL 0 x = y at *
   generalize cat4 ty num fl 1 j = z at *
   have HW := hid hw
   clear hw
   go_wp2_with fail
   refine (K.out _).mono ?_
   rintro e w2 ⟨rfl, hb2⟩
   have hlen : (P ++ z).length + y.length <= 100 := by rw [List.length_append]; omega
   generalize hq : P ++ z = q at *
   have HQ := hid hq; clear hq
   have hlx : ¬ 9223372036854775807 < q.length + y.length := by omega
   go_wp2_with fail
   go_roundw
   case rel => exact ⟨j + 1, by omega, by go_num, by rw [HS.out, <- List.append_assoc, HQ.out]; exact str_app _ _, HW.out.trans hb2⟩
   case measure => simp [intOf]; omega
  .
   obtain rfl : j = 4 := by omega
   have HW := hid hw
   clear hw
   have hp2 : (P ++ cat4 ty num fl 1 4).length <= 100 := by rw [List.length_append]; omega
   generalize P ++ cat4 ty num fl 1 4 = q at *
   go_wp2_with fail
   refine (K5.out _).mono ?_
   rintro e w2 ⟨rfl, hb2⟩
   have HB2 := hid (HW.out.trans hb2)
   clear hb2
   have hd2 : (headL 2 data.length ++ data).length <= 5000 := by have := headL_le 2 data.length; have := hd.out; rw [List.length_append]; omega
   have hs2 : (headL 2 sum.length ++ sum).length <= 5000 := by have := headL_le 2 sum.length; have := hs.out; rw [List.length_append]; omega
   generalize headL 2 data.length ++ data = dd at *
   generalize headL 2 sum.length ++ sum = ss at *
   have hlx : ¬ 9223372036854775807 < q.length + dd.length := by omega
   go_wp2_with fail
   refine (K6.out _).mono ?_
   rintro e w3 ⟨rfl, hb3⟩
   have HB3 := hid (HB2.out.trans hb3)
   clear hb3
   have hq3 : (q ++ dd).length <= 10000 := by rw [List.length_append]; omega
   rw [str_app q dd]
   generalize hqd : q ++ dd = r at *
   have HQD := hid hqd; clear hqd
   have hly : ¬ 9223372036854775807 < r.length + ss.length := by omega
   go_wp2_with fail
   go_ret
   refine Ret.mk ?_ (HE.out.trans HB3.out)
   rw [HBK.out]
   exact str_app _ _
set_option maxRecDepth 20000 in
set_option maxHeartbeats 800000 in
theorem rbytes_2 (ty num fl : Nat) (data sum : List UInt8) (h1 : Hid (ty <= 65535)) (h2 : Hid (num <= 65535)) (h3 : Hid (fl <= 255)) (hd : Hid (data.length <= 4000)) (hs : Hid (sum.length <= 4000)) (w : World) : Calls Tryz.prog 56 #[numsV ty num fl 2, str data, str sum] w (Ret (str (blkB ty num fl 2 data sum)) w) := by
 have HC : Hid (∀ W, Ext (w.alloc (.cells #[.int .u64 (ty : Int), .int .u64 (num : Int), .int .u64 (fl : Int), .int .u64 2] 101)) W -> ∀ j, j < 4 -> W.cell? ⟨w.heap.size, j, none⟩ = some (.int .u64 ((num4 ty num fl 2 j : Nat) : Int))) := fun W hW j hj => by
  have hB := (Blk.new w 101 #[.int .u64 (ty : Int), .int .u64 (num : Int), .int .u64 (fl : Int), .int .u64 2]).ext hW
  have h4 : j = 0 \/ j = 1 \/ j = 2 \/ j = 3 := by omega
  rcases h4 with rfl | rfl | rfl | rfl
  . exact hB.cell 0
  . exact hB.cell 1
  . exact hB.cell 2
  . exact hB.cell 3
 have HN : Hid (∀ j, num4 ty num fl 2 j < 18446744073709551616) := fun j => by
  have := h1.out; have := h2.out; have := h3.out
  unfold num4
  split
  . omega
  .
   split
   . omega
   . split <;> omega
 have K5 := hid (fun W => rBytes_any data (by have := hd.out; unfold Hid; omega) W)
 have K6 := hid (fun W => rBytes_any sum (by have := hs.out; unfold Hid; omega) W)
 have KH := hid (fun W => rHead_n 4 6 (by omega) (by omega) W)
 have HE := hid ((Mod.refl [] w).alloc (.cells #[.int .u64 (ty : Int), .int .u64 (num : Int), .int .u64 (fl : Int), .int .u64 2] 101))
 have hblk : blkB ty num fl 2 data sum = (headL 4 6 ++ cat4 ty num fl 2 4) ++ (headL 2 data.length ++ data) ++ (headL 2 sum.length ++ sum) := by
  simp [blkB, cat4, T.cat, num4]
 have HBK := hid hblk; clear hblk
 go_enter Tryz.func56, Tryz.ntmps56
 go_wp2_with fail
 generalize w.alloc (.cells #[.int .u64 (ty : Int), .int .u64 (num : Int), .int .u64 (fl : Int), .int .u64 2] 101) = V at *
 refine (KH.out _).mono ?_
 rintro e w1 ⟨rfl, hb1⟩
 have HB1 := hid hb1
 clear hb1
 go_wp2_with fail
 have hh4 := headL_le 4 6
 generalize headL 4 6 = P at *
 go_loopw [8, 9] (fun s i wr => ∃ j : Nat, j <= 4 /\ i = .int .i64 j /\ s = str (P ++ cat4 ty num fl 2 j) /\ Ext V wr) (fun _ i _ => 4 - (intOf i).toNat)
 case atStart => exact ⟨0, Nat.zero_le _, rfl, by simp [cat4, T.cat], HB1.out⟩
 case round =>
  obtain ⟨j, hj, rfl, rfl, hw⟩ := hrel
  have hcl := cat4_le ty num fl 2 j
  by_cases hlt : j < 4
  .
   have hcell := HC.out wr hw j hlt
   have HS : Hid (cat4 ty num fl 2 (j + 1) = cat4 ty num fl 2 j ++ headL 0 (num4 ty num fl 2 j)) := rfl
   have K := hid (fun W => rHead_n 0 (num4 ty num fl 2 j) (by omega) (HN.out j) W)
   have hl2 := headL_le 0 (num4 ty num fl 2 j)
   generalize num4 ty num fl 2 j = x at *
   generalize headL 0 x = y at *
   generalize cat4 ty num fl 2 j = z at *
   have HW := hid hw
   clear hw
   go_wp2_with fail
   refine (K.out _).mono ?_
   rintro e w2 ⟨rfl, hb2⟩
   have hlen : (P ++ z).length + y.length <= 100 := by rw [List.length_append]; omega
   generalize hq : P ++ z = q at *
   have HQ := hid hq; clear hq
   have hlx : ¬ 9223372036854775807 < q.length + y.length := by omega
   go_wp2_with fail
   go_roundw
   case rel => exact ⟨j + 1, by omega, by go_num, by rw [HS.out, <- List.append_assoc, HQ.out]; exact str_app _ _, HW.out.trans hb2⟩
   case measure => simp [intOf]; omega
  .
   obtain rfl : j = 4 := by omega
   have HW := hid hw
   clear hw
   have hp2 : (P ++ cat4 ty num fl 2 4).length <= 100 := by rw [List.length_append]; omega
   generalize P ++ cat4 ty num fl 2 4 = q at *
   go_wp2_with fail
   refine (K5.out _).mono ?_
   rintro e w2 ⟨rfl, hb2⟩
   have HB2 := hid (HW.out.trans hb2)
   clear hb2
   have hd2 : (headL 2 data.length ++ data).length <= 5000 := by have := headL_le 2 data.length; have := hd.out; rw [List.length_append]; omega
   have hs2 : (headL 2 sum.length ++ sum).length <= 5000 := by have := headL_le 2 sum.length; have := hs.out; rw [List.length_append]; omega
   generalize headL 2 data.length ++ data = dd at *
   generalize headL 2 sum.length ++ sum = ss at *
   have hlx : ¬ 9223372036854775807 < q.length + dd.length := by omega
   go_wp2_with fail
   refine (K6.out _).mono ?_
   rintro e w3 ⟨rfl, hb3⟩
   have HB3 := hid (HB2.out.trans hb3)
   clear hb3
   have hq3 : (q ++ dd).length <= 10000 := by rw [List.length_append]; omega
   rw [str_app q dd]
   generalize hqd : q ++ dd = r at *
   have HQD := hid hqd; clear hqd
   have hly : ¬ 9223372036854775807 < r.length + ss.length := by omega
   go_wp2_with fail
   go_ret
   refine Ret.mk ?_ (HE.out.trans HB3.out)
   rw [HBK.out]
   exact str_app _ _
theorem rbytes_any (ty num fl crc : Nat) (hc : crc <= 2) (data sum : List UInt8) (h1 : Hid (ty <= 65535)) (h2 : Hid (num <= 65535)) (h3 : Hid (fl <= 255)) (hd : Hid (data.length <= 4000)) (hs : Hid (sum.length <= 4000)) (w : World) : Calls Tryz.prog 56 #[numsV ty num fl crc, str data, str sum] w (Ret (str (blkB ty num fl crc data sum)) w) := by
 have : crc = 0 \/ crc = 1 \/ crc = 2 := by omega
 rcases this with rfl | rfl | rfl
 . exact rbytes_0 ty num fl data sum h1 h2 h3 hd hs w
 . exact rbytes_1 ty num fl data sum h1 h2 h3 hd hs w
 . exact rbytes_2 ty num fl data sum h1 h2 h3 hd hs w
theorem infoByte8 : (Tryz.prog.info? 5).map (fun i => (i.zero, i.size, i.bytes)) = some (some (.int .u8 0), 1, 1) := by kernel_rfl
theorem conv_made (k c : Nat) (W : World) : (convert 100 9 (.slice (some ⟨W.heap.size, 0, none⟩) k c)).run Tryz.prog (W.alloc (.cells (madeCells #[.int .u8 0] k) 5)) = .ok (str (List.replicate k 0)) (W.alloc (.cells (madeCells #[.int .u8 0] k) 5)) := by
 have h := run_convert_bytes_back (P := Tryz.prog) (W.alloc (.cells (madeCells #[.int .u8 0] k) 5)) 100 9 5 ⟨W.heap.size, 0, none⟩ c (List.replicate k 0) vqB vqE vqD (fun j hj => by
  rw [addr_add, Nat.zero_add, (Blk.new W 5 _).cell j]
  rw [List.length_replicate] at hj
  have := toList_madeCells_one (.int .u8 0) k
  rw [<- Array.getElem?_toList, this, List.getElem?_replicate, if_pos hj]
  simp)
 rw [List.length_replicate] at h
 exact h
set_option maxRecDepth 20000 in
set_option maxHeartbeats 800000 in
theorem rBuild_ok (ty num fl crc : Nat) (data : List UInt8) (h1 : Hid (ty <= 65535)) (h2 : Hid (num <= 65535)) (h3 : Hid (fl <= 255)) (h4 : Hid (crc <= 2)) (h5 : Hid (data.length <= 4000)) (w : World) : Calls Tryz.prog 27 #[BV.v ⟨ty, num, fl, crc, data⟩] w (Ret (str (blkB ty num fl crc data (sumB ty num fl crc data))) w) := by
 have HB := hid (Blk.new w 38 (BV.c ⟨ty, num, fl, crc, data⟩))
 have HE0 := hid ((Mod.refl [] w).alloc (.cells (BV.c ⟨ty, num, fl, crc, data⟩) 38))
 go_enter Tryz.func27, Tryz.ntmps27
 go_wp2_with fail
 refine (nums_any ty num fl crc data h1.out h2.out h4.out _).mono ?_
 rintro e w1 ⟨rfl, hb1⟩
 have HE1 := hid (HE0.out.trans hb1)
 have HB1 := hid (HB.out.ext hb1)
 clear hb1
 have hmk : ∀ W : World, (Instr.makeSlice 100 (.int .i64 (2 * (crc : Int))) (.int .i64 (2 * (crc : Int)))).run Tryz.prog W = .ok (.slice (some ⟨W.heap.size, 0, none⟩) (2 * crc) (2 * crc)) (W.alloc (.cells (madeCells #[.int .u8 0] (2 * crc)) 5)) := by
  intro W
  have := run_make_row' (P := Tryz.prog) 100 5 (.int .u8 0) 1 vqB infoByte8 rfl .i64 .i64 (2 * crc) (by have := h4.out; omega) (by have := h4.out; omega) W
  simpa using this
 have hcv := conv_made (2 * crc) (2 * crc)
 have twr : IntKind.i64.wrap (2 * (crc : Int)) = 2 * (crc : Int) := IntWalk.i64_in _ (by have := h4.out; omega)
 have KB := hid (fun W => rbytes_any ty num fl crc h4.out data (List.replicate (2 * crc) 0) h1 h2 h3 h5 (by have := h4.out; unfold Hid; simp; omega) W)
 have KC := hid (fun W => R4B_any crc h4.out (blkB ty num fl crc data (List.replicate (2 * crc) 0)) (blkB_length h5.out (by have := h4.out; simp; omega)) W)
 have KE := hid (fun W => rbytes_any ty num fl crc h4.out data (sumB ty num fl crc data) h1 h2 h3 h5 (by have := h4.out; unfold Hid; rw [sumB_length h4.out]; omega) W)
 have hsb : (if crc = 0 then [] else Crc.sumL crc (blkB ty num fl crc data (List.replicate (2 * crc) 0))) = sumB ty num fl crc data := rfl
 rw [hsb] at KC
 clear hsb
 generalize blkB ty num fl crc data (List.replicate (2 * crc) 0) = X at *
 generalize sumB ty num fl crc data = Y at *
 generalize blkB ty num fl crc data Y = Z at *
 go_upto_region 2 with fail
 have HL1 := hid (Blk.new w1 101 #[.int .u64 (ty : Int), .int .u64 (num : Int), .int .u64 (fl : Int), .int .u64 (crc : Int)])
 have HB2 := hid (HB1.out.alloc (.cells #[.int .u64 (ty : Int), .int .u64 (num : Int), .int .u64 (fl : Int), .int .u64 (crc : Int)] 101))
 have HE2 := hid (HE1.out.alloc (.cells #[.int .u64 (ty : Int), .int .u64 (num : Int), .int .u64 (fl : Int), .int .u64 (crc : Int)] 101))
 generalize w1.alloc (.cells #[.int .u64 (ty : Int), .int .u64 (num : Int), .int .u64 (fl : Int), .int .u64 (crc : Int)] 101) = V at *
 have HS : Hid (∀ w', Ext V w' -> w'.cell? ⟨w.heap.size, 3, none⟩ = some (.int .i64 (crc : Int)) /\ w'.cell? ⟨w.heap.size, 4, none⟩ = some (str data) /\ w'.cell? ⟨w1.heap.size, 0, none⟩ = some (.int .u64 (ty : Int)) /\ w'.cell? ⟨w1.heap.size, 1, none⟩ = some (.int .u64 (num : Int)) /\ w'.cell? ⟨w1.heap.size, 2, none⟩ = some (.int .u64 (fl : Int)) /\ w'.cell? ⟨w1.heap.size, 3, none⟩ = some (.int .u64 (crc : Int))) := fun W hW => by
  have b1 := HB2.out.ext hW
  have b2 := HL1.out.ext hW
  exact ⟨b1.cell 3, b1.cell 4, b2.cell 0, b2.cell 1, b2.cell 2, b2.cell 3⟩
 obtain ⟨p0, p1, p2, p3, p4, p5⟩ := HS.out V (Mod.refl _ _)
 have hcv2 : (convert 100 9 (.slice (some ⟨V.heap.size, 0, none⟩) (2 * crc) (2 * crc))).run Tryz.prog (V.alloc (.cells (madeCells #[.int .u8 0] (2 * crc)) 5)).drew = .ok (str (List.replicate (2 * crc) 0)) (V.alloc (.cells (madeCells #[.int .u8 0] (2 * crc)) 5)).drew := hcv V.drew
 go_region_held (fun w' => w'.cell? ⟨w.heap.size, 3, none⟩ = some (.int .i64 (crc : Int)) /\ w'.cell? ⟨w.heap.size, 4, none⟩ = some (str data) /\ w'.cell? ⟨w1.heap.size, 0, none⟩ = some (.int .u64 (ty : Int)) /\ w'.cell? ⟨w1.heap.size, 1, none⟩ = some (.int .u64 (num : Int)) /\ w'.cell? ⟨w1.heap.size, 2, none⟩ = some (.int .u64 (fl : Int)) /\ w'.cell? ⟨w1.heap.size, 3, none⟩ = some (.int .u64 (crc : Int))) (go_keep)
  (first
   | (go_at_call 56; refine (KB.out _).mono ?_; rintro x w3 ⟨rfl, hb3⟩; have hx : Ext V w3 := (by (with_reducible refine Mod.trans ?_ hb3); (repeat (first | with_reducible assumption | with_reducible exact Mod.refl _ _ | with_reducible refine Mod.drew ?_ | with_reducible refine Mod.alloc ?_ _))); have z := HS.out w3 hx)
   | (go_at_call 53; refine (KC.out _).mono ?_; rintro x w4 ⟨rfl, hb4⟩; have hx : Ext V w4 := (by (with_reducible refine Mod.trans ?_ hb4); (repeat (first | with_reducible assumption | with_reducible exact Mod.refl _ _ | with_reducible refine Mod.drew ?_ | with_reducible refine Mod.alloc ?_ _))); have z := HS.out w4 hx))
 all_goals obtain ⟨q0, q1, q2, q3, q4, q5⟩ := HS.out w4 hx
 all_goals go_wp2_with fail
 all_goals refine (KE.out _).mono ?_
 all_goals rintro e w5 ⟨rfl, hb5⟩
 all_goals go_wp2_with fail
 all_goals go_ret
 all_goals exact Ret.mk rfl (HE2.out.trans (hx.trans (by first | exact hb5 | exact (Mod.refl _ _).drew.trans hb5)))
def PrevPost (l : List UInt8) (w : World) (e : Ending) (w' : World) : Prop := Ret (.tuple #[((prevO l).getD zeroE).v, .int .i64 (if (prevO l).isSome then 0 else 2)]) w e w' /\ PTree l
theorem PrevPost.none {l : List UInt8} {w w' : World} {e : Ending} (hp : prevO l = none) (h : Ret (.tuple #[zeroE.v, .int .i64 2]) w e w') (hT : PTree l) : PrevPost l w e w' := by unfold PrevPost; rw [hp]; exact ⟨h, hT⟩
theorem PrevPost.some {l : List UInt8} {w w' : World} {e : Ending} {E : EV} (hp : prevO l = some E) (h : Ret (.tuple #[E.v, .int .i64 0]) w e w') (hT : PTree l) : PrevPost l w e w' := by unfold PrevPost; rw [hp]; exact ⟨h, hT⟩
set_option maxRecDepth 20000 in
theorem rp1_any (t : T) (hok : t.ok) (E : EV) (n : Int) (hE : ∀ A c W, IsL W (fun _ => True) t A -> Calls Tryz.prog 117 #[itemV t A c] W (Ret (.tuple #[E.v, .int .i64 n]) W)) (A : Option Addr) (c : Nat) (w : World) (h : IsL w (fun _ => True) t A) : Calls Tryz.prog 116 #[itemV t A c] w (Ret (.tuple #[E.v, .bool (n == 0)]) w) := by
 have K : Hid (∀ W, IsL W (fun _ => True) t A -> Calls Tryz.prog 117 #[itemV t A c] W (Ret (.tuple #[E.v, .int .i64 n]) W)) := fun W hW => hE A c W hW
 have H := hid h
 clear h hok hE
 have HE := hid (((Mod.refl [] w).alloc (.cells (itemC t A c) 86)).alloc (.cells #[.int .i64 0, .string ⟨#[]⟩, .int .u64 0, .int .u64 0] 24))
 have HQ : Hid (Blk ((w.alloc (.cells (itemC t A c) 86)).alloc (.cells #[.int .i64 0, .string ⟨#[]⟩, .int .u64 0, .int .u64 0] 24)) (w.heap.size + 1) 24 zeroE.c) := Blk.new' (w.alloc (.cells (itemC t A c) 86)) 24 #[.int .i64 0, .string ⟨#[]⟩, .int .u64 0, .int .u64 0] (N := w.heap.size + 1) (by simp)
 go_enter Tryz.func116, Tryz.ntmps116
 go_wp2_with fail
 refine (K.out _ (H.out.ext HE.out)).mono ?_
 rintro e1 w1 ⟨rfl, hb1⟩
 have HE1 := hid ((HE.out.trans hb1).alloc (.cells E.c 24))
 have HQ1 := hid ((HQ.out.ext hb1).alloc (.cells E.c 24))
 clear hb1
 obtain ⟨c0, c1, c2, c3⟩ := cells4 HQ1.out
 have f0 := Blk.frozen HQ1.out 0
 have f1 := Blk.frozen HQ1.out 1
 have f2 := Blk.frozen HQ1.out 2
 have f3 := Blk.frozen HQ1.out 3
 go_wp2_with fail
 obtain ⟨d0, d1, d2, d3⟩ := cells4 (set4_blk (e := E) HQ1.out)
 clear c0 c1 c2 c3 f0 f1 f2 f3
 show bodyPost _ _ _ _ _ (set4 (w1.alloc (.cells E.c 24)) (w.heap.size + 1) E)
 refine bodyPost_ret (v := .tuple #[E.v, .bool (n == 0)]) (by simp [results, Tryz.results116, go_sem, d0, d1, d2, d3]) rfl (Ret.mk rfl (set4_mod HE1.out (by omega)))
set_option maxRecDepth 20000 in
theorem readEID_any (l : List UInt8) (hl : l.length <= 1073741824) (w : World) : Calls Tryz.prog 115 #[str l, .func (Fn.func 116) #[] #[]] w (PrevPost l w) := by
 have K := hid (fun W => parse_any l hl W)
 have HE := hid (((Mod.refl [] w).alloc (.cells #[.int .i64 0, .string ⟨#[]⟩, .int .u64 0, .int .u64 0] 24)).alloc (.cells #[.int .i64 0, .string ⟨#[]⟩, .int .u64 0, .int .u64 0] 24))
 have HQ : Hid (Blk ((w.alloc (.cells #[.int .i64 0, .string ⟨#[]⟩, .int .u64 0, .int .u64 0] 24)).alloc (.cells #[.int .i64 0, .string ⟨#[]⟩, .int .u64 0, .int .u64 0] 24)) w.heap.size 24 zeroE.c) := (Blk.new w 24 #[.int .i64 0, .string ⟨#[]⟩, .int .u64 0, .int .u64 0]).alloc _
 have HN : Hid (Blk ((w.alloc (.cells #[.int .i64 0, .string ⟨#[]⟩, .int .u64 0, .int .u64 0] 24)).alloc (.cells #[.int .i64 0, .string ⟨#[]⟩, .int .u64 0, .int .u64 0] 24)) (w.heap.size + 1) 24 zeroE.c) := Blk.new' (w.alloc (.cells #[.int .i64 0, .string ⟨#[]⟩, .int .u64 0, .int .u64 0] 24)) 24 #[.int .i64 0, .string ⟨#[]⟩, .int .u64 0, .int .u64 0] (N := w.heap.size + 1) (by simp)
 go_enter Tryz.func115, Tryz.ntmps115
 go_wp2_with fail
 refine (K.out _).mono ?_
 rintro e1 w1 ⟨hb1, ⟨hz, rfl⟩ | ⟨hz, t, A, c, rfl, ⟨hr, hok⟩, hbt, hl1⟩⟩
 .
  have g1 : ((parseR l).2 == 0) = false := by simpa using hz
  have g2 : ((parseR l).2 = 0) = False := by simpa using hz
  have g3 : ((parseR l).2 != 0) = true := by simpa using hz
  have hT : PTree l := fun h => absurd h hz
  have HT := hid hT
  have HP := hid (prevO_bad hz)
  clear hz hT
  have HE1 := hid ((HE.out.trans hb1).alloc (.cells (itemC nulT none 0) 86))
  have HQ1 := hid ((HQ.out.ext hb1).alloc (.cells (itemC nulT none 0) 86))
  have HN1 := hid ((HN.out.ext hb1).alloc (.cells (itemC nulT none 0) 86))
  clear hb1
  obtain ⟨b0, b1, b2, b3⟩ := cells4 HN1.out
  obtain ⟨c0, c1, c2, c3⟩ := cells4 HQ1.out
  have f0 := Blk.frozen HQ1.out 0
  have f1 := Blk.frozen HQ1.out 1
  have f2 := Blk.frozen HQ1.out 2
  have f3 := Blk.frozen HQ1.out 3
  go_wp2_with fail
  obtain ⟨d0, d1, d2, d3⟩ := cells4 (set4_blk (e := zeroE) HQ1.out)
  clear b0 b1 b2 b3 c0 c1 c2 c3 f0 f1 f2 f3
  show bodyPost _ _ _ _ _ (set4 (w1.alloc (.cells (itemC nulT none 0) 86)) w.heap.size zeroE)
  refine bodyPost_ret (v := .tuple #[zeroE.v, .int .i64 2]) (by simp [results, Tryz.results115, go_sem, d0, d1, d2, d3]) rfl (.none HP.out (Ret.mk rfl (set4_mod HE1.out (by omega))) HT.out)
 .
  have hT : PTree l := fun _ => ⟨t, hr, hok, hbt⟩
  have HT := hid hT
  have HE1 := hid ((HE.out.trans hb1).alloc (.cells (itemC t A c) 86))
  have HQ1 := hid ((HQ.out.ext hb1).alloc (.cells (itemC t A c) 86))
  have HN1 := hid ((HN.out.ext hb1).alloc (.cells (itemC t A c) 86))
  have HL1 : Hid (IsL (w1.alloc (.cells (itemC t A c) 86)) (fun _ => True) t A) := IsL.ext hl1 ((Mod.refl _ _).alloc _)
  have hP := prevO_tree hr hok
  rw [hbt] at hP
  clear hb1 hz hT
  by_cases hB : ofB t = true
  .
   have KO := hid (fun W hW => rp1_any t hok (readE t) 0 (fun A c W hW => by have := eidOf_any t hok A c W hW; rw [hB] at this; exact this) A c W hW)
   rw [if_pos hB] at hP
   have HP := hid hP
   generalize readE t = E at *
   clear hl1 hr hok hB hbt hP K
   go_wp2_with fail
   refine (KO.out _ HL1.out).mono ?_
   rintro e1 w2 ⟨rfl, hb2⟩
   have HE2 := hid ((HE1.out.trans hb2).alloc (.cells E.c 24))
   have HQ2 := hid ((HQ1.out.ext hb2).alloc (.cells E.c 24))
   clear hb2
   obtain ⟨c0, c1, c2, c3⟩ := cells4 HQ2.out
   have f0 := Blk.frozen HQ2.out 0
   have f1 := Blk.frozen HQ2.out 1
   have f2 := Blk.frozen HQ2.out 2
   have f3 := Blk.frozen HQ2.out 3
   go_wp2_with fail
   obtain ⟨d0, d1, d2, d3⟩ := cells4 (set4_blk (e := E) HQ2.out)
   clear c0 c1 c2 c3 f0 f1 f2 f3
   show bodyPost _ _ _ _ _ (set4 (w2.alloc (.cells E.c 24)) w.heap.size E)
   refine bodyPost_ret (v := .tuple #[E.v, .int .i64 0]) (by simp [results, Tryz.results115, go_sem, d0, d1, d2, d3]) rfl (.some HP.out (Ret.mk rfl (set4_mod HE2.out (by omega))) HT.out)
  .
   have KO := hid (fun W hW => rp1_any t hok zeroE 2 (fun A c W hW => by have := eidOf_any t hok A c W hW; rw [if_neg hB, if_neg hB] at this; exact this) A c W hW)
   rw [if_neg hB] at hP
   have HP := hid hP
   clear hl1 hr hok hB hbt hP K
   go_wp2_with fail
   refine (KO.out _ HL1.out).mono ?_
   rintro e1 w2 ⟨rfl, hb2⟩
   have HE2 := hid ((HE1.out.trans hb2).alloc (.cells zeroE.c 24))
   have HQ2 := hid ((HQ1.out.ext hb2).alloc (.cells zeroE.c 24))
   have HN2 := hid ((HN1.out.ext hb2).alloc (.cells zeroE.c 24))
   clear hb2
   obtain ⟨b0, b1, b2, b3⟩ := cells4 HN2.out
   obtain ⟨c0, c1, c2, c3⟩ := cells4 HQ2.out
   have f0 := Blk.frozen HQ2.out 0
   have f1 := Blk.frozen HQ2.out 1
   have f2 := Blk.frozen HQ2.out 2
   have f3 := Blk.frozen HQ2.out 3
   go_wp2_with fail
   obtain ⟨d0, d1, d2, d3⟩ := cells4 (set4_blk (e := zeroE) HQ2.out)
   clear b0 b1 b2 b3 c0 c1 c2 c3 f0 f1 f2 f3
   show bodyPost _ _ _ _ _ (set4 (w2.alloc (.cells zeroE.c 24)) w.heap.size zeroE)
   refine bodyPost_ret (v := .tuple #[zeroE.v, .int .i64 2]) (by simp [results, Tryz.results115, go_sem, d0, d1, d2, d3]) rfl (.none HP.out (Ret.mk rfl (set4_mod HE2.out (by omega))) HT.out)
set_option maxRecDepth 20000 in
theorem ReadPrev_any (l : List UInt8) (hl : l.length <= 1073741824) (w : World) : Calls Tryz.prog 95 #[str l] w (PrevPost l w) := by
 have K := hid (fun W => readEID_any l hl W)
 have HE := hid ((Mod.refl [] w).alloc (.cells #[.int .i64 0, .string ⟨#[]⟩, .int .u64 0, .int .u64 0] 24))
 have HQ : Hid (Blk (w.alloc (.cells #[.int .i64 0, .string ⟨#[]⟩, .int .u64 0, .int .u64 0] 24)) w.heap.size 24 zeroE.c) := Blk.new w 24 #[.int .i64 0, .string ⟨#[]⟩, .int .u64 0, .int .u64 0]
 go_enter Tryz.func95, Tryz.ntmps95
 go_wp2_with fail
 refine (K.out _).mono ?_
 rintro e1 w1 h1
 obtain ⟨E, n, rfl, hb1, hP⟩ : ∃ E n, e1 = .returned (.tuple #[EV.v E, .int .i64 n]) /\ Ext (w.alloc (.cells #[.int .i64 0, .string ⟨#[]⟩, .int .u64 0, .int .u64 0] 24)) w1 /\ ∀ W W', Ext W W' -> PrevPost l W (.returned (.tuple #[EV.v E, .int .i64 n])) W' := ⟨_, _, h1.1.1, h1.1.2, fun W W' h => ⟨⟨rfl, h⟩, h1.2⟩⟩
 have HE1 := hid (HE.out.trans hb1)
 have HQ1 := hid (HQ.out.ext hb1)
 have HP := hid hP
 clear hb1 hP h1
 obtain ⟨c0, c1, c2, c3⟩ := cells4 HQ1.out
 have f0 := Blk.frozen HQ1.out 0
 have f1 := Blk.frozen HQ1.out 1
 have f2 := Blk.frozen HQ1.out 2
 have f3 := Blk.frozen HQ1.out 3
 go_wp2_with fail
 obtain ⟨d0, d1, d2, d3⟩ := cells4 (set4_blk (e := E) HQ1.out)
 clear c0 c1 c2 c3 f0 f1 f2 f3
 show bodyPost _ _ _ _ _ (set4 w1 w.heap.size E)
 refine bodyPost_ret (v := .tuple #[E.v, .int .i64 n]) (by simp [results, Tryz.results95, go_sem, d0, d1, d2, d3]) rfl (HP.out _ _ (set4_mod HE1.out (by omega)))
set_option maxRecDepth 20000 in
theorem ra1_kind (t : T) (hk : t.kind ≠ 0) (A : Option Addr) (c : Nat) (w : World) : Calls Tryz.prog 69 #[itemV t A c] w (Ret (.tuple #[.int .u64 (t.n : Int), .bool false]) w) := by
 have n1 : (t.kind == 0) = false := by simpa using hk
 have n2 : (t.kind = 0) = False := by simpa using hk
 have n3 : (t.kind != 0) = true := by simpa using hk
 clear hk
 obtain ⟨kd, hkd⟩ : ∃ x, x = t.kind := ⟨_, rfl⟩
 obtain ⟨nn, hnn⟩ : ∃ x, x = t.n := ⟨_, rfl⟩
 go_enter Tryz.func69, Tryz.ntmps69
 go_wp2_with fail
 go_quiet (fail)
 go_wp2_with fail
 refine bodyPost_ret (v := .tuple #[.int .u64 (t.n : Int), .bool false]) (by simp [results, Tryz.results69, go_sem]) rfl (Ret.mk rfl (by first | exact ((Mod.refl _ _).alloc _).drewN _ | exact ((Mod.refl _ _).alloc _).drew | exact ((Mod.refl _ _).alloc _)))
set_option maxRecDepth 20000 in
theorem ra1_num (t : T) (hk : t.kind = 0) (hn : 1099511627776 < t.n) (A : Option Addr) (c : Nat) (w : World) : Calls Tryz.prog 69 #[itemV t A c] w (Ret (.tuple #[.int .u64 (t.n : Int), .bool false]) w) := by
 have t1 : decide ((t.n : Int) <= 1099511627776) = false := by simp; omega
 have t2 : ((t.n : Int) <= 1099511627776) = False := by simp; omega
 clear hn
 obtain ⟨kd, hkd⟩ : ∃ x, x = t.kind := ⟨_, rfl⟩
 obtain ⟨nn, hnn⟩ : ∃ x, x = t.n := ⟨_, rfl⟩
 go_enter Tryz.func69, Tryz.ntmps69
 go_wp2_with fail
 go_quiet (fail)
 go_wp2_with fail
 refine bodyPost_ret (v := .tuple #[.int .u64 (t.n : Int), .bool false]) (by simp [results, Tryz.results69, go_sem]) rfl (Ret.mk rfl (by first | exact ((Mod.refl _ _).alloc _).drewN _ | exact ((Mod.refl _ _).alloc _).drew | exact ((Mod.refl _ _).alloc _)))
set_option maxRecDepth 20000 in
theorem ra1_ok (t : T) (hk : t.kind = 0) (hn : t.n <= 1099511627776) (A : Option Addr) (c : Nat) (w : World) : Calls Tryz.prog 69 #[itemV t A c] w (Ret (.tuple #[.int .u64 (t.n : Int), .bool true]) w) := by
 have t1 : decide ((t.n : Int) <= 1099511627776) = true := by simp; omega
 have t2 : ((t.n : Int) <= 1099511627776) = True := by simp; omega
 clear hn
 obtain ⟨kd, hkd⟩ : ∃ x, x = t.kind := ⟨_, rfl⟩
 obtain ⟨nn, hnn⟩ : ∃ x, x = t.n := ⟨_, rfl⟩
 go_enter Tryz.func69, Tryz.ntmps69
 go_wp2_with fail
 go_quiet (fail)
 go_wp2_with fail
 refine bodyPost_ret (v := .tuple #[.int .u64 (t.n : Int), .bool true]) (by simp [results, Tryz.results69, go_sem]) rfl (Ret.mk rfl (by first | exact ((Mod.refl _ _).alloc _).drewN _ | exact ((Mod.refl _ _).alloc _).drew | exact ((Mod.refl _ _).alloc _)))
theorem ra1_any (t : T) (A : Option Addr) (c : Nat) (w : World) : Calls Tryz.prog 69 #[itemV t A c] w (Ret (.tuple #[.int .u64 (t.n : Int), .bool (ageB t)]) w) := by
 by_cases hk : t.kind = 0
 .
  by_cases hn : t.n <= 1099511627776
  .
   have : ageB t = true := by simp [ageB, hk, hn]
   rw [this]; exact ra1_ok t hk hn A c w
  .
   have : ageB t = false := by simp [ageB, hk]; omega
   rw [this]; exact ra1_num t hk (by omega) A c w
 .
  have : ageB t = false := by simp [ageB, hk]
  rw [this]; exact ra1_kind t hk A c w
def AgePost (l : List UInt8) (w : World) (e : Ending) (w' : World) : Prop := Ret (.tuple #[.int .u64 (((ageO l).getD 0 : Nat) : Int), .int .i64 (if (ageO l).isSome then 0 else 2)]) w e w'
theorem AgePost.none {l : List UInt8} {w w' : World} {e : Ending} (hp : ageO l = none) (h : Ret (.tuple #[.int .u64 0, .int .i64 2]) w e w') : AgePost l w e w' := by unfold AgePost; rw [hp]; exact h
theorem AgePost.some {l : List UInt8} {w w' : World} {e : Ending} {E : Nat} (hp : ageO l = some E) (h : Ret (.tuple #[.int .u64 (E : Int), .int .i64 0]) w e w') : AgePost l w e w' := by unfold AgePost; rw [hp]; exact h
set_option maxRecDepth 20000 in
theorem readU_any (l : List UInt8) (hl : l.length <= 1073741824) (w : World) : Calls Tryz.prog 68 #[str l, .func (Fn.func 69) #[] #[]] w (AgePost l w) := by
 have K := hid (fun W => parse_any l hl W)
 go_enter Tryz.func68, Tryz.ntmps68
 go_wp2_with fail
 refine (K.out _).mono ?_
 rintro e1 w1 ⟨hb1, ⟨hz, rfl⟩ | ⟨hz, t, A, c, rfl, ⟨hr, hok⟩, hbt, hl1⟩⟩
 .
  have HP := hid (ageO_bad hz)
  have g1 : ((parseR l).2 == 0) = false := by simpa using hz
  have g2 : ((parseR l).2 = 0) = False := by simpa using hz
  have g3 : ((parseR l).2 != 0) = true := by simpa using hz
  have HE1 := hid (hb1.alloc (.cells (itemC nulT none 0) 86))
  clear hz hb1
  go_wp2_with fail
  refine bodyPost_ret (v := .tuple #[.int .u64 0, .int .i64 2]) (by simp [results, Tryz.results68, go_sem]) rfl (.none HP.out (Ret.mk rfl HE1.out))
 .
  have hP := ageO_tree hr hok
  rw [hbt] at hP
  have HE1 := hid (hb1.alloc (.cells (itemC t A c) 86))
  clear hz hb1
  by_cases hB : ageB t = true
  .
   have KO := hid (fun W => ra1_any t A c W)
   rw [hB] at KO
   rw [if_pos hB] at hP
   have HP := hid hP
   clear hl1 hr hok hB hbt hP K
   go_wp2_with fail
   refine (KO.out _).mono ?_
   rintro e1 w2 ⟨rfl, hb2⟩
   go_wp2_with fail
   refine bodyPost_ret (v := .tuple #[.int .u64 (t.n : Int), .int .i64 0]) (by simp [results, Tryz.results68, go_sem]) rfl (.some HP.out (Ret.mk rfl (HE1.out.trans hb2)))
  .
   have KO := hid (fun W => ra1_any t A c W)
   have hB2 : ageB t = false := by simpa using hB
   rw [hB2] at KO
   rw [if_neg hB] at hP
   have HP := hid hP
   clear hl1 hr hok hB hB2 hbt hP K
   go_wp2_with fail
   refine (KO.out _).mono ?_
   rintro e1 w2 ⟨rfl, hb2⟩
   go_wp2_with fail
   refine bodyPost_ret (v := .tuple #[.int .u64 0, .int .i64 2]) (by simp [results, Tryz.results68, go_sem]) rfl (.none HP.out (Ret.mk rfl (HE1.out.trans hb2)))
set_option maxRecDepth 20000 in
theorem ReadAge_any (l : List UInt8) (hl : l.length <= 1073741824) (w : World) : Calls Tryz.prog 43 #[str l] w (AgePost l w) := by
 have K := hid (fun W => readU_any l hl W)
 go_enter Tryz.func43, Tryz.ntmps43
 go_wp2_with fail
 refine (K.out _).mono ?_
 rintro e1 w1 h1
 obtain ⟨m, n, rfl, hb1, hP⟩ : ∃ (m : Nat) (n : Int), e1 = .returned (.tuple #[.int .u64 (m : Int), .int .i64 n]) /\ Ext w w1 /\ ∀ W W', Ext W W' -> AgePost l W (.returned (.tuple #[.int .u64 (m : Int), .int .i64 n])) W' := ⟨_, _, h1.1, h1.2, fun W W' h => ⟨rfl, h⟩⟩
 have HP := hid hP
 clear hP h1
 go_wp2_with fail
 refine bodyPost_ret (v := .tuple #[.int .u64 (m : Int), .int .i64 n]) (by simp [results, Tryz.results43, go_sem]) rfl (HP.out _ _ hb1)
def RhPost (t : T) (w : World) (e : Ending) (w' : World) : Prop := ∃ a b : Int, Ret (.tuple #[.agg #[.int .i64 a, .int .i64 b], .bool (hopsB t)]) w e w' /\ (hopsB t = true -> a = ((t.ch 0).n : Int) /\ b = ((t.ch 1).n : Int))
theorem RhPost.no {t : T} {w w' : World} {e : Ending} (hB : hopsB t = false) {a b : Int} (h : Ret (.tuple #[.agg #[.int .i64 a, .int .i64 b], .bool false]) w e w') : RhPost t w e w' := ⟨a, b, by rw [hB]; exact h, fun h => by rw [hB] at h; cases h⟩
set_option maxRecDepth 20000 in
set_option maxHeartbeats 800000 in
theorem rh1_no1 (t : T) (hk : t.kind ≠ 4) (A : Option Addr) (c : Nat) (w : World) : Calls Tryz.prog 67 #[itemV t A c] w (Ret (.tuple #[.agg #[.int .i64 0, .int .i64 0], .bool false]) w) := by
 have n1 : (t.kind == 4) = false := by simpa using hk
 have n2 : (t.kind = 4) = False := by simpa using hk
 have n3 : (t.kind != 4) = true := by simpa using hk
 clear hk
 have HE := hid (((Mod.refl [] w).alloc (.cells (itemC t A c) 86)).alloc (.cells #[.int .i64 0, .int .i64 0] 75))
 go_enter Tryz.func67, Tryz.ntmps67
 go_wp2_with fail
 refine bodyPost_ret (v := .tuple #[.agg #[.int .i64 0, .int .i64 0], .bool false]) (by simp [results, Tryz.results67, go_sem]) rfl (Ret.mk rfl HE.out)
set_option maxRecDepth 20000 in
set_option maxHeartbeats 800000 in
theorem rh1_no2 (n : Nat) (s : List UInt8) (k : Nat) (A : Option Addr) (c : Nat) (w : World) : Calls Tryz.prog 67 #[.agg #[.int .i64 4, .int .u64 (n : Int), str s, .slice A k c, .bool true]] w (Ret (.tuple #[.agg #[.int .i64 0, .int .i64 0], .bool false]) w) := by
 have HE := hid (((Mod.refl [] w).alloc (.cells #[.int .i64 4, .int .u64 (n : Int), str s, .slice A k c, .bool true] 86)).alloc (.cells #[.int .i64 0, .int .i64 0] 75))
 go_enter Tryz.func67, Tryz.ntmps67
 go_wp2_with fail
 refine bodyPost_ret (v := .tuple #[.agg #[.int .i64 0, .int .i64 0], .bool false]) (by simp [results, Tryz.results67, go_sem]) rfl (Ret.mk rfl HE.out)
set_option maxRecDepth 20000 in
set_option maxHeartbeats 800000 in
theorem rh1_no3 (n : Nat) (s : List UInt8) (k : Nat) (h : k ≠ 2) (A : Option Addr) (c : Nat) (w : World) : Calls Tryz.prog 67 #[.agg #[.int .i64 4, .int .u64 (n : Int), str s, .slice A k c, .bool false]] w (Ret (.tuple #[.agg #[.int .i64 0, .int .i64 0], .bool false]) w) := by
 have n1 : ((k : Int) == 2) = false := by simp; omega
 have n2 : ((k : Int) = 2) = False := by simp; omega
 have n3 : ((k : Int) != 2) = true := by simp; omega
 clear h
 have HE := hid (((Mod.refl [] w).alloc (.cells #[.int .i64 4, .int .u64 (n : Int), str s, .slice A k c, .bool false] 86)).alloc (.cells #[.int .i64 0, .int .i64 0] 75))
 go_enter Tryz.func67, Tryz.ntmps67
 go_wp2_with fail
 refine bodyPost_ret (v := .tuple #[.agg #[.int .i64 0, .int .i64 0], .bool false]) (by simp [results, Tryz.results67, go_sem]) rfl (Ret.mk rfl HE.out)
set_option maxRecDepth 20000 in
set_option maxHeartbeats 800000 in
theorem rh1_no4 (n : Nat) (s : List UInt8) (ch : Nat -> T) (b o c : Nat) (A0 A1 : Option Addr) (c0 c1 : Nat) (h : (ch 0).kind ≠ 0) (w : World) (hb : b < w.heap.size) (h0 : At5 w b o (ch 0) A0 c0) (h1 : At5 w b (o + 5) (ch 1) A1 c1) : Calls Tryz.prog 67 #[.agg #[.int .i64 4, .int .u64 (n : Int), str s, .slice (some ⟨b, o, none⟩) 2 c, .bool false]] w (Ret (.tuple #[.agg #[.int .i64 0, .int .i64 0], .bool false]) w) := by
 have HE := hid (((Mod.refl [] w).alloc (.cells #[.int .i64 4, .int .u64 (n : Int), str s, .slice (some ⟨b, o, none⟩) 2 c, .bool false] 86)).alloc (.cells #[.int .i64 0, .int .i64 0] 75))
 obtain ⟨x0, x1, x2, x3, x4⟩ := h0.mod HE.out hb (by simp)
 obtain ⟨y0, y1, y2, y3, y4⟩ := h1.mod HE.out hb (by simp)
 have n1 : ((ch 0).kind == 0) = false := by simpa using h
 have n2 : ((ch 0).kind = 0) = False := by simpa using h
 have n3 : ((ch 0).kind != 0) = true := by simpa using h
 clear h h0 h1
 go_enter Tryz.func67, Tryz.ntmps67
 go_wp2_with fail
 refine bodyPost_ret (v := .tuple #[.agg #[.int .i64 0, .int .i64 0], .bool false]) (by simp [results, Tryz.results67, go_sem]) rfl (Ret.mk rfl HE.out)
set_option maxRecDepth 20000 in
set_option maxHeartbeats 800000 in
theorem rh1_no5 (n : Nat) (s : List UInt8) (ch : Nat -> T) (b o c : Nat) (A0 A1 : Option Addr) (c0 c1 : Nat) (hk : (ch 0).kind = 0) (h : (ch 1).kind ≠ 0) (w : World) (hb : b < w.heap.size) (h0 : At5 w b o (ch 0) A0 c0) (h1 : At5 w b (o + 5) (ch 1) A1 c1) : Calls Tryz.prog 67 #[.agg #[.int .i64 4, .int .u64 (n : Int), str s, .slice (some ⟨b, o, none⟩) 2 c, .bool false]] w (Ret (.tuple #[.agg #[.int .i64 0, .int .i64 0], .bool false]) w) := by
 have HE := hid (((Mod.refl [] w).alloc (.cells #[.int .i64 4, .int .u64 (n : Int), str s, .slice (some ⟨b, o, none⟩) 2 c, .bool false] 86)).alloc (.cells #[.int .i64 0, .int .i64 0] 75))
 obtain ⟨x0, x1, x2, x3, x4⟩ := h0.mod HE.out hb (by simp)
 obtain ⟨y0, y1, y2, y3, y4⟩ := h1.mod HE.out hb (by simp)
 rw [hk] at x0
 have n1 : ((ch 1).kind == 0) = false := by simpa using h
 have n2 : ((ch 1).kind = 0) = False := by simpa using h
 have n3 : ((ch 1).kind != 0) = true := by simpa using h
 clear h h0 h1
 go_enter Tryz.func67, Tryz.ntmps67
 go_wp2_with fail
 refine bodyPost_ret (v := .tuple #[.agg #[.int .i64 0, .int .i64 0], .bool false]) (by simp [results, Tryz.results67, go_sem]) rfl (Ret.mk rfl HE.out)
set_option maxRecDepth 20000 in
set_option maxHeartbeats 800000 in
theorem rh1_ff (n : Nat) (s : List UInt8) (ch : Nat -> T) (b o c : Nat) (A0 A1 : Option Addr) (c0 c1 : Nat) (B : Bool) (l k : Nat) (hl : l <= 256) (hk : k <= 256) (hm : mayB (l : Int) (k : Int) = B) (z0 : (ch 0).kind = 0) (z1 : (ch 0).n = l) (z2 : (ch 1).kind = 0) (z3 : (ch 1).n = k) (w : World) (hb : b < w.heap.size) (h0 : At5 w b o (ch 0) A0 c0) (h1 : At5 w b (o + 5) (ch 1) A1 c1) : Calls Tryz.prog 67 #[.agg #[.int .i64 4, .int .u64 (n : Int), str s, .slice (some ⟨b, o, none⟩) 2 c, .bool false]] w (Ret (.tuple #[.agg #[.int .i64 (l : Int), .int .i64 (k : Int)], .bool B]) w) := by
 have KM := hid (fun W => may_any (l : Int) (k : Int) W)
 rw [hm] at KM
 have HE := hid ((Mod.refl [] w).alloc (.cells #[.int .i64 4, .int .u64 (n : Int), str s, .slice (some ⟨b, o, none⟩) 2 c, .bool false] 86))
 have HA0 := hid h0
 have HA1 := hid h1
 have Z0 := hid z0
 have Z2 := hid z2
 have Z1 := hid z1
 have Z3 := hid z3
 have HE2 := hid (HE.out.alloc (.cells #[.int .i64 0, .int .i64 0] 75))
 have HX2 := hid ((Blk.new w 86 #[.int .i64 4, .int .u64 (n : Int), str s, .slice (some ⟨b, o, none⟩) 2 c, .bool false]).alloc (.cells #[.int .i64 0, .int .i64 0] 75))
 have HQ2 := hid (Blk.new' (w.alloc (.cells #[.int .i64 4, .int .u64 (n : Int), str s, .slice (some ⟨b, o, none⟩) 2 c, .bool false] 86)) 75 #[.int .i64 0, .int .i64 0] (N := w.heap.size + 1) (by simp))
 obtain ⟨x0, x1, _⟩ := h0.mod HE.out hb (by simp)
 obtain ⟨y0, y1, _⟩ := h1.mod HE.out hb (by simp)
 rw [z0] at x0
 rw [z1] at x1
 rw [z2] at y0
 rw [z3] at y1
 have ml : ((256 : Int) < (l : Int)) = False := by simp; omega
 have ml2 : min (l : Int) 256 = (l : Int) := by omega
 have mk : ((256 : Int) < (k : Int)) = False := by simp; omega
 have mk2 : min (k : Int) 256 = (k : Int) := by omega
 have tl : IntKind.i64.wrap (l : Int) = (l : Int) := IntWalk.i64_in _ (by omega)
 have tk : IntKind.i64.wrap (k : Int) = (k : Int) := IntWalk.i64_in _ (by omega)
 clear h0 h1 z0 z1 z2 z3 hl hk hm
 go_enter Tryz.func67, Tryz.ntmps67
 go_upto_region 3 with fail
 obtain ⟨V, hV⟩ : ∃ V, V = (w.alloc (.cells #[.int .i64 4, .int .u64 (n : Int), str s, .slice (some ⟨b, o, none⟩) 2 c, .bool false] 86)).alloc (.cells #[.int .i64 0, .int .i64 0] 75) := ⟨_, rfl⟩
 rw [<- hV] at HE2 HX2 HQ2 ⊢
 have hs : V.heap.size = w.heap.size + 1 + 1 := by rw [hV]; simp
 have HS := hid hs
 have p3 : V.cell? ⟨w.heap.size, 3, none⟩ = some (.slice (some ⟨b, o, none⟩) 2 c) := HX2.out.cell 3
 have px : V.cell? ⟨b, o + 1, none⟩ = some (.int .u64 (l : Int)) := by have := (HA0.out.mod HE2.out hb (by simp)).2.1; rw [Z1.out] at this; exact this
 have py : V.cell? ⟨b, o + 5 + 1, none⟩ = some (.int .u64 (k : Int)) := by have := (HA1.out.mod HE2.out hb (by simp)).2.1; rw [Z3.out] at this; exact this
 clear x0 x1 y0 y1 hV hs
 go_cut [4] (fun s4 wx => ∃ g, s4 = .pointer (some ⟨g, 0, none⟩) /\ Hid (Ext w wx /\ Blk wx g 75 #[.int .i64 (l : Int), .int .i64 (k : Int)] /\ Blk wx (w.heap.size + 1) 75 #[.int .i64 0, .int .i64 0] /\ w.heap.size + 1 ≠ g))
 case first =>
  go_region_held3 (fun w' => w'.cell? ⟨w.heap.size, 3, none⟩ = some (.slice (some ⟨b, o, none⟩) 2 c) /\ w'.cell? ⟨b, o + 1, none⟩ = some (.int .u64 (l : Int)) /\ w'.cell? ⟨b, o + 5 + 1, none⟩ = some (.int .u64 (k : Int))) (go_keep) (first | fail)
  all_goals go_wp2_with fail
  all_goals go_meet
  all_goals exact ⟨_, rfl, (HE2.out.alloc _).drew, (Blk.new V 75 #[.int .i64 (l : Int), .int .i64 (k : Int)]).drew, (HQ2.out.alloc _).drew, by have := HS.out; omega⟩
 obtain ⟨g, rfl, hG⟩ := hcut
 have HGE := hid hG.out.1
 have HG := hid hG.out.2.1
 have HGQ := hid hG.out.2.2.1
 have hne : w.heap.size + 1 ≠ g := hG.out.2.2.2
 clear hG p3 px py ml mk ml2 mk2 tl tk
 rename World => V2
 have y0 : V2.cell? ⟨g, 0, none⟩ = some (.int .i64 (l : Int)) := HG.out.cell 0
 have y1 : V2.cell? ⟨g, 1, none⟩ = some (.int .i64 (k : Int)) := HG.out.cell 1
 have HS2 : Hid (∀ w', Ext V2 w' -> w'.cell? ⟨g, 0, none⟩ = some (.int .i64 (l : Int)) /\ w'.cell? ⟨g, 1, none⟩ = some (.int .i64 (k : Int))) := fun W hW => ⟨(HG.out.ext hW).cell 0, (HG.out.ext hW).cell 1⟩
 go_upto_region 4 with fail
 go_region_held3 (fun w' => w'.cell? ⟨g, 0, none⟩ = some (.int .i64 (l : Int)) /\ w'.cell? ⟨g, 1, none⟩ = some (.int .i64 (k : Int))) (go_keep)
  (first
   | (go_at_call 47; refine (KM.out _).mono ?_; rintro x w3 ⟨rfl, hb3⟩; have hx : Ext V2 w3 := (by (with_reducible refine Mod.trans ?_ hb3); (repeat (first | with_reducible assumption | with_reducible exact Mod.refl _ _ | with_reducible refine Mod.drew ?_ | with_reducible refine Mod.alloc ?_ _))); have z := HS2.out w3 hx; have HQ3 := hid (HGQ.out.ext hx); have r0 : w3.cell? ⟨w.heap.size + 1, 0, none⟩ = some (.int .i64 0) := HQ3.out.cell 0; have r1 : w3.cell? ⟨w.heap.size + 1, 1, none⟩ = some (.int .i64 0) := HQ3.out.cell 1; have f0 := Blk.frozen HQ3.out 0; have f1 := Blk.frozen HQ3.out 1))
 all_goals go_wp2_with fail
 all_goals have B2 := (HQ3.out.set_ 0 (.int .i64 (l : Int))).set_ 1 (.int .i64 (k : Int))
 all_goals have d0 : ((w3.setCell ⟨w.heap.size + 1, 0, none⟩ (.int .i64 (l : Int))).setCell ⟨w.heap.size + 1, 1, none⟩ (.int .i64 (k : Int))).cell? ⟨w.heap.size + 1, 0, none⟩ = some (.int .i64 (l : Int)) := B2.cell 0
 all_goals have d1 : ((w3.setCell ⟨w.heap.size + 1, 0, none⟩ (.int .i64 (l : Int))).setCell ⟨w.heap.size + 1, 1, none⟩ (.int .i64 (k : Int))).cell? ⟨w.heap.size + 1, 1, none⟩ = some (.int .i64 (k : Int)) := B2.cell 1
 all_goals clear B2 r0 r1 f0 f1
 all_goals refine bodyPost_ret (v := .tuple #[.agg #[.int .i64 (l : Int), .int .i64 (k : Int)], .bool B]) (by simp [results, Tryz.results67, go_sem, d0, d1]) rfl (Ret.mk rfl (((HGE.out.trans hx).setCell (.inr (by show w.heap.size <= w.heap.size + 1; omega)) _).setCell (.inr (by show w.heap.size <= w.heap.size + 1; omega)) _))
set_option maxRecDepth 20000 in
set_option maxHeartbeats 800000 in
theorem rh1_ft (n : Nat) (s : List UInt8) (ch : Nat -> T) (b o c : Nat) (A0 A1 : Option Addr) (c0 c1 : Nat) (B : Bool) (l k : Nat) (hl : l <= 256) (hk : 256 < k) (hm : mayB (l : Int) 256 = B) (z0 : (ch 0).kind = 0) (z1 : (ch 0).n = l) (z2 : (ch 1).kind = 0) (z3 : (ch 1).n = k) (w : World) (hb : b < w.heap.size) (h0 : At5 w b o (ch 0) A0 c0) (h1 : At5 w b (o + 5) (ch 1) A1 c1) : Calls Tryz.prog 67 #[.agg #[.int .i64 4, .int .u64 (n : Int), str s, .slice (some ⟨b, o, none⟩) 2 c, .bool false]] w (Ret (.tuple #[.agg #[.int .i64 (l : Int), .int .i64 256], .bool B]) w) := by
 have KM := hid (fun W => may_any (l : Int) 256 W)
 rw [hm] at KM
 have HE := hid ((Mod.refl [] w).alloc (.cells #[.int .i64 4, .int .u64 (n : Int), str s, .slice (some ⟨b, o, none⟩) 2 c, .bool false] 86))
 have HA0 := hid h0
 have HA1 := hid h1
 have Z0 := hid z0
 have Z2 := hid z2
 have Z1 := hid z1
 have Z3 := hid z3
 have HE2 := hid (HE.out.alloc (.cells #[.int .i64 0, .int .i64 0] 75))
 have HX2 := hid ((Blk.new w 86 #[.int .i64 4, .int .u64 (n : Int), str s, .slice (some ⟨b, o, none⟩) 2 c, .bool false]).alloc (.cells #[.int .i64 0, .int .i64 0] 75))
 have HQ2 := hid (Blk.new' (w.alloc (.cells #[.int .i64 4, .int .u64 (n : Int), str s, .slice (some ⟨b, o, none⟩) 2 c, .bool false] 86)) 75 #[.int .i64 0, .int .i64 0] (N := w.heap.size + 1) (by simp))
 obtain ⟨x0, x1, _⟩ := h0.mod HE.out hb (by simp)
 obtain ⟨y0, y1, _⟩ := h1.mod HE.out hb (by simp)
 rw [z0] at x0
 rw [z1] at x1
 rw [z2] at y0
 rw [z3] at y1
 have ml : ((256 : Int) < (l : Int)) = False := by simp; omega
 have ml2 : min (l : Int) 256 = (l : Int) := by omega
 have mk : ((256 : Int) < (k : Int)) = True := by simp; omega
 have mk2 : min (k : Int) 256 = 256 := by omega
 have tl : IntKind.i64.wrap (l : Int) = (l : Int) := IntWalk.i64_in _ (by omega)
 clear h0 h1 z0 z1 z2 z3 hl hk hm
 go_enter Tryz.func67, Tryz.ntmps67
 go_upto_region 3 with fail
 obtain ⟨V, hV⟩ : ∃ V, V = (w.alloc (.cells #[.int .i64 4, .int .u64 (n : Int), str s, .slice (some ⟨b, o, none⟩) 2 c, .bool false] 86)).alloc (.cells #[.int .i64 0, .int .i64 0] 75) := ⟨_, rfl⟩
 rw [<- hV] at HE2 HX2 HQ2 ⊢
 have hs : V.heap.size = w.heap.size + 1 + 1 := by rw [hV]; simp
 have HS := hid hs
 have p3 : V.cell? ⟨w.heap.size, 3, none⟩ = some (.slice (some ⟨b, o, none⟩) 2 c) := HX2.out.cell 3
 have px : V.cell? ⟨b, o + 1, none⟩ = some (.int .u64 (l : Int)) := by have := (HA0.out.mod HE2.out hb (by simp)).2.1; rw [Z1.out] at this; exact this
 have py : V.cell? ⟨b, o + 5 + 1, none⟩ = some (.int .u64 (k : Int)) := by have := (HA1.out.mod HE2.out hb (by simp)).2.1; rw [Z3.out] at this; exact this
 clear x0 x1 y0 y1 hV hs
 go_cut [4] (fun s4 wx => ∃ g, s4 = .pointer (some ⟨g, 0, none⟩) /\ Hid (Ext w wx /\ Blk wx g 75 #[.int .i64 (l : Int), .int .i64 256] /\ Blk wx (w.heap.size + 1) 75 #[.int .i64 0, .int .i64 0] /\ w.heap.size + 1 ≠ g))
 case first =>
  go_region_held3 (fun w' => w'.cell? ⟨w.heap.size, 3, none⟩ = some (.slice (some ⟨b, o, none⟩) 2 c) /\ w'.cell? ⟨b, o + 1, none⟩ = some (.int .u64 (l : Int)) /\ w'.cell? ⟨b, o + 5 + 1, none⟩ = some (.int .u64 (k : Int))) (go_keep) (first | fail)
  all_goals go_wp2_with fail
  all_goals go_meet
  all_goals exact ⟨_, rfl, (HE2.out.alloc _).drew, (Blk.new V 75 #[.int .i64 (l : Int), .int .i64 256]).drew, (HQ2.out.alloc _).drew, by have := HS.out; omega⟩
 obtain ⟨g, rfl, hG⟩ := hcut
 have HGE := hid hG.out.1
 have HG := hid hG.out.2.1
 have HGQ := hid hG.out.2.2.1
 have hne : w.heap.size + 1 ≠ g := hG.out.2.2.2
 clear hG p3 px py ml mk ml2 mk2 tl
 rename World => V2
 have y0 : V2.cell? ⟨g, 0, none⟩ = some (.int .i64 (l : Int)) := HG.out.cell 0
 have y1 : V2.cell? ⟨g, 1, none⟩ = some (.int .i64 256) := HG.out.cell 1
 have HS2 : Hid (∀ w', Ext V2 w' -> w'.cell? ⟨g, 0, none⟩ = some (.int .i64 (l : Int)) /\ w'.cell? ⟨g, 1, none⟩ = some (.int .i64 256)) := fun W hW => ⟨(HG.out.ext hW).cell 0, (HG.out.ext hW).cell 1⟩
 go_upto_region 4 with fail
 go_region_held3 (fun w' => w'.cell? ⟨g, 0, none⟩ = some (.int .i64 (l : Int)) /\ w'.cell? ⟨g, 1, none⟩ = some (.int .i64 256)) (go_keep)
  (first
   | (go_at_call 47; refine (KM.out _).mono ?_; rintro x w3 ⟨rfl, hb3⟩; have hx : Ext V2 w3 := (by (with_reducible refine Mod.trans ?_ hb3); (repeat (first | with_reducible assumption | with_reducible exact Mod.refl _ _ | with_reducible refine Mod.drew ?_ | with_reducible refine Mod.alloc ?_ _))); have z := HS2.out w3 hx; have HQ3 := hid (HGQ.out.ext hx); have r0 : w3.cell? ⟨w.heap.size + 1, 0, none⟩ = some (.int .i64 0) := HQ3.out.cell 0; have r1 : w3.cell? ⟨w.heap.size + 1, 1, none⟩ = some (.int .i64 0) := HQ3.out.cell 1; have f0 := Blk.frozen HQ3.out 0; have f1 := Blk.frozen HQ3.out 1))
 all_goals go_wp2_with fail
 all_goals have B2 := (HQ3.out.set_ 0 (.int .i64 (l : Int))).set_ 1 (.int .i64 256)
 all_goals have d0 : ((w3.setCell ⟨w.heap.size + 1, 0, none⟩ (.int .i64 (l : Int))).setCell ⟨w.heap.size + 1, 1, none⟩ (.int .i64 256)).cell? ⟨w.heap.size + 1, 0, none⟩ = some (.int .i64 (l : Int)) := B2.cell 0
 all_goals have d1 : ((w3.setCell ⟨w.heap.size + 1, 0, none⟩ (.int .i64 (l : Int))).setCell ⟨w.heap.size + 1, 1, none⟩ (.int .i64 256)).cell? ⟨w.heap.size + 1, 1, none⟩ = some (.int .i64 256) := B2.cell 1
 all_goals clear B2 r0 r1 f0 f1
 all_goals refine bodyPost_ret (v := .tuple #[.agg #[.int .i64 (l : Int), .int .i64 256], .bool B]) (by simp [results, Tryz.results67, go_sem, d0, d1]) rfl (Ret.mk rfl (((HGE.out.trans hx).setCell (.inr (by show w.heap.size <= w.heap.size + 1; omega)) _).setCell (.inr (by show w.heap.size <= w.heap.size + 1; omega)) _))
set_option maxRecDepth 20000 in
set_option maxHeartbeats 800000 in
theorem rh1_tf (n : Nat) (s : List UInt8) (ch : Nat -> T) (b o c : Nat) (A0 A1 : Option Addr) (c0 c1 : Nat) (B : Bool) (l k : Nat) (hl : 256 < l) (hk : k <= 256) (hm : mayB 256 (k : Int) = B) (z0 : (ch 0).kind = 0) (z1 : (ch 0).n = l) (z2 : (ch 1).kind = 0) (z3 : (ch 1).n = k) (w : World) (hb : b < w.heap.size) (h0 : At5 w b o (ch 0) A0 c0) (h1 : At5 w b (o + 5) (ch 1) A1 c1) : Calls Tryz.prog 67 #[.agg #[.int .i64 4, .int .u64 (n : Int), str s, .slice (some ⟨b, o, none⟩) 2 c, .bool false]] w (Ret (.tuple #[.agg #[.int .i64 256, .int .i64 (k : Int)], .bool B]) w) := by
 have KM := hid (fun W => may_any 256 (k : Int) W)
 rw [hm] at KM
 have HE := hid ((Mod.refl [] w).alloc (.cells #[.int .i64 4, .int .u64 (n : Int), str s, .slice (some ⟨b, o, none⟩) 2 c, .bool false] 86))
 have HA0 := hid h0
 have HA1 := hid h1
 have Z0 := hid z0
 have Z2 := hid z2
 have Z1 := hid z1
 have Z3 := hid z3
 have HE2 := hid (HE.out.alloc (.cells #[.int .i64 0, .int .i64 0] 75))
 have HX2 := hid ((Blk.new w 86 #[.int .i64 4, .int .u64 (n : Int), str s, .slice (some ⟨b, o, none⟩) 2 c, .bool false]).alloc (.cells #[.int .i64 0, .int .i64 0] 75))
 have HQ2 := hid (Blk.new' (w.alloc (.cells #[.int .i64 4, .int .u64 (n : Int), str s, .slice (some ⟨b, o, none⟩) 2 c, .bool false] 86)) 75 #[.int .i64 0, .int .i64 0] (N := w.heap.size + 1) (by simp))
 obtain ⟨x0, x1, _⟩ := h0.mod HE.out hb (by simp)
 obtain ⟨y0, y1, _⟩ := h1.mod HE.out hb (by simp)
 rw [z0] at x0
 rw [z1] at x1
 rw [z2] at y0
 rw [z3] at y1
 have ml : ((256 : Int) < (l : Int)) = True := by simp; omega
 have ml2 : min (l : Int) 256 = 256 := by omega
 have mk : ((256 : Int) < (k : Int)) = False := by simp; omega
 have mk2 : min (k : Int) 256 = (k : Int) := by omega
 have tk : IntKind.i64.wrap (k : Int) = (k : Int) := IntWalk.i64_in _ (by omega)
 clear h0 h1 z0 z1 z2 z3 hl hk hm
 go_enter Tryz.func67, Tryz.ntmps67
 go_upto_region 3 with fail
 obtain ⟨V, hV⟩ : ∃ V, V = (w.alloc (.cells #[.int .i64 4, .int .u64 (n : Int), str s, .slice (some ⟨b, o, none⟩) 2 c, .bool false] 86)).alloc (.cells #[.int .i64 0, .int .i64 0] 75) := ⟨_, rfl⟩
 rw [<- hV] at HE2 HX2 HQ2 ⊢
 have hs : V.heap.size = w.heap.size + 1 + 1 := by rw [hV]; simp
 have HS := hid hs
 have p3 : V.cell? ⟨w.heap.size, 3, none⟩ = some (.slice (some ⟨b, o, none⟩) 2 c) := HX2.out.cell 3
 have px : V.cell? ⟨b, o + 1, none⟩ = some (.int .u64 (l : Int)) := by have := (HA0.out.mod HE2.out hb (by simp)).2.1; rw [Z1.out] at this; exact this
 have py : V.cell? ⟨b, o + 5 + 1, none⟩ = some (.int .u64 (k : Int)) := by have := (HA1.out.mod HE2.out hb (by simp)).2.1; rw [Z3.out] at this; exact this
 clear x0 x1 y0 y1 hV hs
 go_cut [4] (fun s4 wx => ∃ g, s4 = .pointer (some ⟨g, 0, none⟩) /\ Hid (Ext w wx /\ Blk wx g 75 #[.int .i64 256, .int .i64 (k : Int)] /\ Blk wx (w.heap.size + 1) 75 #[.int .i64 0, .int .i64 0] /\ w.heap.size + 1 ≠ g))
 case first =>
  go_region_held3 (fun w' => w'.cell? ⟨w.heap.size, 3, none⟩ = some (.slice (some ⟨b, o, none⟩) 2 c) /\ w'.cell? ⟨b, o + 1, none⟩ = some (.int .u64 (l : Int)) /\ w'.cell? ⟨b, o + 5 + 1, none⟩ = some (.int .u64 (k : Int))) (go_keep) (first | fail)
  all_goals go_wp2_with fail
  all_goals go_meet
  all_goals exact ⟨_, rfl, (HE2.out.alloc _).drew, (Blk.new V 75 #[.int .i64 256, .int .i64 (k : Int)]).drew, (HQ2.out.alloc _).drew, by have := HS.out; omega⟩
 obtain ⟨g, rfl, hG⟩ := hcut
 have HGE := hid hG.out.1
 have HG := hid hG.out.2.1
 have HGQ := hid hG.out.2.2.1
 have hne : w.heap.size + 1 ≠ g := hG.out.2.2.2
 clear hG p3 px py ml mk ml2 mk2 tk
 rename World => V2
 have y0 : V2.cell? ⟨g, 0, none⟩ = some (.int .i64 256) := HG.out.cell 0
 have y1 : V2.cell? ⟨g, 1, none⟩ = some (.int .i64 (k : Int)) := HG.out.cell 1
 have HS2 : Hid (∀ w', Ext V2 w' -> w'.cell? ⟨g, 0, none⟩ = some (.int .i64 256) /\ w'.cell? ⟨g, 1, none⟩ = some (.int .i64 (k : Int))) := fun W hW => ⟨(HG.out.ext hW).cell 0, (HG.out.ext hW).cell 1⟩
 go_upto_region 4 with fail
 go_region_held3 (fun w' => w'.cell? ⟨g, 0, none⟩ = some (.int .i64 256) /\ w'.cell? ⟨g, 1, none⟩ = some (.int .i64 (k : Int))) (go_keep)
  (first
   | (go_at_call 47; refine (KM.out _).mono ?_; rintro x w3 ⟨rfl, hb3⟩; have hx : Ext V2 w3 := (by (with_reducible refine Mod.trans ?_ hb3); (repeat (first | with_reducible assumption | with_reducible exact Mod.refl _ _ | with_reducible refine Mod.drew ?_ | with_reducible refine Mod.alloc ?_ _))); have z := HS2.out w3 hx; have HQ3 := hid (HGQ.out.ext hx); have r0 : w3.cell? ⟨w.heap.size + 1, 0, none⟩ = some (.int .i64 0) := HQ3.out.cell 0; have r1 : w3.cell? ⟨w.heap.size + 1, 1, none⟩ = some (.int .i64 0) := HQ3.out.cell 1; have f0 := Blk.frozen HQ3.out 0; have f1 := Blk.frozen HQ3.out 1))
 all_goals go_wp2_with fail
 all_goals have B2 := (HQ3.out.set_ 0 (.int .i64 256)).set_ 1 (.int .i64 (k : Int))
 all_goals have d0 : ((w3.setCell ⟨w.heap.size + 1, 0, none⟩ (.int .i64 256)).setCell ⟨w.heap.size + 1, 1, none⟩ (.int .i64 (k : Int))).cell? ⟨w.heap.size + 1, 0, none⟩ = some (.int .i64 256) := B2.cell 0
 all_goals have d1 : ((w3.setCell ⟨w.heap.size + 1, 0, none⟩ (.int .i64 256)).setCell ⟨w.heap.size + 1, 1, none⟩ (.int .i64 (k : Int))).cell? ⟨w.heap.size + 1, 1, none⟩ = some (.int .i64 (k : Int)) := B2.cell 1
 all_goals clear B2 r0 r1 f0 f1
 all_goals refine bodyPost_ret (v := .tuple #[.agg #[.int .i64 256, .int .i64 (k : Int)], .bool B]) (by simp [results, Tryz.results67, go_sem, d0, d1]) rfl (Ret.mk rfl (((HGE.out.trans hx).setCell (.inr (by show w.heap.size <= w.heap.size + 1; omega)) _).setCell (.inr (by show w.heap.size <= w.heap.size + 1; omega)) _))
set_option maxRecDepth 20000 in
set_option maxHeartbeats 800000 in
theorem rh1_tt (n : Nat) (s : List UInt8) (ch : Nat -> T) (b o c : Nat) (A0 A1 : Option Addr) (c0 c1 : Nat) (B : Bool) (l k : Nat) (hl : 256 < l) (hk : 256 < k) (hm : mayB 256 256 = B) (z0 : (ch 0).kind = 0) (z1 : (ch 0).n = l) (z2 : (ch 1).kind = 0) (z3 : (ch 1).n = k) (w : World) (hb : b < w.heap.size) (h0 : At5 w b o (ch 0) A0 c0) (h1 : At5 w b (o + 5) (ch 1) A1 c1) : Calls Tryz.prog 67 #[.agg #[.int .i64 4, .int .u64 (n : Int), str s, .slice (some ⟨b, o, none⟩) 2 c, .bool false]] w (Ret (.tuple #[.agg #[.int .i64 256, .int .i64 256], .bool B]) w) := by
 have KM := hid (fun W => may_any 256 256 W)
 rw [hm] at KM
 have HE := hid ((Mod.refl [] w).alloc (.cells #[.int .i64 4, .int .u64 (n : Int), str s, .slice (some ⟨b, o, none⟩) 2 c, .bool false] 86))
 have HA0 := hid h0
 have HA1 := hid h1
 have Z0 := hid z0
 have Z2 := hid z2
 have Z1 := hid z1
 have Z3 := hid z3
 have HE2 := hid (HE.out.alloc (.cells #[.int .i64 0, .int .i64 0] 75))
 have HX2 := hid ((Blk.new w 86 #[.int .i64 4, .int .u64 (n : Int), str s, .slice (some ⟨b, o, none⟩) 2 c, .bool false]).alloc (.cells #[.int .i64 0, .int .i64 0] 75))
 have HQ2 := hid (Blk.new' (w.alloc (.cells #[.int .i64 4, .int .u64 (n : Int), str s, .slice (some ⟨b, o, none⟩) 2 c, .bool false] 86)) 75 #[.int .i64 0, .int .i64 0] (N := w.heap.size + 1) (by simp))
 obtain ⟨x0, x1, _⟩ := h0.mod HE.out hb (by simp)
 obtain ⟨y0, y1, _⟩ := h1.mod HE.out hb (by simp)
 rw [z0] at x0
 rw [z1] at x1
 rw [z2] at y0
 rw [z3] at y1
 have ml : ((256 : Int) < (l : Int)) = True := by simp; omega
 have ml2 : min (l : Int) 256 = 256 := by omega
 have mk : ((256 : Int) < (k : Int)) = True := by simp; omega
 have mk2 : min (k : Int) 256 = 256 := by omega
 clear h0 h1 z0 z1 z2 z3 hl hk hm
 go_enter Tryz.func67, Tryz.ntmps67
 go_upto_region 3 with fail
 obtain ⟨V, hV⟩ : ∃ V, V = (w.alloc (.cells #[.int .i64 4, .int .u64 (n : Int), str s, .slice (some ⟨b, o, none⟩) 2 c, .bool false] 86)).alloc (.cells #[.int .i64 0, .int .i64 0] 75) := ⟨_, rfl⟩
 rw [<- hV] at HE2 HX2 HQ2 ⊢
 have hs : V.heap.size = w.heap.size + 1 + 1 := by rw [hV]; simp
 have HS := hid hs
 have p3 : V.cell? ⟨w.heap.size, 3, none⟩ = some (.slice (some ⟨b, o, none⟩) 2 c) := HX2.out.cell 3
 have px : V.cell? ⟨b, o + 1, none⟩ = some (.int .u64 (l : Int)) := by have := (HA0.out.mod HE2.out hb (by simp)).2.1; rw [Z1.out] at this; exact this
 have py : V.cell? ⟨b, o + 5 + 1, none⟩ = some (.int .u64 (k : Int)) := by have := (HA1.out.mod HE2.out hb (by simp)).2.1; rw [Z3.out] at this; exact this
 clear x0 x1 y0 y1 hV hs
 go_cut [4] (fun s4 wx => ∃ g, s4 = .pointer (some ⟨g, 0, none⟩) /\ Hid (Ext w wx /\ Blk wx g 75 #[.int .i64 256, .int .i64 256] /\ Blk wx (w.heap.size + 1) 75 #[.int .i64 0, .int .i64 0] /\ w.heap.size + 1 ≠ g))
 case first =>
  go_region_held3 (fun w' => w'.cell? ⟨w.heap.size, 3, none⟩ = some (.slice (some ⟨b, o, none⟩) 2 c) /\ w'.cell? ⟨b, o + 1, none⟩ = some (.int .u64 (l : Int)) /\ w'.cell? ⟨b, o + 5 + 1, none⟩ = some (.int .u64 (k : Int))) (go_keep) (first | fail)
  all_goals go_wp2_with fail
  all_goals go_meet
  all_goals exact ⟨_, rfl, (HE2.out.alloc _).drew, (Blk.new V 75 #[.int .i64 256, .int .i64 256]).drew, (HQ2.out.alloc _).drew, by have := HS.out; omega⟩
 obtain ⟨g, rfl, hG⟩ := hcut
 have HGE := hid hG.out.1
 have HG := hid hG.out.2.1
 have HGQ := hid hG.out.2.2.1
 have hne : w.heap.size + 1 ≠ g := hG.out.2.2.2
 clear hG p3 px py ml mk ml2 mk2
 rename World => V2
 have y0 : V2.cell? ⟨g, 0, none⟩ = some (.int .i64 256) := HG.out.cell 0
 have y1 : V2.cell? ⟨g, 1, none⟩ = some (.int .i64 256) := HG.out.cell 1
 have HS2 : Hid (∀ w', Ext V2 w' -> w'.cell? ⟨g, 0, none⟩ = some (.int .i64 256) /\ w'.cell? ⟨g, 1, none⟩ = some (.int .i64 256)) := fun W hW => ⟨(HG.out.ext hW).cell 0, (HG.out.ext hW).cell 1⟩
 go_upto_region 4 with fail
 go_region_held3 (fun w' => w'.cell? ⟨g, 0, none⟩ = some (.int .i64 256) /\ w'.cell? ⟨g, 1, none⟩ = some (.int .i64 256)) (go_keep)
  (first
   | (go_at_call 47; refine (KM.out _).mono ?_; rintro x w3 ⟨rfl, hb3⟩; have hx : Ext V2 w3 := (by (with_reducible refine Mod.trans ?_ hb3); (repeat (first | with_reducible assumption | with_reducible exact Mod.refl _ _ | with_reducible refine Mod.drew ?_ | with_reducible refine Mod.alloc ?_ _))); have z := HS2.out w3 hx; have HQ3 := hid (HGQ.out.ext hx); have r0 : w3.cell? ⟨w.heap.size + 1, 0, none⟩ = some (.int .i64 0) := HQ3.out.cell 0; have r1 : w3.cell? ⟨w.heap.size + 1, 1, none⟩ = some (.int .i64 0) := HQ3.out.cell 1; have f0 := Blk.frozen HQ3.out 0; have f1 := Blk.frozen HQ3.out 1))
 all_goals go_wp2_with fail
 all_goals have B2 := (HQ3.out.set_ 0 (.int .i64 256)).set_ 1 (.int .i64 256)
 all_goals have d0 : ((w3.setCell ⟨w.heap.size + 1, 0, none⟩ (.int .i64 256)).setCell ⟨w.heap.size + 1, 1, none⟩ (.int .i64 256)).cell? ⟨w.heap.size + 1, 0, none⟩ = some (.int .i64 256) := B2.cell 0
 all_goals have d1 : ((w3.setCell ⟨w.heap.size + 1, 0, none⟩ (.int .i64 256)).setCell ⟨w.heap.size + 1, 1, none⟩ (.int .i64 256)).cell? ⟨w.heap.size + 1, 1, none⟩ = some (.int .i64 256) := B2.cell 1
 all_goals clear B2 r0 r1 f0 f1
 all_goals refine bodyPost_ret (v := .tuple #[.agg #[.int .i64 256, .int .i64 256], .bool B]) (by simp [results, Tryz.results67, go_sem, d0, d1]) rfl (Ret.mk rfl (((HGE.out.trans hx).setCell (.inr (by show w.heap.size <= w.heap.size + 1; omega)) _).setCell (.inr (by show w.heap.size <= w.heap.size + 1; omega)) _))
theorem rh1_any (t : T) (hok : t.ok) (A : Option Addr) (c : Nat) (w : World) (h : IsL w (fun _ => True) t A) : Calls Tryz.prog 67 #[itemV t A c] w (RhPost t w) := by
 cases t with
 | nil => exact absurd hok T.not_nil
 | mk kind n s op k ch =>
  by_cases h4 : kind = 4
  .
   subst h4
   cases op with
   | true => exact (rh1_no2 n s k A c w).mono fun e w' h => .no (by simp [hopsB, T.op]) h
   | false =>
    by_cases hk : k = 2
    .
     subst hk
     obtain ⟨b, o, ac, rfl, hb, _, hc⟩ := h.rows (by omega)
     obtain ⟨a0, _⟩ := hc 0 (by omega)
     obtain ⟨a1, _⟩ := hc 1 (by omega)
     have a0 : At5 w b o (ch 0) (ac 0).1 (ac 0).2 := by simpa using a0
     have a1 : At5 w b (o + 5) (ch 1) (ac 1).1 (ac 1).2 := by simpa using a1
     by_cases z0 : (ch 0).kind = 0
     .
      by_cases z2 : (ch 1).kind = 0
      .
       have hB : hopsB (T.mk 4 n s false 2 ch) = mayB (ch 0).n (ch 1).n := by
        show (decide ((4 : Int) = 4) && !false && decide (2 = 2) && decide ((ch 0).kind = 0) && decide ((ch 1).kind = 0) && mayB (ch 0).n (ch 1).n) = _
        simp [z0, z2]
       by_cases p : (ch 0).n <= 256
       .
        by_cases q : (ch 1).n <= 256
        . exact (rh1_ff n s ch b o c _ _ _ _ _ _ _ p q hB.symm z0 rfl z2 rfl w hb a0 a1).mono fun e w' h => ⟨_, _, h, fun _ => ⟨rfl, rfl⟩⟩
        . exact (rh1_ft n s ch b o c _ _ _ _ false _ _ p (by omega) (by simp [mayB]) z0 rfl z2 rfl w hb a0 a1).mono fun e w' h => .no (by rw [hB]; simp [mayB]; omega) h
       .
        by_cases q : (ch 1).n <= 256
        . exact (rh1_tf n s ch b o c _ _ _ _ false _ _ (by omega) q (by simp [mayB]) z0 rfl z2 rfl w hb a0 a1).mono fun e w' h => .no (by rw [hB]; simp [mayB]; omega) h
        . exact (rh1_tt n s ch b o c _ _ _ _ false _ _ (by omega) (by omega) (by simp [mayB]) z0 rfl z2 rfl w hb a0 a1).mono fun e w' h => .no (by rw [hB]; simp [mayB]; omega) h
      . exact (rh1_no5 n s ch b o c _ _ _ _ z0 z2 w hb a0 a1).mono fun e w' h => .no (by simp [hopsB, T.ch, z2]) h
     . exact (rh1_no4 n s ch b o c _ _ _ _ z0 w hb a0 a1).mono fun e w' h => .no (by simp [hopsB, T.ch, z0]) h
    . exact (rh1_no3 n s k hk A c w).mono fun e w' h => .no (by simp [hopsB, T.k, hk]) h
  . exact (rh1_no1 (T.mk kind n s op k ch) h4 A c w).mono fun e w' h => .no (by simp [hopsB, T.kind, h4]) h
def HopsPost (l : List UInt8) (w : World) (e : Ending) (w' : World) : Prop := Ret (.tuple #[.agg #[.int .i64 ((((hopsO l).getD (0, 0)).1 : Nat) : Int), .int .i64 ((((hopsO l).getD (0, 0)).2 : Nat) : Int)], .int .i64 (if (hopsO l).isSome then 0 else 2)]) w e w'
theorem HopsPost.none {l : List UInt8} {w w' : World} {e : Ending} (hp : hopsO l = none) (h : Ret (.tuple #[.agg #[.int .i64 0, .int .i64 0], .int .i64 2]) w e w') : HopsPost l w e w' := by unfold HopsPost; rw [hp]; exact h
theorem HopsPost.some {l : List UInt8} {w w' : World} {e : Ending} {E : Nat × Nat} (hp : hopsO l = some E) (h : Ret (.tuple #[.agg #[.int .i64 (E.1 : Int), .int .i64 (E.2 : Int)], .int .i64 0]) w e w') : HopsPost l w e w' := by unfold HopsPost; rw [hp]; exact h
set_option maxRecDepth 20000 in
set_option maxHeartbeats 800000 in
theorem readH_any (l : List UInt8) (hl : l.length <= 1073741824) (w : World) : Calls Tryz.prog 66 #[str l, .func (Fn.func 67) #[] #[]] w (HopsPost l w) := by
 have K := hid (fun W => parse_any l hl W)
 have HE := hid (((Mod.refl [] w).alloc (.cells #[.int .i64 0, .int .i64 0] 75)).alloc (.cells #[.int .i64 0, .int .i64 0] 75))
 have HQ := hid ((Blk.new w 75 #[.int .i64 0, .int .i64 0]).alloc (.cells #[.int .i64 0, .int .i64 0] 75))
 have HN := hid (Blk.new' (w.alloc (.cells #[.int .i64 0, .int .i64 0] 75)) 75 #[.int .i64 0, .int .i64 0] (N := w.heap.size + 1) (by simp))
 go_enter Tryz.func66, Tryz.ntmps66
 go_wp2_with fail
 refine (K.out _).mono ?_
 rintro e1 w1 ⟨hb1, ⟨hz, rfl⟩ | ⟨hz, t, A, c, rfl, ⟨hr, hok⟩, hbt, hl1⟩⟩
 .
  have HP := hid (hopsO_bad hz)
  have g1 : ((parseR l).2 == 0) = false := by simpa using hz
  have g2 : ((parseR l).2 = 0) = False := by simpa using hz
  have g3 : ((parseR l).2 != 0) = true := by simpa using hz
  have HE1 := hid ((HE.out.trans hb1).alloc (.cells (itemC nulT none 0) 86))
  have HQ1 := hid ((HQ.out.ext hb1).alloc (.cells (itemC nulT none 0) 86))
  have HN1 := hid ((HN.out.ext hb1).alloc (.cells (itemC nulT none 0) 86))
  clear hz hb1
  have m0 : (w1.alloc (.cells (itemC nulT none 0) 86)).cell? ⟨w.heap.size + 1, 0, none⟩ = some (.int .i64 0) := HN1.out.cell 0
  have m1 : (w1.alloc (.cells (itemC nulT none 0) 86)).cell? ⟨w.heap.size + 1, 1, none⟩ = some (.int .i64 0) := HN1.out.cell 1
  have r0 : (w1.alloc (.cells (itemC nulT none 0) 86)).cell? ⟨w.heap.size, 0, none⟩ = some (.int .i64 0) := HQ1.out.cell 0
  have r1 : (w1.alloc (.cells (itemC nulT none 0) 86)).cell? ⟨w.heap.size, 1, none⟩ = some (.int .i64 0) := HQ1.out.cell 1
  have f0 := Blk.frozen HQ1.out 0
  have f1 := Blk.frozen HQ1.out 1
  go_wp2_with fail
  have B2 := (HQ1.out.set_ 0 (.int .i64 0)).set_ 1 (.int .i64 0)
  have d0 : (((w1.alloc (.cells (itemC nulT none 0) 86)).setCell ⟨w.heap.size, 0, none⟩ (.int .i64 0)).setCell ⟨w.heap.size, 1, none⟩ (.int .i64 0)).cell? ⟨w.heap.size, 0, none⟩ = some (.int .i64 0) := B2.cell 0
  have d1 : (((w1.alloc (.cells (itemC nulT none 0) 86)).setCell ⟨w.heap.size, 0, none⟩ (.int .i64 0)).setCell ⟨w.heap.size, 1, none⟩ (.int .i64 0)).cell? ⟨w.heap.size, 1, none⟩ = some (.int .i64 0) := B2.cell 1
  clear B2 r0 r1 f0 f1
  refine bodyPost_ret (v := .tuple #[.agg #[.int .i64 0, .int .i64 0], .int .i64 2]) (by simp [results, Tryz.results66, go_sem, d0, d1]) rfl (.none HP.out (Ret.mk rfl ((HE1.out.setCell (.inr (Nat.le_refl _)) _).setCell (.inr (Nat.le_refl _)) _)))
 .
  have hP := hopsO_tree hr hok
  rw [hbt] at hP
  have HE1 := hid ((HE.out.trans hb1).alloc (.cells (itemC t A c) 86))
  have HQ1 := hid ((HQ.out.ext hb1).alloc (.cells (itemC t A c) 86))
  have HN1 := hid ((HN.out.ext hb1).alloc (.cells (itemC t A c) 86))
  have HL1 : Hid (IsL (w1.alloc (.cells (itemC t A c) 86)) (fun _ => True) t A) := IsL.ext hl1 ((Mod.refl _ _).alloc _)
  clear hz hb1
  by_cases hB : hopsB t = true
  .
   have KO : Hid (∀ W, IsL W (fun _ => True) t A -> Calls Tryz.prog 67 #[itemV t A c] W (Ret (.tuple #[.agg #[.int .i64 ((t.ch 0).n : Int), .int .i64 ((t.ch 1).n : Int)], .bool true]) W)) := fun W hW => (rh1_any t hok A c W hW).mono fun e w' h => by
    obtain ⟨a, b, h1, h2⟩ := h
    obtain ⟨rfl, rfl⟩ := h2 hB
    rw [hB] at h1; exact h1
   rw [if_pos hB] at hP
   have HP := hid hP
   clear hl1 hr hok hB hbt hP K
   generalize (t.ch 0).n = l0 at *
   generalize (t.ch 1).n = l1 at *
   go_wp2_with fail
   refine (KO.out _ HL1.out).mono ?_
   rintro e1 w2 ⟨rfl, hb2⟩
   have HE2 := hid ((HE1.out.trans hb2).alloc (.cells #[.int .i64 (l0 : Int), .int .i64 (l1 : Int)] 75))
   have HQ2 := hid ((HQ1.out.ext hb2).alloc (.cells #[.int .i64 (l0 : Int), .int .i64 (l1 : Int)] 75))
   clear hb2
   have r0 : (w2.alloc (.cells #[.int .i64 (l0 : Int), .int .i64 (l1 : Int)] 75)).cell? ⟨w.heap.size, 0, none⟩ = some (.int .i64 0) := HQ2.out.cell 0
   have r1 : (w2.alloc (.cells #[.int .i64 (l0 : Int), .int .i64 (l1 : Int)] 75)).cell? ⟨w.heap.size, 1, none⟩ = some (.int .i64 0) := HQ2.out.cell 1
   have f0 := Blk.frozen HQ2.out 0
   have f1 := Blk.frozen HQ2.out 1
   go_wp2_with fail
   have B2 := (HQ2.out.set_ 0 (.int .i64 (l0 : Int))).set_ 1 (.int .i64 (l1 : Int))
   have d0 : (((w2.alloc (.cells #[.int .i64 (l0 : Int), .int .i64 (l1 : Int)] 75)).setCell ⟨w.heap.size, 0, none⟩ (.int .i64 (l0 : Int))).setCell ⟨w.heap.size, 1, none⟩ (.int .i64 (l1 : Int))).cell? ⟨w.heap.size, 0, none⟩ = some (.int .i64 (l0 : Int)) := B2.cell 0
   have d1 : (((w2.alloc (.cells #[.int .i64 (l0 : Int), .int .i64 (l1 : Int)] 75)).setCell ⟨w.heap.size, 0, none⟩ (.int .i64 (l0 : Int))).setCell ⟨w.heap.size, 1, none⟩ (.int .i64 (l1 : Int))).cell? ⟨w.heap.size, 1, none⟩ = some (.int .i64 (l1 : Int)) := B2.cell 1
   clear B2 r0 r1 f0 f1
   refine bodyPost_ret (v := .tuple #[.agg #[.int .i64 (l0 : Int), .int .i64 (l1 : Int)], .int .i64 0]) (by simp [results, Tryz.results66, go_sem, d0, d1]) rfl (.some HP.out (Ret.mk rfl ((HE2.out.setCell (.inr (Nat.le_refl _)) _).setCell (.inr (Nat.le_refl _)) _)))
  .
   have hB2 : hopsB t = false := by simpa using hB
   have KO : Hid (∀ W, IsL W (fun _ => True) t A -> Calls Tryz.prog 67 #[itemV t A c] W (fun e w' => ∃ a b : Int, Ret (.tuple #[.agg #[.int .i64 a, .int .i64 b], .bool false]) W e w')) := fun W hW => (rh1_any t hok A c W hW).mono fun e w' h => by
    obtain ⟨a, b, h1, h2⟩ := h
    rw [hB2] at h1; exact ⟨a, b, h1⟩
   rw [if_neg hB] at hP
   have HP := hid hP
   clear hl1 hr hok hB hB2 hbt hP K
   go_wp2_with fail
   refine (KO.out _ HL1.out).mono ?_
   rintro e1 w2 ⟨a, b, rfl, hb2⟩
   have HE2 := hid ((HE1.out.trans hb2).alloc (.cells #[.int .i64 a, .int .i64 b] 75))
   have HQ2 := hid ((HQ1.out.ext hb2).alloc (.cells #[.int .i64 a, .int .i64 b] 75))
   have HN2 := hid ((HN1.out.ext hb2).alloc (.cells #[.int .i64 a, .int .i64 b] 75))
   clear hb2
   have m0 : (w2.alloc (.cells #[.int .i64 a, .int .i64 b] 75)).cell? ⟨w.heap.size + 1, 0, none⟩ = some (.int .i64 0) := HN2.out.cell 0
   have m1 : (w2.alloc (.cells #[.int .i64 a, .int .i64 b] 75)).cell? ⟨w.heap.size + 1, 1, none⟩ = some (.int .i64 0) := HN2.out.cell 1
   have r0 : (w2.alloc (.cells #[.int .i64 a, .int .i64 b] 75)).cell? ⟨w.heap.size, 0, none⟩ = some (.int .i64 0) := HQ2.out.cell 0
   have r1 : (w2.alloc (.cells #[.int .i64 a, .int .i64 b] 75)).cell? ⟨w.heap.size, 1, none⟩ = some (.int .i64 0) := HQ2.out.cell 1
   have f0 := Blk.frozen HQ2.out 0
   have f1 := Blk.frozen HQ2.out 1
   go_wp2_with fail
   have B2 := (HQ2.out.set_ 0 (.int .i64 0)).set_ 1 (.int .i64 0)
   have d0 : (((w2.alloc (.cells #[.int .i64 a, .int .i64 b] 75)).setCell ⟨w.heap.size, 0, none⟩ (.int .i64 0)).setCell ⟨w.heap.size, 1, none⟩ (.int .i64 0)).cell? ⟨w.heap.size, 0, none⟩ = some (.int .i64 0) := B2.cell 0
   have d1 : (((w2.alloc (.cells #[.int .i64 a, .int .i64 b] 75)).setCell ⟨w.heap.size, 0, none⟩ (.int .i64 0)).setCell ⟨w.heap.size, 1, none⟩ (.int .i64 0)).cell? ⟨w.heap.size, 1, none⟩ = some (.int .i64 0) := B2.cell 1
   clear B2 r0 r1 f0 f1
   refine bodyPost_ret (v := .tuple #[.agg #[.int .i64 0, .int .i64 0], .int .i64 2]) (by simp [results, Tryz.results66, go_sem, d0, d1]) rfl (.none HP.out (Ret.mk rfl ((HE2.out.setCell (.inr (Nat.le_refl _)) _).setCell (.inr (Nat.le_refl _)) _)))
set_option maxRecDepth 20000 in
theorem readHops_any (l : List UInt8) (hl : l.length <= 1073741824) (w : World) : Calls Tryz.prog 41 #[str l] w (HopsPost l w) := by
 have K := hid (fun W => readH_any l hl W)
 have HE := hid ((Mod.refl [] w).alloc (.cells #[.int .i64 0, .int .i64 0] 75))
 have HQ := hid (Blk.new w 75 #[.int .i64 0, .int .i64 0])
 go_enter Tryz.func41, Tryz.ntmps41
 go_wp2_with fail
 refine (K.out _).mono ?_
 rintro e1 w1 h1
 obtain ⟨a, b, n, rfl, hb1, hP⟩ : ∃ (a b : Nat) (n : Int), e1 = .returned (.tuple #[.agg #[.int .i64 (a : Int), .int .i64 (b : Int)], .int .i64 n]) /\ Ext (w.alloc (.cells #[.int .i64 0, .int .i64 0] 75)) w1 /\ ∀ W W', Ext W W' -> HopsPost l W (.returned (.tuple #[.agg #[.int .i64 (a : Int), .int .i64 (b : Int)], .int .i64 n])) W' := ⟨_, _, _, h1.1, h1.2, fun W W' h => ⟨rfl, h⟩⟩
 have HP := hid hP
 have HE1 := hid (HE.out.trans hb1)
 have HQ1 := hid (HQ.out.ext hb1)
 clear hb1 hP h1
 have r0 : (w1).cell? ⟨w.heap.size, 0, none⟩ = some (.int .i64 0) := HQ1.out.cell 0
 have r1 : (w1).cell? ⟨w.heap.size, 1, none⟩ = some (.int .i64 0) := HQ1.out.cell 1
 have f0 := Blk.frozen HQ1.out 0
 have f1 := Blk.frozen HQ1.out 1
 go_wp2_with fail
 have B2 := (HQ1.out.set_ 0 (.int .i64 (a : Int))).set_ 1 (.int .i64 (b : Int))
 have d0 : (((w1).setCell ⟨w.heap.size, 0, none⟩ (.int .i64 (a : Int))).setCell ⟨w.heap.size, 1, none⟩ (.int .i64 (b : Int))).cell? ⟨w.heap.size, 0, none⟩ = some (.int .i64 (a : Int)) := B2.cell 0
 have d1 : (((w1).setCell ⟨w.heap.size, 0, none⟩ (.int .i64 (a : Int))).setCell ⟨w.heap.size, 1, none⟩ (.int .i64 (b : Int))).cell? ⟨w.heap.size, 1, none⟩ = some (.int .i64 (b : Int)) := B2.cell 1
 clear B2 r0 r1 f0 f1
 refine bodyPost_ret (v := .tuple #[.agg #[.int .i64 (a : Int), .int .i64 (b : Int)], .int .i64 n]) (by simp [results, Tryz.results41, go_sem, d0, d1]) rfl (HP.out _ _ ((HE1.out.setCell (.inr (Nat.le_refl _)) _).setCell (.inr (Nat.le_refl _)) _))
section
def putT (ch : Nat -> T) (i : Nat) (t : T) (j : Nat) : T := if j = i then t else ch j
def putP (ac : Nat -> Option Addr × Nat) (i : Nat) (a : Option Addr × Nat) (j : Nat) : Option Addr × Nat := if j = i then a else ac j
theorem putT_self (ch : Nat -> T) (i : Nat) : putT ch i (ch i) = ch := by
 funext j
 unfold putT
 by_cases h : j = i
 . rw [if_pos h, h]
 . rw [if_neg h]
structure GL (Q0 : Nat -> Prop) (N : Nat) (wr : World) (i : Nat) (A : Option Addr) (c : Nat) (ch : Nat -> T) (ac : Nat -> Option Addr × Nat) : Prop where
 nx : N <= wr.heap.size
 own : wr.ownsRow N 86 5 (.slice A i c) i (flatC ch ac i)
 mem : ∀ j, j < i -> IsL wr (fun b => Q0 b /\ A ≠ some ⟨b, 0, none⟩) (ch j) (ac j).1
section
variable {Q0 : Nat -> Prop} {N : Nat} {wr : World} {i : Nat} {A : Option Addr} {c : Nat} {ch : Nat -> T} {ac : Nat -> Option Addr × Nat}
theorem GL.nil (Q0 : Nat -> Prop) {N : Nat} {wr : World} (h : N <= wr.heap.size) (ch : Nat -> T) (ac : Nat -> Option Addr × Nat) : GL Q0 N wr 0 none 0 ch ac := ⟨h, World.ownsRow_nil _ _ _ _, fun j hj => by omega⟩
theorem GL.mod (h : GL Q0 N wr i A c ch ac) {w2 : World} {S : List Nat} (hm : Mod S wr w2) (hS : ∀ k, k ∈ S -> k < N /\ ¬ Q0 k) : GL Q0 N w2 i A c ch ac :=
 ⟨Nat.le_trans h.nx hm.size, ownsRow_mod h.own hm (fun k hk hm => by have := (h.own.lt k hk).1; have := (hS k hm).1; omega), fun j hj => IsL.mod hm (fun k hq _ hk => (hS k hk).2 hq.1) (ch j) (h.mem j hj)⟩
theorem GL.ext (h : GL Q0 N wr i A c ch ac) {w2 : World} (hm : Ext wr w2) : GL Q0 N w2 i A c ch ac := h.mod hm (fun k hk => by cases hk)
theorem GL.own2 (h : GL Q0 N wr i A c ch ac) {w2 : World} (hm : Ext wr w2) (ob : Obj) : (w2.alloc ob).ownsRow N 86 5 (.slice A i c) i (flatC ch ac i) := (h.ext hm).own.alloc ob
theorem GL.room (h : GL Q0 N wr i A c ch ac) {w2 : World} (hm : Ext wr w2) : N <= w2.heap.size := Nat.le_trans h.nx hm.size
theorem GL.turned (h : GL Q0 N wr i A c ch ac) {w2 w4 : World} (hm : Ext wr w2) {ob : Obj} (hgr : (w2.alloc ob).grownBy w4 (Value.slice A i c).ownBlock) : ∃ S, (∀ k, k ∈ S ↔ (Value.slice A i c).ownBlock = some k) /\ Mod S w2 w4 := by
 obtain ⟨S, hS⟩ : ∃ S : List Nat, ∀ k, k ∈ S ↔ (Value.slice A i c).ownBlock = some k := by
  cases A with
  | none => exact ⟨[], fun k => by simp [Value.ownBlock]⟩
  | some a => exact ⟨[a.block], fun k => by simp [Value.ownBlock, eq_comm]⟩
 exact ⟨S, hS, ((Mod.refl S w2).alloc _).grown hgr (fun k hk => .inl ((hS k).2 hk))⟩
theorem GL.keep (h : GL Q0 N wr i A c ch ac) {w2 w4 : World} (hm : Ext wr w2) {ob : Obj} (hgr : (w2.alloc ob).grownBy w4 (Value.slice A i c).ownBlock) {b : Nat} {ty : TypeId} {cs : Array Value} (hB : Blk wr b ty cs) (hbN : b < N) : Blk w4 b ty cs := by
 obtain ⟨S, hS, hm4⟩ := h.turned hm hgr
 exact (hB.ext hm).mod hm4 (fun hk => by have := (h.own.lt b ((hS b).1 hk)).1; omega)
theorem GL.since (h : GL Q0 N wr i A c ch ac) {w w2 w4 : World} (hw : Ext w wr) (hwN : w.heap.size <= N) (hm : Ext wr w2) {ob : Obj} (hgr : (w2.alloc ob).grownBy w4 (Value.slice A i c).ownBlock) : Ext w w4 := by
 obtain ⟨S, hS, hm4⟩ := h.turned hm hgr
 refine Mod.new (S := S) (((hw.trans hm).of_ext).trans hm4) (fun k hk => .inr ?_)
 have := (h.own.lt k ((hS k).1 hk)).1; omega
theorem GL.step (h : GL Q0 N wr i A c ch ac) {w2 w4 : World} (hm : Ext wr w2) {t : T} {At : Option Addr} {ct : Nat} {v' : Value}
  (hL : IsL w2 (fun b => Q0 b /\ (b < N \/ wr.heap.size <= b)) t At)
  (hown : w4.ownsRow N 86 5 v' (i + 1) (flatC ch ac i ++ [.int .i64 t.kind, .int .u64 (t.n : Int), str t.s, .slice At t.k ct, .bool t.op])) {ob : Obj} (hgr : (w2.alloc ob).grownBy w4 (Value.slice A i c).ownBlock)
  (hbl : v'.ownBlock = (Value.slice A i c).ownBlock \/ ∀ k, v'.ownBlock = some k -> w2.heap.size <= k) :
  ∃ g' c', v' = .slice (some ⟨g', 0, none⟩) (i + 1) c' /\ GL Q0 N w4 (i + 1) (some ⟨g', 0, none⟩) c' (putT ch i t) (putP ac i (At, ct)) := by
 obtain ⟨S, hS, hm4⟩ := h.turned hm hgr
 obtain ⟨h8, h11, h12⟩ := h
 obtain ⟨g', c', rfl, hNg, hgl⟩ := own_form hown
 refine ⟨g', c', rfl, ?_⟩
 have hs2 := hm.size
 have hs4 := hm4.size
 have hrow : ∀ k, (Value.slice A i c).ownBlock = some k -> N <= k /\ k < wr.heap.size := h11.lt
 have hA' : ∀ b, b < wr.heap.size -> A ≠ some ⟨b, 0, none⟩ -> (some ⟨g', 0, none⟩ : Option Addr) ≠ some ⟨b, 0, none⟩ := by
  intro b hb hne he
  simp only [Option.some.injEq, Addr.mk.injEq, and_true] at he
  subst he
  rcases hbl with hbl | hbl
  .
   cases A with
   | none => simp [Value.ownBlock] at hbl
   | some a =>
    simp [Value.ownBlock] at hbl
    rcases h11.2 with ⟨hs, _⟩ | ⟨q, cap, cur, hs, _⟩
    . cases hs
    .
     simp only [Value.slice.injEq, Option.some.injEq] at hs
     obtain ⟨rfl, _⟩ := hs
     simp at hbl
     subst hbl
     exact hne rfl
  . have := hbl g' rfl; omega
 refine ⟨by omega, ?_, ?_⟩
 .
  rw [flatC, flatC_congr (ch := putT ch i t) (ac := putP ac i (At, ct)) (ch' := ch) (ac' := ac) (fun j hj => ⟨if_neg (by omega), if_neg (by omega)⟩), show putT ch i t i = t from if_pos rfl, show putP ac i (At, ct) i = (At, ct) from if_pos rfl]
  exact hown
 .
  intro j hj
  by_cases e : j = i
  .
   subst e
   rw [show putT ch j t j = t from if_pos rfl, show putP ac j (At, ct) j = (At, ct) from if_pos rfl]
   have q1 : IsL w2 (fun b => (Q0 b /\ (some ⟨g', 0, none⟩ : Option Addr) ≠ some ⟨b, 0, none⟩) /\ b ∉ S) t At := IsL.weak (fun k hk hq => ⟨⟨hq.1, fun he => by
    simp only [Option.some.injEq, Addr.mk.injEq, and_true] at he
    subst he
    rcases hbl with hbl | hbl
    . have := hrow g' hbl.symm; have := hq.2; omega
    . have := hbl g' rfl; have := hq.2; omega⟩, fun hkS => by have := hrow k ((hS k).1 hkS); have := hq.2; omega⟩) t hL
   exact IsL.weak (fun k hk hq => hq.1) t (IsL.mod hm4 (fun k hq hk hmm => hq.2 hmm) t q1)
  .
   rw [show putT ch i t j = ch j from if_neg e, show putP ac i (At, ct) j = ac j from if_neg e]
   have q0 := IsL.weak (R := fun b => (Q0 b /\ (some ⟨g', 0, none⟩ : Option Addr) ≠ some ⟨b, 0, none⟩) /\ A ≠ some ⟨b, 0, none⟩) (fun k hk hq => ⟨⟨hq.1, hA' k hk hq.2⟩, hq.2⟩) (ch j) (h12 j (by omega))
   have q1 := IsL.mod hm (fun k hq hk hm => by cases hm) (ch j) q0
   have q2 := IsL.mod hm4 (fun k hq hk hm => by
    have hk2 := (hS k).1 hm
    cases A with
    | none => simp [Value.ownBlock] at hk2
    | some a =>
     simp [Value.ownBlock] at hk2
     rcases h11.2 with ⟨hs, _⟩ | ⟨q, cap, cur, hs, _⟩
     . cases hs
     .
      simp only [Value.slice.injEq, Option.some.injEq] at hs
      obtain ⟨rfl, _⟩ := hs
      simp at hk2
      subst hk2
      exact hq.2 rfl) (ch j) q1
   exact IsL.weak (fun k hk hq => hq.1) (ch j) q2
theorem GL.isL (h : GL Q0 N wr i A c ch ac) {Q : Nat -> Prop} (hQ : ∀ b, Q0 b -> Q b) (hN : ∀ b, N <= b -> Q b) (op : Bool) : IsL wr Q (T.mk 4 0 [] op i ch) A := by
 intro h0
 obtain ⟨i', rfl⟩ : ∃ i', i = i' + 1 := ⟨i - 1, by omega⟩
 obtain ⟨g', c', hv, hNg, hgl⟩ := own_form h.own
 simp only [Value.slice.injEq] at hv
 obtain ⟨rfl, _, rfl⟩ := hv
 refine ⟨g', 0, rfl, hgl, hN _ hNg, fun j hj => ⟨(ac j).1, (ac j).2, ?_, IsL.weak (fun k hk hq => hQ _ hq.1) (ch j) (h.mem j hj)⟩⟩
 obtain ⟨f0, f1, f2, f3, f4⟩ := flatC_get ch ac (i' + 1) j hj
 refine ⟨?_, ?_, ?_, ?_, ?_⟩
 . rw [Nat.zero_add]; exact own_cells h.own f0
 . rw [Nat.zero_add]; exact own_cells h.own f1
 . rw [Nat.zero_add]; exact own_cells h.own f2
 . rw [Nat.zero_add]; exact own_cells h.own f3
 . rw [Nat.zero_add]; exact own_cells h.own f4
end
end
end Go.Proofs.YthecmnbkjchjmaaGreat
