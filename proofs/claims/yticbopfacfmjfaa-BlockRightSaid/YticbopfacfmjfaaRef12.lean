/-
  The reference's blocks: bytes, header.
-/
import Derived.Test.YticbopfacfmjfaaRef04b
import Derived.Test.YticbopfacfmjfaaBlk7
import Derived.Test.YticbopfacfmjfaaRef01
import Derived.Test.YticbopfacfmjfaaStrs
import Derived.Test.YticbopfacfmjfaaQx
namespace Go.Proofs.Yticbopfacfmjfaa
open Go.RowKit
set_option linter.unusedVariables false

set_option maxRecDepth 20000 in
theorem R4B_1 (l : List UInt8) (hl : Hid (l.length < 1000000)) (w : World) : Calls Try.prog 25 #[.int .i64 1, str l] w (Ret (str (be (Crc.x25 l) 2)) w) := by
  have hd : Crc.x25 l < 65536 := by unfold Crc.x25; omega
  have K := hid (fun W => Sum16 l hl W)
  generalize Crc.x25 l = d at *
  have hcv : ∀ W : World, (convert 27 9 (.slice (some ⟨W.heap.size, 0, none⟩) 2 2)).run Try.prog (W.alloc (.cells #[.int .u8 ((d : Int) / 256), .int .u8 ((d : Int) % 256)] 5)) = .ok (str (be d 2)) (W.alloc (.cells #[.int .u8 ((d : Int) / 256), .int .u8 ((d : Int) % 256)] 5)) := fun W => by
    have := conv_new (be d 2) 2 W
    rw [be_length, be2 hd] at this
    simpa [b8_cast (show d / 256 < 256 by omega), b8_cast (show d % 256 < 256 by omega), be2 hd] using this
  go_enter Try.func25, Try.ntmps25
  go_wp2_with fail
  refine (K.out _).mono ?_
  rintro e w1 ⟨rfl, hb1⟩
  go_wp2_with fail
  go_ret
  exact Ret.mk rfl (hb1.alloc _)
set_option maxRecDepth 20000 in
theorem R4B_2 (l : List UInt8) (hl : Hid (l.length < 1000000)) (w : World) : Calls Try.prog 25 #[.int .i64 2, str l] w (Ret (str (be (Crc.cast l) 4)) w) := by
  have hd : Crc.cast l < 4294967296 := by unfold Crc.cast; omega
  have K := hid (fun W => Sum32 l hl W)
  generalize Crc.cast l = d at *
  have hcv : ∀ W : World, (convert 27 9 (.slice (some ⟨W.heap.size, 0, none⟩) 4 4)).run Try.prog (W.alloc (.cells #[.int .u8 ((d : Int) / 16777216), .int .u8 ((d : Int) / 65536 % 256), .int .u8 ((d : Int) / 256 % 256), .int .u8 ((d : Int) % 256)] 5)) = .ok (str (be d 4)) (W.alloc (.cells #[.int .u8 ((d : Int) / 16777216), .int .u8 ((d : Int) / 65536 % 256), .int .u8 ((d : Int) / 256 % 256), .int .u8 ((d : Int) % 256)] 5)) := fun W => by
    have := conv_new (be d 4) 4 W
    rw [be_length, be4 hd] at this
    simpa [b8_cast (show d / 16777216 < 256 by omega), b8_cast (show d / 65536 % 256 < 256 by omega), b8_cast (show d / 256 % 256 < 256 by omega), b8_cast (show d % 256 < 256 by omega), be4 hd] using this
  go_enter Try.func25, Try.ntmps25
  go_wp2_with fail
  refine (K.out _).mono ?_
  rintro e w1 ⟨rfl, hb1⟩
  go_wp2_with fail
  go_ret
  exact Ret.mk rfl (hb1.alloc _)
theorem R4B_0 (l : List UInt8) (w : World) : Calls Try.prog 25 #[.int .i64 0, str l] w (Ret (str []) w) := by
  go_enter Try.func25, Try.ntmps25
  go_wp2_with fail
  go_ret
  exact Ret.mk rfl (Mod.refl _ _)
theorem R4B_any (k : Nat) (h2 : k ≤ 2) (l : List UInt8) (hl : Hid (l.length < 1000000)) (w : World) : Calls Try.prog 25 #[.int .i64 (k : Int), str l] w (Ret (str (if k = 0 then [] else Crc.sumL k l)) w) := by
  have : k = 0 ∨ k = 1 ∨ k = 2 := by omega
  rcases this with rfl | rfl | rfl
  · exact R4B_0 l w
  · exact R4B_1 l hl w
  · exact R4B_2 l hl w

abbrev numsV (ty num fl crc : Nat) : Value := .agg #[.int .u64 (ty : Int), .int .u64 (num : Int), .int .u64 (fl : Int), .int .u64 (crc : Int)]
set_option maxRecDepth 20000 in
theorem nums_any (ty num fl crc : Nat) (data : List UInt8) (h1 : ty ≤ 65535) (h2 : num ≤ 65535) (h3 : crc ≤ 2) (w : World) : Calls Try.prog 24 #[BV.v ⟨ty, num, fl, crc, data⟩] w (Ret (numsV ty num fl crc) w) := by
  have t1 : IntKind.u64.wrap (ty : Int) = (ty : Int) := IntWalk.u64_in _ (by omega)
  have t2 : IntKind.u64.wrap (num : Int) = (num : Int) := IntWalk.u64_in _ (by omega)
  have t3 : IntKind.u64.wrap (crc : Int) = (crc : Int) := IntWalk.u64_in _ (by omega)
  go_enter Try.func24, Try.ntmps24
  go_wp2_with fail
  refine bodyPost_ret (v := numsV ty num fl crc) (by simp [results, Try.results24, go_sem]) rfl (Ret.mk rfl (((Mod.refl _ _).alloc _).alloc _))
def num4 (ty num fl crc i : Nat) : Nat := if i = 0 then ty else if i = 1 then num else if i = 2 then fl else crc
def cat4 (ty num fl crc : Nat) (j : Nat) : List UInt8 := T.cat (fun i => headL 0 (num4 ty num fl crc i)) j
theorem cat4_le (ty num fl crc : Nat) : ∀ j, (cat4 ty num fl crc j).length ≤ 9 * j
  | 0 => by simp [cat4, T.cat]
  | j + 1 => by
    have h := cat4_le ty num fl crc j
    have := headL_le 0 (num4 ty num fl crc j)
    unfold cat4 at h ⊢
    rw [T.cat, List.length_append]
    omega
theorem rHead_n (m n : Nat) (hm : m ≤ 7) (hn : n < 18446744073709551616) (w : World) : Calls Try.prog 23 #[.int .i64 (m : Int), .int .u64 (n : Int)] w (Ret (str (headL m n)) w) := by
  simpa using rhead_in (m : Int) (n : Int) (by omega) (by omega) (by omega) (by omega) w

set_option maxRecDepth 20000 in
set_option maxHeartbeats 800000 in
theorem rbytes_0 (ty num fl : Nat) (data sum : List UInt8) (h1 : Hid (ty ≤ 65535)) (h2 : Hid (num ≤ 65535)) (h3 : Hid (fl ≤ 255)) (hd : Hid (data.length ≤ 4000)) (hs : Hid (sum.length ≤ 4000)) (w : World) : Calls Try.prog 26 #[numsV ty num fl 0, str data, str sum] w (Ret (str (blkB ty num fl 0 data sum)) w) := by
  have HC : Hid (∀ W, Ext (w.alloc (.cells #[.int .u64 (ty : Int), .int .u64 (num : Int), .int .u64 (fl : Int), .int .u64 0] 48)) W → ∀ j, j < 4 → W.cell? ⟨w.heap.size, j, none⟩ = some (.int .u64 ((num4 ty num fl 0 j : Nat) : Int))) := fun W hW j hj => by
    have hB := (Blk.new w 48 #[.int .u64 (ty : Int), .int .u64 (num : Int), .int .u64 (fl : Int), .int .u64 0]).ext hW
    have h4 : j = 0 ∨ j = 1 ∨ j = 2 ∨ j = 3 := by omega
    rcases h4 with rfl | rfl | rfl | rfl
    · exact hB.cell 0
    · exact hB.cell 1
    · exact hB.cell 2
    · exact hB.cell 3
  have HN : Hid (∀ j, num4 ty num fl 0 j < 18446744073709551616) := fun j => by
    have := h1.out; have := h2.out; have := h3.out
    unfold num4
    split
    · omega
    · split
      · omega
      · split <;> omega
  have K5 := hid (fun W => rBytes_any data (by have := hd.out; unfold Hid; omega) W)
  have K6 := hid (fun W => rBytes_any sum (by have := hs.out; unfold Hid; omega) W)
  have KH := hid (fun W => rHead_n 4 5 (by omega) (by omega) W)
  have HE := hid ((Mod.refl [] w).alloc (.cells #[.int .u64 (ty : Int), .int .u64 (num : Int), .int .u64 (fl : Int), .int .u64 0] 48))
  have hblk : blkB ty num fl 0 data sum = (headL 4 5 ++ cat4 ty num fl 0 4) ++ (headL 2 data.length ++ data) := by
    simp [blkB, cat4, T.cat, num4]
  have HBK := hid hblk; clear hblk
  go_enter Try.func26, Try.ntmps26
  go_wp2_with fail
  generalize w.alloc (.cells #[.int .u64 (ty : Int), .int .u64 (num : Int), .int .u64 (fl : Int), .int .u64 0] 48) = V at *
  refine (KH.out _).mono ?_
  rintro e w1 ⟨rfl, hb1⟩
  have HB1 := hid hb1
  clear hb1
  go_wp2_with fail
  have hh4 := headL_le 4 5
  generalize headL 4 5 = P at *
  go_loopw [8, 9] (fun s i wr => ∃ j : Nat, j ≤ 4 ∧ i = .int .i64 j ∧ s = str (P ++ cat4 ty num fl 0 j) ∧ Ext V wr) (fun _ i _ => 4 - (intOf i).toNat)
  case atStart => exact ⟨0, Nat.zero_le _, rfl, by simp [cat4, T.cat], HB1.out⟩
  case round =>
    obtain ⟨j, hj, rfl, rfl, hw⟩ := hrel
    have hcl := cat4_le ty num fl 0 j
    by_cases hlt : j < 4
    · have hcell := HC.out wr hw j hlt
      have HS : Hid (cat4 ty num fl 0 (j + 1) = cat4 ty num fl 0 j ++ headL 0 (num4 ty num fl 0 j)) := rfl
      have K := hid (fun W => rHead_n 0 (num4 ty num fl 0 j) (by omega) (HN.out j) W)
      have hl2 := headL_le 0 (num4 ty num fl 0 j)
      generalize num4 ty num fl 0 j = x at *
      generalize headL 0 x = y at *
      generalize cat4 ty num fl 0 j = z at *
      have HW := hid hw
      clear hw
      go_wp2_with fail
      refine (K.out _).mono ?_
      rintro e w2 ⟨rfl, hb2⟩
      have hlen : (P ++ z).length + y.length ≤ 100 := by rw [List.length_append]; omega
      generalize hq : P ++ z = q at *
      have HQ := hid hq; clear hq
      have hlx : ¬ 9223372036854775807 < q.length + y.length := by omega
      go_wp2_with fail
      go_roundw
      case rel => exact ⟨j + 1, by omega, by go_num, by rw [HS.out, ← List.append_assoc, HQ.out]; exact str_app _ _, HW.out.trans hb2⟩
      case measure => simp [intOf]; omega
    · obtain rfl : j = 4 := by omega
      have HW := hid hw
      clear hw
      have hp2 : (P ++ cat4 ty num fl 0 4).length ≤ 100 := by rw [List.length_append]; omega
      generalize P ++ cat4 ty num fl 0 4 = q at *
      go_wp2_with fail
      refine (K5.out _).mono ?_
      rintro e w2 ⟨rfl, hb2⟩
      have HB2 := hid (HW.out.trans hb2)
      clear hb2
      have hd2 : (headL 2 data.length ++ data).length ≤ 5000 := by have := headL_le 2 data.length; have := hd.out; rw [List.length_append]; omega
      have hs2 : (headL 2 sum.length ++ sum).length ≤ 5000 := by have := headL_le 2 sum.length; have := hs.out; rw [List.length_append]; omega
      generalize headL 2 data.length ++ data = dd at *
      generalize headL 2 sum.length ++ sum = ss at *
      have hlx : ¬ 9223372036854775807 < q.length + dd.length := by omega
      go_wp2_with fail
      go_ret
      refine Ret.mk ?_ (HE.out.trans HB2.out)
      rw [HBK.out]
      exact str_app _ _

set_option maxRecDepth 20000 in
set_option maxHeartbeats 800000 in
theorem rbytes_1 (ty num fl : Nat) (data sum : List UInt8) (h1 : Hid (ty ≤ 65535)) (h2 : Hid (num ≤ 65535)) (h3 : Hid (fl ≤ 255)) (hd : Hid (data.length ≤ 4000)) (hs : Hid (sum.length ≤ 4000)) (w : World) : Calls Try.prog 26 #[numsV ty num fl 1, str data, str sum] w (Ret (str (blkB ty num fl 1 data sum)) w) := by
  have HC : Hid (∀ W, Ext (w.alloc (.cells #[.int .u64 (ty : Int), .int .u64 (num : Int), .int .u64 (fl : Int), .int .u64 1] 48)) W → ∀ j, j < 4 → W.cell? ⟨w.heap.size, j, none⟩ = some (.int .u64 ((num4 ty num fl 1 j : Nat) : Int))) := fun W hW j hj => by
    have hB := (Blk.new w 48 #[.int .u64 (ty : Int), .int .u64 (num : Int), .int .u64 (fl : Int), .int .u64 1]).ext hW
    have h4 : j = 0 ∨ j = 1 ∨ j = 2 ∨ j = 3 := by omega
    rcases h4 with rfl | rfl | rfl | rfl
    · exact hB.cell 0
    · exact hB.cell 1
    · exact hB.cell 2
    · exact hB.cell 3
  have HN : Hid (∀ j, num4 ty num fl 1 j < 18446744073709551616) := fun j => by
    have := h1.out; have := h2.out; have := h3.out
    unfold num4
    split
    · omega
    · split
      · omega
      · split <;> omega
  have K5 := hid (fun W => rBytes_any data (by have := hd.out; unfold Hid; omega) W)
  have K6 := hid (fun W => rBytes_any sum (by have := hs.out; unfold Hid; omega) W)
  have KH := hid (fun W => rHead_n 4 6 (by omega) (by omega) W)
  have HE := hid ((Mod.refl [] w).alloc (.cells #[.int .u64 (ty : Int), .int .u64 (num : Int), .int .u64 (fl : Int), .int .u64 1] 48))
  have hblk : blkB ty num fl 1 data sum = (headL 4 6 ++ cat4 ty num fl 1 4) ++ (headL 2 data.length ++ data) ++ (headL 2 sum.length ++ sum) := by
    simp [blkB, cat4, T.cat, num4]
  have HBK := hid hblk; clear hblk
  go_enter Try.func26, Try.ntmps26
  go_wp2_with fail
  generalize w.alloc (.cells #[.int .u64 (ty : Int), .int .u64 (num : Int), .int .u64 (fl : Int), .int .u64 1] 48) = V at *
  refine (KH.out _).mono ?_
  rintro e w1 ⟨rfl, hb1⟩
  have HB1 := hid hb1
  clear hb1
  go_wp2_with fail
  have hh4 := headL_le 4 6
  generalize headL 4 6 = P at *
  go_loopw [8, 9] (fun s i wr => ∃ j : Nat, j ≤ 4 ∧ i = .int .i64 j ∧ s = str (P ++ cat4 ty num fl 1 j) ∧ Ext V wr) (fun _ i _ => 4 - (intOf i).toNat)
  case atStart => exact ⟨0, Nat.zero_le _, rfl, by simp [cat4, T.cat], HB1.out⟩
  case round =>
    obtain ⟨j, hj, rfl, rfl, hw⟩ := hrel
    have hcl := cat4_le ty num fl 1 j
    by_cases hlt : j < 4
    · have hcell := HC.out wr hw j hlt
      have HS : Hid (cat4 ty num fl 1 (j + 1) = cat4 ty num fl 1 j ++ headL 0 (num4 ty num fl 1 j)) := rfl
      have K := hid (fun W => rHead_n 0 (num4 ty num fl 1 j) (by omega) (HN.out j) W)
      have hl2 := headL_le 0 (num4 ty num fl 1 j)
      generalize num4 ty num fl 1 j = x at *
      generalize headL 0 x = y at *
      generalize cat4 ty num fl 1 j = z at *
      have HW := hid hw
      clear hw
      go_wp2_with fail
      refine (K.out _).mono ?_
      rintro e w2 ⟨rfl, hb2⟩
      have hlen : (P ++ z).length + y.length ≤ 100 := by rw [List.length_append]; omega
      generalize hq : P ++ z = q at *
      have HQ := hid hq; clear hq
      have hlx : ¬ 9223372036854775807 < q.length + y.length := by omega
      go_wp2_with fail
      go_roundw
      case rel => exact ⟨j + 1, by omega, by go_num, by rw [HS.out, ← List.append_assoc, HQ.out]; exact str_app _ _, HW.out.trans hb2⟩
      case measure => simp [intOf]; omega
    · obtain rfl : j = 4 := by omega
      have HW := hid hw
      clear hw
      have hp2 : (P ++ cat4 ty num fl 1 4).length ≤ 100 := by rw [List.length_append]; omega
      generalize P ++ cat4 ty num fl 1 4 = q at *
      go_wp2_with fail
      refine (K5.out _).mono ?_
      rintro e w2 ⟨rfl, hb2⟩
      have HB2 := hid (HW.out.trans hb2)
      clear hb2
      have hd2 : (headL 2 data.length ++ data).length ≤ 5000 := by have := headL_le 2 data.length; have := hd.out; rw [List.length_append]; omega
      have hs2 : (headL 2 sum.length ++ sum).length ≤ 5000 := by have := headL_le 2 sum.length; have := hs.out; rw [List.length_append]; omega
      generalize headL 2 data.length ++ data = dd at *
      generalize headL 2 sum.length ++ sum = ss at *
      have hlx : ¬ 9223372036854775807 < q.length + dd.length := by omega
      go_wp2_with fail
      refine (K6.out _).mono ?_
      rintro e w3 ⟨rfl, hb3⟩
      have HB3 := hid (HB2.out.trans hb3)
      clear hb3
      have hq3 : (q ++ dd).length ≤ 10000 := by rw [List.length_append]; omega
      rw [str_app q dd]
      generalize hqd : q ++ dd = r at *
      have HQD := hid hqd; clear hqd
      have hly : ¬ 9223372036854775807 < r.length + ss.length := by omega
      go_wp2_with fail
      go_ret
      refine Ret.mk ?_ (HE.out.trans HB3.out)
      rw [HBK.out]
      exact str_app _ _

set_option maxRecDepth 20000 in
set_option maxHeartbeats 800000 in
theorem rbytes_2 (ty num fl : Nat) (data sum : List UInt8) (h1 : Hid (ty ≤ 65535)) (h2 : Hid (num ≤ 65535)) (h3 : Hid (fl ≤ 255)) (hd : Hid (data.length ≤ 4000)) (hs : Hid (sum.length ≤ 4000)) (w : World) : Calls Try.prog 26 #[numsV ty num fl 2, str data, str sum] w (Ret (str (blkB ty num fl 2 data sum)) w) := by
  have HC : Hid (∀ W, Ext (w.alloc (.cells #[.int .u64 (ty : Int), .int .u64 (num : Int), .int .u64 (fl : Int), .int .u64 2] 48)) W → ∀ j, j < 4 → W.cell? ⟨w.heap.size, j, none⟩ = some (.int .u64 ((num4 ty num fl 2 j : Nat) : Int))) := fun W hW j hj => by
    have hB := (Blk.new w 48 #[.int .u64 (ty : Int), .int .u64 (num : Int), .int .u64 (fl : Int), .int .u64 2]).ext hW
    have h4 : j = 0 ∨ j = 1 ∨ j = 2 ∨ j = 3 := by omega
    rcases h4 with rfl | rfl | rfl | rfl
    · exact hB.cell 0
    · exact hB.cell 1
    · exact hB.cell 2
    · exact hB.cell 3
  have HN : Hid (∀ j, num4 ty num fl 2 j < 18446744073709551616) := fun j => by
    have := h1.out; have := h2.out; have := h3.out
    unfold num4
    split
    · omega
    · split
      · omega
      · split <;> omega
  have K5 := hid (fun W => rBytes_any data (by have := hd.out; unfold Hid; omega) W)
  have K6 := hid (fun W => rBytes_any sum (by have := hs.out; unfold Hid; omega) W)
  have KH := hid (fun W => rHead_n 4 6 (by omega) (by omega) W)
  have HE := hid ((Mod.refl [] w).alloc (.cells #[.int .u64 (ty : Int), .int .u64 (num : Int), .int .u64 (fl : Int), .int .u64 2] 48))
  have hblk : blkB ty num fl 2 data sum = (headL 4 6 ++ cat4 ty num fl 2 4) ++ (headL 2 data.length ++ data) ++ (headL 2 sum.length ++ sum) := by
    simp [blkB, cat4, T.cat, num4]
  have HBK := hid hblk; clear hblk
  go_enter Try.func26, Try.ntmps26
  go_wp2_with fail
  generalize w.alloc (.cells #[.int .u64 (ty : Int), .int .u64 (num : Int), .int .u64 (fl : Int), .int .u64 2] 48) = V at *
  refine (KH.out _).mono ?_
  rintro e w1 ⟨rfl, hb1⟩
  have HB1 := hid hb1
  clear hb1
  go_wp2_with fail
  have hh4 := headL_le 4 6
  generalize headL 4 6 = P at *
  go_loopw [8, 9] (fun s i wr => ∃ j : Nat, j ≤ 4 ∧ i = .int .i64 j ∧ s = str (P ++ cat4 ty num fl 2 j) ∧ Ext V wr) (fun _ i _ => 4 - (intOf i).toNat)
  case atStart => exact ⟨0, Nat.zero_le _, rfl, by simp [cat4, T.cat], HB1.out⟩
  case round =>
    obtain ⟨j, hj, rfl, rfl, hw⟩ := hrel
    have hcl := cat4_le ty num fl 2 j
    by_cases hlt : j < 4
    · have hcell := HC.out wr hw j hlt
      have HS : Hid (cat4 ty num fl 2 (j + 1) = cat4 ty num fl 2 j ++ headL 0 (num4 ty num fl 2 j)) := rfl
      have K := hid (fun W => rHead_n 0 (num4 ty num fl 2 j) (by omega) (HN.out j) W)
      have hl2 := headL_le 0 (num4 ty num fl 2 j)
      generalize num4 ty num fl 2 j = x at *
      generalize headL 0 x = y at *
      generalize cat4 ty num fl 2 j = z at *
      have HW := hid hw
      clear hw
      go_wp2_with fail
      refine (K.out _).mono ?_
      rintro e w2 ⟨rfl, hb2⟩
      have hlen : (P ++ z).length + y.length ≤ 100 := by rw [List.length_append]; omega
      generalize hq : P ++ z = q at *
      have HQ := hid hq; clear hq
      have hlx : ¬ 9223372036854775807 < q.length + y.length := by omega
      go_wp2_with fail
      go_roundw
      case rel => exact ⟨j + 1, by omega, by go_num, by rw [HS.out, ← List.append_assoc, HQ.out]; exact str_app _ _, HW.out.trans hb2⟩
      case measure => simp [intOf]; omega
    · obtain rfl : j = 4 := by omega
      have HW := hid hw
      clear hw
      have hp2 : (P ++ cat4 ty num fl 2 4).length ≤ 100 := by rw [List.length_append]; omega
      generalize P ++ cat4 ty num fl 2 4 = q at *
      go_wp2_with fail
      refine (K5.out _).mono ?_
      rintro e w2 ⟨rfl, hb2⟩
      have HB2 := hid (HW.out.trans hb2)
      clear hb2
      have hd2 : (headL 2 data.length ++ data).length ≤ 5000 := by have := headL_le 2 data.length; have := hd.out; rw [List.length_append]; omega
      have hs2 : (headL 2 sum.length ++ sum).length ≤ 5000 := by have := headL_le 2 sum.length; have := hs.out; rw [List.length_append]; omega
      generalize headL 2 data.length ++ data = dd at *
      generalize headL 2 sum.length ++ sum = ss at *
      have hlx : ¬ 9223372036854775807 < q.length + dd.length := by omega
      go_wp2_with fail
      refine (K6.out _).mono ?_
      rintro e w3 ⟨rfl, hb3⟩
      have HB3 := hid (HB2.out.trans hb3)
      clear hb3
      have hq3 : (q ++ dd).length ≤ 10000 := by rw [List.length_append]; omega
      rw [str_app q dd]
      generalize hqd : q ++ dd = r at *
      have HQD := hid hqd; clear hqd
      have hly : ¬ 9223372036854775807 < r.length + ss.length := by omega
      go_wp2_with fail
      go_ret
      refine Ret.mk ?_ (HE.out.trans HB3.out)
      rw [HBK.out]
      exact str_app _ _

theorem rbytes_any (ty num fl crc : Nat) (hc : crc ≤ 2) (data sum : List UInt8) (h1 : Hid (ty ≤ 65535)) (h2 : Hid (num ≤ 65535)) (h3 : Hid (fl ≤ 255)) (hd : Hid (data.length ≤ 4000)) (hs : Hid (sum.length ≤ 4000)) (w : World) : Calls Try.prog 26 #[numsV ty num fl crc, str data, str sum] w (Ret (str (blkB ty num fl crc data sum)) w) := by
  have : crc = 0 ∨ crc = 1 ∨ crc = 2 := by omega
  rcases this with rfl | rfl | rfl
  · exact rbytes_0 ty num fl data sum h1 h2 h3 hd hs w
  · exact rbytes_1 ty num fl data sum h1 h2 h3 hd hs w
  · exact rbytes_2 ty num fl data sum h1 h2 h3 hd hs w
end Go.Proofs.Yticbopfacfmjfaa
