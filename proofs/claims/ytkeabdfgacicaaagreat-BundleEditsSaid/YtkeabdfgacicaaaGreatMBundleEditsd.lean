/-
  The reference's blocks: bytes, header.
  The reference's blocks, built.
  Primaries: flags; why one is not right, as the reference tells it.
  Primaries: why one is not right, as the code tells it.
-/
import Derived.Test.YtkeabdfgacicaaaGreatMBundleEditsc
import Derived.Laws.BitsAllLaws

namespace Go.Proofs.YtkeabdfgacicaaaGreat
open Go.RowKit
set_option linter.unusedVariables false
set_option linter.unusedSimpArgs false

set_option maxRecDepth 20000 in
theorem R4B_1 (l : List UInt8) (hl : Hid (l.length < 1000000)) (w : World) : Calls Tryz.prog 55 #[.int .i64 1, str l] w (Ret (str (be (Crc.x25 l) 2)) w) := by
  have hd : Crc.x25 l < 65536 := by unfold Crc.x25; omega
  have K := hid (fun W => Sum16 l hl W)
  generalize Crc.x25 l = d at *
  have hcv : ∀ W : World, (convert 89 9 (.slice (some ⟨W.heap.size, 0, none⟩) 2 2)).run Tryz.prog (W.alloc (.cells #[.int .u8 ((d : Int) / 256), .int .u8 ((d : Int) % 256)] 5)) = .ok (str (be d 2)) (W.alloc (.cells #[.int .u8 ((d : Int) / 256), .int .u8 ((d : Int) % 256)] 5)) := fun W => by
    have := conv_new (be d 2) 2 W
    rw [be_length, be2 hd] at this
    simpa [b8_cast (show d / 256 < 256 by omega), b8_cast (show d % 256 < 256 by omega), be2 hd] using this
  go_enter Tryz.func55, Tryz.ntmps55
  go_wp2_with fail
  refine (K.out _).mono ?_
  rintro e w1 ⟨rfl, hb1⟩
  go_wp2_with fail
  go_ret
  exact Ret.mk rfl (hb1.alloc _)
set_option maxRecDepth 20000 in
theorem R4B_2 (l : List UInt8) (hl : Hid (l.length < 1000000)) (w : World) : Calls Tryz.prog 55 #[.int .i64 2, str l] w (Ret (str (be (Crc.cast l) 4)) w) := by
  have hd : Crc.cast l < 4294967296 := by unfold Crc.cast; omega
  have K := hid (fun W => Sum32 l hl W)
  generalize Crc.cast l = d at *
  have hcv : ∀ W : World, (convert 89 9 (.slice (some ⟨W.heap.size, 0, none⟩) 4 4)).run Tryz.prog (W.alloc (.cells #[.int .u8 ((d : Int) / 16777216), .int .u8 ((d : Int) / 65536 % 256), .int .u8 ((d : Int) / 256 % 256), .int .u8 ((d : Int) % 256)] 5)) = .ok (str (be d 4)) (W.alloc (.cells #[.int .u8 ((d : Int) / 16777216), .int .u8 ((d : Int) / 65536 % 256), .int .u8 ((d : Int) / 256 % 256), .int .u8 ((d : Int) % 256)] 5)) := fun W => by
    have := conv_new (be d 4) 4 W
    rw [be_length, be4 hd] at this
    simpa [b8_cast (show d / 16777216 < 256 by omega), b8_cast (show d / 65536 % 256 < 256 by omega), b8_cast (show d / 256 % 256 < 256 by omega), b8_cast (show d % 256 < 256 by omega), be4 hd] using this
  go_enter Tryz.func55, Tryz.ntmps55
  go_wp2_with fail
  refine (K.out _).mono ?_
  rintro e w1 ⟨rfl, hb1⟩
  go_wp2_with fail
  go_ret
  exact Ret.mk rfl (hb1.alloc _)
theorem R4B_0 (l : List UInt8) (w : World) : Calls Tryz.prog 55 #[.int .i64 0, str l] w (Ret (str []) w) := by
  go_enter Tryz.func55, Tryz.ntmps55
  go_wp2_with fail
  go_ret
  exact Ret.mk rfl (Mod.refl _ _)
theorem R4B_any (k : Nat) (h2 : k ≤ 2) (l : List UInt8) (hl : Hid (l.length < 1000000)) (w : World) : Calls Tryz.prog 55 #[.int .i64 (k : Int), str l] w (Ret (str (if k = 0 then [] else Crc.sumL k l)) w) := by
  have : k = 0 ∨ k = 1 ∨ k = 2 := by omega
  rcases this with rfl | rfl | rfl
  · exact R4B_0 l w
  · exact R4B_1 l hl w
  · exact R4B_2 l hl w

abbrev numsV (ty num fl crc : Nat) : Value := .agg #[.int .u64 (ty : Int), .int .u64 (num : Int), .int .u64 (fl : Int), .int .u64 (crc : Int)]
set_option maxRecDepth 20000 in
theorem nums_any (ty num fl crc : Nat) (data : List UInt8) (h1 : ty ≤ 65535) (h2 : num ≤ 65535) (h3 : crc ≤ 2) (w : World) : Calls Tryz.prog 57 #[BV.v ⟨ty, num, fl, crc, data⟩] w (Ret (numsV ty num fl crc) w) := by
  have t1 : IntKind.u64.wrap (ty : Int) = (ty : Int) := IntWalk.u64_in _ (by omega)
  have t2 : IntKind.u64.wrap (num : Int) = (num : Int) := IntWalk.u64_in _ (by omega)
  have t3 : IntKind.u64.wrap (crc : Int) = (crc : Int) := IntWalk.u64_in _ (by omega)
  go_enter Tryz.func57, Tryz.ntmps57
  go_wp2_with fail
  refine bodyPost_ret (v := numsV ty num fl crc) (by simp [results, Tryz.results57, go_sem]) rfl (Ret.mk rfl (((Mod.refl _ _).alloc _).alloc _))
def num4 (ty num fl crc i : Nat) : Nat := if i = 0 then ty else if i = 1 then num else if i = 2 then fl else crc
def cat4 (ty num fl crc : Nat) (j : Nat) : List UInt8 := T.cat (fun i => headL 0 (num4 ty num fl crc i)) j
theorem cat4_le (ty num fl crc : Nat) : ∀ j, (cat4 ty num fl crc j).length ≤ 9 * j
  | 0 => by simp [cat4, T.cat]
  | j + 1 => by
    have h := cat4_le ty num fl crc j
    have := headL_le 0 (num4 ty num fl crc j)
    unfold cat4 at h ⊢
    rw [T.cat, List.length_append]
    omega
theorem rHead_n (m n : Nat) (hm : m ≤ 7) (hn : n < 18446744073709551616) (w : World) : Calls Tryz.prog 89 #[.int .i64 (m : Int), .int .u64 (n : Int)] w (Ret (str (headL m n)) w) := by
  simpa using rhead_in (m : Int) (n : Int) (by omega) (by omega) (by omega) (by omega) w

set_option maxRecDepth 20000 in
set_option maxHeartbeats 800000 in
theorem rbytes_0 (ty num fl : Nat) (data sum : List UInt8) (h1 : Hid (ty ≤ 65535)) (h2 : Hid (num ≤ 65535)) (h3 : Hid (fl ≤ 255)) (hd : Hid (data.length ≤ 4000)) (hs : Hid (sum.length ≤ 4000)) (w : World) : Calls Tryz.prog 58 #[numsV ty num fl 0, str data, str sum] w (Ret (str (blkB ty num fl 0 data sum)) w) := by
  have HC : Hid (∀ W, Ext (w.alloc (.cells #[.int .u64 (ty : Int), .int .u64 (num : Int), .int .u64 (fl : Int), .int .u64 0] 90)) W → ∀ j, j < 4 → W.cell? ⟨w.heap.size, j, none⟩ = some (.int .u64 ((num4 ty num fl 0 j : Nat) : Int))) := fun W hW j hj => by
    have hB := (Blk.new w 90 #[.int .u64 (ty : Int), .int .u64 (num : Int), .int .u64 (fl : Int), .int .u64 0]).ext hW
    have h4 : j = 0 ∨ j = 1 ∨ j = 2 ∨ j = 3 := by omega
    rcases h4 with rfl | rfl | rfl | rfl
    · exact hB.cell 0
    · exact hB.cell 1
    · exact hB.cell 2
    · exact hB.cell 3
  have HN : Hid (∀ j, num4 ty num fl 0 j < 18446744073709551616) := fun j => by
    have := h1.out; have := h2.out; have := h3.out
    unfold num4
    split
    · omega
    · split
      · omega
      · split <;> omega
  have K5 := hid (fun W => rBytes_any data (by have := hd.out; unfold Hid; omega) W)
  have K6 := hid (fun W => rBytes_any sum (by have := hs.out; unfold Hid; omega) W)
  have KH := hid (fun W => rHead_n 4 5 (by omega) (by omega) W)
  have HE := hid ((Mod.refl [] w).alloc (.cells #[.int .u64 (ty : Int), .int .u64 (num : Int), .int .u64 (fl : Int), .int .u64 0] 90))
  have hblk : blkB ty num fl 0 data sum = (headL 4 5 ++ cat4 ty num fl 0 4) ++ (headL 2 data.length ++ data) := by
    simp [blkB, cat4, T.cat, num4]
  have HBK := hid hblk; clear hblk
  go_enter Tryz.func58, Tryz.ntmps58
  go_wp2_with fail
  generalize w.alloc (.cells #[.int .u64 (ty : Int), .int .u64 (num : Int), .int .u64 (fl : Int), .int .u64 0] 90) = V at *
  refine (KH.out _).mono ?_
  rintro e w1 ⟨rfl, hb1⟩
  have HB1 := hid hb1
  clear hb1
  go_wp2_with fail
  have hh4 := headL_le 4 5
  generalize headL 4 5 = P at *
  go_loopw [8, 9] (fun s i wr => ∃ j : Nat, j ≤ 4 ∧ i = .int .i64 j ∧ s = str (P ++ cat4 ty num fl 0 j) ∧ Ext V wr) (fun _ i _ => 4 - (intOf i).toNat)
  case atStart => exact ⟨0, Nat.zero_le _, rfl, by simp [cat4, T.cat], HB1.out⟩
  case round =>
    obtain ⟨j, hj, rfl, rfl, hw⟩ := hrel
    have hcl := cat4_le ty num fl 0 j
    by_cases hlt : j < 4
    · have hcell := HC.out wr hw j hlt
      have HS : Hid (cat4 ty num fl 0 (j + 1) = cat4 ty num fl 0 j ++ headL 0 (num4 ty num fl 0 j)) := rfl
      have K := hid (fun W => rHead_n 0 (num4 ty num fl 0 j) (by omega) (HN.out j) W)
      have hl2 := headL_le 0 (num4 ty num fl 0 j)
      generalize num4 ty num fl 0 j = x at *
      generalize headL 0 x = y at *
      generalize cat4 ty num fl 0 j = z at *
      have HW := hid hw
      clear hw
      go_wp2_with fail
      refine (K.out _).mono ?_
      rintro e w2 ⟨rfl, hb2⟩
      have hlen : (P ++ z).length + y.length ≤ 100 := by rw [List.length_append]; omega
      generalize hq : P ++ z = q at *
      have HQ := hid hq; clear hq
      have hlx : ¬ 9223372036854775807 < q.length + y.length := by omega
      go_wp2_with fail
      go_roundw
      case rel => exact ⟨j + 1, by omega, by go_num, by rw [HS.out, ← List.append_assoc, HQ.out]; exact str_app _ _, HW.out.trans hb2⟩
      case measure => simp [intOf]; omega
    · obtain rfl : j = 4 := by omega
      have HW := hid hw
      clear hw
      have hp2 : (P ++ cat4 ty num fl 0 4).length ≤ 100 := by rw [List.length_append]; omega
      generalize P ++ cat4 ty num fl 0 4 = q at *
      go_wp2_with fail
      refine (K5.out _).mono ?_
      rintro e w2 ⟨rfl, hb2⟩
      have HB2 := hid (HW.out.trans hb2)
      clear hb2
      have hd2 : (headL 2 data.length ++ data).length ≤ 5000 := by have := headL_le 2 data.length; have := hd.out; rw [List.length_append]; omega
      have hs2 : (headL 2 sum.length ++ sum).length ≤ 5000 := by have := headL_le 2 sum.length; have := hs.out; rw [List.length_append]; omega
      generalize headL 2 data.length ++ data = dd at *
      generalize headL 2 sum.length ++ sum = ss at *
      have hlx : ¬ 9223372036854775807 < q.length + dd.length := by omega
      go_wp2_with fail
      go_ret
      refine Ret.mk ?_ (HE.out.trans HB2.out)
      rw [HBK.out]
      exact str_app _ _

set_option maxRecDepth 20000 in
set_option maxHeartbeats 800000 in
theorem rbytes_1 (ty num fl : Nat) (data sum : List UInt8) (h1 : Hid (ty ≤ 65535)) (h2 : Hid (num ≤ 65535)) (h3 : Hid (fl ≤ 255)) (hd : Hid (data.length ≤ 4000)) (hs : Hid (sum.length ≤ 4000)) (w : World) : Calls Tryz.prog 58 #[numsV ty num fl 1, str data, str sum] w (Ret (str (blkB ty num fl 1 data sum)) w) := by
  have HC : Hid (∀ W, Ext (w.alloc (.cells #[.int .u64 (ty : Int), .int .u64 (num : Int), .int .u64 (fl : Int), .int .u64 1] 90)) W → ∀ j, j < 4 → W.cell? ⟨w.heap.size, j, none⟩ = some (.int .u64 ((num4 ty num fl 1 j : Nat) : Int))) := fun W hW j hj => by
    have hB := (Blk.new w 90 #[.int .u64 (ty : Int), .int .u64 (num : Int), .int .u64 (fl : Int), .int .u64 1]).ext hW
    have h4 : j = 0 ∨ j = 1 ∨ j = 2 ∨ j = 3 := by omega
    rcases h4 with rfl | rfl | rfl | rfl
    · exact hB.cell 0
    · exact hB.cell 1
    · exact hB.cell 2
    · exact hB.cell 3
  have HN : Hid (∀ j, num4 ty num fl 1 j < 18446744073709551616) := fun j => by
    have := h1.out; have := h2.out; have := h3.out
    unfold num4
    split
    · omega
    · split
      · omega
      · split <;> omega
  have K5 := hid (fun W => rBytes_any data (by have := hd.out; unfold Hid; omega) W)
  have K6 := hid (fun W => rBytes_any sum (by have := hs.out; unfold Hid; omega) W)
  have KH := hid (fun W => rHead_n 4 6 (by omega) (by omega) W)
  have HE := hid ((Mod.refl [] w).alloc (.cells #[.int .u64 (ty : Int), .int .u64 (num : Int), .int .u64 (fl : Int), .int .u64 1] 90))
  have hblk : blkB ty num fl 1 data sum = (headL 4 6 ++ cat4 ty num fl 1 4) ++ (headL 2 data.length ++ data) ++ (headL 2 sum.length ++ sum) := by
    simp [blkB, cat4, T.cat, num4]
  have HBK := hid hblk; clear hblk
  go_enter Tryz.func58, Tryz.ntmps58
  go_wp2_with fail
  generalize w.alloc (.cells #[.int .u64 (ty : Int), .int .u64 (num : Int), .int .u64 (fl : Int), .int .u64 1] 90) = V at *
  refine (KH.out _).mono ?_
  rintro e w1 ⟨rfl, hb1⟩
  have HB1 := hid hb1
  clear hb1
  go_wp2_with fail
  have hh4 := headL_le 4 6
  generalize headL 4 6 = P at *
  go_loopw [8, 9] (fun s i wr => ∃ j : Nat, j ≤ 4 ∧ i = .int .i64 j ∧ s = str (P ++ cat4 ty num fl 1 j) ∧ Ext V wr) (fun _ i _ => 4 - (intOf i).toNat)
  case atStart => exact ⟨0, Nat.zero_le _, rfl, by simp [cat4, T.cat], HB1.out⟩
  case round =>
    obtain ⟨j, hj, rfl, rfl, hw⟩ := hrel
    have hcl := cat4_le ty num fl 1 j
    by_cases hlt : j < 4
    · have hcell := HC.out wr hw j hlt
      have HS : Hid (cat4 ty num fl 1 (j + 1) = cat4 ty num fl 1 j ++ headL 0 (num4 ty num fl 1 j)) := rfl
      have K := hid (fun W => rHead_n 0 (num4 ty num fl 1 j) (by omega) (HN.out j) W)
      have hl2 := headL_le 0 (num4 ty num fl 1 j)
      generalize num4 ty num fl 1 j = x at *
      generalize headL 0 x = y at *
      generalize cat4 ty num fl 1 j = z at *
      have HW := hid hw
      clear hw
      go_wp2_with fail
      refine (K.out _).mono ?_
      rintro e w2 ⟨rfl, hb2⟩
      have hlen : (P ++ z).length + y.length ≤ 100 := by rw [List.length_append]; omega
      generalize hq : P ++ z = q at *
      have HQ := hid hq; clear hq
      have hlx : ¬ 9223372036854775807 < q.length + y.length := by omega
      go_wp2_with fail
      go_roundw
      case rel => exact ⟨j + 1, by omega, by go_num, by rw [HS.out, ← List.append_assoc, HQ.out]; exact str_app _ _, HW.out.trans hb2⟩
      case measure => simp [intOf]; omega
    · obtain rfl : j = 4 := by omega
      have HW := hid hw
      clear hw
      have hp2 : (P ++ cat4 ty num fl 1 4).length ≤ 100 := by rw [List.length_append]; omega
      generalize P ++ cat4 ty num fl 1 4 = q at *
      go_wp2_with fail
      refine (K5.out _).mono ?_
      rintro e w2 ⟨rfl, hb2⟩
      have HB2 := hid (HW.out.trans hb2)
      clear hb2
      have hd2 : (headL 2 data.length ++ data).length ≤ 5000 := by have := headL_le 2 data.length; have := hd.out; rw [List.length_append]; omega
      have hs2 : (headL 2 sum.length ++ sum).length ≤ 5000 := by have := headL_le 2 sum.length; have := hs.out; rw [List.length_append]; omega
      generalize headL 2 data.length ++ data = dd at *
      generalize headL 2 sum.length ++ sum = ss at *
      have hlx : ¬ 9223372036854775807 < q.length + dd.length := by omega
      go_wp2_with fail
      refine (K6.out _).mono ?_
      rintro e w3 ⟨rfl, hb3⟩
      have HB3 := hid (HB2.out.trans hb3)
      clear hb3
      have hq3 : (q ++ dd).length ≤ 10000 := by rw [List.length_append]; omega
      rw [str_app q dd]
      generalize hqd : q ++ dd = r at *
      have HQD := hid hqd; clear hqd
      have hly : ¬ 9223372036854775807 < r.length + ss.length := by omega
      go_wp2_with fail
      go_ret
      refine Ret.mk ?_ (HE.out.trans HB3.out)
      rw [HBK.out]
      exact str_app _ _

set_option maxRecDepth 20000 in
set_option maxHeartbeats 800000 in
theorem rbytes_2 (ty num fl : Nat) (data sum : List UInt8) (h1 : Hid (ty ≤ 65535)) (h2 : Hid (num ≤ 65535)) (h3 : Hid (fl ≤ 255)) (hd : Hid (data.length ≤ 4000)) (hs : Hid (sum.length ≤ 4000)) (w : World) : Calls Tryz.prog 58 #[numsV ty num fl 2, str data, str sum] w (Ret (str (blkB ty num fl 2 data sum)) w) := by
  have HC : Hid (∀ W, Ext (w.alloc (.cells #[.int .u64 (ty : Int), .int .u64 (num : Int), .int .u64 (fl : Int), .int .u64 2] 90)) W → ∀ j, j < 4 → W.cell? ⟨w.heap.size, j, none⟩ = some (.int .u64 ((num4 ty num fl 2 j : Nat) : Int))) := fun W hW j hj => by
    have hB := (Blk.new w 90 #[.int .u64 (ty : Int), .int .u64 (num : Int), .int .u64 (fl : Int), .int .u64 2]).ext hW
    have h4 : j = 0 ∨ j = 1 ∨ j = 2 ∨ j = 3 := by omega
    rcases h4 with rfl | rfl | rfl | rfl
    · exact hB.cell 0
    · exact hB.cell 1
    · exact hB.cell 2
    · exact hB.cell 3
  have HN : Hid (∀ j, num4 ty num fl 2 j < 18446744073709551616) := fun j => by
    have := h1.out; have := h2.out; have := h3.out
    unfold num4
    split
    · omega
    · split
      · omega
      · split <;> omega
  have K5 := hid (fun W => rBytes_any data (by have := hd.out; unfold Hid; omega) W)
  have K6 := hid (fun W => rBytes_any sum (by have := hs.out; unfold Hid; omega) W)
  have KH := hid (fun W => rHead_n 4 6 (by omega) (by omega) W)
  have HE := hid ((Mod.refl [] w).alloc (.cells #[.int .u64 (ty : Int), .int .u64 (num : Int), .int .u64 (fl : Int), .int .u64 2] 90))
  have hblk : blkB ty num fl 2 data sum = (headL 4 6 ++ cat4 ty num fl 2 4) ++ (headL 2 data.length ++ data) ++ (headL 2 sum.length ++ sum) := by
    simp [blkB, cat4, T.cat, num4]
  have HBK := hid hblk; clear hblk
  go_enter Tryz.func58, Tryz.ntmps58
  go_wp2_with fail
  generalize w.alloc (.cells #[.int .u64 (ty : Int), .int .u64 (num : Int), .int .u64 (fl : Int), .int .u64 2] 90) = V at *
  refine (KH.out _).mono ?_
  rintro e w1 ⟨rfl, hb1⟩
  have HB1 := hid hb1
  clear hb1
  go_wp2_with fail
  have hh4 := headL_le 4 6
  generalize headL 4 6 = P at *
  go_loopw [8, 9] (fun s i wr => ∃ j : Nat, j ≤ 4 ∧ i = .int .i64 j ∧ s = str (P ++ cat4 ty num fl 2 j) ∧ Ext V wr) (fun _ i _ => 4 - (intOf i).toNat)
  case atStart => exact ⟨0, Nat.zero_le _, rfl, by simp [cat4, T.cat], HB1.out⟩
  case round =>
    obtain ⟨j, hj, rfl, rfl, hw⟩ := hrel
    have hcl := cat4_le ty num fl 2 j
    by_cases hlt : j < 4
    · have hcell := HC.out wr hw j hlt
      have HS : Hid (cat4 ty num fl 2 (j + 1) = cat4 ty num fl 2 j ++ headL 0 (num4 ty num fl 2 j)) := rfl
      have K := hid (fun W => rHead_n 0 (num4 ty num fl 2 j) (by omega) (HN.out j) W)
      have hl2 := headL_le 0 (num4 ty num fl 2 j)
      generalize num4 ty num fl 2 j = x at *
      generalize headL 0 x = y at *
      generalize cat4 ty num fl 2 j = z at *
      have HW := hid hw
      clear hw
      go_wp2_with fail
      refine (K.out _).mono ?_
      rintro e w2 ⟨rfl, hb2⟩
      have hlen : (P ++ z).length + y.length ≤ 100 := by rw [List.length_append]; omega
      generalize hq : P ++ z = q at *
      have HQ := hid hq; clear hq
      have hlx : ¬ 9223372036854775807 < q.length + y.length := by omega
      go_wp2_with fail
      go_roundw
      case rel => exact ⟨j + 1, by omega, by go_num, by rw [HS.out, ← List.append_assoc, HQ.out]; exact str_app _ _, HW.out.trans hb2⟩
      case measure => simp [intOf]; omega
    · obtain rfl : j = 4 := by omega
      have HW := hid hw
      clear hw
      have hp2 : (P ++ cat4 ty num fl 2 4).length ≤ 100 := by rw [List.length_append]; omega
      generalize P ++ cat4 ty num fl 2 4 = q at *
      go_wp2_with fail
      refine (K5.out _).mono ?_
      rintro e w2 ⟨rfl, hb2⟩
      have HB2 := hid (HW.out.trans hb2)
      clear hb2
      have hd2 : (headL 2 data.length ++ data).length ≤ 5000 := by have := headL_le 2 data.length; have := hd.out; rw [List.length_append]; omega
      have hs2 : (headL 2 sum.length ++ sum).length ≤ 5000 := by have := headL_le 2 sum.length; have := hs.out; rw [List.length_append]; omega
      generalize headL 2 data.length ++ data = dd at *
      generalize headL 2 sum.length ++ sum = ss at *
      have hlx : ¬ 9223372036854775807 < q.length + dd.length := by omega
      go_wp2_with fail
      refine (K6.out _).mono ?_
      rintro e w3 ⟨rfl, hb3⟩
      have HB3 := hid (HB2.out.trans hb3)
      clear hb3
      have hq3 : (q ++ dd).length ≤ 10000 := by rw [List.length_append]; omega
      rw [str_app q dd]
      generalize hqd : q ++ dd = r at *
      have HQD := hid hqd; clear hqd
      have hly : ¬ 9223372036854775807 < r.length + ss.length := by omega
      go_wp2_with fail
      go_ret
      refine Ret.mk ?_ (HE.out.trans HB3.out)
      rw [HBK.out]
      exact str_app _ _

theorem rbytes_any (ty num fl crc : Nat) (hc : crc ≤ 2) (data sum : List UInt8) (h1 : Hid (ty ≤ 65535)) (h2 : Hid (num ≤ 65535)) (h3 : Hid (fl ≤ 255)) (hd : Hid (data.length ≤ 4000)) (hs : Hid (sum.length ≤ 4000)) (w : World) : Calls Tryz.prog 58 #[numsV ty num fl crc, str data, str sum] w (Ret (str (blkB ty num fl crc data sum)) w) := by
  have : crc = 0 ∨ crc = 1 ∨ crc = 2 := by omega
  rcases this with rfl | rfl | rfl
  · exact rbytes_0 ty num fl data sum h1 h2 h3 hd hs w
  · exact rbytes_1 ty num fl data sum h1 h2 h3 hd hs w
  · exact rbytes_2 ty num fl data sum h1 h2 h3 hd hs w
end Go.Proofs.YtkeabdfgacicaaaGreat


namespace Go.Proofs.YtkeabdfgacicaaaGreat
open Go.RowKit
set_option linter.unusedVariables false
set_option linter.unusedSimpArgs false

theorem infoByte8 : (Tryz.prog.info? 5).map (fun i => (i.zero, i.size, i.bytes)) = some (some (.int .u8 0), 1, 1) := by kernel_rfl
/-- Bytes made, as a string. -/
theorem conv_made (k c : Nat) (W : World) : (convert 89 9 (.slice (some ⟨W.heap.size, 0, none⟩) k c)).run Tryz.prog (W.alloc (.cells (madeCells #[.int .u8 0] k) 5)) = .ok (str (List.replicate k 0)) (W.alloc (.cells (madeCells #[.int .u8 0] k) 5)) := by
  have h := run_convert_bytes_back (P := Tryz.prog) (W.alloc (.cells (madeCells #[.int .u8 0] k) 5)) 89 9 5 ⟨W.heap.size, 0, none⟩ c (List.replicate k 0) Tryz.underlying89 Tryz.underlying5 Tryz.underlying9 (fun j hj => by
    rw [addr_add, Nat.zero_add, (Blk.new W 5 _).cell j]
    rw [List.length_replicate] at hj
    have := toList_madeCells_one (.int .u8 0) k
    rw [← Array.getElem?_toList, this, List.getElem?_replicate, if_pos hj]
    simp)
  rw [List.length_replicate] at h
  exact h
set_option maxRecDepth 20000 in
set_option maxHeartbeats 800000 in
theorem rBuild_ok (ty num fl crc : Nat) (data : List UInt8) (h1 : Hid (ty ≤ 65535)) (h2 : Hid (num ≤ 65535)) (h3 : Hid (fl ≤ 255)) (h4 : Hid (crc ≤ 2)) (h5 : Hid (data.length ≤ 4000)) (w : World) : Calls Tryz.prog 43 #[BV.v ⟨ty, num, fl, crc, data⟩] w (Ret (str (blkB ty num fl crc data (sumB ty num fl crc data))) w) := by
  have HB := hid (Blk.new w 31 (BV.c ⟨ty, num, fl, crc, data⟩))
  have HE0 := hid ((Mod.refl [] w).alloc (.cells (BV.c ⟨ty, num, fl, crc, data⟩) 31))
  go_enter Tryz.func43, Tryz.ntmps43
  go_wp2_with fail
  refine (nums_any ty num fl crc data h1.out h2.out h4.out _).mono ?_
  rintro e w1 ⟨rfl, hb1⟩
  have HE1 := hid (HE0.out.trans hb1)
  have HB1 := hid (HB.out.ext hb1)
  clear hb1
  have hmk : ∀ W : World, (Instr.makeSlice 89 (.int .i64 (2 * (crc : Int))) (.int .i64 (2 * (crc : Int)))).run Tryz.prog W = .ok (.slice (some ⟨W.heap.size, 0, none⟩) (2 * crc) (2 * crc)) (W.alloc (.cells (madeCells #[.int .u8 0] (2 * crc)) 5)) := by
    intro W
    have := run_make_row' (P := Tryz.prog) 89 5 (.int .u8 0) 1 Tryz.underlying89 infoByte8 rfl .i64 .i64 (2 * crc) (by have := h4.out; omega) (by have := h4.out; omega) W
    simpa using this
  have hcv := conv_made (2 * crc) (2 * crc)
  have twr : IntKind.i64.wrap (2 * (crc : Int)) = 2 * (crc : Int) := IntWalk.i64_in _ (by have := h4.out; omega)
  have KB := hid (fun W => rbytes_any ty num fl crc h4.out data (List.replicate (2 * crc) 0) h1 h2 h3 h5 (by have := h4.out; unfold Hid; simp; omega) W)
  have KC := hid (fun W => R4B_any crc h4.out (blkB ty num fl crc data (List.replicate (2 * crc) 0)) (blkB_length h5.out (by have := h4.out; simp; omega)) W)
  have KE := hid (fun W => rbytes_any ty num fl crc h4.out data (sumB ty num fl crc data) h1 h2 h3 h5 (by have := h4.out; unfold Hid; rw [sumB_length h4.out]; omega) W)
  have hsb : (if crc = 0 then [] else Crc.sumL crc (blkB ty num fl crc data (List.replicate (2 * crc) 0))) = sumB ty num fl crc data := rfl
  rw [hsb] at KC
  clear hsb
  generalize blkB ty num fl crc data (List.replicate (2 * crc) 0) = X at *
  generalize sumB ty num fl crc data = Y at *
  generalize blkB ty num fl crc data Y = Z at *
  go_upto_region 2 with fail
  have HL1 := hid (Blk.new w1 90 #[.int .u64 (ty : Int), .int .u64 (num : Int), .int .u64 (fl : Int), .int .u64 (crc : Int)])
  have HB2 := hid (HB1.out.alloc (.cells #[.int .u64 (ty : Int), .int .u64 (num : Int), .int .u64 (fl : Int), .int .u64 (crc : Int)] 90))
  have HE2 := hid (HE1.out.alloc (.cells #[.int .u64 (ty : Int), .int .u64 (num : Int), .int .u64 (fl : Int), .int .u64 (crc : Int)] 90))
  generalize w1.alloc (.cells #[.int .u64 (ty : Int), .int .u64 (num : Int), .int .u64 (fl : Int), .int .u64 (crc : Int)] 90) = V at *
  have HS : Hid (∀ w', Ext V w' → w'.cell? ⟨w.heap.size, 3, none⟩ = some (.int .i64 (crc : Int)) ∧ w'.cell? ⟨w.heap.size, 4, none⟩ = some (str data) ∧ w'.cell? ⟨w1.heap.size, 0, none⟩ = some (.int .u64 (ty : Int)) ∧ w'.cell? ⟨w1.heap.size, 1, none⟩ = some (.int .u64 (num : Int)) ∧ w'.cell? ⟨w1.heap.size, 2, none⟩ = some (.int .u64 (fl : Int)) ∧ w'.cell? ⟨w1.heap.size, 3, none⟩ = some (.int .u64 (crc : Int))) := fun W hW => by
    have b1 := HB2.out.ext hW
    have b2 := HL1.out.ext hW
    exact ⟨b1.cell 3, b1.cell 4, b2.cell 0, b2.cell 1, b2.cell 2, b2.cell 3⟩
  obtain ⟨p0, p1, p2, p3, p4, p5⟩ := HS.out V (Mod.refl _ _)
  have hcv2 : (convert 89 9 (.slice (some ⟨V.heap.size, 0, none⟩) (2 * crc) (2 * crc))).run Tryz.prog (V.alloc (.cells (madeCells #[.int .u8 0] (2 * crc)) 5)).drew = .ok (str (List.replicate (2 * crc) 0)) (V.alloc (.cells (madeCells #[.int .u8 0] (2 * crc)) 5)).drew := hcv V.drew
  go_region_held (fun w' => w'.cell? ⟨w.heap.size, 3, none⟩ = some (.int .i64 (crc : Int)) ∧ w'.cell? ⟨w.heap.size, 4, none⟩ = some (str data) ∧ w'.cell? ⟨w1.heap.size, 0, none⟩ = some (.int .u64 (ty : Int)) ∧ w'.cell? ⟨w1.heap.size, 1, none⟩ = some (.int .u64 (num : Int)) ∧ w'.cell? ⟨w1.heap.size, 2, none⟩ = some (.int .u64 (fl : Int)) ∧ w'.cell? ⟨w1.heap.size, 3, none⟩ = some (.int .u64 (crc : Int))) (go_keep)
    (first
      | (go_at_call 58; refine (KB.out _).mono ?_; rintro x w3 ⟨rfl, hb3⟩; have hx : Ext V w3 := (by (with_reducible refine Mod.trans ?_ hb3); (repeat (first | with_reducible assumption | with_reducible exact Mod.refl _ _ | with_reducible refine Mod.drew ?_ | with_reducible refine Mod.alloc ?_ _))); have z := HS.out w3 hx)
      | (go_at_call 55; refine (KC.out _).mono ?_; rintro x w4 ⟨rfl, hb4⟩; have hx : Ext V w4 := (by (with_reducible refine Mod.trans ?_ hb4); (repeat (first | with_reducible assumption | with_reducible exact Mod.refl _ _ | with_reducible refine Mod.drew ?_ | with_reducible refine Mod.alloc ?_ _))); have z := HS.out w4 hx))
  all_goals obtain ⟨q0, q1, q2, q3, q4, q5⟩ := HS.out w4 hx
  all_goals go_wp2_with fail
  all_goals refine (KE.out _).mono ?_
  all_goals rintro e w5 ⟨rfl, hb5⟩
  all_goals go_wp2_with fail
  all_goals go_ret
  all_goals exact Ret.mk rfl (HE2.out.trans (hx.trans (by first | exact hb5 | exact (Mod.refl _ _).drew.trans hb5)))
end Go.Proofs.YtkeabdfgacicaaaGreat


namespace Go.Proofs.YtkeabdfgacicaaaGreat
open Go.RowKit
set_option linter.unusedVariables false
set_option linter.unusedSimpArgs false

theorem quo_remP {f c x : Nat} (hf : f < 18446744073709551616) (h : f / c % 2 = x) : (IntKind.u64.wrap ((f : Int) / (c : Int))).tmod 2 = (x : Int) := by
  have h1 : (f : Int) / (c : Int) = ((f / c : Nat) : Int) := by simp
  have h2 : f / c ≤ f := Nat.div_le_self _ _
  rw [h1]
  generalize f / c = y at *
  rw [IntWalk.u64_in _ (by omega), Int.tmod_eq_emod_of_nonneg (by omega)]
  omega
def has (f c : Nat) : Bool := decide (f / c % 2 = 1)
set_option maxRecDepth 20000 in
theorem Has_any (f c : Nat) (hf : f < 18446744073709551616) (hc : 0 < c) (hc2 : c < 1000000) (w : World) : Calls Tryz.prog 30 #[.int .u64 (f : Int), .int .i64 (c : Int)] w (Ret (.bool (has f c)) w) := by
  have f0 : (0 : Int) ≤ (f : Int) := by omega
  have c0 : (0 : Int) ≤ (c : Int) := by omega
  have c1 : (c : Int) ≤ 1000000 := by omega
  have t1 : IntKind.u64.wrap (c : Int) = (c : Int) := IntWalk.u64_in _ (by omega)
  have z1 : ((c : Int) == 0) = false := by simp; omega
  have z2 : ((c : Int) = 0) = False := by simp; omega
  have z3 : (c = 0) = False := by simp; omega
  have hx : f / c % 2 = 0 ∨ f / c % 2 = 1 := by omega
  rcases hx with hx | hx
  · have a1 := quo_remP hf hx
    have HV : Hid (has f c = false) := by unfold Hid has; simp [hx]
    clear hx hf hc hc2
    go_enter Tryz.func30, Tryz.ntmps30
    go_wp2
    go_ret
    exact Ret.mk (by rw [HV.out]; simp) (Mod.refl _ _)
  · have a1 := quo_remP hf hx
    have HV : Hid (has f c = true) := by unfold Hid has; simp [hx]
    clear hx hf hc hc2
    go_enter Tryz.func30, Tryz.ntmps30
    go_wp2
    go_ret
    exact Ret.mk (by rw [HV.out]; simp) (Mod.refl _ _)
set_option maxRecDepth 20000 in
set_option maxHeartbeats 1600000 in
theorem r11Right_any (p : PV) (hf : p.fl < 18446744073709551616) (w : World) : Calls Tryz.prog 26 #[.agg p.c] w (Ret (.int .i64 p.right) w) := by
  have KD := hid (fun W => r10_any p.d W)
  have KS := hid (fun W => r10_any p.s W)
  have KR := hid (fun W => r10_any p.r W)
  have H1 : Hid (∀ W, Calls Tryz.prog 30 #[.int .u64 (p.fl : Int), .int .i64 1] W (Ret (.bool (has p.fl 1)) W)) := fun W => Has_any p.fl 1 hf (by omega) (by omega) W
  have H2 : Hid (∀ W, Calls Tryz.prog 30 #[.int .u64 (p.fl : Int), .int .i64 2] W (Ret (.bool (has p.fl 2)) W)) := fun W => Has_any p.fl 2 hf (by omega) (by omega) W
  have H4 : Hid (∀ W, Calls Tryz.prog 30 #[.int .u64 (p.fl : Int), .int .i64 4] W (Ret (.bool (has p.fl 4)) W)) := fun W => Has_any p.fl 4 hf (by omega) (by omega) W
  have HH : Hid (∀ W, Calls Tryz.prog 30 #[.int .u64 (p.fl : Int), .int .i64 16384] W (Ret (.bool (has p.fl 16384)) W)) := fun W => Has_any p.fl 16384 hf (by omega) (by omega) W
  have HG : Hid (∀ W, Calls Tryz.prog 30 #[.int .u64 (p.fl : Int), .int .i64 262144] W (Ret (.bool (has p.fl 262144)) W)) := fun W => Has_any p.fl 262144 hf (by omega) (by omega) W
  have HE := hid ((Mod.refl [] w).alloc (.cells p.c 26))
  have HB := hid (Blk.new w 26 p.c)
  have f0 : (0 : Int) ≤ (p.fl : Int) := by omega
  clear hf
  go_enter Tryz.func26, Tryz.ntmps26
  go_upto_region 1 with fail
  generalize w.alloc (.cells p.c 26) = V at *
  have b0 : ∀ e : Later V, e.x.cell? ⟨w.heap.size, 0, none⟩ = some (.int .u64 (p.fl : Int)) := HB.out.cellL 0 rfl
  have b1 : ∀ e : Later V, e.x.cell? ⟨w.heap.size, 1, none⟩ = some (.int .i64 p.crc) := HB.out.cellL 1 rfl
  have b2 : ∀ e : Later V, e.x.cell? ⟨w.heap.size, 2, none⟩ = some (.int .i64 p.d.sch) := HB.out.cellL 2 rfl
  have b3 : ∀ e : Later V, e.x.cell? ⟨w.heap.size, 3, none⟩ = some (str p.d.name) := HB.out.cellL 3 rfl
  have b4 : ∀ e : Later V, e.x.cell? ⟨w.heap.size, 4, none⟩ = some (.int .u64 (p.d.node : Int)) := HB.out.cellL 4 rfl
  have b5 : ∀ e : Later V, e.x.cell? ⟨w.heap.size, 5, none⟩ = some (.int .u64 (p.d.svc : Int)) := HB.out.cellL 5 rfl
  have b6 : ∀ e : Later V, e.x.cell? ⟨w.heap.size, 6, none⟩ = some (.int .i64 p.s.sch) := HB.out.cellL 6 rfl
  have b7 : ∀ e : Later V, e.x.cell? ⟨w.heap.size, 7, none⟩ = some (str p.s.name) := HB.out.cellL 7 rfl
  have b8 : ∀ e : Later V, e.x.cell? ⟨w.heap.size, 8, none⟩ = some (.int .u64 (p.s.node : Int)) := HB.out.cellL 8 rfl
  have b9 : ∀ e : Later V, e.x.cell? ⟨w.heap.size, 9, none⟩ = some (.int .u64 (p.s.svc : Int)) := HB.out.cellL 9 rfl
  have b10 : ∀ e : Later V, e.x.cell? ⟨w.heap.size, 10, none⟩ = some (.int .i64 p.r.sch) := HB.out.cellL 10 rfl
  have b11 : ∀ e : Later V, e.x.cell? ⟨w.heap.size, 11, none⟩ = some (str p.r.name) := HB.out.cellL 11 rfl
  have b12 : ∀ e : Later V, e.x.cell? ⟨w.heap.size, 12, none⟩ = some (.int .u64 (p.r.node : Int)) := HB.out.cellL 12 rfl
  have b13 : ∀ e : Later V, e.x.cell? ⟨w.heap.size, 13, none⟩ = some (.int .u64 (p.r.svc : Int)) := HB.out.cellL 13 rfl
  have b14 : ∀ e : Later V, e.x.cell? ⟨w.heap.size, 14, none⟩ = some (.int .u64 (p.t : Int)) := HB.out.cellL 14 rfl
  have b15 : ∀ e : Later V, e.x.cell? ⟨w.heap.size, 15, none⟩ = some (.int .u64 (p.q : Int)) := HB.out.cellL 15 rfl
  have b16 : ∀ e : Later V, e.x.cell? ⟨w.heap.size, 16, none⟩ = some (.int .u64 (p.l : Int)) := HB.out.cellL 16 rfl
  have b17 : ∀ e : Later V, e.x.cell? ⟨w.heap.size, 17, none⟩ = some (.int .u64 (p.o : Int)) := HB.out.cellL 17 rfl
  have b18 : ∀ e : Later V, e.x.cell? ⟨w.heap.size, 18, none⟩ = some (.int .u64 (p.n : Int)) := HB.out.cellL 18 rfl
  obtain ⟨e, he0⟩ := Later.self V
  rw [he0]
  clear he0
  cases hx : p.d.ok with
  | false =>
    rw [hx] at KD
    have HR : Hid (p.ranged = false) := by unfold Hid PV.ranged; simp [hx]
    clear hx
    have HS : Hid (p.right = 1) := by
      unfold Hid PV.right
      rw [if_pos HR.out]
    go_wp2_with (first | (go_at_call 41; first | ((with_reducible refine (Ret.later (KD.out _)).mono ?_); rintro x _ ⟨rfl, e, rfl⟩) | ((with_reducible refine (Ret.later (KS.out _)).mono ?_); rintro x _ ⟨rfl, e, rfl⟩) | ((with_reducible refine (Ret.later (KR.out _)).mono ?_); rintro x _ ⟨rfl, e, rfl⟩)) | (go_at_call 30; first | ((with_reducible refine (Ret.later (H1.out _)).mono ?_); rintro x _ ⟨rfl, e, rfl⟩) | ((with_reducible refine (Ret.later (H2.out _)).mono ?_); rintro x _ ⟨rfl, e, rfl⟩) | ((with_reducible refine (Ret.later (H4.out _)).mono ?_); rintro x _ ⟨rfl, e, rfl⟩) | ((with_reducible refine (Ret.later (HH.out _)).mono ?_); rintro x _ ⟨rfl, e, rfl⟩) | ((with_reducible refine (Ret.later (HG.out _)).mono ?_); rintro x _ ⟨rfl, e, rfl⟩)))
    go_ret
    exact Ret.mk (by rw [HS.out]; rfl) (HE.out.trans e.h)
  | true =>
    rw [hx] at KD
    have Xd := hid hx
    clear hx
    cases hx : p.s.ok with
    | false =>
      rw [hx] at KS
      have HR : Hid (p.ranged = false) := by unfold Hid PV.ranged; simp [hx]
      clear hx
      have HS : Hid (p.right = 1) := by
        unfold Hid PV.right
        rw [if_pos HR.out]
      go_wp2_with (first | (go_at_call 41; first | ((with_reducible refine (Ret.later (KD.out _)).mono ?_); rintro x _ ⟨rfl, e, rfl⟩) | ((with_reducible refine (Ret.later (KS.out _)).mono ?_); rintro x _ ⟨rfl, e, rfl⟩) | ((with_reducible refine (Ret.later (KR.out _)).mono ?_); rintro x _ ⟨rfl, e, rfl⟩)) | (go_at_call 30; first | ((with_reducible refine (Ret.later (H1.out _)).mono ?_); rintro x _ ⟨rfl, e, rfl⟩) | ((with_reducible refine (Ret.later (H2.out _)).mono ?_); rintro x _ ⟨rfl, e, rfl⟩) | ((with_reducible refine (Ret.later (H4.out _)).mono ?_); rintro x _ ⟨rfl, e, rfl⟩) | ((with_reducible refine (Ret.later (HH.out _)).mono ?_); rintro x _ ⟨rfl, e, rfl⟩) | ((with_reducible refine (Ret.later (HG.out _)).mono ?_); rintro x _ ⟨rfl, e, rfl⟩)))
      go_ret
      exact Ret.mk (by rw [HS.out]; rfl) (HE.out.trans e.h)
    | true =>
      rw [hx] at KS
      have Xs := hid hx
      clear hx
      cases hx : p.r.ok with
      | false =>
        rw [hx] at KR
        have HR : Hid (p.ranged = false) := by unfold Hid PV.ranged; simp [hx]
        clear hx
        have HS : Hid (p.right = 1) := by
          unfold Hid PV.right
          rw [if_pos HR.out]
        go_wp2_with (first | (go_at_call 41; first | ((with_reducible refine (Ret.later (KD.out _)).mono ?_); rintro x _ ⟨rfl, e, rfl⟩) | ((with_reducible refine (Ret.later (KS.out _)).mono ?_); rintro x _ ⟨rfl, e, rfl⟩) | ((with_reducible refine (Ret.later (KR.out _)).mono ?_); rintro x _ ⟨rfl, e, rfl⟩)) | (go_at_call 30; first | ((with_reducible refine (Ret.later (H1.out _)).mono ?_); rintro x _ ⟨rfl, e, rfl⟩) | ((with_reducible refine (Ret.later (H2.out _)).mono ?_); rintro x _ ⟨rfl, e, rfl⟩) | ((with_reducible refine (Ret.later (H4.out _)).mono ?_); rintro x _ ⟨rfl, e, rfl⟩) | ((with_reducible refine (Ret.later (HH.out _)).mono ?_); rintro x _ ⟨rfl, e, rfl⟩) | ((with_reducible refine (Ret.later (HG.out _)).mono ?_); rintro x _ ⟨rfl, e, rfl⟩)))
        go_ret
        exact Ret.mk (by rw [HS.out]; rfl) (HE.out.trans e.h)
      | true =>
        rw [hx] at KR
        have Xr := hid hx
        clear hx
        by_cases hx : p.crc < 0
        · have ua : decide (p.crc < 0) = true := decide_eq_true (by omega)
          have ub : (p.crc < 0) = True := eq_true (by omega)
          have HR : Hid (p.ranged = false) := by unfold Hid PV.ranged; simp; omega
          clear hx
          have HS : Hid (p.right = 1) := by
            unfold Hid PV.right
            rw [if_pos HR.out]
          go_wp2_with (first | (go_at_call 41; first | ((with_reducible refine (Ret.later (KD.out _)).mono ?_); rintro x _ ⟨rfl, e, rfl⟩) | ((with_reducible refine (Ret.later (KS.out _)).mono ?_); rintro x _ ⟨rfl, e, rfl⟩) | ((with_reducible refine (Ret.later (KR.out _)).mono ?_); rintro x _ ⟨rfl, e, rfl⟩)) | (go_at_call 30; first | ((with_reducible refine (Ret.later (H1.out _)).mono ?_); rintro x _ ⟨rfl, e, rfl⟩) | ((with_reducible refine (Ret.later (H2.out _)).mono ?_); rintro x _ ⟨rfl, e, rfl⟩) | ((with_reducible refine (Ret.later (H4.out _)).mono ?_); rintro x _ ⟨rfl, e, rfl⟩) | ((with_reducible refine (Ret.later (HH.out _)).mono ?_); rintro x _ ⟨rfl, e, rfl⟩) | ((with_reducible refine (Ret.later (HG.out _)).mono ?_); rintro x _ ⟨rfl, e, rfl⟩)))
          go_ret
          exact Ret.mk (by rw [HS.out]; rfl) (HE.out.trans e.h)
        have ua : decide (p.crc < 0) = false := decide_eq_false (by omega)
        have ub : (p.crc < 0) = False := eq_false (by omega)
        have X1 := hid hx
        clear hx
        by_cases hx : 2 < p.crc
        · have va : decide (2 < p.crc) = true := decide_eq_true (by omega)
          have vb : (2 < p.crc) = True := eq_true (by omega)
          have HR : Hid (p.ranged = false) := by unfold Hid PV.ranged; simp; omega
          clear hx
          have HS : Hid (p.right = 1) := by
            unfold Hid PV.right
            rw [if_pos HR.out]
          go_wp2_with (first | (go_at_call 41; first | ((with_reducible refine (Ret.later (KD.out _)).mono ?_); rintro x _ ⟨rfl, e, rfl⟩) | ((with_reducible refine (Ret.later (KS.out _)).mono ?_); rintro x _ ⟨rfl, e, rfl⟩) | ((with_reducible refine (Ret.later (KR.out _)).mono ?_); rintro x _ ⟨rfl, e, rfl⟩)) | (go_at_call 30; first | ((with_reducible refine (Ret.later (H1.out _)).mono ?_); rintro x _ ⟨rfl, e, rfl⟩) | ((with_reducible refine (Ret.later (H2.out _)).mono ?_); rintro x _ ⟨rfl, e, rfl⟩) | ((with_reducible refine (Ret.later (H4.out _)).mono ?_); rintro x _ ⟨rfl, e, rfl⟩) | ((with_reducible refine (Ret.later (HH.out _)).mono ?_); rintro x _ ⟨rfl, e, rfl⟩) | ((with_reducible refine (Ret.later (HG.out _)).mono ?_); rintro x _ ⟨rfl, e, rfl⟩)))
          go_ret
          exact Ret.mk (by rw [HS.out]; rfl) (HE.out.trans e.h)
        have va : decide (2 < p.crc) = false := decide_eq_false (by omega)
        have vb : (2 < p.crc) = False := eq_false (by omega)
        have X2 := hid hx
        clear hx
        by_cases hx : 2097152 ≤ p.fl
        · have xa : decide ((2097152 : Int) ≤ (p.fl : Int)) = true := decide_eq_true (by omega)
          have xb : ((2097152 : Int) ≤ (p.fl : Int)) = True := eq_true (by omega)
          have HR : Hid (p.ranged = false) := by unfold Hid PV.ranged; simp; omega
          clear hx
          have HS : Hid (p.right = 1) := by
            unfold Hid PV.right
            rw [if_pos HR.out]
          go_wp2_with (first | (go_at_call 41; first | ((with_reducible refine (Ret.later (KD.out _)).mono ?_); rintro x _ ⟨rfl, e, rfl⟩) | ((with_reducible refine (Ret.later (KS.out _)).mono ?_); rintro x _ ⟨rfl, e, rfl⟩) | ((with_reducible refine (Ret.later (KR.out _)).mono ?_); rintro x _ ⟨rfl, e, rfl⟩)) | (go_at_call 30; first | ((with_reducible refine (Ret.later (H1.out _)).mono ?_); rintro x _ ⟨rfl, e, rfl⟩) | ((with_reducible refine (Ret.later (H2.out _)).mono ?_); rintro x _ ⟨rfl, e, rfl⟩) | ((with_reducible refine (Ret.later (H4.out _)).mono ?_); rintro x _ ⟨rfl, e, rfl⟩) | ((with_reducible refine (Ret.later (HH.out _)).mono ?_); rintro x _ ⟨rfl, e, rfl⟩) | ((with_reducible refine (Ret.later (HG.out _)).mono ?_); rintro x _ ⟨rfl, e, rfl⟩)))
          go_ret
          exact Ret.mk (by rw [HS.out]; rfl) (HE.out.trans e.h)
        have xa : decide ((2097152 : Int) ≤ (p.fl : Int)) = false := decide_eq_false (by omega)
        have xb : ((2097152 : Int) ≤ (p.fl : Int)) = False := eq_false (by omega)
        have X3 := hid hx
        clear hx
        go_upto_region 4 with (first | (go_at_call 41; first | ((with_reducible refine (Ret.later (KD.out _)).mono ?_); rintro x _ ⟨rfl, e, rfl⟩) | ((with_reducible refine (Ret.later (KS.out _)).mono ?_); rintro x _ ⟨rfl, e, rfl⟩) | ((with_reducible refine (Ret.later (KR.out _)).mono ?_); rintro x _ ⟨rfl, e, rfl⟩)) | (go_at_call 30; first | ((with_reducible refine (Ret.later (H1.out _)).mono ?_); rintro x _ ⟨rfl, e, rfl⟩) | ((with_reducible refine (Ret.later (H2.out _)).mono ?_); rintro x _ ⟨rfl, e, rfl⟩) | ((with_reducible refine (Ret.later (H4.out _)).mono ?_); rintro x _ ⟨rfl, e, rfl⟩) | ((with_reducible refine (Ret.later (HH.out _)).mono ?_); rintro x _ ⟨rfl, e, rfl⟩) | ((with_reducible refine (Ret.later (HG.out _)).mono ?_); rintro x _ ⟨rfl, e, rfl⟩)))
        have HA := hid (Blk.new e.x 72 #[.int .u64 (p.t : Int), .int .u64 (p.q : Int), .int .u64 (p.l : Int), .int .u64 (p.o : Int), .int .u64 (p.n : Int)])
        have HB2 := hid ((HB.out.later e).alloc (.cells #[.int .u64 (p.t : Int), .int .u64 (p.q : Int), .int .u64 (p.l : Int), .int .u64 (p.o : Int), .int .u64 (p.n : Int)] 72))
        have HE2 := hid ((HE.out.trans e.h).alloc (.cells #[.int .u64 (p.t : Int), .int .u64 (p.q : Int), .int .u64 (p.l : Int), .int .u64 (p.o : Int), .int .u64 (p.n : Int)] 72))
        clear b0 b1 b2 b3 b4 b5 b6 b7 b8 b9 b10 b11 b12 b13 b14 b15 b16 b17 b18 HB HE ua ub va vb xa xb
        generalize e.x.alloc (.cells #[.int .u64 (p.t : Int), .int .u64 (p.q : Int), .int .u64 (p.l : Int), .int .u64 (p.o : Int), .int .u64 (p.n : Int)] 72) = V2 at *
        generalize e.x.heap.size = G at *
        clear e
        have b0 : ∀ e : Later V2, e.x.cell? ⟨w.heap.size, 0, none⟩ = some (.int .u64 (p.fl : Int)) := HB2.out.cellL 0 rfl
        have b1 : ∀ e : Later V2, e.x.cell? ⟨w.heap.size, 1, none⟩ = some (.int .i64 p.crc) := HB2.out.cellL 1 rfl
        have b2 : ∀ e : Later V2, e.x.cell? ⟨w.heap.size, 2, none⟩ = some (.int .i64 p.d.sch) := HB2.out.cellL 2 rfl
        have b3 : ∀ e : Later V2, e.x.cell? ⟨w.heap.size, 3, none⟩ = some (str p.d.name) := HB2.out.cellL 3 rfl
        have b4 : ∀ e : Later V2, e.x.cell? ⟨w.heap.size, 4, none⟩ = some (.int .u64 (p.d.node : Int)) := HB2.out.cellL 4 rfl
        have b5 : ∀ e : Later V2, e.x.cell? ⟨w.heap.size, 5, none⟩ = some (.int .u64 (p.d.svc : Int)) := HB2.out.cellL 5 rfl
        have b6 : ∀ e : Later V2, e.x.cell? ⟨w.heap.size, 6, none⟩ = some (.int .i64 p.s.sch) := HB2.out.cellL 6 rfl
        have b7 : ∀ e : Later V2, e.x.cell? ⟨w.heap.size, 7, none⟩ = some (str p.s.name) := HB2.out.cellL 7 rfl
        have b8 : ∀ e : Later V2, e.x.cell? ⟨w.heap.size, 8, none⟩ = some (.int .u64 (p.s.node : Int)) := HB2.out.cellL 8 rfl
        have b9 : ∀ e : Later V2, e.x.cell? ⟨w.heap.size, 9, none⟩ = some (.int .u64 (p.s.svc : Int)) := HB2.out.cellL 9 rfl
        have b10 : ∀ e : Later V2, e.x.cell? ⟨w.heap.size, 10, none⟩ = some (.int .i64 p.r.sch) := HB2.out.cellL 10 rfl
        have b11 : ∀ e : Later V2, e.x.cell? ⟨w.heap.size, 11, none⟩ = some (str p.r.name) := HB2.out.cellL 11 rfl
        have b12 : ∀ e : Later V2, e.x.cell? ⟨w.heap.size, 12, none⟩ = some (.int .u64 (p.r.node : Int)) := HB2.out.cellL 12 rfl
        have b13 : ∀ e : Later V2, e.x.cell? ⟨w.heap.size, 13, none⟩ = some (.int .u64 (p.r.svc : Int)) := HB2.out.cellL 13 rfl
        have b14 : ∀ e : Later V2, e.x.cell? ⟨w.heap.size, 14, none⟩ = some (.int .u64 (p.t : Int)) := HB2.out.cellL 14 rfl
        have b15 : ∀ e : Later V2, e.x.cell? ⟨w.heap.size, 15, none⟩ = some (.int .u64 (p.q : Int)) := HB2.out.cellL 15 rfl
        have b16 : ∀ e : Later V2, e.x.cell? ⟨w.heap.size, 16, none⟩ = some (.int .u64 (p.l : Int)) := HB2.out.cellL 16 rfl
        have b17 : ∀ e : Later V2, e.x.cell? ⟨w.heap.size, 17, none⟩ = some (.int .u64 (p.o : Int)) := HB2.out.cellL 17 rfl
        have b18 : ∀ e : Later V2, e.x.cell? ⟨w.heap.size, 18, none⟩ = some (.int .u64 (p.n : Int)) := HB2.out.cellL 18 rfl
        go_wp2_with fail
        obtain ⟨e0, he0⟩ := Later.self V2
        have HAJ : Hid (∀ (e : Later V2) (i : Nat), i < 5 → e.x.cell? ⟨G, i, none⟩ = some (.int .u64 ((([p.t, p.q, p.l, p.o, p.n][i]?).getD 0 : Nat) : Int))) := fun e i hi => by
          rw [(HA.out.later e).cell i]
          match i, hi with
          | 0, _ => rfl
          | 1, _ => rfl
          | 2, _ => rfl
          | 3, _ => rfl
          | 4, _ => rfl
        go_loopw [4] (fun s4 wr => ∃ i : Nat, s4 = .int .i64 (i : Int) ∧ Hid (i ≤ 5 ∧ ∀ j, j < i → ([p.t, p.q, p.l, p.o, p.n][j]?).getD 0 ≤ 1099511627776) ∧ ∃ e : Later V2, wr = e.x) (fun s4 _ => 5 - (intOf s4).toNat)
        case atStart => exact ⟨0, rfl, (show Hid _ from ⟨by omega, fun j hj => by omega⟩), e0, he0⟩
        case round =>
          clear he0 e0
          obtain ⟨i, rfl, hi, e, rfl⟩ := hrel
          have i0 : (0 : Int) ≤ (i : Int) := by omega
          have i5 : (i : Int) ≤ 5 := by have := hi.out.1; omega
          by_cases hlt : i < 5
          · have tc : decide ((i : Int) < 5) = true := decide_eq_true (by omega)
            have i1 : (i : Int) < 5 := by omega
            have HJ := fun e => HAJ.out e i hlt
            obtain ⟨x, hx⟩ : ∃ x, ([p.t, p.q, p.l, p.o, p.n][i]?).getD 0 = x := ⟨_, rfl⟩
            rw [hx] at HJ
            have HX := hid hx
            have HLT := hid hlt
            clear hx hlt
            by_cases hx : 1099511627776 < x
            · have ya : decide ((1099511627776 : Int) < (x : Int)) = true := decide_eq_true (by omega)
              have yb : ((1099511627776 : Int) < (x : Int)) = True := eq_true (by omega)
              have HR : Hid (p.ranged = false) := by
                unfold Hid PV.ranged
                have h5 := HLT.out
                have hX := HX.out
                match i, h5 with
                | 0, _ => have hX : p.t = x := hX; simp; omega
                | 1, _ => have hX : p.q = x := hX; simp; omega
                | 2, _ => have hX : p.l = x := hX; simp; omega
                | 3, _ => have hX : p.o = x := hX; simp; omega
                | 4, _ => have hX : p.n = x := hX; simp; omega
              clear hx
              have HS : Hid (p.right = 1) := by
                unfold Hid PV.right
                rw [if_pos HR.out]
              go_wp2_with (first | (go_at_call 41; first | ((with_reducible refine (Ret.later (KD.out _)).mono ?_); rintro x _ ⟨rfl, e, rfl⟩) | ((with_reducible refine (Ret.later (KS.out _)).mono ?_); rintro x _ ⟨rfl, e, rfl⟩) | ((with_reducible refine (Ret.later (KR.out _)).mono ?_); rintro x _ ⟨rfl, e, rfl⟩)) | (go_at_call 30; first | ((with_reducible refine (Ret.later (H1.out _)).mono ?_); rintro x _ ⟨rfl, e, rfl⟩) | ((with_reducible refine (Ret.later (H2.out _)).mono ?_); rintro x _ ⟨rfl, e, rfl⟩) | ((with_reducible refine (Ret.later (H4.out _)).mono ?_); rintro x _ ⟨rfl, e, rfl⟩) | ((with_reducible refine (Ret.later (HH.out _)).mono ?_); rintro x _ ⟨rfl, e, rfl⟩) | ((with_reducible refine (Ret.later (HG.out _)).mono ?_); rintro x _ ⟨rfl, e, rfl⟩)))
              go_ret
              exact Ret.mk (by rw [HS.out]; rfl) (HE2.out.trans e.h)
            · have ya : decide ((1099511627776 : Int) < (x : Int)) = false := decide_eq_false (by omega)
              have yb : ((1099511627776 : Int) < (x : Int)) = False := eq_false (by omega)
              have HN := hid hx
              clear hx
              go_wp2_with fail
              go_roundw
              case rel => exact ⟨i + 1, by go_num, (show Hid _ from ⟨HLT.out, fun j hj => by
                by_cases hji : j = i
                · subst hji; rw [HX.out]; have := HN.out; omega
                · exact hi.out.2 j (by omega)⟩), e, rfl⟩
              case measure => have := HLT.out; simp [intOf]; omega
          · obtain rfl : i = 5 := by have := hi.out.1; omega
            have HR : Hid (p.ranged = true) := by
              have h := hi.out.2
              have a0 : p.t ≤ _ := h 0 (by omega)
              have a1 : p.q ≤ _ := h 1 (by omega)
              have a2 : p.l ≤ _ := h 2 (by omega)
              have a3 : p.o ≤ _ := h 3 (by omega)
              have a4 : p.n ≤ _ := h 4 (by omega)
              have := X1.out; have := X2.out; have := X3.out
              unfold Hid PV.ranged
              rw [Xd.out, Xs.out, Xr.out]
              simp; omega
            have HE := HE2
            clear hlt HAJ i0 i5 hi
            have HTB : Hid ((has p.fl 16384 || has p.fl 262144) = true ↔ (p.fl / 16384 % 2 = 1 ∨ p.fl / 262144 % 2 = 1)) := by unfold Hid has; simp
            cases hx1 : has p.fl 1 with
            | true =>
              rw [hx1] at H1
              have F1 : Hid (p.fl % 2 = 1) := by unfold has at hx1; unfold Hid; simpa using hx1
              clear hx1
              go_upto_region 10 with (first | (go_at_call 41; first | ((with_reducible refine (Ret.later (KD.out _)).mono ?_); rintro x _ ⟨rfl, e, rfl⟩) | ((with_reducible refine (Ret.later (KS.out _)).mono ?_); rintro x _ ⟨rfl, e, rfl⟩) | ((with_reducible refine (Ret.later (KR.out _)).mono ?_); rintro x _ ⟨rfl, e, rfl⟩)) | (go_at_call 30; first | ((with_reducible refine (Ret.later (H1.out _)).mono ?_); rintro x _ ⟨rfl, e, rfl⟩) | ((with_reducible refine (Ret.later (H2.out _)).mono ?_); rintro x _ ⟨rfl, e, rfl⟩) | ((with_reducible refine (Ret.later (H4.out _)).mono ?_); rintro x _ ⟨rfl, e, rfl⟩) | ((with_reducible refine (Ret.later (HH.out _)).mono ?_); rintro x _ ⟨rfl, e, rfl⟩) | ((with_reducible refine (Ret.later (HG.out _)).mono ?_); rintro x _ ⟨rfl, e, rfl⟩)))
              go_cut [6] (fun s6 wx => s6 = .bool (has p.fl 16384 || has p.fl 262144) ∧ ∃ e : Later V2, wx = e.x)
              case first =>
                cases h1 : has p.fl 16384
                all_goals rw [h1] at HH
                all_goals cases h2 : has p.fl 262144
                all_goals rw [h2] at HG
                all_goals have Q1 := hid h1
                all_goals have Q2 := hid h2
                all_goals clear h1 h2
                all_goals go_wp2_with (first | (go_at_call 41; first | ((with_reducible refine (Ret.later (KD.out _)).mono ?_); rintro x _ ⟨rfl, e, rfl⟩) | ((with_reducible refine (Ret.later (KS.out _)).mono ?_); rintro x _ ⟨rfl, e, rfl⟩) | ((with_reducible refine (Ret.later (KR.out _)).mono ?_); rintro x _ ⟨rfl, e, rfl⟩)) | (go_at_call 30; first | ((with_reducible refine (Ret.later (H1.out _)).mono ?_); rintro x _ ⟨rfl, e, rfl⟩) | ((with_reducible refine (Ret.later (H2.out _)).mono ?_); rintro x _ ⟨rfl, e, rfl⟩) | ((with_reducible refine (Ret.later (H4.out _)).mono ?_); rintro x _ ⟨rfl, e, rfl⟩) | ((with_reducible refine (Ret.later (HH.out _)).mono ?_); rintro x _ ⟨rfl, e, rfl⟩) | ((with_reducible refine (Ret.later (HG.out _)).mono ?_); rintro x _ ⟨rfl, e, rfl⟩)))
                all_goals go_meet
                all_goals exact ⟨by rw [Q1.out, Q2.out]; rfl, e, rfl⟩
              obtain ⟨rfl, e, rfl⟩ := hcut
              generalize (has p.fl 16384 || has p.fl 262144) = TB at *
              by_cases hx : p.fl / 4 % 2 = 1
              · rw [show has p.fl 4 = true by unfold has; simp [hx]] at H4
                have X4 := hid hx
                clear hx
                have HS : Hid (p.right = 8) := by
                  unfold Hid PV.right
                  rw [if_neg (by rw [HR.out]; decide), if_pos (.inl ⟨F1.out, .inl X4.out⟩)]
                go_wp2_with (first | (go_at_call 41; first | ((with_reducible refine (Ret.later (KD.out _)).mono ?_); rintro x _ ⟨rfl, e, rfl⟩) | ((with_reducible refine (Ret.later (KS.out _)).mono ?_); rintro x _ ⟨rfl, e, rfl⟩) | ((with_reducible refine (Ret.later (KR.out _)).mono ?_); rintro x _ ⟨rfl, e, rfl⟩)) | (go_at_call 30; first | ((with_reducible refine (Ret.later (H1.out _)).mono ?_); rintro x _ ⟨rfl, e, rfl⟩) | ((with_reducible refine (Ret.later (H2.out _)).mono ?_); rintro x _ ⟨rfl, e, rfl⟩) | ((with_reducible refine (Ret.later (H4.out _)).mono ?_); rintro x _ ⟨rfl, e, rfl⟩) | ((with_reducible refine (Ret.later (HH.out _)).mono ?_); rintro x _ ⟨rfl, e, rfl⟩) | ((with_reducible refine (Ret.later (HG.out _)).mono ?_); rintro x _ ⟨rfl, e, rfl⟩)))
                go_ret
                exact Ret.mk (by rw [HS.out]; rfl) (HE.out.trans e.h)
              rw [show has p.fl 4 = false by unfold has; simp; omega] at H4
              have X4 := hid hx
              clear hx
              by_cases hy : p.n ≤ p.o
              · have za : decide (p.n ≤ p.o) = true := decide_eq_true (by omega)
                have zb : (p.n ≤ p.o) = True := eq_true (by omega)
                have Y := hid hy
                clear hy
                have HS : Hid (p.right = 8) := by
                  unfold Hid PV.right
                  rw [if_neg (by rw [HR.out]; decide), if_pos (.inl ⟨F1.out, .inr Y.out⟩)]
                go_wp2_with (first | (go_at_call 41; first | ((with_reducible refine (Ret.later (KD.out _)).mono ?_); rintro x _ ⟨rfl, e, rfl⟩) | ((with_reducible refine (Ret.later (KS.out _)).mono ?_); rintro x _ ⟨rfl, e, rfl⟩) | ((with_reducible refine (Ret.later (KR.out _)).mono ?_); rintro x _ ⟨rfl, e, rfl⟩)) | (go_at_call 30; first | ((with_reducible refine (Ret.later (H1.out _)).mono ?_); rintro x _ ⟨rfl, e, rfl⟩) | ((with_reducible refine (Ret.later (H2.out _)).mono ?_); rintro x _ ⟨rfl, e, rfl⟩) | ((with_reducible refine (Ret.later (H4.out _)).mono ?_); rintro x _ ⟨rfl, e, rfl⟩) | ((with_reducible refine (Ret.later (HH.out _)).mono ?_); rintro x _ ⟨rfl, e, rfl⟩) | ((with_reducible refine (Ret.later (HG.out _)).mono ?_); rintro x _ ⟨rfl, e, rfl⟩)))
                go_ret
                exact Ret.mk (by rw [HS.out]; rfl) (HE.out.trans e.h)
              have za : decide (p.n ≤ p.o) = false := decide_eq_false (by omega)
              have zb : (p.n ≤ p.o) = False := eq_false (by omega)
              have G0 : Hid (¬ ((p.fl % 2 = 1 ∧ (p.fl / 4 % 2 = 1 ∨ p.n ≤ p.o)) ∨ (¬ p.fl % 2 = 1 ∧ (0 < p.o ∨ 0 < p.n)))) := by have := F1.out; have := X4.out; unfold Hid; omega
              clear hy
              by_cases hN : p.none
              · have n1 : p.s.sch = 1 := hN.1
                have n2 : p.s.name = [110, 111, 110, 101] := hN.2
                rw [n1] at b6
                rw [n2] at b7
                clear n1 n2
                have HN := hid hN
                clear hN
                cases hT : TB with
                | true =>
                  have XT : Hid (p.fl / 16384 % 2 = 1 ∨ p.fl / 262144 % 2 = 1) := HTB.out.1 hT
                  subst hT
                  have HS : Hid (p.right = 8) := by
                    unfold Hid PV.right
                    rw [if_neg (by rw [HR.out]; decide), if_neg (by have := G0.out; omega), if_pos (.inl ⟨XT.out, .inl HN.out⟩)]
                  go_wp2_with (first | (go_at_call 41; first | ((with_reducible refine (Ret.later (KD.out _)).mono ?_); rintro x _ ⟨rfl, e, rfl⟩) | ((with_reducible refine (Ret.later (KS.out _)).mono ?_); rintro x _ ⟨rfl, e, rfl⟩) | ((with_reducible refine (Ret.later (KR.out _)).mono ?_); rintro x _ ⟨rfl, e, rfl⟩)) | (go_at_call 30; first | ((with_reducible refine (Ret.later (H1.out _)).mono ?_); rintro x _ ⟨rfl, e, rfl⟩) | ((with_reducible refine (Ret.later (H2.out _)).mono ?_); rintro x _ ⟨rfl, e, rfl⟩) | ((with_reducible refine (Ret.later (H4.out _)).mono ?_); rintro x _ ⟨rfl, e, rfl⟩) | ((with_reducible refine (Ret.later (HH.out _)).mono ?_); rintro x _ ⟨rfl, e, rfl⟩) | ((with_reducible refine (Ret.later (HG.out _)).mono ?_); rintro x _ ⟨rfl, e, rfl⟩)))
                  go_ret
                  exact Ret.mk (by rw [HS.out]; rfl) (HE.out.trans e.h)
                | false =>
                  have XT : Hid (¬ (p.fl / 16384 % 2 = 1 ∨ p.fl / 262144 % 2 = 1)) := fun h => by have := HTB.out.2 h; rw [hT] at this; cases this
                  subst hT
                  have HS : Hid (p.right = 8) := by
                    unfold Hid PV.right
                    rw [if_neg (by rw [HR.out]; decide), if_neg (by have := G0.out; omega), if_pos (.inr ⟨HN.out, X4.out⟩)]
                  go_wp2_with (first | (go_at_call 41; first | ((with_reducible refine (Ret.later (KD.out _)).mono ?_); rintro x _ ⟨rfl, e, rfl⟩) | ((with_reducible refine (Ret.later (KS.out _)).mono ?_); rintro x _ ⟨rfl, e, rfl⟩) | ((with_reducible refine (Ret.later (KR.out _)).mono ?_); rintro x _ ⟨rfl, e, rfl⟩)) | (go_at_call 30; first | ((with_reducible refine (Ret.later (H1.out _)).mono ?_); rintro x _ ⟨rfl, e, rfl⟩) | ((with_reducible refine (Ret.later (H2.out _)).mono ?_); rintro x _ ⟨rfl, e, rfl⟩) | ((with_reducible refine (Ret.later (H4.out _)).mono ?_); rintro x _ ⟨rfl, e, rfl⟩) | ((with_reducible refine (Ret.later (HH.out _)).mono ?_); rintro x _ ⟨rfl, e, rfl⟩) | ((with_reducible refine (Ret.later (HG.out _)).mono ?_); rintro x _ ⟨rfl, e, rfl⟩)))
                  go_ret
                  exact Ret.mk (by rw [HS.out]; rfl) (HE.out.trans e.h)
              · have HN := hid hN
                by_cases hS : p.s.sch = 1
                · have hM : ¬ p.s.name = [110, 111, 110, 101] := fun h => hN ⟨hS, h⟩
                  rw [hS] at b6
                  have ma : ((p.s.name) == ([110, 111, 110, 101])) = false := by rw [beq_eq_false_iff_ne]; exact hM
                  have mb : ((p.s.name) = ([110, 111, 110, 101])) = False := eq_false (by exact hM)
                  have mc : ((p.s.name) != ([110, 111, 110, 101])) = true := by rw [bne_iff_ne]; exact hM
                  clear hM hS hN
                  cases hT : TB with
                  | true =>
                    have XT : Hid (p.fl / 16384 % 2 = 1 ∨ p.fl / 262144 % 2 = 1) := HTB.out.1 hT
                    subst hT
                    by_cases hx : p.fl / 2 % 2 = 1
                    · rw [show has p.fl 2 = true by unfold has; simp [hx]] at H2
                      have X2 := hid hx
                      clear hx
                      have HS : Hid (p.right = 8) := by
                        unfold Hid PV.right
                        rw [if_neg (by rw [HR.out]; decide), if_neg (by have := G0.out; omega), if_pos (.inl ⟨XT.out, .inr X2.out⟩)]
                      go_wp2_with (first | (go_at_call 41; first | ((with_reducible refine (Ret.later (KD.out _)).mono ?_); rintro x _ ⟨rfl, e, rfl⟩) | ((with_reducible refine (Ret.later (KS.out _)).mono ?_); rintro x _ ⟨rfl, e, rfl⟩) | ((with_reducible refine (Ret.later (KR.out _)).mono ?_); rintro x _ ⟨rfl, e, rfl⟩)) | (go_at_call 30; first | ((with_reducible refine (Ret.later (H1.out _)).mono ?_); rintro x _ ⟨rfl, e, rfl⟩) | ((with_reducible refine (Ret.later (H2.out _)).mono ?_); rintro x _ ⟨rfl, e, rfl⟩) | ((with_reducible refine (Ret.later (H4.out _)).mono ?_); rintro x _ ⟨rfl, e, rfl⟩) | ((with_reducible refine (Ret.later (HH.out _)).mono ?_); rintro x _ ⟨rfl, e, rfl⟩) | ((with_reducible refine (Ret.later (HG.out _)).mono ?_); rintro x _ ⟨rfl, e, rfl⟩)))
                      go_ret
                      exact Ret.mk (by rw [HS.out]; rfl) (HE.out.trans e.h)
                    · rw [show has p.fl 2 = false by unfold has; simp; omega] at H2
                      have X2 := hid hx
                      clear hx
                      have HS : Hid (p.right = 0) := by
                        unfold Hid PV.right
                        rw [if_neg (by rw [HR.out]; decide), if_neg (by have := G0.out; omega), if_neg (fun h => h.elim (fun h => h.2.elim HN.out X2.out) (fun h => HN.out h.1))]
                      go_wp2_with (first | (go_at_call 41; first | ((with_reducible refine (Ret.later (KD.out _)).mono ?_); rintro x _ ⟨rfl, e, rfl⟩) | ((with_reducible refine (Ret.later (KS.out _)).mono ?_); rintro x _ ⟨rfl, e, rfl⟩) | ((with_reducible refine (Ret.later (KR.out _)).mono ?_); rintro x _ ⟨rfl, e, rfl⟩)) | (go_at_call 30; first | ((with_reducible refine (Ret.later (H1.out _)).mono ?_); rintro x _ ⟨rfl, e, rfl⟩) | ((with_reducible refine (Ret.later (H2.out _)).mono ?_); rintro x _ ⟨rfl, e, rfl⟩) | ((with_reducible refine (Ret.later (H4.out _)).mono ?_); rintro x _ ⟨rfl, e, rfl⟩) | ((with_reducible refine (Ret.later (HH.out _)).mono ?_); rintro x _ ⟨rfl, e, rfl⟩) | ((with_reducible refine (Ret.later (HG.out _)).mono ?_); rintro x _ ⟨rfl, e, rfl⟩)))
                      go_ret
                      exact Ret.mk (by rw [HS.out]; rfl) (HE.out.trans e.h)
                  | false =>
                    have XT : Hid (¬ (p.fl / 16384 % 2 = 1 ∨ p.fl / 262144 % 2 = 1)) := fun h => by have := HTB.out.2 h; rw [hT] at this; cases this
                    subst hT
                    have HS : Hid (p.right = 0) := by
                      unfold Hid PV.right
                      rw [if_neg (by rw [HR.out]; decide), if_neg (by have := G0.out; omega), if_neg (fun h => h.elim (fun h => XT.out h.1) (fun h => HN.out h.1))]
                    go_wp2_with (first | (go_at_call 41; first | ((with_reducible refine (Ret.later (KD.out _)).mono ?_); rintro x _ ⟨rfl, e, rfl⟩) | ((with_reducible refine (Ret.later (KS.out _)).mono ?_); rintro x _ ⟨rfl, e, rfl⟩) | ((with_reducible refine (Ret.later (KR.out _)).mono ?_); rintro x _ ⟨rfl, e, rfl⟩)) | (go_at_call 30; first | ((with_reducible refine (Ret.later (H1.out _)).mono ?_); rintro x _ ⟨rfl, e, rfl⟩) | ((with_reducible refine (Ret.later (H2.out _)).mono ?_); rintro x _ ⟨rfl, e, rfl⟩) | ((with_reducible refine (Ret.later (H4.out _)).mono ?_); rintro x _ ⟨rfl, e, rfl⟩) | ((with_reducible refine (Ret.later (HH.out _)).mono ?_); rintro x _ ⟨rfl, e, rfl⟩) | ((with_reducible refine (Ret.later (HG.out _)).mono ?_); rintro x _ ⟨rfl, e, rfl⟩)))
                    go_ret
                    exact Ret.mk (by rw [HS.out]; rfl) (HE.out.trans e.h)
                · have ma : ((p.s.sch) == (1)) = false := by rw [beq_eq_false_iff_ne]; omega
                  have mb : ((p.s.sch) = (1)) = False := eq_false (by omega)
                  have mc : ((p.s.sch) != (1)) = true := by rw [bne_iff_ne]; omega
                  clear hS hN
                  cases hT : TB with
                  | true =>
                    have XT : Hid (p.fl / 16384 % 2 = 1 ∨ p.fl / 262144 % 2 = 1) := HTB.out.1 hT
                    subst hT
                    by_cases hx : p.fl / 2 % 2 = 1
                    · rw [show has p.fl 2 = true by unfold has; simp [hx]] at H2
                      have X2 := hid hx
                      clear hx
                      have HS : Hid (p.right = 8) := by
                        unfold Hid PV.right
                        rw [if_neg (by rw [HR.out]; decide), if_neg (by have := G0.out; omega), if_pos (.inl ⟨XT.out, .inr X2.out⟩)]
                      go_wp2_with (first | (go_at_call 41; first | ((with_reducible refine (Ret.later (KD.out _)).mono ?_); rintro x _ ⟨rfl, e, rfl⟩) | ((with_reducible refine (Ret.later (KS.out _)).mono ?_); rintro x _ ⟨rfl, e, rfl⟩) | ((with_reducible refine (Ret.later (KR.out _)).mono ?_); rintro x _ ⟨rfl, e, rfl⟩)) | (go_at_call 30; first | ((with_reducible refine (Ret.later (H1.out _)).mono ?_); rintro x _ ⟨rfl, e, rfl⟩) | ((with_reducible refine (Ret.later (H2.out _)).mono ?_); rintro x _ ⟨rfl, e, rfl⟩) | ((with_reducible refine (Ret.later (H4.out _)).mono ?_); rintro x _ ⟨rfl, e, rfl⟩) | ((with_reducible refine (Ret.later (HH.out _)).mono ?_); rintro x _ ⟨rfl, e, rfl⟩) | ((with_reducible refine (Ret.later (HG.out _)).mono ?_); rintro x _ ⟨rfl, e, rfl⟩)))
                      go_ret
                      exact Ret.mk (by rw [HS.out]; rfl) (HE.out.trans e.h)
                    · rw [show has p.fl 2 = false by unfold has; simp; omega] at H2
                      have X2 := hid hx
                      clear hx
                      have HS : Hid (p.right = 0) := by
                        unfold Hid PV.right
                        rw [if_neg (by rw [HR.out]; decide), if_neg (by have := G0.out; omega), if_neg (fun h => h.elim (fun h => h.2.elim HN.out X2.out) (fun h => HN.out h.1))]
                      go_wp2_with (first | (go_at_call 41; first | ((with_reducible refine (Ret.later (KD.out _)).mono ?_); rintro x _ ⟨rfl, e, rfl⟩) | ((with_reducible refine (Ret.later (KS.out _)).mono ?_); rintro x _ ⟨rfl, e, rfl⟩) | ((with_reducible refine (Ret.later (KR.out _)).mono ?_); rintro x _ ⟨rfl, e, rfl⟩)) | (go_at_call 30; first | ((with_reducible refine (Ret.later (H1.out _)).mono ?_); rintro x _ ⟨rfl, e, rfl⟩) | ((with_reducible refine (Ret.later (H2.out _)).mono ?_); rintro x _ ⟨rfl, e, rfl⟩) | ((with_reducible refine (Ret.later (H4.out _)).mono ?_); rintro x _ ⟨rfl, e, rfl⟩) | ((with_reducible refine (Ret.later (HH.out _)).mono ?_); rintro x _ ⟨rfl, e, rfl⟩) | ((with_reducible refine (Ret.later (HG.out _)).mono ?_); rintro x _ ⟨rfl, e, rfl⟩)))
                      go_ret
                      exact Ret.mk (by rw [HS.out]; rfl) (HE.out.trans e.h)
                  | false =>
                    have XT : Hid (¬ (p.fl / 16384 % 2 = 1 ∨ p.fl / 262144 % 2 = 1)) := fun h => by have := HTB.out.2 h; rw [hT] at this; cases this
                    subst hT
                    have HS : Hid (p.right = 0) := by
                      unfold Hid PV.right
                      rw [if_neg (by rw [HR.out]; decide), if_neg (by have := G0.out; omega), if_neg (fun h => h.elim (fun h => XT.out h.1) (fun h => HN.out h.1))]
                    go_wp2_with (first | (go_at_call 41; first | ((with_reducible refine (Ret.later (KD.out _)).mono ?_); rintro x _ ⟨rfl, e, rfl⟩) | ((with_reducible refine (Ret.later (KS.out _)).mono ?_); rintro x _ ⟨rfl, e, rfl⟩) | ((with_reducible refine (Ret.later (KR.out _)).mono ?_); rintro x _ ⟨rfl, e, rfl⟩)) | (go_at_call 30; first | ((with_reducible refine (Ret.later (H1.out _)).mono ?_); rintro x _ ⟨rfl, e, rfl⟩) | ((with_reducible refine (Ret.later (H2.out _)).mono ?_); rintro x _ ⟨rfl, e, rfl⟩) | ((with_reducible refine (Ret.later (H4.out _)).mono ?_); rintro x _ ⟨rfl, e, rfl⟩) | ((with_reducible refine (Ret.later (HH.out _)).mono ?_); rintro x _ ⟨rfl, e, rfl⟩) | ((with_reducible refine (Ret.later (HG.out _)).mono ?_); rintro x _ ⟨rfl, e, rfl⟩)))
                    go_ret
                    exact Ret.mk (by rw [HS.out]; rfl) (HE.out.trans e.h)
            | false =>
              rw [hx1] at H1
              have F1 : Hid (¬ p.fl % 2 = 1) := by unfold has at hx1; unfold Hid; simpa using hx1
              clear hx1
              go_upto_region 10 with (first | (go_at_call 41; first | ((with_reducible refine (Ret.later (KD.out _)).mono ?_); rintro x _ ⟨rfl, e, rfl⟩) | ((with_reducible refine (Ret.later (KS.out _)).mono ?_); rintro x _ ⟨rfl, e, rfl⟩) | ((with_reducible refine (Ret.later (KR.out _)).mono ?_); rintro x _ ⟨rfl, e, rfl⟩)) | (go_at_call 30; first | ((with_reducible refine (Ret.later (H1.out _)).mono ?_); rintro x _ ⟨rfl, e, rfl⟩) | ((with_reducible refine (Ret.later (H2.out _)).mono ?_); rintro x _ ⟨rfl, e, rfl⟩) | ((with_reducible refine (Ret.later (H4.out _)).mono ?_); rintro x _ ⟨rfl, e, rfl⟩) | ((with_reducible refine (Ret.later (HH.out _)).mono ?_); rintro x _ ⟨rfl, e, rfl⟩) | ((with_reducible refine (Ret.later (HG.out _)).mono ?_); rintro x _ ⟨rfl, e, rfl⟩)))
              go_cut [6] (fun s6 wx => s6 = .bool (has p.fl 16384 || has p.fl 262144) ∧ ∃ e : Later V2, wx = e.x)
              case first =>
                cases h1 : has p.fl 16384
                all_goals rw [h1] at HH
                all_goals cases h2 : has p.fl 262144
                all_goals rw [h2] at HG
                all_goals have Q1 := hid h1
                all_goals have Q2 := hid h2
                all_goals clear h1 h2
                all_goals go_wp2_with (first | (go_at_call 41; first | ((with_reducible refine (Ret.later (KD.out _)).mono ?_); rintro x _ ⟨rfl, e, rfl⟩) | ((with_reducible refine (Ret.later (KS.out _)).mono ?_); rintro x _ ⟨rfl, e, rfl⟩) | ((with_reducible refine (Ret.later (KR.out _)).mono ?_); rintro x _ ⟨rfl, e, rfl⟩)) | (go_at_call 30; first | ((with_reducible refine (Ret.later (H1.out _)).mono ?_); rintro x _ ⟨rfl, e, rfl⟩) | ((with_reducible refine (Ret.later (H2.out _)).mono ?_); rintro x _ ⟨rfl, e, rfl⟩) | ((with_reducible refine (Ret.later (H4.out _)).mono ?_); rintro x _ ⟨rfl, e, rfl⟩) | ((with_reducible refine (Ret.later (HH.out _)).mono ?_); rintro x _ ⟨rfl, e, rfl⟩) | ((with_reducible refine (Ret.later (HG.out _)).mono ?_); rintro x _ ⟨rfl, e, rfl⟩)))
                all_goals go_meet
                all_goals exact ⟨by rw [Q1.out, Q2.out]; rfl, e, rfl⟩
              obtain ⟨rfl, e, rfl⟩ := hcut
              generalize (has p.fl 16384 || has p.fl 262144) = TB at *
              by_cases hx : 0 < p.o
              · have za : decide ((0 : Int) < (p.o : Int)) = true := decide_eq_true (by omega)
                have zb : ((0 : Int) < (p.o : Int)) = True := eq_true (by omega)
                have ka : decide (0 < p.o) = true := decide_eq_true (by omega)
                have kb : (0 < p.o) = True := eq_true (by omega)
                have Y := hid hx
                clear hx
                have HS : Hid (p.right = 8) := by
                  unfold Hid PV.right
                  rw [if_neg (by rw [HR.out]; decide), if_pos (.inr ⟨F1.out, .inl Y.out⟩)]
                go_wp2_with (first | (go_at_call 41; first | ((with_reducible refine (Ret.later (KD.out _)).mono ?_); rintro x _ ⟨rfl, e, rfl⟩) | ((with_reducible refine (Ret.later (KS.out _)).mono ?_); rintro x _ ⟨rfl, e, rfl⟩) | ((with_reducible refine (Ret.later (KR.out _)).mono ?_); rintro x _ ⟨rfl, e, rfl⟩)) | (go_at_call 30; first | ((with_reducible refine (Ret.later (H1.out _)).mono ?_); rintro x _ ⟨rfl, e, rfl⟩) | ((with_reducible refine (Ret.later (H2.out _)).mono ?_); rintro x _ ⟨rfl, e, rfl⟩) | ((with_reducible refine (Ret.later (H4.out _)).mono ?_); rintro x _ ⟨rfl, e, rfl⟩) | ((with_reducible refine (Ret.later (HH.out _)).mono ?_); rintro x _ ⟨rfl, e, rfl⟩) | ((with_reducible refine (Ret.later (HG.out _)).mono ?_); rintro x _ ⟨rfl, e, rfl⟩)))
                go_ret
                exact Ret.mk (by rw [HS.out]; rfl) (HE.out.trans e.h)
              by_cases hy : 0 < p.n
              · have za : decide ((0 : Int) < (p.o : Int)) = false := decide_eq_false (by omega)
                have zb : ((0 : Int) < (p.o : Int)) = False := eq_false (by omega)
                have ka : decide (0 < p.o) = false := decide_eq_false (by omega)
                have kb : (0 < p.o) = False := eq_false (by omega)
                have sa : decide ((0 : Int) < (p.n : Int)) = true := decide_eq_true (by omega)
                have sb : ((0 : Int) < (p.n : Int)) = True := eq_true (by omega)
                have ga : decide (0 < p.n) = true := decide_eq_true (by omega)
                have gb : (0 < p.n) = True := eq_true (by omega)
                have Y := hid hy
                clear hy hx
                have HS : Hid (p.right = 8) := by
                  unfold Hid PV.right
                  rw [if_neg (by rw [HR.out]; decide), if_pos (.inr ⟨F1.out, .inr Y.out⟩)]
                go_wp2_with (first | (go_at_call 41; first | ((with_reducible refine (Ret.later (KD.out _)).mono ?_); rintro x _ ⟨rfl, e, rfl⟩) | ((with_reducible refine (Ret.later (KS.out _)).mono ?_); rintro x _ ⟨rfl, e, rfl⟩) | ((with_reducible refine (Ret.later (KR.out _)).mono ?_); rintro x _ ⟨rfl, e, rfl⟩)) | (go_at_call 30; first | ((with_reducible refine (Ret.later (H1.out _)).mono ?_); rintro x _ ⟨rfl, e, rfl⟩) | ((with_reducible refine (Ret.later (H2.out _)).mono ?_); rintro x _ ⟨rfl, e, rfl⟩) | ((with_reducible refine (Ret.later (H4.out _)).mono ?_); rintro x _ ⟨rfl, e, rfl⟩) | ((with_reducible refine (Ret.later (HH.out _)).mono ?_); rintro x _ ⟨rfl, e, rfl⟩) | ((with_reducible refine (Ret.later (HG.out _)).mono ?_); rintro x _ ⟨rfl, e, rfl⟩)))
                go_ret
                exact Ret.mk (by rw [HS.out]; rfl) (HE.out.trans e.h)
              have G0 : Hid (¬ ((p.fl % 2 = 1 ∧ (p.fl / 4 % 2 = 1 ∨ p.n ≤ p.o)) ∨ (¬ p.fl % 2 = 1 ∧ (0 < p.o ∨ 0 < p.n)))) := by have := F1.out; unfold Hid; omega
              have ho : p.o = 0 := by omega
              have hn : p.n = 0 := by omega
              rw [ho] at b17
              rw [hn] at b18
              clear hx hy ho hn
              by_cases hN : p.none
              · have n1 : p.s.sch = 1 := hN.1
                have n2 : p.s.name = [110, 111, 110, 101] := hN.2
                rw [n1] at b6
                rw [n2] at b7
                clear n1 n2
                have HN := hid hN
                clear hN
                cases hT : TB with
                | true =>
                  have XT : Hid (p.fl / 16384 % 2 = 1 ∨ p.fl / 262144 % 2 = 1) := HTB.out.1 hT
                  subst hT
                  have HS : Hid (p.right = 8) := by
                    unfold Hid PV.right
                    rw [if_neg (by rw [HR.out]; decide), if_neg (by have := G0.out; omega), if_pos (.inl ⟨XT.out, .inl HN.out⟩)]
                  go_wp2_with (first | (go_at_call 41; first | ((with_reducible refine (Ret.later (KD.out _)).mono ?_); rintro x _ ⟨rfl, e, rfl⟩) | ((with_reducible refine (Ret.later (KS.out _)).mono ?_); rintro x _ ⟨rfl, e, rfl⟩) | ((with_reducible refine (Ret.later (KR.out _)).mono ?_); rintro x _ ⟨rfl, e, rfl⟩)) | (go_at_call 30; first | ((with_reducible refine (Ret.later (H1.out _)).mono ?_); rintro x _ ⟨rfl, e, rfl⟩) | ((with_reducible refine (Ret.later (H2.out _)).mono ?_); rintro x _ ⟨rfl, e, rfl⟩) | ((with_reducible refine (Ret.later (H4.out _)).mono ?_); rintro x _ ⟨rfl, e, rfl⟩) | ((with_reducible refine (Ret.later (HH.out _)).mono ?_); rintro x _ ⟨rfl, e, rfl⟩) | ((with_reducible refine (Ret.later (HG.out _)).mono ?_); rintro x _ ⟨rfl, e, rfl⟩)))
                  go_ret
                  exact Ret.mk (by rw [HS.out]; rfl) (HE.out.trans e.h)
                | false =>
                  have XT : Hid (¬ (p.fl / 16384 % 2 = 1 ∨ p.fl / 262144 % 2 = 1)) := fun h => by have := HTB.out.2 h; rw [hT] at this; cases this
                  subst hT
                  by_cases hx : p.fl / 4 % 2 = 1
                  · rw [show has p.fl 4 = true by unfold has; simp [hx]] at H4
                    have X4 := hid hx
                    clear hx
                    have HS : Hid (p.right = 0) := by
                      unfold Hid PV.right
                      rw [if_neg (by rw [HR.out]; decide), if_neg (by have := G0.out; omega), if_neg (fun h => h.elim (fun h => XT.out h.1) (fun h => h.2 X4.out))]
                    go_wp2_with (first | (go_at_call 41; first | ((with_reducible refine (Ret.later (KD.out _)).mono ?_); rintro x _ ⟨rfl, e, rfl⟩) | ((with_reducible refine (Ret.later (KS.out _)).mono ?_); rintro x _ ⟨rfl, e, rfl⟩) | ((with_reducible refine (Ret.later (KR.out _)).mono ?_); rintro x _ ⟨rfl, e, rfl⟩)) | (go_at_call 30; first | ((with_reducible refine (Ret.later (H1.out _)).mono ?_); rintro x _ ⟨rfl, e, rfl⟩) | ((with_reducible refine (Ret.later (H2.out _)).mono ?_); rintro x _ ⟨rfl, e, rfl⟩) | ((with_reducible refine (Ret.later (H4.out _)).mono ?_); rintro x _ ⟨rfl, e, rfl⟩) | ((with_reducible refine (Ret.later (HH.out _)).mono ?_); rintro x _ ⟨rfl, e, rfl⟩) | ((with_reducible refine (Ret.later (HG.out _)).mono ?_); rintro x _ ⟨rfl, e, rfl⟩)))
                    go_ret
                    exact Ret.mk (by rw [HS.out]; rfl) (HE.out.trans e.h)
                  · rw [show has p.fl 4 = false by unfold has; simp; omega] at H4
                    have X4 := hid hx
                    clear hx
                    have HS : Hid (p.right = 8) := by
                      unfold Hid PV.right
                      rw [if_neg (by rw [HR.out]; decide), if_neg (by have := G0.out; omega), if_pos (.inr ⟨HN.out, X4.out⟩)]
                    go_wp2_with (first | (go_at_call 41; first | ((with_reducible refine (Ret.later (KD.out _)).mono ?_); rintro x _ ⟨rfl, e, rfl⟩) | ((with_reducible refine (Ret.later (KS.out _)).mono ?_); rintro x _ ⟨rfl, e, rfl⟩) | ((with_reducible refine (Ret.later (KR.out _)).mono ?_); rintro x _ ⟨rfl, e, rfl⟩)) | (go_at_call 30; first | ((with_reducible refine (Ret.later (H1.out _)).mono ?_); rintro x _ ⟨rfl, e, rfl⟩) | ((with_reducible refine (Ret.later (H2.out _)).mono ?_); rintro x _ ⟨rfl, e, rfl⟩) | ((with_reducible refine (Ret.later (H4.out _)).mono ?_); rintro x _ ⟨rfl, e, rfl⟩) | ((with_reducible refine (Ret.later (HH.out _)).mono ?_); rintro x _ ⟨rfl, e, rfl⟩) | ((with_reducible refine (Ret.later (HG.out _)).mono ?_); rintro x _ ⟨rfl, e, rfl⟩)))
                    go_ret
                    exact Ret.mk (by rw [HS.out]; rfl) (HE.out.trans e.h)
              · have HN := hid hN
                by_cases hS : p.s.sch = 1
                · have hM : ¬ p.s.name = [110, 111, 110, 101] := fun h => hN ⟨hS, h⟩
                  rw [hS] at b6
                  have ma : ((p.s.name) == ([110, 111, 110, 101])) = false := by rw [beq_eq_false_iff_ne]; exact hM
                  have mb : ((p.s.name) = ([110, 111, 110, 101])) = False := eq_false (by exact hM)
                  have mc : ((p.s.name) != ([110, 111, 110, 101])) = true := by rw [bne_iff_ne]; exact hM
                  clear hM hS hN
                  cases hT : TB with
                  | true =>
                    have XT : Hid (p.fl / 16384 % 2 = 1 ∨ p.fl / 262144 % 2 = 1) := HTB.out.1 hT
                    subst hT
                    by_cases hx : p.fl / 2 % 2 = 1
                    · rw [show has p.fl 2 = true by unfold has; simp [hx]] at H2
                      have X2 := hid hx
                      clear hx
                      have HS : Hid (p.right = 8) := by
                        unfold Hid PV.right
                        rw [if_neg (by rw [HR.out]; decide), if_neg (by have := G0.out; omega), if_pos (.inl ⟨XT.out, .inr X2.out⟩)]
                      go_wp2_with (first | (go_at_call 41; first | ((with_reducible refine (Ret.later (KD.out _)).mono ?_); rintro x _ ⟨rfl, e, rfl⟩) | ((with_reducible refine (Ret.later (KS.out _)).mono ?_); rintro x _ ⟨rfl, e, rfl⟩) | ((with_reducible refine (Ret.later (KR.out _)).mono ?_); rintro x _ ⟨rfl, e, rfl⟩)) | (go_at_call 30; first | ((with_reducible refine (Ret.later (H1.out _)).mono ?_); rintro x _ ⟨rfl, e, rfl⟩) | ((with_reducible refine (Ret.later (H2.out _)).mono ?_); rintro x _ ⟨rfl, e, rfl⟩) | ((with_reducible refine (Ret.later (H4.out _)).mono ?_); rintro x _ ⟨rfl, e, rfl⟩) | ((with_reducible refine (Ret.later (HH.out _)).mono ?_); rintro x _ ⟨rfl, e, rfl⟩) | ((with_reducible refine (Ret.later (HG.out _)).mono ?_); rintro x _ ⟨rfl, e, rfl⟩)))
                      go_ret
                      exact Ret.mk (by rw [HS.out]; rfl) (HE.out.trans e.h)
                    · rw [show has p.fl 2 = false by unfold has; simp; omega] at H2
                      have X2 := hid hx
                      clear hx
                      have HS : Hid (p.right = 0) := by
                        unfold Hid PV.right
                        rw [if_neg (by rw [HR.out]; decide), if_neg (by have := G0.out; omega), if_neg (fun h => h.elim (fun h => h.2.elim HN.out X2.out) (fun h => HN.out h.1))]
                      go_wp2_with (first | (go_at_call 41; first | ((with_reducible refine (Ret.later (KD.out _)).mono ?_); rintro x _ ⟨rfl, e, rfl⟩) | ((with_reducible refine (Ret.later (KS.out _)).mono ?_); rintro x _ ⟨rfl, e, rfl⟩) | ((with_reducible refine (Ret.later (KR.out _)).mono ?_); rintro x _ ⟨rfl, e, rfl⟩)) | (go_at_call 30; first | ((with_reducible refine (Ret.later (H1.out _)).mono ?_); rintro x _ ⟨rfl, e, rfl⟩) | ((with_reducible refine (Ret.later (H2.out _)).mono ?_); rintro x _ ⟨rfl, e, rfl⟩) | ((with_reducible refine (Ret.later (H4.out _)).mono ?_); rintro x _ ⟨rfl, e, rfl⟩) | ((with_reducible refine (Ret.later (HH.out _)).mono ?_); rintro x _ ⟨rfl, e, rfl⟩) | ((with_reducible refine (Ret.later (HG.out _)).mono ?_); rintro x _ ⟨rfl, e, rfl⟩)))
                      go_ret
                      exact Ret.mk (by rw [HS.out]; rfl) (HE.out.trans e.h)
                  | false =>
                    have XT : Hid (¬ (p.fl / 16384 % 2 = 1 ∨ p.fl / 262144 % 2 = 1)) := fun h => by have := HTB.out.2 h; rw [hT] at this; cases this
                    subst hT
                    have HS : Hid (p.right = 0) := by
                      unfold Hid PV.right
                      rw [if_neg (by rw [HR.out]; decide), if_neg (by have := G0.out; omega), if_neg (fun h => h.elim (fun h => XT.out h.1) (fun h => HN.out h.1))]
                    go_wp2_with (first | (go_at_call 41; first | ((with_reducible refine (Ret.later (KD.out _)).mono ?_); rintro x _ ⟨rfl, e, rfl⟩) | ((with_reducible refine (Ret.later (KS.out _)).mono ?_); rintro x _ ⟨rfl, e, rfl⟩) | ((with_reducible refine (Ret.later (KR.out _)).mono ?_); rintro x _ ⟨rfl, e, rfl⟩)) | (go_at_call 30; first | ((with_reducible refine (Ret.later (H1.out _)).mono ?_); rintro x _ ⟨rfl, e, rfl⟩) | ((with_reducible refine (Ret.later (H2.out _)).mono ?_); rintro x _ ⟨rfl, e, rfl⟩) | ((with_reducible refine (Ret.later (H4.out _)).mono ?_); rintro x _ ⟨rfl, e, rfl⟩) | ((with_reducible refine (Ret.later (HH.out _)).mono ?_); rintro x _ ⟨rfl, e, rfl⟩) | ((with_reducible refine (Ret.later (HG.out _)).mono ?_); rintro x _ ⟨rfl, e, rfl⟩)))
                    go_ret
                    exact Ret.mk (by rw [HS.out]; rfl) (HE.out.trans e.h)
                · have ma : ((p.s.sch) == (1)) = false := by rw [beq_eq_false_iff_ne]; omega
                  have mb : ((p.s.sch) = (1)) = False := eq_false (by omega)
                  have mc : ((p.s.sch) != (1)) = true := by rw [bne_iff_ne]; omega
                  clear hS hN
                  cases hT : TB with
                  | true =>
                    have XT : Hid (p.fl / 16384 % 2 = 1 ∨ p.fl / 262144 % 2 = 1) := HTB.out.1 hT
                    subst hT
                    by_cases hx : p.fl / 2 % 2 = 1
                    · rw [show has p.fl 2 = true by unfold has; simp [hx]] at H2
                      have X2 := hid hx
                      clear hx
                      have HS : Hid (p.right = 8) := by
                        unfold Hid PV.right
                        rw [if_neg (by rw [HR.out]; decide), if_neg (by have := G0.out; omega), if_pos (.inl ⟨XT.out, .inr X2.out⟩)]
                      go_wp2_with (first | (go_at_call 41; first | ((with_reducible refine (Ret.later (KD.out _)).mono ?_); rintro x _ ⟨rfl, e, rfl⟩) | ((with_reducible refine (Ret.later (KS.out _)).mono ?_); rintro x _ ⟨rfl, e, rfl⟩) | ((with_reducible refine (Ret.later (KR.out _)).mono ?_); rintro x _ ⟨rfl, e, rfl⟩)) | (go_at_call 30; first | ((with_reducible refine (Ret.later (H1.out _)).mono ?_); rintro x _ ⟨rfl, e, rfl⟩) | ((with_reducible refine (Ret.later (H2.out _)).mono ?_); rintro x _ ⟨rfl, e, rfl⟩) | ((with_reducible refine (Ret.later (H4.out _)).mono ?_); rintro x _ ⟨rfl, e, rfl⟩) | ((with_reducible refine (Ret.later (HH.out _)).mono ?_); rintro x _ ⟨rfl, e, rfl⟩) | ((with_reducible refine (Ret.later (HG.out _)).mono ?_); rintro x _ ⟨rfl, e, rfl⟩)))
                      go_ret
                      exact Ret.mk (by rw [HS.out]; rfl) (HE.out.trans e.h)
                    · rw [show has p.fl 2 = false by unfold has; simp; omega] at H2
                      have X2 := hid hx
                      clear hx
                      have HS : Hid (p.right = 0) := by
                        unfold Hid PV.right
                        rw [if_neg (by rw [HR.out]; decide), if_neg (by have := G0.out; omega), if_neg (fun h => h.elim (fun h => h.2.elim HN.out X2.out) (fun h => HN.out h.1))]
                      go_wp2_with (first | (go_at_call 41; first | ((with_reducible refine (Ret.later (KD.out _)).mono ?_); rintro x _ ⟨rfl, e, rfl⟩) | ((with_reducible refine (Ret.later (KS.out _)).mono ?_); rintro x _ ⟨rfl, e, rfl⟩) | ((with_reducible refine (Ret.later (KR.out _)).mono ?_); rintro x _ ⟨rfl, e, rfl⟩)) | (go_at_call 30; first | ((with_reducible refine (Ret.later (H1.out _)).mono ?_); rintro x _ ⟨rfl, e, rfl⟩) | ((with_reducible refine (Ret.later (H2.out _)).mono ?_); rintro x _ ⟨rfl, e, rfl⟩) | ((with_reducible refine (Ret.later (H4.out _)).mono ?_); rintro x _ ⟨rfl, e, rfl⟩) | ((with_reducible refine (Ret.later (HH.out _)).mono ?_); rintro x _ ⟨rfl, e, rfl⟩) | ((with_reducible refine (Ret.later (HG.out _)).mono ?_); rintro x _ ⟨rfl, e, rfl⟩)))
                      go_ret
                      exact Ret.mk (by rw [HS.out]; rfl) (HE.out.trans e.h)
                  | false =>
                    have XT : Hid (¬ (p.fl / 16384 % 2 = 1 ∨ p.fl / 262144 % 2 = 1)) := fun h => by have := HTB.out.2 h; rw [hT] at this; cases this
                    subst hT
                    have HS : Hid (p.right = 0) := by
                      unfold Hid PV.right
                      rw [if_neg (by rw [HR.out]; decide), if_neg (by have := G0.out; omega), if_neg (fun h => h.elim (fun h => XT.out h.1) (fun h => HN.out h.1))]
                    go_wp2_with (first | (go_at_call 41; first | ((with_reducible refine (Ret.later (KD.out _)).mono ?_); rintro x _ ⟨rfl, e, rfl⟩) | ((with_reducible refine (Ret.later (KS.out _)).mono ?_); rintro x _ ⟨rfl, e, rfl⟩) | ((with_reducible refine (Ret.later (KR.out _)).mono ?_); rintro x _ ⟨rfl, e, rfl⟩)) | (go_at_call 30; first | ((with_reducible refine (Ret.later (H1.out _)).mono ?_); rintro x _ ⟨rfl, e, rfl⟩) | ((with_reducible refine (Ret.later (H2.out _)).mono ?_); rintro x _ ⟨rfl, e, rfl⟩) | ((with_reducible refine (Ret.later (H4.out _)).mono ?_); rintro x _ ⟨rfl, e, rfl⟩) | ((with_reducible refine (Ret.later (HH.out _)).mono ?_); rintro x _ ⟨rfl, e, rfl⟩) | ((with_reducible refine (Ret.later (HG.out _)).mono ?_); rintro x _ ⟨rfl, e, rfl⟩)))
                    go_ret
                    exact Ret.mk (by rw [HS.out]; rfl) (HE.out.trans e.h)
end Go.Proofs.YtkeabdfgacicaaaGreat


namespace Go.Proofs.YtkeabdfgacicaaaGreat
open Go.RowKit
set_option linter.unusedVariables false
set_option linter.unusedSimpArgs false

set_option maxRecDepth 20000 in
theorem eidNoneP_any (w : World) : Calls Tryz.prog 95 #[] w (Ret (.agg #[.int .i64 1, str [110, 111, 110, 101], .int .u64 0, .int .u64 0]) w) := by
  go_enter Tryz.func95, Tryz.ntmps95
  go_wp2
  refine bodyPost_ret (v := .agg #[.int .i64 1, str [110, 111, 110, 101], .int .u64 0, .int .u64 0]) ?_ rfl (Ret.mk rfl ((Mod.refl _ _).alloc _))
  simp [results, Tryz.results95, go_sem]
theorem and_powP (f k : Nat) : f &&& 2 ^ k = if f.testBit k = true then 2 ^ k else 0 := by
  apply Nat.eq_of_testBit_eq
  intro i
  rw [Nat.testBit_and, Nat.testBit_two_pow]
  by_cases h : k = i
  · subst h
    cases f.testBit k <;> simp
  · cases f.testBit k <;> simp [h]
theorem u64_and_powP (f k : Nat) (hf : f < 18446744073709551616) (hk : k < 64) : bits .and .u64 (f : Int) ((2 ^ k : Nat) : Int) = if f / 2 ^ k % 2 = 1 then ((2 ^ k : Nat) : Int) else 0 := by
  have h2 : 2 ^ k < 18446744073709551616 := by
    have : 2 ^ k < 2 ^ 64 := Nat.pow_lt_pow_right (by omega) hk
    omega
  have h1 : bits .and .u64 (f : Int) ((2 ^ k : Nat) : Int) = ((f &&& 2 ^ k : Nat) : Int) := u64_and_nat f (2 ^ k) hf h2
  rw [h1, and_powP, Nat.testBit_eq_decide_div_mod_eq]
  by_cases h : f / 2 ^ k % 2 = 1 <;> simp [h]
theorem andP_no {f k : Nat} (hf : f < 18446744073709551616) (hk : k < 64) (h : f / 2 ^ k % 2 = 0) : bits .and .u64 (f : Int) ((2 ^ k : Nat) : Int) = 0 := by rw [u64_and_powP f k hf hk, if_neg (by omega)]
theorem andP_yes {f k : Nat} (hf : f < 18446744073709551616) (hk : k < 64) (h : f / 2 ^ k % 2 = 1) : bits .and .u64 (f : Int) ((2 ^ k : Nat) : Int) = ((2 ^ k : Nat) : Int) := by rw [u64_and_powP f k hf hk, if_pos h]
/-- Either of the two flags that ask for reports. -/
theorem and_tells {f : Nat} (hf : f < 18446744073709551616) : ∃ r : Int, bits .and .u64 (f : Int) 278528 = r ∧ (r = 0 ↔ ¬ (f / 16384 % 2 = 1 ∨ f / 262144 % 2 = 1)) := by
  refine ⟨_, rfl, ?_⟩
  have h := u64_and_nat f 278528 hf (by omega)
  have e : f &&& 278528 = (f &&& 2 ^ 14) ||| (f &&& 2 ^ 18) := by rw [← Nat.and_or_distrib_left]; rfl
  rw [e, and_powP, and_powP, Nat.testBit_eq_decide_div_mod_eq, Nat.testBit_eq_decide_div_mod_eq] at h
  have h2 : bits .and .u64 (f : Int) 278528 = bits .and .u64 (f : Int) ((278528 : Nat) : Int) := rfl
  rw [h2, h]
  by_cases a : f / 16384 % 2 = 1 <;> by_cases b : f / 262144 % 2 = 1 <;> simp [a, b]
set_option maxRecDepth 20000 in
set_option maxHeartbeats 1600000 in
theorem ranged_any (p : PV) (hnl : Hid (p.d.name.length < 4611686018427387904 ∧ p.s.name.length < 4611686018427387904 ∧ p.r.name.length < 4611686018427387904)) (w : World) : Calls Tryz.prog 94 #[.agg p.c] w (Ret (.bool p.ranged) w) := by
  have KD := hid (fun W => eidRight_any p.d hnl.out.1 W)
  have KS := hid (fun W => eidRight_any p.s hnl.out.2.1 W)
  have KR := hid (fun W => eidRight_any p.r hnl.out.2.2 W)
  have HE := hid ((Mod.refl [] w).alloc (.cells p.c 26))
  have HB := hid (Blk.new w 26 p.c)
  go_enter Tryz.func94, Tryz.ntmps94
  go_upto_region 1 with fail
  have HA := hid (Blk.new (w.alloc (.cells p.c 26)) 22 #[.int .u64 (p.t : Int), .int .u64 (p.q : Int), .int .u64 (p.l : Int), .int .u64 (p.o : Int), .int .u64 (p.n : Int)])
  go_wp2_with fail
  have HB2 := hid (HB.out.alloc (.cells #[.int .u64 (p.t : Int), .int .u64 (p.q : Int), .int .u64 (p.l : Int), .int .u64 (p.o : Int), .int .u64 (p.n : Int)] 22))
  have HE2 := hid (HE.out.alloc (.cells #[.int .u64 (p.t : Int), .int .u64 (p.q : Int), .int .u64 (p.l : Int), .int .u64 (p.o : Int), .int .u64 (p.n : Int)] 22))
  have HG : Hid ((w.alloc (.cells p.c 26)).heap.size = w.heap.size + 1) := hid (by simp)
  rw [HG.out] at HA
  generalize (w.alloc (.cells p.c 26)).alloc (.cells #[.int .u64 (p.t : Int), .int .u64 (p.q : Int), .int .u64 (p.l : Int), .int .u64 (p.o : Int), .int .u64 (p.n : Int)] 22) = V2 at *
  clear HB HE HG
  have b0 : ∀ e : Later V2, e.x.cell? ⟨w.heap.size, 0, none⟩ = some (.int .u64 (p.fl : Int)) := HB2.out.cellL 0 rfl
  have b1 : ∀ e : Later V2, e.x.cell? ⟨w.heap.size, 1, none⟩ = some (.int .i64 p.crc) := HB2.out.cellL 1 rfl
  have b2 : ∀ e : Later V2, e.x.cell? ⟨w.heap.size, 2, none⟩ = some (.int .i64 p.d.sch) := HB2.out.cellL 2 rfl
  have b3 : ∀ e : Later V2, e.x.cell? ⟨w.heap.size, 3, none⟩ = some (str p.d.name) := HB2.out.cellL 3 rfl
  have b4 : ∀ e : Later V2, e.x.cell? ⟨w.heap.size, 4, none⟩ = some (.int .u64 (p.d.node : Int)) := HB2.out.cellL 4 rfl
  have b5 : ∀ e : Later V2, e.x.cell? ⟨w.heap.size, 5, none⟩ = some (.int .u64 (p.d.svc : Int)) := HB2.out.cellL 5 rfl
  have b6 : ∀ e : Later V2, e.x.cell? ⟨w.heap.size, 6, none⟩ = some (.int .i64 p.s.sch) := HB2.out.cellL 6 rfl
  have b7 : ∀ e : Later V2, e.x.cell? ⟨w.heap.size, 7, none⟩ = some (str p.s.name) := HB2.out.cellL 7 rfl
  have b8 : ∀ e : Later V2, e.x.cell? ⟨w.heap.size, 8, none⟩ = some (.int .u64 (p.s.node : Int)) := HB2.out.cellL 8 rfl
  have b9 : ∀ e : Later V2, e.x.cell? ⟨w.heap.size, 9, none⟩ = some (.int .u64 (p.s.svc : Int)) := HB2.out.cellL 9 rfl
  have b10 : ∀ e : Later V2, e.x.cell? ⟨w.heap.size, 10, none⟩ = some (.int .i64 p.r.sch) := HB2.out.cellL 10 rfl
  have b11 : ∀ e : Later V2, e.x.cell? ⟨w.heap.size, 11, none⟩ = some (str p.r.name) := HB2.out.cellL 11 rfl
  have b12 : ∀ e : Later V2, e.x.cell? ⟨w.heap.size, 12, none⟩ = some (.int .u64 (p.r.node : Int)) := HB2.out.cellL 12 rfl
  have b13 : ∀ e : Later V2, e.x.cell? ⟨w.heap.size, 13, none⟩ = some (.int .u64 (p.r.svc : Int)) := HB2.out.cellL 13 rfl
  have b14 : ∀ e : Later V2, e.x.cell? ⟨w.heap.size, 14, none⟩ = some (.int .u64 (p.t : Int)) := HB2.out.cellL 14 rfl
  have b15 : ∀ e : Later V2, e.x.cell? ⟨w.heap.size, 15, none⟩ = some (.int .u64 (p.q : Int)) := HB2.out.cellL 15 rfl
  have b16 : ∀ e : Later V2, e.x.cell? ⟨w.heap.size, 16, none⟩ = some (.int .u64 (p.l : Int)) := HB2.out.cellL 16 rfl
  have b17 : ∀ e : Later V2, e.x.cell? ⟨w.heap.size, 17, none⟩ = some (.int .u64 (p.o : Int)) := HB2.out.cellL 17 rfl
  have b18 : ∀ e : Later V2, e.x.cell? ⟨w.heap.size, 18, none⟩ = some (.int .u64 (p.n : Int)) := HB2.out.cellL 18 rfl
  obtain ⟨e0, he0⟩ := Later.self V2
  have HAJ : Hid (∀ (e : Later V2) (i : Nat), i < 5 → e.x.cell? ⟨w.heap.size + 1, i, none⟩ = some (.int .u64 ((([p.t, p.q, p.l, p.o, p.n][i]?).getD 0 : Nat) : Int))) := fun e i hi => by
    rw [(HA.out.later e).cell i]
    match i, hi with
    | 0, _ => rfl
    | 1, _ => rfl
    | 2, _ => rfl
    | 3, _ => rfl
    | 4, _ => rfl
  go_loopw [17] (fun s17 wr => ∃ i : Nat, s17 = .int .i64 (i : Int) ∧ Hid (i ≤ 5 ∧ ∀ j, j < i → ([p.t, p.q, p.l, p.o, p.n][j]?).getD 0 ≤ 1099511627776) ∧ ∃ e : Later V2, wr = e.x) (fun s17 _ => 5 - (intOf s17).toNat)
  case atStart => exact ⟨0, rfl, (show Hid _ from ⟨by omega, fun j hj => by omega⟩), e0, he0⟩
  case round =>
    clear he0 e0
    obtain ⟨i, rfl, hi, e, rfl⟩ := hrel
    have HE := HE2
    have i0 : (0 : Int) ≤ (i : Int) := by omega
    have i5 : (i : Int) ≤ 5 := by have := hi.out.1; omega
    by_cases hlt : i < 5
    · have tc : decide ((i : Int) < 5) = true := decide_eq_true (by omega)
      have i1 : (i : Int) < 5 := by omega
      have HJ := fun e => HAJ.out e i hlt
      obtain ⟨x, hx⟩ : ∃ x, ([p.t, p.q, p.l, p.o, p.n][i]?).getD 0 = x := ⟨_, rfl⟩
      rw [hx] at HJ
      have HX := hid hx
      have HLT := hid hlt
      clear hx hlt
      by_cases hx : 1099511627776 < x
      · have ya : decide ((1099511627776 : Int) < (x : Int)) = true := decide_eq_true (by omega)
        have yb : ((1099511627776 : Int) < (x : Int)) = True := eq_true (by omega)
        have HR : Hid (p.ranged = false) := by
          unfold Hid PV.ranged
          have h5 := HLT.out
          have hX := HX.out
          match i, h5 with
          | 0, _ => have hX : p.t = x := hX; simp; omega
          | 1, _ => have hX : p.q = x := hX; simp; omega
          | 2, _ => have hX : p.l = x := hX; simp; omega
          | 3, _ => have hX : p.o = x := hX; simp; omega
          | 4, _ => have hX : p.n = x := hX; simp; omega
        clear hx
        go_wp2_with fail
        go_ret
        exact Ret.mk (by rw [HR.out]; rfl) (HE.out.trans e.h)
      · have ya : decide ((1099511627776 : Int) < (x : Int)) = false := decide_eq_false (by omega)
        have yb : ((1099511627776 : Int) < (x : Int)) = False := eq_false (by omega)
        have HN := hid hx
        clear hx
        go_wp2_with fail
        go_roundw
        case rel => exact ⟨i + 1, by go_num, (show Hid _ from ⟨HLT.out, fun j hj => by
          by_cases hji : j = i
          · subst hji; rw [HX.out]; have := HN.out; omega
          · exact hi.out.2 j (by omega)⟩), e, rfl⟩
        case measure => have := HLT.out; simp [intOf]; omega
    · obtain rfl : i = 5 := by have := hi.out.1; omega
      have HL : Hid (p.t ≤ 1099511627776 ∧ p.q ≤ 1099511627776 ∧ p.l ≤ 1099511627776 ∧ p.o ≤ 1099511627776 ∧ p.n ≤ 1099511627776) := by
        have h := hi.out.2
        have a0 : p.t ≤ _ := h 0 (by omega)
        have a1 : p.q ≤ _ := h 1 (by omega)
        have a2 : p.l ≤ _ := h 2 (by omega)
        have a3 : p.o ≤ _ := h 3 (by omega)
        have a4 : p.n ≤ _ := h 4 (by omega)
        exact ⟨a0, a1, a2, a3, a4⟩
      clear hlt HAJ i0 i5 hi
      go_upto_region 7 with fail
      cases hx : p.d.ok with
      | false =>
        rw [hx] at KD
        have HX := hid hx
        clear hx
        have HS : Hid (p.ranged = false) := by
          unfold Hid PV.ranged
          rw [HX.out]; simp
        go_wp2_with (go_at_call 130; first | ((with_reducible refine (Ret.later (KD.out _)).mono ?_); rintro x _ ⟨rfl, e, rfl⟩) | ((with_reducible refine (Ret.later (KS.out _)).mono ?_); rintro x _ ⟨rfl, e, rfl⟩) | ((with_reducible refine (Ret.later (KR.out _)).mono ?_); rintro x _ ⟨rfl, e, rfl⟩))
        go_ret
        exact Ret.mk (by rw [HS.out]; rfl) (HE.out.trans e.h)
      | true =>
        rw [hx] at KD
        have Xd := hid hx
        clear hx
        cases hx : p.s.ok with
        | false =>
          rw [hx] at KS
          have HX := hid hx
          clear hx
          have HS : Hid (p.ranged = false) := by
            unfold Hid PV.ranged
            rw [HX.out]; simp
          go_wp2_with (go_at_call 130; first | ((with_reducible refine (Ret.later (KD.out _)).mono ?_); rintro x _ ⟨rfl, e, rfl⟩) | ((with_reducible refine (Ret.later (KS.out _)).mono ?_); rintro x _ ⟨rfl, e, rfl⟩) | ((with_reducible refine (Ret.later (KR.out _)).mono ?_); rintro x _ ⟨rfl, e, rfl⟩))
          go_ret
          exact Ret.mk (by rw [HS.out]; rfl) (HE.out.trans e.h)
        | true =>
          rw [hx] at KS
          have Xs := hid hx
          clear hx
          cases hx : p.r.ok with
          | false =>
            rw [hx] at KR
            have HX := hid hx
            clear hx
            have HS : Hid (p.ranged = false) := by
              unfold Hid PV.ranged
              rw [HX.out]; simp
            go_wp2_with (go_at_call 130; first | ((with_reducible refine (Ret.later (KD.out _)).mono ?_); rintro x _ ⟨rfl, e, rfl⟩) | ((with_reducible refine (Ret.later (KS.out _)).mono ?_); rintro x _ ⟨rfl, e, rfl⟩) | ((with_reducible refine (Ret.later (KR.out _)).mono ?_); rintro x _ ⟨rfl, e, rfl⟩))
            go_ret
            exact Ret.mk (by rw [HS.out]; rfl) (HE.out.trans e.h)
          | true =>
            rw [hx] at KR
            have Xr := hid hx
            clear hx
            by_cases hx : p.crc < 0
            · have ua : decide (0 ≤ p.crc) = false := decide_eq_false (by omega)
              have ub : (0 ≤ p.crc) = False := eq_false (by omega)
              have HX := hid hx
              clear hx
              have HS : Hid (p.ranged = false) := by
                unfold Hid PV.ranged
                have := HX.out; simp; omega
              go_wp2_with (go_at_call 130; first | ((with_reducible refine (Ret.later (KD.out _)).mono ?_); rintro x _ ⟨rfl, e, rfl⟩) | ((with_reducible refine (Ret.later (KS.out _)).mono ?_); rintro x _ ⟨rfl, e, rfl⟩) | ((with_reducible refine (Ret.later (KR.out _)).mono ?_); rintro x _ ⟨rfl, e, rfl⟩))
              go_ret
              exact Ret.mk (by rw [HS.out]; rfl) (HE.out.trans e.h)
            have ua : decide (0 ≤ p.crc) = true := decide_eq_true (by omega)
            have ub : (0 ≤ p.crc) = True := eq_true (by omega)
            have X1 := hid hx
            clear hx
            by_cases hx : 2 < p.crc
            · have va : decide (p.crc ≤ 2) = false := decide_eq_false (by omega)
              have vb : (p.crc ≤ 2) = False := eq_false (by omega)
              have HX := hid hx
              clear hx
              have HS : Hid (p.ranged = false) := by
                unfold Hid PV.ranged
                have := HX.out; simp; omega
              go_wp2_with (go_at_call 130; first | ((with_reducible refine (Ret.later (KD.out _)).mono ?_); rintro x _ ⟨rfl, e, rfl⟩) | ((with_reducible refine (Ret.later (KS.out _)).mono ?_); rintro x _ ⟨rfl, e, rfl⟩) | ((with_reducible refine (Ret.later (KR.out _)).mono ?_); rintro x _ ⟨rfl, e, rfl⟩))
              go_ret
              exact Ret.mk (by rw [HS.out]; rfl) (HE.out.trans e.h)
            have va : decide (p.crc ≤ 2) = true := decide_eq_true (by omega)
            have vb : (p.crc ≤ 2) = True := eq_true (by omega)
            have X2 := hid hx
            clear hx
            by_cases hx : 2097152 ≤ p.fl
            · have xa : decide ((p.fl : Int) < 2097152) = false := decide_eq_false (by omega)
              have xb : ((p.fl : Int) < 2097152) = False := eq_false (by omega)
              have HX := hid hx
              clear hx
              have HS : Hid (p.ranged = false) := by
                unfold Hid PV.ranged
                have := HX.out; simp; omega
              go_wp2_with (go_at_call 130; first | ((with_reducible refine (Ret.later (KD.out _)).mono ?_); rintro x _ ⟨rfl, e, rfl⟩) | ((with_reducible refine (Ret.later (KS.out _)).mono ?_); rintro x _ ⟨rfl, e, rfl⟩) | ((with_reducible refine (Ret.later (KR.out _)).mono ?_); rintro x _ ⟨rfl, e, rfl⟩))
              go_ret
              exact Ret.mk (by rw [HS.out]; rfl) (HE.out.trans e.h)
            have xa : decide ((p.fl : Int) < 2097152) = true := decide_eq_true (by omega)
            have xb : ((p.fl : Int) < 2097152) = True := eq_true (by omega)
            have X3 := hid hx
            clear hx
            have HS : Hid (p.ranged = true) := by
              unfold Hid PV.ranged
              rw [Xd.out, Xs.out, Xr.out]; have := X1.out; have := X2.out; have := X3.out; have := HL.out; simp; omega
            go_wp2_with (go_at_call 130; first | ((with_reducible refine (Ret.later (KD.out _)).mono ?_); rintro x _ ⟨rfl, e, rfl⟩) | ((with_reducible refine (Ret.later (KS.out _)).mono ?_); rintro x _ ⟨rfl, e, rfl⟩) | ((with_reducible refine (Ret.later (KR.out _)).mono ?_); rintro x _ ⟨rfl, e, rfl⟩))
            go_ret
            exact Ret.mk (by rw [HS.out]; rfl) (HE.out.trans e.h)
set_option maxRecDepth 20000 in
set_option maxHeartbeats 1600000 in
theorem cPriRight_any (p : PV) (hnl : Hid (p.d.name.length < 4611686018427387904 ∧ p.s.name.length < 4611686018427387904 ∧ p.r.name.length < 4611686018427387904)) (hf : p.fl < 18446744073709551616) (w : World) : Calls Tryz.prog 59 #[.agg p.c] w (Ret (.int .i64 p.right) w) := by
  have KR := hid (fun W => ranged_any p hnl W)
  have hfl := hid hf
  have HNZ : Hid (p.ranged = true → p.none → p.s.node = 0 ∧ p.s.svc = 0) := fun hr hn => by
    have ho := (PV.ranged_spec hr).2.1
    unfold EV.ok at ho
    rw [if_pos hn.1] at ho
    simp only [Bool.and_eq_true, decide_eq_true_eq] at ho
    exact ⟨ho.1.1, ho.1.2⟩
  have HE := hid ((Mod.refl [] w).alloc (.cells p.c 26))
  have HB := hid (Blk.new w 26 p.c)
  have f0 : (0 : Int) ≤ (p.fl : Int) := by omega
  clear hf
  go_enter Tryz.func59, Tryz.ntmps59
  go_upto_region 1 with fail
  generalize w.alloc (.cells p.c 26) = V at *
  have b0 : ∀ e : Later V, e.x.cell? ⟨w.heap.size, 0, none⟩ = some (.int .u64 (p.fl : Int)) := HB.out.cellL 0 rfl
  have b1 : ∀ e : Later V, e.x.cell? ⟨w.heap.size, 1, none⟩ = some (.int .i64 p.crc) := HB.out.cellL 1 rfl
  have b2 : ∀ e : Later V, e.x.cell? ⟨w.heap.size, 2, none⟩ = some (.int .i64 p.d.sch) := HB.out.cellL 2 rfl
  have b3 : ∀ e : Later V, e.x.cell? ⟨w.heap.size, 3, none⟩ = some (str p.d.name) := HB.out.cellL 3 rfl
  have b4 : ∀ e : Later V, e.x.cell? ⟨w.heap.size, 4, none⟩ = some (.int .u64 (p.d.node : Int)) := HB.out.cellL 4 rfl
  have b5 : ∀ e : Later V, e.x.cell? ⟨w.heap.size, 5, none⟩ = some (.int .u64 (p.d.svc : Int)) := HB.out.cellL 5 rfl
  have b6 : ∀ e : Later V, e.x.cell? ⟨w.heap.size, 6, none⟩ = some (.int .i64 p.s.sch) := HB.out.cellL 6 rfl
  have b7 : ∀ e : Later V, e.x.cell? ⟨w.heap.size, 7, none⟩ = some (str p.s.name) := HB.out.cellL 7 rfl
  have b8 : ∀ e : Later V, e.x.cell? ⟨w.heap.size, 8, none⟩ = some (.int .u64 (p.s.node : Int)) := HB.out.cellL 8 rfl
  have b9 : ∀ e : Later V, e.x.cell? ⟨w.heap.size, 9, none⟩ = some (.int .u64 (p.s.svc : Int)) := HB.out.cellL 9 rfl
  have b10 : ∀ e : Later V, e.x.cell? ⟨w.heap.size, 10, none⟩ = some (.int .i64 p.r.sch) := HB.out.cellL 10 rfl
  have b11 : ∀ e : Later V, e.x.cell? ⟨w.heap.size, 11, none⟩ = some (str p.r.name) := HB.out.cellL 11 rfl
  have b12 : ∀ e : Later V, e.x.cell? ⟨w.heap.size, 12, none⟩ = some (.int .u64 (p.r.node : Int)) := HB.out.cellL 12 rfl
  have b13 : ∀ e : Later V, e.x.cell? ⟨w.heap.size, 13, none⟩ = some (.int .u64 (p.r.svc : Int)) := HB.out.cellL 13 rfl
  have b14 : ∀ e : Later V, e.x.cell? ⟨w.heap.size, 14, none⟩ = some (.int .u64 (p.t : Int)) := HB.out.cellL 14 rfl
  have b15 : ∀ e : Later V, e.x.cell? ⟨w.heap.size, 15, none⟩ = some (.int .u64 (p.q : Int)) := HB.out.cellL 15 rfl
  have b16 : ∀ e : Later V, e.x.cell? ⟨w.heap.size, 16, none⟩ = some (.int .u64 (p.l : Int)) := HB.out.cellL 16 rfl
  have b17 : ∀ e : Later V, e.x.cell? ⟨w.heap.size, 17, none⟩ = some (.int .u64 (p.o : Int)) := HB.out.cellL 17 rfl
  have b18 : ∀ e : Later V, e.x.cell? ⟨w.heap.size, 18, none⟩ = some (.int .u64 (p.n : Int)) := HB.out.cellL 18 rfl
  have HBL : Hid (∀ e : Later V, Blk e.x w.heap.size 26 p.c) := fun e => HB.out.later e
  obtain ⟨e, he0⟩ := Later.self V
  rw [he0]
  clear he0
  obtain ⟨r, hr, hrT⟩ := and_tells hfl.out
  have HTB : Hid ((r != 0) = true ↔ (p.fl / 16384 % 2 = 1 ∨ p.fl / 262144 % 2 = 1)) := by unfold Hid; rw [bne_iff_ne, Ne, hrT, Classical.not_not]
  clear hrT
  by_cases hx : p.fl % 2 = 1
  all_goals first | (have a1 : bits .and .u64 (p.fl : Int) 1 = 1 := by (have h := andP_yes (k := 0) hfl.out (by omega) (by simpa using hx); simpa using h)) | (have a1 : bits .and .u64 (p.fl : Int) 1 = 0 := by (have h := andP_no (k := 0) hfl.out (by omega) (by have : p.fl % 2 = 0 := (by omega); simpa using this); simpa using h))
  all_goals have F1 := hid hx
  all_goals clear hx
  all_goals refine wp_region_later (by kernel_rfl) (by kernel_rfl) ?_
  all_goals repeat (go_big_quiet_step (fail))
  all_goals refine wpQuiet_nil ?_
  all_goals rintro _ ⟨e, rfl⟩
  all_goals generalize (r != 0) = TB at *
  all_goals clear hr
  all_goals cases hR : p.ranged
  all_goals rw [hR] at KR
  all_goals have HR := hid hR
  all_goals clear hR
  all_goals go_upto_if 13 with (first | (refine wpList_row (by rfl) 26 _ rfl _ rfl (HBL.out _) Tryz.underlying26 rfl (by kernel_rfl) ?_) | (go_at_call 94; (with_reducible refine (Ret.later (KR.out _)).mono ?_); rintro x _ ⟨rfl, e, rfl⟩))
  · have HS : Hid (p.right = 1) := by
      unfold Hid PV.right
      rw [if_pos HR.out]
    go_wp2_with fail
    go_ret
    exact Ret.mk (by rw [HS.out]; rfl) (HE.out.trans e.h)
  · have HNZ := hid (HNZ.out HR.out)
    by_cases hx : p.fl / 4 % 2 = 1
    · have a4 : bits .and .u64 (p.fl : Int) 4 = 4 := by have h := andP_yes (k := 2) hfl.out (by omega) (by simpa using hx); simpa using h
      have X4 := hid hx
      clear hx
      have HS : Hid (p.right = 8) := by
        unfold Hid PV.right
        rw [if_neg (by rw [HR.out]; decide), if_pos (.inl ⟨F1.out, .inl X4.out⟩)]
      go_wp2_with fail
      go_ret
      exact Ret.mk (by rw [HS.out]; rfl) (HE.out.trans e.h)
    have a4 : bits .and .u64 (p.fl : Int) 4 = 0 := by have h := andP_no (k := 2) hfl.out (by omega) (by have : p.fl / 4 % 2 = 0 := (by omega); simpa using this); simpa using h
    have X4 := hid hx
    clear hx
    by_cases hy : p.n ≤ p.o
    · have za : decide (p.n ≤ p.o) = true := decide_eq_true (by omega)
      have zb : (p.n ≤ p.o) = True := eq_true (by omega)
      have Y := hid hy
      clear hy
      have HS : Hid (p.right = 8) := by
        unfold Hid PV.right
        rw [if_neg (by rw [HR.out]; decide), if_pos (.inl ⟨F1.out, .inr Y.out⟩)]
      go_wp2_with fail
      go_ret
      exact Ret.mk (by rw [HS.out]; rfl) (HE.out.trans e.h)
    have za : decide (p.n ≤ p.o) = false := decide_eq_false (by omega)
    have zb : (p.n ≤ p.o) = False := eq_false (by omega)
    have G0 : Hid (¬ ((p.fl % 2 = 1 ∧ (p.fl / 4 % 2 = 1 ∨ p.n ≤ p.o)) ∨ (¬ p.fl % 2 = 1 ∧ (0 < p.o ∨ 0 < p.n)))) := by have := F1.out; have := X4.out; unfold Hid; omega
    clear hy
    go_upto_region 9 with fail
    by_cases hN : p.none
    · have n1 : p.s.sch = 1 := hN.1
      have n2 : p.s.name = [110, 111, 110, 101] := hN.2
      obtain ⟨n3, n4⟩ := HNZ.out hN
      rw [n1] at b6
      rw [n2] at b7
      rw [n3] at b8
      rw [n4] at b9
      clear n1 n2 n3 n4
      have HN := hid hN
      clear hN
      cases hT : TB with
      | true =>
        have XT : Hid (p.fl / 16384 % 2 = 1 ∨ p.fl / 262144 % 2 = 1) := HTB.out.1 hT
        subst hT
        refine wp_region_later (by kernel_rfl) (by kernel_rfl) ?_
        repeat (go_big_quiet_step ((go_at_call 95; exact Ret.later (eidNoneP_any _))))
        refine wpQuiet_nil ?_
        rintro _ ⟨e, rfl⟩
        have HS : Hid (p.right = 8) := by
          unfold Hid PV.right
          rw [if_neg (by rw [HR.out]; decide), if_neg (by have := G0.out; omega), if_pos (.inl ⟨XT.out, .inl HN.out⟩)]
        go_wp2_with fail
        go_ret
        exact Ret.mk (by rw [HS.out]; rfl) (HE.out.trans e.h)
      | false =>
        have XT : Hid (¬ (p.fl / 16384 % 2 = 1 ∨ p.fl / 262144 % 2 = 1)) := fun h => by have := HTB.out.2 h; rw [hT] at this; cases this
        subst hT
        refine wp_region_later (by kernel_rfl) (by kernel_rfl) ?_
        repeat (go_big_quiet_step ((go_at_call 95; exact Ret.later (eidNoneP_any _))))
        refine wpQuiet_nil ?_
        rintro _ ⟨e, rfl⟩
        have HS : Hid (p.right = 8) := by
          unfold Hid PV.right
          rw [if_neg (by rw [HR.out]; decide), if_neg (by have := G0.out; omega), if_pos (.inr ⟨HN.out, X4.out⟩)]
        go_wp2_with fail
        go_ret
        exact Ret.mk (by rw [HS.out]; rfl) (HE.out.trans e.h)
    · have HN := hid hN
      by_cases hS : p.s.sch = 1
      · have hM : ¬ p.s.name = [110, 111, 110, 101] := fun h => hN ⟨hS, h⟩
        rw [hS] at b6
        have ma : ((p.s.name) == ([110, 111, 110, 101])) = false := by rw [beq_eq_false_iff_ne]; exact hM
        have mb : ((p.s.name) = ([110, 111, 110, 101])) = False := eq_false (by exact hM)
        have mc : ((p.s.name) != ([110, 111, 110, 101])) = true := by rw [bne_iff_ne]; exact hM
        clear hM hS hN
        refine wp_region_later (by kernel_rfl) (by kernel_rfl) ?_
        repeat (go_big_quiet_step ((go_at_call 95; exact Ret.later (eidNoneP_any _))))
        refine wpQuiet_nil ?_
        rintro _ ⟨e, rfl⟩
        cases hT : TB with
        | true =>
          have XT : Hid (p.fl / 16384 % 2 = 1 ∨ p.fl / 262144 % 2 = 1) := HTB.out.1 hT
          subst hT
          by_cases hx : p.fl / 2 % 2 = 1
          · have a2 : bits .and .u64 (p.fl : Int) 2 = 2 := by have h := andP_yes (k := 1) hfl.out (by omega) (by simpa using hx); simpa using h
            have X2 := hid hx
            clear hx
            have HS : Hid (p.right = 8) := by
              unfold Hid PV.right
              rw [if_neg (by rw [HR.out]; decide), if_neg (by have := G0.out; omega), if_pos (.inl ⟨XT.out, .inr X2.out⟩)]
            go_wp2_with fail
            go_ret
            exact Ret.mk (by rw [HS.out]; rfl) (HE.out.trans e.h)
          · have a2 : bits .and .u64 (p.fl : Int) 2 = 0 := by have h := andP_no (k := 1) hfl.out (by omega) (by have : p.fl / 2 % 2 = 0 := (by omega); simpa using this); simpa using h
            have X2 := hid hx
            clear hx
            have HS : Hid (p.right = 0) := by
              unfold Hid PV.right
              rw [if_neg (by rw [HR.out]; decide), if_neg (by have := G0.out; omega), if_neg (fun h => h.elim (fun h => h.2.elim HN.out X2.out) (fun h => HN.out h.1))]
            go_wp2_with fail
            go_ret
            exact Ret.mk (by rw [HS.out]; rfl) (HE.out.trans e.h)
        | false =>
          have XT : Hid (¬ (p.fl / 16384 % 2 = 1 ∨ p.fl / 262144 % 2 = 1)) := fun h => by have := HTB.out.2 h; rw [hT] at this; cases this
          subst hT
          have HS : Hid (p.right = 0) := by
            unfold Hid PV.right
            rw [if_neg (by rw [HR.out]; decide), if_neg (by have := G0.out; omega), if_neg (fun h => h.elim (fun h => XT.out h.1) (fun h => HN.out h.1))]
          go_wp2_with fail
          go_ret
          exact Ret.mk (by rw [HS.out]; rfl) (HE.out.trans e.h)
      · have ma : ((p.s.sch) == (1)) = false := by rw [beq_eq_false_iff_ne]; omega
        have mb : ((p.s.sch) = (1)) = False := eq_false (by omega)
        have mc : ((p.s.sch) != (1)) = true := by rw [bne_iff_ne]; omega
        clear hS hN
        refine wp_region_later (by kernel_rfl) (by kernel_rfl) ?_
        repeat (go_big_quiet_step ((go_at_call 95; exact Ret.later (eidNoneP_any _))))
        refine wpQuiet_nil ?_
        rintro _ ⟨e, rfl⟩
        cases hT : TB with
        | true =>
          have XT : Hid (p.fl / 16384 % 2 = 1 ∨ p.fl / 262144 % 2 = 1) := HTB.out.1 hT
          subst hT
          by_cases hx : p.fl / 2 % 2 = 1
          · have a2 : bits .and .u64 (p.fl : Int) 2 = 2 := by have h := andP_yes (k := 1) hfl.out (by omega) (by simpa using hx); simpa using h
            have X2 := hid hx
            clear hx
            have HS : Hid (p.right = 8) := by
              unfold Hid PV.right
              rw [if_neg (by rw [HR.out]; decide), if_neg (by have := G0.out; omega), if_pos (.inl ⟨XT.out, .inr X2.out⟩)]
            go_wp2_with fail
            go_ret
            exact Ret.mk (by rw [HS.out]; rfl) (HE.out.trans e.h)
          · have a2 : bits .and .u64 (p.fl : Int) 2 = 0 := by have h := andP_no (k := 1) hfl.out (by omega) (by have : p.fl / 2 % 2 = 0 := (by omega); simpa using this); simpa using h
            have X2 := hid hx
            clear hx
            have HS : Hid (p.right = 0) := by
              unfold Hid PV.right
              rw [if_neg (by rw [HR.out]; decide), if_neg (by have := G0.out; omega), if_neg (fun h => h.elim (fun h => h.2.elim HN.out X2.out) (fun h => HN.out h.1))]
            go_wp2_with fail
            go_ret
            exact Ret.mk (by rw [HS.out]; rfl) (HE.out.trans e.h)
        | false =>
          have XT : Hid (¬ (p.fl / 16384 % 2 = 1 ∨ p.fl / 262144 % 2 = 1)) := fun h => by have := HTB.out.2 h; rw [hT] at this; cases this
          subst hT
          have HS : Hid (p.right = 0) := by
            unfold Hid PV.right
            rw [if_neg (by rw [HR.out]; decide), if_neg (by have := G0.out; omega), if_neg (fun h => h.elim (fun h => XT.out h.1) (fun h => HN.out h.1))]
          go_wp2_with fail
          go_ret
          exact Ret.mk (by rw [HS.out]; rfl) (HE.out.trans e.h)
  · have HS : Hid (p.right = 1) := by
      unfold Hid PV.right
      rw [if_pos HR.out]
    go_wp2_with fail
    go_ret
    exact Ret.mk (by rw [HS.out]; rfl) (HE.out.trans e.h)
  · have HNZ := hid (HNZ.out HR.out)
    by_cases hx : p.o = 0
    · by_cases hy : p.n = 0
      · have G0 : Hid (¬ ((p.fl % 2 = 1 ∧ (p.fl / 4 % 2 = 1 ∨ p.n ≤ p.o)) ∨ (¬ p.fl % 2 = 1 ∧ (0 < p.o ∨ 0 < p.n)))) := by have := F1.out; unfold Hid; omega
        rw [hx] at b17
        rw [hy] at b18
        clear hx hy
        go_upto_region 9 with fail
        by_cases hN : p.none
        · have n1 : p.s.sch = 1 := hN.1
          have n2 : p.s.name = [110, 111, 110, 101] := hN.2
          obtain ⟨n3, n4⟩ := HNZ.out hN
          rw [n1] at b6
          rw [n2] at b7
          rw [n3] at b8
          rw [n4] at b9
          clear n1 n2 n3 n4
          have HN := hid hN
          clear hN
          cases hT : TB with
          | true =>
            have XT : Hid (p.fl / 16384 % 2 = 1 ∨ p.fl / 262144 % 2 = 1) := HTB.out.1 hT
            subst hT
            refine wp_region_later (by kernel_rfl) (by kernel_rfl) ?_
            repeat (go_big_quiet_step ((go_at_call 95; exact Ret.later (eidNoneP_any _))))
            refine wpQuiet_nil ?_
            rintro _ ⟨e, rfl⟩
            have HS : Hid (p.right = 8) := by
              unfold Hid PV.right
              rw [if_neg (by rw [HR.out]; decide), if_neg (by have := G0.out; omega), if_pos (.inl ⟨XT.out, .inl HN.out⟩)]
            go_wp2_with fail
            go_ret
            exact Ret.mk (by rw [HS.out]; rfl) (HE.out.trans e.h)
          | false =>
            have XT : Hid (¬ (p.fl / 16384 % 2 = 1 ∨ p.fl / 262144 % 2 = 1)) := fun h => by have := HTB.out.2 h; rw [hT] at this; cases this
            subst hT
            by_cases hx : p.fl / 4 % 2 = 1
            · have a4 : bits .and .u64 (p.fl : Int) 4 = 4 := by have h := andP_yes (k := 2) hfl.out (by omega) (by simpa using hx); simpa using h
              have X4 := hid hx
              clear hx
              refine wp_region_later (by kernel_rfl) (by kernel_rfl) ?_
              repeat (go_big_quiet_step ((go_at_call 95; exact Ret.later (eidNoneP_any _))))
              refine wpQuiet_nil ?_
              rintro _ ⟨e, rfl⟩
              have HS : Hid (p.right = 0) := by
                unfold Hid PV.right
                rw [if_neg (by rw [HR.out]; decide), if_neg (by have := G0.out; omega), if_neg (fun h => h.elim (fun h => XT.out h.1) (fun h => h.2 X4.out))]
              go_wp2_with fail
              go_ret
              exact Ret.mk (by rw [HS.out]; rfl) (HE.out.trans e.h)
            · have a4 : bits .and .u64 (p.fl : Int) 4 = 0 := by have h := andP_no (k := 2) hfl.out (by omega) (by have : p.fl / 4 % 2 = 0 := (by omega); simpa using this); simpa using h
              have X4 := hid hx
              clear hx
              refine wp_region_later (by kernel_rfl) (by kernel_rfl) ?_
              repeat (go_big_quiet_step ((go_at_call 95; exact Ret.later (eidNoneP_any _))))
              refine wpQuiet_nil ?_
              rintro _ ⟨e, rfl⟩
              have HS : Hid (p.right = 8) := by
                unfold Hid PV.right
                rw [if_neg (by rw [HR.out]; decide), if_neg (by have := G0.out; omega), if_pos (.inr ⟨HN.out, X4.out⟩)]
              go_wp2_with fail
              go_ret
              exact Ret.mk (by rw [HS.out]; rfl) (HE.out.trans e.h)
        · have HN := hid hN
          by_cases hS : p.s.sch = 1
          · have hM : ¬ p.s.name = [110, 111, 110, 101] := fun h => hN ⟨hS, h⟩
            rw [hS] at b6
            have ma : ((p.s.name) == ([110, 111, 110, 101])) = false := by rw [beq_eq_false_iff_ne]; exact hM
            have mb : ((p.s.name) = ([110, 111, 110, 101])) = False := eq_false (by exact hM)
            have mc : ((p.s.name) != ([110, 111, 110, 101])) = true := by rw [bne_iff_ne]; exact hM
            clear hM hS hN
            refine wp_region_later (by kernel_rfl) (by kernel_rfl) ?_
            repeat (go_big_quiet_step ((go_at_call 95; exact Ret.later (eidNoneP_any _))))
            refine wpQuiet_nil ?_
            rintro _ ⟨e, rfl⟩
            cases hT : TB with
            | true =>
              have XT : Hid (p.fl / 16384 % 2 = 1 ∨ p.fl / 262144 % 2 = 1) := HTB.out.1 hT
              subst hT
              by_cases hx : p.fl / 2 % 2 = 1
              · have a2 : bits .and .u64 (p.fl : Int) 2 = 2 := by have h := andP_yes (k := 1) hfl.out (by omega) (by simpa using hx); simpa using h
                have X2 := hid hx
                clear hx
                have HS : Hid (p.right = 8) := by
                  unfold Hid PV.right
                  rw [if_neg (by rw [HR.out]; decide), if_neg (by have := G0.out; omega), if_pos (.inl ⟨XT.out, .inr X2.out⟩)]
                go_wp2_with fail
                go_ret
                exact Ret.mk (by rw [HS.out]; rfl) (HE.out.trans e.h)
              · have a2 : bits .and .u64 (p.fl : Int) 2 = 0 := by have h := andP_no (k := 1) hfl.out (by omega) (by have : p.fl / 2 % 2 = 0 := (by omega); simpa using this); simpa using h
                have X2 := hid hx
                clear hx
                have HS : Hid (p.right = 0) := by
                  unfold Hid PV.right
                  rw [if_neg (by rw [HR.out]; decide), if_neg (by have := G0.out; omega), if_neg (fun h => h.elim (fun h => h.2.elim HN.out X2.out) (fun h => HN.out h.1))]
                go_wp2_with fail
                go_ret
                exact Ret.mk (by rw [HS.out]; rfl) (HE.out.trans e.h)
            | false =>
              have XT : Hid (¬ (p.fl / 16384 % 2 = 1 ∨ p.fl / 262144 % 2 = 1)) := fun h => by have := HTB.out.2 h; rw [hT] at this; cases this
              subst hT
              have HS : Hid (p.right = 0) := by
                unfold Hid PV.right
                rw [if_neg (by rw [HR.out]; decide), if_neg (by have := G0.out; omega), if_neg (fun h => h.elim (fun h => XT.out h.1) (fun h => HN.out h.1))]
              go_wp2_with fail
              go_ret
              exact Ret.mk (by rw [HS.out]; rfl) (HE.out.trans e.h)
          · have ma : ((p.s.sch) == (1)) = false := by rw [beq_eq_false_iff_ne]; omega
            have mb : ((p.s.sch) = (1)) = False := eq_false (by omega)
            have mc : ((p.s.sch) != (1)) = true := by rw [bne_iff_ne]; omega
            clear hS hN
            refine wp_region_later (by kernel_rfl) (by kernel_rfl) ?_
            repeat (go_big_quiet_step ((go_at_call 95; exact Ret.later (eidNoneP_any _))))
            refine wpQuiet_nil ?_
            rintro _ ⟨e, rfl⟩
            cases hT : TB with
            | true =>
              have XT : Hid (p.fl / 16384 % 2 = 1 ∨ p.fl / 262144 % 2 = 1) := HTB.out.1 hT
              subst hT
              by_cases hx : p.fl / 2 % 2 = 1
              · have a2 : bits .and .u64 (p.fl : Int) 2 = 2 := by have h := andP_yes (k := 1) hfl.out (by omega) (by simpa using hx); simpa using h
                have X2 := hid hx
                clear hx
                have HS : Hid (p.right = 8) := by
                  unfold Hid PV.right
                  rw [if_neg (by rw [HR.out]; decide), if_neg (by have := G0.out; omega), if_pos (.inl ⟨XT.out, .inr X2.out⟩)]
                go_wp2_with fail
                go_ret
                exact Ret.mk (by rw [HS.out]; rfl) (HE.out.trans e.h)
              · have a2 : bits .and .u64 (p.fl : Int) 2 = 0 := by have h := andP_no (k := 1) hfl.out (by omega) (by have : p.fl / 2 % 2 = 0 := (by omega); simpa using this); simpa using h
                have X2 := hid hx
                clear hx
                have HS : Hid (p.right = 0) := by
                  unfold Hid PV.right
                  rw [if_neg (by rw [HR.out]; decide), if_neg (by have := G0.out; omega), if_neg (fun h => h.elim (fun h => h.2.elim HN.out X2.out) (fun h => HN.out h.1))]
                go_wp2_with fail
                go_ret
                exact Ret.mk (by rw [HS.out]; rfl) (HE.out.trans e.h)
            | false =>
              have XT : Hid (¬ (p.fl / 16384 % 2 = 1 ∨ p.fl / 262144 % 2 = 1)) := fun h => by have := HTB.out.2 h; rw [hT] at this; cases this
              subst hT
              have HS : Hid (p.right = 0) := by
                unfold Hid PV.right
                rw [if_neg (by rw [HR.out]; decide), if_neg (by have := G0.out; omega), if_neg (fun h => h.elim (fun h => XT.out h.1) (fun h => HN.out h.1))]
              go_wp2_with fail
              go_ret
              exact Ret.mk (by rw [HS.out]; rfl) (HE.out.trans e.h)
      · have Y := hid hy
        rw [hx] at b17
        have ga : (((p.n : Int)) == (0)) = false := by rw [beq_eq_false_iff_ne]; omega
        have gb : (((p.n : Int)) = (0)) = False := eq_false (by omega)
        have gc : (((p.n : Int)) != (0)) = true := by rw [bne_iff_ne]; omega
        have ha : decide (p.n = 0) = false := decide_eq_false (by omega)
        have hb : (p.n = 0) = False := eq_false (by omega)
        clear hx hy
        have HS : Hid (p.right = 8) := by
          unfold Hid PV.right
          rw [if_neg (by rw [HR.out]; decide), if_pos (.inr ⟨F1.out, by have := Y.out; omega⟩)]
        go_wp2_with fail
        go_ret
        exact Ret.mk (by rw [HS.out]; rfl) (HE.out.trans e.h)
    · have Y := hid hx
      have ga : (((p.o : Int)) == (0)) = false := by rw [beq_eq_false_iff_ne]; omega
      have gb : (((p.o : Int)) = (0)) = False := eq_false (by omega)
      have gc : (((p.o : Int)) != (0)) = true := by rw [bne_iff_ne]; omega
      have ha : decide (p.o = 0) = false := decide_eq_false (by omega)
      have hb : (p.o = 0) = False := eq_false (by omega)
      clear hx
      have HS : Hid (p.right = 8) := by
        unfold Hid PV.right
        rw [if_neg (by rw [HR.out]; decide), if_pos (.inr ⟨F1.out, by have := Y.out; omega⟩)]
      go_wp2_with fail
      go_ret
      exact Ret.mk (by rw [HS.out]; rfl) (HE.out.trans e.h)
end Go.Proofs.YtkeabdfgacicaaaGreat
