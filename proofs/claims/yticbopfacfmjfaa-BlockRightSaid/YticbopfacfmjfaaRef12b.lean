/-
  The reference's blocks, built.
-/
import Derived.Test.YticbopfacfmjfaaRef12
namespace Go.Proofs.Yticbopfacfmjfaa
open Go.RowKit
set_option linter.unusedVariables false

set_option maxRecDepth 20000 in
set_option maxHeartbeats 800000 in
theorem rHeader_ok (ty num fl : Nat) (crc : Int) (data : List UInt8) (h1 : Hid (ty ≤ 65535)) (h2 : Hid (num ≤ 65535)) (h3 : Hid (fl ≤ 255)) (w : World) : Calls Try.prog 15 #[BV.v ⟨ty, num, fl, crc, data⟩] w (Ret (str (headL 0 ty ++ headL 0 num ++ headL 0 fl)) w) := by
  have HB := hid (Blk.new w 24 (BV.c ⟨ty, num, fl, crc, data⟩))
  have HE0 := hid ((Mod.refl [] w).alloc (.cells (BV.c ⟨ty, num, fl, crc, data⟩) 24))
  have t1 : IntKind.u64.wrap (ty : Int) = (ty : Int) := IntWalk.u64_in _ (by have := h1.out; omega)
  have t2 : IntKind.u64.wrap (num : Int) = (num : Int) := IntWalk.u64_in _ (by have := h2.out; omega)
  have k2 : Hid (∀ W, Calls Try.prog 23 #[.int .i64 0, .int .u64 (ty : Int)] W (Ret (str (headL 0 ty)) W)) := fun W => rHead_n 0 ty (by omega) (by have := h1.out; omega) W
  have k3 : Hid (∀ W, Calls Try.prog 23 #[.int .i64 0, .int .u64 (num : Int)] W (Ret (str (headL 0 num)) W)) := fun W => rHead_n 0 num (by omega) (by have := h2.out; omega) W
  have k4 : Hid (∀ W, Calls Try.prog 23 #[.int .i64 0, .int .u64 (fl : Int)] W (Ret (str (headL 0 fl)) W)) := fun W => rHead_n 0 fl (by omega) (by have := h3.out; omega) W
  go_enter Try.func15, Try.ntmps15
  go_upto_region 1 with fail
  generalize w.alloc (.cells (BV.c ⟨ty, num, fl, crc, data⟩) 24) = w1 at *
  have HS : Hid (∀ W, Ext w1 W → W.cell? ⟨w.heap.size, 0, none⟩ = some (.int .i64 (ty : Int)) ∧ W.cell? ⟨w.heap.size, 1, none⟩ = some (.int .i64 (num : Int)) ∧ W.cell? ⟨w.heap.size, 2, none⟩ = some (.int .u64 (fl : Int))) := fun W hW => by
    have b1 := HB.out.ext hW
    exact ⟨b1.cell 0, b1.cell 1, b1.cell 2⟩
  refine wp_region_ext (by kernel_rfl) (by kernel_rfl) ?_
  repeat (first
    | refine q_skip (by rfl) ?_
    | (refine q_load (by rfl) _ _ rfl ⟨w.heap.size, 0, none⟩ rfl (fun W hW => (HS.out W hW).1) Try.underlying3 rfl ?_; (try simp only [Act.put, List.setIfInBounds_toArray, List.set_cons_zero, List.set_cons_succ]))
    | (refine q_load (by rfl) _ _ rfl ⟨w.heap.size, 1, none⟩ rfl (fun W hW => (HS.out W hW).2.1) Try.underlying3 rfl ?_; (try simp only [Act.put, List.setIfInBounds_toArray, List.set_cons_zero, List.set_cons_succ]))
    | (refine q_load (by rfl) _ _ rfl ⟨w.heap.size, 2, none⟩ rfl (fun W hW => (HS.out W hW).2.2) Try.underlying22 rfl ?_; (try simp only [Act.put, List.setIfInBounds_toArray, List.set_cons_zero, List.set_cons_succ]))
    | (refine q_cat (by rfl) _ _ _ _ rfl _ _ rfl rfl (by have g1 := headL_le 0 ty; have g2 := headL_le 0 num; have g3 := headL_le 0 fl; (try simp only [List.length_append]); omega) ?_; (try simp only [Act.put, List.setIfInBounds_toArray, List.set_cons_zero, List.set_cons_succ]))
    | (refine wpQuiet_step (fun K hK => ?_); go_simp; (try rw [t1]); (try rw [t2]); refine hK _ ?_; clear hK K)
    | (refine wpQuiet_step (fun K hK => ?_); go_simp; (try rw [t1]); (try rw [t2]); refine ⟨_, fun _ _ => (by with_reducible rfl), hK _ ?_⟩; clear hK K)
    | (refine wpQuiet_step (fun K hK => ?_); go_simp; apply Exists.intro; refine ⟨fun W hW => ?_, hK _ ?_⟩; (first | with_reducible exact Ret.ext (k2.out _) hW | with_reducible exact Ret.ext (k3.out _) hW | with_reducible exact Ret.ext (k4.out _) hW); clear hK K))
  refine wpQuiet_nil ?_
  intro w3 hw3
  go_wp2_with fail
  go_ret
  exact Ret.mk (by simp) (HE0.out.trans hw3)

theorem infoByte8 : (Try.prog.info? 5).map (fun i => (i.zero, i.size, i.bytes)) = some (some (.int .u8 0), 1, 1) := by kernel_rfl
/-- Bytes made, as a string. -/
theorem conv_made (k c : Nat) (W : World) : (convert 27 9 (.slice (some ⟨W.heap.size, 0, none⟩) k c)).run Try.prog (W.alloc (.cells (madeCells #[.int .u8 0] k) 5)) = .ok (str (List.replicate k 0)) (W.alloc (.cells (madeCells #[.int .u8 0] k) 5)) := by
  have h := run_convert_bytes_back (P := Try.prog) (W.alloc (.cells (madeCells #[.int .u8 0] k) 5)) 27 9 5 ⟨W.heap.size, 0, none⟩ c (List.replicate k 0) Try.underlying27 Try.underlying5 Try.underlying9 (fun j hj => by
    rw [addr_add, Nat.zero_add, (Blk.new W 5 _).cell j]
    rw [List.length_replicate] at hj
    have := toList_madeCells_one (.int .u8 0) k
    rw [← Array.getElem?_toList, this, List.getElem?_replicate, if_pos hj]
    simp)
  rw [List.length_replicate] at h
  exact h
set_option maxRecDepth 20000 in
set_option maxHeartbeats 800000 in
theorem rBuild_ok (ty num fl crc : Nat) (data : List UInt8) (h1 : Hid (ty ≤ 65535)) (h2 : Hid (num ≤ 65535)) (h3 : Hid (fl ≤ 255)) (h4 : Hid (crc ≤ 2)) (h5 : Hid (data.length ≤ 4000)) (w : World) : Calls Try.prog 14 #[BV.v ⟨ty, num, fl, crc, data⟩] w (Ret (str (blkB ty num fl crc data (sumB ty num fl crc data))) w) := by
  have HB := hid (Blk.new w 24 (BV.c ⟨ty, num, fl, crc, data⟩))
  have HE0 := hid ((Mod.refl [] w).alloc (.cells (BV.c ⟨ty, num, fl, crc, data⟩) 24))
  go_enter Try.func14, Try.ntmps14
  go_wp2_with fail
  refine (nums_any ty num fl crc data h1.out h2.out h4.out _).mono ?_
  rintro e w1 ⟨rfl, hb1⟩
  have HE1 := hid (HE0.out.trans hb1)
  have HB1 := hid (HB.out.ext hb1)
  clear hb1
  have hmk : ∀ W : World, (Instr.makeSlice 27 (.int .i64 (2 * (crc : Int))) (.int .i64 (2 * (crc : Int)))).run Try.prog W = .ok (.slice (some ⟨W.heap.size, 0, none⟩) (2 * crc) (2 * crc)) (W.alloc (.cells (madeCells #[.int .u8 0] (2 * crc)) 5)) := by
    intro W
    have := run_make_row' (P := Try.prog) 27 5 (.int .u8 0) 1 Try.underlying27 infoByte8 rfl .i64 .i64 (2 * crc) (by have := h4.out; omega) (by have := h4.out; omega) W
    simpa using this
  have hcv := conv_made (2 * crc) (2 * crc)
  have twr : IntKind.i64.wrap (2 * (crc : Int)) = 2 * (crc : Int) := IntWalk.i64_in _ (by have := h4.out; omega)
  have KB := hid (fun W => rbytes_any ty num fl crc h4.out data (List.replicate (2 * crc) 0) h1 h2 h3 h5 (by have := h4.out; unfold Hid; simp; omega) W)
  have KC := hid (fun W => R4B_any crc h4.out (blkB ty num fl crc data (List.replicate (2 * crc) 0)) (blkB_length h5.out (by have := h4.out; simp; omega)) W)
  have KE := hid (fun W => rbytes_any ty num fl crc h4.out data (sumB ty num fl crc data) h1 h2 h3 h5 (by have := h4.out; unfold Hid; rw [sumB_length h4.out]; omega) W)
  have hsb : (if crc = 0 then [] else Crc.sumL crc (blkB ty num fl crc data (List.replicate (2 * crc) 0))) = sumB ty num fl crc data := rfl
  rw [hsb] at KC
  clear hsb
  generalize blkB ty num fl crc data (List.replicate (2 * crc) 0) = X at *
  generalize sumB ty num fl crc data = Y at *
  generalize blkB ty num fl crc data Y = Z at *
  go_upto_region 2 with fail
  have HL1 := hid (Blk.new w1 48 #[.int .u64 (ty : Int), .int .u64 (num : Int), .int .u64 (fl : Int), .int .u64 (crc : Int)])
  have HB2 := hid (HB1.out.alloc (.cells #[.int .u64 (ty : Int), .int .u64 (num : Int), .int .u64 (fl : Int), .int .u64 (crc : Int)] 48))
  have HE2 := hid (HE1.out.alloc (.cells #[.int .u64 (ty : Int), .int .u64 (num : Int), .int .u64 (fl : Int), .int .u64 (crc : Int)] 48))
  generalize w1.alloc (.cells #[.int .u64 (ty : Int), .int .u64 (num : Int), .int .u64 (fl : Int), .int .u64 (crc : Int)] 48) = V at *
  have HS : Hid (∀ w', Ext V w' → w'.cell? ⟨w.heap.size, 3, none⟩ = some (.int .i64 (crc : Int)) ∧ w'.cell? ⟨w.heap.size, 4, none⟩ = some (str data) ∧ w'.cell? ⟨w1.heap.size, 0, none⟩ = some (.int .u64 (ty : Int)) ∧ w'.cell? ⟨w1.heap.size, 1, none⟩ = some (.int .u64 (num : Int)) ∧ w'.cell? ⟨w1.heap.size, 2, none⟩ = some (.int .u64 (fl : Int)) ∧ w'.cell? ⟨w1.heap.size, 3, none⟩ = some (.int .u64 (crc : Int))) := fun W hW => by
    have b1 := HB2.out.ext hW
    have b2 := HL1.out.ext hW
    exact ⟨b1.cell 3, b1.cell 4, b2.cell 0, b2.cell 1, b2.cell 2, b2.cell 3⟩
  obtain ⟨p0, p1, p2, p3, p4, p5⟩ := HS.out V (Mod.refl _ _)
  have hcv2 : (convert 27 9 (.slice (some ⟨V.heap.size, 0, none⟩) (2 * crc) (2 * crc))).run Try.prog (V.alloc (.cells (madeCells #[.int .u8 0] (2 * crc)) 5)).drew = .ok (str (List.replicate (2 * crc) 0)) (V.alloc (.cells (madeCells #[.int .u8 0] (2 * crc)) 5)).drew := hcv V.drew
  go_region_held (fun w' => w'.cell? ⟨w.heap.size, 3, none⟩ = some (.int .i64 (crc : Int)) ∧ w'.cell? ⟨w.heap.size, 4, none⟩ = some (str data) ∧ w'.cell? ⟨w1.heap.size, 0, none⟩ = some (.int .u64 (ty : Int)) ∧ w'.cell? ⟨w1.heap.size, 1, none⟩ = some (.int .u64 (num : Int)) ∧ w'.cell? ⟨w1.heap.size, 2, none⟩ = some (.int .u64 (fl : Int)) ∧ w'.cell? ⟨w1.heap.size, 3, none⟩ = some (.int .u64 (crc : Int))) (go_keep)
    (first
      | (go_at_call 26; refine (KB.out _).mono ?_; rintro x w3 ⟨rfl, hb3⟩; have hx : Ext V w3 := (by (with_reducible refine Mod.trans ?_ hb3); (repeat (first | with_reducible assumption | with_reducible exact Mod.refl _ _ | with_reducible refine Mod.drew ?_ | with_reducible refine Mod.alloc ?_ _))); have z := HS.out w3 hx)
      | (go_at_call 25; refine (KC.out _).mono ?_; rintro x w4 ⟨rfl, hb4⟩; have hx : Ext V w4 := (by (with_reducible refine Mod.trans ?_ hb4); (repeat (first | with_reducible assumption | with_reducible exact Mod.refl _ _ | with_reducible refine Mod.drew ?_ | with_reducible refine Mod.alloc ?_ _))); have z := HS.out w4 hx))
  all_goals obtain ⟨q0, q1, q2, q3, q4, q5⟩ := HS.out w4 hx
  all_goals go_wp2_with fail
  all_goals refine (KE.out _).mono ?_
  all_goals rintro e w5 ⟨rfl, hb5⟩
  all_goals go_wp2_with fail
  all_goals go_ret
  all_goals exact Ret.mk rfl (HE2.out.trans (hx.trans (by first | exact hb5 | exact (Mod.refl _ _).drew.trans hb5)))
end Go.Proofs.Yticbopfacfmjfaa
