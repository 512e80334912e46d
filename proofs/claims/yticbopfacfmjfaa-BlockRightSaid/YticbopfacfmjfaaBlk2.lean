/-
  A block's header.
-/
import Derived.Test.YticbopfacfmjfaaBlk1
import Derived.Test.YticbopfacfmjfaaHead
import Derived.Test.YticbopfacfmjfaaQx
namespace Go.Proofs.Yticbopfacfmjfaa
open Go.RowKit
set_option linter.unusedVariables false

set_option maxRecDepth 20000 in
set_option maxHeartbeats 800000 in
theorem cHeader_bad (b : BV) (hb : b.right ≠ 0) (w : World) : Calls Try.prog 9 #[b.v] w (Ret (.tuple #[str [], .int .i64 b.right]) w) := by
  have HB := hid (Blk.new w 24 b.c)
  have HE0 := hid ((Mod.refl [] w).alloc (.cells b.c 24))
  have k1 : Hid (∀ W, Calls Try.prog 10 #[b.v] W (Ret (.int .i64 b.right) W)) := fun W => cbRight_any b W
  generalize b.right = r at *
  have e1 : (r = 0) = False := by simp [hb]
  have e2 : (r == 0) = false := by simp [hb]
  go_enter Try.func9, Try.ntmps9
  go_wp2_with fail
  refine (k1.out _).mono ?_
  rintro e w1 ⟨rfl, hb1⟩
  have HE1 := hid (HE0.out.trans hb1)
  clear hb1
  go_wp2_with fail
  refine bodyPost_ret (v := .tuple #[str [], .int .i64 r]) ?_ rfl (Ret.mk rfl HE1.out)
  simp [results, Try.results9, go_sem]

set_option maxRecDepth 20000 in
set_option maxHeartbeats 800000 in
theorem cHeader_ok (ty num : Nat) (fl : Nat) (crc : Int) (data : List UInt8) (hb : BV.right ⟨ty, num, fl, crc, data⟩ = 0) (w : World) : Calls Try.prog 9 #[BV.v ⟨ty, num, fl, crc, data⟩] w (Ret (.tuple #[str (headL 0 ty ++ headL 0 num ++ headL 0 fl), .int .i64 0]) w) := by
  have h := BV.right_zero hb
  simp only [] at h
  have HB := hid (Blk.new w 24 (BV.c ⟨ty, num, fl, crc, data⟩))
  have HE0 := hid ((Mod.refl [] w).alloc (.cells (BV.c ⟨ty, num, fl, crc, data⟩) 24))
  have k1 : Hid (∀ W, Calls Try.prog 10 #[BV.v ⟨ty, num, fl, crc, data⟩] W (Ret (.int .i64 0) W)) := fun W => by have := cbRight_any ⟨ty, num, fl, crc, data⟩ W; rw [hb] at this; exact this
  have t1 : IntKind.u64.wrap (ty : Int) = (ty : Int) := IntWalk.u64_in _ (by omega)
  have t2 : IntKind.u64.wrap (num : Int) = (num : Int) := IntWalk.u64_in _ (by omega)
  have k2 : Hid (∀ W, Calls Try.prog 19 #[.int .i64 0, .int .u64 (ty : Int)] W (Ret (str (headL 0 ty)) W)) := fun W => by simpa using head_in 0 (ty : Int) (by omega) (by omega) (by omega) (by omega) W
  have k3 : Hid (∀ W, Calls Try.prog 19 #[.int .i64 0, .int .u64 (num : Int)] W (Ret (str (headL 0 num)) W)) := fun W => by simpa using head_in 0 (num : Int) (by omega) (by omega) (by omega) (by omega) W
  have k4 : Hid (∀ W, Calls Try.prog 19 #[.int .i64 0, .int .u64 (fl : Int)] W (Ret (str (headL 0 fl)) W)) := fun W => by simpa using head_in 0 (fl : Int) (by omega) (by omega) (by omega) (by omega) W
  clear h hb
  go_enter Try.func9, Try.ntmps9
  go_wp2_with fail
  refine (k1.out _).mono ?_
  rintro e w1 ⟨rfl, hb1⟩
  have HE1 := hid (HE0.out.trans hb1)
  have HC := hid (HB.out.ext hb1)
  clear hb1
  have HS : Hid (∀ W, Ext w1 W → W.cell? ⟨w.heap.size, 0, none⟩ = some (.int .i64 (ty : Int)) ∧ W.cell? ⟨w.heap.size, 1, none⟩ = some (.int .i64 (num : Int)) ∧ W.cell? ⟨w.heap.size, 2, none⟩ = some (.int .u64 (fl : Int))) := fun W hW => by
    have b1 := HC.out.ext hW
    exact ⟨b1.cell 0, b1.cell 1, b1.cell 2⟩
  go_upto_region 4 with fail
  refine wp_region_ext (by kernel_rfl) (by kernel_rfl) ?_
  repeat (first
    | refine q_skip (by rfl) ?_
    | (refine q_load (by rfl) _ _ rfl ⟨w.heap.size, 0, none⟩ rfl (fun W hW => (HS.out W hW).1) Try.underlying3 rfl ?_; (try simp only [Act.put, List.setIfInBounds_toArray, List.set_cons_zero, List.set_cons_succ]))
    | (refine q_load (by rfl) _ _ rfl ⟨w.heap.size, 1, none⟩ rfl (fun W hW => (HS.out W hW).2.1) Try.underlying3 rfl ?_; (try simp only [Act.put, List.setIfInBounds_toArray, List.set_cons_zero, List.set_cons_succ]))
    | (refine q_load (by rfl) _ _ rfl ⟨w.heap.size, 2, none⟩ rfl (fun W hW => (HS.out W hW).2.2) Try.underlying22 rfl ?_; (try simp only [Act.put, List.setIfInBounds_toArray, List.set_cons_zero, List.set_cons_succ]))
    | (refine q_cat (by rfl) _ _ _ _ rfl _ _ rfl rfl (by have g1 := headL_le 0 ty; have g2 := headL_le 0 num; have g3 := headL_le 0 fl; (try simp only [List.length_append]); omega) ?_; (try simp only [Act.put, List.setIfInBounds_toArray, List.set_cons_zero, List.set_cons_succ]))
    | (refine wpQuiet_step (fun K hK => ?_); go_simp; (try rw [t1]); (try rw [t2]); refine hK _ ?_; clear hK K)
    | (refine wpQuiet_step (fun K hK => ?_); go_simp; (try rw [t1]); (try rw [t2]); refine ⟨_, fun _ _ => (by with_reducible rfl), hK _ ?_⟩; clear hK K)
    | (refine wpQuiet_step (fun K hK => ?_); go_simp; apply Exists.intro; refine ⟨fun W hW => ?_, hK _ ?_⟩; (first | with_reducible exact Ret.ext (k2.out _) hW | with_reducible exact Ret.ext (k3.out _) hW | with_reducible exact Ret.ext (k4.out _) hW); clear hK K))
  refine wpQuiet_nil ?_
  intro w3 hw3
  go_wp2_with fail
  refine bodyPost_ret (v := .tuple #[str (headL 0 ty ++ headL 0 num ++ headL 0 fl), .int .i64 0]) ?_ rfl (Ret.mk rfl (HE1.out.trans hw3))
  simp [results, Try.results9, go_sem]
theorem bv_nat {b : BV} (h : b.right = 0) : ∃ ty num : Nat, b = ⟨ty, num, b.fl, b.crc, b.data⟩ := by
  obtain ⟨ty, num, fl, crc, data⟩ := b
  have h := BV.right_zero h
  simp only [] at h
  obtain ⟨ty, rfl⟩ := Int.eq_ofNat_of_zero_le (show 0 ≤ ty by omega)
  obtain ⟨num, rfl⟩ := Int.eq_ofNat_of_zero_le (show 0 ≤ num by omega)
  exact ⟨ty, num, rfl⟩
theorem hdr_call {b : BV} (h : b.right = 0) (w : World) : Calls Try.prog 9 #[b.v] w (Ret (.tuple #[str b.hdr, .int .i64 0]) w) := by
  obtain ⟨ty, num, e⟩ := bv_nat h
  rw [e] at h ⊢
  simpa [BV.hdr] using cHeader_ok ty num b.fl b.crc b.data h w
end Go.Proofs.Yticbopfacfmjfaa
