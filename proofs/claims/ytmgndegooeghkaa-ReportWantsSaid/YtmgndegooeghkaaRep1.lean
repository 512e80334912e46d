/-
  Reports: the one that the laws wake the program by.
-/
import Derived.Test.YtmgndegooeghkaaEid1
-- ItCode
namespace Go.Proofs.Ytmgndegooeghkaa
open Go.RowKit
set_option linter.unusedVariables false

/-- A report's cells: here, gone, reason, of which bundle (name, time, number, piece). -/
abbrev idC (node svc time seq : Nat) : Array Value := #[.int .i64 2, str [], .int .u64 (node : Int), .int .u64 (svc : Int), .int .u64 (time : Int), .int .u64 (seq : Int), .bool false, .int .u64 0, .int .u64 0]
abbrev repC (here gone : Bool) (reason node svc time seq : Nat) : Array Value := #[.bool here, .bool gone, .int .i64 (reason : Int), .int .i64 2, str [], .int .u64 (node : Int), .int .u64 (svc : Int), .int .u64 (time : Int), .int .u64 (seq : Int), .bool false, .int .u64 0, .int .u64 0]

set_option maxRecDepth 20000 in
theorem bit_any (b : Bool) (w : World) : Calls Try.prog 38 #[.bool b] w (Ret (itemV (numT b.toNat) none 0) w) := by
  cases b
  · go_enter Try.func38, Try.ntmps38
    go_wp2_with fail
    refine (Num_any 0 _).mono ?_
    rintro e w1 ⟨rfl, hb1⟩
    have HB := hid ((Blk.new w 49 (itemC (T.mk 0 0 [] false 0 fun _ => T.nil) none 0)).ext hb1)
    have HE := hid (((Mod.refl [] w).alloc (.cells (itemC (T.mk 0 0 [] false 0 fun _ => T.nil) none 0) 49)).trans hb1)
    obtain ⟨c0, c1, c2, c3, c4⟩ := cells5 HB.out
    have f0 := Blk.frozen HB.out 0
    have f1 := Blk.frozen HB.out 1
    have f2 := Blk.frozen HB.out 2
    have f3 := Blk.frozen HB.out 3
    have f4 := Blk.frozen HB.out 4
    clear hb1
    go_wp2_with fail
    obtain ⟨d0, d1, d2, d3, d4⟩ := cells5 (set5_blk (t := numT 0) (A := none) (c := 0) HB.out)
    clear c0 c1 c2 c3 c4 f0 f1 f2 f3 f4
    show bodyPost _ _ _ _ _ (set5 w1 w.heap.size (numT 0) none 0)
    refine bodyPost_ret (v := itemV (numT 0) none 0) (by simp [results, Try.results38, go_sem, d0, d1, d2, d3, d4]) rfl ?_
    exact Ret.mk rfl (set5_mod HE.out (Nat.le_refl _))
  · go_enter Try.func38, Try.ntmps38
    go_wp2_with fail
    refine (Num_any 1 _).mono ?_
    rintro e w1 ⟨rfl, hb1⟩
    have HB := hid ((Blk.new w 49 (itemC (T.mk 0 0 [] false 0 fun _ => T.nil) none 0)).ext hb1)
    have HE := hid (((Mod.refl [] w).alloc (.cells (itemC (T.mk 0 0 [] false 0 fun _ => T.nil) none 0) 49)).trans hb1)
    obtain ⟨c0, c1, c2, c3, c4⟩ := cells5 HB.out
    have f0 := Blk.frozen HB.out 0
    have f1 := Blk.frozen HB.out 1
    have f2 := Blk.frozen HB.out 2
    have f3 := Blk.frozen HB.out 3
    have f4 := Blk.frozen HB.out 4
    clear hb1
    go_wp2_with fail
    obtain ⟨d0, d1, d2, d3, d4⟩ := cells5 (set5_blk (t := numT 1) (A := none) (c := 0) HB.out)
    clear c0 c1 c2 c3 c4 f0 f1 f2 f3 f4
    show bodyPost _ _ _ _ _ (set5 w1 w.heap.size (numT 1) none 0)
    refine bodyPost_ret (v := itemV (numT 1) none 0) (by simp [results, Try.results38, go_sem, d0, d1, d2, d3, d4]) rfl ?_
    exact Ret.mk rfl (set5_mod HE.out (Nat.le_refl _))

set_option maxRecDepth 20000 in
set_option maxHeartbeats 1600000 in
theorem named_ipn (node svc time seq : Nat) (hn : Hid (node ≤ 4294967295)) (hs : Hid (svc ≤ 4294967295)) (ht : time ≤ 1099511627776) (hq : seq ≤ 1099511627776) (w : World) :
    Calls Try.prog 21 #[.agg (idC node svc time seq)] w (Ret (.bool true) w) := by
  have t1 : decide (1099511627776 < (time : Int)) = false := by simp; omega
  have t2 : decide (1099511627776 < (seq : Int)) = false := by simp; omega
  have HB0 := hid ((Blk.new w 31 (idC node svc time seq)).alloc (.cells #[.int .u64 (time : Int), .int .u64 (seq : Int), .int .u64 0] 22))
  have HR0 : Hid (Blk ((w.alloc (.cells (idC node svc time seq) 31)).alloc (.cells #[.int .u64 (time : Int), .int .u64 (seq : Int), .int .u64 0] 22)) (w.heap.size + 1) 22 #[.int .u64 (time : Int), .int .u64 (seq : Int), .int .u64 0]) := by
    have := Blk.new (w.alloc (.cells (idC node svc time seq) 31)) 22 #[.int .u64 (time : Int), .int .u64 (seq : Int), .int .u64 0]
    unfold Hid
    simpa using this
  have HE0 := hid (((Mod.refl [] w).alloc (.cells (idC node svc time seq) 31)).alloc (.cells #[.int .u64 (time : Int), .int .u64 (seq : Int), .int .u64 0] 22))
  clear ht hq
  go_enter Try.func21, Try.ntmps21
  go_wp2_with fail
  go_loopw [13] (fun s13 wr => ∃ i : Nat, i ≤ 3 ∧ s13 = .int .i64 (i : Int) ∧ Hid (Ext w wr ∧ Blk wr w.heap.size 31 (idC node svc time seq) ∧ Blk wr (w.heap.size + 1) 22 #[.int .u64 (time : Int), .int .u64 (seq : Int), .int .u64 0])) (fun i _ => 3 - (intOf i).toNat)
  case atStart => exact ⟨0, by omega, rfl, HE0.out, HB0.out, HR0.out⟩
  case round =>
    clear HE0 HB0 HR0
    obtain ⟨i, hi, rfl, hH⟩ := hrel
    have r0 : wr.cell? ⟨w.heap.size + 1, 0, none⟩ = some (.int .u64 (time : Int)) := hH.out.2.2.cell 0
    have r1 : wr.cell? ⟨w.heap.size + 1, 1, none⟩ = some (.int .u64 (seq : Int)) := hH.out.2.2.cell 1
    have r2 : wr.cell? ⟨w.heap.size + 1, 2, none⟩ = some (.int .u64 0) := hH.out.2.2.cell 2
    have hi4 : i = 0 ∨ i = 1 ∨ i = 2 ∨ i = 3 := by omega
    clear hi
    rcases hi4 with rfl | rfl | rfl | rfl
    · go_wp2_with fail
      exact ⟨⟨1, by omega, by simp, (show Hid _ from hH.out)⟩, by simp [intOf]⟩
    · go_wp2_with fail
      exact ⟨⟨2, by omega, by simp, (show Hid _ from hH.out)⟩, by simp [intOf]⟩
    · go_wp2_with fail
      exact ⟨⟨3, by omega, by simp, (show Hid _ from hH.out)⟩, by simp [intOf]⟩
    · have b0 : wr.cell? ⟨w.heap.size, 0, none⟩ = some (.int .i64 2) := hH.out.2.1.cell 0
      have b1 : wr.cell? ⟨w.heap.size, 1, none⟩ = some (str []) := hH.out.2.1.cell 1
      have b2 : wr.cell? ⟨w.heap.size, 2, none⟩ = some (.int .u64 (node : Int)) := hH.out.2.1.cell 2
      have b3 : wr.cell? ⟨w.heap.size, 3, none⟩ = some (.int .u64 (svc : Int)) := hH.out.2.1.cell 3
      have b6 : wr.cell? ⟨w.heap.size, 6, none⟩ = some (.bool false) := hH.out.2.1.cell 6
      go_wp2_with fail
      refine (eidRight_ipn node svc hn.out hs.out _).mono ?_
      rintro e w3 ⟨rfl, hb3⟩
      have b7 : w3.cell? ⟨w.heap.size, 7, none⟩ = some (.int .u64 0) := (hH.out.2.1.ext hb3).cell 7
      have b8 : w3.cell? ⟨w.heap.size, 8, none⟩ = some (.int .u64 0) := (hH.out.2.1.ext hb3).cell 8
      have HE3 := hid (hH.out.1.trans hb3)
      clear hb3
      go_wp2_with fail
      go_ret
      exact Ret.mk rfl HE3.out
end Go.Proofs.Ytmgndegooeghkaa
