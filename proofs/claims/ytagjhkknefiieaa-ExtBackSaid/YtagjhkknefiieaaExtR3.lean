/-
  What is made is read again: hops, whole.
-/
import Derived.Test.YtagjhkknefiieaaExtR2
namespace Go.Proofs.Ytagjhkknefiieaa
open Go.RowKit
set_option linter.unusedVariables false

theorem pairT2_plain (l k : Nat) : (pairT2 l k).plain = true ∧ (pairT2 l k).size ≤ 100 := by
  exact ⟨by simp [pairT2, numT, T.plain, T.node, T.all], by simp [pairT2, numT, T.size, T.sum]⟩
set_option maxRecDepth 20000 in
set_option maxHeartbeats 800000 in
theorem readH_yes (l k : Nat) (hm : mayB l k = true) (w : World) : Calls Try.prog 59 #[str (130 :: (headL 0 l ++ headL 0 k)), .func (Fn.func 60) #[] #[]] w (Ret (.tuple #[.agg #[.int .i64 (l : Int), .int .i64 (k : Int)], .int .i64 0]) w) := by
  have hb : l ≤ 255 ∧ k ≤ 255 := by simp [mayB] at hm; omega
  have hp := pairT2_plain l k
  have hf := pairT2_facts l k (by omega) (by omega)
  have hl := T.bytes_le (pairT2 l k)
  have K := hid (fun W => parse_same hf.2.2.1 hp.1 hf.1 (by omega) W)
  rw [hf.2.2.2] at K
  have HM := hid hm
  clear hp hf hl hm hb
  generalize (130 : UInt8) :: (headL 0 l ++ headL 0 k) = L at *
  have HE := hid (((Mod.refl [] w).alloc (.cells #[.int .i64 0, .int .i64 0] 75)).alloc (.cells #[.int .i64 0, .int .i64 0] 75))
  have HQ := hid ((Blk.new w 75 #[.int .i64 0, .int .i64 0]).alloc (.cells #[.int .i64 0, .int .i64 0] 75))
  go_enter Try.func59, Try.ntmps59
  go_wp2_with fail
  refine (K.out _).mono ?_
  rintro e1 w1 ⟨t, A, c, rfl, hb1, hr, hok, hs1, hs2, hl1⟩
  have HE1 := hid ((HE.out.trans hb1).alloc (.cells (itemC t A c) 63))
  have HQ1 := hid ((HQ.out.ext hb1).alloc (.cells (itemC t A c) 63))
  have HL1 : Hid (IsL (w1.alloc (.cells (itemC t A c) 63)) (fun _ => True) t A) := IsL.ext hl1 ((Mod.refl _ _).alloc _)
  have KO := hid (fun W hW => rh1_yes l k HM.out t hs2 A c W hW)
  clear hb1 hl1 hr hok hs1 hs2 K
  go_wp2_with fail
  refine (KO.out _ HL1.out).mono ?_
  rintro e1 w2 ⟨rfl, hb2⟩
  have HE2 := hid ((HE1.out.trans hb2).alloc (.cells #[.int .i64 (l : Int), .int .i64 (k : Int)] 75))
  have HQ2 := hid ((HQ1.out.ext hb2).alloc (.cells #[.int .i64 (l : Int), .int .i64 (k : Int)] 75))
  clear hb2
  have r0 : (w2.alloc (.cells #[.int .i64 (l : Int), .int .i64 (k : Int)] 75)).cell? ⟨w.heap.size, 0, none⟩ = some (.int .i64 0) := HQ2.out.cell 0
  have r1 : (w2.alloc (.cells #[.int .i64 (l : Int), .int .i64 (k : Int)] 75)).cell? ⟨w.heap.size, 1, none⟩ = some (.int .i64 0) := HQ2.out.cell 1
  have f0 := Blk.frozen HQ2.out 0
  have f1 := Blk.frozen HQ2.out 1
  go_wp2_with fail
  have B2 := (HQ2.out.set_ 0 (.int .i64 (l : Int))).set_ 1 (.int .i64 (k : Int))
  have d0 : (((w2.alloc (.cells #[.int .i64 (l : Int), .int .i64 (k : Int)] 75)).setCell ⟨w.heap.size, 0, none⟩ (.int .i64 (l : Int))).setCell ⟨w.heap.size, 1, none⟩ (.int .i64 (k : Int))).cell? ⟨w.heap.size, 0, none⟩ = some (.int .i64 (l : Int)) := B2.cell 0
  have d1 : (((w2.alloc (.cells #[.int .i64 (l : Int), .int .i64 (k : Int)] 75)).setCell ⟨w.heap.size, 0, none⟩ (.int .i64 (l : Int))).setCell ⟨w.heap.size, 1, none⟩ (.int .i64 (k : Int))).cell? ⟨w.heap.size, 1, none⟩ = some (.int .i64 (k : Int)) := B2.cell 1
  clear B2 r0 r1 f0 f1
  refine bodyPost_ret (v := .tuple #[.agg #[.int .i64 (l : Int), .int .i64 (k : Int)], .int .i64 0]) (by simp [results, Try.results59, go_sem, d0, d1]) rfl (Ret.mk rfl ((HE2.out.setCell (.inr (Nat.le_refl _)) _).setCell (.inr (Nat.le_refl _)) _))
set_option maxRecDepth 20000 in
theorem readHops_yes (l k : Nat) (hm : mayB l k = true) (w : World) : Calls Try.prog 47 #[str (130 :: (headL 0 l ++ headL 0 k))] w (Ret (.tuple #[.agg #[.int .i64 (l : Int), .int .i64 (k : Int)], .int .i64 0]) w) := by
  have K := hid (fun W => readH_yes l k hm W)
  generalize (130 : UInt8) :: (headL 0 l ++ headL 0 k) = L at *
  have HE := hid ((Mod.refl [] w).alloc (.cells #[.int .i64 0, .int .i64 0] 75))
  have HQ := hid (Blk.new w 75 #[.int .i64 0, .int .i64 0])
  go_enter Try.func47, Try.ntmps47
  go_wp2_with fail
  refine (K.out _).mono ?_
  rintro e1 w1 ⟨rfl, hb1⟩
  have HE1 := hid (HE.out.trans hb1)
  have HQ1 := hid (HQ.out.ext hb1)
  clear hb1
  have r0 : w1.cell? ⟨w.heap.size, 0, none⟩ = some (.int .i64 0) := HQ1.out.cell 0
  have r1 : w1.cell? ⟨w.heap.size, 1, none⟩ = some (.int .i64 0) := HQ1.out.cell 1
  have f0 := Blk.frozen HQ1.out 0
  have f1 := Blk.frozen HQ1.out 1
  go_wp2_with fail
  have B2 := (HQ1.out.set_ 0 (.int .i64 (l : Int))).set_ 1 (.int .i64 (k : Int))
  have d0 : ((w1.setCell ⟨w.heap.size, 0, none⟩ (.int .i64 (l : Int))).setCell ⟨w.heap.size, 1, none⟩ (.int .i64 (k : Int))).cell? ⟨w.heap.size, 0, none⟩ = some (.int .i64 (l : Int)) := B2.cell 0
  have d1 : ((w1.setCell ⟨w.heap.size, 0, none⟩ (.int .i64 (l : Int))).setCell ⟨w.heap.size, 1, none⟩ (.int .i64 (k : Int))).cell? ⟨w.heap.size, 1, none⟩ = some (.int .i64 (k : Int)) := B2.cell 1
  clear B2 r0 r1 f0 f1
  refine bodyPost_ret (v := .tuple #[.agg #[.int .i64 (l : Int), .int .i64 (k : Int)], .int .i64 0]) (by simp [results, Try.results47, go_sem, d0, d1]) rfl (Ret.mk rfl ((HE1.out.setCell (.inr (Nat.le_refl _)) _).setCell (.inr (Nat.le_refl _)) _))
set_option maxRecDepth 20000 in
theorem ReadHops_yes (l k : Nat) (hm : mayB l k = true) (w : World) : Calls Try.prog 20 #[str (130 :: (headL 0 l ++ headL 0 k))] w (Ret (.tuple #[.int .i64 (l : Int), .int .i64 (k : Int), .int .i64 0]) w) := by
  have K := hid (fun W => readHops_yes l k hm W)
  generalize (130 : UInt8) :: (headL 0 l ++ headL 0 k) = L at *
  go_enter Try.func20, Try.ntmps20
  go_wp2_with fail
  refine (K.out _).mono ?_
  rintro e1 w1 ⟨rfl, hb1⟩
  go_wp2_with fail
  go_quiet (fail)
  go_wp2_with fail
  refine bodyPost_ret (v := .tuple #[.int .i64 (l : Int), .int .i64 (k : Int), .int .i64 0]) (by simp [results, Try.results20, go_sem]) rfl (Ret.mk rfl (by first | exact (hb1.alloc _).drewN _ | exact hb1.drewN _ | exact (hb1.alloc _).drew))
end Go.Proofs.Ytagjhkknefiieaa
