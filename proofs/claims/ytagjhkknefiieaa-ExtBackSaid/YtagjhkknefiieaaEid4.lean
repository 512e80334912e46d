/-
  The item of a name.
-/
import Derived.Test.YtagjhkknefiieaaEid1
import Derived.Test.YtagjhkknefiieaaEid3
namespace Go.Proofs.Ytagjhkknefiieaa
open Go.RowKit
set_option linter.unusedVariables false

/-- Text; a name's item. -/
def textT (s : List UInt8) : T := T.mk 3 0 s false 0 fun _ => T.nil
def twoT (e : EV) : T := if e.sch = 2 then T.mk 4 0 [] false 2 (fun j => if j = 0 then numT e.node else numT e.svc) else if e.name = noneL then numT 0 else textT e.name
def eidT (e : EV) : T := T.mk 4 0 [] false 2 fun i => if i = 0 then numT e.sch.toNat else twoT e

set_option maxRecDepth 20000 in
set_option maxHeartbeats 800000 in
theorem eidItem_bad (sch : Int) (name : List UInt8) (node svc : Nat) (hs : Hid (name.length < 4611686018427387904)) (ho : EV.ok ⟨sch, name, node, svc⟩ = false) (w : World) :
    Calls Try.prog 28 #[EV.v ⟨sch, name, node, svc⟩] w (Ret (.tuple #[itemV (numT 0) none 0, .int .i64 1]) w) := by
  have K := hid (fun W => eidRight_any ⟨sch, name, node, svc⟩ hs W)
  rw [ho] at K
  have HB := hid ((Blk.new w 24 (EV.c ⟨sch, name, node, svc⟩)).alloc (.cells #[.int .i64 0, .int .u64 0, .string ⟨#[]⟩, .slice none 0 0, .bool false] 63))
  have HR : Hid (Blk ((w.alloc (.cells (EV.c ⟨sch, name, node, svc⟩) 24)).alloc (.cells #[.int .i64 0, .int .u64 0, .string ⟨#[]⟩, .slice none 0 0, .bool false] 63)) (w.heap.size + 1) 63 (itemC (numT 0) none 0)) := by
    have := Blk.new (w.alloc (.cells (EV.c ⟨sch, name, node, svc⟩) 24)) 63 (itemC (numT 0) none 0)
    unfold Hid
    simpa [itemC, numT, T.kind, T.n, T.s, T.k, T.op] using this
  have HE := hid (((Mod.refl [] w).alloc (.cells (EV.c ⟨sch, name, node, svc⟩) 24)).alloc (.cells #[.int .i64 0, .int .u64 0, .string ⟨#[]⟩, .slice none 0 0, .bool false] 63))
  go_enter Try.func28, Try.ntmps28
  go_wp2_with fail
  refine (K.out _).mono ?_
  rintro e w1 ⟨rfl, hb1⟩
  have HB1 := hid (HB.out.ext hb1)
  have HR1 := hid (HR.out.ext hb1)
  have HE1 := hid (HE.out.trans hb1)
  clear hb1 HB HR HE
  obtain ⟨c0, c1, c2, c3, c4⟩ := cells5 HR1.out
  have f0 := Blk.frozen HR1.out 0
  have f1 := Blk.frozen HR1.out 1
  have f2 := Blk.frozen HR1.out 2
  have f3 := Blk.frozen HR1.out 3
  have f4 := Blk.frozen HR1.out 4
  go_wp2_with fail
  obtain ⟨d0, d1, d2, d3, d4⟩ := cells5 (set5_blk (t := numT 0) (A := none) (c := 0) HR1.out)
  clear c0 c1 c2 c3 c4 f0 f1 f2 f3 f4
  show bodyPost _ _ _ _ _ (set5 w1 (w.heap.size + 1) (numT 0) none 0)
  refine bodyPost_ret (v := .tuple #[itemV (numT 0) none 0, .int .i64 1]) (by simp [results, Try.results28, go_sem, d0, d1, d2, d3, d4]) rfl ?_
  exact Ret.mk rfl (set5_mod HE1.out (by omega))

set_option maxRecDepth 20000 in
set_option maxHeartbeats 1600000 in
theorem eidItem_none (w : World) :
    Calls Try.prog 28 #[EV.v ⟨1, [110, 111, 110, 101], 0, 0⟩] w (fun e w' => ∃ A, e = .returned (.tuple #[itemV (eidT ⟨1, [110, 111, 110, 101], 0, 0⟩) A 2, .int .i64 0]) ∧ Ext w w' ∧ IsL w' (fun b => w.heap.size ≤ b) (eidT ⟨1, [110, 111, 110, 101], 0, 0⟩) A) := by
  have K : Hid (∀ W, Calls Try.prog 52 #[EV.v ⟨1, [110, 111, 110, 101], 0, 0⟩] W (Ret (.bool true) W)) := fun W => by have := eidRight_any ⟨1, [110, 111, 110, 101], 0, 0⟩ (by unfold Hid; decide) W; rw [show EV.ok ⟨1, [110, 111, 110, 101], 0, 0⟩ = true by decide] at this; exact this
  have HB := hid ((Blk.new w 24 (EV.c ⟨1, [110, 111, 110, 101], 0, 0⟩)).alloc (.cells #[.int .i64 0, .int .u64 0, .string ⟨#[]⟩, .slice none 0 0, .bool false] 63))
  have HR : Hid (Blk ((w.alloc (.cells (EV.c ⟨1, [110, 111, 110, 101], 0, 0⟩) 24)).alloc (.cells #[.int .i64 0, .int .u64 0, .string ⟨#[]⟩, .slice none 0 0, .bool false] 63)) (w.heap.size + 1) 63 (itemC (numT 0) none 0)) := by
    have := Blk.new (w.alloc (.cells (EV.c ⟨1, [110, 111, 110, 101], 0, 0⟩) 24)) 63 (itemC (numT 0) none 0)
    unfold Hid
    simpa [itemC, numT, T.kind, T.n, T.s, T.k, T.op] using this
  have HE := hid (((Mod.refl [] w).alloc (.cells (EV.c ⟨1, [110, 111, 110, 101], 0, 0⟩) 24)).alloc (.cells #[.int .i64 0, .int .u64 0, .string ⟨#[]⟩, .slice none 0 0, .bool false] 63))
  go_enter Try.func28, Try.ntmps28
  go_wp2_with fail
  refine (K.out _).mono ?_
  rintro e w1 ⟨rfl, hb1⟩
  have HB1 := hid (HB.out.ext hb1)
  have HR1 := hid (HR.out.ext hb1)
  have HE1 := hid (HE.out.trans hb1)
  clear hb1 HB HR HE
  have x0 : w1.cell? ⟨w.heap.size, 0, none⟩ = some (.int .i64 1) := HB1.out.cell 0
  have x1 : w1.cell? ⟨w.heap.size, 1, none⟩ = some (str [110, 111, 110, 101]) := HB1.out.cell 1
  go_wp2_with fail
  refine (NumI_any _ _).mono ?_
  rintro e w2 ⟨rfl, hb2⟩
  go_wp2_with fail
  refine (NumI_any _ _).mono ?_
  rintro e w3 ⟨rfl, hb3⟩
  have H13 : Hid (w1.heap.size ≤ w3.heap.size) := Nat.le_trans hb2.size hb3.size
  have HE3 := hid ((HE1.out.trans hb2).trans hb3)
  have HR3 := hid ((HR1.out.ext hb2).ext hb3)
  clear hb2 hb3 x0 x1
  go_wp2_with fail
  refine (ListV_any 2 _ 2 _).mono ?_
  rintro e w4 ⟨rfl, hb4⟩
  have HOut := hid ((Blk.new w3 63 #[.int .i64 0, .int .u64 1, str [], .slice none 0 0, .bool false, .int .i64 0, .int .u64 0, str [], .slice none 0 0, .bool false]).ext hb4)
  have HE4 := hid ((HE3.out.alloc _).trans hb4)
  have HR4 := hid ((HR3.out.alloc _).ext hb4)
  clear hb4 HE3 HR3
  obtain ⟨c0, c1, c2, c3, c4⟩ := cells5 HR4.out
  have f0 := Blk.frozen HR4.out 0
  have f1 := Blk.frozen HR4.out 1
  have f2 := Blk.frozen HR4.out 2
  have f3 := Blk.frozen HR4.out 3
  have f4 := Blk.frozen HR4.out 4
  have HTT : Hid (eidT ⟨1, [110, 111, 110, 101], 0, 0⟩ = T.mk 4 0 [] false 2 fun i => if i = 0 then numT 1 else numT 0) := rfl
  have HFin : Hid (Ext w (set5 w4 (w.heap.size + 1) (eidT ⟨1, [110, 111, 110, 101], 0, 0⟩) (some ⟨w3.heap.size, 0, none⟩) 2) ∧ Blk (set5 w4 (w.heap.size + 1) (eidT ⟨1, [110, 111, 110, 101], 0, 0⟩) (some ⟨w3.heap.size, 0, none⟩) 2) (w.heap.size + 1) 63 (itemC (eidT ⟨1, [110, 111, 110, 101], 0, 0⟩) (some ⟨w3.heap.size, 0, none⟩) 2) ∧
      IsL (set5 w4 (w.heap.size + 1) (eidT ⟨1, [110, 111, 110, 101], 0, 0⟩) (some ⟨w3.heap.size, 0, none⟩) 2) (fun b => w.heap.size ≤ b) (eidT ⟨1, [110, 111, 110, 101], 0, 0⟩) (some ⟨w3.heap.size, 0, none⟩)) := by
    have hm : Mod [w.heap.size + 1] w4 (set5 w4 (w.heap.size + 1) (eidT ⟨1, [110, 111, 110, 101], 0, 0⟩) (some ⟨w3.heap.size, 0, none⟩) 2) := set5_modb
    have hl := HR1.out.lt
    have hs3 := H13.out
    have b1 := HOut.out.mod hm (by simp; omega)
    refine ⟨set5_mod HE4.out (by omega), set5_blk HR4.out, ?_⟩
    rw [HTT.out] at b1 ⊢
    refine fun _ => ⟨w3.heap.size, 0, rfl, b1.lt, (show w.heap.size ≤ w3.heap.size by omega), fun i hi => ?_⟩
    have hi2 : i = 0 ∨ i = 1 := by omega
    rcases hi2 with rfl | rfl
    · exact ⟨none, 0, ⟨b1.cell 0, b1.cell 1, b1.cell 2, b1.cell 3, b1.cell 4⟩, fun h => absurd h (by decide)⟩
    · exact ⟨none, 0, ⟨b1.cell 5, b1.cell 6, b1.cell 7, b1.cell 8, b1.cell 9⟩, fun h => absurd h (by decide)⟩
  obtain ⟨d0, d1, d2, d3, d4⟩ := cells5 HFin.out.2.1
  go_wp2_with fail
  show bodyPost _ _ _ _ _ (set5 w4 (w.heap.size + 1) (eidT ⟨1, [110, 111, 110, 101], 0, 0⟩) (some ⟨w3.heap.size, 0, none⟩) 2)
  refine bodyPost_ret (v := .tuple #[itemV (eidT ⟨1, [110, 111, 110, 101], 0, 0⟩) (some ⟨w3.heap.size, 0, none⟩) 2, .int .i64 0]) (by simp [results, Try.results28, go_sem, d0, d1, d2, d3, d4]) rfl ?_
  exact ⟨_, rfl, HFin.out.1, HFin.out.2.2⟩

set_option maxRecDepth 20000 in
set_option maxHeartbeats 1600000 in
theorem eidItem_dtn (name : List UInt8) (hs : Hid (name.length < 4611686018427387904)) (hn : name ≠ [110, 111, 110, 101]) (ho : EV.ok ⟨1, name, 0, 0⟩ = true) (w : World) :
    Calls Try.prog 28 #[EV.v ⟨1, name, 0, 0⟩] w (fun e w' => ∃ A, e = .returned (.tuple #[itemV (eidT ⟨1, name, 0, 0⟩) A 2, .int .i64 0]) ∧ Ext w w' ∧ IsL w' (fun b => w.heap.size ≤ b) (eidT ⟨1, name, 0, 0⟩) A) := by
  have K : Hid (∀ W, Calls Try.prog 52 #[EV.v ⟨1, name, 0, 0⟩] W (Ret (.bool true) W)) := fun W => by have := eidRight_any ⟨1, name, 0, 0⟩ hs W; rw [ho] at this; exact this
  have hnn : Hid (¬ name = noneL) := hn
  have n1 : (name == [110, 111, 110, 101]) = false := by simpa using hn
  have n2 : (name = [110, 111, 110, 101]) = False := by simpa using hn
  clear hn
  have HB := hid ((Blk.new w 24 (EV.c ⟨1, name, 0, 0⟩)).alloc (.cells #[.int .i64 0, .int .u64 0, .string ⟨#[]⟩, .slice none 0 0, .bool false] 63))
  have HR : Hid (Blk ((w.alloc (.cells (EV.c ⟨1, name, 0, 0⟩) 24)).alloc (.cells #[.int .i64 0, .int .u64 0, .string ⟨#[]⟩, .slice none 0 0, .bool false] 63)) (w.heap.size + 1) 63 (itemC (numT 0) none 0)) := by
    have := Blk.new (w.alloc (.cells (EV.c ⟨1, name, 0, 0⟩) 24)) 63 (itemC (numT 0) none 0)
    unfold Hid
    simpa [itemC, numT, T.kind, T.n, T.s, T.k, T.op] using this
  have HE := hid (((Mod.refl [] w).alloc (.cells (EV.c ⟨1, name, 0, 0⟩) 24)).alloc (.cells #[.int .i64 0, .int .u64 0, .string ⟨#[]⟩, .slice none 0 0, .bool false] 63))
  go_enter Try.func28, Try.ntmps28
  go_wp2_with fail
  refine (K.out _).mono ?_
  rintro e w1 ⟨rfl, hb1⟩
  have HB1 := hid (HB.out.ext hb1)
  have HR1 := hid (HR.out.ext hb1)
  have HE1 := hid (HE.out.trans hb1)
  clear hb1 HB HR HE
  have x0 : w1.cell? ⟨w.heap.size, 0, none⟩ = some (.int .i64 1) := HB1.out.cell 0
  have x1 : w1.cell? ⟨w.heap.size, 1, none⟩ = some (str name) := HB1.out.cell 1
  have HS : Hid (∀ w', Ext w1 w' → w'.cell? ⟨w.heap.size, 0, none⟩ = some (.int .i64 1) ∧ w'.cell? ⟨w.heap.size, 1, none⟩ = some (str name)) := fun W hW => ⟨(HB1.out.ext hW).cell 0, (HB1.out.ext hW).cell 1⟩
  obtain ⟨c0, c1, c2, c3, c4⟩ := cells5 HR1.out
  have f0 := Blk.frozen HR1.out 0
  have f1 := Blk.frozen HR1.out 1
  have f2 := Blk.frozen HR1.out 2
  have f3 := Blk.frozen HR1.out 3
  have f4 := Blk.frozen HR1.out 4
  go_upto_region 7 with fail
  go_region_held3 (fun w' => w'.cell? ⟨w.heap.size, 0, none⟩ = some (.int .i64 1) ∧ w'.cell? ⟨w.heap.size, 1, none⟩ = some (str name)) (go_keep)
    (first
      | (go_at_call 34; refine (NumI_any _ _).mono ?_; rintro x w3 ⟨rfl, hb3⟩; have hx : Ext w1 w3 := (by (with_reducible refine Mod.trans ?_ hb3); (repeat (first | with_reducible assumption | with_reducible exact Mod.refl _ _ | with_reducible refine Mod.drew ?_ | with_reducible refine Mod.alloc ?_ _))); have z := HS.out w3 hx; have H13 : Hid (w1.heap.size ≤ w3.heap.size) := hx.size)
      | (go_at_call 36; refine (ListV_any 2 _ 2 _).mono ?_; rintro x w4 ⟨rfl, hb4⟩; have hx : Ext w1 w4 := (by (with_reducible refine Mod.trans ?_ hb4); (repeat (first | with_reducible assumption | with_reducible exact Mod.refl _ _ | with_reducible refine Mod.drew ?_ | with_reducible refine Mod.alloc ?_ _))); have z := HS.out w4 hx; have HOut := hid ((Blk.new _ _ _).ext hb4); have HR4 := hid (HR1.out.ext hx); have HE4 := hid (HE1.out.trans hx); obtain ⟨g0, g1, g2, g3, g4⟩ := cells5 HR4.out; have f0 := Blk.frozen HR4.out 0; have f1 := Blk.frozen HR4.out 1; have f2 := Blk.frozen HR4.out 2; have f3 := Blk.frozen HR4.out 3; have f4 := Blk.frozen HR4.out 4))
  have HTT : Hid (eidT ⟨1, name, 0, 0⟩ = T.mk 4 0 [] false 2 fun i => if i = 0 then numT 1 else textT name) := by unfold Hid eidT twoT; simp only []; rw [if_neg (by decide), if_neg hnn.out]; rfl
  have HFin : Hid (Ext w (set5 w4 (w.heap.size + 1) (eidT ⟨1, name, 0, 0⟩) (some ⟨w3.heap.size, 0, none⟩) 2) ∧ Blk (set5 w4 (w.heap.size + 1) (eidT ⟨1, name, 0, 0⟩) (some ⟨w3.heap.size, 0, none⟩) 2) (w.heap.size + 1) 63 (itemC (eidT ⟨1, name, 0, 0⟩) (some ⟨w3.heap.size, 0, none⟩) 2) ∧
      IsL (set5 w4 (w.heap.size + 1) (eidT ⟨1, name, 0, 0⟩) (some ⟨w3.heap.size, 0, none⟩) 2) (fun b => w.heap.size ≤ b) (eidT ⟨1, name, 0, 0⟩) (some ⟨w3.heap.size, 0, none⟩)) := by
    have hm : Mod [w.heap.size + 1] w4 (set5 w4 (w.heap.size + 1) (eidT ⟨1, name, 0, 0⟩) (some ⟨w3.heap.size, 0, none⟩) 2) := set5_modb
    have hl := HR1.out.lt
    have hs3 := H13.out
    have b1 := HOut.out.mod hm (by simp; omega)
    refine ⟨set5_mod HE4.out (by omega), set5_blk HR4.out, ?_⟩
    rw [HTT.out] at b1 ⊢
    refine fun _ => ⟨w3.heap.size, 0, rfl, b1.lt, (show w.heap.size ≤ w3.heap.size by omega), fun i hi => ?_⟩
    have hi2 : i = 0 ∨ i = 1 := by omega
    rcases hi2 with rfl | rfl
    · exact ⟨none, 0, ⟨b1.cell 0, b1.cell 1, b1.cell 2, b1.cell 3, b1.cell 4⟩, fun h => absurd h (by decide)⟩
    · exact ⟨none, 0, ⟨b1.cell 5, b1.cell 6, b1.cell 7, b1.cell 8, b1.cell 9⟩, fun h => absurd h (by decide)⟩
  obtain ⟨d0, d1, d2, d3, d4⟩ := cells5 HFin.out.2.1
  go_wp2_with fail
  show bodyPost _ _ _ _ _ (set5 w4 (w.heap.size + 1) (eidT ⟨1, name, 0, 0⟩) (some ⟨w3.heap.size, 0, none⟩) 2)
  refine bodyPost_ret (v := .tuple #[itemV (eidT ⟨1, name, 0, 0⟩) (some ⟨w3.heap.size, 0, none⟩) 2, .int .i64 0]) (by simp [results, Try.results28, go_sem, d0, d1, d2, d3, d4]) rfl ?_
  exact ⟨_, rfl, HFin.out.1, HFin.out.2.2⟩
end Go.Proofs.Ytagjhkknefiieaa
