/-
 The item of a name.
-/
import Derived.Test.YthecmnbkjchjmaaGreatMExtHopsad
import Derived.Test.YthecmnbkjchjmaaGreatMExtHopsag
namespace Go.Proofs.YthecmnbkjchjmaaGreat
open Go.RowKit
set_option linter.unusedVariables false
set_option linter.unusedSimpArgs false
def textT (s : List UInt8) : T := T.mk 3 0 s false 0 fun _ => T.nil
def twoT (e : EV) : T := if e.sch = 2 then T.mk 4 0 [] false 2 (fun j => if j = 0 then numT e.node else numT e.svc) else if e.name = noneL then numT 0 else textT e.name
def eidT (e : EV) : T := T.mk 4 0 [] false 2 fun i => if i = 0 then numT e.sch.toNat else twoT e
set_option maxRecDepth 20000 in
set_option maxHeartbeats 800000 in
theorem eidItem_bad (sch : Int) (name : List UInt8) (node svc : Nat) (hs : Hid (name.length < 4611686018427387904)) (ho : EV.ok ⟨sch, name, node, svc⟩ = false) (w : World) :
  Calls Tryz.prog 58 #[EV.v ⟨sch, name, node, svc⟩] w (Ret (.tuple #[itemV (numT 0) none 0, .int .i64 1]) w) := by
 have K := hid (fun W => eidRight_any ⟨sch, name, node, svc⟩ hs W)
 rw [ho] at K
 have HB := hid ((Blk.new w 24 (EV.c ⟨sch, name, node, svc⟩)).alloc (.cells #[.int .i64 0, .int .u64 0, .string ⟨#[]⟩, .slice none 0 0, .bool false] 86))
 have HR : Hid (Blk ((w.alloc (.cells (EV.c ⟨sch, name, node, svc⟩) 24)).alloc (.cells #[.int .i64 0, .int .u64 0, .string ⟨#[]⟩, .slice none 0 0, .bool false] 86)) (w.heap.size + 1) 86 (itemC (numT 0) none 0)) := by
  have := Blk.new (w.alloc (.cells (EV.c ⟨sch, name, node, svc⟩) 24)) 86 (itemC (numT 0) none 0)
  unfold Hid
  simpa [itemC, numT, T.kind, T.n, T.s, T.k, T.op] using this
 have HE := hid (((Mod.refl [] w).alloc (.cells (EV.c ⟨sch, name, node, svc⟩) 24)).alloc (.cells #[.int .i64 0, .int .u64 0, .string ⟨#[]⟩, .slice none 0 0, .bool false] 86))
 go_enter Tryz.func58, Tryz.ntmps58
 go_wp2_with fail
 refine (K.out _).mono ?_
 rintro e w1 ⟨rfl, hb1⟩
 have HB1 := hid (HB.out.ext hb1)
 have HR1 := hid (HR.out.ext hb1)
 have HE1 := hid (HE.out.trans hb1)
 clear hb1 HB HR HE
 obtain ⟨c0, c1, c2, c3, c4⟩ := cells5 HR1.out
 have f0 := Blk.frozen HR1.out 0
 have f1 := Blk.frozen HR1.out 1
 have f2 := Blk.frozen HR1.out 2
 have f3 := Blk.frozen HR1.out 3
 have f4 := Blk.frozen HR1.out 4
 go_wp2_with fail
 obtain ⟨d0, d1, d2, d3, d4⟩ := cells5 (set5_blk (t := numT 0) (A := none) (c := 0) HR1.out)
 clear c0 c1 c2 c3 c4 f0 f1 f2 f3 f4
 show bodyPost _ _ _ _ _ (set5 w1 (w.heap.size + 1) (numT 0) none 0)
 refine bodyPost_ret (v := .tuple #[itemV (numT 0) none 0, .int .i64 1]) (by simp [results, Tryz.results58, go_sem, d0, d1, d2, d3, d4]) rfl ?_
 exact Ret.mk rfl (set5_mod HE1.out (by omega))
set_option maxRecDepth 20000 in
set_option maxHeartbeats 1600000 in
theorem eidItem_none (w : World) :
  Calls Tryz.prog 58 #[EV.v ⟨1, [110, 111, 110, 101], 0, 0⟩] w (fun e w' => ∃ A, e = .returned (.tuple #[itemV (eidT ⟨1, [110, 111, 110, 101], 0, 0⟩) A 2, .int .i64 0]) /\ Ext w w' /\ IsL w' (fun b => w.heap.size <= b) (eidT ⟨1, [110, 111, 110, 101], 0, 0⟩) A) := by
 have K : Hid (∀ W, Calls Tryz.prog 77 #[EV.v ⟨1, [110, 111, 110, 101], 0, 0⟩] W (Ret (.bool true) W)) := fun W => by have := eidRight_any ⟨1, [110, 111, 110, 101], 0, 0⟩ (by unfold Hid; decide) W; rw [show EV.ok ⟨1, [110, 111, 110, 101], 0, 0⟩ = true by decide] at this; exact this
 have HB := hid ((Blk.new w 24 (EV.c ⟨1, [110, 111, 110, 101], 0, 0⟩)).alloc (.cells #[.int .i64 0, .int .u64 0, .string ⟨#[]⟩, .slice none 0 0, .bool false] 86))
 have HR : Hid (Blk ((w.alloc (.cells (EV.c ⟨1, [110, 111, 110, 101], 0, 0⟩) 24)).alloc (.cells #[.int .i64 0, .int .u64 0, .string ⟨#[]⟩, .slice none 0 0, .bool false] 86)) (w.heap.size + 1) 86 (itemC (numT 0) none 0)) := by
  have := Blk.new (w.alloc (.cells (EV.c ⟨1, [110, 111, 110, 101], 0, 0⟩) 24)) 86 (itemC (numT 0) none 0)
  unfold Hid
  simpa [itemC, numT, T.kind, T.n, T.s, T.k, T.op] using this
 have HE := hid (((Mod.refl [] w).alloc (.cells (EV.c ⟨1, [110, 111, 110, 101], 0, 0⟩) 24)).alloc (.cells #[.int .i64 0, .int .u64 0, .string ⟨#[]⟩, .slice none 0 0, .bool false] 86))
 go_enter Tryz.func58, Tryz.ntmps58
 go_wp2_with fail
 refine (K.out _).mono ?_
 rintro e w1 ⟨rfl, hb1⟩
 have HB1 := hid (HB.out.ext hb1)
 have HR1 := hid (HR.out.ext hb1)
 have HE1 := hid (HE.out.trans hb1)
 clear hb1 HB HR HE
 have x0 : w1.cell? ⟨w.heap.size, 0, none⟩ = some (.int .i64 1) := HB1.out.cell 0
 have x1 : w1.cell? ⟨w.heap.size, 1, none⟩ = some (str [110, 111, 110, 101]) := HB1.out.cell 1
 go_wp2_with fail
 refine (NumI_any _ _).mono ?_
 rintro e w2 ⟨rfl, hb2⟩
 go_wp2_with fail
 refine (NumI_any _ _).mono ?_
 rintro e w3 ⟨rfl, hb3⟩
 have H13 : Hid (w1.heap.size <= w3.heap.size) := Nat.le_trans hb2.size hb3.size
 have HE3 := hid ((HE1.out.trans hb2).trans hb3)
 have HR3 := hid ((HR1.out.ext hb2).ext hb3)
 clear hb2 hb3 x0 x1
 go_wp2_with fail
 refine (ListV_any 2 _ 2 _).mono ?_
 rintro e w4 ⟨rfl, hb4⟩
 have HOut := hid ((Blk.new w3 86 #[.int .i64 0, .int .u64 1, str [], .slice none 0 0, .bool false, .int .i64 0, .int .u64 0, str [], .slice none 0 0, .bool false]).ext hb4)
 have HE4 := hid ((HE3.out.alloc _).trans hb4)
 have HR4 := hid ((HR3.out.alloc _).ext hb4)
 clear hb4 HE3 HR3
 obtain ⟨c0, c1, c2, c3, c4⟩ := cells5 HR4.out
 have f0 := Blk.frozen HR4.out 0
 have f1 := Blk.frozen HR4.out 1
 have f2 := Blk.frozen HR4.out 2
 have f3 := Blk.frozen HR4.out 3
 have f4 := Blk.frozen HR4.out 4
 have HTT : Hid (eidT ⟨1, [110, 111, 110, 101], 0, 0⟩ = T.mk 4 0 [] false 2 fun i => if i = 0 then numT 1 else numT 0) := rfl
 have HFin : Hid (Ext w (set5 w4 (w.heap.size + 1) (eidT ⟨1, [110, 111, 110, 101], 0, 0⟩) (some ⟨w3.heap.size, 0, none⟩) 2) /\ Blk (set5 w4 (w.heap.size + 1) (eidT ⟨1, [110, 111, 110, 101], 0, 0⟩) (some ⟨w3.heap.size, 0, none⟩) 2) (w.heap.size + 1) 86 (itemC (eidT ⟨1, [110, 111, 110, 101], 0, 0⟩) (some ⟨w3.heap.size, 0, none⟩) 2) /\
   IsL (set5 w4 (w.heap.size + 1) (eidT ⟨1, [110, 111, 110, 101], 0, 0⟩) (some ⟨w3.heap.size, 0, none⟩) 2) (fun b => w.heap.size <= b) (eidT ⟨1, [110, 111, 110, 101], 0, 0⟩) (some ⟨w3.heap.size, 0, none⟩)) := by
  have hm : Mod [w.heap.size + 1] w4 (set5 w4 (w.heap.size + 1) (eidT ⟨1, [110, 111, 110, 101], 0, 0⟩) (some ⟨w3.heap.size, 0, none⟩) 2) := set5_modb
  have hl := HR1.out.lt
  have hs3 := H13.out
  have b1 := HOut.out.mod hm (by simp; omega)
  refine ⟨set5_mod HE4.out (by omega), set5_blk HR4.out, ?_⟩
  rw [HTT.out] at b1 ⊢
  refine fun _ => ⟨w3.heap.size, 0, rfl, b1.lt, (show w.heap.size <= w3.heap.size by omega), fun i hi => ?_⟩
  have hi2 : i = 0 \/ i = 1 := by omega
  rcases hi2 with rfl | rfl
  . exact ⟨none, 0, ⟨b1.cell 0, b1.cell 1, b1.cell 2, b1.cell 3, b1.cell 4⟩, fun h => absurd h (by decide)⟩
  . exact ⟨none, 0, ⟨b1.cell 5, b1.cell 6, b1.cell 7, b1.cell 8, b1.cell 9⟩, fun h => absurd h (by decide)⟩
 obtain ⟨d0, d1, d2, d3, d4⟩ := cells5 HFin.out.2.1
 go_wp2_with fail
 show bodyPost _ _ _ _ _ (set5 w4 (w.heap.size + 1) (eidT ⟨1, [110, 111, 110, 101], 0, 0⟩) (some ⟨w3.heap.size, 0, none⟩) 2)
 refine bodyPost_ret (v := .tuple #[itemV (eidT ⟨1, [110, 111, 110, 101], 0, 0⟩) (some ⟨w3.heap.size, 0, none⟩) 2, .int .i64 0]) (by simp [results, Tryz.results58, go_sem, d0, d1, d2, d3, d4]) rfl ?_
 exact ⟨_, rfl, HFin.out.1, HFin.out.2.2⟩
set_option maxRecDepth 20000 in
set_option maxHeartbeats 1600000 in
theorem eidItem_dtn (name : List UInt8) (hs : Hid (name.length < 4611686018427387904)) (hn : name ≠ [110, 111, 110, 101]) (ho : EV.ok ⟨1, name, 0, 0⟩ = true) (w : World) :
  Calls Tryz.prog 58 #[EV.v ⟨1, name, 0, 0⟩] w (fun e w' => ∃ A, e = .returned (.tuple #[itemV (eidT ⟨1, name, 0, 0⟩) A 2, .int .i64 0]) /\ Ext w w' /\ IsL w' (fun b => w.heap.size <= b) (eidT ⟨1, name, 0, 0⟩) A) := by
 have K : Hid (∀ W, Calls Tryz.prog 77 #[EV.v ⟨1, name, 0, 0⟩] W (Ret (.bool true) W)) := fun W => by have := eidRight_any ⟨1, name, 0, 0⟩ hs W; rw [ho] at this; exact this
 have hnn : Hid (¬ name = noneL) := hn
 have n1 : (name == [110, 111, 110, 101]) = false := by simpa using hn
 have n2 : (name = [110, 111, 110, 101]) = False := by simpa using hn
 clear hn
 have HB := hid ((Blk.new w 24 (EV.c ⟨1, name, 0, 0⟩)).alloc (.cells #[.int .i64 0, .int .u64 0, .string ⟨#[]⟩, .slice none 0 0, .bool false] 86))
 have HR : Hid (Blk ((w.alloc (.cells (EV.c ⟨1, name, 0, 0⟩) 24)).alloc (.cells #[.int .i64 0, .int .u64 0, .string ⟨#[]⟩, .slice none 0 0, .bool false] 86)) (w.heap.size + 1) 86 (itemC (numT 0) none 0)) := by
  have := Blk.new (w.alloc (.cells (EV.c ⟨1, name, 0, 0⟩) 24)) 86 (itemC (numT 0) none 0)
  unfold Hid
  simpa [itemC, numT, T.kind, T.n, T.s, T.k, T.op] using this
 have HE := hid (((Mod.refl [] w).alloc (.cells (EV.c ⟨1, name, 0, 0⟩) 24)).alloc (.cells #[.int .i64 0, .int .u64 0, .string ⟨#[]⟩, .slice none 0 0, .bool false] 86))
 go_enter Tryz.func58, Tryz.ntmps58
 go_wp2_with fail
 refine (K.out _).mono ?_
 rintro e w1 ⟨rfl, hb1⟩
 have HB1 := hid (HB.out.ext hb1)
 have HR1 := hid (HR.out.ext hb1)
 have HE1 := hid (HE.out.trans hb1)
 clear hb1 HB HR HE
 have x0 : w1.cell? ⟨w.heap.size, 0, none⟩ = some (.int .i64 1) := HB1.out.cell 0
 have x1 : w1.cell? ⟨w.heap.size, 1, none⟩ = some (str name) := HB1.out.cell 1
 have HS : Hid (∀ w', Ext w1 w' -> w'.cell? ⟨w.heap.size, 0, none⟩ = some (.int .i64 1) /\ w'.cell? ⟨w.heap.size, 1, none⟩ = some (str name)) := fun W hW => ⟨(HB1.out.ext hW).cell 0, (HB1.out.ext hW).cell 1⟩
 obtain ⟨c0, c1, c2, c3, c4⟩ := cells5 HR1.out
 have f0 := Blk.frozen HR1.out 0
 have f1 := Blk.frozen HR1.out 1
 have f2 := Blk.frozen HR1.out 2
 have f3 := Blk.frozen HR1.out 3
 have f4 := Blk.frozen HR1.out 4
 go_upto_region 7 with fail
 go_region_held3 (fun w' => w'.cell? ⟨w.heap.size, 0, none⟩ = some (.int .i64 1) /\ w'.cell? ⟨w.heap.size, 1, none⟩ = some (str name)) (go_keep)
  (first
   | (go_at_call 46; refine (NumI_any _ _).mono ?_; rintro x w3 ⟨rfl, hb3⟩; have hx : Ext w1 w3 := (by (with_reducible refine Mod.trans ?_ hb3); (repeat (first | with_reducible assumption | with_reducible exact Mod.refl _ _ | with_reducible refine Mod.drew ?_ | with_reducible refine Mod.alloc ?_ _))); have z := HS.out w3 hx; have H13 : Hid (w1.heap.size <= w3.heap.size) := hx.size)
   | (go_at_call 45; refine (ListV_any 2 _ 2 _).mono ?_; rintro x w4 ⟨rfl, hb4⟩; have hx : Ext w1 w4 := (by (with_reducible refine Mod.trans ?_ hb4); (repeat (first | with_reducible assumption | with_reducible exact Mod.refl _ _ | with_reducible refine Mod.drew ?_ | with_reducible refine Mod.alloc ?_ _))); have z := HS.out w4 hx; have HOut := hid ((Blk.new _ _ _).ext hb4); have HR4 := hid (HR1.out.ext hx); have HE4 := hid (HE1.out.trans hx); obtain ⟨g0, g1, g2, g3, g4⟩ := cells5 HR4.out; have f0 := Blk.frozen HR4.out 0; have f1 := Blk.frozen HR4.out 1; have f2 := Blk.frozen HR4.out 2; have f3 := Blk.frozen HR4.out 3; have f4 := Blk.frozen HR4.out 4))
 have HTT : Hid (eidT ⟨1, name, 0, 0⟩ = T.mk 4 0 [] false 2 fun i => if i = 0 then numT 1 else textT name) := by unfold Hid eidT twoT; simp only []; rw [if_neg (by decide), if_neg hnn.out]; rfl
 have HFin : Hid (Ext w (set5 w4 (w.heap.size + 1) (eidT ⟨1, name, 0, 0⟩) (some ⟨w3.heap.size, 0, none⟩) 2) /\ Blk (set5 w4 (w.heap.size + 1) (eidT ⟨1, name, 0, 0⟩) (some ⟨w3.heap.size, 0, none⟩) 2) (w.heap.size + 1) 86 (itemC (eidT ⟨1, name, 0, 0⟩) (some ⟨w3.heap.size, 0, none⟩) 2) /\
   IsL (set5 w4 (w.heap.size + 1) (eidT ⟨1, name, 0, 0⟩) (some ⟨w3.heap.size, 0, none⟩) 2) (fun b => w.heap.size <= b) (eidT ⟨1, name, 0, 0⟩) (some ⟨w3.heap.size, 0, none⟩)) := by
  have hm : Mod [w.heap.size + 1] w4 (set5 w4 (w.heap.size + 1) (eidT ⟨1, name, 0, 0⟩) (some ⟨w3.heap.size, 0, none⟩) 2) := set5_modb
  have hl := HR1.out.lt
  have hs3 := H13.out
  have b1 := HOut.out.mod hm (by simp; omega)
  refine ⟨set5_mod HE4.out (by omega), set5_blk HR4.out, ?_⟩
  rw [HTT.out] at b1 ⊢
  refine fun _ => ⟨w3.heap.size, 0, rfl, b1.lt, (show w.heap.size <= w3.heap.size by omega), fun i hi => ?_⟩
  have hi2 : i = 0 \/ i = 1 := by omega
  rcases hi2 with rfl | rfl
  . exact ⟨none, 0, ⟨b1.cell 0, b1.cell 1, b1.cell 2, b1.cell 3, b1.cell 4⟩, fun h => absurd h (by decide)⟩
  . exact ⟨none, 0, ⟨b1.cell 5, b1.cell 6, b1.cell 7, b1.cell 8, b1.cell 9⟩, fun h => absurd h (by decide)⟩
 obtain ⟨d0, d1, d2, d3, d4⟩ := cells5 HFin.out.2.1
 go_wp2_with fail
 show bodyPost _ _ _ _ _ (set5 w4 (w.heap.size + 1) (eidT ⟨1, name, 0, 0⟩) (some ⟨w3.heap.size, 0, none⟩) 2)
 refine bodyPost_ret (v := .tuple #[itemV (eidT ⟨1, name, 0, 0⟩) (some ⟨w3.heap.size, 0, none⟩) 2, .int .i64 0]) (by simp [results, Tryz.results58, go_sem, d0, d1, d2, d3, d4]) rfl ?_
 exact ⟨_, rfl, HFin.out.1, HFin.out.2.2⟩
def rightCases (node svc : Nat) (name : List UInt8) : Bool := decide (name = []) && decide (node <= 4294967295) && decide (svc <= 4294967295)
set_option maxRecDepth 20000 in
set_option maxHeartbeats 800000 in
theorem r10_two (name : List UInt8) (node svc : Nat) (w : World) : Calls Tryz.prog 13 #[EV.v ⟨2, name, node, svc⟩] w (Ret (.bool (rightCases node svc name)) w) := by
 unfold rightCases
 by_cases hn : name = []
 .
  subst hn
  by_cases ha : node <= 4294967295
  .
   have t1 : decide ((node : Int) <= 4294967295) = true := by simp; omega
   by_cases hb : svc <= 4294967295
   .
    have t2 : decide ((svc : Int) <= 4294967295) = true := by simp; omega
    have hr : (decide (([] : List UInt8) = []) && decide (node <= 4294967295) && decide (svc <= 4294967295)) = true := by simp [ha, hb]
    rw [hr]
    clear hr ha hb
    go_enter Tryz.func13, Tryz.ntmps13
    go_wp2_with fail
    go_ret
    exact Ret.mk rfl ((Mod.refl _ _).alloc _)
   .
    have t2 : decide ((svc : Int) <= 4294967295) = false := by simp; omega
    have hr : (decide (([] : List UInt8) = []) && decide (node <= 4294967295) && decide (svc <= 4294967295)) = false := by simp [hb]
    rw [hr]
    clear hr ha hb
    go_enter Tryz.func13, Tryz.ntmps13
    go_wp2_with fail
    go_ret
    exact Ret.mk rfl ((Mod.refl _ _).alloc _)
  .
   have t1 : decide ((node : Int) <= 4294967295) = false := by simp; omega
   have hr : (decide (([] : List UInt8) = []) && decide (node <= 4294967295) && decide (svc <= 4294967295)) = false := by simp [ha]
   rw [hr]
   clear hr ha
   go_enter Tryz.func13, Tryz.ntmps13
   go_wp2_with fail
   go_ret
   exact Ret.mk rfl ((Mod.refl _ _).alloc _)
 .
  have n1 : (name == []) = false := by simpa using hn
  have n2 : (name = []) = False := by simpa using hn
  have n3 : name.isEmpty = false := by simpa using hn
  have hr : (decide (name = []) && decide (node <= 4294967295) && decide (svc <= 4294967295)) = false := by simp [hn]
  rw [hr]
  clear hr hn
  go_enter Tryz.func13, Tryz.ntmps13
  go_wp2_with fail
  go_ret
  exact Ret.mk rfl ((Mod.refl _ _).alloc _)
set_option maxRecDepth 20000 in
theorem r10_none (w : World) : Calls Tryz.prog 13 #[EV.v ⟨1, [110, 111, 110, 101], 0, 0⟩] w (Ret (.bool true) w) := by
 go_enter Tryz.func13, Tryz.ntmps13
 go_wp2_with fail
 go_ret
 exact Ret.mk rfl ((Mod.refl _ _).alloc _)
set_option maxRecDepth 20000 in
theorem r10_sch (sch : Int) (name : List UInt8) (node svc : Nat) (h2 : sch ≠ 2) (h1 : sch ≠ 1) (w : World) : Calls Tryz.prog 13 #[EV.v ⟨sch, name, node, svc⟩] w (Ret (.bool false) w) := by
 have s1 : (sch = 1) = False := by simp [h1]
 have s2 : (sch == 1) = false := by simp [h1]
 have s3 : (sch = 2) = False := by simp [h2]
 have s4 : (sch == 2) = false := by simp [h2]
 have s5 : (sch != 1) = true := by simp [h1]
 clear h1 h2
 go_enter Tryz.func13, Tryz.ntmps13
 go_wp2_with fail
 go_ret
 exact Ret.mk rfl ((Mod.refl _ _).alloc _)
set_option maxRecDepth 20000 in
theorem r10_node (name : List UInt8) (node svc : Nat) (h : node ≠ 0) (w : World) : Calls Tryz.prog 13 #[EV.v ⟨1, name, node, svc⟩] w (Ret (.bool false) w) := by
 have z1 : ((node : Int) == 0) = false := by simp; omega
 have z2 : ((node : Int) = 0) = False := by simp; omega
 have z3 : ((node : Int) != 0) = true := by simp; omega
 clear h
 go_enter Tryz.func13, Tryz.ntmps13
 go_wp2_with fail
 go_ret
 exact Ret.mk rfl ((Mod.refl _ _).alloc _)
set_option maxRecDepth 20000 in
theorem r10_svc (name : List UInt8) (svc : Nat) (h : svc ≠ 0) (w : World) : Calls Tryz.prog 13 #[EV.v ⟨1, name, 0, svc⟩] w (Ret (.bool false) w) := by
 have z1 : ((svc : Int) == 0) = false := by simp; omega
 have z2 : ((svc : Int) = 0) = False := by simp; omega
 have z3 : ((svc : Int) != 0) = true := by simp; omega
 clear h
 go_enter Tryz.func13, Tryz.ntmps13
 go_wp2_with fail
 go_ret
 exact Ret.mk rfl ((Mod.refl _ _).alloc _)
set_option maxRecDepth 20000 in
theorem r10_long (name : List UInt8) (h : 60 < name.length) (w : World) : Calls Tryz.prog 13 #[EV.v ⟨1, name, 0, 0⟩] w (Ret (.bool false) w) := by
 have t1 : decide (60 < (name.length : Int)) = true := by simp; omega
 clear h
 go_enter Tryz.func13, Tryz.ntmps13
 go_wp2_with fail
 go_ret
 exact Ret.mk rfl ((Mod.refl _ _).alloc _)
set_option maxRecDepth 20000 in
set_option maxHeartbeats 1600000 in
theorem r10_name (name : List UInt8) (h60 : name.length <= 60) (hn : name ≠ [110, 111, 110, 101]) (w : World) : Calls Tryz.prog 13 #[EV.v ⟨1, name, 0, 0⟩] w (Ret (.bool (if slash name < 3 \/ name.take 2 ≠ [47, 47] then false else goodA (slash name) (name.drop 2) 2)) w) := by
 have t1 : decide (60 < (name.length : Int)) = false := by simp; omega
 have n1 : (name == [110, 111, 110, 101]) = false := by simpa using hn
 have n2 : (name = [110, 111, 110, 101]) = False := by simpa using hn
 have K := hid (fun W => slash_any name (by unfold Hid; omega) W)
 have HE := hid ((Mod.refl [] w).alloc (.cells (EV.c ⟨1, name, 0, 0⟩) 24))
 have HB := hid (Blk.new w 24 (EV.c ⟨1, name, 0, 0⟩))
 have hsl : slash name = 0 \/ 2 <= slash name := slashA_ge _ _
 by_cases h3 : slash name < 3
 .
  have t2 : decide ((slash name : Int) < 3) = true := by simp; omega
  rw [if_pos (Or.inl h3)]
  clear hn h60 h3 hsl
  generalize slash name = k at *
  go_enter Tryz.func13, Tryz.ntmps13
  go_wp2_with fail
  refine (K.out _).mono ?_
  rintro e w1 ⟨rfl, hb1⟩
  have HE1 := hid (HE.out.trans hb1)
  clear hb1
  go_wp2_with fail
  go_ret
  exact Ret.mk rfl HE1.out
 have t2 : decide ((slash name : Int) < 3) = false := by simp; omega
 have hl2 : 2 <= name.length := by
  rcases Nat.lt_or_ge name.length 2 with hl | hl
  .
   exfalso
   apply h3
   unfold slash
   rw [List.drop_eq_nil_of_le (by omega)]
   decide
  . exact hl
 have hx : ((⟨name.toArray⟩ : ByteArray).extract 0 2) = ⟨(name.take 2).toArray⟩ := by rw [ext0, List.drop_zero]
 by_cases ht : name.take 2 = [47, 47]
 case neg =>
  rw [if_pos (Or.inr ht)]
  have m1 : (name.take 2 == [47, 47]) = false := by simpa using ht
  have m2 : (name.take 2 = [47, 47]) = False := by simpa using ht
  clear hn h3 hsl ht
  generalize slash name = k at *
  generalize name.take 2 = p at *
  go_enter Tryz.func13, Tryz.ntmps13
  go_wp2_with fail
  refine (K.out _).mono ?_
  rintro e w1 ⟨rfl, hb1⟩
  have HE1 := hid (HE.out.trans hb1)
  have c1 : w1.cell? ⟨w.heap.size, 1, none⟩ = some (str name) := (HB.out.ext hb1).cell 1
  clear hb1
  go_wp2_with fail
  go_ret
  exact Ret.mk rfl HE1.out
 rw [if_neg (by intro h; rcases h with h | h; exact h3 h; exact h ht)]
 rw [ht] at hx
 obtain ⟨B, hB⟩ : ∃ B, goodA (slash name) (name.drop 2) 2 = B := ⟨_, rfl⟩
 rw [hB]
 have HG := hid hB
 clear hB hn h3 hsl ht
 generalize slash name = k at *
 go_enter Tryz.func13, Tryz.ntmps13
 go_wp2_with fail
 refine (K.out _).mono ?_
 rintro e w1 ⟨rfl, hb1⟩
 have HE1 := hid (HE.out.trans hb1)
 have HB1 := hid (HB.out.ext hb1)
 have c1 : w1.cell? ⟨w.heap.size, 1, none⟩ = some (str name) := HB1.out.cell 1
 clear hb1
 go_wp2_with fail
 have HW1 : Hid (Ext w w1 /\ w1.cell? ⟨w.heap.size, 1, none⟩ = some (str name) /\ w.heap.size < w1.heap.size) := ⟨HE1.out, c1, HB1.out.lt⟩
 clear HE HB HE1 HB1 c1
 go_loopw [4] (fun i wr => ∃ j : Nat, 2 <= j /\ j <= name.length /\ i = .int .i64 j /\ Hid (goodA k (name.drop j) j = B) /\ Hid (Ext w wr /\ wr.cell? ⟨w.heap.size, 1, none⟩ = some (str name) /\ w.heap.size < wr.heap.size)) (fun i _ => name.length - (intOf i).toNat)
 case atStart => exact ⟨2, Nat.le_refl _, hl2, rfl, HG, HW1⟩
 case round =>
  obtain ⟨j, hj2, hj, rfl, HP, HW⟩ := hrel
  have c1 := HW.out.2.1
  by_cases hlt : j < name.length
  .
   have hdr : name.drop j = name[j] :: name.drop (j + 1) := List.drop_eq_getElem_cons hlt
   rw [hdr, goodA] at HP
   clear hdr
   by_cases hjk : j < k
   .
    have u1 : decide (j < k) = true := by simp; omega
    have u2 : decide (k < j) = false := by simp; omega
    have KL := hid (fun W => letter_any (name[j]) W)
    by_cases hl : lett name[j] = true
    .
     have HN : Hid (goodA k (name.drop (j + 1)) (j + 1) = B) := hid (by have := HP.out; simpa [hjk, hl, show ¬ k < j by omega] using this)
     rw [hl] at KL
     clear HP hl hjk
     go_wp2_with fail
     refine (KL.out _).mono ?_
     rintro e w2 ⟨rfl, hb2⟩
     have HW2 : Hid (Ext w w2 /\ w2.cell? ⟨w.heap.size, 1, none⟩ = some (str name) /\ w.heap.size < w2.heap.size) := ⟨HW.out.1.trans hb2, (hb2.cell HW.out.2.2 (by simp)).trans HW.out.2.1, Nat.lt_of_lt_of_le HW.out.2.2 hb2.size⟩
     clear hb2 c1
     go_wp2_with fail
     go_roundw
     case rel => exact ⟨j + 1, by omega, by omega, by go_num, HN, HW2⟩
     case measure => simp [intOf]; omega
    .
     have hl2 : lett name[j] = false := by simpa using hl
     have HN : Hid (false = B) := hid (by have := HP.out; simpa [hjk, hl2] using this)
     rw [hl2] at KL
     clear HP hl hl2 hjk
     go_wp2_with fail
     refine (KL.out _).mono ?_
     rintro e w2 ⟨rfl, hb2⟩
     go_wp2_with fail
     go_ret
     exact Ret.mk (by rw [<- HN.out]; rfl) (HW.out.1.trans hb2)
   .
    have u1 : decide (j < k) = false := by simp; omega
    by_cases hkj : k < j
    .
     have u2 : decide (k < j) = true := by simp; omega
     have hx8 := (name[j]).toNat_lt
     by_cases hp : prin name[j] = true
     .
      have HN : Hid (goodA k (name.drop (j + 1)) (j + 1) = B) := hid (by have := HP.out; simpa [hjk, hkj, hp] using this)
      have hp2 : 33 <= (name[j]).toNat /\ (name[j]).toNat <= 126 := by simpa [prin] using hp
      have v1 : decide ((((⟨name.toArray⟩ : ByteArray)[j]'hlt).toNat : Int) < 33) = false := by show decide (((name[j]).toNat : Int) < 33) = false; simp; omega
      have v2 : decide (126 < (((⟨name.toArray⟩ : ByteArray)[j]'hlt).toNat : Int)) = false := by show decide (126 < ((name[j]).toNat : Int)) = false; simp; omega
      clear HP hp hp2 hjk hkj hx8
      go_wp2_with fail
      go_roundw
      case rel => exact ⟨j + 1, by omega, by omega, by go_num, HN, HW⟩
      case measure => simp [intOf]; omega
     .
      have hp1 : prin name[j] = false := by simpa using hp
      have HN : Hid (false = B) := hid (by have := HP.out; simpa [hjk, hkj, hp1] using this)
      have hp2 : ¬ (33 <= (name[j]).toNat /\ (name[j]).toNat <= 126) := by simpa [prin] using hp
      by_cases h33 : (name[j]).toNat < 33
      .
       have v1 : decide ((((⟨name.toArray⟩ : ByteArray)[j]'hlt).toNat : Int) < 33) = true := by show decide (((name[j]).toNat : Int) < 33) = true; simp; omega
       clear HP hp hp1 hp2 hjk hkj hx8 h33
       go_wp2_with fail
       go_ret
       exact Ret.mk (by rw [<- HN.out]; rfl) HW.out.1
      .
       have v1 : decide ((((⟨name.toArray⟩ : ByteArray)[j]'hlt).toNat : Int) < 33) = false := by show decide (((name[j]).toNat : Int) < 33) = false; simp; omega
       have v2 : decide (126 < (((⟨name.toArray⟩ : ByteArray)[j]'hlt).toNat : Int)) = true := by show decide (126 < ((name[j]).toNat : Int)) = true; simp; omega
       clear HP hp hp1 hp2 hjk hkj hx8 h33
       go_wp2_with fail
       go_ret
       exact Ret.mk (by rw [<- HN.out]; rfl) HW.out.1
    .
     have u2 : decide (k < j) = false := by simp; omega
     have HN : Hid (goodA k (name.drop (j + 1)) (j + 1) = B) := hid (by have := HP.out; simpa [hjk, hkj] using this)
     clear HP hjk hkj
     go_wp2_with fail
     go_roundw
     case rel => exact ⟨j + 1, by omega, by omega, by go_num, HN, HW⟩
     case measure => simp [intOf]; omega
  .
   obtain rfl : j = name.length := by omega
   have HN : Hid (true = B) := by have := HP.out; rw [List.drop_length] at this; exact this
   clear HP
   go_wp2_with fail
   go_ret
   exact Ret.mk (by rw [<- HN.out]; rfl) HW.out.1
theorem r10_any (e : EV) (w : World) : Calls Tryz.prog 13 #[e.v] w (Ret (.bool e.ok) w) := by
 rw [<- EV.ok_eq]
 obtain ⟨sch, name, node, svc⟩ := e
 unfold EV.okR
 simp only []
 by_cases h2 : sch = 2
 . subst h2; rw [if_pos rfl]; exact r10_two name node svc w
 rw [if_neg h2]
 by_cases h1 : sch = 1
 case neg => rw [if_pos (Or.inl h1)]; exact r10_sch sch name node svc h2 h1 w
 subst h1
 by_cases hn : node = 0
 case neg => rw [if_pos (by omega)]; exact r10_node name node svc hn w
 subst hn
 by_cases hv : svc = 0
 case neg => rw [if_pos (by omega)]; exact r10_svc name svc hv w
 subst hv
 by_cases hl : 60 < name.length
 . rw [if_pos (by omega)]; exact r10_long name hl w
 rw [if_neg (by omega)]
 by_cases h0 : name = noneL
 . rw [if_pos h0]; subst h0; exact r10_none w
 rw [if_neg h0]
 exact r10_name name (by omega) h0 w
theorem Crc.stepR_lt {m d r b : Nat} (hd : d < 2 ^ m) : Crc.stepR (2 ^ m) d r b < 2 ^ m := by
 have := Nat.mod_lt (r * 2) (Nat.two_pow_pos m)
 unfold Crc.stepR
 split
 . exact this
 . exact Nat.xor_lt_two_pow this hd
theorem Crc.x_16 (l : List UInt8) : Crc.rv 16 (65535 - Crc.divR 65536 4129 65535 l) = Crc.x25 l := Crc.sums (m := 15) (p := 33800) (by decide) l
theorem Crc.r_16 {r c : Nat} : Crc.stepR 65536 4129 r c = if r / 32768 = c then r * 2 % 65536 else (r * 2 % 65536) ^^^ 4129 := rfl
set_option maxHeartbeats 800000 in
theorem Sum16 (l : List UInt8) (hl : Hid (l.length < 1000000)) (w : World) : Calls Tryz.prog 74 #[.int .i64 16, str l] w (Ret (.int .u64 (Crc.x25 l : Nat)) w) := by
 obtain ⟨T, hT⟩ : ∃ T, T = Crc.divR 65536 4129 65535 l := ⟨_, rfl⟩
 have hX := Crc.x_16 l
 rw [<- hT] at hX
 rw [<- hX]
 have HT := hid hT; clear hT hX
 go_enter Tryz.func74, Tryz.ntmps74
 go_wp2_with fail
 go_loop [5, 6] (fun t i => ∃ j : Nat, j <= 16 /\ i = .int .i64 j /\ t = .int .u64 ((2 ^ j : Nat) : Int)) (fun _ i => 16 - (intOf i).toNat)
 case atStart => exact ⟨0, Nat.zero_le _, rfl, rfl⟩
 case round =>
  obtain ⟨j, hj, rfl, rfl⟩ := hrel
  have hp : 2 ^ j <= 4294967296 := show 2 ^ j <= 2 ^ 32 from Nat.pow_le_pow_right (by omega) (by omega)
  by_cases hlt : j < 16
  .
   have HS := hid (Nat.pow_succ 2 j)
   generalize 2 ^ j = x at *
   go_wp2_with fail
   go_round
   case rel => exact ⟨j + 1, by omega, by go_num, by rw [HS.out]; go_num⟩
   case measure => simp [intOf]; omega
  .
   obtain rfl : j = 16 := by omega
   have e2 : (2 : Nat) ^ 16 = 65536 := by decide
   rw [e2]
   clear e2 hp
   go_wp2_with fail
   refine (divisor_16 _).mono ?_
   rintro e w1 ⟨rfl, hb1⟩
   go_wp2_with fail
   go_loop [7, 9, 10, 11, 12, 13] (fun r i c k bt h => ∃ j x : Nat, j <= l.length /\ x < 65536 /\ i = .int .i64 j /\ r = .int .u64 (x : Int) /\ Hid (T = Crc.divR 65536 4129 x (l.drop j))) (fun _ i _ _ _ _ => l.length - (intOf i).toNat)
   case atStart => exact ⟨0, 65535, Nat.zero_le _, by omega, rfl, rfl, HT⟩
   case round =>
    obtain ⟨j, x, hj, hx, rfl, rfl, HR⟩ := hrel
    have hl2 : l.length < 1000000 := hl.out
    by_cases hlt : j < l.length
    .
     have HS : Hid (T = Crc.divR 65536 4129 (Crc.stepsR 65536 4129 8 x (l[j]).toNat) (l.drop (j + 1))) := by
      have h1 := HR.out
      rw [List.drop_eq_getElem_cons hlt] at h1
      exact h1
     clear HR
     have hc8 := (l[j]).toNat_lt
     go_wp2_with fail
     generalize hcn : (l[j]).toNat = cn at *
     have HCN := hid hcn; clear hcn
     go_loop [7, 10, 11, 12, 13] (fun r c k bt h => ∃ n y d : Nat, n <= 8 /\ y < 65536 /\ d < 256 /\ k = .int .i64 n /\ r = .int .u64 (y : Int) /\ c = .int .i64 (d : Int) /\ Hid (Crc.stepsR 65536 4129 (8 - n) y d = Crc.stepsR 65536 4129 8 x cn)) (fun _ _ k _ _ => 8 - (intOf k).toNat)
     case atStart => exact ⟨0, x, cn, by omega, hx, by omega, rfl, rfl, (by show Value.int .i64 (wrap64 ((l[j]).toNat : Int)) = _; rw [HCN.out]; congr 1; exact IntWalk.wrap64_in _ (by omega)), rfl⟩
     case round =>
      obtain ⟨n, y, d, hn, hy, hd, rfl, rfl, rfl, HQ⟩ := hrel
      by_cases hn8 : n < 8
      .
       have HN : Hid (Crc.stepsR 65536 4129 (8 - (n + 1)) (Crc.stepR 65536 4129 y (d % 2)) (d / 2) = Crc.stepsR 65536 4129 8 x cn) := by
        have h1 := HQ.out
        rw [show 8 - n = (8 - (n + 1)) + 1 by omega] at h1
        exact h1
       have hL := Crc.stepR_lt (m := 16) (d := 4129) (r := y) (b := d % 2) (by decide)
       clear HQ
       by_cases hbit : y / 32768 = d % 2
       .
        have hE : Crc.stepR 65536 4129 y (d % 2) = y * 2 % 65536 := by rw [Crc.r_16, if_pos hbit]
        rw [hE] at HN hL
        go_wp2_with fail
        go_round
        case rel => exact ⟨n + 1, _, d / 2, by omega, hL, by omega, by go_num, by simp, by simp, HN⟩
        case measure => simp [intOf]; omega
       .
        have hE : Crc.stepR 65536 4129 y (d % 2) = (y * 2 % 65536) ^^^ 4129 := by rw [Crc.r_16, if_neg hbit]
        have tX := u64_xor_nat (y * 2 % 65536) 4129 (by omega) (by omega)
        rw [hE] at HN hL
        go_wp2_with fail
        go_round
        case rel => exact ⟨n + 1, _, d / 2, by omega, hL, by omega, by go_num, by rw [<- tX]; simp, by simp, HN⟩
        case measure => simp [intOf]; omega
      .
       obtain rfl : n = 8 := by omega
       have h1 : y = Crc.stepsR 65536 4129 8 x cn := HQ.out
       subst h1
       clear HQ
       go_wp2_with fail
       go_round
       case rel => exact ⟨j + 1, _, by omega, hy, by go_num, rfl, HS⟩
       case measure => simp [intOf]; omega
    .
     obtain rfl : j = l.length := by omega
     have h1 := HR.out
     rw [List.drop_length] at h1
     have h2 : T = x := h1
     subst h2
     clear HR h1
     go_wp2_with fail
     have K := hid (fun W => turn_n (65535 - T) (by unfold Hid; omega) 16 (by unfold Hid; omega) W)
     have e5 : ((65535 - T : Nat) : Int) = 65535 - (T : Int) := by omega
     rw [e5] at K
     refine (K.out _).mono ?_
     rintro e w2 ⟨rfl, hb2⟩
     go_wp2_with fail
     go_ret
     exact Ret.mk rfl (hb1.trans hb2)
theorem Crc.x_32 (l : List UInt8) : Crc.rv 32 (4294967295 - Crc.divR 4294967296 517762881 4294967295 l) = Crc.cast l := Crc.sums (m := 31) (p := 2197175160) (by decide) l
theorem Crc.r_32 {r c : Nat} : Crc.stepR 4294967296 517762881 r c = if r / 2147483648 = c then r * 2 % 4294967296 else (r * 2 % 4294967296) ^^^ 517762881 := rfl
set_option maxHeartbeats 800000 in
theorem Sum32 (l : List UInt8) (hl : Hid (l.length < 1000000)) (w : World) : Calls Tryz.prog 74 #[.int .i64 32, str l] w (Ret (.int .u64 (Crc.cast l : Nat)) w) := by
 obtain ⟨T, hT⟩ : ∃ T, T = Crc.divR 4294967296 517762881 4294967295 l := ⟨_, rfl⟩
 have hX := Crc.x_32 l
 rw [<- hT] at hX
 rw [<- hX]
 have HT := hid hT; clear hT hX
 go_enter Tryz.func74, Tryz.ntmps74
 go_wp2_with fail
 go_loop [5, 6] (fun t i => ∃ j : Nat, j <= 32 /\ i = .int .i64 j /\ t = .int .u64 ((2 ^ j : Nat) : Int)) (fun _ i => 32 - (intOf i).toNat)
 case atStart => exact ⟨0, Nat.zero_le _, rfl, rfl⟩
 case round =>
  obtain ⟨j, hj, rfl, rfl⟩ := hrel
  have hp : 2 ^ j <= 4294967296 := show 2 ^ j <= 2 ^ 32 from Nat.pow_le_pow_right (by omega) (by omega)
  by_cases hlt : j < 32
  .
   have HS := hid (Nat.pow_succ 2 j)
   generalize 2 ^ j = x at *
   go_wp2_with fail
   go_round
   case rel => exact ⟨j + 1, by omega, by go_num, by rw [HS.out]; go_num⟩
   case measure => simp [intOf]; omega
  .
   obtain rfl : j = 32 := by omega
   have e2 : (2 : Nat) ^ 32 = 4294967296 := by decide
   rw [e2]
   clear e2 hp
   go_wp2_with fail
   refine (divisor_32 _).mono ?_
   rintro e w1 ⟨rfl, hb1⟩
   go_wp2_with fail
   go_loop [7, 9, 10, 11, 12, 13] (fun r i c k bt h => ∃ j x : Nat, j <= l.length /\ x < 4294967296 /\ i = .int .i64 j /\ r = .int .u64 (x : Int) /\ Hid (T = Crc.divR 4294967296 517762881 x (l.drop j))) (fun _ i _ _ _ _ => l.length - (intOf i).toNat)
   case atStart => exact ⟨0, 4294967295, Nat.zero_le _, by omega, rfl, rfl, HT⟩
   case round =>
    obtain ⟨j, x, hj, hx, rfl, rfl, HR⟩ := hrel
    have hl2 : l.length < 1000000 := hl.out
    by_cases hlt : j < l.length
    .
     have HS : Hid (T = Crc.divR 4294967296 517762881 (Crc.stepsR 4294967296 517762881 8 x (l[j]).toNat) (l.drop (j + 1))) := by
      have h1 := HR.out
      rw [List.drop_eq_getElem_cons hlt] at h1
      exact h1
     clear HR
     have hc8 := (l[j]).toNat_lt
     go_wp2_with fail
     generalize hcn : (l[j]).toNat = cn at *
     have HCN := hid hcn; clear hcn
     go_loop [7, 10, 11, 12, 13] (fun r c k bt h => ∃ n y d : Nat, n <= 8 /\ y < 4294967296 /\ d < 256 /\ k = .int .i64 n /\ r = .int .u64 (y : Int) /\ c = .int .i64 (d : Int) /\ Hid (Crc.stepsR 4294967296 517762881 (8 - n) y d = Crc.stepsR 4294967296 517762881 8 x cn)) (fun _ _ k _ _ => 8 - (intOf k).toNat)
     case atStart => exact ⟨0, x, cn, by omega, hx, by omega, rfl, rfl, (by show Value.int .i64 (wrap64 ((l[j]).toNat : Int)) = _; rw [HCN.out]; congr 1; exact IntWalk.wrap64_in _ (by omega)), rfl⟩
     case round =>
      obtain ⟨n, y, d, hn, hy, hd, rfl, rfl, rfl, HQ⟩ := hrel
      by_cases hn8 : n < 8
      .
       have HN : Hid (Crc.stepsR 4294967296 517762881 (8 - (n + 1)) (Crc.stepR 4294967296 517762881 y (d % 2)) (d / 2) = Crc.stepsR 4294967296 517762881 8 x cn) := by
        have h1 := HQ.out
        rw [show 8 - n = (8 - (n + 1)) + 1 by omega] at h1
        exact h1
       have hL := Crc.stepR_lt (m := 32) (d := 517762881) (r := y) (b := d % 2) (by decide)
       clear HQ
       by_cases hbit : y / 2147483648 = d % 2
       .
        have hE : Crc.stepR 4294967296 517762881 y (d % 2) = y * 2 % 4294967296 := by rw [Crc.r_32, if_pos hbit]
        rw [hE] at HN hL
        go_wp2_with fail
        go_round
        case rel => exact ⟨n + 1, _, d / 2, by omega, hL, by omega, by go_num, by simp, by simp, HN⟩
        case measure => simp [intOf]; omega
       .
        have hE : Crc.stepR 4294967296 517762881 y (d % 2) = (y * 2 % 4294967296) ^^^ 517762881 := by rw [Crc.r_32, if_neg hbit]
        have tX := u64_xor_nat (y * 2 % 4294967296) 517762881 (by omega) (by omega)
        rw [hE] at HN hL
        go_wp2_with fail
        go_round
        case rel => exact ⟨n + 1, _, d / 2, by omega, hL, by omega, by go_num, by rw [<- tX]; simp, by simp, HN⟩
        case measure => simp [intOf]; omega
      .
       obtain rfl : n = 8 := by omega
       have h1 : y = Crc.stepsR 4294967296 517762881 8 x cn := HQ.out
       subst h1
       clear HQ
       go_wp2_with fail
       go_round
       case rel => exact ⟨j + 1, _, by omega, hy, by go_num, rfl, HS⟩
       case measure => simp [intOf]; omega
    .
     obtain rfl : j = l.length := by omega
     have h1 := HR.out
     rw [List.drop_length] at h1
     have h2 : T = x := h1
     subst h2
     clear HR h1
     go_wp2_with fail
     have K := hid (fun W => turn_n (4294967295 - T) (by unfold Hid; omega) 32 (by unfold Hid; omega) W)
     have e5 : ((4294967295 - T : Nat) : Int) = 4294967295 - (T : Int) := by omega
     rw [e5] at K
     refine (K.out _).mono ?_
     rintro e w2 ⟨rfl, hb2⟩
     go_wp2_with fail
     go_ret
     exact Ret.mk rfl (hb1.trans hb2)
def floop (f : List UInt8 -> Nat × Int) (l : List UInt8) (o : Bool) (n : Nat) : Nat -> Nat -> Nat × Int
 | 0, e => if o = false /\ n <= 1000 then (e, 0) else if o = true /\ l[e]? = some 255 then (e + 1, 0) else (e, 4)
 | j + 1, e => if o = false /\ n <= 1000 - (j + 1) then (e, 0) else if o = true /\ l[e]? = some 255 then (e + 1, 0) else
   if (f (l.drop e)).2 = 0 then floop f l o n j (e + (f (l.drop e)).1) else (e + (f (l.drop e)).1, (f (l.drop e)).2)
def noK (m : Nat) : Bool := m != 0 && m != 2 && m != 3 && m != 4
def flt : Nat -> List UInt8 -> Nat × Int
 | 0, l => match readH l with
  | none => (0, 2)
  | some (sz, m, n, o) => if noK m = true then (0, 2) else (0, 3)
 | d + 1, l => match readH l with
  | none => (0, 2)
  | some (sz, m, n, o) => if noK m = true then (0, 2) else if m = 0 then (sz, 0) else
    if m < 4 then (if o = true \/ l.length - sz < n then (0, 2) else (sz + n, 0)) else
    if o = false /\ 1000 < n then (0, 4) else floop (flt d) l o n 1000 sz
theorem floop_le {f : List UInt8 -> Nat × Int} (hf : ∀ l, (f l).1 <= l.length) (l : List UInt8) (o : Bool) (n : Nat) : ∀ j e, e <= l.length -> (floop f l o n j e).1 <= l.length := by
 intro j
 induction j with
 | zero =>
  intro e he
  unfold floop
  split
  . exact he
  .
   split
   . rename_i h; exact (List.getElem?_eq_some_iff.1 h.2).1
   . exact he
 | succ j ih =>
  intro e he
  have h1 := hf (l.drop e)
  rw [List.length_drop] at h1
  unfold floop
  split
  . exact he
  .
   split
   . rename_i h; exact (List.getElem?_eq_some_iff.1 h.2).1
   .
    split
    . exact ih _ (by omega)
    . show e + (f (l.drop e)).1 <= l.length; omega
theorem flt_le (d : Nat) : ∀ l, (flt d l).1 <= l.length := by
 induction d with
 | zero =>
  intro l
  unfold flt
  split
  . exact Nat.zero_le _
  . split <;> exact Nat.zero_le _
 | succ d ih =>
  intro l
  unfold flt
  split
  . exact Nat.zero_le _
  .
   rename_i sz m n o hr
   have h1 := (readH_some hr).le
   split
   . exact Nat.zero_le _
   .
    split
    . exact h1
    .
     split
     .
      split
      . exact Nat.zero_le _
      . show sz + n <= l.length; rename_i h; simp only [not_or, Nat.not_lt] at h; omega
     .
      split
      . exact Nat.zero_le _
      . exact floop_le ih l o n 1000 sz h1
theorem cat_split (f : Nat -> List UInt8) {i k : Nat} (h : i <= k) : ∃ r, T.cat f k = T.cat f i ++ r := by
 induction k with
 | zero =>
    obtain rfl : i = 0 := by omega
    exact ⟨[], by simp⟩
 | succ k ih =>
  by_cases e : i = k + 1
  . subst e; exact ⟨[], by simp⟩
  .
   obtain ⟨r, hr⟩ := ih (by omega)
   exact ⟨r ++ f k, by rw [T.cat, hr, List.append_assoc]⟩
theorem pre_split (kind : Int) (s : List UInt8) (op : Bool) (kk : Nat) (ch : Nat -> T) {i k : Nat} (h : i <= k) : ∃ r, pre kind s op kk ch k = pre kind s op kk ch i ++ r := by
 obtain ⟨r, hr⟩ := cat_split (fun i => (ch i).bytes) h
 exact ⟨r, by unfold pre; rw [hr, List.append_assoc]⟩
theorem get_255 {l : List UInt8} {e : Nat} : l[e]? = some 255 ↔ ∃ v, l.drop e = 255 :: v := by
 rw [<- List.head?_drop]
 cases l.drop e with
 | nil => simp
 | cons x v => simp
theorem readH_255 {t : List UInt8} {sz m n : Nat} {o : Bool} (h : readH t = some (sz, m, n, o)) : (m = 7 /\ o = true) ↔ ∃ v, t = 255 :: v := by
 constructor
 .
  rintro ⟨rfl, rfl⟩
  unfold readH at h
  match t, h with
  | c :: r, h =>
   have hc := c.toNat_lt
   dsimp only at h
   split at h
   . simp at h
   .
    split at h
    .
     rename_i h1
     simp only [Option.some.injEq, Prod.mk.injEq] at h
     have e : c.toNat = 255 := by omega
     refine ⟨r, ?_⟩
     rw [<- b8_toNat c, e]; rfl
    .
     split at h
     . cases h
     .
      split at h
      . cases h
      .
       split at h
       . simp at h
       . cases h
 .
  rintro ⟨v, rfl⟩
  rw [T.readH_break] at h
  simp only [Option.some.injEq, Prod.mk.injEq] at h
  exact ⟨h.2.1.symm, h.2.2.2.symm⟩
theorem flt_bytes (t : T) : ∀ d, t.right d = true -> t.ok -> ∀ x, flt d (t.bytes ++ x) = (t.bytes.length, 0) := by
 induction t with
 | nil => intro d h hok; cases hok
 | mk kind n s op k ch ih =>
  intro d h hok x
  have hp : (T.mk kind n s op k ch).plain = true := by rw [T.right_eq] at h; simp at h; exact h.2
  have hr := T.readH_bytes _ hp hok x
  cases d with
  | zero => unfold T.right at h; simp at h
  | succ d =>
   unfold T.right at h
   rw [if_neg (by omega), Bool.and_eq_true, T.all_iff] at h
   obtain ⟨h1, h2⟩ := h
   simp only [Nat.add_sub_cancel] at h2
   have hkd := T.node_kind h1
   unfold T.ok at hok
   unfold flt
   rw [hr]
   unfold T.plain at hp
   rw [Bool.and_eq_true, T.all_iff] at hp
   rcases hkd with rfl | rfl | rfl | rfl
   .
    simp only [T.hd, if_true]
    unfold T.node at h1
    simp at h1
    obtain ⟨⟨rfl, rfl⟩, rfl⟩ := h1
    simp [noK, T.bytes]
   .
    unfold T.node at h1
    simp at h1
    obtain ⟨⟨rfl, rfl⟩, rfl⟩ := h1
    simp [T.hd, noK, T.bytes]
   .
    unfold T.node at h1
    simp at h1
    obtain ⟨⟨rfl, rfl⟩, rfl⟩ := h1
    simp [T.hd, noK, T.bytes]
   .
    unfold T.node at h1
    simp at h1
    obtain ⟨⟨rfl, rfl⟩, hk⟩ := h1
    rw [pre_end]
    have key : ∀ m i, i + m = k -> floop (flt d) (pre 4 [] op k ch k ++ (if op then [255] else []) ++ x) op (if op then 0 else k) (1000 - i) (pre 4 [] op k ch i).length = ((pre 4 [] op k ch k ++ (if op then [255] else [])).length, 0) := by
     intro m
     induction m with
     | zero =>
      intro i hi
      obtain rfl : i = k := by omega
      cases op
      .
       simp only [Bool.false_eq_true, if_false, List.append_nil]
       cases hj : 1000 - i with
       | zero => unfold floop; rw [if_pos ⟨rfl, by omega⟩]
       | succ j => unfold floop; rw [if_pos ⟨rfl, by omega⟩]
      .
       simp only [if_true]
       have h255 : (pre 4 [] true i ch i ++ [255] ++ x)[(pre 4 [] true i ch i).length]? = some 255 := get_255.2 ⟨x, by rw [List.append_assoc, List.drop_left]; rfl⟩
       cases hj : 1000 - i with
       | zero => unfold floop; rw [if_neg (by simp), if_pos ⟨rfl, h255⟩, List.length_append]; rfl
       | succ j => unfold floop; rw [if_neg (by simp), if_pos ⟨rfl, h255⟩, List.length_append]; rfl
     | succ m ihm =>
      intro i hi
      have hik : i < k := by omega
      have e1 : 1000 - i = (1000 - (i + 1)) + 1 := by omega
      obtain ⟨r, hr⟩ := pre_split 4 [] op k ch (show i + 1 <= k by omega)
      have hd : (pre 4 [] op k ch k ++ (if op then [255] else []) ++ x).drop (pre 4 [] op k ch i).length = (ch i).bytes ++ (r ++ ((if op then [255] else []) ++ x)) := by
       rw [hr, pre_succ, List.append_assoc, List.append_assoc, List.append_assoc, List.drop_left]
      have hc := ih i d (h2 i hik) (hok.2.2.2.2 i hik) (r ++ ((if op then [255] else []) ++ x))
      rw [e1]
      unfold floop
      rw [if_neg (by intro h; obtain ⟨h3, h4⟩ := h; subst h3; simp at h4; omega), if_neg (by
       rintro ⟨_, h4⟩
       obtain ⟨v, hv⟩ := get_255.1 h4
       rw [hd] at hv
       exact T.bytes_not_break (ch i) (hp.2 i hik) (hok.2.2.2.2 i hik) _ _ hv), hd, hc, if_pos rfl]
      have := ihm (i + 1) (by omega)
      rw [pre_succ, List.length_append] at this
      exact this
    have h0 := key k 0 (by omega)
    cases op
    .
     have e : (pre 4 [] false k ch 0).length = (headL 4 k).length := by simp [pre, T.cat]
     rw [e] at h0
     have eh : (T.mk 4 0 [] false k ch).hd = ((headL 4 k).length, 4, k, false) := rfl
     rw [eh]
     dsimp only
     rw [if_neg (by decide), if_neg (by decide), if_neg (by decide), if_neg (by rintro ⟨_, h⟩; omega)]
     exact h0
    .
     have eh : (T.mk 4 0 [] true k ch).hd = (1, 4, 0, true) := rfl
     rw [eh]
     dsimp only
     rw [if_neg (by decide), if_neg (by decide), if_neg (by decide), if_neg (by rintro ⟨h, _⟩; cases h)]
     exact h0
end Go.Proofs.YthecmnbkjchjmaaGreat
