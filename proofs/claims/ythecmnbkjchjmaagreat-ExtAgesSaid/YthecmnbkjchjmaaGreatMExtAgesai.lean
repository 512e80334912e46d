/-
 Names of the scheme 2: Right, Item; None.
-/
import Derived.Test.YthecmnbkjchjmaaGreatMExtAgesad
import Derived.Test.YthecmnbkjchjmaaGreatMExtAgesag

namespace Go.Proofs.YthecmnbkjchjmaaGreat
open Go.RowKit
set_option linter.unusedVariables false
set_option linter.unusedSimpArgs false

abbrev eidC (sch : Int) (name : List UInt8) (node svc : Nat) : Array Value := #[.int .i64 sch, str name, .int .u64 (node : Int), .int .u64 (svc : Int)]
abbrev eidV (sch : Int) (name : List UInt8) (node svc : Nat) : Value := .agg (eidC sch name node svc)

theorem eidNone_any (w : World) : Calls Tryz.prog 134 #[] w (Ret (eidV 1 [110, 111, 110, 101] 0 0) w) := by
 go_enter Tryz.func134, Tryz.ntmps134
 go_wp2
 refine bodyPost_ret (v := eidV 1 [110, 111, 110, 101] 0 0) ?_ rfl (Ret.mk rfl ((Mod.refl _ _).alloc _))
 simp [results, Tryz.results134, go_sem]

theorem eidRight_ipn (node svc : Nat) (hn : node <= 4294967295) (hs : svc <= 4294967295) (w : World) : Calls Tryz.prog 77 #[eidV 2 [] node svc] w (Ret (.bool true) w) := by
 have t1 : decide ((node : Int) <= 4294967295) = true := by simp; omega
 have t2 : decide ((svc : Int) <= 4294967295) = true := by simp; omega
 clear hn hs
 go_enter Tryz.func77, Tryz.ntmps77
 go_wp2
 go_ret
 exact Ret.mk rfl ((Mod.refl _ _).alloc _)

def ipnT (node svc : Nat) : T := T.mk 4 0 [] false 2 fun i => if i = 0 then numT 2 else T.mk 4 0 [] false 2 fun j => if j = 0 then numT node else numT svc
set_option maxRecDepth 20000 in
set_option maxHeartbeats 1600000 in
theorem eidItem_ipn (node svc : Nat) (hn : Hid (node <= 4294967295)) (hs : Hid (svc <= 4294967295)) (w : World) : Calls Tryz.prog 58 #[eidV 2 [] node svc] w (fun e w' => ∃ A, e = .returned (.tuple #[itemV (ipnT node svc) A 2, .int .i64 0]) /\ Ext w w' /\ IsL w' (fun b => w.heap.size <= b) (ipnT node svc) A) := by
 have HB := hid ((Blk.new w 24 (eidC 2 [] node svc)).alloc (.cells #[.int .i64 0, .int .u64 0, str [], .slice none 0 0, .bool false] 86))
 have HR : Hid (Blk ((w.alloc (.cells (eidC 2 [] node svc) 24)).alloc (.cells #[.int .i64 0, .int .u64 0, str [], .slice none 0 0, .bool false] 86)) (w.heap.size + 1) 86 #[.int .i64 0, .int .u64 0, str [], .slice none 0 0, .bool false]) := by
  have := Blk.new (w.alloc (.cells (eidC 2 [] node svc) 24)) 86 #[.int .i64 0, .int .u64 0, str [], .slice none 0 0, .bool false]
  unfold Hid
  simpa using this
 have HE := hid (((Mod.refl [] w).alloc (.cells (eidC 2 [] node svc) 24)).alloc (.cells #[.int .i64 0, .int .u64 0, str [], .slice none 0 0, .bool false] 86))
 go_enter Tryz.func58, Tryz.ntmps58
 go_wp2_with fail
 refine (eidRight_ipn node svc hn.out hs.out _).mono ?_
 rintro e w1 ⟨rfl, hb1⟩
 have HB1 := hid (HB.out.ext hb1)
 have HR1 := hid (HR.out.ext hb1)
 have HE1 := hid (HE.out.trans hb1)
 have x0 : w1.cell? ⟨w.heap.size, 0, none⟩ = some (.int .i64 2) := HB1.out.cell 0
 clear hb1 HB HR HE
 have HS : Hid (∀ W, Ext w1 W -> W.cell? ⟨w.heap.size, 2, none⟩ = some (.int .u64 (node : Int)) /\ W.cell? ⟨w.heap.size, 3, none⟩ = some (.int .u64 (svc : Int))) := fun W hW => ⟨(HB1.out.ext hW).cell 2, (HB1.out.ext hW).cell 3⟩
 have y2 := (HS.out w1 (Mod.refl _ _)).1
 have y3 := (HS.out w1 (Mod.refl _ _)).2
 go_upto_region 4 with fail
 go_region_held3 (fun w' => w'.cell? ⟨w.heap.size, 2, none⟩ = some (.int .u64 (node : Int)) /\ w'.cell? ⟨w.heap.size, 3, none⟩ = some (.int .u64 (svc : Int))) (go_keep)
  (first
   | (go_at_call 46; refine (NumI_any _ _).mono ?_; rintro x w3 ⟨rfl, hb3⟩; have hx : Ext w1 w3 := (by (with_reducible refine Mod.trans ?_ hb3); (repeat (first | with_reducible assumption | with_reducible exact Mod.refl _ _ | with_reducible refine Mod.drew ?_ | with_reducible refine Mod.alloc ?_ _))); have z := HS.out w3 hx)
   | (go_at_call 45; have hI := hIn; refine (ListV_any 2 _ 2 _).mono ?_; rintro x w5 ⟨rfl, hb5⟩; have hx : Ext w1 w5 := (by (with_reducible refine Mod.trans ?_ hb5); (repeat (first | with_reducible assumption | with_reducible exact Mod.refl _ _ | with_reducible refine Mod.drew ?_ | with_reducible refine Mod.alloc ?_ _))); have z := HS.out w5 hx; have hOut := (Blk.new _ _ _).ext hb5; have hIn2 := (Blk.alloc hIn _).ext hb5; have r0 : w5.cell? ⟨w.heap.size + 1, 0, none⟩ = some (.int .i64 0) := (HR1.out.ext hx).cell 0; have g0 : w5.frozen? ⟨w.heap.size + 1, 0, none⟩ = false := (HR1.out.ext hx).frozen 0; have r1 : w5.cell? ⟨w.heap.size + 1, 1, none⟩ = some (.int .u64 0) := (HR1.out.ext hx).cell 1; have g1 : w5.frozen? ⟨w.heap.size + 1, 1, none⟩ = false := (HR1.out.ext hx).frozen 1; have r2 : w5.cell? ⟨w.heap.size + 1, 2, none⟩ = some (str []) := (HR1.out.ext hx).cell 2; have g2 : w5.frozen? ⟨w.heap.size + 1, 2, none⟩ = false := (HR1.out.ext hx).frozen 2; have r3 : w5.cell? ⟨w.heap.size + 1, 3, none⟩ = some (.slice none 0 0) := (HR1.out.ext hx).cell 3; have g3 : w5.frozen? ⟨w.heap.size + 1, 3, none⟩ = false := (HR1.out.ext hx).frozen 3; have r4 : w5.cell? ⟨w.heap.size + 1, 4, none⟩ = some (.bool false) := (HR1.out.ext hx).cell 4; have g4 : w5.frozen? ⟨w.heap.size + 1, 4, none⟩ = false := (HR1.out.ext hx).frozen 4)
   | (go_at_call 45; refine (ListV_any 2 _ 2 _).mono ?_; rintro x w4 ⟨rfl, hb4⟩; have hx : Ext w1 w4 := (by (with_reducible refine Mod.trans ?_ hb4); (repeat (first | with_reducible assumption | with_reducible exact Mod.refl _ _ | with_reducible refine Mod.drew ?_ | with_reducible refine Mod.alloc ?_ _))); have z := HS.out w4 hx; have hIn := (Blk.new _ _ _).ext hb4))
 have h3 : Ext w1 w3 := by assumption
 have h4 : Ext w1 w4 := by assumption
 have hl : w.heap.size + 1 < w1.heap.size := HR1.out.lt
 have hs3 := h3.size
 have hs4 := h4.size
 have HR5 := hid (HR1.out.ext hx)
 have HFin : Hid (Ext w (set5 w5 (w.heap.size + 1) (ipnT node svc) (some ⟨w4.heap.size, 0, none⟩) 2) /\ Blk (set5 w5 (w.heap.size + 1) (ipnT node svc) (some ⟨w4.heap.size, 0, none⟩) 2) (w.heap.size + 1) 86 (itemC (ipnT node svc) (some ⟨w4.heap.size, 0, none⟩) 2) /\
   IsL (set5 w5 (w.heap.size + 1) (ipnT node svc) (some ⟨w4.heap.size, 0, none⟩) 2) (fun b => w.heap.size <= b) (ipnT node svc) (some ⟨w4.heap.size, 0, none⟩)) := by
  have hm : Mod [w.heap.size + 1] w5 (set5 w5 (w.heap.size + 1) (ipnT node svc) (some ⟨w4.heap.size, 0, none⟩) 2) := set5_modb
  have b1 := hOut.mod hm (by simp; omega)
  have b2 := hIn2.mod hm (by simp; omega)
  refine ⟨set5_mod (HE1.out.trans hx) (by omega), set5_blk (t0 := T.mk 0 0 [] false 0 fun _ => T.nil) (A0 := none) (c0 := 0) HR5.out, fun _ => ⟨w4.heap.size, 0, rfl, b1.lt, (show w.heap.size <= w4.heap.size by omega), fun i hi => ?_⟩⟩
  have hi2 : i = 0 \/ i = 1 := by omega
  rcases hi2 with rfl | rfl
  . exact ⟨none, 0, ⟨b1.cell 0, b1.cell 1, b1.cell 2, b1.cell 3, b1.cell 4⟩, fun h => absurd h (by decide)⟩
  .
   refine ⟨some ⟨w3.heap.size, 0, none⟩, 2, ⟨b1.cell 5, b1.cell 6, b1.cell 7, b1.cell 8, b1.cell 9⟩, fun _ => ⟨w3.heap.size, 0, rfl, b2.lt, (show w.heap.size <= w3.heap.size by omega), fun j hj => ?_⟩⟩
   have hj2 : j = 0 \/ j = 1 := by omega
   rcases hj2 with rfl | rfl
   . exact ⟨none, 0, ⟨b2.cell 0, b2.cell 1, b2.cell 2, b2.cell 3, b2.cell 4⟩, fun h => absurd h (by decide)⟩
   . exact ⟨none, 0, ⟨b2.cell 5, b2.cell 6, b2.cell 7, b2.cell 8, b2.cell 9⟩, fun h => absurd h (by decide)⟩
 obtain ⟨d0, d1, d2, d3, d4⟩ := cells5 HFin.out.2.1
 clear hOut hIn2 hIn h3 h4 hl hs3 hs4
 go_wp2_with fail
 show bodyPost _ _ _ _ _ (set5 w5 (w.heap.size + 1) (ipnT node svc) (some ⟨w4.heap.size, 0, none⟩) 2)
 refine bodyPost_ret (v := .tuple #[itemV (ipnT node svc) (some ⟨w4.heap.size, 0, none⟩) 2, .int .i64 0]) (by simp [results, Tryz.results58, go_sem, d0, d1, d2, d3, d4]) rfl ?_
 exact ⟨_, rfl, HFin.out.1, HFin.out.2.2⟩
end Go.Proofs.YthecmnbkjchjmaaGreat


namespace Go.Proofs.YthecmnbkjchjmaaGreat
open Go.RowKit
set_option linter.unusedVariables false
set_option linter.unusedSimpArgs false

def textT (s : List UInt8) : T := T.mk 3 0 s false 0 fun _ => T.nil
def twoT (e : EV) : T := if e.sch = 2 then T.mk 4 0 [] false 2 (fun j => if j = 0 then numT e.node else numT e.svc) else if e.name = noneL then numT 0 else textT e.name
def eidT (e : EV) : T := T.mk 4 0 [] false 2 fun i => if i = 0 then numT e.sch.toNat else twoT e

set_option maxRecDepth 20000 in
set_option maxHeartbeats 800000 in
theorem eidItem_bad (sch : Int) (name : List UInt8) (node svc : Nat) (hs : Hid (name.length < 4611686018427387904)) (ho : EV.ok ⟨sch, name, node, svc⟩ = false) (w : World) :
  Calls Tryz.prog 58 #[EV.v ⟨sch, name, node, svc⟩] w (Ret (.tuple #[itemV (numT 0) none 0, .int .i64 1]) w) := by
 have K := hid (fun W => eidRight_any ⟨sch, name, node, svc⟩ hs W)
 rw [ho] at K
 have HB := hid ((Blk.new w 24 (EV.c ⟨sch, name, node, svc⟩)).alloc (.cells #[.int .i64 0, .int .u64 0, .string ⟨#[]⟩, .slice none 0 0, .bool false] 86))
 have HR : Hid (Blk ((w.alloc (.cells (EV.c ⟨sch, name, node, svc⟩) 24)).alloc (.cells #[.int .i64 0, .int .u64 0, .string ⟨#[]⟩, .slice none 0 0, .bool false] 86)) (w.heap.size + 1) 86 (itemC (numT 0) none 0)) := by
  have := Blk.new (w.alloc (.cells (EV.c ⟨sch, name, node, svc⟩) 24)) 86 (itemC (numT 0) none 0)
  unfold Hid
  simpa [itemC, numT, T.kind, T.n, T.s, T.k, T.op] using this
 have HE := hid (((Mod.refl [] w).alloc (.cells (EV.c ⟨sch, name, node, svc⟩) 24)).alloc (.cells #[.int .i64 0, .int .u64 0, .string ⟨#[]⟩, .slice none 0 0, .bool false] 86))
 go_enter Tryz.func58, Tryz.ntmps58
 go_wp2_with fail
 refine (K.out _).mono ?_
 rintro e w1 ⟨rfl, hb1⟩
 have HB1 := hid (HB.out.ext hb1)
 have HR1 := hid (HR.out.ext hb1)
 have HE1 := hid (HE.out.trans hb1)
 clear hb1 HB HR HE
 obtain ⟨c0, c1, c2, c3, c4⟩ := cells5 HR1.out
 have f0 := Blk.frozen HR1.out 0
 have f1 := Blk.frozen HR1.out 1
 have f2 := Blk.frozen HR1.out 2
 have f3 := Blk.frozen HR1.out 3
 have f4 := Blk.frozen HR1.out 4
 go_wp2_with fail
 obtain ⟨d0, d1, d2, d3, d4⟩ := cells5 (set5_blk (t := numT 0) (A := none) (c := 0) HR1.out)
 clear c0 c1 c2 c3 c4 f0 f1 f2 f3 f4
 show bodyPost _ _ _ _ _ (set5 w1 (w.heap.size + 1) (numT 0) none 0)
 refine bodyPost_ret (v := .tuple #[itemV (numT 0) none 0, .int .i64 1]) (by simp [results, Tryz.results58, go_sem, d0, d1, d2, d3, d4]) rfl ?_
 exact Ret.mk rfl (set5_mod HE1.out (by omega))

set_option maxRecDepth 20000 in
set_option maxHeartbeats 1600000 in
theorem eidItem_none (w : World) :
  Calls Tryz.prog 58 #[EV.v ⟨1, [110, 111, 110, 101], 0, 0⟩] w (fun e w' => ∃ A, e = .returned (.tuple #[itemV (eidT ⟨1, [110, 111, 110, 101], 0, 0⟩) A 2, .int .i64 0]) /\ Ext w w' /\ IsL w' (fun b => w.heap.size <= b) (eidT ⟨1, [110, 111, 110, 101], 0, 0⟩) A) := by
 have K : Hid (∀ W, Calls Tryz.prog 77 #[EV.v ⟨1, [110, 111, 110, 101], 0, 0⟩] W (Ret (.bool true) W)) := fun W => by have := eidRight_any ⟨1, [110, 111, 110, 101], 0, 0⟩ (by unfold Hid; decide) W; rw [show EV.ok ⟨1, [110, 111, 110, 101], 0, 0⟩ = true by decide] at this; exact this
 have HB := hid ((Blk.new w 24 (EV.c ⟨1, [110, 111, 110, 101], 0, 0⟩)).alloc (.cells #[.int .i64 0, .int .u64 0, .string ⟨#[]⟩, .slice none 0 0, .bool false] 86))
 have HR : Hid (Blk ((w.alloc (.cells (EV.c ⟨1, [110, 111, 110, 101], 0, 0⟩) 24)).alloc (.cells #[.int .i64 0, .int .u64 0, .string ⟨#[]⟩, .slice none 0 0, .bool false] 86)) (w.heap.size + 1) 86 (itemC (numT 0) none 0)) := by
  have := Blk.new (w.alloc (.cells (EV.c ⟨1, [110, 111, 110, 101], 0, 0⟩) 24)) 86 (itemC (numT 0) none 0)
  unfold Hid
  simpa [itemC, numT, T.kind, T.n, T.s, T.k, T.op] using this
 have HE := hid (((Mod.refl [] w).alloc (.cells (EV.c ⟨1, [110, 111, 110, 101], 0, 0⟩) 24)).alloc (.cells #[.int .i64 0, .int .u64 0, .string ⟨#[]⟩, .slice none 0 0, .bool false] 86))
 go_enter Tryz.func58, Tryz.ntmps58
 go_wp2_with fail
 refine (K.out _).mono ?_
 rintro e w1 ⟨rfl, hb1⟩
 have HB1 := hid (HB.out.ext hb1)
 have HR1 := hid (HR.out.ext hb1)
 have HE1 := hid (HE.out.trans hb1)
 clear hb1 HB HR HE
 have x0 : w1.cell? ⟨w.heap.size, 0, none⟩ = some (.int .i64 1) := HB1.out.cell 0
 have x1 : w1.cell? ⟨w.heap.size, 1, none⟩ = some (str [110, 111, 110, 101]) := HB1.out.cell 1
 go_wp2_with fail
 refine (NumI_any _ _).mono ?_
 rintro e w2 ⟨rfl, hb2⟩
 go_wp2_with fail
 refine (NumI_any _ _).mono ?_
 rintro e w3 ⟨rfl, hb3⟩
 have H13 : Hid (w1.heap.size <= w3.heap.size) := Nat.le_trans hb2.size hb3.size
 have HE3 := hid ((HE1.out.trans hb2).trans hb3)
 have HR3 := hid ((HR1.out.ext hb2).ext hb3)
 clear hb2 hb3 x0 x1
 go_wp2_with fail
 refine (ListV_any 2 _ 2 _).mono ?_
 rintro e w4 ⟨rfl, hb4⟩
 have HOut := hid ((Blk.new w3 86 #[.int .i64 0, .int .u64 1, str [], .slice none 0 0, .bool false, .int .i64 0, .int .u64 0, str [], .slice none 0 0, .bool false]).ext hb4)
 have HE4 := hid ((HE3.out.alloc _).trans hb4)
 have HR4 := hid ((HR3.out.alloc _).ext hb4)
 clear hb4 HE3 HR3
 obtain ⟨c0, c1, c2, c3, c4⟩ := cells5 HR4.out
 have f0 := Blk.frozen HR4.out 0
 have f1 := Blk.frozen HR4.out 1
 have f2 := Blk.frozen HR4.out 2
 have f3 := Blk.frozen HR4.out 3
 have f4 := Blk.frozen HR4.out 4
 have HTT : Hid (eidT ⟨1, [110, 111, 110, 101], 0, 0⟩ = T.mk 4 0 [] false 2 fun i => if i = 0 then numT 1 else numT 0) := rfl
 have HFin : Hid (Ext w (set5 w4 (w.heap.size + 1) (eidT ⟨1, [110, 111, 110, 101], 0, 0⟩) (some ⟨w3.heap.size, 0, none⟩) 2) /\ Blk (set5 w4 (w.heap.size + 1) (eidT ⟨1, [110, 111, 110, 101], 0, 0⟩) (some ⟨w3.heap.size, 0, none⟩) 2) (w.heap.size + 1) 86 (itemC (eidT ⟨1, [110, 111, 110, 101], 0, 0⟩) (some ⟨w3.heap.size, 0, none⟩) 2) /\
   IsL (set5 w4 (w.heap.size + 1) (eidT ⟨1, [110, 111, 110, 101], 0, 0⟩) (some ⟨w3.heap.size, 0, none⟩) 2) (fun b => w.heap.size <= b) (eidT ⟨1, [110, 111, 110, 101], 0, 0⟩) (some ⟨w3.heap.size, 0, none⟩)) := by
  have hm : Mod [w.heap.size + 1] w4 (set5 w4 (w.heap.size + 1) (eidT ⟨1, [110, 111, 110, 101], 0, 0⟩) (some ⟨w3.heap.size, 0, none⟩) 2) := set5_modb
  have hl := HR1.out.lt
  have hs3 := H13.out
  have b1 := HOut.out.mod hm (by simp; omega)
  refine ⟨set5_mod HE4.out (by omega), set5_blk HR4.out, ?_⟩
  rw [HTT.out] at b1 ⊢
  refine fun _ => ⟨w3.heap.size, 0, rfl, b1.lt, (show w.heap.size <= w3.heap.size by omega), fun i hi => ?_⟩
  have hi2 : i = 0 \/ i = 1 := by omega
  rcases hi2 with rfl | rfl
  . exact ⟨none, 0, ⟨b1.cell 0, b1.cell 1, b1.cell 2, b1.cell 3, b1.cell 4⟩, fun h => absurd h (by decide)⟩
  . exact ⟨none, 0, ⟨b1.cell 5, b1.cell 6, b1.cell 7, b1.cell 8, b1.cell 9⟩, fun h => absurd h (by decide)⟩
 obtain ⟨d0, d1, d2, d3, d4⟩ := cells5 HFin.out.2.1
 go_wp2_with fail
 show bodyPost _ _ _ _ _ (set5 w4 (w.heap.size + 1) (eidT ⟨1, [110, 111, 110, 101], 0, 0⟩) (some ⟨w3.heap.size, 0, none⟩) 2)
 refine bodyPost_ret (v := .tuple #[itemV (eidT ⟨1, [110, 111, 110, 101], 0, 0⟩) (some ⟨w3.heap.size, 0, none⟩) 2, .int .i64 0]) (by simp [results, Tryz.results58, go_sem, d0, d1, d2, d3, d4]) rfl ?_
 exact ⟨_, rfl, HFin.out.1, HFin.out.2.2⟩

set_option maxRecDepth 20000 in
set_option maxHeartbeats 1600000 in
theorem eidItem_dtn (name : List UInt8) (hs : Hid (name.length < 4611686018427387904)) (hn : name ≠ [110, 111, 110, 101]) (ho : EV.ok ⟨1, name, 0, 0⟩ = true) (w : World) :
  Calls Tryz.prog 58 #[EV.v ⟨1, name, 0, 0⟩] w (fun e w' => ∃ A, e = .returned (.tuple #[itemV (eidT ⟨1, name, 0, 0⟩) A 2, .int .i64 0]) /\ Ext w w' /\ IsL w' (fun b => w.heap.size <= b) (eidT ⟨1, name, 0, 0⟩) A) := by
 have K : Hid (∀ W, Calls Tryz.prog 77 #[EV.v ⟨1, name, 0, 0⟩] W (Ret (.bool true) W)) := fun W => by have := eidRight_any ⟨1, name, 0, 0⟩ hs W; rw [ho] at this; exact this
 have hnn : Hid (¬ name = noneL) := hn
 have n1 : (name == [110, 111, 110, 101]) = false := by simpa using hn
 have n2 : (name = [110, 111, 110, 101]) = False := by simpa using hn
 clear hn
 have HB := hid ((Blk.new w 24 (EV.c ⟨1, name, 0, 0⟩)).alloc (.cells #[.int .i64 0, .int .u64 0, .string ⟨#[]⟩, .slice none 0 0, .bool false] 86))
 have HR : Hid (Blk ((w.alloc (.cells (EV.c ⟨1, name, 0, 0⟩) 24)).alloc (.cells #[.int .i64 0, .int .u64 0, .string ⟨#[]⟩, .slice none 0 0, .bool false] 86)) (w.heap.size + 1) 86 (itemC (numT 0) none 0)) := by
  have := Blk.new (w.alloc (.cells (EV.c ⟨1, name, 0, 0⟩) 24)) 86 (itemC (numT 0) none 0)
  unfold Hid
  simpa [itemC, numT, T.kind, T.n, T.s, T.k, T.op] using this
 have HE := hid (((Mod.refl [] w).alloc (.cells (EV.c ⟨1, name, 0, 0⟩) 24)).alloc (.cells #[.int .i64 0, .int .u64 0, .string ⟨#[]⟩, .slice none 0 0, .bool false] 86))
 go_enter Tryz.func58, Tryz.ntmps58
 go_wp2_with fail
 refine (K.out _).mono ?_
 rintro e w1 ⟨rfl, hb1⟩
 have HB1 := hid (HB.out.ext hb1)
 have HR1 := hid (HR.out.ext hb1)
 have HE1 := hid (HE.out.trans hb1)
 clear hb1 HB HR HE
 have x0 : w1.cell? ⟨w.heap.size, 0, none⟩ = some (.int .i64 1) := HB1.out.cell 0
 have x1 : w1.cell? ⟨w.heap.size, 1, none⟩ = some (str name) := HB1.out.cell 1
 have HS : Hid (∀ w', Ext w1 w' -> w'.cell? ⟨w.heap.size, 0, none⟩ = some (.int .i64 1) /\ w'.cell? ⟨w.heap.size, 1, none⟩ = some (str name)) := fun W hW => ⟨(HB1.out.ext hW).cell 0, (HB1.out.ext hW).cell 1⟩
 obtain ⟨c0, c1, c2, c3, c4⟩ := cells5 HR1.out
 have f0 := Blk.frozen HR1.out 0
 have f1 := Blk.frozen HR1.out 1
 have f2 := Blk.frozen HR1.out 2
 have f3 := Blk.frozen HR1.out 3
 have f4 := Blk.frozen HR1.out 4
 go_upto_region 7 with fail
 go_region_held3 (fun w' => w'.cell? ⟨w.heap.size, 0, none⟩ = some (.int .i64 1) /\ w'.cell? ⟨w.heap.size, 1, none⟩ = some (str name)) (go_keep)
  (first
   | (go_at_call 46; refine (NumI_any _ _).mono ?_; rintro x w3 ⟨rfl, hb3⟩; have hx : Ext w1 w3 := (by (with_reducible refine Mod.trans ?_ hb3); (repeat (first | with_reducible assumption | with_reducible exact Mod.refl _ _ | with_reducible refine Mod.drew ?_ | with_reducible refine Mod.alloc ?_ _))); have z := HS.out w3 hx; have H13 : Hid (w1.heap.size <= w3.heap.size) := hx.size)
   | (go_at_call 45; refine (ListV_any 2 _ 2 _).mono ?_; rintro x w4 ⟨rfl, hb4⟩; have hx : Ext w1 w4 := (by (with_reducible refine Mod.trans ?_ hb4); (repeat (first | with_reducible assumption | with_reducible exact Mod.refl _ _ | with_reducible refine Mod.drew ?_ | with_reducible refine Mod.alloc ?_ _))); have z := HS.out w4 hx; have HOut := hid ((Blk.new _ _ _).ext hb4); have HR4 := hid (HR1.out.ext hx); have HE4 := hid (HE1.out.trans hx); obtain ⟨g0, g1, g2, g3, g4⟩ := cells5 HR4.out; have f0 := Blk.frozen HR4.out 0; have f1 := Blk.frozen HR4.out 1; have f2 := Blk.frozen HR4.out 2; have f3 := Blk.frozen HR4.out 3; have f4 := Blk.frozen HR4.out 4))
 have HTT : Hid (eidT ⟨1, name, 0, 0⟩ = T.mk 4 0 [] false 2 fun i => if i = 0 then numT 1 else textT name) := by unfold Hid eidT twoT; simp only []; rw [if_neg (by decide), if_neg hnn.out]; rfl
 have HFin : Hid (Ext w (set5 w4 (w.heap.size + 1) (eidT ⟨1, name, 0, 0⟩) (some ⟨w3.heap.size, 0, none⟩) 2) /\ Blk (set5 w4 (w.heap.size + 1) (eidT ⟨1, name, 0, 0⟩) (some ⟨w3.heap.size, 0, none⟩) 2) (w.heap.size + 1) 86 (itemC (eidT ⟨1, name, 0, 0⟩) (some ⟨w3.heap.size, 0, none⟩) 2) /\
   IsL (set5 w4 (w.heap.size + 1) (eidT ⟨1, name, 0, 0⟩) (some ⟨w3.heap.size, 0, none⟩) 2) (fun b => w.heap.size <= b) (eidT ⟨1, name, 0, 0⟩) (some ⟨w3.heap.size, 0, none⟩)) := by
  have hm : Mod [w.heap.size + 1] w4 (set5 w4 (w.heap.size + 1) (eidT ⟨1, name, 0, 0⟩) (some ⟨w3.heap.size, 0, none⟩) 2) := set5_modb
  have hl := HR1.out.lt
  have hs3 := H13.out
  have b1 := HOut.out.mod hm (by simp; omega)
  refine ⟨set5_mod HE4.out (by omega), set5_blk HR4.out, ?_⟩
  rw [HTT.out] at b1 ⊢
  refine fun _ => ⟨w3.heap.size, 0, rfl, b1.lt, (show w.heap.size <= w3.heap.size by omega), fun i hi => ?_⟩
  have hi2 : i = 0 \/ i = 1 := by omega
  rcases hi2 with rfl | rfl
  . exact ⟨none, 0, ⟨b1.cell 0, b1.cell 1, b1.cell 2, b1.cell 3, b1.cell 4⟩, fun h => absurd h (by decide)⟩
  . exact ⟨none, 0, ⟨b1.cell 5, b1.cell 6, b1.cell 7, b1.cell 8, b1.cell 9⟩, fun h => absurd h (by decide)⟩
 obtain ⟨d0, d1, d2, d3, d4⟩ := cells5 HFin.out.2.1
 go_wp2_with fail
 show bodyPost _ _ _ _ _ (set5 w4 (w.heap.size + 1) (eidT ⟨1, name, 0, 0⟩) (some ⟨w3.heap.size, 0, none⟩) 2)
 refine bodyPost_ret (v := .tuple #[itemV (eidT ⟨1, name, 0, 0⟩) (some ⟨w3.heap.size, 0, none⟩) 2, .int .i64 0]) (by simp [results, Tryz.results58, go_sem, d0, d1, d2, d3, d4]) rfl ?_
 exact ⟨_, rfl, HFin.out.1, HFin.out.2.2⟩
end Go.Proofs.YthecmnbkjchjmaaGreat


namespace Go.Proofs.YthecmnbkjchjmaaGreat
open Go.RowKit
set_option linter.unusedVariables false
set_option linter.unusedSimpArgs false

def rightCases (node svc : Nat) (name : List UInt8) : Bool := decide (name = []) && decide (node <= 4294967295) && decide (svc <= 4294967295)
set_option maxRecDepth 20000 in
set_option maxHeartbeats 800000 in
theorem r10_two (name : List UInt8) (node svc : Nat) (w : World) : Calls Tryz.prog 13 #[EV.v ⟨2, name, node, svc⟩] w (Ret (.bool (rightCases node svc name)) w) := by
 unfold rightCases
 by_cases hn : name = []
 .
  subst hn
  by_cases ha : node <= 4294967295
  .
   have t1 : decide ((node : Int) <= 4294967295) = true := by simp; omega
   by_cases hb : svc <= 4294967295
   .
    have t2 : decide ((svc : Int) <= 4294967295) = true := by simp; omega
    have hr : (decide (([] : List UInt8) = []) && decide (node <= 4294967295) && decide (svc <= 4294967295)) = true := by simp [ha, hb]
    rw [hr]
    clear hr ha hb
    go_enter Tryz.func13, Tryz.ntmps13
    go_wp2_with fail
    go_ret
    exact Ret.mk rfl ((Mod.refl _ _).alloc _)
   .
    have t2 : decide ((svc : Int) <= 4294967295) = false := by simp; omega
    have hr : (decide (([] : List UInt8) = []) && decide (node <= 4294967295) && decide (svc <= 4294967295)) = false := by simp [hb]
    rw [hr]
    clear hr ha hb
    go_enter Tryz.func13, Tryz.ntmps13
    go_wp2_with fail
    go_ret
    exact Ret.mk rfl ((Mod.refl _ _).alloc _)
  .
   have t1 : decide ((node : Int) <= 4294967295) = false := by simp; omega
   have hr : (decide (([] : List UInt8) = []) && decide (node <= 4294967295) && decide (svc <= 4294967295)) = false := by simp [ha]
   rw [hr]
   clear hr ha
   go_enter Tryz.func13, Tryz.ntmps13
   go_wp2_with fail
   go_ret
   exact Ret.mk rfl ((Mod.refl _ _).alloc _)
 .
  have n1 : (name == []) = false := by simpa using hn
  have n2 : (name = []) = False := by simpa using hn
  have n3 : name.isEmpty = false := by simpa using hn
  have hr : (decide (name = []) && decide (node <= 4294967295) && decide (svc <= 4294967295)) = false := by simp [hn]
  rw [hr]
  clear hr hn
  go_enter Tryz.func13, Tryz.ntmps13
  go_wp2_with fail
  go_ret
  exact Ret.mk rfl ((Mod.refl _ _).alloc _)
set_option maxRecDepth 20000 in
theorem r10_none (w : World) : Calls Tryz.prog 13 #[EV.v ⟨1, [110, 111, 110, 101], 0, 0⟩] w (Ret (.bool true) w) := by
 go_enter Tryz.func13, Tryz.ntmps13
 go_wp2_with fail
 go_ret
 exact Ret.mk rfl ((Mod.refl _ _).alloc _)
set_option maxRecDepth 20000 in
theorem r10_sch (sch : Int) (name : List UInt8) (node svc : Nat) (h2 : sch ≠ 2) (h1 : sch ≠ 1) (w : World) : Calls Tryz.prog 13 #[EV.v ⟨sch, name, node, svc⟩] w (Ret (.bool false) w) := by
 have s1 : (sch = 1) = False := by simp [h1]
 have s2 : (sch == 1) = false := by simp [h1]
 have s3 : (sch = 2) = False := by simp [h2]
 have s4 : (sch == 2) = false := by simp [h2]
 have s5 : (sch != 1) = true := by simp [h1]
 clear h1 h2
 go_enter Tryz.func13, Tryz.ntmps13
 go_wp2_with fail
 go_ret
 exact Ret.mk rfl ((Mod.refl _ _).alloc _)
set_option maxRecDepth 20000 in
theorem r10_node (name : List UInt8) (node svc : Nat) (h : node ≠ 0) (w : World) : Calls Tryz.prog 13 #[EV.v ⟨1, name, node, svc⟩] w (Ret (.bool false) w) := by
 have z1 : ((node : Int) == 0) = false := by simp; omega
 have z2 : ((node : Int) = 0) = False := by simp; omega
 have z3 : ((node : Int) != 0) = true := by simp; omega
 clear h
 go_enter Tryz.func13, Tryz.ntmps13
 go_wp2_with fail
 go_ret
 exact Ret.mk rfl ((Mod.refl _ _).alloc _)
set_option maxRecDepth 20000 in
theorem r10_svc (name : List UInt8) (svc : Nat) (h : svc ≠ 0) (w : World) : Calls Tryz.prog 13 #[EV.v ⟨1, name, 0, svc⟩] w (Ret (.bool false) w) := by
 have z1 : ((svc : Int) == 0) = false := by simp; omega
 have z2 : ((svc : Int) = 0) = False := by simp; omega
 have z3 : ((svc : Int) != 0) = true := by simp; omega
 clear h
 go_enter Tryz.func13, Tryz.ntmps13
 go_wp2_with fail
 go_ret
 exact Ret.mk rfl ((Mod.refl _ _).alloc _)
set_option maxRecDepth 20000 in
theorem r10_long (name : List UInt8) (h : 60 < name.length) (w : World) : Calls Tryz.prog 13 #[EV.v ⟨1, name, 0, 0⟩] w (Ret (.bool false) w) := by
 have t1 : decide (60 < (name.length : Int)) = true := by simp; omega
 clear h
 go_enter Tryz.func13, Tryz.ntmps13
 go_wp2_with fail
 go_ret
 exact Ret.mk rfl ((Mod.refl _ _).alloc _)
set_option maxRecDepth 20000 in
set_option maxHeartbeats 1600000 in
theorem r10_name (name : List UInt8) (h60 : name.length <= 60) (hn : name ≠ [110, 111, 110, 101]) (w : World) : Calls Tryz.prog 13 #[EV.v ⟨1, name, 0, 0⟩] w (Ret (.bool (if slash name < 3 \/ name.take 2 ≠ [47, 47] then false else goodA (slash name) (name.drop 2) 2)) w) := by
 have t1 : decide (60 < (name.length : Int)) = false := by simp; omega
 have n1 : (name == [110, 111, 110, 101]) = false := by simpa using hn
 have n2 : (name = [110, 111, 110, 101]) = False := by simpa using hn
 have K := hid (fun W => slash_any name (by unfold Hid; omega) W)
 have HE := hid ((Mod.refl [] w).alloc (.cells (EV.c ⟨1, name, 0, 0⟩) 24))
 have HB := hid (Blk.new w 24 (EV.c ⟨1, name, 0, 0⟩))
 have hsl : slash name = 0 \/ 2 <= slash name := slashA_ge _ _
 by_cases h3 : slash name < 3
 .
  have t2 : decide ((slash name : Int) < 3) = true := by simp; omega
  rw [if_pos (Or.inl h3)]
  clear hn h60 h3 hsl
  generalize slash name = k at *
  go_enter Tryz.func13, Tryz.ntmps13
  go_wp2_with fail
  refine (K.out _).mono ?_
  rintro e w1 ⟨rfl, hb1⟩
  have HE1 := hid (HE.out.trans hb1)
  clear hb1
  go_wp2_with fail
  go_ret
  exact Ret.mk rfl HE1.out
 have t2 : decide ((slash name : Int) < 3) = false := by simp; omega
 have hl2 : 2 <= name.length := by
  rcases Nat.lt_or_ge name.length 2 with hl | hl
  .
   exfalso
   apply h3
   unfold slash
   rw [List.drop_eq_nil_of_le (by omega)]
   decide
  . exact hl
 have hx : ((⟨name.toArray⟩ : ByteArray).extract 0 2) = ⟨(name.take 2).toArray⟩ := by rw [ext0, List.drop_zero]
 by_cases ht : name.take 2 = [47, 47]
 case neg =>
  rw [if_pos (Or.inr ht)]
  have m1 : (name.take 2 == [47, 47]) = false := by simpa using ht
  have m2 : (name.take 2 = [47, 47]) = False := by simpa using ht
  clear hn h3 hsl ht
  generalize slash name = k at *
  generalize name.take 2 = p at *
  go_enter Tryz.func13, Tryz.ntmps13
  go_wp2_with fail
  refine (K.out _).mono ?_
  rintro e w1 ⟨rfl, hb1⟩
  have HE1 := hid (HE.out.trans hb1)
  have c1 : w1.cell? ⟨w.heap.size, 1, none⟩ = some (str name) := (HB.out.ext hb1).cell 1
  clear hb1
  go_wp2_with fail
  go_ret
  exact Ret.mk rfl HE1.out
 rw [if_neg (by intro h; rcases h with h | h; exact h3 h; exact h ht)]
 rw [ht] at hx
 obtain ⟨B, hB⟩ : ∃ B, goodA (slash name) (name.drop 2) 2 = B := ⟨_, rfl⟩
 rw [hB]
 have HG := hid hB
 clear hB hn h3 hsl ht
 generalize slash name = k at *
 go_enter Tryz.func13, Tryz.ntmps13
 go_wp2_with fail
 refine (K.out _).mono ?_
 rintro e w1 ⟨rfl, hb1⟩
 have HE1 := hid (HE.out.trans hb1)
 have HB1 := hid (HB.out.ext hb1)
 have c1 : w1.cell? ⟨w.heap.size, 1, none⟩ = some (str name) := HB1.out.cell 1
 clear hb1
 go_wp2_with fail
 have HW1 : Hid (Ext w w1 /\ w1.cell? ⟨w.heap.size, 1, none⟩ = some (str name) /\ w.heap.size < w1.heap.size) := ⟨HE1.out, c1, HB1.out.lt⟩
 clear HE HB HE1 HB1 c1
 go_loopw [4] (fun i wr => ∃ j : Nat, 2 <= j /\ j <= name.length /\ i = .int .i64 j /\ Hid (goodA k (name.drop j) j = B) /\ Hid (Ext w wr /\ wr.cell? ⟨w.heap.size, 1, none⟩ = some (str name) /\ w.heap.size < wr.heap.size)) (fun i _ => name.length - (intOf i).toNat)
 case atStart => exact ⟨2, Nat.le_refl _, hl2, rfl, HG, HW1⟩
 case round =>
  obtain ⟨j, hj2, hj, rfl, HP, HW⟩ := hrel
  have c1 := HW.out.2.1
  by_cases hlt : j < name.length
  .
   have hdr : name.drop j = name[j] :: name.drop (j + 1) := List.drop_eq_getElem_cons hlt
   rw [hdr, goodA] at HP
   clear hdr
   by_cases hjk : j < k
   .
    have u1 : decide (j < k) = true := by simp; omega
    have u2 : decide (k < j) = false := by simp; omega
    have KL := hid (fun W => letter_any (name[j]) W)
    by_cases hl : lett name[j] = true
    .
     have HN : Hid (goodA k (name.drop (j + 1)) (j + 1) = B) := hid (by have := HP.out; simpa [hjk, hl, show ¬ k < j by omega] using this)
     rw [hl] at KL
     clear HP hl hjk
     go_wp2_with fail
     refine (KL.out _).mono ?_
     rintro e w2 ⟨rfl, hb2⟩
     have HW2 : Hid (Ext w w2 /\ w2.cell? ⟨w.heap.size, 1, none⟩ = some (str name) /\ w.heap.size < w2.heap.size) := ⟨HW.out.1.trans hb2, (hb2.cell HW.out.2.2 (by simp)).trans HW.out.2.1, Nat.lt_of_lt_of_le HW.out.2.2 hb2.size⟩
     clear hb2 c1
     go_wp2_with fail
     go_roundw
     case rel => exact ⟨j + 1, by omega, by omega, by go_num, HN, HW2⟩
     case measure => simp [intOf]; omega
    .
     have hl2 : lett name[j] = false := by simpa using hl
     have HN : Hid (false = B) := hid (by have := HP.out; simpa [hjk, hl2] using this)
     rw [hl2] at KL
     clear HP hl hl2 hjk
     go_wp2_with fail
     refine (KL.out _).mono ?_
     rintro e w2 ⟨rfl, hb2⟩
     go_wp2_with fail
     go_ret
     exact Ret.mk (by rw [<- HN.out]; rfl) (HW.out.1.trans hb2)
   .
    have u1 : decide (j < k) = false := by simp; omega
    by_cases hkj : k < j
    .
     have u2 : decide (k < j) = true := by simp; omega
     have hx8 := (name[j]).toNat_lt
     by_cases hp : prin name[j] = true
     .
      have HN : Hid (goodA k (name.drop (j + 1)) (j + 1) = B) := hid (by have := HP.out; simpa [hjk, hkj, hp] using this)
      have hp2 : 33 <= (name[j]).toNat /\ (name[j]).toNat <= 126 := by simpa [prin] using hp
      have v1 : decide ((((⟨name.toArray⟩ : ByteArray)[j]'hlt).toNat : Int) < 33) = false := by show decide (((name[j]).toNat : Int) < 33) = false; simp; omega
      have v2 : decide (126 < (((⟨name.toArray⟩ : ByteArray)[j]'hlt).toNat : Int)) = false := by show decide (126 < ((name[j]).toNat : Int)) = false; simp; omega
      clear HP hp hp2 hjk hkj hx8
      go_wp2_with fail
      go_roundw
      case rel => exact ⟨j + 1, by omega, by omega, by go_num, HN, HW⟩
      case measure => simp [intOf]; omega
     .
      have hp1 : prin name[j] = false := by simpa using hp
      have HN : Hid (false = B) := hid (by have := HP.out; simpa [hjk, hkj, hp1] using this)
      have hp2 : ¬ (33 <= (name[j]).toNat /\ (name[j]).toNat <= 126) := by simpa [prin] using hp
      by_cases h33 : (name[j]).toNat < 33
      .
       have v1 : decide ((((⟨name.toArray⟩ : ByteArray)[j]'hlt).toNat : Int) < 33) = true := by show decide (((name[j]).toNat : Int) < 33) = true; simp; omega
       clear HP hp hp1 hp2 hjk hkj hx8 h33
       go_wp2_with fail
       go_ret
       exact Ret.mk (by rw [<- HN.out]; rfl) HW.out.1
      .
       have v1 : decide ((((⟨name.toArray⟩ : ByteArray)[j]'hlt).toNat : Int) < 33) = false := by show decide (((name[j]).toNat : Int) < 33) = false; simp; omega
       have v2 : decide (126 < (((⟨name.toArray⟩ : ByteArray)[j]'hlt).toNat : Int)) = true := by show decide (126 < ((name[j]).toNat : Int)) = true; simp; omega
       clear HP hp hp1 hp2 hjk hkj hx8 h33
       go_wp2_with fail
       go_ret
       exact Ret.mk (by rw [<- HN.out]; rfl) HW.out.1
    .
     have u2 : decide (k < j) = false := by simp; omega
     have HN : Hid (goodA k (name.drop (j + 1)) (j + 1) = B) := hid (by have := HP.out; simpa [hjk, hkj] using this)
     clear HP hjk hkj
     go_wp2_with fail
     go_roundw
     case rel => exact ⟨j + 1, by omega, by omega, by go_num, HN, HW⟩
     case measure => simp [intOf]; omega
  .
   obtain rfl : j = name.length := by omega
   have HN : Hid (true = B) := by have := HP.out; rw [List.drop_length] at this; exact this
   clear HP
   go_wp2_with fail
   go_ret
   exact Ret.mk (by rw [<- HN.out]; rfl) HW.out.1
theorem r10_any (e : EV) (w : World) : Calls Tryz.prog 13 #[e.v] w (Ret (.bool e.ok) w) := by
 rw [<- EV.ok_eq]
 obtain ⟨sch, name, node, svc⟩ := e
 unfold EV.okR
 simp only []
 by_cases h2 : sch = 2
 . subst h2; rw [if_pos rfl]; exact r10_two name node svc w
 rw [if_neg h2]
 by_cases h1 : sch = 1
 case neg => rw [if_pos (Or.inl h1)]; exact r10_sch sch name node svc h2 h1 w
 subst h1
 by_cases hn : node = 0
 case neg => rw [if_pos (by omega)]; exact r10_node name node svc hn w
 subst hn
 by_cases hv : svc = 0
 case neg => rw [if_pos (by omega)]; exact r10_svc name svc hv w
 subst hv
 by_cases hl : 60 < name.length
 . rw [if_pos (by omega)]; exact r10_long name hl w
 rw [if_neg (by omega)]
 by_cases h0 : name = noneL
 . rw [if_pos h0]; subst h0; exact r10_none w
 rw [if_neg h0]
 exact r10_name name (by omega) h0 w
end Go.Proofs.YthecmnbkjchjmaaGreat
