/-
 The item of a name.
 The reference's look at names.
 The reference's right names.
 Items: how many there are, whether they are plain.
 The walks of package cbor's spread, at its four types: a number's bytes, the greatest first.
 The walks of package cbor's Head, opens, Open: each returns the bytes of its plain Lean function, and turns nothing that was there.
 The walks of package cbor's opens, Open and NewReader.
 The walks of the reference's digits and Head.
 Items: right ones, few ones; the reference's bytes.
 The walks of cbor.Bytes, cbor.Text and of the reference's.
 Items: the code's Right, Build and Same.
 Items: the code's Build and Same.
 A right name's item, by the code and by the reference.
 Sums against chance, plainly: the code's (bits turned about, a byte at a time) and the reference's (bits in a row) are the same.
 Lists of items, plainly; a primary's items and bytes; why it is not right.
-/
import Derived.Test.YtfgipgpbjfhflaaGreatMBundleBacka
import Init

namespace Go.Proofs.YtfgipgpbjfhflaaGreat
open Go.RowKit
set_option linter.unusedVariables false
set_option linter.unusedSimpArgs false

/-- Text; a name's item. -/
def textT (s : List UInt8) : T := T.mk 3 0 s false 0 fun _ => T.nil
def twoT (e : EV) : T := if e.sch = 2 then T.mk 4 0 [] false 2 (fun j => if j = 0 then numT e.node else numT e.svc) else if e.name = noneL then numT 0 else textT e.name
def eidT (e : EV) : T := T.mk 4 0 [] false 2 fun i => if i = 0 then numT e.sch.toNat else twoT e

set_option maxRecDepth 20000 in
set_option maxHeartbeats 800000 in
theorem eidItem_bad (sch : Int) (name : List UInt8) (node svc : Nat) (hs : Hid (name.length < 4611686018427387904)) (ho : EV.ok ⟨sch, name, node, svc⟩ = false) (w : World) :
  Calls Tryz.prog 132 #[EV.v ⟨sch, name, node, svc⟩] w (Ret (.tuple #[itemV (numT 0) none 0, .int .i64 1]) w) := by
 have K := hid (fun W => eidRight_any ⟨sch, name, node, svc⟩ hs W)
 rw [ho] at K
 have HB := hid ((Blk.new w 24 (EV.c ⟨sch, name, node, svc⟩)).alloc (.cells #[.int .i64 0, .int .u64 0, .string ⟨#[]⟩, .slice none 0 0, .bool false] 52))
 have HR : Hid (Blk ((w.alloc (.cells (EV.c ⟨sch, name, node, svc⟩) 24)).alloc (.cells #[.int .i64 0, .int .u64 0, .string ⟨#[]⟩, .slice none 0 0, .bool false] 52)) (w.heap.size + 1) 52 (itemC (numT 0) none 0)) := by
  have := Blk.new (w.alloc (.cells (EV.c ⟨sch, name, node, svc⟩) 24)) 52 (itemC (numT 0) none 0)
  unfold Hid
  simpa [itemC, numT, T.kind, T.n, T.s, T.k, T.op] using this
 have HE := hid (((Mod.refl [] w).alloc (.cells (EV.c ⟨sch, name, node, svc⟩) 24)).alloc (.cells #[.int .i64 0, .int .u64 0, .string ⟨#[]⟩, .slice none 0 0, .bool false] 52))
 go_enter Tryz.func132, Tryz.ntmps132
 go_wp2_with fail
 refine (K.out _).mono ?_
 rintro e w1 ⟨rfl, hb1⟩
 have HB1 := hid (HB.out.ext hb1)
 have HR1 := hid (HR.out.ext hb1)
 have HE1 := hid (HE.out.trans hb1)
 clear hb1 HB HR HE
 obtain ⟨c0, c1, c2, c3, c4⟩ := cells5 HR1.out
 have f0 := Blk.frozen HR1.out 0
 have f1 := Blk.frozen HR1.out 1
 have f2 := Blk.frozen HR1.out 2
 have f3 := Blk.frozen HR1.out 3
 have f4 := Blk.frozen HR1.out 4
 go_wp2_with fail
 obtain ⟨d0, d1, d2, d3, d4⟩ := cells5 (set5_blk (t := numT 0) (A := none) (c := 0) HR1.out)
 clear c0 c1 c2 c3 c4 f0 f1 f2 f3 f4
 show bodyPost _ _ _ _ _ (set5 w1 (w.heap.size + 1) (numT 0) none 0)
 refine bodyPost_ret (v := .tuple #[itemV (numT 0) none 0, .int .i64 1]) (by simp [results, Tryz.results132, go_sem, d0, d1, d2, d3, d4]) rfl ?_
 exact Ret.mk rfl (set5_mod HE1.out (by omega))

set_option maxRecDepth 20000 in
set_option maxHeartbeats 1600000 in
theorem eidItem_none (w : World) :
  Calls Tryz.prog 132 #[EV.v ⟨1, [110, 111, 110, 101], 0, 0⟩] w (fun e w' => ∃ A, e = .returned (.tuple #[itemV (eidT ⟨1, [110, 111, 110, 101], 0, 0⟩) A 2, .int .i64 0]) ∧ Ext w w' ∧ IsL w' (fun b => w.heap.size ≤ b) (eidT ⟨1, [110, 111, 110, 101], 0, 0⟩) A) := by
 have K : Hid (∀ W, Calls Tryz.prog 114 #[EV.v ⟨1, [110, 111, 110, 101], 0, 0⟩] W (Ret (.bool true) W)) := fun W => by have := eidRight_any ⟨1, [110, 111, 110, 101], 0, 0⟩ (by unfold Hid; decide) W; rw [show EV.ok ⟨1, [110, 111, 110, 101], 0, 0⟩ = true by decide] at this; exact this
 have HB := hid ((Blk.new w 24 (EV.c ⟨1, [110, 111, 110, 101], 0, 0⟩)).alloc (.cells #[.int .i64 0, .int .u64 0, .string ⟨#[]⟩, .slice none 0 0, .bool false] 52))
 have HR : Hid (Blk ((w.alloc (.cells (EV.c ⟨1, [110, 111, 110, 101], 0, 0⟩) 24)).alloc (.cells #[.int .i64 0, .int .u64 0, .string ⟨#[]⟩, .slice none 0 0, .bool false] 52)) (w.heap.size + 1) 52 (itemC (numT 0) none 0)) := by
  have := Blk.new (w.alloc (.cells (EV.c ⟨1, [110, 111, 110, 101], 0, 0⟩) 24)) 52 (itemC (numT 0) none 0)
  unfold Hid
  simpa [itemC, numT, T.kind, T.n, T.s, T.k, T.op] using this
 have HE := hid (((Mod.refl [] w).alloc (.cells (EV.c ⟨1, [110, 111, 110, 101], 0, 0⟩) 24)).alloc (.cells #[.int .i64 0, .int .u64 0, .string ⟨#[]⟩, .slice none 0 0, .bool false] 52))
 go_enter Tryz.func132, Tryz.ntmps132
 go_wp2_with fail
 refine (K.out _).mono ?_
 rintro e w1 ⟨rfl, hb1⟩
 have HB1 := hid (HB.out.ext hb1)
 have HR1 := hid (HR.out.ext hb1)
 have HE1 := hid (HE.out.trans hb1)
 clear hb1 HB HR HE
 have x0 : w1.cell? ⟨w.heap.size, 0, none⟩ = some (.int .i64 1) := HB1.out.cell 0
 have x1 : w1.cell? ⟨w.heap.size, 1, none⟩ = some (str [110, 111, 110, 101]) := HB1.out.cell 1
 go_wp2_with fail
 refine (NumI_any _ _).mono ?_
 rintro e w2 ⟨rfl, hb2⟩
 go_wp2_with fail
 refine (NumI_any _ _).mono ?_
 rintro e w3 ⟨rfl, hb3⟩
 have H13 : Hid (w1.heap.size ≤ w3.heap.size) := Nat.le_trans hb2.size hb3.size
 have HE3 := hid ((HE1.out.trans hb2).trans hb3)
 have HR3 := hid ((HR1.out.ext hb2).ext hb3)
 clear hb2 hb3 x0 x1
 go_wp2_with fail
 refine (ListV_any 2 _ 2 _).mono ?_
 rintro e w4 ⟨rfl, hb4⟩
 have HOut := hid ((Blk.new w3 52 #[.int .i64 0, .int .u64 1, str [], .slice none 0 0, .bool false, .int .i64 0, .int .u64 0, str [], .slice none 0 0, .bool false]).ext hb4)
 have HE4 := hid ((HE3.out.alloc _).trans hb4)
 have HR4 := hid ((HR3.out.alloc _).ext hb4)
 clear hb4 HE3 HR3
 obtain ⟨c0, c1, c2, c3, c4⟩ := cells5 HR4.out
 have f0 := Blk.frozen HR4.out 0
 have f1 := Blk.frozen HR4.out 1
 have f2 := Blk.frozen HR4.out 2
 have f3 := Blk.frozen HR4.out 3
 have f4 := Blk.frozen HR4.out 4
 have HTT : Hid (eidT ⟨1, [110, 111, 110, 101], 0, 0⟩ = T.mk 4 0 [] false 2 fun i => if i = 0 then numT 1 else numT 0) := rfl
 have HFin : Hid (Ext w (set5 w4 (w.heap.size + 1) (eidT ⟨1, [110, 111, 110, 101], 0, 0⟩) (some ⟨w3.heap.size, 0, none⟩) 2) ∧ Blk (set5 w4 (w.heap.size + 1) (eidT ⟨1, [110, 111, 110, 101], 0, 0⟩) (some ⟨w3.heap.size, 0, none⟩) 2) (w.heap.size + 1) 52 (itemC (eidT ⟨1, [110, 111, 110, 101], 0, 0⟩) (some ⟨w3.heap.size, 0, none⟩) 2) ∧
   IsL (set5 w4 (w.heap.size + 1) (eidT ⟨1, [110, 111, 110, 101], 0, 0⟩) (some ⟨w3.heap.size, 0, none⟩) 2) (fun b => w.heap.size ≤ b) (eidT ⟨1, [110, 111, 110, 101], 0, 0⟩) (some ⟨w3.heap.size, 0, none⟩)) := by
  have hm : Mod [w.heap.size + 1] w4 (set5 w4 (w.heap.size + 1) (eidT ⟨1, [110, 111, 110, 101], 0, 0⟩) (some ⟨w3.heap.size, 0, none⟩) 2) := set5_modb
  have hl := HR1.out.lt
  have hs3 := H13.out
  have b1 := HOut.out.mod hm (by simp; omega)
  refine ⟨set5_mod HE4.out (by omega), set5_blk HR4.out, ?_⟩
  rw [HTT.out] at b1 ⊢
  refine fun _ => ⟨w3.heap.size, 0, rfl, b1.lt, (show w.heap.size ≤ w3.heap.size by omega), fun i hi => ?_⟩
  have hi2 : i = 0 ∨ i = 1 := by omega
  rcases hi2 with rfl | rfl
  · exact ⟨none, 0, ⟨b1.cell 0, b1.cell 1, b1.cell 2, b1.cell 3, b1.cell 4⟩, fun h => absurd h (by decide)⟩
  · exact ⟨none, 0, ⟨b1.cell 5, b1.cell 6, b1.cell 7, b1.cell 8, b1.cell 9⟩, fun h => absurd h (by decide)⟩
 obtain ⟨d0, d1, d2, d3, d4⟩ := cells5 HFin.out.2.1
 go_wp2_with fail
 show bodyPost _ _ _ _ _ (set5 w4 (w.heap.size + 1) (eidT ⟨1, [110, 111, 110, 101], 0, 0⟩) (some ⟨w3.heap.size, 0, none⟩) 2)
 refine bodyPost_ret (v := .tuple #[itemV (eidT ⟨1, [110, 111, 110, 101], 0, 0⟩) (some ⟨w3.heap.size, 0, none⟩) 2, .int .i64 0]) (by simp [results, Tryz.results132, go_sem, d0, d1, d2, d3, d4]) rfl ?_
 exact ⟨_, rfl, HFin.out.1, HFin.out.2.2⟩

set_option maxRecDepth 20000 in
set_option maxHeartbeats 1600000 in
theorem eidItem_dtn (name : List UInt8) (hs : Hid (name.length < 4611686018427387904)) (hn : name ≠ [110, 111, 110, 101]) (ho : EV.ok ⟨1, name, 0, 0⟩ = true) (w : World) :
  Calls Tryz.prog 132 #[EV.v ⟨1, name, 0, 0⟩] w (fun e w' => ∃ A, e = .returned (.tuple #[itemV (eidT ⟨1, name, 0, 0⟩) A 2, .int .i64 0]) ∧ Ext w w' ∧ IsL w' (fun b => w.heap.size ≤ b) (eidT ⟨1, name, 0, 0⟩) A) := by
 have K : Hid (∀ W, Calls Tryz.prog 114 #[EV.v ⟨1, name, 0, 0⟩] W (Ret (.bool true) W)) := fun W => by have := eidRight_any ⟨1, name, 0, 0⟩ hs W; rw [ho] at this; exact this
 have hnn : Hid (¬ name = noneL) := hn
 have n1 : (name == [110, 111, 110, 101]) = false := by simpa using hn
 have n2 : (name = [110, 111, 110, 101]) = False := by simpa using hn
 clear hn
 have HB := hid ((Blk.new w 24 (EV.c ⟨1, name, 0, 0⟩)).alloc (.cells #[.int .i64 0, .int .u64 0, .string ⟨#[]⟩, .slice none 0 0, .bool false] 52))
 have HR : Hid (Blk ((w.alloc (.cells (EV.c ⟨1, name, 0, 0⟩) 24)).alloc (.cells #[.int .i64 0, .int .u64 0, .string ⟨#[]⟩, .slice none 0 0, .bool false] 52)) (w.heap.size + 1) 52 (itemC (numT 0) none 0)) := by
  have := Blk.new (w.alloc (.cells (EV.c ⟨1, name, 0, 0⟩) 24)) 52 (itemC (numT 0) none 0)
  unfold Hid
  simpa [itemC, numT, T.kind, T.n, T.s, T.k, T.op] using this
 have HE := hid (((Mod.refl [] w).alloc (.cells (EV.c ⟨1, name, 0, 0⟩) 24)).alloc (.cells #[.int .i64 0, .int .u64 0, .string ⟨#[]⟩, .slice none 0 0, .bool false] 52))
 go_enter Tryz.func132, Tryz.ntmps132
 go_wp2_with fail
 refine (K.out _).mono ?_
 rintro e w1 ⟨rfl, hb1⟩
 have HB1 := hid (HB.out.ext hb1)
 have HR1 := hid (HR.out.ext hb1)
 have HE1 := hid (HE.out.trans hb1)
 clear hb1 HB HR HE
 have x0 : w1.cell? ⟨w.heap.size, 0, none⟩ = some (.int .i64 1) := HB1.out.cell 0
 have x1 : w1.cell? ⟨w.heap.size, 1, none⟩ = some (str name) := HB1.out.cell 1
 have HS : Hid (∀ w', Ext w1 w' → w'.cell? ⟨w.heap.size, 0, none⟩ = some (.int .i64 1) ∧ w'.cell? ⟨w.heap.size, 1, none⟩ = some (str name)) := fun W hW => ⟨(HB1.out.ext hW).cell 0, (HB1.out.ext hW).cell 1⟩
 obtain ⟨c0, c1, c2, c3, c4⟩ := cells5 HR1.out
 have f0 := Blk.frozen HR1.out 0
 have f1 := Blk.frozen HR1.out 1
 have f2 := Blk.frozen HR1.out 2
 have f3 := Blk.frozen HR1.out 3
 have f4 := Blk.frozen HR1.out 4
 go_upto_region 7 with fail
 go_region_held3 (fun w' => w'.cell? ⟨w.heap.size, 0, none⟩ = some (.int .i64 1) ∧ w'.cell? ⟨w.heap.size, 1, none⟩ = some (str name)) (go_keep)
  (first
   | (go_at_call 57; refine (NumI_any _ _).mono ?_; rintro x w3 ⟨rfl, hb3⟩; have hx : Ext w1 w3 := (by (with_reducible refine Mod.trans ?_ hb3); (repeat (first | with_reducible assumption | with_reducible exact Mod.refl _ _ | with_reducible refine Mod.drew ?_ | with_reducible refine Mod.alloc ?_ _))); have z := HS.out w3 hx; have H13 : Hid (w1.heap.size ≤ w3.heap.size) := hx.size)
   | (go_at_call 67; refine (ListV_any 2 _ 2 _).mono ?_; rintro x w4 ⟨rfl, hb4⟩; have hx : Ext w1 w4 := (by (with_reducible refine Mod.trans ?_ hb4); (repeat (first | with_reducible assumption | with_reducible exact Mod.refl _ _ | with_reducible refine Mod.drew ?_ | with_reducible refine Mod.alloc ?_ _))); have z := HS.out w4 hx; have HOut := hid ((Blk.new _ _ _).ext hb4); have HR4 := hid (HR1.out.ext hx); have HE4 := hid (HE1.out.trans hx); obtain ⟨g0, g1, g2, g3, g4⟩ := cells5 HR4.out; have f0 := Blk.frozen HR4.out 0; have f1 := Blk.frozen HR4.out 1; have f2 := Blk.frozen HR4.out 2; have f3 := Blk.frozen HR4.out 3; have f4 := Blk.frozen HR4.out 4))
 have HTT : Hid (eidT ⟨1, name, 0, 0⟩ = T.mk 4 0 [] false 2 fun i => if i = 0 then numT 1 else textT name) := by unfold Hid eidT twoT; simp only []; rw [if_neg (by decide), if_neg hnn.out]; rfl
 have HFin : Hid (Ext w (set5 w4 (w.heap.size + 1) (eidT ⟨1, name, 0, 0⟩) (some ⟨w3.heap.size, 0, none⟩) 2) ∧ Blk (set5 w4 (w.heap.size + 1) (eidT ⟨1, name, 0, 0⟩) (some ⟨w3.heap.size, 0, none⟩) 2) (w.heap.size + 1) 52 (itemC (eidT ⟨1, name, 0, 0⟩) (some ⟨w3.heap.size, 0, none⟩) 2) ∧
   IsL (set5 w4 (w.heap.size + 1) (eidT ⟨1, name, 0, 0⟩) (some ⟨w3.heap.size, 0, none⟩) 2) (fun b => w.heap.size ≤ b) (eidT ⟨1, name, 0, 0⟩) (some ⟨w3.heap.size, 0, none⟩)) := by
  have hm : Mod [w.heap.size + 1] w4 (set5 w4 (w.heap.size + 1) (eidT ⟨1, name, 0, 0⟩) (some ⟨w3.heap.size, 0, none⟩) 2) := set5_modb
  have hl := HR1.out.lt
  have hs3 := H13.out
  have b1 := HOut.out.mod hm (by simp; omega)
  refine ⟨set5_mod HE4.out (by omega), set5_blk HR4.out, ?_⟩
  rw [HTT.out] at b1 ⊢
  refine fun _ => ⟨w3.heap.size, 0, rfl, b1.lt, (show w.heap.size ≤ w3.heap.size by omega), fun i hi => ?_⟩
  have hi2 : i = 0 ∨ i = 1 := by omega
  rcases hi2 with rfl | rfl
  · exact ⟨none, 0, ⟨b1.cell 0, b1.cell 1, b1.cell 2, b1.cell 3, b1.cell 4⟩, fun h => absurd h (by decide)⟩
  · exact ⟨none, 0, ⟨b1.cell 5, b1.cell 6, b1.cell 7, b1.cell 8, b1.cell 9⟩, fun h => absurd h (by decide)⟩
 obtain ⟨d0, d1, d2, d3, d4⟩ := cells5 HFin.out.2.1
 go_wp2_with fail
 show bodyPost _ _ _ _ _ (set5 w4 (w.heap.size + 1) (eidT ⟨1, name, 0, 0⟩) (some ⟨w3.heap.size, 0, none⟩) 2)
 refine bodyPost_ret (v := .tuple #[itemV (eidT ⟨1, name, 0, 0⟩) (some ⟨w3.heap.size, 0, none⟩) 2, .int .i64 0]) (by simp [results, Tryz.results132, go_sem, d0, d1, d2, d3, d4]) rfl ?_
 exact ⟨_, rfl, HFin.out.1, HFin.out.2.2⟩
end Go.Proofs.YtfgipgpbjfhflaaGreat


namespace Go.Proofs.YtfgipgpbjfhflaaGreat
open Go.RowKit
set_option linter.unusedVariables false
set_option linter.unusedSimpArgs false

def lettersL : List UInt8 := [97, 98, 99, 100, 101, 102, 103, 104, 105, 106, 107, 108, 109, 110, 111, 112, 113, 114, 115, 116, 117, 118, 119, 120, 121, 122, 48, 49, 50, 51, 52, 53, 54, 55, 56, 57, 45, 46]
theorem lett_mem_n : ∀ n : Fin 256, lett (UInt8.ofNat n.val) = lettersL.contains (UInt8.ofNat n.val) := by decide +kernel
theorem lett_mem (c : UInt8) : lett c = lettersL.contains c := by
 have := lett_mem_n ⟨c.toNat, c.toNat_lt⟩
 simpa using this
set_option maxHeartbeats 800000 in
theorem letter_any (c : UInt8) (w : World) : Calls Tryz.prog 39 #[.int .u8 (c.toNat : Int)] w (Ret (.bool (lett c)) w) := by
 rw [lett_mem]
 obtain ⟨B, hB⟩ : ∃ B, lettersL.contains c = B := ⟨_, rfl⟩
 rw [hB]
 have HB : Hid ((lettersL.drop 0).contains c = B) := hB
 clear hB
 go_enter Tryz.func39, Tryz.ntmps39
 go_wp2_with fail
 go_loop [3] (fun i => ∃ j : Nat, j ≤ 38 ∧ i = .int .i64 j ∧ Hid ((lettersL.drop j).contains c = B)) (fun i => 38 - (intOf i).toNat)
 case atStart => exact ⟨0, Nat.zero_le _, rfl, HB⟩
 case round =>
  obtain ⟨j, hj, rfl, HP⟩ := hrel
  by_cases hlt : j < 38
  ·
   have hlt2 : j < lettersL.length := hlt
   have hdr : lettersL.drop j = lettersL[j] :: lettersL.drop (j + 1) := List.drop_eq_getElem_cons hlt2
   rw [hdr] at HP
   by_cases hx : lettersL[j] = c
   ·
    have q : ((((({ data := #[97, 98, 99, 100, 101, 102, 103, 104, 105, 106, 107, 108, 109, 110, 111, 112, 113, 114, 115, 116, 117, 118, 119, 120, 121, 122, 48, 49, 50, 51, 52, 53, 54, 55, 56, 57, 45, 46] } : ByteArray)[j]'hlt)).toNat : Int) == (c.toNat : Int)) = true := by show (((lettersL[j]).toNat : Int) == _) = true; simp [hx]
    have HT : Hid (true = B) := by have := HP.out; rw [hx, List.contains_cons] at this; rw [← this]; unfold Hid; simp
    clear HP hdr hx
    go_wp2_with fail
    go_ret
    exact Ret.mk (by rw [← HT.out]; rfl) (Mod.refl _ _)
   ·
    have hn : ¬ (lettersL[j]).toNat = c.toNat := fun h => hx (UInt8.toNat_inj.1 h)
    have q : ((((({ data := #[97, 98, 99, 100, 101, 102, 103, 104, 105, 106, 107, 108, 109, 110, 111, 112, 113, 114, 115, 116, 117, 118, 119, 120, 121, 122, 48, 49, 50, 51, 52, 53, 54, 55, 56, 57, 45, 46] } : ByteArray)[j]'hlt)).toNat : Int) == (c.toNat : Int)) = false := by show (((lettersL[j]).toNat : Int) == _) = false; simp; omega
    have HT : Hid ((lettersL.drop (j + 1)).contains c = B) := by have := HP.out; rw [List.contains_cons] at this; have h2 : (c == lettersL[j]) = false := (by simpa using Ne.symm hx); rw [h2, Bool.false_or] at this; exact this
    clear HP hdr hx hn
    go_wp2_with fail
    go_round
    case rel => exact ⟨j + 1, by omega, by go_num, HT⟩
    case measure => simp [intOf]; omega
  ·
   obtain rfl : j = 38 := by omega
   have HT : Hid (false = B) := HP
   clear HP
   go_wp2_with fail
   go_ret
   exact Ret.mk (by rw [← HT.out]; rfl) (Mod.refl _ _)

set_option maxHeartbeats 800000 in
theorem slash_any (s : List UInt8) (hs : Hid (s.length < 4611686018427387904)) (w : World) : Calls Tryz.prog 38 #[str s] w (Ret (.int .i64 (slash s : Nat)) w) := by
 obtain ⟨B, hB⟩ : ∃ B, slash s = B := ⟨_, rfl⟩
 rw [hB]
 have HB : Hid (slashA (s.drop 2) 2 = B) := hB
 clear hB
 go_enter Tryz.func38, Tryz.ntmps38
 go_wp2_with fail
 have hs2 := hs.out
 by_cases hl : s.length < 2
 ·
  have HT : Hid (0 = B) := by have := HB.out; rw [List.drop_eq_nil_of_le (by omega)] at this; exact this
  go_loop [3] (fun i => i = .int .i64 2) (fun i => 0)
  case atStart => rfl
  case round =>
   subst hrel
   go_wp2_with fail
   go_ret
   exact Ret.mk (by rw [← HT.out]; rfl) (Mod.refl _ _)
 go_loop [3] (fun i => ∃ j : Nat, 2 ≤ j ∧ j ≤ s.length ∧ i = .int .i64 j ∧ Hid (slashA (s.drop j) j = B)) (fun i => s.length - (intOf i).toNat)
 case atStart => exact ⟨2, Nat.le_refl _, by omega, rfl, HB⟩
 case round =>
  obtain ⟨j, hj2, hj, rfl, HP⟩ := hrel
  by_cases hlt : j < s.length
  ·
   have hdr : s.drop j = s[j] :: s.drop (j + 1) := List.drop_eq_getElem_cons hlt
   rw [hdr, slashA] at HP
   clear hdr
   by_cases hx : (s[j]).toNat = 47
   ·
    have q : ((((⟨s.toArray⟩ : ByteArray)[j]'hlt).toNat : Int) == 47) = true := by show (((s[j]).toNat : Int) == 47) = true; simp; omega
    have q2 : ((((⟨s.toArray⟩ : ByteArray)[j]'hlt).toNat : Int) = 47) = True := by show (((s[j]).toNat : Int) = 47) = True; simp; omega
    have HT : Hid (j = B) := by have := HP.out; rw [if_pos hx] at this; exact this
    clear HP hx
    go_wp2_with fail
    go_ret
    exact Ret.mk (by rw [← HT.out]; rfl) (Mod.refl _ _)
   ·
    have q : ((((⟨s.toArray⟩ : ByteArray)[j]'hlt).toNat : Int) == 47) = false := by show (((s[j]).toNat : Int) == 47) = false; simp; omega
    have q2 : ((((⟨s.toArray⟩ : ByteArray)[j]'hlt).toNat : Int) = 47) = False := by show (((s[j]).toNat : Int) = 47) = False; simp; omega
    have HT : Hid (slashA (s.drop (j + 1)) (j + 1) = B) := by have := HP.out; rw [if_neg hx] at this; exact this
    clear HP hx
    go_wp2_with fail
    go_round
    case rel => exact ⟨j + 1, by omega, by omega, by go_num, HT⟩
    case measure => simp [intOf]; omega
  ·
   obtain rfl : j = s.length := by omega
   have HT : Hid (0 = B) := by have := HP.out; rw [List.drop_length] at this; exact this
   clear HP
   go_wp2_with fail
   go_ret
   exact Ret.mk (by rw [← HT.out]; rfl) (Mod.refl _ _)
end Go.Proofs.YtfgipgpbjfhflaaGreat


namespace Go.Proofs.YtfgipgpbjfhflaaGreat
open Go.RowKit
set_option linter.unusedVariables false
set_option linter.unusedSimpArgs false

def rightCases (node svc : Nat) (name : List UInt8) : Bool := decide (name = []) && decide (node ≤ 4294967295) && decide (svc ≤ 4294967295)
set_option maxRecDepth 20000 in
set_option maxHeartbeats 800000 in
theorem r10_two (name : List UInt8) (node svc : Nat) (w : World) : Calls Tryz.prog 25 #[EV.v ⟨2, name, node, svc⟩] w (Ret (.bool (rightCases node svc name)) w) := by
 unfold rightCases
 by_cases hn : name = []
 ·
  subst hn
  by_cases ha : node ≤ 4294967295
  ·
   have t1 : decide ((node : Int) ≤ 4294967295) = true := by simp; omega
   by_cases hb : svc ≤ 4294967295
   ·
    have t2 : decide ((svc : Int) ≤ 4294967295) = true := by simp; omega
    have hr : (decide (([] : List UInt8) = []) && decide (node ≤ 4294967295) && decide (svc ≤ 4294967295)) = true := by simp [ha, hb]
    rw [hr]
    clear hr ha hb
    go_enter Tryz.func25, Tryz.ntmps25
    go_wp2_with fail
    go_ret
    exact Ret.mk rfl ((Mod.refl _ _).alloc _)
   ·
    have t2 : decide ((svc : Int) ≤ 4294967295) = false := by simp; omega
    have hr : (decide (([] : List UInt8) = []) && decide (node ≤ 4294967295) && decide (svc ≤ 4294967295)) = false := by simp [hb]
    rw [hr]
    clear hr ha hb
    go_enter Tryz.func25, Tryz.ntmps25
    go_wp2_with fail
    go_ret
    exact Ret.mk rfl ((Mod.refl _ _).alloc _)
  ·
   have t1 : decide ((node : Int) ≤ 4294967295) = false := by simp; omega
   have hr : (decide (([] : List UInt8) = []) && decide (node ≤ 4294967295) && decide (svc ≤ 4294967295)) = false := by simp [ha]
   rw [hr]
   clear hr ha
   go_enter Tryz.func25, Tryz.ntmps25
   go_wp2_with fail
   go_ret
   exact Ret.mk rfl ((Mod.refl _ _).alloc _)
 ·
  have n1 : (name == []) = false := by simpa using hn
  have n2 : (name = []) = False := by simpa using hn
  have n3 : name.isEmpty = false := by simpa using hn
  have hr : (decide (name = []) && decide (node ≤ 4294967295) && decide (svc ≤ 4294967295)) = false := by simp [hn]
  rw [hr]
  clear hr hn
  go_enter Tryz.func25, Tryz.ntmps25
  go_wp2_with fail
  go_ret
  exact Ret.mk rfl ((Mod.refl _ _).alloc _)
set_option maxRecDepth 20000 in
theorem r10_none (w : World) : Calls Tryz.prog 25 #[EV.v ⟨1, [110, 111, 110, 101], 0, 0⟩] w (Ret (.bool true) w) := by
 go_enter Tryz.func25, Tryz.ntmps25
 go_wp2_with fail
 go_ret
 exact Ret.mk rfl ((Mod.refl _ _).alloc _)
set_option maxRecDepth 20000 in
theorem r10_sch (sch : Int) (name : List UInt8) (node svc : Nat) (h2 : sch ≠ 2) (h1 : sch ≠ 1) (w : World) : Calls Tryz.prog 25 #[EV.v ⟨sch, name, node, svc⟩] w (Ret (.bool false) w) := by
 have s1 : (sch = 1) = False := by simp [h1]
 have s2 : (sch == 1) = false := by simp [h1]
 have s3 : (sch = 2) = False := by simp [h2]
 have s4 : (sch == 2) = false := by simp [h2]
 have s5 : (sch != 1) = true := by simp [h1]
 clear h1 h2
 go_enter Tryz.func25, Tryz.ntmps25
 go_wp2_with fail
 go_ret
 exact Ret.mk rfl ((Mod.refl _ _).alloc _)
set_option maxRecDepth 20000 in
theorem r10_node (name : List UInt8) (node svc : Nat) (h : node ≠ 0) (w : World) : Calls Tryz.prog 25 #[EV.v ⟨1, name, node, svc⟩] w (Ret (.bool false) w) := by
 have z1 : ((node : Int) == 0) = false := by simp; omega
 have z2 : ((node : Int) = 0) = False := by simp; omega
 have z3 : ((node : Int) != 0) = true := by simp; omega
 clear h
 go_enter Tryz.func25, Tryz.ntmps25
 go_wp2_with fail
 go_ret
 exact Ret.mk rfl ((Mod.refl _ _).alloc _)
set_option maxRecDepth 20000 in
theorem r10_svc (name : List UInt8) (svc : Nat) (h : svc ≠ 0) (w : World) : Calls Tryz.prog 25 #[EV.v ⟨1, name, 0, svc⟩] w (Ret (.bool false) w) := by
 have z1 : ((svc : Int) == 0) = false := by simp; omega
 have z2 : ((svc : Int) = 0) = False := by simp; omega
 have z3 : ((svc : Int) != 0) = true := by simp; omega
 clear h
 go_enter Tryz.func25, Tryz.ntmps25
 go_wp2_with fail
 go_ret
 exact Ret.mk rfl ((Mod.refl _ _).alloc _)
set_option maxRecDepth 20000 in
theorem r10_long (name : List UInt8) (h : 60 < name.length) (w : World) : Calls Tryz.prog 25 #[EV.v ⟨1, name, 0, 0⟩] w (Ret (.bool false) w) := by
 have t1 : decide (60 < (name.length : Int)) = true := by simp; omega
 clear h
 go_enter Tryz.func25, Tryz.ntmps25
 go_wp2_with fail
 go_ret
 exact Ret.mk rfl ((Mod.refl _ _).alloc _)
set_option maxRecDepth 20000 in
set_option maxHeartbeats 1600000 in
theorem r10_name (name : List UInt8) (h60 : name.length ≤ 60) (hn : name ≠ [110, 111, 110, 101]) (w : World) : Calls Tryz.prog 25 #[EV.v ⟨1, name, 0, 0⟩] w (Ret (.bool (if slash name < 3 ∨ name.take 2 ≠ [47, 47] then false else goodA (slash name) (name.drop 2) 2)) w) := by
 have t1 : decide (60 < (name.length : Int)) = false := by simp; omega
 have n1 : (name == [110, 111, 110, 101]) = false := by simpa using hn
 have n2 : (name = [110, 111, 110, 101]) = False := by simpa using hn
 have K := hid (fun W => slash_any name (by unfold Hid; omega) W)
 have HE := hid ((Mod.refl [] w).alloc (.cells (EV.c ⟨1, name, 0, 0⟩) 24))
 have HB := hid (Blk.new w 24 (EV.c ⟨1, name, 0, 0⟩))
 have hsl : slash name = 0 ∨ 2 ≤ slash name := slashA_ge _ _
 by_cases h3 : slash name < 3
 ·
  have t2 : decide ((slash name : Int) < 3) = true := by simp; omega
  rw [if_pos (Or.inl h3)]
  clear hn h60 h3 hsl
  generalize slash name = k at *
  go_enter Tryz.func25, Tryz.ntmps25
  go_wp2_with fail
  refine (K.out _).mono ?_
  rintro e w1 ⟨rfl, hb1⟩
  have HE1 := hid (HE.out.trans hb1)
  clear hb1
  go_wp2_with fail
  go_ret
  exact Ret.mk rfl HE1.out
 have t2 : decide ((slash name : Int) < 3) = false := by simp; omega
 have hl2 : 2 ≤ name.length := by
  rcases Nat.lt_or_ge name.length 2 with hl | hl
  ·
   exfalso
   apply h3
   unfold slash
   rw [List.drop_eq_nil_of_le (by omega)]
   decide
  · exact hl
 have hx : ((⟨name.toArray⟩ : ByteArray).extract 0 2) = ⟨(name.take 2).toArray⟩ := by rw [ext0, List.drop_zero]
 by_cases ht : name.take 2 = [47, 47]
 case neg =>
  rw [if_pos (Or.inr ht)]
  have m1 : (name.take 2 == [47, 47]) = false := by simpa using ht
  have m2 : (name.take 2 = [47, 47]) = False := by simpa using ht
  clear hn h3 hsl ht
  generalize slash name = k at *
  generalize name.take 2 = p at *
  go_enter Tryz.func25, Tryz.ntmps25
  go_wp2_with fail
  refine (K.out _).mono ?_
  rintro e w1 ⟨rfl, hb1⟩
  have HE1 := hid (HE.out.trans hb1)
  have c1 : w1.cell? ⟨w.heap.size, 1, none⟩ = some (str name) := (HB.out.ext hb1).cell 1
  clear hb1
  go_wp2_with fail
  go_ret
  exact Ret.mk rfl HE1.out
 rw [if_neg (by intro h; rcases h with h | h; exact h3 h; exact h ht)]
 rw [ht] at hx
 obtain ⟨B, hB⟩ : ∃ B, goodA (slash name) (name.drop 2) 2 = B := ⟨_, rfl⟩
 rw [hB]
 have HG := hid hB
 clear hB hn h3 hsl ht
 generalize slash name = k at *
 go_enter Tryz.func25, Tryz.ntmps25
 go_wp2_with fail
 refine (K.out _).mono ?_
 rintro e w1 ⟨rfl, hb1⟩
 have HE1 := hid (HE.out.trans hb1)
 have HB1 := hid (HB.out.ext hb1)
 have c1 : w1.cell? ⟨w.heap.size, 1, none⟩ = some (str name) := HB1.out.cell 1
 clear hb1
 go_wp2_with fail
 have HW1 : Hid (Ext w w1 ∧ w1.cell? ⟨w.heap.size, 1, none⟩ = some (str name) ∧ w.heap.size < w1.heap.size) := ⟨HE1.out, c1, HB1.out.lt⟩
 clear HE HB HE1 HB1 c1
 go_loopw [4] (fun i wr => ∃ j : Nat, 2 ≤ j ∧ j ≤ name.length ∧ i = .int .i64 j ∧ Hid (goodA k (name.drop j) j = B) ∧ Hid (Ext w wr ∧ wr.cell? ⟨w.heap.size, 1, none⟩ = some (str name) ∧ w.heap.size < wr.heap.size)) (fun i _ => name.length - (intOf i).toNat)
 case atStart => exact ⟨2, Nat.le_refl _, hl2, rfl, HG, HW1⟩
 case round =>
  obtain ⟨j, hj2, hj, rfl, HP, HW⟩ := hrel
  have c1 := HW.out.2.1
  by_cases hlt : j < name.length
  ·
   have hdr : name.drop j = name[j] :: name.drop (j + 1) := List.drop_eq_getElem_cons hlt
   rw [hdr, goodA] at HP
   clear hdr
   by_cases hjk : j < k
   ·
    have u1 : decide (j < k) = true := by simp; omega
    have u2 : decide (k < j) = false := by simp; omega
    have KL := hid (fun W => letter_any (name[j]) W)
    by_cases hl : lett name[j] = true
    ·
     have HN : Hid (goodA k (name.drop (j + 1)) (j + 1) = B) := hid (by have := HP.out; simpa [hjk, hl, show ¬ k < j by omega] using this)
     rw [hl] at KL
     clear HP hl hjk
     go_wp2_with fail
     refine (KL.out _).mono ?_
     rintro e w2 ⟨rfl, hb2⟩
     have HW2 : Hid (Ext w w2 ∧ w2.cell? ⟨w.heap.size, 1, none⟩ = some (str name) ∧ w.heap.size < w2.heap.size) := ⟨HW.out.1.trans hb2, (hb2.cell HW.out.2.2 (by simp)).trans HW.out.2.1, Nat.lt_of_lt_of_le HW.out.2.2 hb2.size⟩
     clear hb2 c1
     go_wp2_with fail
     go_roundw
     case rel => exact ⟨j + 1, by omega, by omega, by go_num, HN, HW2⟩
     case measure => simp [intOf]; omega
    ·
     have hl2 : lett name[j] = false := by simpa using hl
     have HN : Hid (false = B) := hid (by have := HP.out; simpa [hjk, hl2] using this)
     rw [hl2] at KL
     clear HP hl hl2 hjk
     go_wp2_with fail
     refine (KL.out _).mono ?_
     rintro e w2 ⟨rfl, hb2⟩
     go_wp2_with fail
     go_ret
     exact Ret.mk (by rw [← HN.out]; rfl) (HW.out.1.trans hb2)
   ·
    have u1 : decide (j < k) = false := by simp; omega
    by_cases hkj : k < j
    ·
     have u2 : decide (k < j) = true := by simp; omega
     have hx8 := (name[j]).toNat_lt
     by_cases hp : prin name[j] = true
     ·
      have HN : Hid (goodA k (name.drop (j + 1)) (j + 1) = B) := hid (by have := HP.out; simpa [hjk, hkj, hp] using this)
      have hp2 : 33 ≤ (name[j]).toNat ∧ (name[j]).toNat ≤ 126 := by simpa [prin] using hp
      have v1 : decide ((((⟨name.toArray⟩ : ByteArray)[j]'hlt).toNat : Int) < 33) = false := by show decide (((name[j]).toNat : Int) < 33) = false; simp; omega
      have v2 : decide (126 < (((⟨name.toArray⟩ : ByteArray)[j]'hlt).toNat : Int)) = false := by show decide (126 < ((name[j]).toNat : Int)) = false; simp; omega
      clear HP hp hp2 hjk hkj hx8
      go_wp2_with fail
      go_roundw
      case rel => exact ⟨j + 1, by omega, by omega, by go_num, HN, HW⟩
      case measure => simp [intOf]; omega
     ·
      have hp1 : prin name[j] = false := by simpa using hp
      have HN : Hid (false = B) := hid (by have := HP.out; simpa [hjk, hkj, hp1] using this)
      have hp2 : ¬ (33 ≤ (name[j]).toNat ∧ (name[j]).toNat ≤ 126) := by simpa [prin] using hp
      by_cases h33 : (name[j]).toNat < 33
      ·
       have v1 : decide ((((⟨name.toArray⟩ : ByteArray)[j]'hlt).toNat : Int) < 33) = true := by show decide (((name[j]).toNat : Int) < 33) = true; simp; omega
       clear HP hp hp1 hp2 hjk hkj hx8 h33
       go_wp2_with fail
       go_ret
       exact Ret.mk (by rw [← HN.out]; rfl) HW.out.1
      ·
       have v1 : decide ((((⟨name.toArray⟩ : ByteArray)[j]'hlt).toNat : Int) < 33) = false := by show decide (((name[j]).toNat : Int) < 33) = false; simp; omega
       have v2 : decide (126 < (((⟨name.toArray⟩ : ByteArray)[j]'hlt).toNat : Int)) = true := by show decide (126 < ((name[j]).toNat : Int)) = true; simp; omega
       clear HP hp hp1 hp2 hjk hkj hx8 h33
       go_wp2_with fail
       go_ret
       exact Ret.mk (by rw [← HN.out]; rfl) HW.out.1
    ·
     have u2 : decide (k < j) = false := by simp; omega
     have HN : Hid (goodA k (name.drop (j + 1)) (j + 1) = B) := hid (by have := HP.out; simpa [hjk, hkj] using this)
     clear HP hjk hkj
     go_wp2_with fail
     go_roundw
     case rel => exact ⟨j + 1, by omega, by omega, by go_num, HN, HW⟩
     case measure => simp [intOf]; omega
  ·
   obtain rfl : j = name.length := by omega
   have HN : Hid (true = B) := by have := HP.out; rw [List.drop_length] at this; exact this
   clear HP
   go_wp2_with fail
   go_ret
   exact Ret.mk (by rw [← HN.out]; rfl) HW.out.1
theorem r10_any (e : EV) (w : World) : Calls Tryz.prog 25 #[e.v] w (Ret (.bool e.ok) w) := by
 rw [← EV.ok_eq]
 obtain ⟨sch, name, node, svc⟩ := e
 unfold EV.okR
 simp only []
 by_cases h2 : sch = 2
 · subst h2; rw [if_pos rfl]; exact r10_two name node svc w
 rw [if_neg h2]
 by_cases h1 : sch = 1
 case neg => rw [if_pos (Or.inl h1)]; exact r10_sch sch name node svc h2 h1 w
 subst h1
 by_cases hn : node = 0
 case neg => rw [if_pos (by omega)]; exact r10_node name node svc hn w
 subst hn
 by_cases hv : svc = 0
 case neg => rw [if_pos (by omega)]; exact r10_svc name svc hv w
 subst hv
 by_cases hl : 60 < name.length
 · rw [if_pos (by omega)]; exact r10_long name hl w
 rw [if_neg (by omega)]
 by_cases h0 : name = noneL
 · rw [if_pos h0]; subst h0; exact r10_none w
 rw [if_neg h0]
 exact r10_name name (by omega) h0 w
end Go.Proofs.YtfgipgpbjfhflaaGreat


namespace Go.Proofs.YtfgipgpbjfhflaaGreat
open Go.RowKit
set_option linter.unusedVariables false
set_option linter.unusedSimpArgs false

end Go.Proofs.YtfgipgpbjfhflaaGreat


namespace Go.Proofs.YtfgipgpbjfhflaaGreat
open Go.RowKit
set_option linter.unusedVariables false
set_option linter.unusedSimpArgs false

theorem be_step (n k j i : Nat) (h : i ≠ j) : (if i < j then beC n k i else 0) = (if i < j + 1 then beC n k i else 0) := by
 by_cases e : i < j
 · rw [if_pos e, if_pos (by omega)]
 · rw [if_neg e, if_neg (by omega)]
theorem rel_step {wr : World} {b t n k j : Nat} (h : wr.rowIs b t k (fun a => .int .u8 ((if a < j then beC n k a else 0 : Nat) : Int))) :
  (wr.setCell ⟨b, j, none⟩ (.int .u8 ((beC n k j : Nat) : Int))).rowIs b t k (fun a => .int .u8 ((if a < j + 1 then beC n k a else 0 : Nat) : Int)) := by
 refine (h.set j _).congr ?_
 intro i hi
 by_cases e : i = j
 · subst e; simp
 · rw [if_neg e, be_step n k j i e]

theorem infoByte : (Tryz.prog.info? 5).map (fun i => (i.zero, i.size, i.bytes)) = some (some (.int .u8 0), 1, 1) := by kernel_rfl

set_option maxHeartbeats 400000 in
theorem spread_uint8_n (n : Nat) (hn : n < 256) (k : Nat) (hk : k ≤ 8) (w : World) :
  Calls Tryz.prog 127 #[.int .u8 n, .int .i64 k] w (Ret (str (be n k)) w) := by
 have hmk := run_make_row' (P := Tryz.prog) 77 5 (.int .u8 0) 1 Tryz.underlying77 infoByte rfl .i64 .i64 k (by omega) (by omega)
 go_enter Tryz.func127, Tryz.ntmps127
 go_wp2
 go_loopw [11] (fun i wr => ∃ j : Nat, j ≤ k ∧ i = .int .i64 j ∧ Ext w wr ∧ wr.rowIs w.heap.size 5 k (fun a => .int .u8 ((if a < j then beC n k a else 0 : Nat) : Int))) (fun i _ => k - (intOf i).toNat)
 case atStart => exact ⟨0, Nat.zero_le _, rfl, (Mod.refl _ _).alloc _, (World.rowIs_made w _ k 5).congr (by intros; simp)⟩
 case round =>
  obtain ⟨j, hj, rfl, hb, hrow⟩ := hrel
  by_cases hlt : j < k
  ·
   have hcell : wr.cell? ⟨w.heap.size, j, none⟩ = some (.int .u8 0) := by simpa using hrow.cell hlt
   have hfr := hrow.frozen j
   go_wp2
   go_roundw
   case rel => exact ⟨j + 1, by omega, by go_num, hb.setCell (.inr (Nat.le_refl _)) _, by simpa [beC] using rel_step hrow⟩
   case measure => simp [intOf]; omega
  ·
   obtain rfl : j = k := by omega
   have hrow2 := hrow.congr (g := fun a => .int .u8 ((beC n j a : Nat) : Int)) (fun i hi => by simp [hi])
   have hconv := run_row_string (P := Tryz.prog) wr 77 9 5 Tryz.underlying77 Tryz.underlying5 Tryz.underlying9 _ _ _ j _ hrow2
   clear hrow hrow2
   go_wp2
   go_ret
   exact ⟨rfl, hb⟩
theorem spread_uint8 (x k : Int) (hx : 0 ≤ x) (hx1 : x < 256) (hk : 0 ≤ k) (hk8 : k ≤ 8) (w : World) :
  Calls Tryz.prog 127 #[.int .u8 x, .int .i64 k] w (Ret (str (be x.toNat k.toNat)) w) := by
 obtain ⟨n, rfl⟩ := Int.eq_ofNat_of_zero_le hx
 obtain ⟨k, rfl⟩ := Int.eq_ofNat_of_zero_le hk
 exact spread_uint8_n n (by omega) k (by omega) w

set_option maxHeartbeats 400000 in
theorem spread_uint16_n (n : Nat) (hn : n < 65536) (k : Nat) (hk : k ≤ 8) (w : World) :
  Calls Tryz.prog 128 #[.int .u16 n, .int .i64 k] w (Ret (str (be n k)) w) := by
 have hmk := run_make_row' (P := Tryz.prog) 77 5 (.int .u8 0) 1 Tryz.underlying77 infoByte rfl .i64 .i64 k (by omega) (by omega)
 go_enter Tryz.func128, Tryz.ntmps128
 go_wp2
 go_loopw [11] (fun i wr => ∃ j : Nat, j ≤ k ∧ i = .int .i64 j ∧ Ext w wr ∧ wr.rowIs w.heap.size 5 k (fun a => .int .u8 ((if a < j then beC n k a else 0 : Nat) : Int))) (fun i _ => k - (intOf i).toNat)
 case atStart => exact ⟨0, Nat.zero_le _, rfl, (Mod.refl _ _).alloc _, (World.rowIs_made w _ k 5).congr (by intros; simp)⟩
 case round =>
  obtain ⟨j, hj, rfl, hb, hrow⟩ := hrel
  by_cases hlt : j < k
  ·
   have hcell : wr.cell? ⟨w.heap.size, j, none⟩ = some (.int .u8 0) := by simpa using hrow.cell hlt
   have hfr := hrow.frozen j
   go_wp2
   go_roundw
   case rel => exact ⟨j + 1, by omega, by go_num, hb.setCell (.inr (Nat.le_refl _)) _, by simpa [beC] using rel_step hrow⟩
   case measure => simp [intOf]; omega
  ·
   obtain rfl : j = k := by omega
   have hrow2 := hrow.congr (g := fun a => .int .u8 ((beC n j a : Nat) : Int)) (fun i hi => by simp [hi])
   have hconv := run_row_string (P := Tryz.prog) wr 77 9 5 Tryz.underlying77 Tryz.underlying5 Tryz.underlying9 _ _ _ j _ hrow2
   clear hrow hrow2
   go_wp2
   go_ret
   exact ⟨rfl, hb⟩
theorem spread_uint16 (x k : Int) (hx : 0 ≤ x) (hx1 : x < 65536) (hk : 0 ≤ k) (hk8 : k ≤ 8) (w : World) :
  Calls Tryz.prog 128 #[.int .u16 x, .int .i64 k] w (Ret (str (be x.toNat k.toNat)) w) := by
 obtain ⟨n, rfl⟩ := Int.eq_ofNat_of_zero_le hx
 obtain ⟨k, rfl⟩ := Int.eq_ofNat_of_zero_le hk
 exact spread_uint16_n n (by omega) k (by omega) w

set_option maxHeartbeats 400000 in
theorem spread_uint32_n (n : Nat) (hn : n < 4294967296) (k : Nat) (hk : k ≤ 8) (w : World) :
  Calls Tryz.prog 129 #[.int .u32 n, .int .i64 k] w (Ret (str (be n k)) w) := by
 have hmk := run_make_row' (P := Tryz.prog) 77 5 (.int .u8 0) 1 Tryz.underlying77 infoByte rfl .i64 .i64 k (by omega) (by omega)
 go_enter Tryz.func129, Tryz.ntmps129
 go_wp2
 go_loopw [11] (fun i wr => ∃ j : Nat, j ≤ k ∧ i = .int .i64 j ∧ Ext w wr ∧ wr.rowIs w.heap.size 5 k (fun a => .int .u8 ((if a < j then beC n k a else 0 : Nat) : Int))) (fun i _ => k - (intOf i).toNat)
 case atStart => exact ⟨0, Nat.zero_le _, rfl, (Mod.refl _ _).alloc _, (World.rowIs_made w _ k 5).congr (by intros; simp)⟩
 case round =>
  obtain ⟨j, hj, rfl, hb, hrow⟩ := hrel
  by_cases hlt : j < k
  ·
   have hcell : wr.cell? ⟨w.heap.size, j, none⟩ = some (.int .u8 0) := by simpa using hrow.cell hlt
   have hfr := hrow.frozen j
   go_wp2
   go_roundw
   case rel => exact ⟨j + 1, by omega, by go_num, hb.setCell (.inr (Nat.le_refl _)) _, by simpa [beC] using rel_step hrow⟩
   case measure => simp [intOf]; omega
  ·
   obtain rfl : j = k := by omega
   have hrow2 := hrow.congr (g := fun a => .int .u8 ((beC n j a : Nat) : Int)) (fun i hi => by simp [hi])
   have hconv := run_row_string (P := Tryz.prog) wr 77 9 5 Tryz.underlying77 Tryz.underlying5 Tryz.underlying9 _ _ _ j _ hrow2
   clear hrow hrow2
   go_wp2
   go_ret
   exact ⟨rfl, hb⟩
theorem spread_uint32 (x k : Int) (hx : 0 ≤ x) (hx1 : x < 4294967296) (hk : 0 ≤ k) (hk8 : k ≤ 8) (w : World) :
  Calls Tryz.prog 129 #[.int .u32 x, .int .i64 k] w (Ret (str (be x.toNat k.toNat)) w) := by
 obtain ⟨n, rfl⟩ := Int.eq_ofNat_of_zero_le hx
 obtain ⟨k, rfl⟩ := Int.eq_ofNat_of_zero_le hk
 exact spread_uint32_n n (by omega) k (by omega) w

set_option maxHeartbeats 400000 in
theorem spread_uint64_n (n : Nat) (hn : n < 18446744073709551616) (k : Nat) (hk : k ≤ 8) (w : World) :
  Calls Tryz.prog 130 #[.int .u64 n, .int .i64 k] w (Ret (str (be n k)) w) := by
 have hmk := run_make_row' (P := Tryz.prog) 77 5 (.int .u8 0) 1 Tryz.underlying77 infoByte rfl .i64 .i64 k (by omega) (by omega)
 go_enter Tryz.func130, Tryz.ntmps130
 go_wp2
 go_loopw [11] (fun i wr => ∃ j : Nat, j ≤ k ∧ i = .int .i64 j ∧ Ext w wr ∧ wr.rowIs w.heap.size 5 k (fun a => .int .u8 ((if a < j then beC n k a else 0 : Nat) : Int))) (fun i _ => k - (intOf i).toNat)
 case atStart => exact ⟨0, Nat.zero_le _, rfl, (Mod.refl _ _).alloc _, (World.rowIs_made w _ k 5).congr (by intros; simp)⟩
 case round =>
  obtain ⟨j, hj, rfl, hb, hrow⟩ := hrel
  by_cases hlt : j < k
  ·
   have hcell : wr.cell? ⟨w.heap.size, j, none⟩ = some (.int .u8 0) := by simpa using hrow.cell hlt
   have hfr := hrow.frozen j
   go_wp2
   go_roundw
   case rel => exact ⟨j + 1, by omega, by go_num, hb.setCell (.inr (Nat.le_refl _)) _, by simpa [beC] using rel_step hrow⟩
   case measure => simp [intOf]; omega
  ·
   obtain rfl : j = k := by omega
   have hrow2 := hrow.congr (g := fun a => .int .u8 ((beC n j a : Nat) : Int)) (fun i hi => by simp [hi])
   have hconv := run_row_string (P := Tryz.prog) wr 77 9 5 Tryz.underlying77 Tryz.underlying5 Tryz.underlying9 _ _ _ j _ hrow2
   clear hrow hrow2
   go_wp2
   go_ret
   exact ⟨rfl, hb⟩
theorem spread_uint64 (x k : Int) (hx : 0 ≤ x) (hx1 : x < 18446744073709551616) (hk : 0 ≤ k) (hk8 : k ≤ 8) (w : World) :
  Calls Tryz.prog 130 #[.int .u64 x, .int .i64 k] w (Ret (str (be x.toNat k.toNat)) w) := by
 obtain ⟨n, rfl⟩ := Int.eq_ofNat_of_zero_le hx
 obtain ⟨k, rfl⟩ := Int.eq_ofNat_of_zero_le hk
 exact spread_uint64_n n (by omega) k (by omega) w

end Go.Proofs.YtfgipgpbjfhflaaGreat


namespace Go.Proofs.YtfgipgpbjfhflaaGreat
open Go.RowKit
set_option linter.unusedVariables false
set_option linter.unusedSimpArgs false

theorem or_small : ∀ m : Fin 8, ∀ k : Fin 32, bits .or .u8 ((m.val : Int) * 32) (k.val : Int) = ((32 * m.val + k.val : Nat) : Int) := by decide +kernel
theorem or_u8 (m : Nat) (k : Int) (hm : m ≤ 7) (h0 : 0 ≤ k) (hk : k < 32) : bits .or .u8 ((m : Int) * 32) k = 32 * (m : Int) + k := by
 obtain ⟨k, rfl⟩ := Int.eq_ofNat_of_zero_le h0
 have := or_small ⟨m, by omega⟩ ⟨k, by omega⟩
 simpa using this
theorem convByte : ∀ (a : Addr) (c : Nat) (w : World), (convert 77 9 (.slice (some a) 1 c)).run Tryz.prog w =
   match w.cell? a with
   | some (.int .u8 x) => .ok (str [b8i x]) w
   | _ => (Conv.bytesToString (.slice (some a) 1 c)).run Tryz.prog w :=
 run_byte_string (P := Tryz.prog) 77 9 5 Tryz.underlying77 Tryz.underlying5 Tryz.underlying9

def mjr (m : Int) : Nat := if 0 ≤ m ∧ m ≤ 7 then m.toNat else 0
theorem mjr_le (m : Int) : mjr m ≤ 7 := by unfold mjr; split <;> omega
def mjB (m : Int) : Bool := decide (m < 0) || decide (7 < m)
theorem mj_bool {b c : Bool} (h : b = c) : Value.bool b = .bool c := by rw [h]
theorem mjr_out {m : Int} (h : mjB m = true) : Value.int .i64 0 = .int .i64 ((mjr m : Nat) : Int) := by
 unfold mjr; unfold mjB at h; simp at h; rw [if_neg (by omega)]; rfl
theorem mjr_in {m : Int} (h : mjB m = false) : Value.int .i64 m = .int .i64 ((mjr m : Nat) : Int) := by
 unfold mjr; unfold mjB at h; simp at h; rw [if_pos ⟨h.1, h.2⟩]; congr 1; omega

set_option maxHeartbeats 400000 in
theorem head_24 (x : Int) (n : Nat) (hn : n < 24) (w : World) :
  Calls Tryz.prog 108 #[.int .i64 x, .int .u64 n] w (Ret (str [b8 (32 * mjr x + n)]) w) := by
 go_enter Tryz.func108, Tryz.ntmps108
 go_upto_region 1 with fail
 go_cut [11] (fun s wx => s = .bool (mjB x) ∧ wx = w)
 case first =>
  go_wp2
  all_goals (go_meet; exact ⟨mj_bool (by unfold mjB; simp [*]), rfl⟩)
 obtain ⟨rfl, rfl⟩ := hcut
 go_upto_if 11 with fail
 go_cut [0] (fun s0 wx => s0 = .int .i64 ((mjr x : Nat) : Int) ∧ wx = wc)
 case first =>
  cases h : mjB x
  ·
   go_wp2
   go_meet
   exact ⟨mjr_in h, rfl⟩
  ·
   go_wp2
   go_meet
   exact ⟨mjr_out h, rfl⟩
 obtain ⟨rfl, rfl⟩ := hcut
 have hm := mjr_le x
 generalize mjr x = m at *
 have h2 : (decide ((n : Int) < 24)) = true := by simp; omega
 have hor := or_u8 m n hm (by omega) (by omega)
 have hcv := convByte
 have hb8 : ∀ m n : Nat, b8i (32 * (m : Int) + n) = b8 (32 * m + n) := fun m n => by unfold b8i b8; congr 1
 go_wp2
 go_ret
 exact ⟨rfl, (Mod.refl _ _).alloc _⟩

set_option maxHeartbeats 400000 in
theorem head_c24 (x : Int) (n : Nat) (h24 : Hid (24 ≤ n)) (hn : Hid (n < 256)) (w : World) :
  Calls Tryz.prog 108 #[.int .i64 x, .int .u64 n] w (Ret (str (b8 (32 * mjr x + 24) :: be n 1)) w) := by
 go_enter Tryz.func108, Tryz.ntmps108
 go_upto_region 1 with fail
 go_cut [11] (fun s wx => s = .bool (mjB x) ∧ wx = w)
 case first =>
  go_wp2
  all_goals (go_meet; exact ⟨mj_bool (by unfold mjB; simp [*]), rfl⟩)
 obtain ⟨rfl, rfl⟩ := hcut
 go_upto_if 11 with fail
 go_cut [0] (fun s0 wx => s0 = .int .i64 ((mjr x : Nat) : Int) ∧ wx = wc)
 case first =>
  cases h : mjB x
  ·
   go_wp2
   go_meet
   exact ⟨mjr_in h, rfl⟩
  ·
   go_wp2
   go_meet
   exact ⟨mjr_out h, rfl⟩
 obtain ⟨rfl, rfl⟩ := hcut
 have hm := mjr_le x
 generalize mjr x = m at *
 have t0 : (decide ((n : Int) < 24)) = false := by have := h24.out; have := hn.out; simp; omega
 have t1 : (decide ((n : Int) < 256)) = true := by have := h24.out; have := hn.out; simp; omega
 have hor := or_u8 m 24 hm (by omega) (by omega)
 have hcv := convByte
 have hb8 : ∀ m : Nat, b8i (32 * (m : Int) + 24) = b8 (32 * m + 24) := fun m => by unfold b8i b8; congr 1
 have hbl := be_length
 have hw8 : IntKind.u8.wrap (n : Int) = n := by have := hn.out; rw [IntKind.wrap_u8]; omega
 go_wp2
 clear t0 t1
 go_region_with ((go_at_call 127; refine (spread_uint8 _ _ (by have := hn.out; omega) (by have := hn.out; omega) (by omega) (by omega) _).mono ?_; rintro e w' ⟨rfl, hb⟩; obtain ⟨hc, hf⟩ := ext_cells hb))
 all_goals go_wp2
 all_goals go_ret
 all_goals refine ⟨congrArg Ending.returned (str_app [_] _), ?_⟩
 all_goals clear hc hf
 all_goals repeat (first | exact Mod.refl _ _ | apply Mod.drew | apply Mod.alloc | (refine Mod.trans ?_ hb; clear hb))

set_option maxHeartbeats 400000 in
theorem head_c25 (x : Int) (n : Nat) (h24 : Hid (256 ≤ n)) (hn : Hid (n < 65536)) (w : World) :
  Calls Tryz.prog 108 #[.int .i64 x, .int .u64 n] w (Ret (str (b8 (32 * mjr x + 25) :: be n 2)) w) := by
 go_enter Tryz.func108, Tryz.ntmps108
 go_upto_region 1 with fail
 go_cut [11] (fun s wx => s = .bool (mjB x) ∧ wx = w)
 case first =>
  go_wp2
  all_goals (go_meet; exact ⟨mj_bool (by unfold mjB; simp [*]), rfl⟩)
 obtain ⟨rfl, rfl⟩ := hcut
 go_upto_if 11 with fail
 go_cut [0] (fun s0 wx => s0 = .int .i64 ((mjr x : Nat) : Int) ∧ wx = wc)
 case first =>
  cases h : mjB x
  ·
   go_wp2
   go_meet
   exact ⟨mjr_in h, rfl⟩
  ·
   go_wp2
   go_meet
   exact ⟨mjr_out h, rfl⟩
 obtain ⟨rfl, rfl⟩ := hcut
 have hm := mjr_le x
 generalize mjr x = m at *
 have t0 : (decide ((n : Int) < 24)) = false := by have := h24.out; have := hn.out; simp; omega
 have t1 : (decide ((n : Int) < 256)) = false := by have := h24.out; have := hn.out; simp; omega
 have t2 : (decide ((n : Int) < 65536)) = true := by have := h24.out; have := hn.out; simp; omega
 have hor := or_u8 m 25 hm (by omega) (by omega)
 have hcv := convByte
 have hb8 : ∀ m : Nat, b8i (32 * (m : Int) + 25) = b8 (32 * m + 25) := fun m => by unfold b8i b8; congr 1
 have hbl := be_length
 have hw8 : IntKind.u16.wrap (n : Int) = n := by have := hn.out; rw [IntKind.wrap_u16]; omega
 go_wp2
 clear t0 t1 t2
 go_region_with ((go_at_call 128; refine (spread_uint16 _ _ (by have := hn.out; omega) (by have := hn.out; omega) (by omega) (by omega) _).mono ?_; rintro e w' ⟨rfl, hb⟩; obtain ⟨hc, hf⟩ := ext_cells hb))
 all_goals go_wp2
 all_goals go_ret
 all_goals refine ⟨congrArg Ending.returned (str_app [_] _), ?_⟩
 all_goals clear hc hf
 all_goals repeat (first | exact Mod.refl _ _ | apply Mod.drew | apply Mod.alloc | (refine Mod.trans ?_ hb; clear hb))

set_option maxHeartbeats 400000 in
theorem head_c26 (x : Int) (n : Nat) (h24 : Hid (65536 ≤ n)) (hn : Hid (n < 4294967296)) (w : World) :
  Calls Tryz.prog 108 #[.int .i64 x, .int .u64 n] w (Ret (str (b8 (32 * mjr x + 26) :: be n 4)) w) := by
 go_enter Tryz.func108, Tryz.ntmps108
 go_upto_region 1 with fail
 go_cut [11] (fun s wx => s = .bool (mjB x) ∧ wx = w)
 case first =>
  go_wp2
  all_goals (go_meet; exact ⟨mj_bool (by unfold mjB; simp [*]), rfl⟩)
 obtain ⟨rfl, rfl⟩ := hcut
 go_upto_if 11 with fail
 go_cut [0] (fun s0 wx => s0 = .int .i64 ((mjr x : Nat) : Int) ∧ wx = wc)
 case first =>
  cases h : mjB x
  ·
   go_wp2
   go_meet
   exact ⟨mjr_in h, rfl⟩
  ·
   go_wp2
   go_meet
   exact ⟨mjr_out h, rfl⟩
 obtain ⟨rfl, rfl⟩ := hcut
 have hm := mjr_le x
 generalize mjr x = m at *
 have t0 : (decide ((n : Int) < 24)) = false := by have := h24.out; have := hn.out; simp; omega
 have t1 : (decide ((n : Int) < 256)) = false := by have := h24.out; have := hn.out; simp; omega
 have t2 : (decide ((n : Int) < 65536)) = false := by have := h24.out; have := hn.out; simp; omega
 have t3 : (decide ((n : Int) < 4294967296)) = true := by have := h24.out; have := hn.out; simp; omega
 have hor := or_u8 m 26 hm (by omega) (by omega)
 have hcv := convByte
 have hb8 : ∀ m : Nat, b8i (32 * (m : Int) + 26) = b8 (32 * m + 26) := fun m => by unfold b8i b8; congr 1
 have hbl := be_length
 have hw8 : IntKind.u32.wrap (n : Int) = n := by have := hn.out; rw [IntKind.wrap_u32]; omega
 go_wp2
 clear t0 t1 t2 t3
 go_region_with ((go_at_call 129; refine (spread_uint32 _ _ (by have := hn.out; omega) (by have := hn.out; omega) (by omega) (by omega) _).mono ?_; rintro e w' ⟨rfl, hb⟩; obtain ⟨hc, hf⟩ := ext_cells hb))
 all_goals go_wp2
 all_goals go_ret
 all_goals refine ⟨congrArg Ending.returned (str_app [_] _), ?_⟩
 all_goals clear hc hf
 all_goals repeat (first | exact Mod.refl _ _ | apply Mod.drew | apply Mod.alloc | (refine Mod.trans ?_ hb; clear hb))

set_option maxHeartbeats 400000 in
theorem head_c27 (x : Int) (n : Nat) (h24 : Hid (4294967296 ≤ n)) (hn : Hid (n < 18446744073709551616)) (w : World) :
  Calls Tryz.prog 108 #[.int .i64 x, .int .u64 n] w (Ret (str (b8 (32 * mjr x + 27) :: be n 8)) w) := by
 go_enter Tryz.func108, Tryz.ntmps108
 go_upto_region 1 with fail
 go_cut [11] (fun s wx => s = .bool (mjB x) ∧ wx = w)
 case first =>
  go_wp2
  all_goals (go_meet; exact ⟨mj_bool (by unfold mjB; simp [*]), rfl⟩)
 obtain ⟨rfl, rfl⟩ := hcut
 go_upto_if 11 with fail
 go_cut [0] (fun s0 wx => s0 = .int .i64 ((mjr x : Nat) : Int) ∧ wx = wc)
 case first =>
  cases h : mjB x
  ·
   go_wp2
   go_meet
   exact ⟨mjr_in h, rfl⟩
  ·
   go_wp2
   go_meet
   exact ⟨mjr_out h, rfl⟩
 obtain ⟨rfl, rfl⟩ := hcut
 have hm := mjr_le x
 generalize mjr x = m at *
 have t0 : (decide ((n : Int) < 24)) = false := by have := h24.out; have := hn.out; simp; omega
 have t1 : (decide ((n : Int) < 256)) = false := by have := h24.out; have := hn.out; simp; omega
 have t2 : (decide ((n : Int) < 65536)) = false := by have := h24.out; have := hn.out; simp; omega
 have t3 : (decide ((n : Int) < 4294967296)) = false := by have := h24.out; have := hn.out; simp; omega
 have hor := or_u8 m 27 hm (by omega) (by omega)
 have hcv := convByte
 have hb8 : ∀ m : Nat, b8i (32 * (m : Int) + 27) = b8 (32 * m + 27) := fun m => by unfold b8i b8; congr 1
 have hbl := be_length
 go_wp2
 clear t0 t1 t2 t3
 go_region_with ((go_at_call 130; refine (spread_uint64 _ _ (by have := hn.out; omega) (by have := hn.out; omega) (by omega) (by omega) _).mono ?_; rintro e w' ⟨rfl, hb⟩; obtain ⟨hc, hf⟩ := ext_cells hb))
 all_goals go_wp2
 all_goals go_ret
 all_goals refine ⟨congrArg Ending.returned (str_app [_] _), ?_⟩
 all_goals clear hc hf
 all_goals repeat (first | exact Mod.refl _ _ | apply Mod.drew | apply Mod.alloc | (refine Mod.trans ?_ hb; clear hb))

theorem head_any (m n : Int) (hn0 : 0 ≤ n) (hn1 : n < 18446744073709551616) (w : World) :
  Calls Tryz.prog 108 #[.int .i64 m, .int .u64 n] w (Ret (str (headL (mjr m) n.toNat)) w) := by
 obtain ⟨n, rfl⟩ := Int.eq_ofNat_of_zero_le hn0
 rw [Int.toNat_natCast]
 unfold headL
 by_cases a : n < 24
 · rw [if_pos a]; exact head_24 m n a w
 rw [if_neg a]
 by_cases b : n < 256
 · rw [if_pos b]; exact head_c24 m n (Nat.le_of_not_lt a) b w
 rw [if_neg b]
 by_cases c : n < 65536
 · rw [if_pos c]; exact head_c25 m n (Nat.le_of_not_lt b) c w
 rw [if_neg c]
 by_cases d : n < 4294967296
 · rw [if_pos d]; exact head_c26 m n (Nat.le_of_not_lt c) d w
 rw [if_neg d]; exact head_c27 m n (Nat.le_of_not_lt d) (by unfold Hid; omega) w

theorem head_in (m n : Int) (h0 : 0 ≤ m) (h7 : m ≤ 7) (hn0 : 0 ≤ n) (hn1 : n < 18446744073709551616) (w : World) :
  Calls Tryz.prog 108 #[.int .i64 m, .int .u64 n] w (Ret (str (headL m.toNat n.toNat)) w) := by
 have e : mjr m = m.toNat := by unfold mjr; rw [if_pos ⟨h0, h7⟩]
 rw [← e]; exact head_any m n hn0 hn1 w
end Go.Proofs.YtfgipgpbjfhflaaGreat


namespace Go.Proofs.YtfgipgpbjfhflaaGreat
open Go.RowKit
set_option linter.unusedVariables false
set_option linter.unusedSimpArgs false

theorem ret_bool {b c : Bool} (h : b = c) : Ending.returned (.bool b) = .returned (.bool c) := by rw [h]
set_option maxHeartbeats 400000 in
theorem opens_any (m : Int) (w : World) : Calls Tryz.prog 82 #[.int .i64 m] w fun e w' => e = .returned (.bool (opensB m)) ∧ w = w' := by
 go_enter Tryz.func82, Tryz.ntmps82
 go_wp2
 all_goals go_ret
 all_goals exact ⟨ret_bool (by unfold opensB; rw [Bool.eq_iff_iff]; simp [*]; try omega), rfl⟩

theorem open_bits : ∀ m : Fin 8, bits .or .i64 ((m.val : Int) * 32) 31 = (m.val : Int) * 32 + 31 := by decide +kernel
set_option maxHeartbeats 400000 in
theorem open_yes (m : Nat) (h : opensB m = true) (w : World) : Calls Tryz.prog 51 #[.int .i64 m] w (Ret (str (openL m)) w) := by
 have hm : 2 ≤ m ∧ m ≤ 7 := by unfold opensB at h; simp at h; omega
 obtain ⟨h2, h7⟩ := hm
 have ho := open_bits ⟨m, by omega⟩
 dsimp only at ho
 have e : openL m = [b8i ((m : Int) * 32 + 31)] := by
  unfold openL b8 b8i; rw [if_pos h]; congr 2; omega
 have hcv := convByte
 rw [e]
 have hw : 0 ≤ (m : Int) * 32 + 31 := by omega
 go_enter Tryz.func51, Tryz.ntmps51
 go_wp2_with (go_at_call 82; refine (opens_any _ _).mono ?_; rintro e w' ⟨rfl, rfl⟩)
 go_ret
 exact ⟨rfl, (Mod.refl _ _).alloc _⟩
set_option maxHeartbeats 400000 in
theorem open_no (m : Int) (h : opensB m = false) (w : World) : Calls Tryz.prog 51 #[.int .i64 m] w (Ret (str (openL m)) w) := by
 have e : openL m = [] := by unfold openL; simp [h]
 rw [e]
 go_enter Tryz.func51, Tryz.ntmps51
 go_wp2_with (go_at_call 82; refine (opens_any _ _).mono ?_; rintro e w' ⟨rfl, rfl⟩)
 go_ret
 exact ⟨rfl, Mod.refl _ _⟩
theorem open_any (m : Int) (w : World) : Calls Tryz.prog 51 #[.int .i64 m] w (Ret (str (openL m)) w) := by
 cases h : opensB m with
 | false => exact open_no m h w
 | true =>
  have : 0 ≤ m := by unfold opensB at h; simp at h; omega
  obtain ⟨n, rfl⟩ := Int.eq_ofNat_of_zero_le this
  exact open_yes n h w

/-- The cells of a reader. -/
def rdr (s : List UInt8) (at_ bad e from_ : Int) : Array Value := #[str s, .int .i64 at_, .int .i64 bad, .int .i64 e, .int .i64 from_]
set_option maxHeartbeats 400000 in
theorem newReader_any (s : List UInt8) (w : World) : Calls Tryz.prog 84 #[str s] w fun e w' =>
  e = .returned (.pointer (some ⟨w.heap.size, 0, none⟩)) ∧ w' = w.alloc (.cells (rdr s 0 (-1) 0 0) 125) := by
 go_enter Tryz.func84, Tryz.ntmps84
 go_wp2
 go_ret
 exact ⟨rfl, rfl⟩
end Go.Proofs.YtfgipgpbjfhflaaGreat


namespace Go.Proofs.YtfgipgpbjfhflaaGreat
open Go.RowKit
set_option linter.unusedVariables false
set_option linter.unusedSimpArgs false

theorem digits_str {n j q : Nat} (h : n / 2 ^ (8 * j) = q) : Value.string ((⟨#[b8i ((q : Int) % 256)]⟩ : ByteArray) ++ ⟨(be n j).toArray⟩) = str (be n (j + 1)) := by
 rw [be_succ, h]; exact str_app [_] _
theorem digits_num {n j q : Nat} (hn : n < 18446744073709551616) (h : n / 2 ^ (8 * j) = q) : Value.int .u64 (IntKind.u64.wrap ((q : Int) / 256)) = .int .u64 ((n / 2 ^ (8 * (j + 1)) : Nat) : Int) := by
 have hq : q ≤ n := by rw [← h]; exact Nat.div_le_self _ _
 rw [IntWalk.u64_in _ (by omega), Nat.mul_add, Nat.pow_add, ← Nat.div_div_eq_div_mul, h]; rfl

set_option maxHeartbeats 400000 in
theorem digits_n (n : Nat) (hn : Hid (n < 18446744073709551616)) (k : Nat) (hk : k ≤ 8) (w : World) :
  Calls Tryz.prog 113 #[.int .u64 n, .int .i64 k] w (Ret (str (be n k)) w) := by
 have hcv := convByte
 go_enter Tryz.func113, Tryz.ntmps113
 go_wp2
 go_loopw [0, 5, 6] (fun x s i wr => ∃ j : Nat, j ≤ k ∧ i = .int .i64 j ∧ s = str (be n j) ∧ x = .int .u64 ((n / 2 ^ (8 * j) : Nat) : Int) ∧ Ext w wr) (fun _ _ i _ => k - (intOf i).toNat)
 case atStart => exact ⟨0, Nat.zero_le _, rfl, rfl, by simp, Mod.refl _ _⟩
 case round =>
  obtain ⟨j, hj, rfl, rfl, rfl, hb⟩ := hrel
  have hbl := be_length n j
  generalize hq : n / 2 ^ (8 * j) = q
  have HQ := hid hq; clear hq
  by_cases hlt : j < k
  ·
   go_wp2
   go_roundw
   case rel => exact ⟨j + 1, by omega, by go_num, digits_str HQ.out, digits_num hn.out HQ.out, hb.alloc _⟩
   case measure => simp [intOf]; omega
  ·
   obtain rfl : j = k := by omega
   go_wp2
   go_ret
   exact ⟨rfl, hb⟩
theorem digits_any (x k : Int) (hx : 0 ≤ x) (hx1 : x < 18446744073709551616) (hk : 0 ≤ k) (hk8 : k ≤ 8) (w : World) :
  Calls Tryz.prog 113 #[.int .u64 x, .int .i64 k] w (Ret (str (be x.toNat k.toNat)) w) := by
 obtain ⟨n, rfl⟩ := Int.eq_ofNat_of_zero_le hx
 obtain ⟨k, rfl⟩ := Int.eq_ofNat_of_zero_le hk
 exact digits_n n (by unfold Hid; omega) k (by omega) w

set_option maxHeartbeats 400000 in
theorem rhead_24 (m : Nat) (hm : m ≤ 7) (n : Nat) (hn : n < 24) (w : World) :
  Calls Tryz.prog 73 #[.int .i64 m, .int .u64 n] w (Ret (str [b8 (32 * m + n)]) w) := by
 have h2 : (decide ((n : Int) < 24)) = true := by simp; omega
 have hcv := convByte
 have hb8 : ∀ m n : Nat, b8i (32 * (m : Int) + n) = b8 (32 * m + n) := fun m n => by unfold b8i b8; congr 1
 go_enter Tryz.func73, Tryz.ntmps73
 go_wp2
 go_ret
 exact ⟨rfl, (Mod.refl _ _).alloc _⟩

set_option maxHeartbeats 400000 in
theorem rhead_c24 (m : Nat) (hm : m ≤ 7) (n : Nat) (h24 : Hid (24 ≤ n)) (hn : Hid (n < 256)) (w : World) :
  Calls Tryz.prog 73 #[.int .i64 m, .int .u64 n] w (Ret (str (b8 (32 * m + 24) :: be n 1)) w) := by
 have t0 : (decide ((n : Int) < 24)) = false := by have := h24.out; have := hn.out; simp; omega
 have t1 : (decide ((n : Int) < 256)) = true := by have := h24.out; have := hn.out; simp; omega
 have hcv := convByte
 have hb8 : ∀ m : Nat, b8i (32 * (m : Int) + 24) = b8 (32 * m + 24) := fun m => by unfold b8i b8; congr 1
 have hbl := be_length
 have hww : IntKind.u8.wrap (32 * (m : Int) + 24) = 32 * (m : Int) + 24 := by rw [IntKind.wrap_u8]; omega
 go_enter Tryz.func73, Tryz.ntmps73
 go_wp2
 clear t0 t1
 go_region_with ((go_at_call 113; refine (digits_any _ _ (by have := hn.out; omega) (by have := hn.out; omega) (by omega) (by omega) _).mono ?_; rintro e w' ⟨rfl, hb⟩; obtain ⟨hc, hf⟩ := ext_cells hb))
 all_goals go_wp2
 all_goals go_ret
 all_goals refine ⟨congrArg Ending.returned (str_app [_] _), ?_⟩
 all_goals clear hc hf
 all_goals repeat (first | exact Mod.refl _ _ | apply Mod.drew | apply Mod.alloc | (refine Mod.trans ?_ hb; clear hb))

set_option maxHeartbeats 400000 in
theorem rhead_c25 (m : Nat) (hm : m ≤ 7) (n : Nat) (h24 : Hid (256 ≤ n)) (hn : Hid (n < 65536)) (w : World) :
  Calls Tryz.prog 73 #[.int .i64 m, .int .u64 n] w (Ret (str (b8 (32 * m + 25) :: be n 2)) w) := by
 have t0 : (decide ((n : Int) < 24)) = false := by have := h24.out; have := hn.out; simp; omega
 have t1 : (decide ((n : Int) < 256)) = false := by have := h24.out; have := hn.out; simp; omega
 have t2 : (decide ((n : Int) < 65536)) = true := by have := h24.out; have := hn.out; simp; omega
 have hcv := convByte
 have hb8 : ∀ m : Nat, b8i (32 * (m : Int) + 25) = b8 (32 * m + 25) := fun m => by unfold b8i b8; congr 1
 have hbl := be_length
 have hww : IntKind.u8.wrap (32 * (m : Int) + 25) = 32 * (m : Int) + 25 := by rw [IntKind.wrap_u8]; omega
 go_enter Tryz.func73, Tryz.ntmps73
 go_wp2
 clear t0 t1 t2
 go_region_with ((go_at_call 113; refine (digits_any _ _ (by have := hn.out; omega) (by have := hn.out; omega) (by omega) (by omega) _).mono ?_; rintro e w' ⟨rfl, hb⟩; obtain ⟨hc, hf⟩ := ext_cells hb))
 all_goals go_wp2
 all_goals go_ret
 all_goals refine ⟨congrArg Ending.returned (str_app [_] _), ?_⟩
 all_goals clear hc hf
 all_goals repeat (first | exact Mod.refl _ _ | apply Mod.drew | apply Mod.alloc | (refine Mod.trans ?_ hb; clear hb))

set_option maxHeartbeats 400000 in
theorem rhead_c26 (m : Nat) (hm : m ≤ 7) (n : Nat) (h24 : Hid (65536 ≤ n)) (hn : Hid (n < 4294967296)) (w : World) :
  Calls Tryz.prog 73 #[.int .i64 m, .int .u64 n] w (Ret (str (b8 (32 * m + 26) :: be n 4)) w) := by
 have t0 : (decide ((n : Int) < 24)) = false := by have := h24.out; have := hn.out; simp; omega
 have t1 : (decide ((n : Int) < 256)) = false := by have := h24.out; have := hn.out; simp; omega
 have t2 : (decide ((n : Int) < 65536)) = false := by have := h24.out; have := hn.out; simp; omega
 have t3 : (decide ((n : Int) < 4294967296)) = true := by have := h24.out; have := hn.out; simp; omega
 have hcv := convByte
 have hb8 : ∀ m : Nat, b8i (32 * (m : Int) + 26) = b8 (32 * m + 26) := fun m => by unfold b8i b8; congr 1
 have hbl := be_length
 have hww : IntKind.u8.wrap (32 * (m : Int) + 26) = 32 * (m : Int) + 26 := by rw [IntKind.wrap_u8]; omega
 go_enter Tryz.func73, Tryz.ntmps73
 go_wp2
 clear t0 t1 t2 t3
 go_region_with ((go_at_call 113; refine (digits_any _ _ (by have := hn.out; omega) (by have := hn.out; omega) (by omega) (by omega) _).mono ?_; rintro e w' ⟨rfl, hb⟩; obtain ⟨hc, hf⟩ := ext_cells hb))
 all_goals go_wp2
 all_goals go_ret
 all_goals refine ⟨congrArg Ending.returned (str_app [_] _), ?_⟩
 all_goals clear hc hf
 all_goals repeat (first | exact Mod.refl _ _ | apply Mod.drew | apply Mod.alloc | (refine Mod.trans ?_ hb; clear hb))

set_option maxHeartbeats 400000 in
theorem rhead_c27 (m : Nat) (hm : m ≤ 7) (n : Nat) (h24 : Hid (4294967296 ≤ n)) (hn : Hid (n < 18446744073709551616)) (w : World) :
  Calls Tryz.prog 73 #[.int .i64 m, .int .u64 n] w (Ret (str (b8 (32 * m + 27) :: be n 8)) w) := by
 have t0 : (decide ((n : Int) < 24)) = false := by have := h24.out; have := hn.out; simp; omega
 have t1 : (decide ((n : Int) < 256)) = false := by have := h24.out; have := hn.out; simp; omega
 have t2 : (decide ((n : Int) < 65536)) = false := by have := h24.out; have := hn.out; simp; omega
 have t3 : (decide ((n : Int) < 4294967296)) = false := by have := h24.out; have := hn.out; simp; omega
 have hcv := convByte
 have hb8 : ∀ m : Nat, b8i (32 * (m : Int) + 27) = b8 (32 * m + 27) := fun m => by unfold b8i b8; congr 1
 have hbl := be_length
 have hww : IntKind.u8.wrap (32 * (m : Int) + 27) = 32 * (m : Int) + 27 := by rw [IntKind.wrap_u8]; omega
 go_enter Tryz.func73, Tryz.ntmps73
 go_wp2
 clear t0 t1 t2 t3
 go_region_with ((go_at_call 113; refine (digits_any _ _ (by have := hn.out; omega) (by have := hn.out; omega) (by omega) (by omega) _).mono ?_; rintro e w' ⟨rfl, hb⟩; obtain ⟨hc, hf⟩ := ext_cells hb))
 all_goals go_wp2
 all_goals go_ret
 all_goals refine ⟨congrArg Ending.returned (str_app [_] _), ?_⟩
 all_goals clear hc hf
 all_goals repeat (first | exact Mod.refl _ _ | apply Mod.drew | apply Mod.alloc | (refine Mod.trans ?_ hb; clear hb))

theorem rhead_in (m n : Int) (h0 : 0 ≤ m) (h7 : m ≤ 7) (hn0 : 0 ≤ n) (hn1 : n < 18446744073709551616) (w : World) :
  Calls Tryz.prog 73 #[.int .i64 m, .int .u64 n] w (Ret (str (headL m.toNat n.toNat)) w) := by
 obtain ⟨m, rfl⟩ := Int.eq_ofNat_of_zero_le h0
 obtain ⟨n, rfl⟩ := Int.eq_ofNat_of_zero_le hn0
 rw [Int.toNat_natCast, Int.toNat_natCast]
 unfold headL
 by_cases a : n < 24
 · rw [if_pos a]; exact rhead_24 m (by omega) n a w
 rw [if_neg a]
 by_cases b : n < 256
 · rw [if_pos b]; exact rhead_c24 m (by omega) n (Nat.le_of_not_lt a) b w
 rw [if_neg b]
 by_cases c : n < 65536
 · rw [if_pos c]; exact rhead_c25 m (by omega) n (Nat.le_of_not_lt b) c w
 rw [if_neg c]
 by_cases d : n < 4294967296
 · rw [if_pos d]; exact rhead_c26 m (by omega) n (Nat.le_of_not_lt c) d w
 rw [if_neg d]; exact rhead_c27 m (by omega) n (Nat.le_of_not_lt d) (by unfold Hid; omega) w
end Go.Proofs.YtfgipgpbjfhflaaGreat


namespace Go.Proofs.YtfgipgpbjfhflaaGreat
open Go.RowKit
set_option linter.unusedVariables false
set_option linter.unusedSimpArgs false

def few (t : T) (m : Nat) : Bool := decide (t.deep 9 ≤ 9) && decide (t.count m ≤ m)
/-- What has been written of an array after its first j items. -/
def pre (kind : Int) (s : List UInt8) (op : Bool) (k : Nat) (ch : Nat → T) (j : Nat) : List UInt8 := (if op then [159] else headL 4 k) ++ T.cat (fun i => (ch i).bytes) j

theorem T.cat_mono {f : Nat → List UInt8} {j k : Nat} (h : j ≤ k) : (T.cat f j).length ≤ (T.cat f k).length := by
 induction k with
 | zero => have : j = 0 := by omega
           subst this; exact Nat.le_refl _
 | succ k ih =>
  by_cases e : j = k + 1
  · subst e; exact Nat.le_refl _
  ·
   have := ih (by omega)
   rw [T.cat, List.length_append]; omega
theorem pre_succ (kind : Int) (s : List UInt8) (op : Bool) (k : Nat) (ch : Nat → T) (j : Nat) : pre kind s op k ch (j + 1) = pre kind s op k ch j ++ (ch j).bytes := by
 unfold pre; rw [T.cat, List.append_assoc]
theorem pre_le {n : Nat} {s : List UInt8} {op : Bool} {k : Nat} {ch : Nat → T} {j : Nat} (hj : j ≤ k) (h : (T.mk 4 n s op k ch).size ≤ 100000) : (pre 4 s op k ch j).length ≤ 1000000 := by
 have h1 := T.bytes_le (.mk 4 n s op k ch)
 have h2 : (T.mk 4 n s op k ch).bytes = (if op then [159] else headL 4 k) ++ (T.cat (fun i => (ch i).bytes) k ++ (if op then [255] else [])) := rfl
 have h3 := T.cat_mono (f := fun i => (ch i).bytes) hj
 rw [h2, List.length_append, List.length_append] at h1
 unfold pre
 rw [List.length_append]
 omega
theorem pre_end {n : Nat} {s : List UInt8} {op : Bool} {k : Nat} {ch : Nat → T} : (T.mk 4 n s op k ch).bytes = pre 4 s op k ch k ++ (if op then [255] else []) := by
 have h2 : (T.mk 4 n s op k ch).bytes = (if op then [159] else headL 4 k) ++ (T.cat (fun i => (ch i).bytes) k ++ (if op then [255] else [])) := rfl
 rw [h2, pre, List.append_assoc]

set_option maxRecDepth 20000 in
set_option maxHeartbeats 3200000 in
theorem rBytesI_any (t : T) : t.ok → t.plain = true → t.size ≤ 100000 → ∀ A c w, IsL w (fun _ => True) t A →
  Calls Tryz.prog 75 #[itemV t A c] w (Ret (str t.bytes) w) := by
 induction t with
 | nil => intro hok; cases hok
 | mk kind n s op k ch ih =>
  intro hok hpl hsz A c w h
  have H := hid h; have HO := hid hok; have HPL := hid hpl; have HSZ := hid hsz
  have HI := hid ih
  have hk : Hid (k < 4611686018427387904) := by unfold T.ok at hok; exact hok.2.2.2.1
  have hn64 : Hid (n < 18446744073709551616) := by unfold T.ok at hok; exact hok.2.1
  have hs64 : Hid (s.length < 4611686018427387904) := by unfold T.ok at hok; exact hok.2.2.1
  have hkd : kind = 0 ∨ kind = 2 ∨ kind = 3 ∨ kind = 4 := by unfold T.plain at hpl; rw [Bool.and_eq_true] at hpl; exact T.node_kind hpl.1
  have hpc : Hid (∀ i, i < k → (ch i).plain = true) := by unfold T.plain at hpl; rw [Bool.and_eq_true, T.all_iff] at hpl; exact hpl.2
  have HBL := hid (T.bytes_le (.mk kind n s op k ch))
  have hBy : (T.mk kind n s op k ch).bytes = if kind = 0 then headL 0 n else if kind < 4 then headL kind.toNat s.length ++ s else (if op then [159] else headL 4 k) ++ (T.cat (fun i => (ch i).bytes) k ++ (if op then [255] else [])) := rfl
  have HBy := hid hBy
  show Calls Tryz.prog 75 #[.agg #[.int .i64 kind, .int .u64 (n : Int), str s, .slice A k c, .bool op]] w (Ret (str (T.mk kind n s op k ch).bytes) w)
  have HB : Hid (Blk (w.alloc (.cells #[.int .i64 kind, .int .u64 (n : Int), str s, .slice A k c, .bool op] 52)) w.heap.size 52 #[.int .i64 kind, .int .u64 (n : Int), str s, .slice A k c, .bool op]) := Blk.new _ _ _
  have HE0 := hid ((Mod.refl [] w).alloc (.cells #[.int .i64 kind, .int .u64 (n : Int), str s, .slice A k c, .bool op] 52))
  clear h hok hpl hsz ih hBy
  by_cases k0 : kind = 0
  ·
   subst k0
   rw [HBy.out, if_pos rfl]
   go_enter Tryz.func75, Tryz.ntmps75
   go_wp2_with fail
   refine (rhead_in 0 n (by omega) (by omega) (by omega) (by have := hn64.out; omega) _).mono ?_
   rintro e w2 ⟨rfl, hb2⟩
   go_wp2_with fail
   go_ret
   exact Ret.mk rfl (HE0.out.trans hb2)
  ·
   by_cases k4 : kind < 4
   ·
    rw [HBy.out, if_neg k0, if_pos k4]
    have b0 : (kind == 0) = false := by simp [k0]
    have b1 : (kind = 0) = False := by simp [k0]
    have b2 : decide (kind < 4) = true := by simp [k4]
    have HK : Hid (0 ≤ kind ∧ kind ≤ 3) := by unfold Hid; omega
    have s0 : (s.length : Int) < 9223372036854775808 := by have := hs64.out; omega
    have hno : (9223372036854775807 < (headL kind.toNat s.length).length + s.length) = False := by have := headL_le kind.toNat s.length; have := hs64.out; simp; omega
    clear k0 k4 hkd
    go_enter Tryz.func75, Tryz.ntmps75
    go_upto_region 1 with fail
    go_cut [5, 6, 7] (fun s5 s6 s7 wx => s7 = .bool false ∧ Hid (Ext w wx ∧ Blk wx w.heap.size 52 #[.int .i64 kind, .int .u64 (n : Int), str s, .slice A k c, .bool op]))
    case first =>
     go_wp2_with fail
     go_meet
     exact ⟨rfl, HE0.out, HB.out⟩
    obtain ⟨rfl, hX⟩ := hcut
    have HX : Hid (∀ W, Ext wc W → W.cell? ⟨w.heap.size, 0, none⟩ = some (.int .i64 kind) ∧ W.cell? ⟨w.heap.size, 2, none⟩ = some (str s)) := fun W hW => ⟨(hX.out.2.ext hW).cell 0, (hX.out.2.ext hW).cell 2⟩
    have tw : IntKind.u64.wrap (s.length : Int) = (s.length : Int) := IntWalk.u64_in _ (by have := hs64.out; omega)
    have y0 := (HX.out wc (Mod.refl _ _)).1
    have y2 := (HX.out wc (Mod.refl _ _)).2
    go_upto_region 4 with fail
    go_region_held3 (fun w' => w'.cell? ⟨w.heap.size, 0, none⟩ = some (.int .i64 kind) ∧ w'.cell? ⟨w.heap.size, 2, none⟩ = some (str s)) (go_keep)
     ((go_at_call 73; (try rw [tw]); refine (rhead_in kind (s.length : Int) HK.out.1 (by have := HK.out.2; omega) (by omega) (by have := hs64.out; omega) _).mono ?_; rintro e w3 ⟨rfl, hb3⟩; rw [Int.toNat_natCast]; have hx3 : Ext wc w3 := (by with_reducible refine Mod.trans ?_ hb3; (repeat (first | with_reducible assumption | with_reducible exact Mod.refl _ _ | with_reducible refine Mod.drew ?_))); have z0 := (HX.out w3 hx3).1; have z2 := (HX.out w3 hx3).2))
    all_goals go_wp2_with fail
    all_goals go_ret
    all_goals exact Ret.mk rfl (hX.out.1.trans hx3)
   ·
    have hk4 : kind = 4 := by omega
    subst hk4
    clear HBy k0 k4 hkd HBL
    have K0 : (0 : Int) ≤ (k : Int) := by omega
    have K1 : (k : Int) < 9223372036854775808 := by have := hk.out; omega
    cases op
    ·
     go_enter Tryz.func75, Tryz.ntmps75
     go_wp2_with fail
     refine (rhead_in 4 (k : Int) (by omega) (by omega) (by omega) (by have := hk.out; omega) _).mono ?_
     rintro e w2 ⟨rfl, hb2⟩
     rw [Int.toNat_natCast]
     have HE2 := hid (HE0.out.trans hb2)
     have HB2 := hid (HB.out.ext hb2)
     have c4 : w2.cell? ⟨w.heap.size, 4, none⟩ = some (.bool false) := HB2.out.cell 4
     clear hb2 K1
     go_wp2_with fail
     clear c4
     go_loopw [3, 4] (fun s3 s4 wr => ∃ i : Nat, i ≤ k ∧ s4 = .int .i64 (i : Int) ∧ s3 = str (pre 4 s false k ch i) ∧ Hid (Ext w wr ∧ Blk wr w.heap.size 52 #[.int .i64 4, .int .u64 (n : Int), str s, .slice A k c, .bool false])) (fun _ i _ => k - (intOf i).toNat)
     case atStart => exact ⟨0, Nat.zero_le _, rfl, by simp [pre, T.cat], HE2.out, HB2.out⟩
     case round =>
      obtain ⟨i, hi, rfl, rfl, hH⟩ := hrel
      have i0 : (0 : Int) ≤ (i : Int) := by omega
      have c3 : wr.cell? ⟨w.heap.size, 3, none⟩ = some (.slice A k c) := hH.out.2.cell 3
      have c4 : wr.cell? ⟨w.heap.size, 4, none⟩ = some (.bool false) := hH.out.2.cell 4
      have HP := hid (pre_le (op := false) hi HSZ.out)
      by_cases hlt : i < k
      ·
       obtain ⟨b, o, Ai, ci, rfl, hb, ⟨k0, k1, k2, k3, k4⟩, hL⟩ := H.out.cells hH.out.1 hlt
       have i1 : (i : Int) < (k : Int) := by omega
       have ti : decide (i < k) = true := by simp [hlt]
       have HL := hid hL; have HLT := hid hlt
       have HOi : Hid (ch i).ok := by have := HO.out; unfold T.ok at this; exact this.2.2.2.2 i hlt
       have HZi : Hid ((ch i).size ≤ 100000) := Nat.le_trans (T.size_ch hlt) HSZ.out
       have HPS := hid (pre_succ 4 s false k ch i)
       have hno : (9223372036854775807 < (pre 4 s false k ch i).length + (ch i).bytes.length) = False := by
        have h1 := pre_le (op := false) (show i + 1 ≤ k by omega) HSZ.out
        rw [HPS.out, List.length_append] at h1
        simp; omega
       have hk2 : (k : Int) < 4611686018427387904 := by have := hk.out; omega
       clear hL hlt
       go_wp2_with fail
       refine (HI.out i HOi.out (hpc.out i HLT.out) HZi.out Ai ci _ HL.out).mono ?_
       rintro e w3 ⟨rfl, hb3⟩
       have HE3 := hid (hH.out.1.trans hb3)
       have HB3 := hid (hH.out.2.ext hb3)
       clear hb3
       go_wp2_with fail
       have hlt := HLT.out
       refine ⟨⟨i + 1, by omega, by simp, by rw [HPS.out]; exact str_app _ _, (show Hid _ from ⟨HE3.out, HB3.out⟩)⟩, ?_⟩
       simp only [intOf]; omega
      ·
       obtain rfl : i = k := by omega
       have ti : decide (i < i) = false := by simp
       have HPE := hid (pre_end (n := n) (s := s) (op := false) (k := i) (ch := ch))
       have hno : (9223372036854775807 < (pre 4 s false i ch i).length + 1) = False := by have := HP.out; simp; omega
       go_wp2_with fail
       go_ret
       exact Ret.mk (by rw [HPE.out]; simp) hH.out.1
    ·
     go_enter Tryz.func75, Tryz.ntmps75
     go_wp2_with fail
     refine (rhead_in 4 (k : Int) (by omega) (by omega) (by omega) (by have := hk.out; omega) _).mono ?_
     rintro e w2 ⟨rfl, hb2⟩
     rw [Int.toNat_natCast]
     have HE2 := hid (HE0.out.trans hb2)
     have HB2 := hid (HB.out.ext hb2)
     have c4 : w2.cell? ⟨w.heap.size, 4, none⟩ = some (.bool true) := HB2.out.cell 4
     clear hb2 K1
     go_wp2_with fail
     clear c4
     go_loopw [3, 4] (fun s3 s4 wr => ∃ i : Nat, i ≤ k ∧ s4 = .int .i64 (i : Int) ∧ s3 = str (pre 4 s true k ch i) ∧ Hid (Ext w wr ∧ Blk wr w.heap.size 52 #[.int .i64 4, .int .u64 (n : Int), str s, .slice A k c, .bool true])) (fun _ i _ => k - (intOf i).toNat)
     case atStart => exact ⟨0, Nat.zero_le _, rfl, by simp [pre, T.cat], HE2.out, HB2.out⟩
     case round =>
      obtain ⟨i, hi, rfl, rfl, hH⟩ := hrel
      have i0 : (0 : Int) ≤ (i : Int) := by omega
      have c3 : wr.cell? ⟨w.heap.size, 3, none⟩ = some (.slice A k c) := hH.out.2.cell 3
      have c4 : wr.cell? ⟨w.heap.size, 4, none⟩ = some (.bool true) := hH.out.2.cell 4
      have HP := hid (pre_le (op := true) hi HSZ.out)
      by_cases hlt : i < k
      ·
       obtain ⟨b, o, Ai, ci, rfl, hb, ⟨k0, k1, k2, k3, k4⟩, hL⟩ := H.out.cells hH.out.1 hlt
       have i1 : (i : Int) < (k : Int) := by omega
       have ti : decide (i < k) = true := by simp [hlt]
       have HL := hid hL; have HLT := hid hlt
       have HOi : Hid (ch i).ok := by have := HO.out; unfold T.ok at this; exact this.2.2.2.2 i hlt
       have HZi : Hid ((ch i).size ≤ 100000) := Nat.le_trans (T.size_ch hlt) HSZ.out
       have HPS := hid (pre_succ 4 s true k ch i)
       have hno : (9223372036854775807 < (pre 4 s true k ch i).length + (ch i).bytes.length) = False := by
        have h1 := pre_le (op := true) (show i + 1 ≤ k by omega) HSZ.out
        rw [HPS.out, List.length_append] at h1
        simp; omega
       have hk2 : (k : Int) < 4611686018427387904 := by have := hk.out; omega
       clear hL hlt
       go_wp2_with fail
       refine (HI.out i HOi.out (hpc.out i HLT.out) HZi.out Ai ci _ HL.out).mono ?_
       rintro e w3 ⟨rfl, hb3⟩
       have HE3 := hid (hH.out.1.trans hb3)
       have HB3 := hid (hH.out.2.ext hb3)
       clear hb3
       go_wp2_with fail
       have hlt := HLT.out
       refine ⟨⟨i + 1, by omega, by simp, by rw [HPS.out]; exact str_app _ _, (show Hid _ from ⟨HE3.out, HB3.out⟩)⟩, ?_⟩
       simp only [intOf]; omega
      ·
       obtain rfl : i = k := by omega
       have ti : decide (i < i) = false := by simp
       have HPE := hid (pre_end (n := n) (s := s) (op := true) (k := i) (ch := ch))
       have hno : (9223372036854775807 < (pre 4 s true i ch i).length + 1) = False := by have := HP.out; simp; omega
       go_wp2_with fail
       go_ret
       exact Ret.mk (by rw [HPE.out]; exact str_app _ [255]) hH.out.1
end Go.Proofs.YtfgipgpbjfhflaaGreat


namespace Go.Proofs.YtfgipgpbjfhflaaGreat
open Go.RowKit
set_option linter.unusedVariables false
set_option linter.unusedSimpArgs false

set_option maxRecDepth 20000 in
set_option maxHeartbeats 400000 in
theorem wBytes_any (l : List UInt8) (hl : Hid (l.length < 4611686018427387904)) (w : World) : Calls Tryz.prog 109 #[str l] w (Ret (str (headL 2 l.length ++ l)) w) := by
 have hw : IntKind.u64.wrap (l.length : Int) = (l.length : Int) := IntWalk.u64_in _ (by have := hl.out; omega)
 have hno : (9223372036854775807 < (headL 2 l.length).length + l.length) = False := by have h1 := hl.out; have h2 := headL_le 2 l.length; simp; omega
 go_enter Tryz.func109, Tryz.ntmps109
 go_wp2_with (go_at_call 108; refine (head_in _ _ (by omega) (by omega) (by omega) (by have := hl.out; omega) _).mono ?_; rintro x w1 ⟨rfl, hb⟩; simp only [Int.toNat_natCast, show Int.toNat 2 = 2 from rfl])
 go_ret
 exact Ret.mk (str_app _ _) hb

set_option maxRecDepth 20000 in
set_option maxHeartbeats 400000 in
theorem wText_any (l : List UInt8) (hl : Hid (l.length < 4611686018427387904)) (w : World) : Calls Tryz.prog 110 #[str l] w (Ret (str (headL 3 l.length ++ l)) w) := by
 have hw : IntKind.u64.wrap (l.length : Int) = (l.length : Int) := IntWalk.u64_in _ (by have := hl.out; omega)
 have hno : (9223372036854775807 < (headL 3 l.length).length + l.length) = False := by have h1 := hl.out; have h2 := headL_le 3 l.length; simp; omega
 go_enter Tryz.func110, Tryz.ntmps110
 go_wp2_with (go_at_call 108; refine (head_in _ _ (by omega) (by omega) (by omega) (by have := hl.out; omega) _).mono ?_; rintro x w1 ⟨rfl, hb⟩; simp only [Int.toNat_natCast, show Int.toNat 3 = 3 from rfl])
 go_ret
 exact Ret.mk (str_app _ _) hb

set_option maxRecDepth 20000 in
set_option maxHeartbeats 400000 in
theorem rBytes_any (l : List UInt8) (hl : Hid (l.length < 4611686018427387904)) (w : World) : Calls Tryz.prog 77 #[str l] w (Ret (str (headL 2 l.length ++ l)) w) := by
 have hw : IntKind.u64.wrap (l.length : Int) = (l.length : Int) := IntWalk.u64_in _ (by have := hl.out; omega)
 have hno : (9223372036854775807 < (headL 2 l.length).length + l.length) = False := by have h1 := hl.out; have h2 := headL_le 2 l.length; simp; omega
 go_enter Tryz.func77, Tryz.ntmps77
 go_wp2_with (go_at_call 73; refine (rhead_in _ _ (by omega) (by omega) (by omega) (by have := hl.out; omega) _).mono ?_; rintro x w1 ⟨rfl, hb⟩; simp only [Int.toNat_natCast, show Int.toNat 2 = 2 from rfl])
 go_ret
 exact Ret.mk (str_app _ _) hb

end Go.Proofs.YtfgipgpbjfhflaaGreat


namespace Go.Proofs.YtfgipgpbjfhflaaGreat
open Go.RowKit
set_option linter.unusedVariables false
set_option linter.unusedSimpArgs false

theorem T.leaf_all {kind : Int} {n : Nat} {s : List UInt8} {op : Bool} {k : Nat} {f : Nat → Bool} (h : kind ≠ 4) : (T.node kind n s op k && T.all f k) = T.node kind n s op k := by
 cases hn : T.node kind n s op k with
 | false => rfl
 | true =>
  unfold T.node at hn
  by_cases a : kind = 0
  · rw [if_pos a] at hn; simp at hn; rw [hn.1.2]; rfl
  ·
   rw [if_neg a] at hn
   by_cases b : kind = 2 ∨ kind = 3
   · rw [if_pos b] at hn; simp at hn; rw [hn.1.2]; rfl
   · rw [if_neg b, if_neg h] at hn; cases hn

set_option maxRecDepth 20000 in
set_option maxHeartbeats 3200000 in
theorem right_any (t : T) : ∀ (d : Nat), d ≤ 9 → t.ok → ∀ A c w, IsL w (fun _ => True) t A →
  Calls Tryz.prog 107 #[itemV t A c, .int .i64 (d : Int)] w (Ret (.bool (t.right d)) w) := by
 induction t with
 | nil => intro m _ hok; cases hok
 | mk kind n s op k ch ih =>
  intro d hd hok A c w h
  have H := hid h; have HO := hid hok; have HD := hid hd
  have HI := hid ih
  have d0 : (0 : Int) ≤ (d : Int) := by omega
  have d1 : (d : Int) ≤ 9 := by omega
  have hk : Hid (k < 4611686018427387904) := by unfold T.ok at hok; exact hok.2.2.2.1
  have HR : Hid ((T.mk kind n s op k ch).right d = if d < 1 then false else T.node kind n s op k && T.all (fun i => (ch i).right (d - 1)) k) := rfl
  show Calls Tryz.prog 107 #[.agg #[.int .i64 kind, .int .u64 (n : Int), str s, .slice A k c, .bool op], .int .i64 (d : Int)] w (Ret (.bool ((T.mk kind n s op k ch).right d)) w)
  have HE0 := hid ((Mod.refl [] w).alloc (.cells #[.int .i64 kind, .int .u64 (n : Int), str s, .slice A k c, .bool op] 52))
  clear h hok ih hd
  by_cases hd0 : d < 1
  ·
   obtain rfl : d = 0 := by omega
   rw [HR.out, if_pos (by omega)]
   go_enter Tryz.func107, Tryz.ntmps107
   go_wp2
   go_ret
   exact Ret.mk rfl HE0.out
  ·
   rw [HR.out, if_neg hd0]
   have HD1 : Hid (1 ≤ d) := by unfold Hid; omega
   have td : decide ((d : Int) < 1) = false := by simp; omega
   have td2 : (d < 1) = False := by simp [hd0]
   have td3 : (d = 0) = False := by simp; omega
   have bs : s ≠ [] → (s == []) = false := fun h => by simp [h]
   have bS : s ≠ [] → (s = []) = False := fun h => by simp [h]
   have bn : n ≠ 0 → ((n : Int) == 0) = false := fun h => by simp [h]
   have bN : n ≠ 0 → (n = 0) = False := fun h => by simp [h]
   have bk : k ≠ 0 → ((k : Int) == 0) = false := fun h => by simp [h]
   have q1 : k ≠ 0 → (k = 0) = False := fun h => by simp [h]
   clear hd0
   by_cases a0 : kind = 0
   ·
    subst a0
    go_enter Tryz.func107, Tryz.ntmps107
    by_cases hs : s = []
    ·
     subst hs
     by_cases hk0 : k = 0
     ·
      subst hk0
      cases op
      ·
       skip
       go_wp2_with fail
       go_ret
       exact Ret.mk (by rw [T.leaf_all (by omega)]; simp [T.node]) HE0.out
      ·
       skip
       go_wp2_with fail
       go_ret
       exact Ret.mk (by rw [T.leaf_all (by omega)]; simp [T.node]) HE0.out
     ·
      have bk := bk hk0; have q1 := q1 hk0
      go_wp2_with fail
      go_ret
      exact Ret.mk (by rw [T.leaf_all (by omega)]; simp [T.node, hk0]) HE0.out
    ·
     have bs := bs hs; have bS := bS hs
     go_wp2_with fail
     go_ret
     exact Ret.mk (by rw [T.leaf_all (by omega)]; simp [T.node, hs]) HE0.out
   ·
    skip
    by_cases a2 : kind = 2
    ·
     subst a2
     go_enter Tryz.func107, Tryz.ntmps107
     have hn : n = 0 ∨ n ≠ 0 := by omega
     rcases hn with rfl | hn
     ·
      skip
      by_cases hk0 : k = 0
      ·
       subst hk0
       cases op
       ·
        skip
        go_wp2_with fail
        go_ret
        exact Ret.mk (by rw [T.leaf_all (by omega)]; simp [T.node]) HE0.out
       ·
        skip
        go_wp2_with fail
        go_ret
        exact Ret.mk (by rw [T.leaf_all (by omega)]; simp [T.node]) HE0.out
      ·
       have bk := bk hk0; have q1 := q1 hk0
       go_wp2_with fail
       go_ret
       exact Ret.mk (by rw [T.leaf_all (by omega)]; simp [T.node, hk0]) HE0.out
     ·
      have bn := bn hn; have bN := bN hn
      go_wp2_with fail
      go_ret
      exact Ret.mk (by rw [T.leaf_all (by omega)]; simp [T.node, hn]) HE0.out
    ·
     skip
     by_cases a3 : kind = 3
     ·
      subst a3
      go_enter Tryz.func107, Tryz.ntmps107
      have hn : n = 0 ∨ n ≠ 0 := by omega
      rcases hn with rfl | hn
      ·
       skip
       by_cases hk0 : k = 0
       ·
        subst hk0
        cases op
        ·
         skip
         go_wp2_with fail
         go_ret
         exact Ret.mk (by rw [T.leaf_all (by omega)]; simp [T.node]) HE0.out
        ·
         skip
         go_wp2_with fail
         go_ret
         exact Ret.mk (by rw [T.leaf_all (by omega)]; simp [T.node]) HE0.out
       ·
        have bk := bk hk0; have q1 := q1 hk0
        go_wp2_with fail
        go_ret
        exact Ret.mk (by rw [T.leaf_all (by omega)]; simp [T.node, hk0]) HE0.out
      ·
       have bn := bn hn; have bN := bN hn
       go_wp2_with fail
       go_ret
       exact Ret.mk (by rw [T.leaf_all (by omega)]; simp [T.node, hn]) HE0.out
     ·
      skip
      have e0 : (kind == 0) = false := by simp [a0]
      have e2 : (kind == 2) = false := by simp [a2]
      have e3 : (kind == 3) = false := by simp [a3]
      have f0 : (kind = 0) = False := by simp [a0]
      have f2 : (kind = 2) = False := by simp [a2]
      have f3 : (kind = 3) = False := by simp [a3]
      by_cases a4 : kind = 4
      ·
       subst a4
       clear e0 e2 e3 f0 f2 f3 a0 a2 a3
       go_enter Tryz.func107, Tryz.ntmps107
       have hn : n = 0 ∨ n ≠ 0 := by omega
       rcases hn with rfl | hn
       ·
        by_cases hs : s = []
        ·
         subst hs
         by_cases hk1 : 1000 < k
         ·
          have bK : decide (1000 < k) = true := by simp [hk1]
          have z1 : decide (k ≤ 1000) = false := by simp; omega
          go_wp2_with fail
          go_ret
          exact Ret.mk (by simp [T.node, z1]) HE0.out
         ·
          have bK : decide (1000 < k) = false := by simp; omega
          have z1 : decide (k ≤ 1000) = true := by simp; omega
          have HND : Hid (T.node 4 0 [] op k = true) := by unfold Hid; simp [T.node, z1]
          have bK3 : (1000 < k) = False := by simp; omega
          go_wp2_with fail
          clear hk1 z1 bK bK3
          go_loopw [63] (fun s63 wr => ∃ i : Nat, i ≤ k ∧ s63 = .int .i64 (i : Int) ∧ Hid (Ext w wr ∧ T.all (fun i => (ch i).right (d - 1)) i = true)) (fun i _ => k - (intOf i).toNat)
          case atStart => exact ⟨0, Nat.zero_le _, rfl, HE0.out, rfl⟩
          case round =>
           obtain ⟨i, hi, rfl, hX⟩ := hrel
           have i0 : (0 : Int) ≤ (i : Int) := by omega
           by_cases hlt : i < k
           ·
            obtain ⟨b, o, Ai, ci, rfl, hb, ⟨k0, k1, k2, k3, k4⟩, hL⟩ := H.out.cells hX.out.1 hlt
            have i1 : (i : Int) < (k : Int) := by omega
            have hk2 : (k : Int) < 4611686018427387904 := by have := hk.out; omega
            have ti : decide (i < k) = true := by simp [hlt]
            have ha : (d : Int) - 1 = ((d - 1 : Nat) : Int) := by have := HD1.out; omega
            have HL := hid hL; have HLT := hid hlt
            have HOi : Hid (ch i).ok := by have := HO.out; unfold T.ok at this; exact this.2.2.2.2 i hlt
            clear hL hlt
            go_wp2_with fail
            have HEa := hid ((Mod.refl [] wr).alloc (.cells (itemC (ch i) Ai ci) 52))
            refine (HI.out i (d - 1) (by have := HD.out; omega) HOi.out Ai ci _ (HL.out.ext HEa.out)).mono ?_
            rintro e w3 ⟨rfl, hb3⟩
            have HE3 := hid ((hX.out.1.trans HEa.out).trans hb3)
            clear hb3
            cases hpl : (ch i).right (d - 1)
            ·
             have hno : T.all (fun i => (ch i).right (d - 1)) k = false := by
              have hlt := HLT.out
              cases hh : T.all (fun i => (ch i).right (d - 1)) k with
              | false => rfl
              | true => have := T.all_iff.1 hh i hlt; rw [hpl] at this; cases this
             have HNO := hid hno
             clear hno hpl
             go_wp2_with fail
             go_ret
             exact Ret.mk (by rw [HND.out, HNO.out]; rfl) HE3.out
            ·
             have HPL := hid hpl
             clear hpl
             go_wp2_with fail
             have hlt := HLT.out
             refine ⟨⟨i + 1, by omega, by simp, (show Hid _ from ⟨HE3.out, by rw [T.all, hX.out.2, HPL.out]; rfl⟩)⟩, ?_⟩
             simp only [intOf]; omega
           ·
            obtain rfl : i = k := by omega
            have ti : decide (i < i) = false := by simp
            go_wp2_with fail
            go_ret
            exact Ret.mk (by rw [HND.out, hX.out.2]; rfl) hX.out.1
        ·
         have bs := bs hs; have bS := bS hs
         go_wp2_with fail
         go_ret
         exact Ret.mk (by simp [T.node, hs]) HE0.out
       ·
        have bn := bn hn; have bN := bN hn
        go_wp2_with fail
        go_ret
        exact Ret.mk (by simp [T.node, hn]) HE0.out
      ·
       have e4 : (kind == 4) = false := by simp [a4]
       have f4 : (kind = 4) = False := by simp [a4]
       go_enter Tryz.func107, Tryz.ntmps107
       go_wp2_with fail
       go_ret
       exact Ret.mk (by simp [T.node, a0, a2, a3, a4]) HE0.out

set_option maxRecDepth 20000 in
set_option maxHeartbeats 1600000 in
theorem iRight_any (t : T) (hok : t.ok) (A : Option Addr) (c : Nat) (w : World) (h : IsL w (fun _ => True) t A) :
  Calls Tryz.prog 70 #[itemV t A c] w (Ret (.bool (t.right 8)) w) := by
 have H := hid h; have HO := hid hok
 clear h hok
 have HE0 := hid ((Mod.refl [] w).alloc (.cells (itemC t A c) 52))
 go_enter Tryz.func70, Tryz.ntmps70
 go_wp2_with fail
 refine (right_any t 8 (by omega) HO.out A c _ (H.out.ext HE0.out)).mono ?_
 rintro e w2 ⟨rfl, hb2⟩
 go_wp2_with fail
 go_ret
 exact Ret.mk rfl (HE0.out.trans hb2)
end Go.Proofs.YtfgipgpbjfhflaaGreat


namespace Go.Proofs.YtfgipgpbjfhflaaGreat
open Go.RowKit
set_option linter.unusedVariables false
set_option linter.unusedSimpArgs false

theorem Blk.new' (w : World) (t : TypeId) (cs : Array Value) {N : Nat} (h : w.heap.size = N) : Blk (w.alloc (.cells cs t)) N t cs := by subst h; exact Blk.new _ _ _
theorem openL4 : openL 4 = [159] := by decide
theorem openL7 : openL 7 = [255] := by decide

set_option maxRecDepth 20000 in
set_option maxHeartbeats 3200000 in
theorem build_any (t : T) : t.ok → t.plain = true → t.size ≤ 100000 → ∀ A c w, IsL w (fun _ => True) t A →
  Calls Tryz.prog 71 #[itemV t A c] w (Ret (str t.bytes) w) := by
 induction t with
 | nil => intro hok; cases hok
 | mk kind n s op k ch ih =>
  intro hok hpl hsz A c w h
  have H := hid h; have HO := hid hok; have HPL := hid hpl; have HSZ := hid hsz
  have HI := hid ih
  have hk : Hid (k < 4611686018427387904) := by unfold T.ok at hok; exact hok.2.2.2.1
  have hn64 : Hid (n < 18446744073709551616) := by unfold T.ok at hok; exact hok.2.1
  have hs64 : Hid (s.length < 4611686018427387904) := by unfold T.ok at hok; exact hok.2.2.1
  have hkd : kind = 0 ∨ kind = 2 ∨ kind = 3 ∨ kind = 4 := by unfold T.plain at hpl; rw [Bool.and_eq_true] at hpl; exact T.node_kind hpl.1
  have hpc : Hid (∀ i, i < k → (ch i).plain = true) := by unfold T.plain at hpl; rw [Bool.and_eq_true, T.all_iff] at hpl; exact hpl.2
  have hBy : (T.mk kind n s op k ch).bytes = if kind = 0 then headL 0 n else if kind < 4 then headL kind.toNat s.length ++ s else (if op then [159] else headL 4 k) ++ (T.cat (fun i => (ch i).bytes) k ++ (if op then [255] else [])) := rfl
  have HBy := hid hBy
  show Calls Tryz.prog 71 #[.agg #[.int .i64 kind, .int .u64 (n : Int), str s, .slice A k c, .bool op]] w (Ret (str (T.mk kind n s op k ch).bytes) w)
  have HB : Hid (Blk (w.alloc (.cells #[.int .i64 kind, .int .u64 (n : Int), str s, .slice A k c, .bool op] 52)) w.heap.size 52 #[.int .i64 kind, .int .u64 (n : Int), str s, .slice A k c, .bool op]) := Blk.new _ _ _
  have HE0 := hid ((Mod.refl [] w).alloc (.cells #[.int .i64 kind, .int .u64 (n : Int), str s, .slice A k c, .bool op] 52))
  clear h hok hpl hsz ih hBy
  rcases hkd with rfl | rfl | rfl | rfl
  ·
   rw [HBy.out, if_pos rfl]
   go_enter Tryz.func71, Tryz.ntmps71
   go_wp2_with fail
   refine (head_in 0 n (by omega) (by omega) (by omega) (by have := hn64.out; omega) _).mono ?_
   rintro e w2 ⟨rfl, hb2⟩
   go_wp2_with fail
   go_ret
   exact Ret.mk rfl (HE0.out.trans hb2)
  ·
   rw [HBy.out, if_neg (by omega), if_pos (by omega)]
   go_enter Tryz.func71, Tryz.ntmps71
   go_wp2_with fail
   refine (wBytes_any s hs64 _).mono ?_
   rintro e w2 ⟨rfl, hb2⟩
   go_wp2_with fail
   go_ret
   exact Ret.mk rfl (HE0.out.trans hb2)
  ·
   rw [HBy.out, if_neg (by omega), if_pos (by omega)]
   go_enter Tryz.func71, Tryz.ntmps71
   go_wp2_with fail
   refine (wText_any s hs64 _).mono ?_
   rintro e w2 ⟨rfl, hb2⟩
   go_wp2_with fail
   go_ret
   exact Ret.mk rfl (HE0.out.trans hb2)
  ·
   clear HBy
   have K0 : (0 : Int) ≤ (k : Int) := by omega
   have K1 : (k : Int) < 9223372036854775808 := by have := hk.out; omega
   cases op
   ·
    go_enter Tryz.func71, Tryz.ntmps71
    go_wp2_with fail
    refine (head_in 4 (k : Int) (by omega) (by omega) (by omega) (by have := hk.out; omega) _).mono ?_
    rintro e w2 ⟨rfl, hb2⟩
    rw [Int.toNat_natCast]
    have HE2 := hid (HE0.out.trans hb2)
    have HB2 := hid (HB.out.ext hb2)
    have c4 : w2.cell? ⟨w.heap.size, 4, none⟩ = some (.bool false) := HB2.out.cell 4
    have c3 : w2.cell? ⟨w.heap.size, 3, none⟩ = some (.slice A k c) := HB2.out.cell 3
    clear hb2 K1
    go_wp2_with fail
    clear c4 c3
    go_loopw [3, 36] (fun s3 s36 wr => ∃ i : Nat, i ≤ k ∧ s36 = .int .i64 (i : Int) ∧ s3 = str (pre 4 s false k ch i) ∧ Hid (Ext w wr)) (fun _ i _ => k - (intOf i).toNat)
    case atStart => exact ⟨0, Nat.zero_le _, rfl, by simp [pre, T.cat], HE2.out⟩
    case round =>
     obtain ⟨i, hi, rfl, rfl, hH⟩ := hrel
     have i0 : (0 : Int) ≤ (i : Int) := by omega
     have HP := hid (pre_le (op := false) hi HSZ.out)
     by_cases hlt : i < k
     ·
      obtain ⟨b, o, Ai, ci, rfl, hb, ⟨k0, k1, k2, k3, k4⟩, hL⟩ := H.out.cells hH.out hlt
      have i1 : (i : Int) < (k : Int) := by omega
      have ti : decide (i < k) = true := by simp [hlt]
      have HL := hid hL; have HLT := hid hlt
      have HOi : Hid (ch i).ok := by have := HO.out; unfold T.ok at this; exact this.2.2.2.2 i hlt
      have HZi : Hid ((ch i).size ≤ 100000) := Nat.le_trans (T.size_ch hlt) HSZ.out
      have HPS := hid (pre_succ 4 s false k ch i)
      have hno : (9223372036854775807 < (pre 4 s false k ch i).length + (ch i).bytes.length) = False := by
       have h1 := pre_le (op := false) (show i + 1 ≤ k by omega) HSZ.out
       rw [HPS.out, List.length_append] at h1
       simp; omega
      have hk2 : (k : Int) < 4611686018427387904 := by have := hk.out; omega
      have HEa := hid ((Mod.refl [] wr).alloc (.cells (itemC (ch i) Ai ci) 52))
      clear hL hlt
      go_wp2_with fail
      refine (HI.out i HOi.out (hpc.out i HLT.out) HZi.out Ai ci _ (HL.out.ext HEa.out)).mono ?_
      rintro e w3 ⟨rfl, hb3⟩
      have HE3 := hid ((hH.out.trans HEa.out).trans hb3)
      clear hb3
      go_wp2_with fail
      have hlt := HLT.out
      refine ⟨⟨i + 1, by omega, by simp, by rw [HPS.out]; exact str_app _ _, (show Hid _ from HE3.out)⟩, ?_⟩
      simp only [intOf]; omega
     ·
      obtain rfl : i = k := by omega
      have ti : decide (i < i) = false := by simp
      have HPE := hid (pre_end (n := n) (s := s) (op := false) (k := i) (ch := ch))
      have hno : (9223372036854775807 < (pre 4 s false i ch i).length) = False := by have := HP.out; simp; omega
      go_wp2_with fail
      go_ret
      exact Ret.mk (by rw [HPE.out]; exact str_app _ []) hH.out
   ·
    go_enter Tryz.func71, Tryz.ntmps71
    go_wp2_with fail
    refine (head_in 4 (k : Int) (by omega) (by omega) (by omega) (by have := hk.out; omega) _).mono ?_
    rintro e w2 ⟨rfl, hb2⟩
    rw [Int.toNat_natCast]
    have HE2 := hid (HE0.out.trans hb2)
    have HB2 := hid (HB.out.ext hb2)
    have c4 : w2.cell? ⟨w.heap.size, 4, none⟩ = some (.bool true) := HB2.out.cell 4
    have c3 : w2.cell? ⟨w.heap.size, 3, none⟩ = some (.slice A k c) := HB2.out.cell 3
    clear hb2 K1
    go_wp2_with fail
    refine (open_any 4 _).mono ?_
    rintro e w3 ⟨rfl, hb3⟩
    rw [openL4]
    go_wp2_with fail
    refine (open_any 7 _).mono ?_
    rintro e w4 ⟨rfl, hb4⟩
    rw [openL7]
    have HE4 := hid ((HE2.out.trans hb3).trans hb4)
    have HB4 := hid ((HB2.out.ext hb3).ext hb4)
    clear hb3 hb4 c3 c4 HE2 HB2
    have HE2 := HE4
    have c3 : w4.cell? ⟨w.heap.size, 3, none⟩ = some (.slice A k c) := HB4.out.cell 3
    have c4 : w4.cell? ⟨w.heap.size, 4, none⟩ = some (.bool true) := HB4.out.cell 4
    go_wp2_with fail
    clear c4 c3
    go_loopw [3, 36] (fun s3 s36 wr => ∃ i : Nat, i ≤ k ∧ s36 = .int .i64 (i : Int) ∧ s3 = str (pre 4 s true k ch i) ∧ Hid (Ext w wr)) (fun _ i _ => k - (intOf i).toNat)
    case atStart => exact ⟨0, Nat.zero_le _, rfl, by simp [pre, T.cat], HE2.out⟩
    case round =>
     obtain ⟨i, hi, rfl, rfl, hH⟩ := hrel
     have i0 : (0 : Int) ≤ (i : Int) := by omega
     have HP := hid (pre_le (op := true) hi HSZ.out)
     by_cases hlt : i < k
     ·
      obtain ⟨b, o, Ai, ci, rfl, hb, ⟨k0, k1, k2, k3, k4⟩, hL⟩ := H.out.cells hH.out hlt
      have i1 : (i : Int) < (k : Int) := by omega
      have ti : decide (i < k) = true := by simp [hlt]
      have HL := hid hL; have HLT := hid hlt
      have HOi : Hid (ch i).ok := by have := HO.out; unfold T.ok at this; exact this.2.2.2.2 i hlt
      have HZi : Hid ((ch i).size ≤ 100000) := Nat.le_trans (T.size_ch hlt) HSZ.out
      have HPS := hid (pre_succ 4 s true k ch i)
      have hno : (9223372036854775807 < (pre 4 s true k ch i).length + (ch i).bytes.length) = False := by
       have h1 := pre_le (op := true) (show i + 1 ≤ k by omega) HSZ.out
       rw [HPS.out, List.length_append] at h1
       simp; omega
      have hk2 : (k : Int) < 4611686018427387904 := by have := hk.out; omega
      have HEa := hid ((Mod.refl [] wr).alloc (.cells (itemC (ch i) Ai ci) 52))
      clear hL hlt
      go_wp2_with fail
      refine (HI.out i HOi.out (hpc.out i HLT.out) HZi.out Ai ci _ (HL.out.ext HEa.out)).mono ?_
      rintro e w3 ⟨rfl, hb3⟩
      have HE3 := hid ((hH.out.trans HEa.out).trans hb3)
      clear hb3
      go_wp2_with fail
      have hlt := HLT.out
      refine ⟨⟨i + 1, by omega, by simp, by rw [HPS.out]; exact str_app _ _, (show Hid _ from HE3.out)⟩, ?_⟩
      simp only [intOf]; omega
     ·
      obtain rfl : i = k := by omega
      have ti : decide (i < i) = false := by simp
      have HPE := hid (pre_end (n := n) (s := s) (op := true) (k := i) (ch := ch))
      have hno : (9223372036854775807 < (pre 4 s true i ch i).length + 1) = False := by have := HP.out; simp; omega
      go_wp2_with fail
      go_ret
      exact Ret.mk (by rw [HPE.out]; exact str_app _ [255]) hH.out

/-- What Build hands back. -/
def buildV (t : T) : Value := if t.right 8 then .tuple #[str t.bytes, .int .i64 0] else .tuple #[str [], .int .i64 1]
set_option maxRecDepth 20000 in
set_option maxHeartbeats 1600000 in
theorem iBuild_any (t : T) (hok : t.ok) (hsz : t.size ≤ 100000) (A : Option Addr) (c : Nat) (w : World) (h : IsL w (fun _ => True) t A) :
  Calls Tryz.prog 35 #[itemV t A c] w (Ret (buildV t) w) := by
 have H := hid h; have HO := hid hok; have HS := hid hsz
 have HB : Hid (Blk (w.alloc (.cells (itemC t A c) 52)) w.heap.size 52 (itemC t A c)) := Blk.new _ _ _
 have HE0 := hid ((Mod.refl [] w).alloc (.cells (itemC t A c) 52))
 have HPL : Hid (t.right 8 = true → t.plain = true) := fun h => by rw [T.right_eq] at h; simp at h; exact h.2
 clear h hok hsz
 go_enter Tryz.func35, Tryz.ntmps35
 go_wp2_with fail
 refine (iRight_any t HO.out A c _ (H.out.ext HE0.out)).mono ?_
 rintro e w2 ⟨rfl, hb2⟩
 have HE2 := hid (HE0.out.trans hb2)
 have hB2 := HB.out.ext hb2
 have c0 : w2.cell? ⟨w.heap.size, 0, none⟩ = some (.int .i64 t.kind) := hB2.cell 0
 have c1 : w2.cell? ⟨w.heap.size, 1, none⟩ = some (.int .u64 (t.n : Int)) := hB2.cell 1
 have c2 : w2.cell? ⟨w.heap.size, 2, none⟩ = some (str t.s) := hB2.cell 2
 have c3 : w2.cell? ⟨w.heap.size, 3, none⟩ = some (.slice A t.k c) := hB2.cell 3
 have c4 : w2.cell? ⟨w.heap.size, 4, none⟩ = some (.bool t.op) := hB2.cell 4
 clear hb2 hB2
 cases hr : t.right 8
 ·
  have HR := hid hr
  clear hr
  go_wp2_with fail
  go_ret2
  exact Ret.mk (by rw [buildV, HR.out]; rfl) HE2.out
 ·
  have HR := hid hr
  clear hr
  go_wp2_with fail
  refine (build_any t HO.out (HPL.out HR.out) HS.out A c _ (H.out.ext HE2.out)).mono ?_
  rintro e w3 ⟨rfl, hb3⟩
  go_wp2_with fail
  go_ret2
  exact Ret.mk (by rw [buildV, HR.out]; rfl) (HE2.out.trans hb3)
end Go.Proofs.YtfgipgpbjfhflaaGreat


namespace Go.Proofs.YtfgipgpbjfhflaaGreat
open Go.RowKit
set_option linter.unusedVariables false
set_option linter.unusedSimpArgs false

theorem EV.ok_cases {e : EV} (h : e.ok = true) : (e = ⟨1, [110, 111, 110, 101], 0, 0⟩) ∨ (∃ name, e = ⟨1, name, 0, 0⟩ ∧ name ≠ [110, 111, 110, 101] ∧ name.length ≤ 60) ∨ (∃ node svc, e = ⟨2, [], node, svc⟩ ∧ node ≤ 4294967295 ∧ svc ≤ 4294967295) := by
 obtain ⟨sch, name, node, svc⟩ := e
 unfold EV.ok at h
 simp only [] at h
 by_cases h1 : sch = 1
 ·
  rw [if_pos h1] at h
  simp only [Bool.and_eq_true, decide_eq_true_eq] at h
  obtain ⟨⟨rfl, rfl⟩, hn⟩ := h
  subst h1
  by_cases h0 : name = [110, 111, 110, 101]
  · subst h0; exact .inl rfl
  ·
   refine .inr (.inl ⟨name, rfl, h0, ?_⟩)
   have h00 : ¬ name = noneL := h0
   simp only [namedL, h00, decide_false, Bool.false_or, Bool.and_eq_true, decide_eq_true_eq] at hn
   by_cases hl : name.length ≤ 60
   · exact hl
   ·
    exfalso
    apply hn.1
    unfold nodeN
    rw [if_neg (fun h => hl h.2)]
 ·
  rw [if_neg h1] at h
  by_cases h2 : sch = 2
  ·
   rw [if_pos h2] at h
   simp only [Bool.and_eq_true, decide_eq_true_eq] at h
   obtain ⟨⟨rfl, ha⟩, hb⟩ := h
   subst h2
   exact .inr (.inr ⟨node, svc, rfl, ha, hb⟩)
  ·
   rw [if_neg h2] at h
   cases h
theorem eidItem_ok (e : EV) (ho : e.ok = true) (w : World) : Calls Tryz.prog 132 #[e.v] w (fun r w' => ∃ A, r = .returned (.tuple #[itemV (eidT e) A 2, .int .i64 0]) ∧ Ext w w' ∧ IsL w' (fun b => w.heap.size ≤ b) (eidT e) A) := by
 rcases EV.ok_cases ho with rfl | ⟨name, rfl, hn, hl⟩ | ⟨node, svc, rfl, ha, hb⟩
 · exact eidItem_none w
 · exact eidItem_dtn name (by unfold Hid; omega) hn ho w
 ·
  have e1 : eidT ⟨2, [], node, svc⟩ = ipnT node svc := rfl
  rw [e1]
  exact eidItem_ipn node svc ha hb w
theorem text_ok {s : List UInt8} (h : s.length < 4611686018427387904) : (textT s).ok := by unfold textT T.ok; exact ⟨by omega, by omega, h, by omega, fun i hi => by omega⟩
theorem eidT_ok {e : EV} (ho : e.ok = true) : (eidT e).ok ∧ (∀ d, 3 ≤ d → (eidT e).right d = true) ∧ (eidT e).plain = true ∧ (eidT e).size ≤ 100000 := by
 rcases EV.ok_cases ho with rfl | ⟨name, rfl, hn, hl⟩ | ⟨node, svc, rfl, ha, hb⟩
 ·
  refine ⟨?_, fun d hd => ?_, by decide, by decide⟩
  ·
   unfold eidT T.ok
   exact ⟨by omega, by omega, by simp, by omega, fun i hi => by dsimp only; split; exact num_ok (by decide); exact num_ok (by decide)⟩
  ·
   have h1 : ¬ d < 1 := by omega
   have h2 : ¬ d - 1 < 1 := by omega
   simp [eidT, twoT, noneL, T.right, h1, h2, T.node, T.all, numT]
 ·
  have h0 : ¬ name = noneL := hn
  have e1 : twoT ⟨1, name, 0, 0⟩ = textT name := by simp [twoT, h0]
  refine ⟨?_, fun d hd => ?_, ?_, ?_⟩
  ·
   unfold eidT T.ok
   exact ⟨by omega, by omega, by simp, by omega, fun i hi => by dsimp only; split; exact num_ok (by decide); rw [e1]; exact text_ok (by omega)⟩
  ·
   have h1 : ¬ d < 1 := by omega
   have h2 : ¬ d - 1 < 1 := by omega
   simp [eidT, e1, T.right, h1, h2, T.node, T.all, numT, textT]
  · simp [eidT, e1, T.plain, T.node, T.all, numT, textT]
  · simp [eidT, e1, T.size, T.sum, numT, textT]; omega
 ·
  refine ⟨?_, fun d hd => ?_, ?_, ?_⟩
  ·
   unfold eidT T.ok
   refine ⟨by omega, by omega, by simp, by omega, fun i hi => ?_⟩
   dsimp only
   split
   · exact num_ok (by decide)
   ·
    show (T.mk 4 0 [] false 2 (fun j => if j = 0 then numT node else numT svc)).ok
    unfold T.ok
    exact ⟨by omega, by omega, by simp, by omega, fun i hi => by dsimp only; split; exact num_ok (by omega); exact num_ok (by omega)⟩
  ·
   have h1 : ¬ d < 1 := by omega
   have h2 : ¬ d - 1 < 1 := by omega
   have h3 : ¬ d - 1 - 1 < 1 := by omega
   simp [eidT, twoT, T.right, h1, h2, h3, T.node, T.all, numT]
  · simp [eidT, twoT, T.plain, T.node, T.all, numT]
  · simp [eidT, twoT, T.size, T.sum, numT]

theorem two_IsL {W : World} {Q : Nat → Prop} {g : Nat} (t0 t1 : T) (A0 A1 : Option Addr) (c0 c1 : Nat) (q : Q g)
  (h : Blk W g 52 #[.int .i64 t0.kind, .int .u64 (t0.n : Int), str t0.s, .slice A0 t0.k c0, .bool t0.op, .int .i64 t1.kind, .int .u64 (t1.n : Int), str t1.s, .slice A1 t1.k c1, .bool t1.op]) (h0 : IsL W Q t0 A0) (h1 : IsL W Q t1 A1) : IsL W Q (T.mk 4 0 [] false 2 fun i => if i = 0 then t0 else t1) (some ⟨g, 0, none⟩) := fun _ => ⟨g, 0, rfl, h.lt, q, fun i hi => by
 have hi2 : i = 0 ∨ i = 1 := by omega
 rcases hi2 with rfl | rfl
 · exact ⟨A0, c0, ⟨h.cell 0, h.cell 1, h.cell 2, h.cell 3, h.cell 4⟩, h0⟩
 · exact ⟨A1, c1, ⟨h.cell 5, h.cell 6, h.cell 7, h.cell 8, h.cell 9⟩, h1⟩⟩
theorem leaf_IsL {W : World} {Q : Nat → Prop} {t : T} {A : Option Addr} (h : t.k = 0) (hn : t ≠ T.nil) : IsL W Q t A := by
 cases t with
 | nil => exact absurd rfl hn
 | mk kind n s op k ch => intro h0; have : k = 0 := h; omega

set_option maxRecDepth 20000 in
set_option maxHeartbeats 1600000 in
theorem r10Item_none (w : World) : Calls Tryz.prog 76 #[EV.v ⟨1, [110, 111, 110, 101], 0, 0⟩] w (fun r w' => ∃ A, r = .returned (itemV (eidT ⟨1, [110, 111, 110, 101], 0, 0⟩) A 2) ∧ Ext w w' ∧ IsL w' (fun b => w.heap.size ≤ b) (eidT ⟨1, [110, 111, 110, 101], 0, 0⟩) A) := by
 go_enter Tryz.func76, Tryz.ntmps76
 go_wp2_with fail
 refine bodyPost_ret (v := itemV (eidT ⟨1, [110, 111, 110, 101], 0, 0⟩) (some ⟨w.heap.size + 1 + 1 + 1, 0, none⟩) 2) (by simp [results, Tryz.results76, go_sem]; exact ⟨rfl, rfl, rfl, rfl, rfl⟩) rfl ?_
 refine ⟨_, rfl, ((((Mod.refl _ _).alloc _).alloc _).alloc _).alloc _, ?_⟩
 exact two_IsL (numT 1) (numT 0) none none 0 0 (show w.heap.size ≤ w.heap.size + 1 + 1 + 1 by omega) (Blk.new' _ _ _ (by simp)) (leaf_IsL rfl (by simp [numT])) (leaf_IsL rfl (by simp [numT]))
set_option maxRecDepth 20000 in
set_option maxHeartbeats 1600000 in
theorem r10Item_dtn (name : List UInt8) (hn : name ≠ [110, 111, 110, 101]) (w : World) : Calls Tryz.prog 76 #[EV.v ⟨1, name, 0, 0⟩] w (fun r w' => ∃ A, r = .returned (itemV (eidT ⟨1, name, 0, 0⟩) A 2) ∧ Ext w w' ∧ IsL w' (fun b => w.heap.size ≤ b) (eidT ⟨1, name, 0, 0⟩) A) := by
 have h0 : ¬ name = noneL := hn
 have e1 : eidT ⟨1, name, 0, 0⟩ = T.mk 4 0 [] false 2 fun i => if i = 0 then numT 1 else textT name := by simp [eidT, twoT, h0]
 rw [e1]
 have n1 : (name == [110, 111, 110, 101]) = false := by simpa using hn
 have n2 : (name = [110, 111, 110, 101]) = False := by simpa using hn
 have n3 : (name != [110, 111, 110, 101]) = true := by simpa using hn
 clear e1 h0 hn
 go_enter Tryz.func76, Tryz.ntmps76
 go_wp2_with fail
 refine bodyPost_ret (v := itemV (T.mk 4 0 [] false 2 fun i => if i = 0 then numT 1 else textT name) (some ⟨w.heap.size + 1 + 1 + 1, 0, none⟩) 2) (by simp [results, Tryz.results76, go_sem]; exact ⟨rfl, rfl, rfl, rfl, rfl⟩) rfl ?_
 refine ⟨_, rfl, ((((Mod.refl _ _).alloc _).alloc _).alloc _).alloc _, ?_⟩
 exact two_IsL (numT 1) (textT name) none none 0 0 (show w.heap.size ≤ w.heap.size + 1 + 1 + 1 by omega) (Blk.new' _ _ _ (by simp)) (leaf_IsL rfl (by simp [numT])) (leaf_IsL rfl (by simp [textT]))
set_option maxRecDepth 20000 in
set_option maxHeartbeats 1600000 in
theorem r10Item_ipn (node svc : Nat) (w : World) : Calls Tryz.prog 76 #[EV.v ⟨2, [], node, svc⟩] w (fun r w' => ∃ A, r = .returned (itemV (eidT ⟨2, [], node, svc⟩) A 2) ∧ Ext w w' ∧ IsL w' (fun b => w.heap.size ≤ b) (eidT ⟨2, [], node, svc⟩) A) := by
 go_enter Tryz.func76, Tryz.ntmps76
 go_wp2_with fail
 refine bodyPost_ret (v := itemV (eidT ⟨2, [], node, svc⟩) (some ⟨w.heap.size + 1 + 1 + 1 + 1, 0, none⟩) 2) (by simp [results, Tryz.results76, go_sem]; exact ⟨rfl, rfl, rfl, rfl, rfl⟩) rfl ?_
 refine ⟨_, rfl, (((((Mod.refl _ _).alloc _).alloc _).alloc _).alloc _).alloc _, ?_⟩
 refine two_IsL (numT 2) (T.mk 4 0 [] false 2 (fun j => if j = 0 then numT node else numT svc)) none (some ⟨w.heap.size + 1 + 1 + 1, 0, none⟩) 0 2 (show w.heap.size ≤ w.heap.size + 1 + 1 + 1 + 1 by omega) (Blk.new' _ _ _ (by simp)) (leaf_IsL rfl (by simp [numT])) ?_
 exact two_IsL (numT node) (numT svc) none none 0 0 (show w.heap.size ≤ w.heap.size + 1 + 1 + 1 by omega) ((Blk.new' _ _ _ (by simp)).alloc _) (leaf_IsL rfl (by simp [numT])) (leaf_IsL rfl (by simp [numT]))
theorem r10Item_ok (e : EV) (ho : e.ok = true) (w : World) : Calls Tryz.prog 76 #[e.v] w (fun r w' => ∃ A, r = .returned (itemV (eidT e) A 2) ∧ Ext w w' ∧ IsL w' (fun b => w.heap.size ≤ b) (eidT e) A) := by
 rcases EV.ok_cases ho with rfl | ⟨name, rfl, hn, hl⟩ | ⟨node, svc, rfl, ha, hb⟩
 · exact r10Item_none w
 · exact r10Item_dtn name hn w
 · exact r10Item_ipn node svc w
end Go.Proofs.YtfgipgpbjfhflaaGreat


namespace Go.Proofs.YtfgipgpbjfhflaaGreat
set_option linter.unusedVariables false
set_option linter.unusedSimpArgs false
namespace Crc

/-- So many bits about. -/
def rv : Nat → Nat → Nat
 | 0, _ => 0
 | n + 1, x => 2 ^ n * (x % 2) + rv n (x / 2)
theorem rv_lt : ∀ (n x : Nat), rv n x < 2 ^ n
 | 0, _ => by simp [rv]
 | n + 1, x => by
  have h := rv_lt n (x / 2)
  have h2 : x % 2 < 2 := Nat.mod_lt _ (by omega)
  have : x % 2 = 0 ∨ x % 2 = 1 := by omega
  unfold rv
  rcases this with e | e <;> rw [e, Nat.pow_succ] <;> omega
theorem rv_bit : ∀ (n x i : Nat), (rv n x).testBit i = (decide (i < n) && x.testBit (n - 1 - i))
 | 0, x, i => by simp [rv]
 | n + 1, x, i => by
  have h := rv_bit n (x / 2) i
  have hl := rv_lt n (x / 2)
  unfold rv
  rw [Nat.testBit_two_pow_mul_add _ hl]
  by_cases hi : i < n
  ·
   rw [if_pos hi, h]
   have e : n + 1 - 1 - i = (n - 1 - i) + 1 := by omega
   rw [e, Nat.testBit_succ]
   simp [hi, Nat.lt_succ_of_lt hi]
  ·
   rw [if_neg hi]
   by_cases hin : i = n
   ·
    subst hin
    simp [Nat.testBit_zero]
   ·
    have h1 : ¬ i < n + 1 := by omega
    have h3 : i - n = (i - n - 1) + 1 := by omega
    have h4 : x % 2 / 2 = 0 := by omega
    simp only [h1, decide_false, Bool.false_and]
    rw [h3, Nat.testBit_succ, h4, Nat.zero_testBit]
theorem rv_xor (n x y : Nat) : rv n (x ^^^ y) = rv n x ^^^ rv n y := by
 apply Nat.eq_of_testBit_eq
 intro i
 rw [Nat.testBit_xor, rv_bit, rv_bit, rv_bit, Nat.testBit_xor]
 cases decide (i < n) <;> simp
theorem rv_rv (n x : Nat) (h : x < 2 ^ n) : rv n (rv n x) = x := by
 apply Nat.eq_of_testBit_eq
 intro i
 rw [rv_bit, rv_bit]
 by_cases hi : i < n
 ·
  have e : n - 1 - (n - 1 - i) = i := by omega
  have e2 : n - 1 - i < n := by omega
  simp [hi, e, e2]
 ·
  have : x < 2 ^ i := Nat.lt_of_lt_of_le h (Nat.pow_le_pow_right (by omega) (by omega))
  simp [hi, Nat.testBit_lt_two_pow this]
theorem rv_high (m x : Nat) : rv (m + 1) x / 2 ^ m = x % 2 := by
 unfold rv
 rw [Nat.mul_add_div (Nat.two_pow_pos m), Nat.div_eq_of_lt (rv_lt m _)]
 omega
theorem rv_half (m x : Nat) (h : x < 2 ^ (m + 1)) : rv (m + 1) (x / 2) = rv (m + 1) x * 2 % 2 ^ (m + 1) := by
 apply Nat.eq_of_testBit_eq
 intro i
 rw [rv_bit, Nat.testBit_mod_two_pow, ← Nat.testBit_succ]
 cases i with
 | zero =>
  have e : (m + 1 - 1 - 0).succ = m + 1 := by omega
  rw [e, Nat.testBit_lt_two_pow h]
  simp [Nat.testBit_zero]
 | succ i =>
  have t : (rv (m + 1) x * 2).testBit (i + 1) = (rv (m + 1) x).testBit i := by rw [Nat.testBit_succ, Nat.mul_div_cancel _ (by omega : 0 < 2)]
  rw [t, rv_bit]
  by_cases hi : i + 1 < m + 1
  ·
   have e : (m + 1 - 1 - (i + 1)).succ = m + 1 - 1 - i := by omega
   have h2 : i < m + 1 := by omega
   simp only [hi, h2, e, decide_true, Bool.true_and]
  · simp [hi]

/-- The code's step, its byte, its row. -/
def stepC (p s : Nat) : Nat := if s % 2 = 1 then s / 2 ^^^ p else s / 2
def stepsC (p : Nat) : Nat → Nat → Nat
 | 0, s => s
 | k + 1, s => stepsC p k (stepC p s)
def divC (p : Nat) (s : Nat) (l : List UInt8) : Nat := l.foldl (fun s c => stepsC p 8 (s ^^^ c.toNat)) s
/-- The same step, with a bit of the row. -/
def stepB (p s b : Nat) : Nat := if s % 2 = b then s / 2 else s / 2 ^^^ p
def stepsB (p : Nat) : Nat → Nat → Nat → Nat
 | 0, s, _ => s
 | k + 1, s, c => stepsB p k (stepB p s (c % 2)) (c / 2)
/-- The reference's step, its byte, its row. -/
def stepR (top d r b : Nat) : Nat := if r / (top / 2) = b then r * 2 % top else (r * 2 % top) ^^^ d
def stepsR (top d : Nat) : Nat → Nat → Nat → Nat
 | 0, r, _ => r
 | k + 1, r, c => stepsR top d k (stepR top d r (c % 2)) (c / 2)
def divR (top d : Nat) (r : Nat) (l : List UInt8) : Nat := l.foldl (fun r c => stepsR top d 8 r c.toNat) r

theorem xor_mod (a b : Nat) : (a ^^^ b) % 2 = if a % 2 = b % 2 then 0 else 1 := by
 have h := Nat.testBit_xor a b 0
 simp only [Nat.testBit_zero] at h
 rcases Nat.mod_two_eq_zero_or_one a with ha | ha <;> rcases Nat.mod_two_eq_zero_or_one b with hb | hb <;> rcases Nat.mod_two_eq_zero_or_one (a ^^^ b) with hab | hab <;> simp [ha, hb, hab] at h ⊢
theorem xor_half (a b : Nat) : (a ^^^ b) / 2 = a / 2 ^^^ b / 2 := by
 apply Nat.eq_of_testBit_eq
 intro i
 rw [← Nat.testBit_succ, Nat.testBit_xor, Nat.testBit_xor, ← Nat.testBit_succ, ← Nat.testBit_succ]
theorem stepC_xor (p s c : Nat) : stepC p (s ^^^ c) = stepB p s (c % 2) ^^^ (c / 2) := by
 unfold stepC stepB
 rw [xor_mod, xor_half]
 by_cases h : s % 2 = c % 2
 · simp [h]
 ·
  simp only [h, if_false, if_true]
  rw [Nat.xor_assoc, Nat.xor_comm (c / 2), ← Nat.xor_assoc]
theorem stepsC_xor (p : Nat) : ∀ (k s c : Nat), stepsC p k (s ^^^ c) = stepsB p k s c ^^^ (c / 2 ^ k)
 | 0, s, c => by simp [stepsC, stepsB]
 | k + 1, s, c => by
  show stepsC p k (stepC p (s ^^^ c)) = stepsB p k (stepB p s (c % 2)) (c / 2) ^^^ (c / 2 ^ (k + 1))
  rw [stepC_xor, stepsC_xor p k, Nat.div_div_eq_div_mul, Nat.pow_succ, Nat.mul_comm]
theorem stepB_lt {m p s b : Nat} (hp : p < 2 ^ (m + 1)) (hs : s < 2 ^ (m + 1)) : stepB p s b < 2 ^ (m + 1) := by
 unfold stepB
 split
 · omega
 · exact Nat.xor_lt_two_pow (by omega) hp
theorem stepsB_lt {m p : Nat} (hp : p < 2 ^ (m + 1)) : ∀ (k s c : Nat), s < 2 ^ (m + 1) → stepsB p k s c < 2 ^ (m + 1)
 | 0, s, c, h => h
 | k + 1, s, c, h => stepsB_lt hp k _ _ (stepB_lt hp h)
theorem stepR_rv {m p s b : Nat} (hs : s < 2 ^ (m + 1)) : stepR (2 ^ (m + 1)) (rv (m + 1) p) (rv (m + 1) s) b = rv (m + 1) (stepB p s b) := by
 have e : 2 ^ (m + 1) / 2 = 2 ^ m := by rw [Nat.pow_succ]; omega
 unfold stepR stepB
 rw [e, rv_high]
 split
 · rw [rv_half m s hs]
 · rw [rv_xor, rv_half m s hs]
theorem stepsR_rv {m p : Nat} (hp : p < 2 ^ (m + 1)) : ∀ (k s c : Nat), s < 2 ^ (m + 1) → stepsR (2 ^ (m + 1)) (rv (m + 1) p) k (rv (m + 1) s) c = rv (m + 1) (stepsB p k s c)
 | 0, s, c, h => rfl
 | k + 1, s, c, h => by
  show stepsR _ _ k (stepR _ _ _ _) _ = rv _ (stepsB p k (stepB p s _) _)
  rw [stepR_rv h]
  exact stepsR_rv hp k _ _ (stepB_lt hp h)
theorem byte_rv {m p s : Nat} (hp : p < 2 ^ (m + 1)) (hs : s < 2 ^ (m + 1)) (c : UInt8) :
  stepsR (2 ^ (m + 1)) (rv (m + 1) p) 8 (rv (m + 1) s) c.toNat = rv (m + 1) (stepsC p 8 (s ^^^ c.toNat)) ∧ stepsC p 8 (s ^^^ c.toNat) < 2 ^ (m + 1) := by
 have h0 : c.toNat / 2 ^ 8 = 0 := Nat.div_eq_of_lt c.toNat_lt
 have h := stepsC_xor p 8 s c.toNat
 rw [h0, Nat.xor_zero] at h
 rw [h]
 exact ⟨stepsR_rv hp 8 s _ hs, stepsB_lt hp 8 s _ hs⟩
theorem div_rv {m p : Nat} (hp : p < 2 ^ (m + 1)) : ∀ (l : List UInt8) (s : Nat), s < 2 ^ (m + 1) → divR (2 ^ (m + 1)) (rv (m + 1) p) (rv (m + 1) s) l = rv (m + 1) (divC p s l) ∧ divC p s l < 2 ^ (m + 1)
 | [], s, h => ⟨rfl, h⟩
 | c :: l, s, h => by
  have hb := byte_rv hp h c
  have ih := div_rv hp l _ hb.2
  unfold divR divC at ih ⊢
  simp only [List.foldl_cons]
  rw [hb.1]
  exact ih
theorem not_xor {n x : Nat} (h : x < 2 ^ n) : 2 ^ n - 1 - x = (2 ^ n - 1) ^^^ x := by
 apply Nat.eq_of_testBit_eq
 intro i
 have e : 2 ^ n - 1 - x = 2 ^ n - (x + 1) := by omega
 rw [e, Nat.testBit_two_pow_sub_succ h, Nat.testBit_xor, Nat.testBit_two_pow_sub_one]
 by_cases hi : i < n
 · simp [hi]
 ·
  have : x < 2 ^ i := Nat.lt_of_lt_of_le h (Nat.pow_le_pow_right (by omega) (by omega))
  simp [hi, Nat.testBit_lt_two_pow this]
theorem rv_ones (n : Nat) : rv n (2 ^ n - 1) = 2 ^ n - 1 := by
 apply Nat.eq_of_testBit_eq
 intro i
 rw [rv_bit, Nat.testBit_two_pow_sub_one, Nat.testBit_two_pow_sub_one]
 by_cases hi : i < n
 ·
  have : n - 1 - i < n := by omega
  simp [hi, this]
 · simp [hi]
/-- The two sums. -/
theorem sums {m p : Nat} (hp : p < 2 ^ (m + 1)) (l : List UInt8) :
  rv (m + 1) (2 ^ (m + 1) - 1 - divR (2 ^ (m + 1)) (rv (m + 1) p) (2 ^ (m + 1) - 1) l) = 2 ^ (m + 1) - 1 - divC p (2 ^ (m + 1) - 1) l := by
 have h0 : 2 ^ (m + 1) - 1 < 2 ^ (m + 1) := by have := Nat.two_pow_pos (m + 1); omega
 have h := div_rv hp l (2 ^ (m + 1) - 1) h0
 rw [rv_ones] at h
 rw [h.1, not_xor (rv_lt _ _), rv_xor, rv_ones, rv_rv _ _ h.2, ← not_xor h.2]
end Crc
end Go.Proofs.YtfgipgpbjfhflaaGreat


namespace Go.Proofs.YtfgipgpbjfhflaaGreat
open Go.RowKit
set_option linter.unusedVariables false
set_option linter.unusedSimpArgs false

/-- An array of these items. -/
def listT (L : List T) : T := T.mk 4 0 [] false L.length fun i => (L[i]?).getD T.nil
theorem catR_list (g : T → List UInt8) : ∀ L : List T, T.catR (fun i => g ((L[i]?).getD T.nil)) L.length = (L.map g).flatten
 | [] => rfl
 | x :: L => by
  rw [List.length_cons, T.catR, List.map_cons, List.flatten_cons, ← catR_list g L]
  rfl
theorem listT_bytes (L : List T) : (listT L).bytes = headL 4 L.length ++ (L.map T.bytes).flatten := by
 unfold listT
 rw [T.bytes, if_neg (by decide), if_neg (by decide), T.cat_eq, catR_list]
 simp
theorem getD_mem {L : List T} {i : Nat} (h : i < L.length) : (L[i]?).getD T.nil ∈ L := by
 rw [List.getElem?_eq_getElem h]; exact List.getElem_mem h
theorem listT_ok {L : List T} (hl : L.length < 4611686018427387904) (h : ∀ t ∈ L, t.ok) : (listT L).ok := by
 unfold listT T.ok
 exact ⟨by omega, by omega, by simp, hl, fun i hi => h _ (getD_mem hi)⟩
theorem listT_right {L : List T} {d : Nat} (hd : 1 ≤ d) (hl : L.length ≤ 1000) (h : ∀ t ∈ L, t.right (d - 1) = true) : (listT L).right d = true := by
 unfold listT T.right
 rw [if_neg (by omega), Bool.and_eq_true, T.all_iff]
 refine ⟨?_, fun i hi => h _ (getD_mem hi)⟩
 simp [T.node, hl]
theorem sum_le_each {f : Nat → Nat} {B k : Nat} (h : ∀ i, i < k → f i ≤ B) : T.sum f k ≤ k * B := by
 induction k with
 | zero => simp [T.sum]
 | succ k ih =>
  have := ih (fun i hi => h i (by omega))
  have := h k (by omega)
  rw [T.sum, Nat.succ_mul]; omega
theorem listT_size {L : List T} {B : Nat} (h : ∀ t ∈ L, t.size ≤ B) : (listT L).size ≤ 1 + L.length * B := by
 unfold listT T.size
 have := sum_le_each (f := fun i => ((L[i]?).getD T.nil).size) (B := B) (k := L.length) (fun i hi => h _ (getD_mem hi))
 simp; omega
theorem numT_all (n : Nat) (h : n < 18446744073709551616) : (numT n).ok ∧ (∀ d, 1 ≤ d → (numT n).right d = true) ∧ (numT n).size ≤ 100 ∧ (numT n).bytes = headL 0 n := by
 refine ⟨num_ok h, fun d hd => ?_, by simp [numT, T.size, T.sum], rfl⟩
 unfold numT T.right
 rw [if_neg (by omega)]
 simp [T.node, T.all]
theorem strT_all {s : List UInt8} (h : s.length ≤ 90) : (strT s).ok ∧ (∀ d, 1 ≤ d → (strT s).right d = true) ∧ (strT s).size ≤ 100 ∧ (strT s).bytes = headL 2 s.length ++ s := by
 refine ⟨str_ok (by omega), fun d hd => ?_, ?_, rfl⟩
 ·
  unfold strT T.right
  rw [if_neg (by omega)]
  simp [T.node, T.all]
 · simp [strT, T.size, T.sum]; omega
theorem eidT_small {e : EV} (ho : e.ok = true) : (eidT e).size ≤ 100 := by
 rcases EV.ok_cases ho with rfl | ⟨name, rfl, hn, hl⟩ | ⟨node, svc, rfl, ha, hb⟩
 · decide
 ·
  have h0 : ¬ name = noneL := hn
  have e1 : twoT ⟨1, name, 0, 0⟩ = textT name := by simp [twoT, h0]
  simp [eidT, e1, T.size, T.sum, numT, textT]; omega
 · simp [eidT, twoT, T.size, T.sum, numT]

/- A primary. -/
def PV.ranged (p : PV) : Bool := p.d.ok && (p.s.ok && (p.r.ok && decide (0 ≤ p.crc ∧ p.crc ≤ 2 ∧ p.fl < 2097152 ∧ p.t ≤ 1099511627776 ∧ p.q ≤ 1099511627776 ∧ p.l ≤ 1099511627776 ∧ p.o ≤ 1099511627776 ∧ p.n ≤ 1099511627776)))
def PV.none (p : PV) : Prop := p.s.sch = 1 ∧ p.s.name = noneL
instance (p : PV) : Decidable p.none := by unfold PV.none; infer_instance
def PV.right (p : PV) : Int :=
 if p.ranged = false then 1
 else if (p.fl % 2 = 1 ∧ (p.fl / 4 % 2 = 1 ∨ p.n ≤ p.o)) ∨ (¬ p.fl % 2 = 1 ∧ (0 < p.o ∨ 0 < p.n)) then 8
 else if ((p.fl / 16384 % 2 = 1 ∨ p.fl / 262144 % 2 = 1) ∧ (p.none ∨ p.fl / 2 % 2 = 1)) ∨ (p.none ∧ ¬ p.fl / 4 % 2 = 1) then 8
 else 0
theorem PV.ranged_spec {p : PV} (h : p.ranged = true) : p.d.ok = true ∧ p.s.ok = true ∧ p.r.ok = true ∧ 0 ≤ p.crc ∧ p.crc ≤ 2 ∧ p.fl < 2097152 ∧ p.t ≤ 1099511627776 ∧ p.q ≤ 1099511627776 ∧ p.l ≤ 1099511627776 ∧ p.o ≤ 1099511627776 ∧ p.n ≤ 1099511627776 := by
 unfold PV.ranged at h
 simp only [Bool.and_eq_true, decide_eq_true_eq] at h
 exact ⟨h.1, h.2.1, h.2.2.1, h.2.2.2⟩
theorem PV.right_ranged {p : PV} (h : p.right = 0) : p.ranged = true := by
 unfold PV.right at h
 cases hr : p.ranged with
 | true => rfl
 | false => rw [hr, if_pos rfl] at h; exact absurd h (by decide)
/-- Its items, with a sum. -/
def priL (p : PV) (k : Nat) (sum : List UInt8) : List T :=
 [numT 7, numT p.fl, numT k, eidT p.d, eidT p.s, eidT p.r, listT [numT p.t, numT p.q], numT p.l] ++ ((if p.fl % 2 = 1 then [numT p.o, numT p.n] else []) ++ (if k = 0 then [] else [strT sum]))
def priT (p : PV) (k : Nat) (sum : List UInt8) : T := listT (priL p k sum)
def priN (p : PV) (k : Nat) : Nat := 8 + ((if p.fl % 2 = 1 then 2 else 0) + (if k = 0 then 0 else 1))
theorem priL_length (p : PV) (k : Nat) (sum : List UInt8) : (priL p k sum).length = priN p k := by
 unfold priL priN
 split <;> split <;> simp
/-- Its bytes, with a sum. -/
def priB (p : PV) (k : Nat) (sum : List UInt8) : List UInt8 :=
 headL 4 (priN p k) ++ (headL 0 7 ++ (headL 0 p.fl ++ (headL 0 k ++ ((eidT p.d).bytes ++ ((eidT p.s).bytes ++ ((eidT p.r).bytes ++ (headL 4 2 ++ (headL 0 p.t ++ (headL 0 p.q ++ (headL 0 p.l ++
 ((if p.fl % 2 = 1 then headL 0 p.o ++ headL 0 p.n else []) ++ (if k = 0 then [] else headL 2 sum.length ++ sum))))))))))))
theorem priT_bytes (p : PV) (k : Nat) (sum : List UInt8) : (priT p k sum).bytes = priB p k sum := by
 unfold priT
 rw [listT_bytes, priL_length]
 unfold priL priB
 have e : (listT [numT p.t, numT p.q]).bytes = headL 4 2 ++ (headL 0 p.t ++ headL 0 p.q) := by
  rw [listT_bytes]; simp [show ∀ n, (numT n).bytes = headL 0 n from fun n => rfl]
 by_cases h1 : p.fl % 2 = 1 <;> by_cases h2 : k = 0 <;>
  simp [h1, h2, e, show ∀ n, (numT n).bytes = headL 0 n from fun n => rfl, show ∀ s, (strT s).bytes = headL 2 s.length ++ s from fun s => rfl]
theorem priT_all {p : PV} (h : p.ranged = true) {k : Nat} (hk : k ≤ 2) {sum : List UInt8} (hs : sum.length ≤ 90) : (priT p k sum).ok ∧ (∀ d, 4 ≤ d → (priT p k sum).right d = true) ∧ (priT p k sum).size ≤ 4000 := by
 obtain ⟨h1, h2, h3, h4, h5, h6, h7, h8, h9, h10, h11⟩ := PV.ranged_spec h
 have hm : ∀ t ∈ priL p k sum, t.ok ∧ (∀ d, 3 ≤ d → t.right d = true) ∧ t.size ≤ 350 := by
  intro t ht
  have num : ∀ n, n < 18446744073709551616 → (numT n).ok ∧ (∀ d, 3 ≤ d → (numT n).right d = true) ∧ (numT n).size ≤ 350 := fun n hn => by
   obtain ⟨a, b, c, _⟩ := numT_all n hn
   exact ⟨a, fun d hd => b d (by omega), by omega⟩
  have eid : ∀ e : EV, e.ok = true → (eidT e).ok ∧ (∀ d, 3 ≤ d → (eidT e).right d = true) ∧ (eidT e).size ≤ 350 := fun e he => by
   obtain ⟨a, b, _, _⟩ := eidT_ok he
   exact ⟨a, b, by have := eidT_small he; omega⟩
  unfold priL at ht
  rw [List.mem_append, List.mem_append] at ht
  rcases ht with ht | ht | ht
  ·
   simp only [List.mem_cons, List.not_mem_nil, or_false] at ht
   rcases ht with rfl | rfl | rfl | rfl | rfl | rfl | rfl | rfl
   · exact num 7 (by decide)
   · exact num _ (by omega)
   · exact num _ (by omega)
   · exact eid _ h1
   · exact eid _ h2
   · exact eid _ h3
   ·
    have a := numT_all p.t (by omega)
    have b := numT_all p.q (by omega)
    refine ⟨listT_ok (by simp) ?_, fun d hd => listT_right (by omega) (by simp) ?_, ?_⟩
    ·
     intro t ht
     simp only [List.mem_cons, List.not_mem_nil, or_false] at ht
     rcases ht with rfl | rfl
     · exact a.1
     · exact b.1
    ·
     intro t ht
     simp only [List.mem_cons, List.not_mem_nil, or_false] at ht
     rcases ht with rfl | rfl
     · exact a.2.1 _ (by omega)
     · exact b.2.1 _ (by omega)
    ·
     have := listT_size (L := [numT p.t, numT p.q]) (B := 100) (by
      intro t ht
      simp only [List.mem_cons, List.not_mem_nil, or_false] at ht
      rcases ht with rfl | rfl
      · exact a.2.2.1
      · exact b.2.2.1)
     simp at this
     omega
   · exact num _ (by omega)
  ·
   split at ht
   ·
    simp only [List.mem_cons, List.not_mem_nil, or_false] at ht
    rcases ht with rfl | rfl
    · exact num _ (by omega)
    · exact num _ (by omega)
   · cases ht
  ·
   split at ht
   · cases ht
   ·
    simp only [List.mem_cons, List.not_mem_nil, or_false] at ht
    subst ht
    obtain ⟨a, b, c, _⟩ := strT_all hs
    exact ⟨a, fun d hd => b d (by omega), by omega⟩
 have hl : (priL p k sum).length ≤ 11 := by rw [priL_length]; unfold priN; split <;> split <;> omega
 refine ⟨listT_ok (by omega) fun t ht => (hm t ht).1, fun d hd => listT_right (by omega) (by omega) fun t ht => (hm t ht).2.1 _ (by omega), ?_⟩
 have := listT_size (L := priL p k sum) (B := 350) fun t ht => (hm t ht).2.2
 have h2 : (priL p k sum).length * 350 ≤ 11 * 350 := Nat.mul_le_mul_right _ hl
 show (listT (priL p k sum)).size ≤ 4000
 omega
end Go.Proofs.YtfgipgpbjfhflaaGreat
