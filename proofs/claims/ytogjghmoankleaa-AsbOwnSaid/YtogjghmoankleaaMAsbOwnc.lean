/-
  The item of a name.
  The reference's look at names.
  The reference's right names.
  A right name's item, by the code and by the reference.
  Lists of items, plainly; a primary's items and bytes; why it is not right.
  Primaries: flags; why one is not right, as the reference tells it.
-/
import Derived.Test.YtogjghmoankleaaMAsbOwnb

namespace Go.Proofs.Ytogjghmoankleaa
open Go.RowKit
set_option linter.unusedVariables false
set_option linter.unusedSimpArgs false

/-- Text; a name's item. -/
def textT (s : List UInt8) : T := T.mk 3 0 s false 0 fun _ => T.nil
def twoT (e : EV) : T := if e.sch = 2 then T.mk 4 0 [] false 2 (fun j => if j = 0 then numT e.node else numT e.svc) else if e.name = noneL then numT 0 else textT e.name
def eidT (e : EV) : T := T.mk 4 0 [] false 2 fun i => if i = 0 then numT e.sch.toNat else twoT e

set_option maxRecDepth 20000 in
set_option maxHeartbeats 800000 in
theorem eidItem_bad (sch : Int) (name : List UInt8) (node svc : Nat) (hs : Hid (name.length < 4611686018427387904)) (ho : EV.ok ⟨sch, name, node, svc⟩ = false) (w : World) :
    Calls Try.prog 87 #[EV.v ⟨sch, name, node, svc⟩] w (Ret (.tuple #[itemV (numT 0) none 0, .int .i64 1]) w) := by
  have K := hid (fun W => eidRight_any ⟨sch, name, node, svc⟩ hs W)
  rw [ho] at K
  have HB := hid ((Blk.new w 26 (EV.c ⟨sch, name, node, svc⟩)).alloc (.cells #[.int .i64 0, .int .u64 0, .string ⟨#[]⟩, .slice none 0 0, .bool false] 38))
  have HR : Hid (Blk ((w.alloc (.cells (EV.c ⟨sch, name, node, svc⟩) 26)).alloc (.cells #[.int .i64 0, .int .u64 0, .string ⟨#[]⟩, .slice none 0 0, .bool false] 38)) (w.heap.size + 1) 38 (itemC (numT 0) none 0)) := by
    have := Blk.new (w.alloc (.cells (EV.c ⟨sch, name, node, svc⟩) 26)) 38 (itemC (numT 0) none 0)
    unfold Hid
    simpa [itemC, numT, T.kind, T.n, T.s, T.k, T.op] using this
  have HE := hid (((Mod.refl [] w).alloc (.cells (EV.c ⟨sch, name, node, svc⟩) 26)).alloc (.cells #[.int .i64 0, .int .u64 0, .string ⟨#[]⟩, .slice none 0 0, .bool false] 38))
  go_enter Try.func87, Try.ntmps87
  go_wp2_with fail
  refine (K.out _).mono ?_
  rintro e w1 ⟨rfl, hb1⟩
  have HB1 := hid (HB.out.ext hb1)
  have HR1 := hid (HR.out.ext hb1)
  have HE1 := hid (HE.out.trans hb1)
  clear hb1 HB HR HE
  obtain ⟨c0, c1, c2, c3, c4⟩ := cells5 HR1.out
  have f0 := Blk.frozen HR1.out 0
  have f1 := Blk.frozen HR1.out 1
  have f2 := Blk.frozen HR1.out 2
  have f3 := Blk.frozen HR1.out 3
  have f4 := Blk.frozen HR1.out 4
  go_wp2_with fail
  obtain ⟨d0, d1, d2, d3, d4⟩ := cells5 (set5_blk (t := numT 0) (A := none) (c := 0) HR1.out)
  clear c0 c1 c2 c3 c4 f0 f1 f2 f3 f4
  show bodyPost _ _ _ _ _ (set5 w1 (w.heap.size + 1) (numT 0) none 0)
  refine bodyPost_ret (v := .tuple #[itemV (numT 0) none 0, .int .i64 1]) (by simp [results, Try.results87, go_sem, d0, d1, d2, d3, d4]) rfl ?_
  exact Ret.mk rfl (set5_mod HE1.out (by omega))

set_option maxRecDepth 20000 in
set_option maxHeartbeats 1600000 in
theorem eidItem_none (w : World) :
    Calls Try.prog 87 #[EV.v ⟨1, [110, 111, 110, 101], 0, 0⟩] w (fun e w' => ∃ A, e = .returned (.tuple #[itemV (eidT ⟨1, [110, 111, 110, 101], 0, 0⟩) A 2, .int .i64 0]) ∧ Ext w w' ∧ IsL w' (fun b => w.heap.size ≤ b) (eidT ⟨1, [110, 111, 110, 101], 0, 0⟩) A) := by
  have K : Hid (∀ W, Calls Try.prog 90 #[EV.v ⟨1, [110, 111, 110, 101], 0, 0⟩] W (Ret (.bool true) W)) := fun W => by have := eidRight_any ⟨1, [110, 111, 110, 101], 0, 0⟩ (by unfold Hid; decide) W; rw [show EV.ok ⟨1, [110, 111, 110, 101], 0, 0⟩ = true by decide] at this; exact this
  have HB := hid ((Blk.new w 26 (EV.c ⟨1, [110, 111, 110, 101], 0, 0⟩)).alloc (.cells #[.int .i64 0, .int .u64 0, .string ⟨#[]⟩, .slice none 0 0, .bool false] 38))
  have HR : Hid (Blk ((w.alloc (.cells (EV.c ⟨1, [110, 111, 110, 101], 0, 0⟩) 26)).alloc (.cells #[.int .i64 0, .int .u64 0, .string ⟨#[]⟩, .slice none 0 0, .bool false] 38)) (w.heap.size + 1) 38 (itemC (numT 0) none 0)) := by
    have := Blk.new (w.alloc (.cells (EV.c ⟨1, [110, 111, 110, 101], 0, 0⟩) 26)) 38 (itemC (numT 0) none 0)
    unfold Hid
    simpa [itemC, numT, T.kind, T.n, T.s, T.k, T.op] using this
  have HE := hid (((Mod.refl [] w).alloc (.cells (EV.c ⟨1, [110, 111, 110, 101], 0, 0⟩) 26)).alloc (.cells #[.int .i64 0, .int .u64 0, .string ⟨#[]⟩, .slice none 0 0, .bool false] 38))
  go_enter Try.func87, Try.ntmps87
  go_wp2_with fail
  refine (K.out _).mono ?_
  rintro e w1 ⟨rfl, hb1⟩
  have HB1 := hid (HB.out.ext hb1)
  have HR1 := hid (HR.out.ext hb1)
  have HE1 := hid (HE.out.trans hb1)
  clear hb1 HB HR HE
  have x0 : w1.cell? ⟨w.heap.size, 0, none⟩ = some (.int .i64 1) := HB1.out.cell 0
  have x1 : w1.cell? ⟨w.heap.size, 1, none⟩ = some (str [110, 111, 110, 101]) := HB1.out.cell 1
  go_wp2_with fail
  refine (NumI_any _ _).mono ?_
  rintro e w2 ⟨rfl, hb2⟩
  go_wp2_with fail
  refine (NumI_any _ _).mono ?_
  rintro e w3 ⟨rfl, hb3⟩
  have H13 : Hid (w1.heap.size ≤ w3.heap.size) := Nat.le_trans hb2.size hb3.size
  have HE3 := hid ((HE1.out.trans hb2).trans hb3)
  have HR3 := hid ((HR1.out.ext hb2).ext hb3)
  clear hb2 hb3 x0 x1
  go_wp2_with fail
  refine (ListV_any 2 _ 2 _).mono ?_
  rintro e w4 ⟨rfl, hb4⟩
  have HOut := hid ((Blk.new w3 38 #[.int .i64 0, .int .u64 1, str [], .slice none 0 0, .bool false, .int .i64 0, .int .u64 0, str [], .slice none 0 0, .bool false]).ext hb4)
  have HE4 := hid ((HE3.out.alloc _).trans hb4)
  have HR4 := hid ((HR3.out.alloc _).ext hb4)
  clear hb4 HE3 HR3
  obtain ⟨c0, c1, c2, c3, c4⟩ := cells5 HR4.out
  have f0 := Blk.frozen HR4.out 0
  have f1 := Blk.frozen HR4.out 1
  have f2 := Blk.frozen HR4.out 2
  have f3 := Blk.frozen HR4.out 3
  have f4 := Blk.frozen HR4.out 4
  have HTT : Hid (eidT ⟨1, [110, 111, 110, 101], 0, 0⟩ = T.mk 4 0 [] false 2 fun i => if i = 0 then numT 1 else numT 0) := rfl
  have HFin : Hid (Ext w (set5 w4 (w.heap.size + 1) (eidT ⟨1, [110, 111, 110, 101], 0, 0⟩) (some ⟨w3.heap.size, 0, none⟩) 2) ∧ Blk (set5 w4 (w.heap.size + 1) (eidT ⟨1, [110, 111, 110, 101], 0, 0⟩) (some ⟨w3.heap.size, 0, none⟩) 2) (w.heap.size + 1) 38 (itemC (eidT ⟨1, [110, 111, 110, 101], 0, 0⟩) (some ⟨w3.heap.size, 0, none⟩) 2) ∧
      IsL (set5 w4 (w.heap.size + 1) (eidT ⟨1, [110, 111, 110, 101], 0, 0⟩) (some ⟨w3.heap.size, 0, none⟩) 2) (fun b => w.heap.size ≤ b) (eidT ⟨1, [110, 111, 110, 101], 0, 0⟩) (some ⟨w3.heap.size, 0, none⟩)) := by
    have hm : Mod [w.heap.size + 1] w4 (set5 w4 (w.heap.size + 1) (eidT ⟨1, [110, 111, 110, 101], 0, 0⟩) (some ⟨w3.heap.size, 0, none⟩) 2) := set5_modb
    have hl := HR1.out.lt
    have hs3 := H13.out
    have b1 := HOut.out.mod hm (by simp; omega)
    refine ⟨set5_mod HE4.out (by omega), set5_blk HR4.out, ?_⟩
    rw [HTT.out] at b1 ⊢
    refine fun _ => ⟨w3.heap.size, 0, rfl, b1.lt, (show w.heap.size ≤ w3.heap.size by omega), fun i hi => ?_⟩
    have hi2 : i = 0 ∨ i = 1 := by omega
    rcases hi2 with rfl | rfl
    · exact ⟨none, 0, ⟨b1.cell 0, b1.cell 1, b1.cell 2, b1.cell 3, b1.cell 4⟩, fun h => absurd h (by decide)⟩
    · exact ⟨none, 0, ⟨b1.cell 5, b1.cell 6, b1.cell 7, b1.cell 8, b1.cell 9⟩, fun h => absurd h (by decide)⟩
  obtain ⟨d0, d1, d2, d3, d4⟩ := cells5 HFin.out.2.1
  go_wp2_with fail
  show bodyPost _ _ _ _ _ (set5 w4 (w.heap.size + 1) (eidT ⟨1, [110, 111, 110, 101], 0, 0⟩) (some ⟨w3.heap.size, 0, none⟩) 2)
  refine bodyPost_ret (v := .tuple #[itemV (eidT ⟨1, [110, 111, 110, 101], 0, 0⟩) (some ⟨w3.heap.size, 0, none⟩) 2, .int .i64 0]) (by simp [results, Try.results87, go_sem, d0, d1, d2, d3, d4]) rfl ?_
  exact ⟨_, rfl, HFin.out.1, HFin.out.2.2⟩

set_option maxRecDepth 20000 in
set_option maxHeartbeats 1600000 in
theorem eidItem_dtn (name : List UInt8) (hs : Hid (name.length < 4611686018427387904)) (hn : name ≠ [110, 111, 110, 101]) (ho : EV.ok ⟨1, name, 0, 0⟩ = true) (w : World) :
    Calls Try.prog 87 #[EV.v ⟨1, name, 0, 0⟩] w (fun e w' => ∃ A, e = .returned (.tuple #[itemV (eidT ⟨1, name, 0, 0⟩) A 2, .int .i64 0]) ∧ Ext w w' ∧ IsL w' (fun b => w.heap.size ≤ b) (eidT ⟨1, name, 0, 0⟩) A) := by
  have K : Hid (∀ W, Calls Try.prog 90 #[EV.v ⟨1, name, 0, 0⟩] W (Ret (.bool true) W)) := fun W => by have := eidRight_any ⟨1, name, 0, 0⟩ hs W; rw [ho] at this; exact this
  have hnn : Hid (¬ name = noneL) := hn
  have n1 : (name == [110, 111, 110, 101]) = false := by simpa using hn
  have n2 : (name = [110, 111, 110, 101]) = False := by simpa using hn
  clear hn
  have HB := hid ((Blk.new w 26 (EV.c ⟨1, name, 0, 0⟩)).alloc (.cells #[.int .i64 0, .int .u64 0, .string ⟨#[]⟩, .slice none 0 0, .bool false] 38))
  have HR : Hid (Blk ((w.alloc (.cells (EV.c ⟨1, name, 0, 0⟩) 26)).alloc (.cells #[.int .i64 0, .int .u64 0, .string ⟨#[]⟩, .slice none 0 0, .bool false] 38)) (w.heap.size + 1) 38 (itemC (numT 0) none 0)) := by
    have := Blk.new (w.alloc (.cells (EV.c ⟨1, name, 0, 0⟩) 26)) 38 (itemC (numT 0) none 0)
    unfold Hid
    simpa [itemC, numT, T.kind, T.n, T.s, T.k, T.op] using this
  have HE := hid (((Mod.refl [] w).alloc (.cells (EV.c ⟨1, name, 0, 0⟩) 26)).alloc (.cells #[.int .i64 0, .int .u64 0, .string ⟨#[]⟩, .slice none 0 0, .bool false] 38))
  go_enter Try.func87, Try.ntmps87
  go_wp2_with fail
  refine (K.out _).mono ?_
  rintro e w1 ⟨rfl, hb1⟩
  have HB1 := hid (HB.out.ext hb1)
  have HR1 := hid (HR.out.ext hb1)
  have HE1 := hid (HE.out.trans hb1)
  clear hb1 HB HR HE
  have x0 : w1.cell? ⟨w.heap.size, 0, none⟩ = some (.int .i64 1) := HB1.out.cell 0
  have x1 : w1.cell? ⟨w.heap.size, 1, none⟩ = some (str name) := HB1.out.cell 1
  have HS : Hid (∀ w', Ext w1 w' → w'.cell? ⟨w.heap.size, 0, none⟩ = some (.int .i64 1) ∧ w'.cell? ⟨w.heap.size, 1, none⟩ = some (str name)) := fun W hW => ⟨(HB1.out.ext hW).cell 0, (HB1.out.ext hW).cell 1⟩
  obtain ⟨c0, c1, c2, c3, c4⟩ := cells5 HR1.out
  have f0 := Blk.frozen HR1.out 0
  have f1 := Blk.frozen HR1.out 1
  have f2 := Blk.frozen HR1.out 2
  have f3 := Blk.frozen HR1.out 3
  have f4 := Blk.frozen HR1.out 4
  go_upto_region 7 with fail
  go_region_held3 (fun w' => w'.cell? ⟨w.heap.size, 0, none⟩ = some (.int .i64 1) ∧ w'.cell? ⟨w.heap.size, 1, none⟩ = some (str name)) (go_keep)
    (first
      | (go_at_call 89; refine (NumI_any _ _).mono ?_; rintro x w3 ⟨rfl, hb3⟩; have hx : Ext w1 w3 := (by (with_reducible refine Mod.trans ?_ hb3); (repeat (first | with_reducible assumption | with_reducible exact Mod.refl _ _ | with_reducible refine Mod.drew ?_ | with_reducible refine Mod.alloc ?_ _))); have z := HS.out w3 hx; have H13 : Hid (w1.heap.size ≤ w3.heap.size) := hx.size)
      | (go_at_call 74; refine (ListV_any 2 _ 2 _).mono ?_; rintro x w4 ⟨rfl, hb4⟩; have hx : Ext w1 w4 := (by (with_reducible refine Mod.trans ?_ hb4); (repeat (first | with_reducible assumption | with_reducible exact Mod.refl _ _ | with_reducible refine Mod.drew ?_ | with_reducible refine Mod.alloc ?_ _))); have z := HS.out w4 hx; have HOut := hid ((Blk.new _ _ _).ext hb4); have HR4 := hid (HR1.out.ext hx); have HE4 := hid (HE1.out.trans hx); obtain ⟨g0, g1, g2, g3, g4⟩ := cells5 HR4.out; have f0 := Blk.frozen HR4.out 0; have f1 := Blk.frozen HR4.out 1; have f2 := Blk.frozen HR4.out 2; have f3 := Blk.frozen HR4.out 3; have f4 := Blk.frozen HR4.out 4))
  have HTT : Hid (eidT ⟨1, name, 0, 0⟩ = T.mk 4 0 [] false 2 fun i => if i = 0 then numT 1 else textT name) := by unfold Hid eidT twoT; simp only []; rw [if_neg (by decide), if_neg hnn.out]; rfl
  have HFin : Hid (Ext w (set5 w4 (w.heap.size + 1) (eidT ⟨1, name, 0, 0⟩) (some ⟨w3.heap.size, 0, none⟩) 2) ∧ Blk (set5 w4 (w.heap.size + 1) (eidT ⟨1, name, 0, 0⟩) (some ⟨w3.heap.size, 0, none⟩) 2) (w.heap.size + 1) 38 (itemC (eidT ⟨1, name, 0, 0⟩) (some ⟨w3.heap.size, 0, none⟩) 2) ∧
      IsL (set5 w4 (w.heap.size + 1) (eidT ⟨1, name, 0, 0⟩) (some ⟨w3.heap.size, 0, none⟩) 2) (fun b => w.heap.size ≤ b) (eidT ⟨1, name, 0, 0⟩) (some ⟨w3.heap.size, 0, none⟩)) := by
    have hm : Mod [w.heap.size + 1] w4 (set5 w4 (w.heap.size + 1) (eidT ⟨1, name, 0, 0⟩) (some ⟨w3.heap.size, 0, none⟩) 2) := set5_modb
    have hl := HR1.out.lt
    have hs3 := H13.out
    have b1 := HOut.out.mod hm (by simp; omega)
    refine ⟨set5_mod HE4.out (by omega), set5_blk HR4.out, ?_⟩
    rw [HTT.out] at b1 ⊢
    refine fun _ => ⟨w3.heap.size, 0, rfl, b1.lt, (show w.heap.size ≤ w3.heap.size by omega), fun i hi => ?_⟩
    have hi2 : i = 0 ∨ i = 1 := by omega
    rcases hi2 with rfl | rfl
    · exact ⟨none, 0, ⟨b1.cell 0, b1.cell 1, b1.cell 2, b1.cell 3, b1.cell 4⟩, fun h => absurd h (by decide)⟩
    · exact ⟨none, 0, ⟨b1.cell 5, b1.cell 6, b1.cell 7, b1.cell 8, b1.cell 9⟩, fun h => absurd h (by decide)⟩
  obtain ⟨d0, d1, d2, d3, d4⟩ := cells5 HFin.out.2.1
  go_wp2_with fail
  show bodyPost _ _ _ _ _ (set5 w4 (w.heap.size + 1) (eidT ⟨1, name, 0, 0⟩) (some ⟨w3.heap.size, 0, none⟩) 2)
  refine bodyPost_ret (v := .tuple #[itemV (eidT ⟨1, name, 0, 0⟩) (some ⟨w3.heap.size, 0, none⟩) 2, .int .i64 0]) (by simp [results, Try.results87, go_sem, d0, d1, d2, d3, d4]) rfl ?_
  exact ⟨_, rfl, HFin.out.1, HFin.out.2.2⟩
end Go.Proofs.Ytogjghmoankleaa


namespace Go.Proofs.Ytogjghmoankleaa
open Go.RowKit
set_option linter.unusedVariables false
set_option linter.unusedSimpArgs false

def lettersL : List UInt8 := [97, 98, 99, 100, 101, 102, 103, 104, 105, 106, 107, 108, 109, 110, 111, 112, 113, 114, 115, 116, 117, 118, 119, 120, 121, 122, 48, 49, 50, 51, 52, 53, 54, 55, 56, 57, 45, 46]
theorem lett_mem_n : ∀ n : Fin 256, lett (UInt8.ofNat n.val) = lettersL.contains (UInt8.ofNat n.val) := by decide +kernel
theorem lett_mem (c : UInt8) : lett c = lettersL.contains c := by
  have := lett_mem_n ⟨c.toNat, c.toNat_lt⟩
  simpa using this
set_option maxHeartbeats 800000 in
theorem letter_any (c : UInt8) (w : World) : Calls Try.prog 84 #[.int .u8 (c.toNat : Int)] w (Ret (.bool (lett c)) w) := by
  rw [lett_mem]
  obtain ⟨B, hB⟩ : ∃ B, lettersL.contains c = B := ⟨_, rfl⟩
  rw [hB]
  have HB : Hid ((lettersL.drop 0).contains c = B) := hB
  clear hB
  go_enter Try.func84, Try.ntmps84
  go_wp2_with fail
  go_loop [3] (fun i => ∃ j : Nat, j ≤ 38 ∧ i = .int .i64 j ∧ Hid ((lettersL.drop j).contains c = B)) (fun i => 38 - (intOf i).toNat)
  case atStart => exact ⟨0, Nat.zero_le _, rfl, HB⟩
  case round =>
    obtain ⟨j, hj, rfl, HP⟩ := hrel
    by_cases hlt : j < 38
    · have hlt2 : j < lettersL.length := hlt
      have hdr : lettersL.drop j = lettersL[j] :: lettersL.drop (j + 1) := List.drop_eq_getElem_cons hlt2
      rw [hdr] at HP
      by_cases hx : lettersL[j] = c
      · have q : ((((({ data := #[97, 98, 99, 100, 101, 102, 103, 104, 105, 106, 107, 108, 109, 110, 111, 112, 113, 114, 115, 116, 117, 118, 119, 120, 121, 122, 48, 49, 50, 51, 52, 53, 54, 55, 56, 57, 45, 46] } : ByteArray)[j]'hlt)).toNat : Int) == (c.toNat : Int)) = true := by show (((lettersL[j]).toNat : Int) == _) = true; simp [hx]
        have HT : Hid (true = B) := by have := HP.out; rw [hx, List.contains_cons] at this; rw [← this]; unfold Hid; simp
        clear HP hdr hx
        go_wp2_with fail
        go_ret
        exact Ret.mk (by rw [← HT.out]; rfl) (Mod.refl _ _)
      · have hn : ¬ (lettersL[j]).toNat = c.toNat := fun h => hx (UInt8.toNat_inj.1 h)
        have q : ((((({ data := #[97, 98, 99, 100, 101, 102, 103, 104, 105, 106, 107, 108, 109, 110, 111, 112, 113, 114, 115, 116, 117, 118, 119, 120, 121, 122, 48, 49, 50, 51, 52, 53, 54, 55, 56, 57, 45, 46] } : ByteArray)[j]'hlt)).toNat : Int) == (c.toNat : Int)) = false := by show (((lettersL[j]).toNat : Int) == _) = false; simp; omega
        have HT : Hid ((lettersL.drop (j + 1)).contains c = B) := by have := HP.out; rw [List.contains_cons] at this; have h2 : (c == lettersL[j]) = false := (by simpa using Ne.symm hx); rw [h2, Bool.false_or] at this; exact this
        clear HP hdr hx hn
        go_wp2_with fail
        go_round
        case rel => exact ⟨j + 1, by omega, by go_num, HT⟩
        case measure => simp [intOf]; omega
    · obtain rfl : j = 38 := by omega
      have HT : Hid (false = B) := HP
      clear HP
      go_wp2_with fail
      go_ret
      exact Ret.mk (by rw [← HT.out]; rfl) (Mod.refl _ _)

set_option maxHeartbeats 800000 in
theorem slash_any (s : List UInt8) (hs : Hid (s.length < 4611686018427387904)) (w : World) : Calls Try.prog 83 #[str s] w (Ret (.int .i64 (slash s : Nat)) w) := by
  obtain ⟨B, hB⟩ : ∃ B, slash s = B := ⟨_, rfl⟩
  rw [hB]
  have HB : Hid (slashA (s.drop 2) 2 = B) := hB
  clear hB
  go_enter Try.func83, Try.ntmps83
  go_wp2_with fail
  have hs2 := hs.out
  by_cases hl : s.length < 2
  · have HT : Hid (0 = B) := by have := HB.out; rw [List.drop_eq_nil_of_le (by omega)] at this; exact this
    go_loop [3] (fun i => i = .int .i64 2) (fun i => 0)
    case atStart => rfl
    case round =>
      subst hrel
      go_wp2_with fail
      go_ret
      exact Ret.mk (by rw [← HT.out]; rfl) (Mod.refl _ _)
  go_loop [3] (fun i => ∃ j : Nat, 2 ≤ j ∧ j ≤ s.length ∧ i = .int .i64 j ∧ Hid (slashA (s.drop j) j = B)) (fun i => s.length - (intOf i).toNat)
  case atStart => exact ⟨2, Nat.le_refl _, by omega, rfl, HB⟩
  case round =>
    obtain ⟨j, hj2, hj, rfl, HP⟩ := hrel
    by_cases hlt : j < s.length
    · have hdr : s.drop j = s[j] :: s.drop (j + 1) := List.drop_eq_getElem_cons hlt
      rw [hdr, slashA] at HP
      clear hdr
      by_cases hx : (s[j]).toNat = 47
      · have q : ((((⟨s.toArray⟩ : ByteArray)[j]'hlt).toNat : Int) == 47) = true := by show (((s[j]).toNat : Int) == 47) = true; simp; omega
        have q2 : ((((⟨s.toArray⟩ : ByteArray)[j]'hlt).toNat : Int) = 47) = True := by show (((s[j]).toNat : Int) = 47) = True; simp; omega
        have HT : Hid (j = B) := by have := HP.out; rw [if_pos hx] at this; exact this
        clear HP hx
        go_wp2_with fail
        go_ret
        exact Ret.mk (by rw [← HT.out]; rfl) (Mod.refl _ _)
      · have q : ((((⟨s.toArray⟩ : ByteArray)[j]'hlt).toNat : Int) == 47) = false := by show (((s[j]).toNat : Int) == 47) = false; simp; omega
        have q2 : ((((⟨s.toArray⟩ : ByteArray)[j]'hlt).toNat : Int) = 47) = False := by show (((s[j]).toNat : Int) = 47) = False; simp; omega
        have HT : Hid (slashA (s.drop (j + 1)) (j + 1) = B) := by have := HP.out; rw [if_neg hx] at this; exact this
        clear HP hx
        go_wp2_with fail
        go_round
        case rel => exact ⟨j + 1, by omega, by omega, by go_num, HT⟩
        case measure => simp [intOf]; omega
    · obtain rfl : j = s.length := by omega
      have HT : Hid (0 = B) := by have := HP.out; rw [List.drop_length] at this; exact this
      clear HP
      go_wp2_with fail
      go_ret
      exact Ret.mk (by rw [← HT.out]; rfl) (Mod.refl _ _)
end Go.Proofs.Ytogjghmoankleaa


namespace Go.Proofs.Ytogjghmoankleaa
open Go.RowKit
set_option linter.unusedVariables false
set_option linter.unusedSimpArgs false

def rightCases (node svc : Nat) (name : List UInt8) : Bool := decide (name = []) && decide (node ≤ 4294967295) && decide (svc ≤ 4294967295)
set_option maxRecDepth 20000 in
set_option maxHeartbeats 800000 in
theorem r10_two (name : List UInt8) (node svc : Nat) (w : World) : Calls Try.prog 50 #[EV.v ⟨2, name, node, svc⟩] w (Ret (.bool (rightCases node svc name)) w) := by
  unfold rightCases
  by_cases hn : name = []
  · subst hn
    by_cases ha : node ≤ 4294967295
    · have t1 : decide ((node : Int) ≤ 4294967295) = true := by simp; omega
      by_cases hb : svc ≤ 4294967295
      · have t2 : decide ((svc : Int) ≤ 4294967295) = true := by simp; omega
        have hr : (decide (([] : List UInt8) = []) && decide (node ≤ 4294967295) && decide (svc ≤ 4294967295)) = true := by simp [ha, hb]
        rw [hr]
        clear hr ha hb
        go_enter Try.func50, Try.ntmps50
        go_wp2_with fail
        go_ret
        exact Ret.mk rfl ((Mod.refl _ _).alloc _)
      · have t2 : decide ((svc : Int) ≤ 4294967295) = false := by simp; omega
        have hr : (decide (([] : List UInt8) = []) && decide (node ≤ 4294967295) && decide (svc ≤ 4294967295)) = false := by simp [hb]
        rw [hr]
        clear hr ha hb
        go_enter Try.func50, Try.ntmps50
        go_wp2_with fail
        go_ret
        exact Ret.mk rfl ((Mod.refl _ _).alloc _)
    · have t1 : decide ((node : Int) ≤ 4294967295) = false := by simp; omega
      have hr : (decide (([] : List UInt8) = []) && decide (node ≤ 4294967295) && decide (svc ≤ 4294967295)) = false := by simp [ha]
      rw [hr]
      clear hr ha
      go_enter Try.func50, Try.ntmps50
      go_wp2_with fail
      go_ret
      exact Ret.mk rfl ((Mod.refl _ _).alloc _)
  · have n1 : (name == []) = false := by simpa using hn
    have n2 : (name = []) = False := by simpa using hn
    have n3 : name.isEmpty = false := by simpa using hn
    have hr : (decide (name = []) && decide (node ≤ 4294967295) && decide (svc ≤ 4294967295)) = false := by simp [hn]
    rw [hr]
    clear hr hn
    go_enter Try.func50, Try.ntmps50
    go_wp2_with fail
    go_ret
    exact Ret.mk rfl ((Mod.refl _ _).alloc _)
set_option maxRecDepth 20000 in
theorem r10_none (w : World) : Calls Try.prog 50 #[EV.v ⟨1, [110, 111, 110, 101], 0, 0⟩] w (Ret (.bool true) w) := by
  go_enter Try.func50, Try.ntmps50
  go_wp2_with fail
  go_ret
  exact Ret.mk rfl ((Mod.refl _ _).alloc _)
set_option maxRecDepth 20000 in
theorem r10_sch (sch : Int) (name : List UInt8) (node svc : Nat) (h2 : sch ≠ 2) (h1 : sch ≠ 1) (w : World) : Calls Try.prog 50 #[EV.v ⟨sch, name, node, svc⟩] w (Ret (.bool false) w) := by
  have s1 : (sch = 1) = False := by simp [h1]
  have s2 : (sch == 1) = false := by simp [h1]
  have s3 : (sch = 2) = False := by simp [h2]
  have s4 : (sch == 2) = false := by simp [h2]
  have s5 : (sch != 1) = true := by simp [h1]
  clear h1 h2
  go_enter Try.func50, Try.ntmps50
  go_wp2_with fail
  go_ret
  exact Ret.mk rfl ((Mod.refl _ _).alloc _)
set_option maxRecDepth 20000 in
theorem r10_node (name : List UInt8) (node svc : Nat) (h : node ≠ 0) (w : World) : Calls Try.prog 50 #[EV.v ⟨1, name, node, svc⟩] w (Ret (.bool false) w) := by
  have z1 : ((node : Int) == 0) = false := by simp; omega
  have z2 : ((node : Int) = 0) = False := by simp; omega
  have z3 : ((node : Int) != 0) = true := by simp; omega
  clear h
  go_enter Try.func50, Try.ntmps50
  go_wp2_with fail
  go_ret
  exact Ret.mk rfl ((Mod.refl _ _).alloc _)
set_option maxRecDepth 20000 in
theorem r10_svc (name : List UInt8) (svc : Nat) (h : svc ≠ 0) (w : World) : Calls Try.prog 50 #[EV.v ⟨1, name, 0, svc⟩] w (Ret (.bool false) w) := by
  have z1 : ((svc : Int) == 0) = false := by simp; omega
  have z2 : ((svc : Int) = 0) = False := by simp; omega
  have z3 : ((svc : Int) != 0) = true := by simp; omega
  clear h
  go_enter Try.func50, Try.ntmps50
  go_wp2_with fail
  go_ret
  exact Ret.mk rfl ((Mod.refl _ _).alloc _)
set_option maxRecDepth 20000 in
theorem r10_long (name : List UInt8) (h : 60 < name.length) (w : World) : Calls Try.prog 50 #[EV.v ⟨1, name, 0, 0⟩] w (Ret (.bool false) w) := by
  have t1 : decide (60 < (name.length : Int)) = true := by simp; omega
  clear h
  go_enter Try.func50, Try.ntmps50
  go_wp2_with fail
  go_ret
  exact Ret.mk rfl ((Mod.refl _ _).alloc _)
set_option maxRecDepth 20000 in
set_option maxHeartbeats 1600000 in
theorem r10_name (name : List UInt8) (h60 : name.length ≤ 60) (hn : name ≠ [110, 111, 110, 101]) (w : World) : Calls Try.prog 50 #[EV.v ⟨1, name, 0, 0⟩] w (Ret (.bool (if slash name < 3 ∨ name.take 2 ≠ [47, 47] then false else goodA (slash name) (name.drop 2) 2)) w) := by
  have t1 : decide (60 < (name.length : Int)) = false := by simp; omega
  have n1 : (name == [110, 111, 110, 101]) = false := by simpa using hn
  have n2 : (name = [110, 111, 110, 101]) = False := by simpa using hn
  have K := hid (fun W => slash_any name (by unfold Hid; omega) W)
  have HE := hid ((Mod.refl [] w).alloc (.cells (EV.c ⟨1, name, 0, 0⟩) 26))
  have HB := hid (Blk.new w 26 (EV.c ⟨1, name, 0, 0⟩))
  have hsl : slash name = 0 ∨ 2 ≤ slash name := slashA_ge _ _
  by_cases h3 : slash name < 3
  · have t2 : decide ((slash name : Int) < 3) = true := by simp; omega
    rw [if_pos (Or.inl h3)]
    clear hn h60 h3 hsl
    generalize slash name = k at *
    go_enter Try.func50, Try.ntmps50
    go_wp2_with fail
    refine (K.out _).mono ?_
    rintro e w1 ⟨rfl, hb1⟩
    have HE1 := hid (HE.out.trans hb1)
    clear hb1
    go_wp2_with fail
    go_ret
    exact Ret.mk rfl HE1.out
  have t2 : decide ((slash name : Int) < 3) = false := by simp; omega
  have hl2 : 2 ≤ name.length := by
    rcases Nat.lt_or_ge name.length 2 with hl | hl
    · exfalso
      apply h3
      unfold slash
      rw [List.drop_eq_nil_of_le (by omega)]
      decide
    · exact hl
  have hx : ((⟨name.toArray⟩ : ByteArray).extract 0 2) = ⟨(name.take 2).toArray⟩ := by rw [ext0, List.drop_zero]
  by_cases ht : name.take 2 = [47, 47]
  case neg =>
    rw [if_pos (Or.inr ht)]
    have m1 : (name.take 2 == [47, 47]) = false := by simpa using ht
    have m2 : (name.take 2 = [47, 47]) = False := by simpa using ht
    clear hn h3 hsl ht
    generalize slash name = k at *
    generalize name.take 2 = p at *
    go_enter Try.func50, Try.ntmps50
    go_wp2_with fail
    refine (K.out _).mono ?_
    rintro e w1 ⟨rfl, hb1⟩
    have HE1 := hid (HE.out.trans hb1)
    have c1 : w1.cell? ⟨w.heap.size, 1, none⟩ = some (str name) := (HB.out.ext hb1).cell 1
    clear hb1
    go_wp2_with fail
    go_ret
    exact Ret.mk rfl HE1.out
  rw [if_neg (by intro h; rcases h with h | h; exact h3 h; exact h ht)]
  rw [ht] at hx
  obtain ⟨B, hB⟩ : ∃ B, goodA (slash name) (name.drop 2) 2 = B := ⟨_, rfl⟩
  rw [hB]
  have HG := hid hB
  clear hB hn h3 hsl ht
  generalize slash name = k at *
  go_enter Try.func50, Try.ntmps50
  go_wp2_with fail
  refine (K.out _).mono ?_
  rintro e w1 ⟨rfl, hb1⟩
  have HE1 := hid (HE.out.trans hb1)
  have HB1 := hid (HB.out.ext hb1)
  have c1 : w1.cell? ⟨w.heap.size, 1, none⟩ = some (str name) := HB1.out.cell 1
  clear hb1
  go_wp2_with fail
  have HW1 : Hid (Ext w w1 ∧ w1.cell? ⟨w.heap.size, 1, none⟩ = some (str name) ∧ w.heap.size < w1.heap.size) := ⟨HE1.out, c1, HB1.out.lt⟩
  clear HE HB HE1 HB1 c1
  go_loopw [4] (fun i wr => ∃ j : Nat, 2 ≤ j ∧ j ≤ name.length ∧ i = .int .i64 j ∧ Hid (goodA k (name.drop j) j = B) ∧ Hid (Ext w wr ∧ wr.cell? ⟨w.heap.size, 1, none⟩ = some (str name) ∧ w.heap.size < wr.heap.size)) (fun i _ => name.length - (intOf i).toNat)
  case atStart => exact ⟨2, Nat.le_refl _, hl2, rfl, HG, HW1⟩
  case round =>
    obtain ⟨j, hj2, hj, rfl, HP, HW⟩ := hrel
    have c1 := HW.out.2.1
    by_cases hlt : j < name.length
    · have hdr : name.drop j = name[j] :: name.drop (j + 1) := List.drop_eq_getElem_cons hlt
      rw [hdr, goodA] at HP
      clear hdr
      by_cases hjk : j < k
      · have u1 : decide (j < k) = true := by simp; omega
        have u2 : decide (k < j) = false := by simp; omega
        have KL := hid (fun W => letter_any (name[j]) W)
        by_cases hl : lett name[j] = true
        · have HN : Hid (goodA k (name.drop (j + 1)) (j + 1) = B) := hid (by have := HP.out; simpa [hjk, hl, show ¬ k < j by omega] using this)
          rw [hl] at KL
          clear HP hl hjk
          go_wp2_with fail
          refine (KL.out _).mono ?_
          rintro e w2 ⟨rfl, hb2⟩
          have HW2 : Hid (Ext w w2 ∧ w2.cell? ⟨w.heap.size, 1, none⟩ = some (str name) ∧ w.heap.size < w2.heap.size) := ⟨HW.out.1.trans hb2, (hb2.cell HW.out.2.2 (by simp)).trans HW.out.2.1, Nat.lt_of_lt_of_le HW.out.2.2 hb2.size⟩
          clear hb2 c1
          go_wp2_with fail
          go_roundw
          case rel => exact ⟨j + 1, by omega, by omega, by go_num, HN, HW2⟩
          case measure => simp [intOf]; omega
        · have hl2 : lett name[j] = false := by simpa using hl
          have HN : Hid (false = B) := hid (by have := HP.out; simpa [hjk, hl2] using this)
          rw [hl2] at KL
          clear HP hl hl2 hjk
          go_wp2_with fail
          refine (KL.out _).mono ?_
          rintro e w2 ⟨rfl, hb2⟩
          go_wp2_with fail
          go_ret
          exact Ret.mk (by rw [← HN.out]; rfl) (HW.out.1.trans hb2)
      · have u1 : decide (j < k) = false := by simp; omega
        by_cases hkj : k < j
        · have u2 : decide (k < j) = true := by simp; omega
          have hx8 := (name[j]).toNat_lt
          by_cases hp : prin name[j] = true
          · have HN : Hid (goodA k (name.drop (j + 1)) (j + 1) = B) := hid (by have := HP.out; simpa [hjk, hkj, hp] using this)
            have hp2 : 33 ≤ (name[j]).toNat ∧ (name[j]).toNat ≤ 126 := by simpa [prin] using hp
            have v1 : decide ((((⟨name.toArray⟩ : ByteArray)[j]'hlt).toNat : Int) < 33) = false := by show decide (((name[j]).toNat : Int) < 33) = false; simp; omega
            have v2 : decide (126 < (((⟨name.toArray⟩ : ByteArray)[j]'hlt).toNat : Int)) = false := by show decide (126 < ((name[j]).toNat : Int)) = false; simp; omega
            clear HP hp hp2 hjk hkj hx8
            go_wp2_with fail
            go_roundw
            case rel => exact ⟨j + 1, by omega, by omega, by go_num, HN, HW⟩
            case measure => simp [intOf]; omega
          · have hp1 : prin name[j] = false := by simpa using hp
            have HN : Hid (false = B) := hid (by have := HP.out; simpa [hjk, hkj, hp1] using this)
            have hp2 : ¬ (33 ≤ (name[j]).toNat ∧ (name[j]).toNat ≤ 126) := by simpa [prin] using hp
            by_cases h33 : (name[j]).toNat < 33
            · have v1 : decide ((((⟨name.toArray⟩ : ByteArray)[j]'hlt).toNat : Int) < 33) = true := by show decide (((name[j]).toNat : Int) < 33) = true; simp; omega
              clear HP hp hp1 hp2 hjk hkj hx8 h33
              go_wp2_with fail
              go_ret
              exact Ret.mk (by rw [← HN.out]; rfl) HW.out.1
            · have v1 : decide ((((⟨name.toArray⟩ : ByteArray)[j]'hlt).toNat : Int) < 33) = false := by show decide (((name[j]).toNat : Int) < 33) = false; simp; omega
              have v2 : decide (126 < (((⟨name.toArray⟩ : ByteArray)[j]'hlt).toNat : Int)) = true := by show decide (126 < ((name[j]).toNat : Int)) = true; simp; omega
              clear HP hp hp1 hp2 hjk hkj hx8 h33
              go_wp2_with fail
              go_ret
              exact Ret.mk (by rw [← HN.out]; rfl) HW.out.1
        · have u2 : decide (k < j) = false := by simp; omega
          have HN : Hid (goodA k (name.drop (j + 1)) (j + 1) = B) := hid (by have := HP.out; simpa [hjk, hkj] using this)
          clear HP hjk hkj
          go_wp2_with fail
          go_roundw
          case rel => exact ⟨j + 1, by omega, by omega, by go_num, HN, HW⟩
          case measure => simp [intOf]; omega
    · obtain rfl : j = name.length := by omega
      have HN : Hid (true = B) := by have := HP.out; rw [List.drop_length] at this; exact this
      clear HP
      go_wp2_with fail
      go_ret
      exact Ret.mk (by rw [← HN.out]; rfl) HW.out.1
theorem r10_any (e : EV) (w : World) : Calls Try.prog 50 #[e.v] w (Ret (.bool e.ok) w) := by
  rw [← EV.ok_eq]
  obtain ⟨sch, name, node, svc⟩ := e
  unfold EV.okR
  simp only []
  by_cases h2 : sch = 2
  · subst h2; rw [if_pos rfl]; exact r10_two name node svc w
  rw [if_neg h2]
  by_cases h1 : sch = 1
  case neg => rw [if_pos (Or.inl h1)]; exact r10_sch sch name node svc h2 h1 w
  subst h1
  by_cases hn : node = 0
  case neg => rw [if_pos (by omega)]; exact r10_node name node svc hn w
  subst hn
  by_cases hv : svc = 0
  case neg => rw [if_pos (by omega)]; exact r10_svc name svc hv w
  subst hv
  by_cases hl : 60 < name.length
  · rw [if_pos (by omega)]; exact r10_long name hl w
  rw [if_neg (by omega)]
  by_cases h0 : name = noneL
  · rw [if_pos h0]; subst h0; exact r10_none w
  rw [if_neg h0]
  exact r10_name name (by omega) h0 w
end Go.Proofs.Ytogjghmoankleaa


namespace Go.Proofs.Ytogjghmoankleaa
open Go.RowKit
set_option linter.unusedVariables false
set_option linter.unusedSimpArgs false

theorem EV.ok_cases {e : EV} (h : e.ok = true) : (e = ⟨1, [110, 111, 110, 101], 0, 0⟩) ∨ (∃ name, e = ⟨1, name, 0, 0⟩ ∧ name ≠ [110, 111, 110, 101] ∧ name.length ≤ 60) ∨ (∃ node svc, e = ⟨2, [], node, svc⟩ ∧ node ≤ 4294967295 ∧ svc ≤ 4294967295) := by
  obtain ⟨sch, name, node, svc⟩ := e
  unfold EV.ok at h
  simp only [] at h
  by_cases h1 : sch = 1
  · rw [if_pos h1] at h
    simp only [Bool.and_eq_true, decide_eq_true_eq] at h
    obtain ⟨⟨rfl, rfl⟩, hn⟩ := h
    subst h1
    by_cases h0 : name = [110, 111, 110, 101]
    · subst h0; exact .inl rfl
    · refine .inr (.inl ⟨name, rfl, h0, ?_⟩)
      have h00 : ¬ name = noneL := h0
      simp only [namedL, h00, decide_false, Bool.false_or, Bool.and_eq_true, decide_eq_true_eq] at hn
      by_cases hl : name.length ≤ 60
      · exact hl
      · exfalso
        apply hn.1
        unfold nodeN
        rw [if_neg (fun h => hl h.2)]
  · rw [if_neg h1] at h
    by_cases h2 : sch = 2
    · rw [if_pos h2] at h
      simp only [Bool.and_eq_true, decide_eq_true_eq] at h
      obtain ⟨⟨rfl, ha⟩, hb⟩ := h
      subst h2
      exact .inr (.inr ⟨node, svc, rfl, ha, hb⟩)
    · rw [if_neg h2] at h
      cases h
theorem eidItem_ok (e : EV) (ho : e.ok = true) (w : World) : Calls Try.prog 87 #[e.v] w (fun r w' => ∃ A, r = .returned (.tuple #[itemV (eidT e) A 2, .int .i64 0]) ∧ Ext w w' ∧ IsL w' (fun b => w.heap.size ≤ b) (eidT e) A) := by
  rcases EV.ok_cases ho with rfl | ⟨name, rfl, hn, hl⟩ | ⟨node, svc, rfl, ha, hb⟩
  · exact eidItem_none w
  · exact eidItem_dtn name (by unfold Hid; omega) hn ho w
  · have e1 : eidT ⟨2, [], node, svc⟩ = ipnT node svc := rfl
    rw [e1]
    exact eidItem_ipn node svc ha hb w
theorem text_ok {s : List UInt8} (h : s.length < 4611686018427387904) : (textT s).ok := by unfold textT T.ok; exact ⟨by omega, by omega, h, by omega, fun i hi => by omega⟩
theorem eidT_ok {e : EV} (ho : e.ok = true) : (eidT e).ok ∧ (∀ d, 3 ≤ d → (eidT e).right d = true) ∧ (eidT e).plain = true ∧ (eidT e).size ≤ 100000 := by
  rcases EV.ok_cases ho with rfl | ⟨name, rfl, hn, hl⟩ | ⟨node, svc, rfl, ha, hb⟩
  · refine ⟨?_, fun d hd => ?_, by decide, by decide⟩
    · unfold eidT T.ok
      exact ⟨by omega, by omega, by simp, by omega, fun i hi => by dsimp only; split; exact num_ok (by decide); exact num_ok (by decide)⟩
    · have h1 : ¬ d < 1 := by omega
      have h2 : ¬ d - 1 < 1 := by omega
      simp [eidT, twoT, noneL, T.right, h1, h2, T.node, T.all, numT]
  · have h0 : ¬ name = noneL := hn
    have e1 : twoT ⟨1, name, 0, 0⟩ = textT name := by simp [twoT, h0]
    refine ⟨?_, fun d hd => ?_, ?_, ?_⟩
    · unfold eidT T.ok
      exact ⟨by omega, by omega, by simp, by omega, fun i hi => by dsimp only; split; exact num_ok (by decide); rw [e1]; exact text_ok (by omega)⟩
    · have h1 : ¬ d < 1 := by omega
      have h2 : ¬ d - 1 < 1 := by omega
      simp [eidT, e1, T.right, h1, h2, T.node, T.all, numT, textT]
    · simp [eidT, e1, T.plain, T.node, T.all, numT, textT]
    · simp [eidT, e1, T.size, T.sum, numT, textT]; omega
  · refine ⟨?_, fun d hd => ?_, ?_, ?_⟩
    · unfold eidT T.ok
      refine ⟨by omega, by omega, by simp, by omega, fun i hi => ?_⟩
      dsimp only
      split
      · exact num_ok (by decide)
      · show (T.mk 4 0 [] false 2 (fun j => if j = 0 then numT node else numT svc)).ok
        unfold T.ok
        exact ⟨by omega, by omega, by simp, by omega, fun i hi => by dsimp only; split; exact num_ok (by omega); exact num_ok (by omega)⟩
    · have h1 : ¬ d < 1 := by omega
      have h2 : ¬ d - 1 < 1 := by omega
      have h3 : ¬ d - 1 - 1 < 1 := by omega
      simp [eidT, twoT, T.right, h1, h2, h3, T.node, T.all, numT]
    · simp [eidT, twoT, T.plain, T.node, T.all, numT]
    · simp [eidT, twoT, T.size, T.sum, numT]

theorem two_IsL {W : World} {Q : Nat → Prop} {g : Nat} (t0 t1 : T) (A0 A1 : Option Addr) (c0 c1 : Nat) (q : Q g)
    (h : Blk W g 38 #[.int .i64 t0.kind, .int .u64 (t0.n : Int), str t0.s, .slice A0 t0.k c0, .bool t0.op, .int .i64 t1.kind, .int .u64 (t1.n : Int), str t1.s, .slice A1 t1.k c1, .bool t1.op]) (h0 : IsL W Q t0 A0) (h1 : IsL W Q t1 A1) : IsL W Q (T.mk 4 0 [] false 2 fun i => if i = 0 then t0 else t1) (some ⟨g, 0, none⟩) := fun _ => ⟨g, 0, rfl, h.lt, q, fun i hi => by
  have hi2 : i = 0 ∨ i = 1 := by omega
  rcases hi2 with rfl | rfl
  · exact ⟨A0, c0, ⟨h.cell 0, h.cell 1, h.cell 2, h.cell 3, h.cell 4⟩, h0⟩
  · exact ⟨A1, c1, ⟨h.cell 5, h.cell 6, h.cell 7, h.cell 8, h.cell 9⟩, h1⟩⟩
theorem leaf_IsL {W : World} {Q : Nat → Prop} {t : T} {A : Option Addr} (h : t.k = 0) (hn : t ≠ T.nil) : IsL W Q t A := by
  cases t with
  | nil => exact absurd rfl hn
  | mk kind n s op k ch => intro h0; have : k = 0 := h; omega

set_option maxRecDepth 20000 in
set_option maxHeartbeats 1600000 in
theorem r10Item_none (w : World) : Calls Try.prog 58 #[EV.v ⟨1, [110, 111, 110, 101], 0, 0⟩] w (fun r w' => ∃ A, r = .returned (itemV (eidT ⟨1, [110, 111, 110, 101], 0, 0⟩) A 2) ∧ Ext w w' ∧ IsL w' (fun b => w.heap.size ≤ b) (eidT ⟨1, [110, 111, 110, 101], 0, 0⟩) A) := by
  go_enter Try.func58, Try.ntmps58
  go_wp2_with fail
  refine bodyPost_ret (v := itemV (eidT ⟨1, [110, 111, 110, 101], 0, 0⟩) (some ⟨w.heap.size + 1 + 1 + 1, 0, none⟩) 2) (by simp [results, Try.results58, go_sem]; exact ⟨rfl, rfl, rfl, rfl, rfl⟩) rfl ?_
  refine ⟨_, rfl, ((((Mod.refl _ _).alloc _).alloc _).alloc _).alloc _, ?_⟩
  exact two_IsL (numT 1) (numT 0) none none 0 0 (show w.heap.size ≤ w.heap.size + 1 + 1 + 1 by omega) (Blk.new' _ _ _ (by simp)) (leaf_IsL rfl (by simp [numT])) (leaf_IsL rfl (by simp [numT]))
set_option maxRecDepth 20000 in
set_option maxHeartbeats 1600000 in
theorem r10Item_dtn (name : List UInt8) (hn : name ≠ [110, 111, 110, 101]) (w : World) : Calls Try.prog 58 #[EV.v ⟨1, name, 0, 0⟩] w (fun r w' => ∃ A, r = .returned (itemV (eidT ⟨1, name, 0, 0⟩) A 2) ∧ Ext w w' ∧ IsL w' (fun b => w.heap.size ≤ b) (eidT ⟨1, name, 0, 0⟩) A) := by
  have h0 : ¬ name = noneL := hn
  have e1 : eidT ⟨1, name, 0, 0⟩ = T.mk 4 0 [] false 2 fun i => if i = 0 then numT 1 else textT name := by simp [eidT, twoT, h0]
  rw [e1]
  have n1 : (name == [110, 111, 110, 101]) = false := by simpa using hn
  have n2 : (name = [110, 111, 110, 101]) = False := by simpa using hn
  have n3 : (name != [110, 111, 110, 101]) = true := by simpa using hn
  clear e1 h0 hn
  go_enter Try.func58, Try.ntmps58
  go_wp2_with fail
  refine bodyPost_ret (v := itemV (T.mk 4 0 [] false 2 fun i => if i = 0 then numT 1 else textT name) (some ⟨w.heap.size + 1 + 1 + 1, 0, none⟩) 2) (by simp [results, Try.results58, go_sem]; exact ⟨rfl, rfl, rfl, rfl, rfl⟩) rfl ?_
  refine ⟨_, rfl, ((((Mod.refl _ _).alloc _).alloc _).alloc _).alloc _, ?_⟩
  exact two_IsL (numT 1) (textT name) none none 0 0 (show w.heap.size ≤ w.heap.size + 1 + 1 + 1 by omega) (Blk.new' _ _ _ (by simp)) (leaf_IsL rfl (by simp [numT])) (leaf_IsL rfl (by simp [textT]))
set_option maxRecDepth 20000 in
set_option maxHeartbeats 1600000 in
theorem r10Item_ipn (node svc : Nat) (w : World) : Calls Try.prog 58 #[EV.v ⟨2, [], node, svc⟩] w (fun r w' => ∃ A, r = .returned (itemV (eidT ⟨2, [], node, svc⟩) A 2) ∧ Ext w w' ∧ IsL w' (fun b => w.heap.size ≤ b) (eidT ⟨2, [], node, svc⟩) A) := by
  go_enter Try.func58, Try.ntmps58
  go_wp2_with fail
  refine bodyPost_ret (v := itemV (eidT ⟨2, [], node, svc⟩) (some ⟨w.heap.size + 1 + 1 + 1 + 1, 0, none⟩) 2) (by simp [results, Try.results58, go_sem]; exact ⟨rfl, rfl, rfl, rfl, rfl⟩) rfl ?_
  refine ⟨_, rfl, (((((Mod.refl _ _).alloc _).alloc _).alloc _).alloc _).alloc _, ?_⟩
  refine two_IsL (numT 2) (T.mk 4 0 [] false 2 (fun j => if j = 0 then numT node else numT svc)) none (some ⟨w.heap.size + 1 + 1 + 1, 0, none⟩) 0 2 (show w.heap.size ≤ w.heap.size + 1 + 1 + 1 + 1 by omega) (Blk.new' _ _ _ (by simp)) (leaf_IsL rfl (by simp [numT])) ?_
  exact two_IsL (numT node) (numT svc) none none 0 0 (show w.heap.size ≤ w.heap.size + 1 + 1 + 1 by omega) ((Blk.new' _ _ _ (by simp)).alloc _) (leaf_IsL rfl (by simp [numT])) (leaf_IsL rfl (by simp [numT]))
theorem r10Item_ok (e : EV) (ho : e.ok = true) (w : World) : Calls Try.prog 58 #[e.v] w (fun r w' => ∃ A, r = .returned (itemV (eidT e) A 2) ∧ Ext w w' ∧ IsL w' (fun b => w.heap.size ≤ b) (eidT e) A) := by
  rcases EV.ok_cases ho with rfl | ⟨name, rfl, hn, hl⟩ | ⟨node, svc, rfl, ha, hb⟩
  · exact r10Item_none w
  · exact r10Item_dtn name hn w
  · exact r10Item_ipn node svc w
end Go.Proofs.Ytogjghmoankleaa


namespace Go.Proofs.Ytogjghmoankleaa
open Go.RowKit
set_option linter.unusedVariables false
set_option linter.unusedSimpArgs false

/-- An array of these items. -/
def listT (L : List T) : T := T.mk 4 0 [] false L.length fun i => (L[i]?).getD T.nil
theorem catR_list (g : T → List UInt8) : ∀ L : List T, T.catR (fun i => g ((L[i]?).getD T.nil)) L.length = (L.map g).flatten
  | [] => rfl
  | x :: L => by
    rw [List.length_cons, T.catR, List.map_cons, List.flatten_cons, ← catR_list g L]
    rfl
theorem listT_bytes (L : List T) : (listT L).bytes = headL 4 L.length ++ (L.map T.bytes).flatten := by
  unfold listT
  rw [T.bytes, if_neg (by decide), if_neg (by decide), T.cat_eq, catR_list]
  simp
theorem getD_mem {L : List T} {i : Nat} (h : i < L.length) : (L[i]?).getD T.nil ∈ L := by
  rw [List.getElem?_eq_getElem h]; exact List.getElem_mem h
theorem listT_ok {L : List T} (hl : L.length < 4611686018427387904) (h : ∀ t ∈ L, t.ok) : (listT L).ok := by
  unfold listT T.ok
  exact ⟨by omega, by omega, by simp, hl, fun i hi => h _ (getD_mem hi)⟩
theorem listT_right {L : List T} {d : Nat} (hd : 1 ≤ d) (hl : L.length ≤ 1000) (h : ∀ t ∈ L, t.right (d - 1) = true) : (listT L).right d = true := by
  unfold listT T.right
  rw [if_neg (by omega), Bool.and_eq_true, T.all_iff]
  refine ⟨?_, fun i hi => h _ (getD_mem hi)⟩
  simp [T.node, hl]
theorem sum_le_each {f : Nat → Nat} {B k : Nat} (h : ∀ i, i < k → f i ≤ B) : T.sum f k ≤ k * B := by
  induction k with
  | zero => simp [T.sum]
  | succ k ih =>
    have := ih (fun i hi => h i (by omega))
    have := h k (by omega)
    rw [T.sum, Nat.succ_mul]; omega
theorem listT_size {L : List T} {B : Nat} (h : ∀ t ∈ L, t.size ≤ B) : (listT L).size ≤ 1 + L.length * B := by
  unfold listT T.size
  have := sum_le_each (f := fun i => ((L[i]?).getD T.nil).size) (B := B) (k := L.length) (fun i hi => h _ (getD_mem hi))
  simp; omega
theorem numT_all (n : Nat) (h : n < 18446744073709551616) : (numT n).ok ∧ (∀ d, 1 ≤ d → (numT n).right d = true) ∧ (numT n).size ≤ 100 ∧ (numT n).bytes = headL 0 n := by
  refine ⟨num_ok h, fun d hd => ?_, by simp [numT, T.size, T.sum], rfl⟩
  unfold numT T.right
  rw [if_neg (by omega)]
  simp [T.node, T.all]
theorem strT_all {s : List UInt8} (h : s.length ≤ 90) : (strT s).ok ∧ (∀ d, 1 ≤ d → (strT s).right d = true) ∧ (strT s).size ≤ 100 ∧ (strT s).bytes = headL 2 s.length ++ s := by
  refine ⟨str_ok (by omega), fun d hd => ?_, ?_, rfl⟩
  · unfold strT T.right
    rw [if_neg (by omega)]
    simp [T.node, T.all]
  · simp [strT, T.size, T.sum]; omega
theorem eidT_small {e : EV} (ho : e.ok = true) : (eidT e).size ≤ 100 := by
  rcases EV.ok_cases ho with rfl | ⟨name, rfl, hn, hl⟩ | ⟨node, svc, rfl, ha, hb⟩
  · decide
  · have h0 : ¬ name = noneL := hn
    have e1 : twoT ⟨1, name, 0, 0⟩ = textT name := by simp [twoT, h0]
    simp [eidT, e1, T.size, T.sum, numT, textT]; omega
  · simp [eidT, twoT, T.size, T.sum, numT]

/- A primary. -/
def PV.ranged (p : PV) : Bool := p.d.ok && (p.s.ok && (p.r.ok && decide (0 ≤ p.crc ∧ p.crc ≤ 2 ∧ p.fl < 2097152 ∧ p.t ≤ 1099511627776 ∧ p.q ≤ 1099511627776 ∧ p.l ≤ 1099511627776 ∧ p.o ≤ 1099511627776 ∧ p.n ≤ 1099511627776)))
def PV.none (p : PV) : Prop := p.s.sch = 1 ∧ p.s.name = noneL
instance (p : PV) : Decidable p.none := by unfold PV.none; infer_instance
def PV.right (p : PV) : Int :=
  if p.ranged = false then 1
  else if (p.fl % 2 = 1 ∧ (p.fl / 4 % 2 = 1 ∨ p.n ≤ p.o)) ∨ (¬ p.fl % 2 = 1 ∧ (0 < p.o ∨ 0 < p.n)) then 8
  else if ((p.fl / 16384 % 2 = 1 ∨ p.fl / 262144 % 2 = 1) ∧ (p.none ∨ p.fl / 2 % 2 = 1)) ∨ (p.none ∧ ¬ p.fl / 4 % 2 = 1) then 8
  else 0
theorem PV.ranged_spec {p : PV} (h : p.ranged = true) : p.d.ok = true ∧ p.s.ok = true ∧ p.r.ok = true ∧ 0 ≤ p.crc ∧ p.crc ≤ 2 ∧ p.fl < 2097152 ∧ p.t ≤ 1099511627776 ∧ p.q ≤ 1099511627776 ∧ p.l ≤ 1099511627776 ∧ p.o ≤ 1099511627776 ∧ p.n ≤ 1099511627776 := by
  unfold PV.ranged at h
  simp only [Bool.and_eq_true, decide_eq_true_eq] at h
  exact ⟨h.1, h.2.1, h.2.2.1, h.2.2.2⟩
theorem PV.right_ranged {p : PV} (h : p.right = 0) : p.ranged = true := by
  unfold PV.right at h
  cases hr : p.ranged with
  | true => rfl
  | false => rw [hr, if_pos rfl] at h; exact absurd h (by decide)
/-- Its items, with a sum. -/
def priL (p : PV) (k : Nat) (sum : List UInt8) : List T :=
  [numT 7, numT p.fl, numT k, eidT p.d, eidT p.s, eidT p.r, listT [numT p.t, numT p.q], numT p.l] ++ ((if p.fl % 2 = 1 then [numT p.o, numT p.n] else []) ++ (if k = 0 then [] else [strT sum]))
def priT (p : PV) (k : Nat) (sum : List UInt8) : T := listT (priL p k sum)
def priN (p : PV) (k : Nat) : Nat := 8 + ((if p.fl % 2 = 1 then 2 else 0) + (if k = 0 then 0 else 1))
theorem priL_length (p : PV) (k : Nat) (sum : List UInt8) : (priL p k sum).length = priN p k := by
  unfold priL priN
  split <;> split <;> simp
/-- Its bytes, with a sum. -/
def priB (p : PV) (k : Nat) (sum : List UInt8) : List UInt8 :=
  headL 4 (priN p k) ++ (headL 0 7 ++ (headL 0 p.fl ++ (headL 0 k ++ ((eidT p.d).bytes ++ ((eidT p.s).bytes ++ ((eidT p.r).bytes ++ (headL 4 2 ++ (headL 0 p.t ++ (headL 0 p.q ++ (headL 0 p.l ++
  ((if p.fl % 2 = 1 then headL 0 p.o ++ headL 0 p.n else []) ++ (if k = 0 then [] else headL 2 sum.length ++ sum))))))))))))
theorem priT_bytes (p : PV) (k : Nat) (sum : List UInt8) : (priT p k sum).bytes = priB p k sum := by
  unfold priT
  rw [listT_bytes, priL_length]
  unfold priL priB
  have e : (listT [numT p.t, numT p.q]).bytes = headL 4 2 ++ (headL 0 p.t ++ headL 0 p.q) := by
    rw [listT_bytes]; simp [show ∀ n, (numT n).bytes = headL 0 n from fun n => rfl]
  by_cases h1 : p.fl % 2 = 1 <;> by_cases h2 : k = 0 <;>
    simp [h1, h2, e, show ∀ n, (numT n).bytes = headL 0 n from fun n => rfl, show ∀ s, (strT s).bytes = headL 2 s.length ++ s from fun s => rfl]
theorem priT_all {p : PV} (h : p.ranged = true) {k : Nat} (hk : k ≤ 2) {sum : List UInt8} (hs : sum.length ≤ 90) : (priT p k sum).ok ∧ (∀ d, 4 ≤ d → (priT p k sum).right d = true) ∧ (priT p k sum).size ≤ 4000 := by
  obtain ⟨h1, h2, h3, h4, h5, h6, h7, h8, h9, h10, h11⟩ := PV.ranged_spec h
  have hm : ∀ t ∈ priL p k sum, t.ok ∧ (∀ d, 3 ≤ d → t.right d = true) ∧ t.size ≤ 350 := by
    intro t ht
    have num : ∀ n, n < 18446744073709551616 → (numT n).ok ∧ (∀ d, 3 ≤ d → (numT n).right d = true) ∧ (numT n).size ≤ 350 := fun n hn => by
      obtain ⟨a, b, c, _⟩ := numT_all n hn
      exact ⟨a, fun d hd => b d (by omega), by omega⟩
    have eid : ∀ e : EV, e.ok = true → (eidT e).ok ∧ (∀ d, 3 ≤ d → (eidT e).right d = true) ∧ (eidT e).size ≤ 350 := fun e he => by
      obtain ⟨a, b, _, _⟩ := eidT_ok he
      exact ⟨a, b, by have := eidT_small he; omega⟩
    unfold priL at ht
    rw [List.mem_append, List.mem_append] at ht
    rcases ht with ht | ht | ht
    · simp only [List.mem_cons, List.not_mem_nil, or_false] at ht
      rcases ht with rfl | rfl | rfl | rfl | rfl | rfl | rfl | rfl
      · exact num 7 (by decide)
      · exact num _ (by omega)
      · exact num _ (by omega)
      · exact eid _ h1
      · exact eid _ h2
      · exact eid _ h3
      · have a := numT_all p.t (by omega)
        have b := numT_all p.q (by omega)
        refine ⟨listT_ok (by simp) ?_, fun d hd => listT_right (by omega) (by simp) ?_, ?_⟩
        · intro t ht
          simp only [List.mem_cons, List.not_mem_nil, or_false] at ht
          rcases ht with rfl | rfl
          · exact a.1
          · exact b.1
        · intro t ht
          simp only [List.mem_cons, List.not_mem_nil, or_false] at ht
          rcases ht with rfl | rfl
          · exact a.2.1 _ (by omega)
          · exact b.2.1 _ (by omega)
        · have := listT_size (L := [numT p.t, numT p.q]) (B := 100) (by
            intro t ht
            simp only [List.mem_cons, List.not_mem_nil, or_false] at ht
            rcases ht with rfl | rfl
            · exact a.2.2.1
            · exact b.2.2.1)
          simp at this
          omega
      · exact num _ (by omega)
    · split at ht
      · simp only [List.mem_cons, List.not_mem_nil, or_false] at ht
        rcases ht with rfl | rfl
        · exact num _ (by omega)
        · exact num _ (by omega)
      · cases ht
    · split at ht
      · cases ht
      · simp only [List.mem_cons, List.not_mem_nil, or_false] at ht
        subst ht
        obtain ⟨a, b, c, _⟩ := strT_all hs
        exact ⟨a, fun d hd => b d (by omega), by omega⟩
  have hl : (priL p k sum).length ≤ 11 := by rw [priL_length]; unfold priN; split <;> split <;> omega
  refine ⟨listT_ok (by omega) fun t ht => (hm t ht).1, fun d hd => listT_right (by omega) (by omega) fun t ht => (hm t ht).2.1 _ (by omega), ?_⟩
  have := listT_size (L := priL p k sum) (B := 350) fun t ht => (hm t ht).2.2
  have h2 : (priL p k sum).length * 350 ≤ 11 * 350 := Nat.mul_le_mul_right _ hl
  show (listT (priL p k sum)).size ≤ 4000
  omega
/-- A number's bytes, as the first is the greatest. -/
def PV.sumK (f : Nat → List UInt8 → List UInt8) (p : PV) (k : Nat) : List UInt8 := if k = 0 then [] else f k (priB p k (List.replicate (2 * k) 0))
end Go.Proofs.Ytogjghmoankleaa


namespace Go.Proofs.Ytogjghmoankleaa
open Go.RowKit
set_option linter.unusedVariables false
set_option linter.unusedSimpArgs false

theorem quo_remP {f c x : Nat} (hf : f < 18446744073709551616) (h : f / c % 2 = x) : (IntKind.u64.wrap ((f : Int) / (c : Int))).tmod 2 = (x : Int) := by
  have h1 : (f : Int) / (c : Int) = ((f / c : Nat) : Int) := by simp
  have h2 : f / c ≤ f := Nat.div_le_self _ _
  rw [h1]
  generalize f / c = y at *
  rw [IntWalk.u64_in _ (by omega), Int.tmod_eq_emod_of_nonneg (by omega)]
  omega
def has (f c : Nat) : Bool := decide (f / c % 2 = 1)
set_option maxRecDepth 20000 in
theorem Has_any (f c : Nat) (hf : f < 18446744073709551616) (hc : 0 < c) (hc2 : c < 1000000) (w : World) : Calls Try.prog 65 #[.int .u64 (f : Int), .int .i64 (c : Int)] w (Ret (.bool (has f c)) w) := by
  have f0 : (0 : Int) ≤ (f : Int) := by omega
  have c0 : (0 : Int) ≤ (c : Int) := by omega
  have c1 : (c : Int) ≤ 1000000 := by omega
  have t1 : IntKind.u64.wrap (c : Int) = (c : Int) := IntWalk.u64_in _ (by omega)
  have z1 : ((c : Int) == 0) = false := by simp; omega
  have z2 : ((c : Int) = 0) = False := by simp; omega
  have z3 : (c = 0) = False := by simp; omega
  have hx : f / c % 2 = 0 ∨ f / c % 2 = 1 := by omega
  rcases hx with hx | hx
  · have a1 := quo_remP hf hx
    have HV : Hid (has f c = false) := by unfold Hid has; simp [hx]
    clear hx hf hc hc2
    go_enter Try.func65, Try.ntmps65
    go_wp2
    go_ret
    exact Ret.mk (by rw [HV.out]; simp) (Mod.refl _ _)
  · have a1 := quo_remP hf hx
    have HV : Hid (has f c = true) := by unfold Hid has; simp [hx]
    clear hx hf hc hc2
    go_enter Try.func65, Try.ntmps65
    go_wp2
    go_ret
    exact Ret.mk (by rw [HV.out]; simp) (Mod.refl _ _)
set_option maxRecDepth 20000 in
set_option maxHeartbeats 1600000 in
theorem r11Right_any (p : PV) (hf : p.fl < 18446744073709551616) (w : World) : Calls Try.prog 32 #[.agg p.c] w (Ret (.int .i64 p.right) w) := by
  have KD := hid (fun W => r10_any p.d W)
  have KS := hid (fun W => r10_any p.s W)
  have KR := hid (fun W => r10_any p.r W)
  have H1 : Hid (∀ W, Calls Try.prog 65 #[.int .u64 (p.fl : Int), .int .i64 1] W (Ret (.bool (has p.fl 1)) W)) := fun W => Has_any p.fl 1 hf (by omega) (by omega) W
  have H2 : Hid (∀ W, Calls Try.prog 65 #[.int .u64 (p.fl : Int), .int .i64 2] W (Ret (.bool (has p.fl 2)) W)) := fun W => Has_any p.fl 2 hf (by omega) (by omega) W
  have H4 : Hid (∀ W, Calls Try.prog 65 #[.int .u64 (p.fl : Int), .int .i64 4] W (Ret (.bool (has p.fl 4)) W)) := fun W => Has_any p.fl 4 hf (by omega) (by omega) W
  have HH : Hid (∀ W, Calls Try.prog 65 #[.int .u64 (p.fl : Int), .int .i64 16384] W (Ret (.bool (has p.fl 16384)) W)) := fun W => Has_any p.fl 16384 hf (by omega) (by omega) W
  have HG : Hid (∀ W, Calls Try.prog 65 #[.int .u64 (p.fl : Int), .int .i64 262144] W (Ret (.bool (has p.fl 262144)) W)) := fun W => Has_any p.fl 262144 hf (by omega) (by omega) W
  have HE := hid ((Mod.refl [] w).alloc (.cells p.c 68))
  have HB := hid (Blk.new w 68 p.c)
  have f0 : (0 : Int) ≤ (p.fl : Int) := by omega
  clear hf
  go_enter Try.func32, Try.ntmps32
  go_upto_region 1 with fail
  generalize w.alloc (.cells p.c 68) = V at *
  have b0 : ∀ e : Later V, e.x.cell? ⟨w.heap.size, 0, none⟩ = some (.int .u64 (p.fl : Int)) := HB.out.cellL 0 rfl
  have b1 : ∀ e : Later V, e.x.cell? ⟨w.heap.size, 1, none⟩ = some (.int .i64 p.crc) := HB.out.cellL 1 rfl
  have b2 : ∀ e : Later V, e.x.cell? ⟨w.heap.size, 2, none⟩ = some (.int .i64 p.d.sch) := HB.out.cellL 2 rfl
  have b3 : ∀ e : Later V, e.x.cell? ⟨w.heap.size, 3, none⟩ = some (str p.d.name) := HB.out.cellL 3 rfl
  have b4 : ∀ e : Later V, e.x.cell? ⟨w.heap.size, 4, none⟩ = some (.int .u64 (p.d.node : Int)) := HB.out.cellL 4 rfl
  have b5 : ∀ e : Later V, e.x.cell? ⟨w.heap.size, 5, none⟩ = some (.int .u64 (p.d.svc : Int)) := HB.out.cellL 5 rfl
  have b6 : ∀ e : Later V, e.x.cell? ⟨w.heap.size, 6, none⟩ = some (.int .i64 p.s.sch) := HB.out.cellL 6 rfl
  have b7 : ∀ e : Later V, e.x.cell? ⟨w.heap.size, 7, none⟩ = some (str p.s.name) := HB.out.cellL 7 rfl
  have b8 : ∀ e : Later V, e.x.cell? ⟨w.heap.size, 8, none⟩ = some (.int .u64 (p.s.node : Int)) := HB.out.cellL 8 rfl
  have b9 : ∀ e : Later V, e.x.cell? ⟨w.heap.size, 9, none⟩ = some (.int .u64 (p.s.svc : Int)) := HB.out.cellL 9 rfl
  have b10 : ∀ e : Later V, e.x.cell? ⟨w.heap.size, 10, none⟩ = some (.int .i64 p.r.sch) := HB.out.cellL 10 rfl
  have b11 : ∀ e : Later V, e.x.cell? ⟨w.heap.size, 11, none⟩ = some (str p.r.name) := HB.out.cellL 11 rfl
  have b12 : ∀ e : Later V, e.x.cell? ⟨w.heap.size, 12, none⟩ = some (.int .u64 (p.r.node : Int)) := HB.out.cellL 12 rfl
  have b13 : ∀ e : Later V, e.x.cell? ⟨w.heap.size, 13, none⟩ = some (.int .u64 (p.r.svc : Int)) := HB.out.cellL 13 rfl
  have b14 : ∀ e : Later V, e.x.cell? ⟨w.heap.size, 14, none⟩ = some (.int .u64 (p.t : Int)) := HB.out.cellL 14 rfl
  have b15 : ∀ e : Later V, e.x.cell? ⟨w.heap.size, 15, none⟩ = some (.int .u64 (p.q : Int)) := HB.out.cellL 15 rfl
  have b16 : ∀ e : Later V, e.x.cell? ⟨w.heap.size, 16, none⟩ = some (.int .u64 (p.l : Int)) := HB.out.cellL 16 rfl
  have b17 : ∀ e : Later V, e.x.cell? ⟨w.heap.size, 17, none⟩ = some (.int .u64 (p.o : Int)) := HB.out.cellL 17 rfl
  have b18 : ∀ e : Later V, e.x.cell? ⟨w.heap.size, 18, none⟩ = some (.int .u64 (p.n : Int)) := HB.out.cellL 18 rfl
  obtain ⟨e, he0⟩ := Later.self V
  rw [he0]
  clear he0
  cases hx : p.d.ok with
  | false =>
    rw [hx] at KD
    have HR : Hid (p.ranged = false) := by unfold Hid PV.ranged; simp [hx]
    clear hx
    have HS : Hid (p.right = 1) := by
      unfold Hid PV.right
      rw [if_pos HR.out]
    go_wp2_with (first | (go_at_call 50; first | ((with_reducible refine (Ret.later (KD.out _)).mono ?_); rintro x _ ⟨rfl, e, rfl⟩) | ((with_reducible refine (Ret.later (KS.out _)).mono ?_); rintro x _ ⟨rfl, e, rfl⟩) | ((with_reducible refine (Ret.later (KR.out _)).mono ?_); rintro x _ ⟨rfl, e, rfl⟩)) | (go_at_call 65; first | ((with_reducible refine (Ret.later (H1.out _)).mono ?_); rintro x _ ⟨rfl, e, rfl⟩) | ((with_reducible refine (Ret.later (H2.out _)).mono ?_); rintro x _ ⟨rfl, e, rfl⟩) | ((with_reducible refine (Ret.later (H4.out _)).mono ?_); rintro x _ ⟨rfl, e, rfl⟩) | ((with_reducible refine (Ret.later (HH.out _)).mono ?_); rintro x _ ⟨rfl, e, rfl⟩) | ((with_reducible refine (Ret.later (HG.out _)).mono ?_); rintro x _ ⟨rfl, e, rfl⟩)))
    go_ret
    exact Ret.mk (by rw [HS.out]; rfl) (HE.out.trans e.h)
  | true =>
    rw [hx] at KD
    have Xd := hid hx
    clear hx
    cases hx : p.s.ok with
    | false =>
      rw [hx] at KS
      have HR : Hid (p.ranged = false) := by unfold Hid PV.ranged; simp [hx]
      clear hx
      have HS : Hid (p.right = 1) := by
        unfold Hid PV.right
        rw [if_pos HR.out]
      go_wp2_with (first | (go_at_call 50; first | ((with_reducible refine (Ret.later (KD.out _)).mono ?_); rintro x _ ⟨rfl, e, rfl⟩) | ((with_reducible refine (Ret.later (KS.out _)).mono ?_); rintro x _ ⟨rfl, e, rfl⟩) | ((with_reducible refine (Ret.later (KR.out _)).mono ?_); rintro x _ ⟨rfl, e, rfl⟩)) | (go_at_call 65; first | ((with_reducible refine (Ret.later (H1.out _)).mono ?_); rintro x _ ⟨rfl, e, rfl⟩) | ((with_reducible refine (Ret.later (H2.out _)).mono ?_); rintro x _ ⟨rfl, e, rfl⟩) | ((with_reducible refine (Ret.later (H4.out _)).mono ?_); rintro x _ ⟨rfl, e, rfl⟩) | ((with_reducible refine (Ret.later (HH.out _)).mono ?_); rintro x _ ⟨rfl, e, rfl⟩) | ((with_reducible refine (Ret.later (HG.out _)).mono ?_); rintro x _ ⟨rfl, e, rfl⟩)))
      go_ret
      exact Ret.mk (by rw [HS.out]; rfl) (HE.out.trans e.h)
    | true =>
      rw [hx] at KS
      have Xs := hid hx
      clear hx
      cases hx : p.r.ok with
      | false =>
        rw [hx] at KR
        have HR : Hid (p.ranged = false) := by unfold Hid PV.ranged; simp [hx]
        clear hx
        have HS : Hid (p.right = 1) := by
          unfold Hid PV.right
          rw [if_pos HR.out]
        go_wp2_with (first | (go_at_call 50; first | ((with_reducible refine (Ret.later (KD.out _)).mono ?_); rintro x _ ⟨rfl, e, rfl⟩) | ((with_reducible refine (Ret.later (KS.out _)).mono ?_); rintro x _ ⟨rfl, e, rfl⟩) | ((with_reducible refine (Ret.later (KR.out _)).mono ?_); rintro x _ ⟨rfl, e, rfl⟩)) | (go_at_call 65; first | ((with_reducible refine (Ret.later (H1.out _)).mono ?_); rintro x _ ⟨rfl, e, rfl⟩) | ((with_reducible refine (Ret.later (H2.out _)).mono ?_); rintro x _ ⟨rfl, e, rfl⟩) | ((with_reducible refine (Ret.later (H4.out _)).mono ?_); rintro x _ ⟨rfl, e, rfl⟩) | ((with_reducible refine (Ret.later (HH.out _)).mono ?_); rintro x _ ⟨rfl, e, rfl⟩) | ((with_reducible refine (Ret.later (HG.out _)).mono ?_); rintro x _ ⟨rfl, e, rfl⟩)))
        go_ret
        exact Ret.mk (by rw [HS.out]; rfl) (HE.out.trans e.h)
      | true =>
        rw [hx] at KR
        have Xr := hid hx
        clear hx
        by_cases hx : p.crc < 0
        · have ua : decide (p.crc < 0) = true := decide_eq_true (by omega)
          have ub : (p.crc < 0) = True := eq_true (by omega)
          have HR : Hid (p.ranged = false) := by unfold Hid PV.ranged; simp; omega
          clear hx
          have HS : Hid (p.right = 1) := by
            unfold Hid PV.right
            rw [if_pos HR.out]
          go_wp2_with (first | (go_at_call 50; first | ((with_reducible refine (Ret.later (KD.out _)).mono ?_); rintro x _ ⟨rfl, e, rfl⟩) | ((with_reducible refine (Ret.later (KS.out _)).mono ?_); rintro x _ ⟨rfl, e, rfl⟩) | ((with_reducible refine (Ret.later (KR.out _)).mono ?_); rintro x _ ⟨rfl, e, rfl⟩)) | (go_at_call 65; first | ((with_reducible refine (Ret.later (H1.out _)).mono ?_); rintro x _ ⟨rfl, e, rfl⟩) | ((with_reducible refine (Ret.later (H2.out _)).mono ?_); rintro x _ ⟨rfl, e, rfl⟩) | ((with_reducible refine (Ret.later (H4.out _)).mono ?_); rintro x _ ⟨rfl, e, rfl⟩) | ((with_reducible refine (Ret.later (HH.out _)).mono ?_); rintro x _ ⟨rfl, e, rfl⟩) | ((with_reducible refine (Ret.later (HG.out _)).mono ?_); rintro x _ ⟨rfl, e, rfl⟩)))
          go_ret
          exact Ret.mk (by rw [HS.out]; rfl) (HE.out.trans e.h)
        have ua : decide (p.crc < 0) = false := decide_eq_false (by omega)
        have ub : (p.crc < 0) = False := eq_false (by omega)
        have X1 := hid hx
        clear hx
        by_cases hx : 2 < p.crc
        · have va : decide (2 < p.crc) = true := decide_eq_true (by omega)
          have vb : (2 < p.crc) = True := eq_true (by omega)
          have HR : Hid (p.ranged = false) := by unfold Hid PV.ranged; simp; omega
          clear hx
          have HS : Hid (p.right = 1) := by
            unfold Hid PV.right
            rw [if_pos HR.out]
          go_wp2_with (first | (go_at_call 50; first | ((with_reducible refine (Ret.later (KD.out _)).mono ?_); rintro x _ ⟨rfl, e, rfl⟩) | ((with_reducible refine (Ret.later (KS.out _)).mono ?_); rintro x _ ⟨rfl, e, rfl⟩) | ((with_reducible refine (Ret.later (KR.out _)).mono ?_); rintro x _ ⟨rfl, e, rfl⟩)) | (go_at_call 65; first | ((with_reducible refine (Ret.later (H1.out _)).mono ?_); rintro x _ ⟨rfl, e, rfl⟩) | ((with_reducible refine (Ret.later (H2.out _)).mono ?_); rintro x _ ⟨rfl, e, rfl⟩) | ((with_reducible refine (Ret.later (H4.out _)).mono ?_); rintro x _ ⟨rfl, e, rfl⟩) | ((with_reducible refine (Ret.later (HH.out _)).mono ?_); rintro x _ ⟨rfl, e, rfl⟩) | ((with_reducible refine (Ret.later (HG.out _)).mono ?_); rintro x _ ⟨rfl, e, rfl⟩)))
          go_ret
          exact Ret.mk (by rw [HS.out]; rfl) (HE.out.trans e.h)
        have va : decide (2 < p.crc) = false := decide_eq_false (by omega)
        have vb : (2 < p.crc) = False := eq_false (by omega)
        have X2 := hid hx
        clear hx
        by_cases hx : 2097152 ≤ p.fl
        · have xa : decide ((2097152 : Int) ≤ (p.fl : Int)) = true := decide_eq_true (by omega)
          have xb : ((2097152 : Int) ≤ (p.fl : Int)) = True := eq_true (by omega)
          have HR : Hid (p.ranged = false) := by unfold Hid PV.ranged; simp; omega
          clear hx
          have HS : Hid (p.right = 1) := by
            unfold Hid PV.right
            rw [if_pos HR.out]
          go_wp2_with (first | (go_at_call 50; first | ((with_reducible refine (Ret.later (KD.out _)).mono ?_); rintro x _ ⟨rfl, e, rfl⟩) | ((with_reducible refine (Ret.later (KS.out _)).mono ?_); rintro x _ ⟨rfl, e, rfl⟩) | ((with_reducible refine (Ret.later (KR.out _)).mono ?_); rintro x _ ⟨rfl, e, rfl⟩)) | (go_at_call 65; first | ((with_reducible refine (Ret.later (H1.out _)).mono ?_); rintro x _ ⟨rfl, e, rfl⟩) | ((with_reducible refine (Ret.later (H2.out _)).mono ?_); rintro x _ ⟨rfl, e, rfl⟩) | ((with_reducible refine (Ret.later (H4.out _)).mono ?_); rintro x _ ⟨rfl, e, rfl⟩) | ((with_reducible refine (Ret.later (HH.out _)).mono ?_); rintro x _ ⟨rfl, e, rfl⟩) | ((with_reducible refine (Ret.later (HG.out _)).mono ?_); rintro x _ ⟨rfl, e, rfl⟩)))
          go_ret
          exact Ret.mk (by rw [HS.out]; rfl) (HE.out.trans e.h)
        have xa : decide ((2097152 : Int) ≤ (p.fl : Int)) = false := decide_eq_false (by omega)
        have xb : ((2097152 : Int) ≤ (p.fl : Int)) = False := eq_false (by omega)
        have X3 := hid hx
        clear hx
        go_upto_region 4 with (first | (go_at_call 50; first | ((with_reducible refine (Ret.later (KD.out _)).mono ?_); rintro x _ ⟨rfl, e, rfl⟩) | ((with_reducible refine (Ret.later (KS.out _)).mono ?_); rintro x _ ⟨rfl, e, rfl⟩) | ((with_reducible refine (Ret.later (KR.out _)).mono ?_); rintro x _ ⟨rfl, e, rfl⟩)) | (go_at_call 65; first | ((with_reducible refine (Ret.later (H1.out _)).mono ?_); rintro x _ ⟨rfl, e, rfl⟩) | ((with_reducible refine (Ret.later (H2.out _)).mono ?_); rintro x _ ⟨rfl, e, rfl⟩) | ((with_reducible refine (Ret.later (H4.out _)).mono ?_); rintro x _ ⟨rfl, e, rfl⟩) | ((with_reducible refine (Ret.later (HH.out _)).mono ?_); rintro x _ ⟨rfl, e, rfl⟩) | ((with_reducible refine (Ret.later (HG.out _)).mono ?_); rintro x _ ⟨rfl, e, rfl⟩)))
        have HA := hid (Blk.new e.x 107 #[.int .u64 (p.t : Int), .int .u64 (p.q : Int), .int .u64 (p.l : Int), .int .u64 (p.o : Int), .int .u64 (p.n : Int)])
        have HB2 := hid ((HB.out.later e).alloc (.cells #[.int .u64 (p.t : Int), .int .u64 (p.q : Int), .int .u64 (p.l : Int), .int .u64 (p.o : Int), .int .u64 (p.n : Int)] 107))
        have HE2 := hid ((HE.out.trans e.h).alloc (.cells #[.int .u64 (p.t : Int), .int .u64 (p.q : Int), .int .u64 (p.l : Int), .int .u64 (p.o : Int), .int .u64 (p.n : Int)] 107))
        clear b0 b1 b2 b3 b4 b5 b6 b7 b8 b9 b10 b11 b12 b13 b14 b15 b16 b17 b18 HB HE ua ub va vb xa xb
        generalize e.x.alloc (.cells #[.int .u64 (p.t : Int), .int .u64 (p.q : Int), .int .u64 (p.l : Int), .int .u64 (p.o : Int), .int .u64 (p.n : Int)] 107) = V2 at *
        generalize e.x.heap.size = G at *
        clear e
        have b0 : ∀ e : Later V2, e.x.cell? ⟨w.heap.size, 0, none⟩ = some (.int .u64 (p.fl : Int)) := HB2.out.cellL 0 rfl
        have b1 : ∀ e : Later V2, e.x.cell? ⟨w.heap.size, 1, none⟩ = some (.int .i64 p.crc) := HB2.out.cellL 1 rfl
        have b2 : ∀ e : Later V2, e.x.cell? ⟨w.heap.size, 2, none⟩ = some (.int .i64 p.d.sch) := HB2.out.cellL 2 rfl
        have b3 : ∀ e : Later V2, e.x.cell? ⟨w.heap.size, 3, none⟩ = some (str p.d.name) := HB2.out.cellL 3 rfl
        have b4 : ∀ e : Later V2, e.x.cell? ⟨w.heap.size, 4, none⟩ = some (.int .u64 (p.d.node : Int)) := HB2.out.cellL 4 rfl
        have b5 : ∀ e : Later V2, e.x.cell? ⟨w.heap.size, 5, none⟩ = some (.int .u64 (p.d.svc : Int)) := HB2.out.cellL 5 rfl
        have b6 : ∀ e : Later V2, e.x.cell? ⟨w.heap.size, 6, none⟩ = some (.int .i64 p.s.sch) := HB2.out.cellL 6 rfl
        have b7 : ∀ e : Later V2, e.x.cell? ⟨w.heap.size, 7, none⟩ = some (str p.s.name) := HB2.out.cellL 7 rfl
        have b8 : ∀ e : Later V2, e.x.cell? ⟨w.heap.size, 8, none⟩ = some (.int .u64 (p.s.node : Int)) := HB2.out.cellL 8 rfl
        have b9 : ∀ e : Later V2, e.x.cell? ⟨w.heap.size, 9, none⟩ = some (.int .u64 (p.s.svc : Int)) := HB2.out.cellL 9 rfl
        have b10 : ∀ e : Later V2, e.x.cell? ⟨w.heap.size, 10, none⟩ = some (.int .i64 p.r.sch) := HB2.out.cellL 10 rfl
        have b11 : ∀ e : Later V2, e.x.cell? ⟨w.heap.size, 11, none⟩ = some (str p.r.name) := HB2.out.cellL 11 rfl
        have b12 : ∀ e : Later V2, e.x.cell? ⟨w.heap.size, 12, none⟩ = some (.int .u64 (p.r.node : Int)) := HB2.out.cellL 12 rfl
        have b13 : ∀ e : Later V2, e.x.cell? ⟨w.heap.size, 13, none⟩ = some (.int .u64 (p.r.svc : Int)) := HB2.out.cellL 13 rfl
        have b14 : ∀ e : Later V2, e.x.cell? ⟨w.heap.size, 14, none⟩ = some (.int .u64 (p.t : Int)) := HB2.out.cellL 14 rfl
        have b15 : ∀ e : Later V2, e.x.cell? ⟨w.heap.size, 15, none⟩ = some (.int .u64 (p.q : Int)) := HB2.out.cellL 15 rfl
        have b16 : ∀ e : Later V2, e.x.cell? ⟨w.heap.size, 16, none⟩ = some (.int .u64 (p.l : Int)) := HB2.out.cellL 16 rfl
        have b17 : ∀ e : Later V2, e.x.cell? ⟨w.heap.size, 17, none⟩ = some (.int .u64 (p.o : Int)) := HB2.out.cellL 17 rfl
        have b18 : ∀ e : Later V2, e.x.cell? ⟨w.heap.size, 18, none⟩ = some (.int .u64 (p.n : Int)) := HB2.out.cellL 18 rfl
        go_wp2_with fail
        obtain ⟨e0, he0⟩ := Later.self V2
        have HAJ : Hid (∀ (e : Later V2) (i : Nat), i < 5 → e.x.cell? ⟨G, i, none⟩ = some (.int .u64 ((([p.t, p.q, p.l, p.o, p.n][i]?).getD 0 : Nat) : Int))) := fun e i hi => by
          rw [(HA.out.later e).cell i]
          match i, hi with
          | 0, _ => rfl
          | 1, _ => rfl
          | 2, _ => rfl
          | 3, _ => rfl
          | 4, _ => rfl
        go_loopw [4] (fun s4 wr => ∃ i : Nat, s4 = .int .i64 (i : Int) ∧ Hid (i ≤ 5 ∧ ∀ j, j < i → ([p.t, p.q, p.l, p.o, p.n][j]?).getD 0 ≤ 1099511627776) ∧ ∃ e : Later V2, wr = e.x) (fun s4 _ => 5 - (intOf s4).toNat)
        case atStart => exact ⟨0, rfl, (show Hid _ from ⟨by omega, fun j hj => by omega⟩), e0, he0⟩
        case round =>
          clear he0 e0
          obtain ⟨i, rfl, hi, e, rfl⟩ := hrel
          have i0 : (0 : Int) ≤ (i : Int) := by omega
          have i5 : (i : Int) ≤ 5 := by have := hi.out.1; omega
          by_cases hlt : i < 5
          · have tc : decide ((i : Int) < 5) = true := decide_eq_true (by omega)
            have i1 : (i : Int) < 5 := by omega
            have HJ := fun e => HAJ.out e i hlt
            obtain ⟨x, hx⟩ : ∃ x, ([p.t, p.q, p.l, p.o, p.n][i]?).getD 0 = x := ⟨_, rfl⟩
            rw [hx] at HJ
            have HX := hid hx
            have HLT := hid hlt
            clear hx hlt
            by_cases hx : 1099511627776 < x
            · have ya : decide ((1099511627776 : Int) < (x : Int)) = true := decide_eq_true (by omega)
              have yb : ((1099511627776 : Int) < (x : Int)) = True := eq_true (by omega)
              have HR : Hid (p.ranged = false) := by
                unfold Hid PV.ranged
                have h5 := HLT.out
                have hX := HX.out
                match i, h5 with
                | 0, _ => have hX : p.t = x := hX; simp; omega
                | 1, _ => have hX : p.q = x := hX; simp; omega
                | 2, _ => have hX : p.l = x := hX; simp; omega
                | 3, _ => have hX : p.o = x := hX; simp; omega
                | 4, _ => have hX : p.n = x := hX; simp; omega
              clear hx
              have HS : Hid (p.right = 1) := by
                unfold Hid PV.right
                rw [if_pos HR.out]
              go_wp2_with (first | (go_at_call 50; first | ((with_reducible refine (Ret.later (KD.out _)).mono ?_); rintro x _ ⟨rfl, e, rfl⟩) | ((with_reducible refine (Ret.later (KS.out _)).mono ?_); rintro x _ ⟨rfl, e, rfl⟩) | ((with_reducible refine (Ret.later (KR.out _)).mono ?_); rintro x _ ⟨rfl, e, rfl⟩)) | (go_at_call 65; first | ((with_reducible refine (Ret.later (H1.out _)).mono ?_); rintro x _ ⟨rfl, e, rfl⟩) | ((with_reducible refine (Ret.later (H2.out _)).mono ?_); rintro x _ ⟨rfl, e, rfl⟩) | ((with_reducible refine (Ret.later (H4.out _)).mono ?_); rintro x _ ⟨rfl, e, rfl⟩) | ((with_reducible refine (Ret.later (HH.out _)).mono ?_); rintro x _ ⟨rfl, e, rfl⟩) | ((with_reducible refine (Ret.later (HG.out _)).mono ?_); rintro x _ ⟨rfl, e, rfl⟩)))
              go_ret
              exact Ret.mk (by rw [HS.out]; rfl) (HE2.out.trans e.h)
            · have ya : decide ((1099511627776 : Int) < (x : Int)) = false := decide_eq_false (by omega)
              have yb : ((1099511627776 : Int) < (x : Int)) = False := eq_false (by omega)
              have HN := hid hx
              clear hx
              go_wp2_with fail
              go_roundw
              case rel => exact ⟨i + 1, by go_num, (show Hid _ from ⟨HLT.out, fun j hj => by
                by_cases hji : j = i
                · subst hji; rw [HX.out]; have := HN.out; omega
                · exact hi.out.2 j (by omega)⟩), e, rfl⟩
              case measure => have := HLT.out; simp [intOf]; omega
          · obtain rfl : i = 5 := by have := hi.out.1; omega
            have HR : Hid (p.ranged = true) := by
              have h := hi.out.2
              have a0 : p.t ≤ _ := h 0 (by omega)
              have a1 : p.q ≤ _ := h 1 (by omega)
              have a2 : p.l ≤ _ := h 2 (by omega)
              have a3 : p.o ≤ _ := h 3 (by omega)
              have a4 : p.n ≤ _ := h 4 (by omega)
              have := X1.out; have := X2.out; have := X3.out
              unfold Hid PV.ranged
              rw [Xd.out, Xs.out, Xr.out]
              simp; omega
            have HE := HE2
            clear hlt HAJ i0 i5 hi
            have HTB : Hid ((has p.fl 16384 || has p.fl 262144) = true ↔ (p.fl / 16384 % 2 = 1 ∨ p.fl / 262144 % 2 = 1)) := by unfold Hid has; simp
            cases hx1 : has p.fl 1 with
            | true =>
              rw [hx1] at H1
              have F1 : Hid (p.fl % 2 = 1) := by unfold has at hx1; unfold Hid; simpa using hx1
              clear hx1
              go_upto_region 10 with (first | (go_at_call 50; first | ((with_reducible refine (Ret.later (KD.out _)).mono ?_); rintro x _ ⟨rfl, e, rfl⟩) | ((with_reducible refine (Ret.later (KS.out _)).mono ?_); rintro x _ ⟨rfl, e, rfl⟩) | ((with_reducible refine (Ret.later (KR.out _)).mono ?_); rintro x _ ⟨rfl, e, rfl⟩)) | (go_at_call 65; first | ((with_reducible refine (Ret.later (H1.out _)).mono ?_); rintro x _ ⟨rfl, e, rfl⟩) | ((with_reducible refine (Ret.later (H2.out _)).mono ?_); rintro x _ ⟨rfl, e, rfl⟩) | ((with_reducible refine (Ret.later (H4.out _)).mono ?_); rintro x _ ⟨rfl, e, rfl⟩) | ((with_reducible refine (Ret.later (HH.out _)).mono ?_); rintro x _ ⟨rfl, e, rfl⟩) | ((with_reducible refine (Ret.later (HG.out _)).mono ?_); rintro x _ ⟨rfl, e, rfl⟩)))
              go_cut [6] (fun s6 wx => s6 = .bool (has p.fl 16384 || has p.fl 262144) ∧ ∃ e : Later V2, wx = e.x)
              case first =>
                cases h1 : has p.fl 16384
                all_goals rw [h1] at HH
                all_goals cases h2 : has p.fl 262144
                all_goals rw [h2] at HG
                all_goals have Q1 := hid h1
                all_goals have Q2 := hid h2
                all_goals clear h1 h2
                all_goals go_wp2_with (first | (go_at_call 50; first | ((with_reducible refine (Ret.later (KD.out _)).mono ?_); rintro x _ ⟨rfl, e, rfl⟩) | ((with_reducible refine (Ret.later (KS.out _)).mono ?_); rintro x _ ⟨rfl, e, rfl⟩) | ((with_reducible refine (Ret.later (KR.out _)).mono ?_); rintro x _ ⟨rfl, e, rfl⟩)) | (go_at_call 65; first | ((with_reducible refine (Ret.later (H1.out _)).mono ?_); rintro x _ ⟨rfl, e, rfl⟩) | ((with_reducible refine (Ret.later (H2.out _)).mono ?_); rintro x _ ⟨rfl, e, rfl⟩) | ((with_reducible refine (Ret.later (H4.out _)).mono ?_); rintro x _ ⟨rfl, e, rfl⟩) | ((with_reducible refine (Ret.later (HH.out _)).mono ?_); rintro x _ ⟨rfl, e, rfl⟩) | ((with_reducible refine (Ret.later (HG.out _)).mono ?_); rintro x _ ⟨rfl, e, rfl⟩)))
                all_goals go_meet
                all_goals exact ⟨by rw [Q1.out, Q2.out]; rfl, e, rfl⟩
              obtain ⟨rfl, e, rfl⟩ := hcut
              generalize (has p.fl 16384 || has p.fl 262144) = TB at *
              by_cases hx : p.fl / 4 % 2 = 1
              · rw [show has p.fl 4 = true by unfold has; simp [hx]] at H4
                have X4 := hid hx
                clear hx
                have HS : Hid (p.right = 8) := by
                  unfold Hid PV.right
                  rw [if_neg (by rw [HR.out]; decide), if_pos (.inl ⟨F1.out, .inl X4.out⟩)]
                go_wp2_with (first | (go_at_call 50; first | ((with_reducible refine (Ret.later (KD.out _)).mono ?_); rintro x _ ⟨rfl, e, rfl⟩) | ((with_reducible refine (Ret.later (KS.out _)).mono ?_); rintro x _ ⟨rfl, e, rfl⟩) | ((with_reducible refine (Ret.later (KR.out _)).mono ?_); rintro x _ ⟨rfl, e, rfl⟩)) | (go_at_call 65; first | ((with_reducible refine (Ret.later (H1.out _)).mono ?_); rintro x _ ⟨rfl, e, rfl⟩) | ((with_reducible refine (Ret.later (H2.out _)).mono ?_); rintro x _ ⟨rfl, e, rfl⟩) | ((with_reducible refine (Ret.later (H4.out _)).mono ?_); rintro x _ ⟨rfl, e, rfl⟩) | ((with_reducible refine (Ret.later (HH.out _)).mono ?_); rintro x _ ⟨rfl, e, rfl⟩) | ((with_reducible refine (Ret.later (HG.out _)).mono ?_); rintro x _ ⟨rfl, e, rfl⟩)))
                go_ret
                exact Ret.mk (by rw [HS.out]; rfl) (HE.out.trans e.h)
              rw [show has p.fl 4 = false by unfold has; simp; omega] at H4
              have X4 := hid hx
              clear hx
              by_cases hy : p.n ≤ p.o
              · have za : decide (p.n ≤ p.o) = true := decide_eq_true (by omega)
                have zb : (p.n ≤ p.o) = True := eq_true (by omega)
                have Y := hid hy
                clear hy
                have HS : Hid (p.right = 8) := by
                  unfold Hid PV.right
                  rw [if_neg (by rw [HR.out]; decide), if_pos (.inl ⟨F1.out, .inr Y.out⟩)]
                go_wp2_with (first | (go_at_call 50; first | ((with_reducible refine (Ret.later (KD.out _)).mono ?_); rintro x _ ⟨rfl, e, rfl⟩) | ((with_reducible refine (Ret.later (KS.out _)).mono ?_); rintro x _ ⟨rfl, e, rfl⟩) | ((with_reducible refine (Ret.later (KR.out _)).mono ?_); rintro x _ ⟨rfl, e, rfl⟩)) | (go_at_call 65; first | ((with_reducible refine (Ret.later (H1.out _)).mono ?_); rintro x _ ⟨rfl, e, rfl⟩) | ((with_reducible refine (Ret.later (H2.out _)).mono ?_); rintro x _ ⟨rfl, e, rfl⟩) | ((with_reducible refine (Ret.later (H4.out _)).mono ?_); rintro x _ ⟨rfl, e, rfl⟩) | ((with_reducible refine (Ret.later (HH.out _)).mono ?_); rintro x _ ⟨rfl, e, rfl⟩) | ((with_reducible refine (Ret.later (HG.out _)).mono ?_); rintro x _ ⟨rfl, e, rfl⟩)))
                go_ret
                exact Ret.mk (by rw [HS.out]; rfl) (HE.out.trans e.h)
              have za : decide (p.n ≤ p.o) = false := decide_eq_false (by omega)
              have zb : (p.n ≤ p.o) = False := eq_false (by omega)
              have G0 : Hid (¬ ((p.fl % 2 = 1 ∧ (p.fl / 4 % 2 = 1 ∨ p.n ≤ p.o)) ∨ (¬ p.fl % 2 = 1 ∧ (0 < p.o ∨ 0 < p.n)))) := by have := F1.out; have := X4.out; unfold Hid; omega
              clear hy
              by_cases hN : p.none
              · have n1 : p.s.sch = 1 := hN.1
                have n2 : p.s.name = [110, 111, 110, 101] := hN.2
                rw [n1] at b6
                rw [n2] at b7
                clear n1 n2
                have HN := hid hN
                clear hN
                cases hT : TB with
                | true =>
                  have XT : Hid (p.fl / 16384 % 2 = 1 ∨ p.fl / 262144 % 2 = 1) := HTB.out.1 hT
                  subst hT
                  have HS : Hid (p.right = 8) := by
                    unfold Hid PV.right
                    rw [if_neg (by rw [HR.out]; decide), if_neg (by have := G0.out; omega), if_pos (.inl ⟨XT.out, .inl HN.out⟩)]
                  go_wp2_with (first | (go_at_call 50; first | ((with_reducible refine (Ret.later (KD.out _)).mono ?_); rintro x _ ⟨rfl, e, rfl⟩) | ((with_reducible refine (Ret.later (KS.out _)).mono ?_); rintro x _ ⟨rfl, e, rfl⟩) | ((with_reducible refine (Ret.later (KR.out _)).mono ?_); rintro x _ ⟨rfl, e, rfl⟩)) | (go_at_call 65; first | ((with_reducible refine (Ret.later (H1.out _)).mono ?_); rintro x _ ⟨rfl, e, rfl⟩) | ((with_reducible refine (Ret.later (H2.out _)).mono ?_); rintro x _ ⟨rfl, e, rfl⟩) | ((with_reducible refine (Ret.later (H4.out _)).mono ?_); rintro x _ ⟨rfl, e, rfl⟩) | ((with_reducible refine (Ret.later (HH.out _)).mono ?_); rintro x _ ⟨rfl, e, rfl⟩) | ((with_reducible refine (Ret.later (HG.out _)).mono ?_); rintro x _ ⟨rfl, e, rfl⟩)))
                  go_ret
                  exact Ret.mk (by rw [HS.out]; rfl) (HE.out.trans e.h)
                | false =>
                  have XT : Hid (¬ (p.fl / 16384 % 2 = 1 ∨ p.fl / 262144 % 2 = 1)) := fun h => by have := HTB.out.2 h; rw [hT] at this; cases this
                  subst hT
                  have HS : Hid (p.right = 8) := by
                    unfold Hid PV.right
                    rw [if_neg (by rw [HR.out]; decide), if_neg (by have := G0.out; omega), if_pos (.inr ⟨HN.out, X4.out⟩)]
                  go_wp2_with (first | (go_at_call 50; first | ((with_reducible refine (Ret.later (KD.out _)).mono ?_); rintro x _ ⟨rfl, e, rfl⟩) | ((with_reducible refine (Ret.later (KS.out _)).mono ?_); rintro x _ ⟨rfl, e, rfl⟩) | ((with_reducible refine (Ret.later (KR.out _)).mono ?_); rintro x _ ⟨rfl, e, rfl⟩)) | (go_at_call 65; first | ((with_reducible refine (Ret.later (H1.out _)).mono ?_); rintro x _ ⟨rfl, e, rfl⟩) | ((with_reducible refine (Ret.later (H2.out _)).mono ?_); rintro x _ ⟨rfl, e, rfl⟩) | ((with_reducible refine (Ret.later (H4.out _)).mono ?_); rintro x _ ⟨rfl, e, rfl⟩) | ((with_reducible refine (Ret.later (HH.out _)).mono ?_); rintro x _ ⟨rfl, e, rfl⟩) | ((with_reducible refine (Ret.later (HG.out _)).mono ?_); rintro x _ ⟨rfl, e, rfl⟩)))
                  go_ret
                  exact Ret.mk (by rw [HS.out]; rfl) (HE.out.trans e.h)
              · have HN := hid hN
                by_cases hS : p.s.sch = 1
                · have hM : ¬ p.s.name = [110, 111, 110, 101] := fun h => hN ⟨hS, h⟩
                  rw [hS] at b6
                  have ma : ((p.s.name) == ([110, 111, 110, 101])) = false := by rw [beq_eq_false_iff_ne]; exact hM
                  have mb : ((p.s.name) = ([110, 111, 110, 101])) = False := eq_false (by exact hM)
                  have mc : ((p.s.name) != ([110, 111, 110, 101])) = true := by rw [bne_iff_ne]; exact hM
                  clear hM hS hN
                  cases hT : TB with
                  | true =>
                    have XT : Hid (p.fl / 16384 % 2 = 1 ∨ p.fl / 262144 % 2 = 1) := HTB.out.1 hT
                    subst hT
                    by_cases hx : p.fl / 2 % 2 = 1
                    · rw [show has p.fl 2 = true by unfold has; simp [hx]] at H2
                      have X2 := hid hx
                      clear hx
                      have HS : Hid (p.right = 8) := by
                        unfold Hid PV.right
                        rw [if_neg (by rw [HR.out]; decide), if_neg (by have := G0.out; omega), if_pos (.inl ⟨XT.out, .inr X2.out⟩)]
                      go_wp2_with (first | (go_at_call 50; first | ((with_reducible refine (Ret.later (KD.out _)).mono ?_); rintro x _ ⟨rfl, e, rfl⟩) | ((with_reducible refine (Ret.later (KS.out _)).mono ?_); rintro x _ ⟨rfl, e, rfl⟩) | ((with_reducible refine (Ret.later (KR.out _)).mono ?_); rintro x _ ⟨rfl, e, rfl⟩)) | (go_at_call 65; first | ((with_reducible refine (Ret.later (H1.out _)).mono ?_); rintro x _ ⟨rfl, e, rfl⟩) | ((with_reducible refine (Ret.later (H2.out _)).mono ?_); rintro x _ ⟨rfl, e, rfl⟩) | ((with_reducible refine (Ret.later (H4.out _)).mono ?_); rintro x _ ⟨rfl, e, rfl⟩) | ((with_reducible refine (Ret.later (HH.out _)).mono ?_); rintro x _ ⟨rfl, e, rfl⟩) | ((with_reducible refine (Ret.later (HG.out _)).mono ?_); rintro x _ ⟨rfl, e, rfl⟩)))
                      go_ret
                      exact Ret.mk (by rw [HS.out]; rfl) (HE.out.trans e.h)
                    · rw [show has p.fl 2 = false by unfold has; simp; omega] at H2
                      have X2 := hid hx
                      clear hx
                      have HS : Hid (p.right = 0) := by
                        unfold Hid PV.right
                        rw [if_neg (by rw [HR.out]; decide), if_neg (by have := G0.out; omega), if_neg (fun h => h.elim (fun h => h.2.elim HN.out X2.out) (fun h => HN.out h.1))]
                      go_wp2_with (first | (go_at_call 50; first | ((with_reducible refine (Ret.later (KD.out _)).mono ?_); rintro x _ ⟨rfl, e, rfl⟩) | ((with_reducible refine (Ret.later (KS.out _)).mono ?_); rintro x _ ⟨rfl, e, rfl⟩) | ((with_reducible refine (Ret.later (KR.out _)).mono ?_); rintro x _ ⟨rfl, e, rfl⟩)) | (go_at_call 65; first | ((with_reducible refine (Ret.later (H1.out _)).mono ?_); rintro x _ ⟨rfl, e, rfl⟩) | ((with_reducible refine (Ret.later (H2.out _)).mono ?_); rintro x _ ⟨rfl, e, rfl⟩) | ((with_reducible refine (Ret.later (H4.out _)).mono ?_); rintro x _ ⟨rfl, e, rfl⟩) | ((with_reducible refine (Ret.later (HH.out _)).mono ?_); rintro x _ ⟨rfl, e, rfl⟩) | ((with_reducible refine (Ret.later (HG.out _)).mono ?_); rintro x _ ⟨rfl, e, rfl⟩)))
                      go_ret
                      exact Ret.mk (by rw [HS.out]; rfl) (HE.out.trans e.h)
                  | false =>
                    have XT : Hid (¬ (p.fl / 16384 % 2 = 1 ∨ p.fl / 262144 % 2 = 1)) := fun h => by have := HTB.out.2 h; rw [hT] at this; cases this
                    subst hT
                    have HS : Hid (p.right = 0) := by
                      unfold Hid PV.right
                      rw [if_neg (by rw [HR.out]; decide), if_neg (by have := G0.out; omega), if_neg (fun h => h.elim (fun h => XT.out h.1) (fun h => HN.out h.1))]
                    go_wp2_with (first | (go_at_call 50; first | ((with_reducible refine (Ret.later (KD.out _)).mono ?_); rintro x _ ⟨rfl, e, rfl⟩) | ((with_reducible refine (Ret.later (KS.out _)).mono ?_); rintro x _ ⟨rfl, e, rfl⟩) | ((with_reducible refine (Ret.later (KR.out _)).mono ?_); rintro x _ ⟨rfl, e, rfl⟩)) | (go_at_call 65; first | ((with_reducible refine (Ret.later (H1.out _)).mono ?_); rintro x _ ⟨rfl, e, rfl⟩) | ((with_reducible refine (Ret.later (H2.out _)).mono ?_); rintro x _ ⟨rfl, e, rfl⟩) | ((with_reducible refine (Ret.later (H4.out _)).mono ?_); rintro x _ ⟨rfl, e, rfl⟩) | ((with_reducible refine (Ret.later (HH.out _)).mono ?_); rintro x _ ⟨rfl, e, rfl⟩) | ((with_reducible refine (Ret.later (HG.out _)).mono ?_); rintro x _ ⟨rfl, e, rfl⟩)))
                    go_ret
                    exact Ret.mk (by rw [HS.out]; rfl) (HE.out.trans e.h)
                · have ma : ((p.s.sch) == (1)) = false := by rw [beq_eq_false_iff_ne]; omega
                  have mb : ((p.s.sch) = (1)) = False := eq_false (by omega)
                  have mc : ((p.s.sch) != (1)) = true := by rw [bne_iff_ne]; omega
                  clear hS hN
                  cases hT : TB with
                  | true =>
                    have XT : Hid (p.fl / 16384 % 2 = 1 ∨ p.fl / 262144 % 2 = 1) := HTB.out.1 hT
                    subst hT
                    by_cases hx : p.fl / 2 % 2 = 1
                    · rw [show has p.fl 2 = true by unfold has; simp [hx]] at H2
                      have X2 := hid hx
                      clear hx
                      have HS : Hid (p.right = 8) := by
                        unfold Hid PV.right
                        rw [if_neg (by rw [HR.out]; decide), if_neg (by have := G0.out; omega), if_pos (.inl ⟨XT.out, .inr X2.out⟩)]
                      go_wp2_with (first | (go_at_call 50; first | ((with_reducible refine (Ret.later (KD.out _)).mono ?_); rintro x _ ⟨rfl, e, rfl⟩) | ((with_reducible refine (Ret.later (KS.out _)).mono ?_); rintro x _ ⟨rfl, e, rfl⟩) | ((with_reducible refine (Ret.later (KR.out _)).mono ?_); rintro x _ ⟨rfl, e, rfl⟩)) | (go_at_call 65; first | ((with_reducible refine (Ret.later (H1.out _)).mono ?_); rintro x _ ⟨rfl, e, rfl⟩) | ((with_reducible refine (Ret.later (H2.out _)).mono ?_); rintro x _ ⟨rfl, e, rfl⟩) | ((with_reducible refine (Ret.later (H4.out _)).mono ?_); rintro x _ ⟨rfl, e, rfl⟩) | ((with_reducible refine (Ret.later (HH.out _)).mono ?_); rintro x _ ⟨rfl, e, rfl⟩) | ((with_reducible refine (Ret.later (HG.out _)).mono ?_); rintro x _ ⟨rfl, e, rfl⟩)))
                      go_ret
                      exact Ret.mk (by rw [HS.out]; rfl) (HE.out.trans e.h)
                    · rw [show has p.fl 2 = false by unfold has; simp; omega] at H2
                      have X2 := hid hx
                      clear hx
                      have HS : Hid (p.right = 0) := by
                        unfold Hid PV.right
                        rw [if_neg (by rw [HR.out]; decide), if_neg (by have := G0.out; omega), if_neg (fun h => h.elim (fun h => h.2.elim HN.out X2.out) (fun h => HN.out h.1))]
                      go_wp2_with (first | (go_at_call 50; first | ((with_reducible refine (Ret.later (KD.out _)).mono ?_); rintro x _ ⟨rfl, e, rfl⟩) | ((with_reducible refine (Ret.later (KS.out _)).mono ?_); rintro x _ ⟨rfl, e, rfl⟩) | ((with_reducible refine (Ret.later (KR.out _)).mono ?_); rintro x _ ⟨rfl, e, rfl⟩)) | (go_at_call 65; first | ((with_reducible refine (Ret.later (H1.out _)).mono ?_); rintro x _ ⟨rfl, e, rfl⟩) | ((with_reducible refine (Ret.later (H2.out _)).mono ?_); rintro x _ ⟨rfl, e, rfl⟩) | ((with_reducible refine (Ret.later (H4.out _)).mono ?_); rintro x _ ⟨rfl, e, rfl⟩) | ((with_reducible refine (Ret.later (HH.out _)).mono ?_); rintro x _ ⟨rfl, e, rfl⟩) | ((with_reducible refine (Ret.later (HG.out _)).mono ?_); rintro x _ ⟨rfl, e, rfl⟩)))
                      go_ret
                      exact Ret.mk (by rw [HS.out]; rfl) (HE.out.trans e.h)
                  | false =>
                    have XT : Hid (¬ (p.fl / 16384 % 2 = 1 ∨ p.fl / 262144 % 2 = 1)) := fun h => by have := HTB.out.2 h; rw [hT] at this; cases this
                    subst hT
                    have HS : Hid (p.right = 0) := by
                      unfold Hid PV.right
                      rw [if_neg (by rw [HR.out]; decide), if_neg (by have := G0.out; omega), if_neg (fun h => h.elim (fun h => XT.out h.1) (fun h => HN.out h.1))]
                    go_wp2_with (first | (go_at_call 50; first | ((with_reducible refine (Ret.later (KD.out _)).mono ?_); rintro x _ ⟨rfl, e, rfl⟩) | ((with_reducible refine (Ret.later (KS.out _)).mono ?_); rintro x _ ⟨rfl, e, rfl⟩) | ((with_reducible refine (Ret.later (KR.out _)).mono ?_); rintro x _ ⟨rfl, e, rfl⟩)) | (go_at_call 65; first | ((with_reducible refine (Ret.later (H1.out _)).mono ?_); rintro x _ ⟨rfl, e, rfl⟩) | ((with_reducible refine (Ret.later (H2.out _)).mono ?_); rintro x _ ⟨rfl, e, rfl⟩) | ((with_reducible refine (Ret.later (H4.out _)).mono ?_); rintro x _ ⟨rfl, e, rfl⟩) | ((with_reducible refine (Ret.later (HH.out _)).mono ?_); rintro x _ ⟨rfl, e, rfl⟩) | ((with_reducible refine (Ret.later (HG.out _)).mono ?_); rintro x _ ⟨rfl, e, rfl⟩)))
                    go_ret
                    exact Ret.mk (by rw [HS.out]; rfl) (HE.out.trans e.h)
            | false =>
              rw [hx1] at H1
              have F1 : Hid (¬ p.fl % 2 = 1) := by unfold has at hx1; unfold Hid; simpa using hx1
              clear hx1
              go_upto_region 10 with (first | (go_at_call 50; first | ((with_reducible refine (Ret.later (KD.out _)).mono ?_); rintro x _ ⟨rfl, e, rfl⟩) | ((with_reducible refine (Ret.later (KS.out _)).mono ?_); rintro x _ ⟨rfl, e, rfl⟩) | ((with_reducible refine (Ret.later (KR.out _)).mono ?_); rintro x _ ⟨rfl, e, rfl⟩)) | (go_at_call 65; first | ((with_reducible refine (Ret.later (H1.out _)).mono ?_); rintro x _ ⟨rfl, e, rfl⟩) | ((with_reducible refine (Ret.later (H2.out _)).mono ?_); rintro x _ ⟨rfl, e, rfl⟩) | ((with_reducible refine (Ret.later (H4.out _)).mono ?_); rintro x _ ⟨rfl, e, rfl⟩) | ((with_reducible refine (Ret.later (HH.out _)).mono ?_); rintro x _ ⟨rfl, e, rfl⟩) | ((with_reducible refine (Ret.later (HG.out _)).mono ?_); rintro x _ ⟨rfl, e, rfl⟩)))
              go_cut [6] (fun s6 wx => s6 = .bool (has p.fl 16384 || has p.fl 262144) ∧ ∃ e : Later V2, wx = e.x)
              case first =>
                cases h1 : has p.fl 16384
                all_goals rw [h1] at HH
                all_goals cases h2 : has p.fl 262144
                all_goals rw [h2] at HG
                all_goals have Q1 := hid h1
                all_goals have Q2 := hid h2
                all_goals clear h1 h2
                all_goals go_wp2_with (first | (go_at_call 50; first | ((with_reducible refine (Ret.later (KD.out _)).mono ?_); rintro x _ ⟨rfl, e, rfl⟩) | ((with_reducible refine (Ret.later (KS.out _)).mono ?_); rintro x _ ⟨rfl, e, rfl⟩) | ((with_reducible refine (Ret.later (KR.out _)).mono ?_); rintro x _ ⟨rfl, e, rfl⟩)) | (go_at_call 65; first | ((with_reducible refine (Ret.later (H1.out _)).mono ?_); rintro x _ ⟨rfl, e, rfl⟩) | ((with_reducible refine (Ret.later (H2.out _)).mono ?_); rintro x _ ⟨rfl, e, rfl⟩) | ((with_reducible refine (Ret.later (H4.out _)).mono ?_); rintro x _ ⟨rfl, e, rfl⟩) | ((with_reducible refine (Ret.later (HH.out _)).mono ?_); rintro x _ ⟨rfl, e, rfl⟩) | ((with_reducible refine (Ret.later (HG.out _)).mono ?_); rintro x _ ⟨rfl, e, rfl⟩)))
                all_goals go_meet
                all_goals exact ⟨by rw [Q1.out, Q2.out]; rfl, e, rfl⟩
              obtain ⟨rfl, e, rfl⟩ := hcut
              generalize (has p.fl 16384 || has p.fl 262144) = TB at *
              by_cases hx : 0 < p.o
              · have za : decide ((0 : Int) < (p.o : Int)) = true := decide_eq_true (by omega)
                have zb : ((0 : Int) < (p.o : Int)) = True := eq_true (by omega)
                have ka : decide (0 < p.o) = true := decide_eq_true (by omega)
                have kb : (0 < p.o) = True := eq_true (by omega)
                have Y := hid hx
                clear hx
                have HS : Hid (p.right = 8) := by
                  unfold Hid PV.right
                  rw [if_neg (by rw [HR.out]; decide), if_pos (.inr ⟨F1.out, .inl Y.out⟩)]
                go_wp2_with (first | (go_at_call 50; first | ((with_reducible refine (Ret.later (KD.out _)).mono ?_); rintro x _ ⟨rfl, e, rfl⟩) | ((with_reducible refine (Ret.later (KS.out _)).mono ?_); rintro x _ ⟨rfl, e, rfl⟩) | ((with_reducible refine (Ret.later (KR.out _)).mono ?_); rintro x _ ⟨rfl, e, rfl⟩)) | (go_at_call 65; first | ((with_reducible refine (Ret.later (H1.out _)).mono ?_); rintro x _ ⟨rfl, e, rfl⟩) | ((with_reducible refine (Ret.later (H2.out _)).mono ?_); rintro x _ ⟨rfl, e, rfl⟩) | ((with_reducible refine (Ret.later (H4.out _)).mono ?_); rintro x _ ⟨rfl, e, rfl⟩) | ((with_reducible refine (Ret.later (HH.out _)).mono ?_); rintro x _ ⟨rfl, e, rfl⟩) | ((with_reducible refine (Ret.later (HG.out _)).mono ?_); rintro x _ ⟨rfl, e, rfl⟩)))
                go_ret
                exact Ret.mk (by rw [HS.out]; rfl) (HE.out.trans e.h)
              by_cases hy : 0 < p.n
              · have za : decide ((0 : Int) < (p.o : Int)) = false := decide_eq_false (by omega)
                have zb : ((0 : Int) < (p.o : Int)) = False := eq_false (by omega)
                have ka : decide (0 < p.o) = false := decide_eq_false (by omega)
                have kb : (0 < p.o) = False := eq_false (by omega)
                have sa : decide ((0 : Int) < (p.n : Int)) = true := decide_eq_true (by omega)
                have sb : ((0 : Int) < (p.n : Int)) = True := eq_true (by omega)
                have ga : decide (0 < p.n) = true := decide_eq_true (by omega)
                have gb : (0 < p.n) = True := eq_true (by omega)
                have Y := hid hy
                clear hy hx
                have HS : Hid (p.right = 8) := by
                  unfold Hid PV.right
                  rw [if_neg (by rw [HR.out]; decide), if_pos (.inr ⟨F1.out, .inr Y.out⟩)]
                go_wp2_with (first | (go_at_call 50; first | ((with_reducible refine (Ret.later (KD.out _)).mono ?_); rintro x _ ⟨rfl, e, rfl⟩) | ((with_reducible refine (Ret.later (KS.out _)).mono ?_); rintro x _ ⟨rfl, e, rfl⟩) | ((with_reducible refine (Ret.later (KR.out _)).mono ?_); rintro x _ ⟨rfl, e, rfl⟩)) | (go_at_call 65; first | ((with_reducible refine (Ret.later (H1.out _)).mono ?_); rintro x _ ⟨rfl, e, rfl⟩) | ((with_reducible refine (Ret.later (H2.out _)).mono ?_); rintro x _ ⟨rfl, e, rfl⟩) | ((with_reducible refine (Ret.later (H4.out _)).mono ?_); rintro x _ ⟨rfl, e, rfl⟩) | ((with_reducible refine (Ret.later (HH.out _)).mono ?_); rintro x _ ⟨rfl, e, rfl⟩) | ((with_reducible refine (Ret.later (HG.out _)).mono ?_); rintro x _ ⟨rfl, e, rfl⟩)))
                go_ret
                exact Ret.mk (by rw [HS.out]; rfl) (HE.out.trans e.h)
              have G0 : Hid (¬ ((p.fl % 2 = 1 ∧ (p.fl / 4 % 2 = 1 ∨ p.n ≤ p.o)) ∨ (¬ p.fl % 2 = 1 ∧ (0 < p.o ∨ 0 < p.n)))) := by have := F1.out; unfold Hid; omega
              have ho : p.o = 0 := by omega
              have hn : p.n = 0 := by omega
              rw [ho] at b17
              rw [hn] at b18
              clear hx hy ho hn
              by_cases hN : p.none
              · have n1 : p.s.sch = 1 := hN.1
                have n2 : p.s.name = [110, 111, 110, 101] := hN.2
                rw [n1] at b6
                rw [n2] at b7
                clear n1 n2
                have HN := hid hN
                clear hN
                cases hT : TB with
                | true =>
                  have XT : Hid (p.fl / 16384 % 2 = 1 ∨ p.fl / 262144 % 2 = 1) := HTB.out.1 hT
                  subst hT
                  have HS : Hid (p.right = 8) := by
                    unfold Hid PV.right
                    rw [if_neg (by rw [HR.out]; decide), if_neg (by have := G0.out; omega), if_pos (.inl ⟨XT.out, .inl HN.out⟩)]
                  go_wp2_with (first | (go_at_call 50; first | ((with_reducible refine (Ret.later (KD.out _)).mono ?_); rintro x _ ⟨rfl, e, rfl⟩) | ((with_reducible refine (Ret.later (KS.out _)).mono ?_); rintro x _ ⟨rfl, e, rfl⟩) | ((with_reducible refine (Ret.later (KR.out _)).mono ?_); rintro x _ ⟨rfl, e, rfl⟩)) | (go_at_call 65; first | ((with_reducible refine (Ret.later (H1.out _)).mono ?_); rintro x _ ⟨rfl, e, rfl⟩) | ((with_reducible refine (Ret.later (H2.out _)).mono ?_); rintro x _ ⟨rfl, e, rfl⟩) | ((with_reducible refine (Ret.later (H4.out _)).mono ?_); rintro x _ ⟨rfl, e, rfl⟩) | ((with_reducible refine (Ret.later (HH.out _)).mono ?_); rintro x _ ⟨rfl, e, rfl⟩) | ((with_reducible refine (Ret.later (HG.out _)).mono ?_); rintro x _ ⟨rfl, e, rfl⟩)))
                  go_ret
                  exact Ret.mk (by rw [HS.out]; rfl) (HE.out.trans e.h)
                | false =>
                  have XT : Hid (¬ (p.fl / 16384 % 2 = 1 ∨ p.fl / 262144 % 2 = 1)) := fun h => by have := HTB.out.2 h; rw [hT] at this; cases this
                  subst hT
                  by_cases hx : p.fl / 4 % 2 = 1
                  · rw [show has p.fl 4 = true by unfold has; simp [hx]] at H4
                    have X4 := hid hx
                    clear hx
                    have HS : Hid (p.right = 0) := by
                      unfold Hid PV.right
                      rw [if_neg (by rw [HR.out]; decide), if_neg (by have := G0.out; omega), if_neg (fun h => h.elim (fun h => XT.out h.1) (fun h => h.2 X4.out))]
                    go_wp2_with (first | (go_at_call 50; first | ((with_reducible refine (Ret.later (KD.out _)).mono ?_); rintro x _ ⟨rfl, e, rfl⟩) | ((with_reducible refine (Ret.later (KS.out _)).mono ?_); rintro x _ ⟨rfl, e, rfl⟩) | ((with_reducible refine (Ret.later (KR.out _)).mono ?_); rintro x _ ⟨rfl, e, rfl⟩)) | (go_at_call 65; first | ((with_reducible refine (Ret.later (H1.out _)).mono ?_); rintro x _ ⟨rfl, e, rfl⟩) | ((with_reducible refine (Ret.later (H2.out _)).mono ?_); rintro x _ ⟨rfl, e, rfl⟩) | ((with_reducible refine (Ret.later (H4.out _)).mono ?_); rintro x _ ⟨rfl, e, rfl⟩) | ((with_reducible refine (Ret.later (HH.out _)).mono ?_); rintro x _ ⟨rfl, e, rfl⟩) | ((with_reducible refine (Ret.later (HG.out _)).mono ?_); rintro x _ ⟨rfl, e, rfl⟩)))
                    go_ret
                    exact Ret.mk (by rw [HS.out]; rfl) (HE.out.trans e.h)
                  · rw [show has p.fl 4 = false by unfold has; simp; omega] at H4
                    have X4 := hid hx
                    clear hx
                    have HS : Hid (p.right = 8) := by
                      unfold Hid PV.right
                      rw [if_neg (by rw [HR.out]; decide), if_neg (by have := G0.out; omega), if_pos (.inr ⟨HN.out, X4.out⟩)]
                    go_wp2_with (first | (go_at_call 50; first | ((with_reducible refine (Ret.later (KD.out _)).mono ?_); rintro x _ ⟨rfl, e, rfl⟩) | ((with_reducible refine (Ret.later (KS.out _)).mono ?_); rintro x _ ⟨rfl, e, rfl⟩) | ((with_reducible refine (Ret.later (KR.out _)).mono ?_); rintro x _ ⟨rfl, e, rfl⟩)) | (go_at_call 65; first | ((with_reducible refine (Ret.later (H1.out _)).mono ?_); rintro x _ ⟨rfl, e, rfl⟩) | ((with_reducible refine (Ret.later (H2.out _)).mono ?_); rintro x _ ⟨rfl, e, rfl⟩) | ((with_reducible refine (Ret.later (H4.out _)).mono ?_); rintro x _ ⟨rfl, e, rfl⟩) | ((with_reducible refine (Ret.later (HH.out _)).mono ?_); rintro x _ ⟨rfl, e, rfl⟩) | ((with_reducible refine (Ret.later (HG.out _)).mono ?_); rintro x _ ⟨rfl, e, rfl⟩)))
                    go_ret
                    exact Ret.mk (by rw [HS.out]; rfl) (HE.out.trans e.h)
              · have HN := hid hN
                by_cases hS : p.s.sch = 1
                · have hM : ¬ p.s.name = [110, 111, 110, 101] := fun h => hN ⟨hS, h⟩
                  rw [hS] at b6
                  have ma : ((p.s.name) == ([110, 111, 110, 101])) = false := by rw [beq_eq_false_iff_ne]; exact hM
                  have mb : ((p.s.name) = ([110, 111, 110, 101])) = False := eq_false (by exact hM)
                  have mc : ((p.s.name) != ([110, 111, 110, 101])) = true := by rw [bne_iff_ne]; exact hM
                  clear hM hS hN
                  cases hT : TB with
                  | true =>
                    have XT : Hid (p.fl / 16384 % 2 = 1 ∨ p.fl / 262144 % 2 = 1) := HTB.out.1 hT
                    subst hT
                    by_cases hx : p.fl / 2 % 2 = 1
                    · rw [show has p.fl 2 = true by unfold has; simp [hx]] at H2
                      have X2 := hid hx
                      clear hx
                      have HS : Hid (p.right = 8) := by
                        unfold Hid PV.right
                        rw [if_neg (by rw [HR.out]; decide), if_neg (by have := G0.out; omega), if_pos (.inl ⟨XT.out, .inr X2.out⟩)]
                      go_wp2_with (first | (go_at_call 50; first | ((with_reducible refine (Ret.later (KD.out _)).mono ?_); rintro x _ ⟨rfl, e, rfl⟩) | ((with_reducible refine (Ret.later (KS.out _)).mono ?_); rintro x _ ⟨rfl, e, rfl⟩) | ((with_reducible refine (Ret.later (KR.out _)).mono ?_); rintro x _ ⟨rfl, e, rfl⟩)) | (go_at_call 65; first | ((with_reducible refine (Ret.later (H1.out _)).mono ?_); rintro x _ ⟨rfl, e, rfl⟩) | ((with_reducible refine (Ret.later (H2.out _)).mono ?_); rintro x _ ⟨rfl, e, rfl⟩) | ((with_reducible refine (Ret.later (H4.out _)).mono ?_); rintro x _ ⟨rfl, e, rfl⟩) | ((with_reducible refine (Ret.later (HH.out _)).mono ?_); rintro x _ ⟨rfl, e, rfl⟩) | ((with_reducible refine (Ret.later (HG.out _)).mono ?_); rintro x _ ⟨rfl, e, rfl⟩)))
                      go_ret
                      exact Ret.mk (by rw [HS.out]; rfl) (HE.out.trans e.h)
                    · rw [show has p.fl 2 = false by unfold has; simp; omega] at H2
                      have X2 := hid hx
                      clear hx
                      have HS : Hid (p.right = 0) := by
                        unfold Hid PV.right
                        rw [if_neg (by rw [HR.out]; decide), if_neg (by have := G0.out; omega), if_neg (fun h => h.elim (fun h => h.2.elim HN.out X2.out) (fun h => HN.out h.1))]
                      go_wp2_with (first | (go_at_call 50; first | ((with_reducible refine (Ret.later (KD.out _)).mono ?_); rintro x _ ⟨rfl, e, rfl⟩) | ((with_reducible refine (Ret.later (KS.out _)).mono ?_); rintro x _ ⟨rfl, e, rfl⟩) | ((with_reducible refine (Ret.later (KR.out _)).mono ?_); rintro x _ ⟨rfl, e, rfl⟩)) | (go_at_call 65; first | ((with_reducible refine (Ret.later (H1.out _)).mono ?_); rintro x _ ⟨rfl, e, rfl⟩) | ((with_reducible refine (Ret.later (H2.out _)).mono ?_); rintro x _ ⟨rfl, e, rfl⟩) | ((with_reducible refine (Ret.later (H4.out _)).mono ?_); rintro x _ ⟨rfl, e, rfl⟩) | ((with_reducible refine (Ret.later (HH.out _)).mono ?_); rintro x _ ⟨rfl, e, rfl⟩) | ((with_reducible refine (Ret.later (HG.out _)).mono ?_); rintro x _ ⟨rfl, e, rfl⟩)))
                      go_ret
                      exact Ret.mk (by rw [HS.out]; rfl) (HE.out.trans e.h)
                  | false =>
                    have XT : Hid (¬ (p.fl / 16384 % 2 = 1 ∨ p.fl / 262144 % 2 = 1)) := fun h => by have := HTB.out.2 h; rw [hT] at this; cases this
                    subst hT
                    have HS : Hid (p.right = 0) := by
                      unfold Hid PV.right
                      rw [if_neg (by rw [HR.out]; decide), if_neg (by have := G0.out; omega), if_neg (fun h => h.elim (fun h => XT.out h.1) (fun h => HN.out h.1))]
                    go_wp2_with (first | (go_at_call 50; first | ((with_reducible refine (Ret.later (KD.out _)).mono ?_); rintro x _ ⟨rfl, e, rfl⟩) | ((with_reducible refine (Ret.later (KS.out _)).mono ?_); rintro x _ ⟨rfl, e, rfl⟩) | ((with_reducible refine (Ret.later (KR.out _)).mono ?_); rintro x _ ⟨rfl, e, rfl⟩)) | (go_at_call 65; first | ((with_reducible refine (Ret.later (H1.out _)).mono ?_); rintro x _ ⟨rfl, e, rfl⟩) | ((with_reducible refine (Ret.later (H2.out _)).mono ?_); rintro x _ ⟨rfl, e, rfl⟩) | ((with_reducible refine (Ret.later (H4.out _)).mono ?_); rintro x _ ⟨rfl, e, rfl⟩) | ((with_reducible refine (Ret.later (HH.out _)).mono ?_); rintro x _ ⟨rfl, e, rfl⟩) | ((with_reducible refine (Ret.later (HG.out _)).mono ?_); rintro x _ ⟨rfl, e, rfl⟩)))
                    go_ret
                    exact Ret.mk (by rw [HS.out]; rfl) (HE.out.trans e.h)
                · have ma : ((p.s.sch) == (1)) = false := by rw [beq_eq_false_iff_ne]; omega
                  have mb : ((p.s.sch) = (1)) = False := eq_false (by omega)
                  have mc : ((p.s.sch) != (1)) = true := by rw [bne_iff_ne]; omega
                  clear hS hN
                  cases hT : TB with
                  | true =>
                    have XT : Hid (p.fl / 16384 % 2 = 1 ∨ p.fl / 262144 % 2 = 1) := HTB.out.1 hT
                    subst hT
                    by_cases hx : p.fl / 2 % 2 = 1
                    · rw [show has p.fl 2 = true by unfold has; simp [hx]] at H2
                      have X2 := hid hx
                      clear hx
                      have HS : Hid (p.right = 8) := by
                        unfold Hid PV.right
                        rw [if_neg (by rw [HR.out]; decide), if_neg (by have := G0.out; omega), if_pos (.inl ⟨XT.out, .inr X2.out⟩)]
                      go_wp2_with (first | (go_at_call 50; first | ((with_reducible refine (Ret.later (KD.out _)).mono ?_); rintro x _ ⟨rfl, e, rfl⟩) | ((with_reducible refine (Ret.later (KS.out _)).mono ?_); rintro x _ ⟨rfl, e, rfl⟩) | ((with_reducible refine (Ret.later (KR.out _)).mono ?_); rintro x _ ⟨rfl, e, rfl⟩)) | (go_at_call 65; first | ((with_reducible refine (Ret.later (H1.out _)).mono ?_); rintro x _ ⟨rfl, e, rfl⟩) | ((with_reducible refine (Ret.later (H2.out _)).mono ?_); rintro x _ ⟨rfl, e, rfl⟩) | ((with_reducible refine (Ret.later (H4.out _)).mono ?_); rintro x _ ⟨rfl, e, rfl⟩) | ((with_reducible refine (Ret.later (HH.out _)).mono ?_); rintro x _ ⟨rfl, e, rfl⟩) | ((with_reducible refine (Ret.later (HG.out _)).mono ?_); rintro x _ ⟨rfl, e, rfl⟩)))
                      go_ret
                      exact Ret.mk (by rw [HS.out]; rfl) (HE.out.trans e.h)
                    · rw [show has p.fl 2 = false by unfold has; simp; omega] at H2
                      have X2 := hid hx
                      clear hx
                      have HS : Hid (p.right = 0) := by
                        unfold Hid PV.right
                        rw [if_neg (by rw [HR.out]; decide), if_neg (by have := G0.out; omega), if_neg (fun h => h.elim (fun h => h.2.elim HN.out X2.out) (fun h => HN.out h.1))]
                      go_wp2_with (first | (go_at_call 50; first | ((with_reducible refine (Ret.later (KD.out _)).mono ?_); rintro x _ ⟨rfl, e, rfl⟩) | ((with_reducible refine (Ret.later (KS.out _)).mono ?_); rintro x _ ⟨rfl, e, rfl⟩) | ((with_reducible refine (Ret.later (KR.out _)).mono ?_); rintro x _ ⟨rfl, e, rfl⟩)) | (go_at_call 65; first | ((with_reducible refine (Ret.later (H1.out _)).mono ?_); rintro x _ ⟨rfl, e, rfl⟩) | ((with_reducible refine (Ret.later (H2.out _)).mono ?_); rintro x _ ⟨rfl, e, rfl⟩) | ((with_reducible refine (Ret.later (H4.out _)).mono ?_); rintro x _ ⟨rfl, e, rfl⟩) | ((with_reducible refine (Ret.later (HH.out _)).mono ?_); rintro x _ ⟨rfl, e, rfl⟩) | ((with_reducible refine (Ret.later (HG.out _)).mono ?_); rintro x _ ⟨rfl, e, rfl⟩)))
                      go_ret
                      exact Ret.mk (by rw [HS.out]; rfl) (HE.out.trans e.h)
                  | false =>
                    have XT : Hid (¬ (p.fl / 16384 % 2 = 1 ∨ p.fl / 262144 % 2 = 1)) := fun h => by have := HTB.out.2 h; rw [hT] at this; cases this
                    subst hT
                    have HS : Hid (p.right = 0) := by
                      unfold Hid PV.right
                      rw [if_neg (by rw [HR.out]; decide), if_neg (by have := G0.out; omega), if_neg (fun h => h.elim (fun h => XT.out h.1) (fun h => HN.out h.1))]
                    go_wp2_with (first | (go_at_call 50; first | ((with_reducible refine (Ret.later (KD.out _)).mono ?_); rintro x _ ⟨rfl, e, rfl⟩) | ((with_reducible refine (Ret.later (KS.out _)).mono ?_); rintro x _ ⟨rfl, e, rfl⟩) | ((with_reducible refine (Ret.later (KR.out _)).mono ?_); rintro x _ ⟨rfl, e, rfl⟩)) | (go_at_call 65; first | ((with_reducible refine (Ret.later (H1.out _)).mono ?_); rintro x _ ⟨rfl, e, rfl⟩) | ((with_reducible refine (Ret.later (H2.out _)).mono ?_); rintro x _ ⟨rfl, e, rfl⟩) | ((with_reducible refine (Ret.later (H4.out _)).mono ?_); rintro x _ ⟨rfl, e, rfl⟩) | ((with_reducible refine (Ret.later (HH.out _)).mono ?_); rintro x _ ⟨rfl, e, rfl⟩) | ((with_reducible refine (Ret.later (HG.out _)).mono ?_); rintro x _ ⟨rfl, e, rfl⟩)))
                    go_ret
                    exact Ret.mk (by rw [HS.out]; rfl) (HE.out.trans e.h)
end Go.Proofs.Ytogjghmoankleaa
