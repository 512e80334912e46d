/-
 An item with the right sum as its last part.
-/
import Derived.Test.YthecmnbkjchjmaaGreatMExtAgesav
import Derived.Lib.SliceRun
import Derived.Lib.Overlaps
import Derived.Laws.Externs
import Derived.Laws.IdiomCopy
import Derived.Shelf.Spec.SlicesInsert

namespace Go.Proofs.YthecmnbkjchjmaaGreat
open Go.RowKit
set_option linter.unusedVariables false
set_option linter.unusedSimpArgs false

def lastT (ch : Nat -> T) (s : List UInt8) : T := T.mk 4 0 [] false 6 fun i => if i = 5 then strT s else ch i
def bldL (t : T) : List UInt8 := if t.right 8 then t.bytes else []
theorem buildV_bld (t : T) : ∃ E, buildV t = .tuple #[str (bldL t), .int .i64 E] := by
 unfold buildV bldL
 split
 . exact ⟨_, rfl⟩
 . exact ⟨_, rfl⟩
theorem lastK {W W' : World} {g : Nat} {Q : Nat -> Prop} {ch : Nat -> T} {ac : Nat -> Option Addr × Nat} (hm : Mod [g] W W') (hq : ∀ b, Q b -> b ≠ g) (h : ∀ i, i < 6 -> IsL W Q (ch i) (ac i).1) (s : List UInt8) :
  ∀ i, i < 6 -> IsL W' Q ((fun i => if i = 5 then strT s else ch i) i) ((fun i => if i = 5 then ((none : Option Addr), 0) else ac i) i).1 := by
 intro i hi
 by_cases e : i = 5
 . subst e; simp only [if_true]; exact fun h => absurd h (by decide)
 .
  simp only [if_neg e]
  exact IsL.mod hm (fun k hk _ hm => by rw [List.mem_singleton] at hm; exact hq k hk hm) _ (h i hi)

set_option maxRecDepth 20000 in
set_option maxHeartbeats 1600000 in
theorem summed_any (ch : Nat -> T) (kind : Nat) (k1 : Hid (1 <= kind)) (k2 : Hid (kind <= 2)) (hok : Hid ((lastT ch (List.replicate (2 * kind) 0)).ok /\ (lastT ch (List.replicate (2 * kind) 0)).size <= 100000)) (hbl : Hid ((bldL (lastT ch (List.replicate (2 * kind) 0))).length < 1000000)) (N : Nat) (A : Option Addr) (c : Nat) (w : World) (hN : Hid (N <= w.heap.size)) (h : IsL w (fun b => N <= b) (T.mk 4 0 [] false 6 ch) A) :
  Calls Tryz.prog 152 #[.int .i64 (kind : Int), .agg #[.int .i64 4, .int .u64 0, str [], .slice A 6 c, .bool false]] w (fun e w' => ∃ A c, e = .returned (itemV (lastT ch (Crc.sumL kind (bldL (lastT ch (List.replicate (2 * kind) 0))))) A c) /\ Ext w w' /\ IsL w' (fun b => N <= b) (lastT ch (Crc.sumL kind (bldL (lastT ch (List.replicate (2 * kind) 0))))) A) := by
 have e1 : ((kind : Int) = 0) = False := by have := k1.out; simp; omega
 have e2 : ((kind : Int) == 0) = false := by have := k1.out; simp; omega
 have HI : Hid (IsL w (fun b => N <= b /\ b < w.heap.size) (T.mk 4 0 [] false 6 ch) A) := IsL.weak (fun k hk hq => ⟨hq, hk⟩) _ h
 clear h
 have KR := hid (fun W => Repeat_zero (2 * kind) (by have := k2.out; omega) W)
 have KS := hid (fun W => Sum_any kind k1.out k2.out (bldL (lastT ch (List.replicate (2 * kind) 0))) hbl W)
 obtain ⟨E, hE⟩ := buildV_bld (lastT ch (List.replicate (2 * kind) 0))
 have HV := hid hE; clear hE
 have hTk : (lastT ch (List.replicate (2 * kind) 0)) = T.mk 4 0 [] false 6 (fun i => if i = 5 then strT (List.replicate (2 * kind) 0) else ch i) := rfl
 have HT := hid hTk; clear hTk
 generalize bldL (lastT ch (List.replicate (2 * kind) 0)) = B at *
 have HU : Hid (lastT ch (Crc.sumL kind B) = T.mk 4 0 [] false 6 (fun i => if i = 5 then strT (Crc.sumL kind B) else if i = 5 then strT (List.replicate (2 * kind) 0) else ch i)) := by
  unfold Hid lastT
  congr 1
  funext i
  split <;> rfl
 generalize lastT ch (Crc.sumL kind B) = U at *
 generalize lastT ch (List.replicate (2 * kind) 0) = Y at *
 generalize List.replicate (2 * kind) (0 : UInt8) = Z at *
 generalize Crc.sumL kind B = S at *
 have HE := hid (((Mod.refl [] w).alloc (.cells #[.int .i64 4, .int .u64 0, str [], .slice A 6 c, .bool false] 86)).alloc (.cells #[.int .i64 0, .int .u64 0, .string ⟨#[]⟩, .slice none 0 0, .bool false] 86))
 have HR : Hid (Blk ((w.alloc (.cells #[.int .i64 4, .int .u64 0, str [], .slice A 6 c, .bool false] 86)).alloc (.cells #[.int .i64 0, .int .u64 0, .string ⟨#[]⟩, .slice none 0 0, .bool false] 86)) (w.heap.size + 1) 86 (itemC (numT 0) none 0)) := by
  have := Blk.new (w.alloc (.cells #[.int .i64 4, .int .u64 0, str [], .slice A 6 c, .bool false] 86)) 86 (itemC (numT 0) none 0)
  unfold Hid
  simpa [itemC, numT, T.kind, T.n, T.s, T.k, T.op] using this
 go_enter Tryz.func152, Tryz.ntmps152
 go_wp2_with fail
 refine (CloneI_any ch 6 (by unfold Hid; omega) A c _ (HI.out.ext HE.out)).mono ?_
 rintro e w1 ⟨g, c', ac, rfl, hb1, hg1, hlt1, hown1, hk1⟩
 have HE1 := hid (HE.out.trans hb1)
 have HR1 := hid (HR.out.ext hb1)
 have HO1 := hid hown1
 have HK1 := hid hk1
 have HG : Hid (w.heap.size + 2 <= g) := by unfold Hid; simpa using hg1
 have HL1 := hid hlt1
 clear hb1 hg1 hlt1 hown1 hk1 HE HR HI
 go_wp2_with fail
 refine (Size_any kind k2.out _).mono ?_
 rintro e w2 ⟨rfl, hb2⟩
 have HE2 := hid (HE1.out.trans hb2)
 have HR2 := hid (HR1.out.ext hb2)
 have HO2 := hid (ownsRow_mod HO1.out hb2 (by simp))
 have HK2 : Hid (∀ i, i < 6 -> IsL w2 (fun b => N <= b /\ b < w.heap.size) (ch i) (ac i).1) := fun i hi => (HK1.out i hi).ext hb2
 have HL2 := hid (Nat.lt_of_lt_of_le HL1.out hb2.size)
 clear hb2 HE1 HR1 HO1 HK1 HL1
 go_wp2_with fail
 refine (KR.out _).mono ?_
 rintro e w3 ⟨rfl, hb3⟩
 have HE3 := hid (HE2.out.trans hb3)
 have HR3 := hid (HR2.out.ext hb3)
 have HO3 := hid (ownsRow_mod HO2.out hb3 (by simp))
 have HK3 : Hid (∀ i, i < 6 -> IsL w3 (fun b => N <= b /\ b < w.heap.size) (ch i) (ac i).1) := fun i hi => (HK2.out i hi).ext hb3
 have HL3 := hid (Nat.lt_of_lt_of_le HL2.out hb3.size)
 clear hb3 HE2 HR2 HO2 HK2 HL2
 go_wp2_with fail
 refine (StrV_any _ _).mono ?_
 rintro e w4 ⟨rfl, hb4⟩
 have HE4 := hid (HE3.out.trans hb4)
 have HR4 := hid (HR3.out.ext hb4)
 have HO4 := hid (ownsRow_mod HO3.out hb4 (by simp))
 have HK4 : Hid (∀ i, i < 6 -> IsL w4 (fun b => N <= b /\ b < w.heap.size) (ch i) (ac i).1) := fun i hi => (HK3.out i hi).ext hb4
 have HL4 := hid (Nat.lt_of_lt_of_le HL3.out hb4.size)
 clear hb4 HE3 HR3 HO3 HK3 HL3
 obtain ⟨x0, x1, x2, x3, x4⟩ := flatC_get ch ac 6 5 (by omega)
 have y0 := own_cells HO4.out x0
 have y1 := own_cells HO4.out x1
 have y2 := own_cells HO4.out x2
 have y3 := own_cells HO4.out x3
 have y4 := own_cells HO4.out x4
 clear x0 x1 x2 x3 x4
 have z0 := HO4.out.frozenAt 25
 have z1 := HO4.out.frozenAt 26
 have z2 := HO4.out.frozenAt 27
 have z3 := HO4.out.frozenAt 28
 have z4 := HO4.out.frozenAt 29
 go_wp2_with fail
 clear y0 y1 y2 y3 y4 z0 z1 z2 z3 z4
 have HO5 := hid (own_last (n := 5) (strT Z) none 0 HO4.out)
 have HM5 := hid (((((((Mod.refl [g] w4).setCell (p := ⟨g, 25, none⟩) (.inl (by simp)) (.int .i64 2)).setCell (p := ⟨g, 26, none⟩) (.inl (by simp)) (.int .u64 0)).setCell (p := ⟨g, 27, none⟩) (.inl (by simp)) (str Z)).setCell (p := ⟨g, 28, none⟩) (.inl (by simp)) (.slice none 0 0)).setCell (p := ⟨g, 29, none⟩) (.inl (by simp)) (.bool false)))
 have HE5 := hid (((((HE4.out.setCell (p := ⟨g, 25, none⟩) (.inr (by have := HG.out; show w.heap.size <= g; omega)) (.int .i64 2)).setCell (p := ⟨g, 26, none⟩) (.inr (by have := HG.out; show w.heap.size <= g; omega)) (.int .u64 0)).setCell (p := ⟨g, 27, none⟩) (.inr (by have := HG.out; show w.heap.size <= g; omega)) (str Z)).setCell (p := ⟨g, 28, none⟩) (.inr (by have := HG.out; show w.heap.size <= g; omega)) (.slice none 0 0)).setCell (p := ⟨g, 29, none⟩) (.inr (by have := HG.out; show w.heap.size <= g; omega)) (.bool false))
 change Hid (World.ownsRow (((((w4.setCell ⟨g, 25, none⟩ (.int .i64 2)).setCell ⟨g, 26, none⟩ (.int .u64 0)).setCell ⟨g, 27, none⟩ (str Z)).setCell ⟨g, 28, none⟩ (.slice none 0 0)).setCell ⟨g, 29, none⟩ (.bool false)) _ _ _ _ _ _) at HO5
 change Hid (Mod [g] w4 (((((w4.setCell ⟨g, 25, none⟩ (.int .i64 2)).setCell ⟨g, 26, none⟩ (.int .u64 0)).setCell ⟨g, 27, none⟩ (str Z)).setCell ⟨g, 28, none⟩ (.slice none 0 0)).setCell ⟨g, 29, none⟩ (.bool false))) at HM5
 change Hid (Mod [] w (((((w4.setCell ⟨g, 25, none⟩ (.int .i64 2)).setCell ⟨g, 26, none⟩ (.int .u64 0)).setCell ⟨g, 27, none⟩ (str Z)).setCell ⟨g, 28, none⟩ (.slice none 0 0)).setCell ⟨g, 29, none⟩ (.bool false))) at HE5
 generalize (((((w4.setCell ⟨g, 25, none⟩ (.int .i64 2)).setCell ⟨g, 26, none⟩ (.int .u64 0)).setCell ⟨g, 27, none⟩ (str Z)).setCell ⟨g, 28, none⟩ (.slice none 0 0)).setCell ⟨g, 29, none⟩ (.bool false)) = w5 at *
 have HR5 := hid (HR4.out.mod HM5.out (by have := HG.out; simp; omega))
 have HK5 := hid (lastK HM5.out (fun b hb => by have := HG.out; omega) HK4.out Z)
 have HL5 := hid (Nat.lt_of_lt_of_le HL4.out HM5.out.size)
 clear HE4 HR4 HO4 HK4 HL4 HM5
 generalize hch : (fun i => if i = 5 then strT Z else ch i) = ch5 at *
 generalize hac : (fun i => if i = 5 then ((none : Option Addr), 0) else ac i) = ac5 at *
 have Hch5 := hid hch; clear hch; clear hac
 refine (ListV_any 6 _ c' _).mono ?_
 rintro e w6 ⟨rfl, hb6⟩
 have HE6 := hid (HE5.out.trans hb6)
 have HR6 := hid (HR5.out.ext hb6)
 have HO6 := hid (ownsRow_mod HO5.out hb6 (by simp))
 have HK6 : Hid (∀ i, i < 6 -> IsL w6 (fun b => N <= b /\ b < w.heap.size) (ch5 i) (ac5 i).1) := fun i hi => (HK5.out i hi).ext hb6
 have HL6 := hid (Nat.lt_of_lt_of_le HL5.out hb6.size)
 clear hb6 HE5 HR5 HO5 HK5 HL5
 have HY : Hid (Y = T.mk 4 0 [] false 6 ch5) := HT.out
 have HIY : Hid (IsL w6 (fun _ => True) Y (some ⟨g, 0, none⟩)) := by
  rw [HY.out]
  exact own_IsL HL6.out trivial HO6.out (fun i hi => IsL.weak (fun _ _ _ => trivial) _ (HK6.out i hi))
 have HBY : Hid (∀ W, IsL W (fun _ => True) Y (some ⟨g, 0, none⟩) -> Calls Tryz.prog 70 #[.agg #[.int .i64 4, .int .u64 0, str [], .slice (some ⟨g, 0, none⟩) 6 c', .bool false]] W (Ret (.tuple #[str B, .int .i64 E]) W)) := fun W hW => by
  have := iBuild_any Y hok.out.1 hok.out.2 (some ⟨g, 0, none⟩) c' W hW
  rw [HV.out, HY.out] at this
  exact this
 go_wp2_with fail
 refine (HBY.out _ HIY.out).mono ?_
 rintro e w7 ⟨rfl, hb7⟩
 have HE7 := hid (HE6.out.trans hb7)
 have HR7 := hid (HR6.out.ext hb7)
 have HO7 := hid (ownsRow_mod HO6.out hb7 (by simp))
 have HK7 : Hid (∀ i, i < 6 -> IsL w7 (fun b => N <= b /\ b < w.heap.size) (ch5 i) (ac5 i).1) := fun i hi => (HK6.out i hi).ext hb7
 have HL7 := hid (Nat.lt_of_lt_of_le HL6.out hb7.size)
 clear hb7 HE6 HR6 HO6 HK6 HL6
 clear HIY HBY HV
 go_wp2_with fail
 refine (KS.out _).mono ?_
 rintro e w8 ⟨rfl, hb8⟩
 have HE8 := hid (HE7.out.trans hb8)
 have HR8 := hid (HR7.out.ext hb8)
 have HO8 := hid (ownsRow_mod HO7.out hb8 (by simp))
 have HK8 : Hid (∀ i, i < 6 -> IsL w8 (fun b => N <= b /\ b < w.heap.size) (ch5 i) (ac5 i).1) := fun i hi => (HK7.out i hi).ext hb8
 have HL8 := hid (Nat.lt_of_lt_of_le HL7.out hb8.size)
 clear hb8 HE7 HR7 HO7 HK7 HL7
 go_wp2_with fail
 refine (StrV_any _ _).mono ?_
 rintro e w9 ⟨rfl, hb9⟩
 have HE9 := hid (HE8.out.trans hb9)
 have HR9 := hid (HR8.out.ext hb9)
 have HO9 := hid (ownsRow_mod HO8.out hb9 (by simp))
 have HK9 : Hid (∀ i, i < 6 -> IsL w9 (fun b => N <= b /\ b < w.heap.size) (ch5 i) (ac5 i).1) := fun i hi => (HK8.out i hi).ext hb9
 have HL9 := hid (Nat.lt_of_lt_of_le HL8.out hb9.size)
 clear hb9 HE8 HR8 HO8 HK8 HL8
 obtain ⟨x0, x1, x2, x3, x4⟩ := flatC_get ch5 ac5 6 5 (by omega)
 have y0 := own_cells HO9.out x0
 have y1 := own_cells HO9.out x1
 have y2 := own_cells HO9.out x2
 have y3 := own_cells HO9.out x3
 have y4 := own_cells HO9.out x4
 clear x0 x1 x2 x3 x4
 have z0 := HO9.out.frozenAt 25
 have z1 := HO9.out.frozenAt 26
 have z2 := HO9.out.frozenAt 27
 have z3 := HO9.out.frozenAt 28
 have z4 := HO9.out.frozenAt 29
 go_wp2_with fail
 clear y0 y1 y2 y3 y4 z0 z1 z2 z3 z4
 have HO10 := hid (own_last (n := 5) (strT S) none 0 HO9.out)
 have HM10 := hid (((((((Mod.refl [g] w9).setCell (p := ⟨g, 25, none⟩) (.inl (by simp)) (.int .i64 2)).setCell (p := ⟨g, 26, none⟩) (.inl (by simp)) (.int .u64 0)).setCell (p := ⟨g, 27, none⟩) (.inl (by simp)) (str S)).setCell (p := ⟨g, 28, none⟩) (.inl (by simp)) (.slice none 0 0)).setCell (p := ⟨g, 29, none⟩) (.inl (by simp)) (.bool false)))
 have HE10 := hid (((((HE9.out.setCell (p := ⟨g, 25, none⟩) (.inr (by have := HG.out; show w.heap.size <= g; omega)) (.int .i64 2)).setCell (p := ⟨g, 26, none⟩) (.inr (by have := HG.out; show w.heap.size <= g; omega)) (.int .u64 0)).setCell (p := ⟨g, 27, none⟩) (.inr (by have := HG.out; show w.heap.size <= g; omega)) (str S)).setCell (p := ⟨g, 28, none⟩) (.inr (by have := HG.out; show w.heap.size <= g; omega)) (.slice none 0 0)).setCell (p := ⟨g, 29, none⟩) (.inr (by have := HG.out; show w.heap.size <= g; omega)) (.bool false))
 change Hid (World.ownsRow (((((w9.setCell ⟨g, 25, none⟩ (.int .i64 2)).setCell ⟨g, 26, none⟩ (.int .u64 0)).setCell ⟨g, 27, none⟩ (str S)).setCell ⟨g, 28, none⟩ (.slice none 0 0)).setCell ⟨g, 29, none⟩ (.bool false)) _ _ _ _ _ _) at HO10
 change Hid (Mod [g] w9 (((((w9.setCell ⟨g, 25, none⟩ (.int .i64 2)).setCell ⟨g, 26, none⟩ (.int .u64 0)).setCell ⟨g, 27, none⟩ (str S)).setCell ⟨g, 28, none⟩ (.slice none 0 0)).setCell ⟨g, 29, none⟩ (.bool false))) at HM10
 change Hid (Mod [] w (((((w9.setCell ⟨g, 25, none⟩ (.int .i64 2)).setCell ⟨g, 26, none⟩ (.int .u64 0)).setCell ⟨g, 27, none⟩ (str S)).setCell ⟨g, 28, none⟩ (.slice none 0 0)).setCell ⟨g, 29, none⟩ (.bool false))) at HE10
 generalize (((((w9.setCell ⟨g, 25, none⟩ (.int .i64 2)).setCell ⟨g, 26, none⟩ (.int .u64 0)).setCell ⟨g, 27, none⟩ (str S)).setCell ⟨g, 28, none⟩ (.slice none 0 0)).setCell ⟨g, 29, none⟩ (.bool false)) = w10 at *
 have HR10 := hid (HR9.out.mod HM10.out (by have := HG.out; simp; omega))
 have HK10 := hid (lastK HM10.out (fun b hb => by have := HG.out; omega) HK9.out S)
 have HL10 := hid (Nat.lt_of_lt_of_le HL9.out HM10.out.size)
 clear HE9 HR9 HO9 HK9 HL9 HM10
 generalize hch : (fun i => if i = 5 then strT S else ch5 i) = ch10 at *
 generalize hac : (fun i => if i = 5 then ((none : Option Addr), 0) else ac5 i) = ac10 at *
 have Hch10 := hid hch; clear hch; clear hac
 refine (ListV_any 6 _ c' _).mono ?_
 rintro e w11 ⟨rfl, hb11⟩
 have HE11 := hid (HE10.out.trans hb11)
 have HR11 := hid (HR10.out.ext hb11)
 have HO11 := hid (ownsRow_mod HO10.out hb11 (by simp))
 have HK11 : Hid (∀ i, i < 6 -> IsL w11 (fun b => N <= b /\ b < w.heap.size) (ch10 i) (ac10 i).1) := fun i hi => (HK10.out i hi).ext hb11
 have HL11 := hid (Nat.lt_of_lt_of_le HL10.out hb11.size)
 clear hb11 HE10 HR10 HO10 HK10 HL10
 have HU2 : U = T.mk 4 0 [] false 6 ch10 := by rw [HU.out, <- Hch10.out, <- Hch5.out]
 have HIU : Hid (IsL w11 (fun b => b ≠ w.heap.size + 1 /\ N <= b) U (some ⟨g, 0, none⟩)) := by
  rw [HU2]
  exact own_IsL HL11.out (by have := HG.out; have := hN.out; omega) HO11.out (fun i hi => IsL.weak (fun k _ hq => ⟨by omega, hq.1⟩) _ (HK11.out i hi))
 obtain ⟨c0, c1, c2, c3, c4⟩ := cells5 HR11.out
 have f0 := Blk.frozen HR11.out 0
 have f1 := Blk.frozen HR11.out 1
 have f2 := Blk.frozen HR11.out 2
 have f3 := Blk.frozen HR11.out 3
 have f4 := Blk.frozen HR11.out 4
 go_wp2_with fail
 obtain ⟨d0, d1, d2, d3, d4⟩ := cells5 (set5_blk (t := T.mk 4 0 [] false 6 ch10) (A := some ⟨g, 0, none⟩) (c := c') HR11.out)
 clear c0 c1 c2 c3 c4 f0 f1 f2 f3 f4
 show bodyPost _ _ _ _ _ (set5 w11 (w.heap.size + 1) (T.mk 4 0 [] false 6 ch10) (some ⟨g, 0, none⟩) c')
 refine bodyPost_ret (v := itemV (T.mk 4 0 [] false 6 ch10) (some ⟨g, 0, none⟩) c') (by simp [results, Tryz.results152, go_sem, d0, d1, d2, d3, d4]) rfl ?_
 refine ⟨some ⟨g, 0, none⟩, c', by rw [HU2], set5_mod HE11.out (by omega), ?_⟩
 refine IsL.weak (fun _ _ h => h.2) _ (IsL.mod (Q := fun b => b ≠ w.heap.size + 1 /\ N <= b) set5_modb (fun k hq hk hm => by rw [List.mem_singleton] at hm; exact hq.1 hm) _ HIU.out)
end Go.Proofs.YthecmnbkjchjmaaGreat


namespace Go.Proofs.YthecmnbkjchjmaaGreat
open Go.RowKit
set_option linter.unusedVariables false
set_option linter.unusedSimpArgs false

theorem blkT_last {ty num fl crc : Nat} {data s t : List UInt8} (hc : ¬ crc = 0) (ch : Nat -> T) (hch : blkT ty num fl crc data s = T.mk 4 0 [] false 6 ch) : lastT ch t = blkT ty num fl crc data t := by
 unfold blkT at hch ⊢
 rw [if_neg hc] at hch ⊢
 have h := (T.mk.inj hch).2.2.2.2.2
 subst h
 unfold lastT
 congr 1
 funext i
 by_cases e : i = 5
 . subst e; simp
 . simp [e]
theorem blkT_right {ty num fl crc : Nat} {data s : List UInt8} (d : Nat) (hd : 2 <= d) : (blkT ty num fl crc data s).right d = true := by
 unfold blkT T.right
 rw [if_neg (by omega)]
 simp only [Bool.and_eq_true]
 constructor
 . split <;> rfl
 .
  rw [T.all_iff]
  intro i hi
  have hi6 : i < 6 := by split at hi <;> omega
  have hd1 : ¬ d - 1 < 1 := by omega
  have h6 : i = 0 \/ i = 1 \/ i = 2 \/ i = 3 \/ i = 4 \/ i = 5 := by omega
  rcases h6 with rfl | rfl | rfl | rfl | rfl | rfl <;> simp [numT, strT, T.right, hd1, T.node, T.all]
theorem sum_le {f : Nat -> Nat} {B : Nat} (h : ∀ i, f i <= B) : ∀ k, T.sum f k <= k * B
 | 0 => by simp [T.sum]
 | k + 1 => by have := sum_le h k; have := h k; rw [T.sum, Nat.succ_mul]; omega
theorem blkT_size {ty num fl crc : Nat} {data s : List UInt8} (h5 : data.length <= 4000) (h6 : s.length <= 4000) : (blkT ty num fl crc data s).size <= 100000 := by
 have hs : ∀ k, k <= 6 -> ∀ f : Nat -> Nat, (∀ i, f i <= 4001) -> 1 + ([] : List UInt8).length + T.sum f k <= 100000 := fun k hk f hf => by
  have := sum_le hf k
  have : k * 4001 <= 6 * 4001 := Nat.mul_le_mul_right _ hk
  simp
  omega
 unfold blkT T.size
 refine hs _ (by split <;> omega) _ (fun i => ?_)
 dsimp only
 split
 . simp [numT, T.size, T.sum]
 .
  split
  . simp [numT, T.size, T.sum]
  .
   split
   . simp [numT, T.size, T.sum]
   .
    split
    . simp [numT, T.size, T.sum]
    .
     split
     . simp [strT, T.size, T.sum]; omega
     .
      split
      . simp [strT, T.size, T.sum]; omega
      . simp [T.size]

def blkB (ty num fl crc : Nat) (data sum : List UInt8) : List UInt8 :=
 headL 4 (if crc = 0 then 5 else 6) ++ headL 0 ty ++ headL 0 num ++ headL 0 fl ++ headL 0 crc ++ (headL 2 data.length ++ data) ++ (if crc = 0 then [] else headL 2 sum.length ++ sum)
theorem blkT_bytes (ty num fl crc : Nat) (data sum : List UInt8) : (blkT ty num fl crc data sum).bytes = blkB ty num fl crc data sum := by
 unfold blkT blkB
 by_cases hc : crc = 0
 .
  subst hc
  simp [T.bytes, T.cat, numT, strT]
 . simp [hc, T.bytes, T.cat, numT, strT]
theorem blkB_length {ty num fl crc : Nat} {data sum : List UInt8} (h5 : data.length <= 4000) (h6 : sum.length <= 4000) : (blkB ty num fl crc data sum).length < 1000000 := by
 have a1 := headL_le 4 5
 have a0 := headL_le 4 6
 have a2 := headL_le 0 ty
 have a3 := headL_le 0 num
 have a4 := headL_le 0 fl
 have a5 := headL_le 0 crc
 have a6 := headL_le 2 data.length
 have a7 := headL_le 2 sum.length
 unfold blkB
 simp only [List.length_append]
 split <;> simp <;> omega
def sumB (ty num fl crc : Nat) (data : List UInt8) : List UInt8 := if crc = 0 then [] else Crc.sumL crc (blkB ty num fl crc data (List.replicate (2 * crc) 0))
def finT (ty num fl crc : Nat) (data : List UInt8) : T := blkT ty num fl crc data (sumB ty num fl crc data)
theorem sumB_length {ty num fl crc : Nat} {data : List UInt8} (hc : crc <= 2) : (sumB ty num fl crc data).length = 2 * crc := by
 unfold sumB
 split
 . subst crc; rfl
 . exact Crc.sumL_length (by omega) hc _
theorem sumOf {ty num fl crc : Nat} {data : List UInt8} (h1 : ty <= 65535) (h2 : num <= 65535) (h3 : fl <= 255) (h4 : crc <= 2) (h5 : data.length <= 4000) :
  Hid (∀ N A c W, N <= W.heap.size -> IsL W (fun b => N <= b) (blkT ty num fl crc data []) A -> Calls Tryz.prog 152 #[.int .i64 (crc : Int), itemV (blkT ty num fl crc data []) A c] W (fun e w' => ∃ A c, e = .returned (itemV (finT ty num fl crc data) A c) /\ Ext W w' /\ IsL w' (fun b => N <= b) (finT ty num fl crc data) A)) := by
 intro N A c W hN hI
 by_cases hc : crc = 0
 .
  subst hc
  exact (summed_0 _ A c W).mono fun e w' ⟨he, hb⟩ => ⟨A, c, he, hb, hI.ext hb⟩
 .
  obtain ⟨ch, hch⟩ : ∃ ch, blkT ty num fl crc data [] = T.mk 4 0 [] false 6 ch := ⟨_, by unfold blkT; rw [if_neg hc]⟩
  have hl : ∀ t, lastT ch t = blkT ty num fl crc data t := fun t => blkT_last hc ch hch
  have hZ : (List.replicate (2 * crc) (0 : UInt8)).length <= 4000 := by simp; omega
  have hB : bldL (lastT ch (List.replicate (2 * crc) 0)) = blkB ty num fl crc data (List.replicate (2 * crc) 0) := by
   rw [hl, bldL, blkT_right 8 (by omega), if_pos rfl, blkT_bytes]
  have h := summed_any ch crc (by unfold Hid; omega) h4 (by rw [hl]; exact ⟨blkT_ok h1 h2 h3 h4 h5 hZ, blkT_size h5 hZ⟩) (by rw [hB]; exact blkB_length h5 hZ) N A c W hN (by rw [hch] at hI; exact hI)
  rw [hB, hl] at h
  have he : finT ty num fl crc data = blkT ty num fl crc data (Crc.sumL crc (blkB ty num fl crc data (List.replicate (2 * crc) 0))) := by unfold finT sumB; rw [if_neg hc]
  rw [<- he] at h
  rw [hch]
  exact h
theorem finV {ty num fl crc : Nat} {data : List UInt8} : buildV (finT ty num fl crc data) = .tuple #[str (blkB ty num fl crc data (sumB ty num fl crc data)), .int .i64 0] := by
 unfold buildV finT
 rw [blkT_right 8 (by omega), if_pos rfl, blkT_bytes]
theorem Build_any (ty num fl crc : Nat) (data : List UInt8) (hb : BV.right ⟨ty, num, fl, crc, data⟩ = 0) (w : World) : Calls Tryz.prog 114 #[BV.v ⟨ty, num, fl, crc, data⟩] w (Ret (.tuple #[str (blkB ty num fl crc data (sumB ty num fl crc data)), .int .i64 0]) w) := by
 have h := BV.right_zero hb
 simp only [] at h
 have hs := sumB_length (ty := ty) (num := num) (fl := fl) (data := data) (show crc <= 2 by omega)
 rw [<- finV]
 exact Build_ok ty num fl crc data hb (finT ty num fl crc data) (blkT_ok (by omega) (by omega) (by omega) (by omega) (by omega) (by omega)) (blkT_size (by omega) (by omega)) (sumOf (by omega) (by omega) (by omega) (by omega) (by omega)) w
end Go.Proofs.YthecmnbkjchjmaaGreat


namespace Go.Proofs.YthecmnbkjchjmaaGreat
open Go.RowKit
set_option linter.unusedVariables false
set_option linter.unusedSimpArgs false

theorem run_copy_cells5 {P : Program} (w : World) (dT sT ty elem : TypeId) (b o dLen dCap : Nat) (a : Addr) (sLen sCap : Nat) (cs : List Value)
  (hu : P.underlying dT = some (.slice elem)) (hs : (P.info? elem).map (·.size) = some 5) (hn : cs.length = Nat.min sLen dLen * 5)
  (hsrc : ∀ j v, cs[j]? = some v -> w.cell? (a.add j) = some v) (hc : ∀ j, j < cs.length -> (w.cell? ⟨b, o + j, none⟩).isSome = true) (hf : ∀ j, j < cs.length -> w.frozen? ⟨b, o + j, none⟩ = false) (h1 : ∀ v ∈ cs, v.oneCell' = true) :
  (Builtin.copy_ #[dT, sT] ty #[.slice (some ⟨b, o, none⟩) dLen dCap, .slice (some a) sLen sCap]).run P w = .ok (goInt (Nat.min sLen dLen)) (w.setCells b o cs) := by
 have hl := run_loadCells_list (P := P) w a cs hsrc
 have hst := run_storeCells_cells (P := P) b o cs 0 w (by simpa using hc) (by simpa using hf) h1
 cases hq : P.info? elem with
 | none => simp [hq] at hs
 | some i =>
  have hi : i.size = 5 := by simpa [hq] using hs
  simp [Builtin.copy_, run_underlying hu, Builtin.lenOf, Builtin.firstCells, sizeOf, typeInfo, hq, hi, <- hn, hl, hst]
set_option maxHeartbeats 4000000 in
set_option maxRecDepth 100000 in
theorem InsB_shift (g k c i vb : Nat) (cs vs : List Value) (w : World) (hi : i < k) (hk : k <= 100000) (hroom : k + 1 <= c) (hc63 : c <= 9223372036854775807) (hvb : vb ≠ g)
  (hcl : cs.length = k * 5) (hvl : vs.length = 5)
  (hcs : ∀ j v, cs[j]? = some v -> w.cell? ⟨g, j, none⟩ = some v) (hsp : ∀ j, j < (k + 1) * 5 -> (w.cell? ⟨g, j, none⟩).isSome = true) (hfz : ∀ j, j < (k + 1) * 5 -> w.frozen? ⟨g, j, none⟩ = false)
  (hvs : ∀ j v, vs[j]? = some v -> w.cell? ⟨vb, j, none⟩ = some v) (h1c : ∀ v ∈ cs, v.oneCell' = true) (h1v : ∀ v ∈ vs, v.oneCell' = true)
  (tA tB : TypeId) (kA kB : Nat) (hsa : w.shape? vb = some (tA, kA)) (hsb : w.shape? g = some (tB, kB)) (hkB : kB ≠ 0) (hfa : w.frozen? ⟨vb, 0, none⟩ = false) (hfe : w.frozen? ⟨vb, kA, none⟩ = false) :
  Calls Tryz.prog 81 #[.slice (some ⟨g, 0, none⟩) k c, .int .i64 i, .slice (some ⟨vb, 0, none⟩) 1 1] w fun e w' =>
   e = .returned (.slice (some ⟨g, 0, none⟩) (k + 1) c) /\ w' = (w.drew.setCells g ((i + 1) * 5) (cs.drop (i * 5))).setCells g (i * 5) vs := by
 have hz2 : ¬ ((i : Int) = (k : Int)) := by omega
 have hz3 : ((i : Int) == (k : Int)) = false := by rw [beq_eq_false_iff_ne]; omega
 have hz4 : (i == k) = false := by rw [beq_eq_false_iff_ne]; omega
 have hr1 : decide ((c : Int) < (k : Int) + 1) = false := decide_eq_false (by omega)
 have hr2 : decide (c < k + 1) = false := decide_eq_false (by omega)
 have k0 : (0 : Int) <= (k : Int) := by omega
 have k1 : (k : Int) <= 100000 := by omega
 have i0 : (0 : Int) <= (i : Int) := by omega
 have i1 : (i : Int) < (k : Int) := by omega
 have hsz : (Tryz.prog.info? 38).map (·.size) = some 5 := by kernel_rfl
 have hov : ∀ lb cb, (callFunc 96 #[.slice (some ⟨vb, 0, none⟩) 1 1, .slice (some ⟨g, (i + 1) * 5, none⟩) lb cb]).run Tryz.prog w = .ok (.value (.bool false)) w := fun lb cb => by
  rw [run_callFunc_extern Tryz.func96 (by kernel_rfl) (by kernel_rfl) (by kernel_rfl) (e := Extern.SlicesOverlaps.overlaps #[27, 27] #[4]) (by kernel_rfl),
   Lib.run_overlaps_apart w 27 4 38 Tryz.underlying27 5 Tryz.sizeOf38 ⟨vb, 0, none⟩ ⟨g, (i + 1) * 5, none⟩ 1 1 lb cb hvb tA tB kA kB hsa hsb hkB hfa hfe]
  rfl
 have hdl : (cs.drop (i * 5)).length = (k - i) * 5 := by rw [List.length_drop, hcl]; omega
 have hcp1 : ∀ ty dc sc, (Builtin.copy_ #[27, 27] ty #[.slice (some ⟨g, (i + 1) * 5, none⟩) (k - i) dc, .slice (some ⟨g, i * 5, none⟩) (k + 1 - i) sc]).run Tryz.prog w.drew = .ok (goInt (Nat.min (k + 1 - i) (k - i))) (w.drew.setCells g ((i + 1) * 5) (cs.drop (i * 5))) := fun ty dc sc =>
  run_copy_cells5 w.drew _ _ ty 38 g ((i + 1) * 5) (k - i) dc ⟨g, i * 5, none⟩ (k + 1 - i) sc (cs.drop (i * 5)) Tryz.underlying27 hsz (by rw [hdl]; simp only [Nat.min_def]; split <;> omega)
   (fun j v hj => by rw [addr_add]; exact hcs (i * 5 + j) v (by rwa [List.getElem?_drop] at hj))
   (fun j hj => hsp _ (by omega)) (fun j hj => hfz _ (by omega)) (fun v hv => h1c v (List.mem_of_mem_drop hv))
 obtain ⟨W1, hW1⟩ : ∃ W1, W1 = w.drew.setCells g ((i + 1) * 5) (cs.drop (i * 5)) := ⟨_, rfl⟩
 have hsp1 : ∀ n, n < (k + 1) * 5 -> (W1.cell? ⟨g, n, none⟩).isSome = true := fun n hn => by
  rw [hW1]
  exact isSome_setCells g (cs.drop (i * 5)) ((i + 1) * 5) w.drew (fun j hj => hsp _ (by omega)) _ (hsp n hn)
 have hcp2 : ∀ (W : World), (∀ x, W.cell? x = W1.cell? x) -> (∀ x, W.frozen? x = W1.frozen? x) -> ∀ ty dc, (Builtin.copy_ #[27, 27] ty #[.slice (some ⟨g, i * 5, none⟩) (k + 1 - i) dc, .slice (some ⟨vb, 0, none⟩) 1 1]).run Tryz.prog W = .ok (goInt (Nat.min 1 (k + 1 - i))) (W.setCells g (i * 5) vs) := fun W hWc hWf ty dc =>
  run_copy_cells5 W _ _ ty 38 g (i * 5) (k + 1 - i) dc ⟨vb, 0, none⟩ 1 1 vs Tryz.underlying27 hsz (by rw [hvl]; simp only [Nat.min_def]; split <;> omega)
   (fun j v hj => by
    rw [addr_add, Nat.zero_add, hWc, hW1, World.cell?_setCells_out g _ _ _ _ (fun h _ => absurd h hvb)]
    exact hvs j v hj)
   (fun j hj => by rw [hWc]; exact hsp1 _ (by omega)) (fun j hj => by rw [hWf, hW1, World.frozen?_setCells]; exact hfz _ (by omega)) h1v
 rw [<- hW1] at hcp1
 clear hcs hsp hfz hvs h1c h1v hsp1 hsz hdl
 have mixed : Tryz.prog.follows Departure.mixedOrders = true := by kernel_rfl
 have hw1 : IntKind.i64.wrap ((i : Int) + 1) = (i : Int) + 1 := IntWalk.i64_in _ (by omega)
 have hb1 : (0 : Int) <= (i : Int) + 1 := by omega
 have htn : ((i : Int) + 1).toNat = i + 1 := by omega
 have hb2 : ¬ (c = i + 1) := by omega
 have hb3 : (i : Int) + 1 <= (k : Int) + 1 := by omega
 have hb4 : ¬ (c = i) := by omega
 have hb5 : (i : Int) <= (k : Int) + 1 := by omega
 go_enter Tryz.func81, Tryz.ntmps81
 go_upto_region 14 with fail
 go_wp2_with (simp only [hov])
 go_region_law_o (refine step_copy_runI rfl _ _ 27 27 rfl _ _ (by simp [Act.eval, Act.put]) (by simp [Act.eval, Act.put]) (hcp1 _ _ _) ?_)
 go_wp2_with (at_builtin; refine wpList_copy_runI _ rfl _ _ 27 27 rfl _ _ rfl rfl (hcp2 _ (fun _ => rfl) (fun _ => rfl) _ _) ?_)
 go_ret
 first | exact ⟨rfl, rfl⟩ | exact ⟨rfl, by rw [hW1]⟩
end Go.Proofs.YthecmnbkjchjmaaGreat
