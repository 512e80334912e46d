/-
 A block's bytes; the block that the laws wake the program by.
-/
import Derived.Test.YthecmnbkjchjmaaGreatMExtHopsaj
import Derived.Test.YthecmnbkjchjmaaGreatMExtHopsao
import Derived.Shelf.Abstract
namespace Go.Proofs.YthecmnbkjchjmaaGreat
open Go.RowKit
set_option linter.unusedVariables false
set_option linter.unusedSimpArgs false
set_option maxRecDepth 20000 in
set_option maxHeartbeats 800000 in
theorem Build_ok (ty num fl crc : Nat) (data : List UInt8) (hb : BV.right ⟨ty, num, fl, crc, data⟩ = 0) (t : T) (hok : t.ok) (hsz : t.size <= 100000) (KS : Hid (∀ N A c W, N <= W.heap.size -> IsL W (fun b => N <= b) (blkT ty num fl crc data []) A -> Calls Tryz.prog 152 #[.int .i64 (crc : Int), itemV (blkT ty num fl crc data []) A c] W (fun e w' => ∃ A c, e = .returned (itemV t A c) /\ Ext W w' /\ IsL w' (fun b => N <= b) t A))) (w : World) : Calls Tryz.prog 114 #[BV.v ⟨ty, num, fl, crc, data⟩] w (Ret (buildV t) w) := by
 have HE0 := hid ((Mod.refl [] w).alloc (.cells (BV.c ⟨ty, num, fl, crc, data⟩) 38))
 go_enter Tryz.func114, Tryz.ntmps114
 go_wp2_with fail
 refine (Item_ok ty num fl crc data hb t KS _).mono ?_
 rintro e w1 ⟨A, c, rfl, hb1, hl1⟩
 have HE1 := hid (HE0.out.trans hb1)
 have HL1 := hid hl1
 clear hb1 hl1
 go_wp2_with fail
 refine (iBuild_any t hok hsz A c _ (IsL.ext (IsL.weak (fun _ _ _ => trivial) _ HL1.out) ((Mod.refl _ _).alloc _))).mono ?_
 rintro e w2 ⟨rfl, hb2⟩
 have HE2 := hid ((HE1.out.alloc _).trans hb2)
 clear hb2
 obtain ⟨s, E, hV⟩ : ∃ s E, buildV t = .tuple #[str s, .int .i64 E] := by unfold buildV; split; exact ⟨_, _, rfl⟩; exact ⟨_, _, rfl⟩
 rw [hV]
 go_wp2_with fail
 refine bodyPost_ret (v := .tuple #[str s, .int .i64 E]) (by simp [results, Tryz.results114, go_sem]) rfl (Ret.mk hV.symm HE2.out)
def lastT (ch : Nat -> T) (s : List UInt8) : T := T.mk 4 0 [] false 6 fun i => if i = 5 then strT s else ch i
def bldL (t : T) : List UInt8 := if t.right 8 then t.bytes else []
theorem buildV_bld (t : T) : ∃ E, buildV t = .tuple #[str (bldL t), .int .i64 E] := by
 unfold buildV bldL
 split
 . exact ⟨_, rfl⟩
 . exact ⟨_, rfl⟩
theorem lastK {W W' : World} {g : Nat} {Q : Nat -> Prop} {ch : Nat -> T} {ac : Nat -> Option Addr × Nat} (hm : Mod [g] W W') (hq : ∀ b, Q b -> b ≠ g) (h : ∀ i, i < 6 -> IsL W Q (ch i) (ac i).1) (s : List UInt8) :
  ∀ i, i < 6 -> IsL W' Q ((fun i => if i = 5 then strT s else ch i) i) ((fun i => if i = 5 then ((none : Option Addr), 0) else ac i) i).1 := by
 intro i hi
 by_cases e : i = 5
 . subst e; simp only [if_true]; exact fun h => absurd h (by decide)
 .
  simp only [if_neg e]
  exact IsL.mod hm (fun k hk _ hm => by rw [List.mem_singleton] at hm; exact hq k hk hm) _ (h i hi)
set_option maxRecDepth 20000 in
set_option maxHeartbeats 1600000 in
theorem summed_any (ch : Nat -> T) (kind : Nat) (k1 : Hid (1 <= kind)) (k2 : Hid (kind <= 2)) (hok : Hid ((lastT ch (List.replicate (2 * kind) 0)).ok /\ (lastT ch (List.replicate (2 * kind) 0)).size <= 100000)) (hbl : Hid ((bldL (lastT ch (List.replicate (2 * kind) 0))).length < 1000000)) (N : Nat) (A : Option Addr) (c : Nat) (w : World) (hN : Hid (N <= w.heap.size)) (h : IsL w (fun b => N <= b) (T.mk 4 0 [] false 6 ch) A) :
  Calls Tryz.prog 152 #[.int .i64 (kind : Int), .agg #[.int .i64 4, .int .u64 0, str [], .slice A 6 c, .bool false]] w (fun e w' => ∃ A c, e = .returned (itemV (lastT ch (Crc.sumL kind (bldL (lastT ch (List.replicate (2 * kind) 0))))) A c) /\ Ext w w' /\ IsL w' (fun b => N <= b) (lastT ch (Crc.sumL kind (bldL (lastT ch (List.replicate (2 * kind) 0))))) A) := by
 have e1 : ((kind : Int) = 0) = False := by have := k1.out; simp; omega
 have e2 : ((kind : Int) == 0) = false := by have := k1.out; simp; omega
 have HI : Hid (IsL w (fun b => N <= b /\ b < w.heap.size) (T.mk 4 0 [] false 6 ch) A) := IsL.weak (fun k hk hq => ⟨hq, hk⟩) _ h
 clear h
 have KR := hid (fun W => Repeat_zero (2 * kind) (by have := k2.out; omega) W)
 have KS := hid (fun W => Sum_any kind k1.out k2.out (bldL (lastT ch (List.replicate (2 * kind) 0))) hbl W)
 obtain ⟨E, hE⟩ := buildV_bld (lastT ch (List.replicate (2 * kind) 0))
 have HV := hid hE; clear hE
 have hTk : (lastT ch (List.replicate (2 * kind) 0)) = T.mk 4 0 [] false 6 (fun i => if i = 5 then strT (List.replicate (2 * kind) 0) else ch i) := rfl
 have HT := hid hTk; clear hTk
 generalize bldL (lastT ch (List.replicate (2 * kind) 0)) = B at *
 have HU : Hid (lastT ch (Crc.sumL kind B) = T.mk 4 0 [] false 6 (fun i => if i = 5 then strT (Crc.sumL kind B) else if i = 5 then strT (List.replicate (2 * kind) 0) else ch i)) := by
  unfold Hid lastT
  congr 1
  funext i
  split <;> rfl
 generalize lastT ch (Crc.sumL kind B) = U at *
 generalize lastT ch (List.replicate (2 * kind) 0) = Y at *
 generalize List.replicate (2 * kind) (0 : UInt8) = Z at *
 generalize Crc.sumL kind B = S at *
 have HE := hid (((Mod.refl [] w).alloc (.cells #[.int .i64 4, .int .u64 0, str [], .slice A 6 c, .bool false] 86)).alloc (.cells #[.int .i64 0, .int .u64 0, .string ⟨#[]⟩, .slice none 0 0, .bool false] 86))
 have HR : Hid (Blk ((w.alloc (.cells #[.int .i64 4, .int .u64 0, str [], .slice A 6 c, .bool false] 86)).alloc (.cells #[.int .i64 0, .int .u64 0, .string ⟨#[]⟩, .slice none 0 0, .bool false] 86)) (w.heap.size + 1) 86 (itemC (numT 0) none 0)) := by
  have := Blk.new (w.alloc (.cells #[.int .i64 4, .int .u64 0, str [], .slice A 6 c, .bool false] 86)) 86 (itemC (numT 0) none 0)
  unfold Hid
  simpa [itemC, numT, T.kind, T.n, T.s, T.k, T.op] using this
 go_enter Tryz.func152, Tryz.ntmps152
 go_wp2_with fail
 refine (CloneI_any ch 6 (by unfold Hid; omega) A c _ (HI.out.ext HE.out)).mono ?_
 rintro e w1 ⟨g, c', ac, rfl, hb1, hg1, hlt1, hown1, hk1⟩
 have HE1 := hid (HE.out.trans hb1)
 have HR1 := hid (HR.out.ext hb1)
 have HO1 := hid hown1
 have HK1 := hid hk1
 have HG : Hid (w.heap.size + 2 <= g) := by unfold Hid; simpa using hg1
 have HL1 := hid hlt1
 clear hb1 hg1 hlt1 hown1 hk1 HE HR HI
 go_wp2_with fail
 refine (Size_any kind k2.out _).mono ?_
 rintro e w2 ⟨rfl, hb2⟩
 have HE2 := hid (HE1.out.trans hb2)
 have HR2 := hid (HR1.out.ext hb2)
 have HO2 := hid (ownsRow_mod HO1.out hb2 (by simp))
 have HK2 : Hid (∀ i, i < 6 -> IsL w2 (fun b => N <= b /\ b < w.heap.size) (ch i) (ac i).1) := fun i hi => (HK1.out i hi).ext hb2
 have HL2 := hid (Nat.lt_of_lt_of_le HL1.out hb2.size)
 clear hb2 HE1 HR1 HO1 HK1 HL1
 go_wp2_with fail
 refine (KR.out _).mono ?_
 rintro e w3 ⟨rfl, hb3⟩
 have HE3 := hid (HE2.out.trans hb3)
 have HR3 := hid (HR2.out.ext hb3)
 have HO3 := hid (ownsRow_mod HO2.out hb3 (by simp))
 have HK3 : Hid (∀ i, i < 6 -> IsL w3 (fun b => N <= b /\ b < w.heap.size) (ch i) (ac i).1) := fun i hi => (HK2.out i hi).ext hb3
 have HL3 := hid (Nat.lt_of_lt_of_le HL2.out hb3.size)
 clear hb3 HE2 HR2 HO2 HK2 HL2
 go_wp2_with fail
 refine (StrV_any _ _).mono ?_
 rintro e w4 ⟨rfl, hb4⟩
 have HE4 := hid (HE3.out.trans hb4)
 have HR4 := hid (HR3.out.ext hb4)
 have HO4 := hid (ownsRow_mod HO3.out hb4 (by simp))
 have HK4 : Hid (∀ i, i < 6 -> IsL w4 (fun b => N <= b /\ b < w.heap.size) (ch i) (ac i).1) := fun i hi => (HK3.out i hi).ext hb4
 have HL4 := hid (Nat.lt_of_lt_of_le HL3.out hb4.size)
 clear hb4 HE3 HR3 HO3 HK3 HL3
 obtain ⟨x0, x1, x2, x3, x4⟩ := flatC_get ch ac 6 5 (by omega)
 have y0 := own_cells HO4.out x0
 have y1 := own_cells HO4.out x1
 have y2 := own_cells HO4.out x2
 have y3 := own_cells HO4.out x3
 have y4 := own_cells HO4.out x4
 clear x0 x1 x2 x3 x4
 have z0 := HO4.out.frozenAt 25
 have z1 := HO4.out.frozenAt 26
 have z2 := HO4.out.frozenAt 27
 have z3 := HO4.out.frozenAt 28
 have z4 := HO4.out.frozenAt 29
 go_wp2_with fail
 clear y0 y1 y2 y3 y4 z0 z1 z2 z3 z4
 have HO5 := hid (own_last (n := 5) (strT Z) none 0 HO4.out)
 have HM5 := hid (((((((Mod.refl [g] w4).setCell (p := ⟨g, 25, none⟩) (.inl (by simp)) (.int .i64 2)).setCell (p := ⟨g, 26, none⟩) (.inl (by simp)) (.int .u64 0)).setCell (p := ⟨g, 27, none⟩) (.inl (by simp)) (str Z)).setCell (p := ⟨g, 28, none⟩) (.inl (by simp)) (.slice none 0 0)).setCell (p := ⟨g, 29, none⟩) (.inl (by simp)) (.bool false)))
 have HE5 := hid (((((HE4.out.setCell (p := ⟨g, 25, none⟩) (.inr (by have := HG.out; show w.heap.size <= g; omega)) (.int .i64 2)).setCell (p := ⟨g, 26, none⟩) (.inr (by have := HG.out; show w.heap.size <= g; omega)) (.int .u64 0)).setCell (p := ⟨g, 27, none⟩) (.inr (by have := HG.out; show w.heap.size <= g; omega)) (str Z)).setCell (p := ⟨g, 28, none⟩) (.inr (by have := HG.out; show w.heap.size <= g; omega)) (.slice none 0 0)).setCell (p := ⟨g, 29, none⟩) (.inr (by have := HG.out; show w.heap.size <= g; omega)) (.bool false))
 change Hid (World.ownsRow (((((w4.setCell ⟨g, 25, none⟩ (.int .i64 2)).setCell ⟨g, 26, none⟩ (.int .u64 0)).setCell ⟨g, 27, none⟩ (str Z)).setCell ⟨g, 28, none⟩ (.slice none 0 0)).setCell ⟨g, 29, none⟩ (.bool false)) _ _ _ _ _ _) at HO5
 change Hid (Mod [g] w4 (((((w4.setCell ⟨g, 25, none⟩ (.int .i64 2)).setCell ⟨g, 26, none⟩ (.int .u64 0)).setCell ⟨g, 27, none⟩ (str Z)).setCell ⟨g, 28, none⟩ (.slice none 0 0)).setCell ⟨g, 29, none⟩ (.bool false))) at HM5
 change Hid (Mod [] w (((((w4.setCell ⟨g, 25, none⟩ (.int .i64 2)).setCell ⟨g, 26, none⟩ (.int .u64 0)).setCell ⟨g, 27, none⟩ (str Z)).setCell ⟨g, 28, none⟩ (.slice none 0 0)).setCell ⟨g, 29, none⟩ (.bool false))) at HE5
 generalize (((((w4.setCell ⟨g, 25, none⟩ (.int .i64 2)).setCell ⟨g, 26, none⟩ (.int .u64 0)).setCell ⟨g, 27, none⟩ (str Z)).setCell ⟨g, 28, none⟩ (.slice none 0 0)).setCell ⟨g, 29, none⟩ (.bool false)) = w5 at *
 have HR5 := hid (HR4.out.mod HM5.out (by have := HG.out; simp; omega))
 have HK5 := hid (lastK HM5.out (fun b hb => by have := HG.out; omega) HK4.out Z)
 have HL5 := hid (Nat.lt_of_lt_of_le HL4.out HM5.out.size)
 clear HE4 HR4 HO4 HK4 HL4 HM5
 generalize hch : (fun i => if i = 5 then strT Z else ch i) = ch5 at *
 generalize hac : (fun i => if i = 5 then ((none : Option Addr), 0) else ac i) = ac5 at *
 have Hch5 := hid hch; clear hch; clear hac
 refine (ListV_any 6 _ c' _).mono ?_
 rintro e w6 ⟨rfl, hb6⟩
 have HE6 := hid (HE5.out.trans hb6)
 have HR6 := hid (HR5.out.ext hb6)
 have HO6 := hid (ownsRow_mod HO5.out hb6 (by simp))
 have HK6 : Hid (∀ i, i < 6 -> IsL w6 (fun b => N <= b /\ b < w.heap.size) (ch5 i) (ac5 i).1) := fun i hi => (HK5.out i hi).ext hb6
 have HL6 := hid (Nat.lt_of_lt_of_le HL5.out hb6.size)
 clear hb6 HE5 HR5 HO5 HK5 HL5
 have HY : Hid (Y = T.mk 4 0 [] false 6 ch5) := HT.out
 have HIY : Hid (IsL w6 (fun _ => True) Y (some ⟨g, 0, none⟩)) := by
  rw [HY.out]
  exact own_IsL HL6.out trivial HO6.out (fun i hi => IsL.weak (fun _ _ _ => trivial) _ (HK6.out i hi))
 have HBY : Hid (∀ W, IsL W (fun _ => True) Y (some ⟨g, 0, none⟩) -> Calls Tryz.prog 70 #[.agg #[.int .i64 4, .int .u64 0, str [], .slice (some ⟨g, 0, none⟩) 6 c', .bool false]] W (Ret (.tuple #[str B, .int .i64 E]) W)) := fun W hW => by
  have := iBuild_any Y hok.out.1 hok.out.2 (some ⟨g, 0, none⟩) c' W hW
  rw [HV.out, HY.out] at this
  exact this
 go_wp2_with fail
 refine (HBY.out _ HIY.out).mono ?_
 rintro e w7 ⟨rfl, hb7⟩
 have HE7 := hid (HE6.out.trans hb7)
 have HR7 := hid (HR6.out.ext hb7)
 have HO7 := hid (ownsRow_mod HO6.out hb7 (by simp))
 have HK7 : Hid (∀ i, i < 6 -> IsL w7 (fun b => N <= b /\ b < w.heap.size) (ch5 i) (ac5 i).1) := fun i hi => (HK6.out i hi).ext hb7
 have HL7 := hid (Nat.lt_of_lt_of_le HL6.out hb7.size)
 clear hb7 HE6 HR6 HO6 HK6 HL6
 clear HIY HBY HV
 go_wp2_with fail
 refine (KS.out _).mono ?_
 rintro e w8 ⟨rfl, hb8⟩
 have HE8 := hid (HE7.out.trans hb8)
 have HR8 := hid (HR7.out.ext hb8)
 have HO8 := hid (ownsRow_mod HO7.out hb8 (by simp))
 have HK8 : Hid (∀ i, i < 6 -> IsL w8 (fun b => N <= b /\ b < w.heap.size) (ch5 i) (ac5 i).1) := fun i hi => (HK7.out i hi).ext hb8
 have HL8 := hid (Nat.lt_of_lt_of_le HL7.out hb8.size)
 clear hb8 HE7 HR7 HO7 HK7 HL7
 go_wp2_with fail
 refine (StrV_any _ _).mono ?_
 rintro e w9 ⟨rfl, hb9⟩
 have HE9 := hid (HE8.out.trans hb9)
 have HR9 := hid (HR8.out.ext hb9)
 have HO9 := hid (ownsRow_mod HO8.out hb9 (by simp))
 have HK9 : Hid (∀ i, i < 6 -> IsL w9 (fun b => N <= b /\ b < w.heap.size) (ch5 i) (ac5 i).1) := fun i hi => (HK8.out i hi).ext hb9
 have HL9 := hid (Nat.lt_of_lt_of_le HL8.out hb9.size)
 clear hb9 HE8 HR8 HO8 HK8 HL8
 obtain ⟨x0, x1, x2, x3, x4⟩ := flatC_get ch5 ac5 6 5 (by omega)
 have y0 := own_cells HO9.out x0
 have y1 := own_cells HO9.out x1
 have y2 := own_cells HO9.out x2
 have y3 := own_cells HO9.out x3
 have y4 := own_cells HO9.out x4
 clear x0 x1 x2 x3 x4
 have z0 := HO9.out.frozenAt 25
 have z1 := HO9.out.frozenAt 26
 have z2 := HO9.out.frozenAt 27
 have z3 := HO9.out.frozenAt 28
 have z4 := HO9.out.frozenAt 29
 go_wp2_with fail
 clear y0 y1 y2 y3 y4 z0 z1 z2 z3 z4
 have HO10 := hid (own_last (n := 5) (strT S) none 0 HO9.out)
 have HM10 := hid (((((((Mod.refl [g] w9).setCell (p := ⟨g, 25, none⟩) (.inl (by simp)) (.int .i64 2)).setCell (p := ⟨g, 26, none⟩) (.inl (by simp)) (.int .u64 0)).setCell (p := ⟨g, 27, none⟩) (.inl (by simp)) (str S)).setCell (p := ⟨g, 28, none⟩) (.inl (by simp)) (.slice none 0 0)).setCell (p := ⟨g, 29, none⟩) (.inl (by simp)) (.bool false)))
 have HE10 := hid (((((HE9.out.setCell (p := ⟨g, 25, none⟩) (.inr (by have := HG.out; show w.heap.size <= g; omega)) (.int .i64 2)).setCell (p := ⟨g, 26, none⟩) (.inr (by have := HG.out; show w.heap.size <= g; omega)) (.int .u64 0)).setCell (p := ⟨g, 27, none⟩) (.inr (by have := HG.out; show w.heap.size <= g; omega)) (str S)).setCell (p := ⟨g, 28, none⟩) (.inr (by have := HG.out; show w.heap.size <= g; omega)) (.slice none 0 0)).setCell (p := ⟨g, 29, none⟩) (.inr (by have := HG.out; show w.heap.size <= g; omega)) (.bool false))
 change Hid (World.ownsRow (((((w9.setCell ⟨g, 25, none⟩ (.int .i64 2)).setCell ⟨g, 26, none⟩ (.int .u64 0)).setCell ⟨g, 27, none⟩ (str S)).setCell ⟨g, 28, none⟩ (.slice none 0 0)).setCell ⟨g, 29, none⟩ (.bool false)) _ _ _ _ _ _) at HO10
 change Hid (Mod [g] w9 (((((w9.setCell ⟨g, 25, none⟩ (.int .i64 2)).setCell ⟨g, 26, none⟩ (.int .u64 0)).setCell ⟨g, 27, none⟩ (str S)).setCell ⟨g, 28, none⟩ (.slice none 0 0)).setCell ⟨g, 29, none⟩ (.bool false))) at HM10
 change Hid (Mod [] w (((((w9.setCell ⟨g, 25, none⟩ (.int .i64 2)).setCell ⟨g, 26, none⟩ (.int .u64 0)).setCell ⟨g, 27, none⟩ (str S)).setCell ⟨g, 28, none⟩ (.slice none 0 0)).setCell ⟨g, 29, none⟩ (.bool false))) at HE10
 generalize (((((w9.setCell ⟨g, 25, none⟩ (.int .i64 2)).setCell ⟨g, 26, none⟩ (.int .u64 0)).setCell ⟨g, 27, none⟩ (str S)).setCell ⟨g, 28, none⟩ (.slice none 0 0)).setCell ⟨g, 29, none⟩ (.bool false)) = w10 at *
 have HR10 := hid (HR9.out.mod HM10.out (by have := HG.out; simp; omega))
 have HK10 := hid (lastK HM10.out (fun b hb => by have := HG.out; omega) HK9.out S)
 have HL10 := hid (Nat.lt_of_lt_of_le HL9.out HM10.out.size)
 clear HE9 HR9 HO9 HK9 HL9 HM10
 generalize hch : (fun i => if i = 5 then strT S else ch5 i) = ch10 at *
 generalize hac : (fun i => if i = 5 then ((none : Option Addr), 0) else ac5 i) = ac10 at *
 have Hch10 := hid hch; clear hch; clear hac
 refine (ListV_any 6 _ c' _).mono ?_
 rintro e w11 ⟨rfl, hb11⟩
 have HE11 := hid (HE10.out.trans hb11)
 have HR11 := hid (HR10.out.ext hb11)
 have HO11 := hid (ownsRow_mod HO10.out hb11 (by simp))
 have HK11 : Hid (∀ i, i < 6 -> IsL w11 (fun b => N <= b /\ b < w.heap.size) (ch10 i) (ac10 i).1) := fun i hi => (HK10.out i hi).ext hb11
 have HL11 := hid (Nat.lt_of_lt_of_le HL10.out hb11.size)
 clear hb11 HE10 HR10 HO10 HK10 HL10
 have HU2 : U = T.mk 4 0 [] false 6 ch10 := by rw [HU.out, <- Hch10.out, <- Hch5.out]
 have HIU : Hid (IsL w11 (fun b => b ≠ w.heap.size + 1 /\ N <= b) U (some ⟨g, 0, none⟩)) := by
  rw [HU2]
  exact own_IsL HL11.out (by have := HG.out; have := hN.out; omega) HO11.out (fun i hi => IsL.weak (fun k _ hq => ⟨by omega, hq.1⟩) _ (HK11.out i hi))
 obtain ⟨c0, c1, c2, c3, c4⟩ := cells5 HR11.out
 have f0 := Blk.frozen HR11.out 0
 have f1 := Blk.frozen HR11.out 1
 have f2 := Blk.frozen HR11.out 2
 have f3 := Blk.frozen HR11.out 3
 have f4 := Blk.frozen HR11.out 4
 go_wp2_with fail
 obtain ⟨d0, d1, d2, d3, d4⟩ := cells5 (set5_blk (t := T.mk 4 0 [] false 6 ch10) (A := some ⟨g, 0, none⟩) (c := c') HR11.out)
 clear c0 c1 c2 c3 c4 f0 f1 f2 f3 f4
 show bodyPost _ _ _ _ _ (set5 w11 (w.heap.size + 1) (T.mk 4 0 [] false 6 ch10) (some ⟨g, 0, none⟩) c')
 refine bodyPost_ret (v := itemV (T.mk 4 0 [] false 6 ch10) (some ⟨g, 0, none⟩) c') (by simp [results, Tryz.results152, go_sem, d0, d1, d2, d3, d4]) rfl ?_
 refine ⟨some ⟨g, 0, none⟩, c', by rw [HU2], set5_mod HE11.out (by omega), ?_⟩
 refine IsL.weak (fun _ _ h => h.2) _ (IsL.mod (Q := fun b => b ≠ w.heap.size + 1 /\ N <= b) set5_modb (fun k hq hk hm => by rw [List.mem_singleton] at hm; exact hq.1 hm) _ HIU.out)
theorem blkT_last {ty num fl crc : Nat} {data s t : List UInt8} (hc : ¬ crc = 0) (ch : Nat -> T) (hch : blkT ty num fl crc data s = T.mk 4 0 [] false 6 ch) : lastT ch t = blkT ty num fl crc data t := by
 unfold blkT at hch ⊢
 rw [if_neg hc] at hch ⊢
 have h := (T.mk.inj hch).2.2.2.2.2
 subst h
 unfold lastT
 congr 1
 funext i
 by_cases e : i = 5
 . subst e; simp
 . simp [e]
theorem blkT_right {ty num fl crc : Nat} {data s : List UInt8} (d : Nat) (hd : 2 <= d) : (blkT ty num fl crc data s).right d = true := by
 unfold blkT T.right
 rw [if_neg (by omega)]
 simp only [Bool.and_eq_true]
 constructor
 . split <;> rfl
 .
  rw [T.all_iff]
  intro i hi
  have hi6 : i < 6 := by split at hi <;> omega
  have hd1 : ¬ d - 1 < 1 := by omega
  have h6 : i = 0 \/ i = 1 \/ i = 2 \/ i = 3 \/ i = 4 \/ i = 5 := by omega
  rcases h6 with rfl | rfl | rfl | rfl | rfl | rfl <;> simp [numT, strT, T.right, hd1, T.node, T.all]
theorem sum_le {f : Nat -> Nat} {B : Nat} (h : ∀ i, f i <= B) : ∀ k, T.sum f k <= k * B
 | 0 => by simp [T.sum]
 | k + 1 => by have := sum_le h k; have := h k; rw [T.sum, Nat.succ_mul]; omega
theorem blkT_size {ty num fl crc : Nat} {data s : List UInt8} (h5 : data.length <= 4000) (h6 : s.length <= 4000) : (blkT ty num fl crc data s).size <= 100000 := by
 have hs : ∀ k, k <= 6 -> ∀ f : Nat -> Nat, (∀ i, f i <= 4001) -> 1 + ([] : List UInt8).length + T.sum f k <= 100000 := fun k hk f hf => by
  have := sum_le hf k
  have : k * 4001 <= 6 * 4001 := Nat.mul_le_mul_right _ hk
  simp
  omega
 unfold blkT T.size
 refine hs _ (by split <;> omega) _ (fun i => ?_)
 dsimp only
 split
 . simp [numT, T.size, T.sum]
 .
  split
  . simp [numT, T.size, T.sum]
  .
   split
   . simp [numT, T.size, T.sum]
   .
    split
    . simp [numT, T.size, T.sum]
    .
     split
     . simp [strT, T.size, T.sum]; omega
     .
      split
      . simp [strT, T.size, T.sum]; omega
      . simp [T.size]
def blkB (ty num fl crc : Nat) (data sum : List UInt8) : List UInt8 :=
 headL 4 (if crc = 0 then 5 else 6) ++ headL 0 ty ++ headL 0 num ++ headL 0 fl ++ headL 0 crc ++ (headL 2 data.length ++ data) ++ (if crc = 0 then [] else headL 2 sum.length ++ sum)
theorem blkT_bytes (ty num fl crc : Nat) (data sum : List UInt8) : (blkT ty num fl crc data sum).bytes = blkB ty num fl crc data sum := by
 unfold blkT blkB
 by_cases hc : crc = 0
 .
  subst hc
  simp [T.bytes, T.cat, numT, strT]
 . simp [hc, T.bytes, T.cat, numT, strT]
theorem blkB_length {ty num fl crc : Nat} {data sum : List UInt8} (h5 : data.length <= 4000) (h6 : sum.length <= 4000) : (blkB ty num fl crc data sum).length < 1000000 := by
 have a1 := headL_le 4 5
 have a0 := headL_le 4 6
 have a2 := headL_le 0 ty
 have a3 := headL_le 0 num
 have a4 := headL_le 0 fl
 have a5 := headL_le 0 crc
 have a6 := headL_le 2 data.length
 have a7 := headL_le 2 sum.length
 unfold blkB
 simp only [List.length_append]
 split <;> simp <;> omega
def sumB (ty num fl crc : Nat) (data : List UInt8) : List UInt8 := if crc = 0 then [] else Crc.sumL crc (blkB ty num fl crc data (List.replicate (2 * crc) 0))
def finT (ty num fl crc : Nat) (data : List UInt8) : T := blkT ty num fl crc data (sumB ty num fl crc data)
theorem sumB_length {ty num fl crc : Nat} {data : List UInt8} (hc : crc <= 2) : (sumB ty num fl crc data).length = 2 * crc := by
 unfold sumB
 split
 . subst crc; rfl
 . exact Crc.sumL_length (by omega) hc _
theorem sumOf {ty num fl crc : Nat} {data : List UInt8} (h1 : ty <= 65535) (h2 : num <= 65535) (h3 : fl <= 255) (h4 : crc <= 2) (h5 : data.length <= 4000) :
  Hid (∀ N A c W, N <= W.heap.size -> IsL W (fun b => N <= b) (blkT ty num fl crc data []) A -> Calls Tryz.prog 152 #[.int .i64 (crc : Int), itemV (blkT ty num fl crc data []) A c] W (fun e w' => ∃ A c, e = .returned (itemV (finT ty num fl crc data) A c) /\ Ext W w' /\ IsL w' (fun b => N <= b) (finT ty num fl crc data) A)) := by
 intro N A c W hN hI
 by_cases hc : crc = 0
 .
  subst hc
  exact (summed_0 _ A c W).mono fun e w' ⟨he, hb⟩ => ⟨A, c, he, hb, hI.ext hb⟩
 .
  obtain ⟨ch, hch⟩ : ∃ ch, blkT ty num fl crc data [] = T.mk 4 0 [] false 6 ch := ⟨_, by unfold blkT; rw [if_neg hc]⟩
  have hl : ∀ t, lastT ch t = blkT ty num fl crc data t := fun t => blkT_last hc ch hch
  have hZ : (List.replicate (2 * crc) (0 : UInt8)).length <= 4000 := by simp; omega
  have hB : bldL (lastT ch (List.replicate (2 * crc) 0)) = blkB ty num fl crc data (List.replicate (2 * crc) 0) := by
   rw [hl, bldL, blkT_right 8 (by omega), if_pos rfl, blkT_bytes]
  have h := summed_any ch crc (by unfold Hid; omega) h4 (by rw [hl]; exact ⟨blkT_ok h1 h2 h3 h4 h5 hZ, blkT_size h5 hZ⟩) (by rw [hB]; exact blkB_length h5 hZ) N A c W hN (by rw [hch] at hI; exact hI)
  rw [hB, hl] at h
  have he : finT ty num fl crc data = blkT ty num fl crc data (Crc.sumL crc (blkB ty num fl crc data (List.replicate (2 * crc) 0))) := by unfold finT sumB; rw [if_neg hc]
  rw [<- he] at h
  rw [hch]
  exact h
theorem finV {ty num fl crc : Nat} {data : List UInt8} : buildV (finT ty num fl crc data) = .tuple #[str (blkB ty num fl crc data (sumB ty num fl crc data)), .int .i64 0] := by
 unfold buildV finT
 rw [blkT_right 8 (by omega), if_pos rfl, blkT_bytes]
theorem Build_any (ty num fl crc : Nat) (data : List UInt8) (hb : BV.right ⟨ty, num, fl, crc, data⟩ = 0) (w : World) : Calls Tryz.prog 114 #[BV.v ⟨ty, num, fl, crc, data⟩] w (Ret (.tuple #[str (blkB ty num fl crc data (sumB ty num fl crc data)), .int .i64 0]) w) := by
 have h := BV.right_zero hb
 simp only [] at h
 have hs := sumB_length (ty := ty) (num := num) (fl := fl) (data := data) (show crc <= 2 by omega)
 rw [<- finV]
 exact Build_ok ty num fl crc data hb (finT ty num fl crc data) (blkT_ok (by omega) (by omega) (by omega) (by omega) (by omega) (by omega)) (blkT_size (by omega) (by omega)) (sumOf (by omega) (by omega) (by omega) (by omega) (by omega)) w
set_option maxRecDepth 20000 in
set_option maxHeartbeats 1600000 in
theorem Lived_none (w : World) : Calls Tryz.prog 15 #[.agg #[.int .u64 0, .int .i64 0, .int .i64 0, str [], .int .u64 0, .int .u64 0, .int .i64 0, str [], .int .u64 0, .int .u64 0, .int .i64 0, str [], .int .u64 0, .int .u64 0, .int .u64 0, .int .u64 0, .int .u64 0, .int .u64 0, .int .u64 0, .slice none 0 0], .int .u64 5] w (Ret (.int .u64 5) w) := by
 have HB := hid (Blk.new w 29 #[.int .u64 0, .int .i64 0, .int .i64 0, str [], .int .u64 0, .int .u64 0, .int .i64 0, str [], .int .u64 0, .int .u64 0, .int .i64 0, str [], .int .u64 0, .int .u64 0, .int .u64 0, .int .u64 0, .int .u64 0, .int .u64 0, .int .u64 0, .slice none 0 0])
 have HE := hid ((Mod.refl [] w).alloc (.cells #[.int .u64 0, .int .i64 0, .int .i64 0, str [], .int .u64 0, .int .u64 0, .int .i64 0, str [], .int .u64 0, .int .u64 0, .int .i64 0, str [], .int .u64 0, .int .u64 0, .int .u64 0, .int .u64 0, .int .u64 0, .int .u64 0, .int .u64 0, .slice none 0 0] 29))
 go_enter Tryz.func15, Tryz.ntmps15
 go_wp2_with (refine wpList_row (by rfl) 29 _ rfl _ rfl HB.out vqA rfl (by kernel_rfl) ?_)
 refine (Find_none _).mono ?_
 rintro e w1 ⟨rfl, hb1⟩
 have HE1 := hid (HE.out.trans hb1)
 have c14 : (w1.alloc (.cells #[.int .i64 0, .int .i64 0, .int .u64 0, .int .i64 0, .string ⟨#[]⟩] 38)).cell? ⟨w.heap.size, 14, none⟩ = some (.int .u64 0) := ((HB.out.ext hb1).alloc _).cell 14
 clear hb1
 go_wp2_with fail
 go_ret
 exact Ret.mk rfl (HE1.out.alloc _)
set_option maxRecDepth 20000 in
set_option maxHeartbeats 1600000 in
theorem awake14_any (w : World) : Calls Tryz.prog 5 #[] w (Ret (.bool true) w) := by
 have K : Hid (∀ W, Calls Tryz.prog 16 #[.int .i64 30, .int .i64 0] W (Ret (.tuple #[str [130, 24, 30, 0], .int .i64 0]) W)) := fun W => Hops_yes 30 0 (by decide) W
 go_enter Tryz.func5, Tryz.ntmps5
 go_wp2_with fail
 refine (K.out _).mono ?_
 rintro e w1 ⟨rfl, hb1⟩
 go_wp2_with fail
 refine (Lived_none _).mono ?_
 rintro e w2 ⟨rfl, hb2⟩
 go_wp2_with fail
 go_ret
 exact Ret.mk rfl (hb1.trans hb2)
theorem rd_i' {j : Nat} (h : j < 1000) : wrap64 ((j : Int) + 1 + 1) = ((j + 1 : Nat) : Int) + 1 := by rw [IntWalk.wrap64_in _ (by omega)]; omega
theorem rd_i {j : Nat} (h : j < 1000) : Value.int .i64 (wrap64 ((j : Int) + 1 + 1)) = .int .i64 (((j + 1 : Nat) : Int) + 1) := by rw [rd_i' h]
theorem slice_to1 (c : UInt8) (l : List UInt8) (j : Nat) (h : j <= l.length) (w : World) :
  (Instr.slice 9 (str (c :: l)) none (some (.int .i64 ((j : Int) + 1))) none).run Tryz.prog w = .ok (str ((c :: l).take (j + 1))) w := by
 have hex : Value.string ((⟨(c :: l).toArray⟩ : ByteArray).extract 0 (j + 1)) = str ((c :: l).take (j + 1)) := by rw [extract_str]; rfl
 have hle : (j : Int) + 1 <= (l.length : Int) + 1 := by omega
 have hl0 : (0 : Int) <= (j : Int) + 1 := by omega
 generalize hT : (c :: l).take (j + 1) = tk at *
 have HT := hid hT; clear hT
 go_simp
theorem rd_n {c : UInt8} {l : List UInt8} {j q : Nat} (hj : j < l.length) (h8 : j < 8) (hq : fromBE (l.take j) = q) {h : j + 1 < (⟨(c :: l).toArray⟩ : ByteArray).size} :
  Value.int .u64 (IntKind.u64.wrap (IntKind.u64.wrap ((q : Int) * 256) + IntKind.u64.wrap (((⟨(c :: l).toArray⟩ : ByteArray)[j + 1].toNat : Nat) : Int))) = .int .u64 ((fromBE (l.take (j + 1)) : Nat) : Int) := by
 have e : (⟨(c :: l).toArray⟩ : ByteArray)[j + 1] = l[j] := rfl
 rw [e, List.take_succ_eq_append_getElem hj, fromBE_snoc, hq]
 have hlt := fromBE_lt (l.take j)
 have hle : (l.take j).length <= 7 := by rw [List.length_take]; omega
 have hp : 2 ^ (8 * (l.take j).length) <= 2 ^ (8 * 7) := Nat.pow_le_pow_right (by omega) (by omega)
 have h3 := Nat.lt_of_lt_of_le hlt hp
 rw [hq] at h3
 have hx := l[j].toNat_lt
 rw [IntWalk.u64_in ((q : Int) * 256) (by omega), IntWalk.u64_in ((l[j].toNat : Nat) : Int) (by omega), IntWalk.u64_in _ (by omega)]
 rfl
set_option maxRecDepth 20000 in
set_option maxHeartbeats 400000 in
theorem read_good (c : UInt8) (l : List UInt8) (m k : Nat) (hmm : Hid (c.toNat / 32 = m)) (hkk : Hid (c.toNat % 32 = k)) (S : Nat) (hk : Hid (24 <= k /\ k < 28)) (hz : Hid (sz4 k = S)) (hS : Hid (1 <= S /\ S <= 8)) (n : Nat) (hn : Hid (fromBE (l.take S) = n)) (hs : Hid (S <= l.length)) (hcmp : Hid (headL m n = (c :: l).take (S + 1))) (w : World) : Calls Tryz.prog 52 #[str (c :: l)] w (Ret (gotV (S + 1) m n false) w) := by
 have hlen : (0 : Int) < (l.length : Int) + 1 := by omega
 go_enter Tryz.func52, Tryz.ntmps52
 go_upto_region 3 with fail
 go_cut [3, 4] (fun s6 s7 wx => s6 = .int .i64 (m : Int) /\ s7 = .int .i64 (k : Int) /\ ∃ n, wx = (w.alloc (.cells #[.int .i64 0, .int .i64 0, .int .u64 0, .bool false] 96)).drewN n)
 case first =>
  go_quiet (fail)
  go_wp2_with fail
  go_meet
  exact ⟨first_div' c l _ hmm, first_mod' c l _ hkk, _, rfl⟩
 obtain ⟨rfl, rfl, nw, rfl⟩ := hcut
 have hk32 : Hid (k <= 31) := by have := hkk.out; unfold Hid; omega
 have t1 : decide ((k : Int) < 24) = false := by have h1 := hk.out; have h2 := hk32.out; simp; omega
 have te : ((k : Int) == 31) = false := by have h1 := hk.out; simp; omega
 go_upto_region 8 with fail
 go_cut [5] (fun s wx => s = .int .i64 0 /\ ∃ n, wx = (w.alloc (.cells #[.int .i64 0, .int .i64 0, .int .u64 0, .bool false] 96)).drewN n)
 case first => go_wp2_with fail; go_meet; exact ⟨rfl, _, rfl⟩
 obtain ⟨rfl, nx, rfl⟩ := hcut
 go_step
 go_step
 go_cut [5] (fun s wx => s = .int .i64 ((sz1 k : Nat) : Int) /\ ∃ n, wx = (w.alloc (.cells #[.int .i64 0, .int .i64 0, .int .u64 0, .bool false] 96)).drewN n)
 case first =>
  by_cases hv : k = 24
  .
   have tv : ((k : Int) == 24) = true := by simp; omega
   have HV := hid hv; clear hv
   go_wp2_with fail; go_meet
   exact ⟨by unfold sz1; rw [if_pos HV.out]; rfl, _, rfl⟩
  .
   have tv : ((k : Int) == 24) = false := by simp; omega
   have HV := hid hv; clear hv
   go_wp2_with fail; go_meet
   exact ⟨by unfold sz1; rw [if_neg HV.out]; rfl, _, rfl⟩
 obtain ⟨rfl, nx1, rfl⟩ := hcut
 go_step
 go_step
 go_cut [5] (fun s wx => s = .int .i64 ((sz2 k : Nat) : Int) /\ ∃ n, wx = (w.alloc (.cells #[.int .i64 0, .int .i64 0, .int .u64 0, .bool false] 96)).drewN n)
 case first =>
  by_cases hv : k = 25
  .
   have tv : ((k : Int) == 25) = true := by simp; omega
   have HV := hid hv; clear hv
   go_wp2_with fail; go_meet
   exact ⟨by unfold sz2; rw [if_pos HV.out]; rfl, _, rfl⟩
  .
   have tv : ((k : Int) == 25) = false := by simp; omega
   have HV := hid hv; clear hv
   go_wp2_with fail; go_meet
   exact ⟨by unfold sz2; rw [if_neg HV.out], _, rfl⟩
 obtain ⟨rfl, nx2, rfl⟩ := hcut
 go_step
 go_step
 go_cut [5] (fun s wx => s = .int .i64 ((sz3 k : Nat) : Int) /\ ∃ n, wx = (w.alloc (.cells #[.int .i64 0, .int .i64 0, .int .u64 0, .bool false] 96)).drewN n)
 case first =>
  by_cases hv : k = 26
  .
   have tv : ((k : Int) == 26) = true := by simp; omega
   have HV := hid hv; clear hv
   go_wp2_with fail; go_meet
   exact ⟨by unfold sz3; rw [if_pos HV.out]; rfl, _, rfl⟩
  .
   have tv : ((k : Int) == 26) = false := by simp; omega
   have HV := hid hv; clear hv
   go_wp2_with fail; go_meet
   exact ⟨by unfold sz3; rw [if_neg HV.out], _, rfl⟩
 obtain ⟨rfl, nx3, rfl⟩ := hcut
 go_step
 go_step
 go_cut [5] (fun s wx => s = .int .i64 ((sz4 k : Nat) : Int) /\ ∃ n, wx = (w.alloc (.cells #[.int .i64 0, .int .i64 0, .int .u64 0, .bool false] 96)).drewN n)
 case first =>
  by_cases hv : k = 27
  .
   have tv : ((k : Int) == 27) = true := by simp; omega
   have HV := hid hv; clear hv
   go_wp2_with fail; go_meet
   exact ⟨by unfold sz4; rw [if_pos HV.out]; rfl, _, rfl⟩
  .
   have tv : ((k : Int) == 27) = false := by simp; omega
   have HV := hid hv; clear hv
   go_wp2_with fail; go_meet
   exact ⟨by unfold sz4; rw [if_neg HV.out], _, rfl⟩
 obtain ⟨rfl, nx4, rfl⟩ := hcut
 rw [hz.out]
 have hw3 : wrap64 ((S : Int) + 1) = (S : Int) + 1 := IntWalk.wrap64_in _ (by have := hS.out; omega)
 have tz : ((S : Int) == 0) = false := by have := hS.out; simp; omega
 have ts : decide (l.length < S) = false := by have := hs.out; simp; omega
 go_wp2
 go_loop [6, 7] (fun x i => ∃ j : Nat, j <= S /\ i = .int .i64 ((j : Int) + 1) /\ x = .int .u64 ((fromBE (l.take j) : Nat) : Int)) (fun _ i => S + 1 - (intOf i).toNat)
 case atStart => exact ⟨0, Nat.zero_le _, rfl, rfl⟩
 case round =>
  obtain ⟨j, hj, rfl, rfl⟩ := hrel
  by_cases hlt : j < S
  .
   have hjl : j < l.length := by have := hs.out; omega
   generalize hq : fromBE (l.take j) = q
   have HQ := hid hq; clear hq
   have hb1 : (j : Int) + 1 < (l.length : Int) + 1 := by omega
   have hb2 : (0 : Int) <= (j : Int) + 1 := by omega
   have tj : decide ((j : Int) + 1 <= (S : Int)) = true := by simp; omega
   have HJ := hid hjl
   have HL := hid hlt
   clear hjl hlt hj
   go_wp2
   go_round
   case rel => exact ⟨j + 1, HL.out, rd_i (by have := HJ.out; have := hs.out; have := hS.out; have := HL.out; omega), rd_n HJ.out (by have := HL.out; have := hS.out; omega) HQ.out⟩
   case measure => rw [rd_i' (by have := HL.out; have := hS.out; omega)]; simp [intOf]; have := HL.out; omega
  .
   obtain rfl : j = S := by omega
   rw [hn.out]
   have hn64 : Hid (n < 18446744073709551616 /\ m <= 7) := by
    have h1 := fromBE_lt (l.take j)
    have h2 : (l.take j).length <= 8 := by have := hS.out; rw [List.length_take]; omega
    have h3 : 2 ^ (8 * (l.take j).length) <= 2 ^ (8 * 8) := Nat.pow_le_pow_right (by omega) (by omega)
    rw [hn.out] at h1
    have := c.toNat_lt
    have := hmm.out
    exact ⟨Nat.lt_of_lt_of_le h1 h3, by omega⟩
   clear hlt hj
   generalize hW : World.drewN (World.alloc w _) _ = W at *
   have hE : Ext w W := by rw [<- hW]; exact ((Mod.refl _ _).alloc _).drewN _
   have hB : Blk W w.heap.size 96 #[.int .i64 0, .int .i64 0, .int .u64 0, .bool false] := by rw [<- hW]; exact (Blk.new _ _ _).drewN _
   have HW := hid hW; clear hW
   have hex : Value.string ((⟨(c :: l).toArray⟩ : ByteArray).extract 0 (j + 1)) = str ((c :: l).take (j + 1)) := by rw [extract_str]; rfl
   have hsl := fun wx => slice_to1 c l j (by have := hs.out; omega) wx
   generalize hT : (c :: l).take (j + 1) = tk at *
   have HT := hid hT; clear hT
   have hc1 := hcmp.out
   have hle : (j : Int) + 1 <= (l.length : Int) + 1 := by have := hs.out; omega
   have hwi : IntKind.i64.wrap ((j : Int) + 1) = (j : Int) + 1 := IntWalk.i64_in _ (by have := hS.out; omega)
   clear hex hle
   go_upto_region 24 with fail
   go_cut [78] (fun s wx => s = .bool false /\ Ext W wx)
   case first =>
    go_region_with ((go_at_call 28; refine (rhead_in m n (by omega) (by have := hn64.out; omega) (by omega) (by have := hn64.out; omega) _).mono ?_; rintro x w3 ⟨rfl, hb3⟩; simp only [Int.toNat_natCast]))
    all_goals (go_wp2_with fail; go_meet)
    all_goals exact ⟨rfl, by first | exact (Mod.refl _ _).drew.trans hb3 | exact ((Mod.refl _ _).drew.trans hb3).drew⟩
   obtain ⟨rfl, hb⟩ := hcut
   have hB2 := hB.ext hb
   have g0 : wc.cell? ⟨w.heap.size, 0, none⟩ = some (.int .i64 0) := hB2.cell 0
   have g1 : wc.cell? ⟨w.heap.size, 1, none⟩ = some (.int .i64 0) := hB2.cell 1
   have g2 : wc.cell? ⟨w.heap.size, 2, none⟩ = some (.int .u64 0) := hB2.cell 2
   have g3 : wc.cell? ⟨w.heap.size, 3, none⟩ = some (.bool false) := hB2.cell 3
   have p0 := hB2.frozen 0
   have p1 := hB2.frozen 1
   have p2 := hB2.frozen 2
   have p3 := hB2.frozen 3
   go_wp2
   refine bodyPost_ret (v := gotV (j + 1) m n false) (by simp [results, Tryz.results52, go_sem, gotV, g0, g1, g2, g3]) rfl (Ret.mk rfl ?_)
   repeat (first | exact hE.trans hb | refine Mod.setCell ?_ (.inr (Nat.le_refl _)) _)
set_option maxRecDepth 20000 in
set_option maxHeartbeats 400000 in
theorem read_long (c : UInt8) (l : List UInt8) (m k : Nat) (hmm : Hid (c.toNat / 32 = m)) (hkk : Hid (c.toNat % 32 = k)) (S : Nat) (hk : Hid (24 <= k /\ k < 28)) (hz : Hid (sz4 k = S)) (hS : Hid (1 <= S /\ S <= 8)) (n : Nat) (hn : Hid (fromBE (l.take S) = n)) (hs : Hid (S <= l.length)) (hcmp : Hid (headL m n ≠ (c :: l).take (S + 1))) (w : World) : Calls Tryz.prog 52 #[str (c :: l)] w (Ret (gotV 0 0 0 false) w) := by
 have hlen : (0 : Int) < (l.length : Int) + 1 := by omega
 go_enter Tryz.func52, Tryz.ntmps52
 go_upto_region 3 with fail
 go_cut [3, 4] (fun s6 s7 wx => s6 = .int .i64 (m : Int) /\ s7 = .int .i64 (k : Int) /\ ∃ n, wx = (w.alloc (.cells #[.int .i64 0, .int .i64 0, .int .u64 0, .bool false] 96)).drewN n)
 case first =>
  go_quiet (fail)
  go_wp2_with fail
  go_meet
  exact ⟨first_div' c l _ hmm, first_mod' c l _ hkk, _, rfl⟩
 obtain ⟨rfl, rfl, nw, rfl⟩ := hcut
 have hk32 : Hid (k <= 31) := by have := hkk.out; unfold Hid; omega
 have t1 : decide ((k : Int) < 24) = false := by have h1 := hk.out; have h2 := hk32.out; simp; omega
 have te : ((k : Int) == 31) = false := by have h1 := hk.out; simp; omega
 go_upto_region 8 with fail
 go_cut [5] (fun s wx => s = .int .i64 0 /\ ∃ n, wx = (w.alloc (.cells #[.int .i64 0, .int .i64 0, .int .u64 0, .bool false] 96)).drewN n)
 case first => go_wp2_with fail; go_meet; exact ⟨rfl, _, rfl⟩
 obtain ⟨rfl, nx, rfl⟩ := hcut
 go_step
 go_step
 go_cut [5] (fun s wx => s = .int .i64 ((sz1 k : Nat) : Int) /\ ∃ n, wx = (w.alloc (.cells #[.int .i64 0, .int .i64 0, .int .u64 0, .bool false] 96)).drewN n)
 case first =>
  by_cases hv : k = 24
  .
   have tv : ((k : Int) == 24) = true := by simp; omega
   have HV := hid hv; clear hv
   go_wp2_with fail; go_meet
   exact ⟨by unfold sz1; rw [if_pos HV.out]; rfl, _, rfl⟩
  .
   have tv : ((k : Int) == 24) = false := by simp; omega
   have HV := hid hv; clear hv
   go_wp2_with fail; go_meet
   exact ⟨by unfold sz1; rw [if_neg HV.out]; rfl, _, rfl⟩
 obtain ⟨rfl, nx1, rfl⟩ := hcut
 go_step
 go_step
 go_cut [5] (fun s wx => s = .int .i64 ((sz2 k : Nat) : Int) /\ ∃ n, wx = (w.alloc (.cells #[.int .i64 0, .int .i64 0, .int .u64 0, .bool false] 96)).drewN n)
 case first =>
  by_cases hv : k = 25
  .
   have tv : ((k : Int) == 25) = true := by simp; omega
   have HV := hid hv; clear hv
   go_wp2_with fail; go_meet
   exact ⟨by unfold sz2; rw [if_pos HV.out]; rfl, _, rfl⟩
  .
   have tv : ((k : Int) == 25) = false := by simp; omega
   have HV := hid hv; clear hv
   go_wp2_with fail; go_meet
   exact ⟨by unfold sz2; rw [if_neg HV.out], _, rfl⟩
 obtain ⟨rfl, nx2, rfl⟩ := hcut
 go_step
 go_step
 go_cut [5] (fun s wx => s = .int .i64 ((sz3 k : Nat) : Int) /\ ∃ n, wx = (w.alloc (.cells #[.int .i64 0, .int .i64 0, .int .u64 0, .bool false] 96)).drewN n)
 case first =>
  by_cases hv : k = 26
  .
   have tv : ((k : Int) == 26) = true := by simp; omega
   have HV := hid hv; clear hv
   go_wp2_with fail; go_meet
   exact ⟨by unfold sz3; rw [if_pos HV.out]; rfl, _, rfl⟩
  .
   have tv : ((k : Int) == 26) = false := by simp; omega
   have HV := hid hv; clear hv
   go_wp2_with fail; go_meet
   exact ⟨by unfold sz3; rw [if_neg HV.out], _, rfl⟩
 obtain ⟨rfl, nx3, rfl⟩ := hcut
 go_step
 go_step
 go_cut [5] (fun s wx => s = .int .i64 ((sz4 k : Nat) : Int) /\ ∃ n, wx = (w.alloc (.cells #[.int .i64 0, .int .i64 0, .int .u64 0, .bool false] 96)).drewN n)
 case first =>
  by_cases hv : k = 27
  .
   have tv : ((k : Int) == 27) = true := by simp; omega
   have HV := hid hv; clear hv
   go_wp2_with fail; go_meet
   exact ⟨by unfold sz4; rw [if_pos HV.out]; rfl, _, rfl⟩
  .
   have tv : ((k : Int) == 27) = false := by simp; omega
   have HV := hid hv; clear hv
   go_wp2_with fail; go_meet
   exact ⟨by unfold sz4; rw [if_neg HV.out], _, rfl⟩
 obtain ⟨rfl, nx4, rfl⟩ := hcut
 rw [hz.out]
 have hw3 : wrap64 ((S : Int) + 1) = (S : Int) + 1 := IntWalk.wrap64_in _ (by have := hS.out; omega)
 have tz : ((S : Int) == 0) = false := by have := hS.out; simp; omega
 have ts : decide (l.length < S) = false := by have := hs.out; simp; omega
 go_wp2
 go_loop [6, 7] (fun x i => ∃ j : Nat, j <= S /\ i = .int .i64 ((j : Int) + 1) /\ x = .int .u64 ((fromBE (l.take j) : Nat) : Int)) (fun _ i => S + 1 - (intOf i).toNat)
 case atStart => exact ⟨0, Nat.zero_le _, rfl, rfl⟩
 case round =>
  obtain ⟨j, hj, rfl, rfl⟩ := hrel
  by_cases hlt : j < S
  .
   have hjl : j < l.length := by have := hs.out; omega
   generalize hq : fromBE (l.take j) = q
   have HQ := hid hq; clear hq
   have hb1 : (j : Int) + 1 < (l.length : Int) + 1 := by omega
   have hb2 : (0 : Int) <= (j : Int) + 1 := by omega
   have tj : decide ((j : Int) + 1 <= (S : Int)) = true := by simp; omega
   have HJ := hid hjl
   have HL := hid hlt
   clear hjl hlt hj
   go_wp2
   go_round
   case rel => exact ⟨j + 1, HL.out, rd_i (by have := HJ.out; have := hs.out; have := hS.out; have := HL.out; omega), rd_n HJ.out (by have := HL.out; have := hS.out; omega) HQ.out⟩
   case measure => rw [rd_i' (by have := HL.out; have := hS.out; omega)]; simp [intOf]; have := HL.out; omega
  .
   obtain rfl : j = S := by omega
   rw [hn.out]
   have hn64 : Hid (n < 18446744073709551616 /\ m <= 7) := by
    have h1 := fromBE_lt (l.take j)
    have h2 : (l.take j).length <= 8 := by have := hS.out; rw [List.length_take]; omega
    have h3 : 2 ^ (8 * (l.take j).length) <= 2 ^ (8 * 8) := Nat.pow_le_pow_right (by omega) (by omega)
    rw [hn.out] at h1
    have := c.toNat_lt
    have := hmm.out
    exact ⟨Nat.lt_of_lt_of_le h1 h3, by omega⟩
   clear hlt hj
   generalize hW : World.drewN (World.alloc w _) _ = W at *
   have hE : Ext w W := by rw [<- hW]; exact ((Mod.refl _ _).alloc _).drewN _
   have hB : Blk W w.heap.size 96 #[.int .i64 0, .int .i64 0, .int .u64 0, .bool false] := by rw [<- hW]; exact (Blk.new _ _ _).drewN _
   have HW := hid hW; clear hW
   have hex : Value.string ((⟨(c :: l).toArray⟩ : ByteArray).extract 0 (j + 1)) = str ((c :: l).take (j + 1)) := by rw [extract_str]; rfl
   have hsl := fun wx => slice_to1 c l j (by have := hs.out; omega) wx
   generalize hT : (c :: l).take (j + 1) = tk at *
   have HT := hid hT; clear hT
   have hc1 := hcmp.out
   have hc2 : (headL m n == tk) = false := by simp [hc1]
   have hle : (j : Int) + 1 <= (l.length : Int) + 1 := by have := hs.out; omega
   have hwi : IntKind.i64.wrap ((j : Int) + 1) = (j : Int) + 1 := IntWalk.i64_in _ (by have := hS.out; omega)
   clear hex hle
   go_upto_region 24 with fail
   go_cut [78] (fun s wx => s = .bool true /\ Ext W wx)
   case first =>
    go_region_with ((go_at_call 28; refine (rhead_in m n (by omega) (by have := hn64.out; omega) (by omega) (by have := hn64.out; omega) _).mono ?_; rintro x w3 ⟨rfl, hb3⟩; simp only [Int.toNat_natCast]))
    all_goals (go_wp2_with fail; go_meet)
    all_goals exact ⟨rfl, by first | exact (Mod.refl _ _).drew.trans hb3 | exact ((Mod.refl _ _).drew.trans hb3).drew⟩
   obtain ⟨rfl, hb⟩ := hcut
   have hB2 := hB.ext hb
   have g0 : wc.cell? ⟨w.heap.size, 0, none⟩ = some (.int .i64 0) := hB2.cell 0
   have g1 : wc.cell? ⟨w.heap.size, 1, none⟩ = some (.int .i64 0) := hB2.cell 1
   have g2 : wc.cell? ⟨w.heap.size, 2, none⟩ = some (.int .u64 0) := hB2.cell 2
   have g3 : wc.cell? ⟨w.heap.size, 3, none⟩ = some (.bool false) := hB2.cell 3
   have p0 := hB2.frozen 0
   have p1 := hB2.frozen 1
   have p2 := hB2.frozen 2
   have p3 := hB2.frozen 3
   go_wp2
   refine bodyPost_ret (v := gotV 0 0 0 false) (by simp [results, Tryz.results52, go_sem, gotV, g0, g1, g2, g3]) rfl (Ret.mk rfl ?_)
   repeat (first | exact hE.trans hb | refine Mod.setCell ?_ (.inr (Nat.le_refl _)) _)
theorem read_of {l : List UInt8} {x : Option (Nat × Nat × Nat × Bool)} {w : World} (h : readH l = x) (hc : Calls Tryz.prog 52 #[str l] w (Ret (gotOf x) w)) :
  Calls Tryz.prog 52 #[str l] w (Ret (gotOf (readH l)) w) := by rw [h]; exact hc
theorem sz4_val {k : Nat} (h : 24 <= k) (h2 : k < 28) : sz4 k = 2 ^ (k - 24) := by
 have : k = 24 \/ k = 25 \/ k = 26 \/ k = 27 := by omega
 rcases this with rfl | rfl | rfl | rfl <;> decide
theorem sz4_none {k : Nat} (h : 28 <= k) : sz4 k = 0 := by
 unfold sz4 sz3 sz2 sz1
 rw [if_neg (by omega), if_neg (by omega), if_neg (by omega), if_neg (by omega)]
theorem pow_sz {k : Nat} (h : 24 <= k) (h2 : k < 28) : 1 <= 2 ^ (k - 24) /\ 2 ^ (k - 24) <= 8 := by
 have : k = 24 \/ k = 25 \/ k = 26 \/ k = 27 := by omega
 rcases this with rfl | rfl | rfl | rfl <;> decide
theorem canon_iff {c : UInt8} {l : List UInt8} {k : Nat} (hk : c.toNat % 32 = k) (h : 24 <= k) (h2 : k < 28) (hl : 2 ^ (k - 24) <= l.length) :
  headL (c.toNat / 32) (fromBE (l.take (2 ^ (k - 24)))) = (c :: l).take (2 ^ (k - 24) + 1) ↔ (headL (c.toNat / 32) (fromBE (l.take (2 ^ (k - 24))))).length = 1 + 2 ^ (k - 24) := by
 obtain ⟨j, rfl⟩ : ∃ j, k = 24 + j := ⟨k - 24, by omega⟩
 rw [Nat.add_sub_cancel_left] at *
 have hlen : (l.take (2 ^ j)).length = 2 ^ j := by rw [List.length_take]; omega
 constructor
 . intro e; rw [e, List.length_take, List.length_cons]; omega
 .
  intro e
  have hlt := fromBE_lt (l.take (2 ^ j))
  rw [hlen] at hlt
  rw [headL_of_length (by omega) hlt e, List.take_succ_cons]
  have hb := be_fromBE (l.take (2 ^ j))
  rw [hlen] at hb
  rw [hb, show 32 * (c.toNat / 32) + 24 + j = c.toNat from by omega, b8_toNat]
theorem read_any (l : List UInt8) (w : World) : Calls Tryz.prog 52 #[str l] w (Ret (gotOf (readH l)) w) := by
 cases l with
 | nil => exact read_of (x := none) rfl (read_nil w)
 | cons c l =>
  have hc := c.toNat_lt
  by_cases h1 : c.toNat % 32 < 24
  . exact read_of (x := some (_, _, _, _)) (by unfold readH; dsimp only; rw [if_pos h1]) (read_small c l _ _ rfl rfl h1 w)
  by_cases h2 : c.toNat % 32 = 31 /\ opensB ((c.toNat / 32 : Nat) : Int) = true
  . exact read_of (x := some (_, _, _, _)) (by unfold readH; dsimp only; rw [if_neg h1, if_pos h2]) (read_open c l _ _ rfl rfl h2.1 h2.2 w)
  by_cases h3 : 28 <= c.toNat % 32
  . exact read_of (x := none) (by unfold readH; dsimp only; rw [if_neg h1, if_neg h2, if_pos h3]) (read_none c l _ _ rfl rfl (by unfold Hid; omega) h2 (sz4_none h3) w)
  have h24 : 24 <= c.toNat % 32 := by omega
  have h28 : c.toNat % 32 < 28 := by omega
  by_cases h4 : l.length < 2 ^ (c.toNat % 32 - 24)
  . exact read_of (x := none) (by unfold readH; dsimp only; rw [if_neg h1, if_neg h2, if_neg h3, if_pos h4]) (read_short c l _ _ rfl rfl _ ⟨h24, h28⟩ (sz4_val h24 h28) (pow_sz h24 h28) h4 w)
  have h4' := Nat.le_of_not_lt h4
  by_cases h5 : (headL (c.toNat / 32) (fromBE (l.take (2 ^ (c.toNat % 32 - 24))))).length = 1 + 2 ^ (c.toNat % 32 - 24)
  .
   exact read_of (x := some (_, _, _, _)) (by unfold readH; dsimp only; rw [if_neg h1, if_neg h2, if_neg h3, if_neg h4, if_pos h5, Nat.add_comm 1])
    (read_good c l _ _ rfl rfl _ ⟨h24, h28⟩ (sz4_val h24 h28) (pow_sz h24 h28) _ rfl h4' ((canon_iff rfl h24 h28 h4').2 h5) w)
  .
   exact read_of (x := none) (by unfold readH; dsimp only; rw [if_neg h1, if_neg h2, if_neg h3, if_neg h4, if_neg h5])
    (read_long c l _ _ rfl rfl _ ⟨h24, h28⟩ (sz4_val h24 h28) (pow_sz h24 h28) _ rfl h4' (fun e => h5 ((canon_iff rfl h24 h28 h4').1 e)) w)
theorem few10L_any (e : EV) (w : World) : Calls Tryz.prog 48 #[.agg #[.int .i64 e.sch, str e.name, .int .u64 (e.node : Int), .int .u64 (e.svc : Int)]] w (Ret (.bool (decide (e.name.length <= 100))) w) := by
 go_enter Tryz.func48, Tryz.ntmps48
 go_wp2
 go_ret
 refine Ret.mk ?_ ((Mod.refl _ _).alloc _)
 simp
 omega
def PV.few (p : PV) : Bool := decide (p.d.name.length <= 100) && decide (p.s.name.length <= 100) && decide (p.r.name.length <= 100)
set_option maxRecDepth 20000 in
set_option maxHeartbeats 800000 in
theorem few11P_any (p : PV) (w : World) : Calls Tryz.prog 17 #[.agg p.c] w (Ret (.bool p.few) w) := by
 have HE := hid ((Mod.refl [] w).alloc (.cells p.c 26))
 have HB := hid (Blk.new w 26 p.c)
 have HF : Hid (p.few = (decide (p.d.name.length <= 100) && decide (p.s.name.length <= 100) && decide (p.r.name.length <= 100))) := rfl
 have K1 := hid (fun W => few10L_any p.d W)
 have K2 := hid (fun W => few10L_any p.s W)
 have K3 := hid (fun W => few10L_any p.r W)
 cases h1 : decide (p.d.name.length <= 100)
 all_goals cases h2 : decide (p.s.name.length <= 100)
 all_goals cases h3 : decide (p.r.name.length <= 100)
 all_goals rw [h1] at K1 HF
 all_goals rw [h2] at K2 HF
 all_goals rw [h3] at K3 HF
 all_goals clear h1 h2 h3
 all_goals go_enter Tryz.func17, Tryz.ntmps17
 all_goals go_upto_region 1 with fail
 all_goals generalize w.alloc (.cells p.c 26) = V at *
 all_goals have b2 : ∀ e : Later V, e.x.cell? ⟨w.heap.size, 2, none⟩ = some (.int .i64 p.d.sch) := HB.out.cellL 2 rfl
 all_goals have b3 : ∀ e : Later V, e.x.cell? ⟨w.heap.size, 3, none⟩ = some (str p.d.name) := HB.out.cellL 3 rfl
 all_goals have b4 : ∀ e : Later V, e.x.cell? ⟨w.heap.size, 4, none⟩ = some (.int .u64 (p.d.node : Int)) := HB.out.cellL 4 rfl
 all_goals have b5 : ∀ e : Later V, e.x.cell? ⟨w.heap.size, 5, none⟩ = some (.int .u64 (p.d.svc : Int)) := HB.out.cellL 5 rfl
 all_goals have b6 : ∀ e : Later V, e.x.cell? ⟨w.heap.size, 6, none⟩ = some (.int .i64 p.s.sch) := HB.out.cellL 6 rfl
 all_goals have b7 : ∀ e : Later V, e.x.cell? ⟨w.heap.size, 7, none⟩ = some (str p.s.name) := HB.out.cellL 7 rfl
 all_goals have b8 : ∀ e : Later V, e.x.cell? ⟨w.heap.size, 8, none⟩ = some (.int .u64 (p.s.node : Int)) := HB.out.cellL 8 rfl
 all_goals have b9 : ∀ e : Later V, e.x.cell? ⟨w.heap.size, 9, none⟩ = some (.int .u64 (p.s.svc : Int)) := HB.out.cellL 9 rfl
 all_goals have b10 : ∀ e : Later V, e.x.cell? ⟨w.heap.size, 10, none⟩ = some (.int .i64 p.r.sch) := HB.out.cellL 10 rfl
 all_goals have b11 : ∀ e : Later V, e.x.cell? ⟨w.heap.size, 11, none⟩ = some (str p.r.name) := HB.out.cellL 11 rfl
 all_goals have b12 : ∀ e : Later V, e.x.cell? ⟨w.heap.size, 12, none⟩ = some (.int .u64 (p.r.node : Int)) := HB.out.cellL 12 rfl
 all_goals have b13 : ∀ e : Later V, e.x.cell? ⟨w.heap.size, 13, none⟩ = some (.int .u64 (p.r.svc : Int)) := HB.out.cellL 13 rfl
 all_goals obtain ⟨e0, he0⟩ := Later.self V
 all_goals rw [he0]
 all_goals clear he0
 all_goals go_wp2_with (go_at_call 48; first | ((with_reducible refine (Ret.later (K1.out _)).mono ?_); rintro x _ ⟨rfl, e1, rfl⟩) | ((with_reducible refine (Ret.later (K2.out _)).mono ?_); rintro x _ ⟨rfl, e1, rfl⟩) | ((with_reducible refine (Ret.later (K3.out _)).mono ?_); rintro x _ ⟨rfl, e1, rfl⟩))
 all_goals go_ret
 all_goals exact Ret.mk (by rw [HF.out]; rfl) (HE.out.trans e1.h)
def bsFew (bs : Nat -> BV) (i : Nat) : Bool := decide (4100 < (bs i).data.length)
def bunFew (p : PV) (bs : Nat -> BV) (k : Nat) : Bool := decide (k <= 20) && ((firstOf (bsFew bs) k).isNone && p.few)
theorem bunFew_spec {p : PV} {bs : Nat -> BV} {k : Nat} (h : bunFew p bs k = true) : k <= 20 /\ p.few = true /\ ∀ i, i < k -> (bs i).data.length <= 4100 := by
 unfold bunFew at h
 simp only [Bool.and_eq_true, decide_eq_true_eq] at h
 refine ⟨h.1, h.2.2, fun i hi => ?_⟩
 cases hf : firstOf (bsFew bs) k with
 | some x => rw [hf] at h; simp at h
 | none =>
  have := firstOf_no hf i hi
  unfold bsFew at this
  simp at this
  exact this
theorem bunFew_long {p : PV} {bs : Nat -> BV} {k i : Nat} (hi : i < k) (h : 4100 < (bs i).data.length) : bunFew p bs k = false := by
 cases hb : bunFew p bs k with
 | false => rfl
 | true => have := (bunFew_spec hb).2.2 i hi; omega
set_option maxRecDepth 20000 in
set_option maxHeartbeats 800000 in
theorem few13_any (p : PV) (bs : Nat -> BV) (k c : Nat) (A : Option Addr) (hk : k < 4611686018427387904) (w : World) (h : BsL w A k bs) : Calls Tryz.prog 6 #[bunV p A k c] w (Ret (.bool (bunFew p bs k)) w) := by
 have KF := hid (fun W => few11P_any p W)
 have HE := hid ((Mod.refl [] w).alloc (.cells (bunC p A k c) 29))
 have HB := hid (Blk.new w 29 (bunC p A k c))
 have HL := hid (BsL.ext h HE.out)
 have k1 : (k : Int) < 4611686018427387904 := by omega
 have HK := hid hk
 clear h hk
 go_enter Tryz.func6, Tryz.ntmps6
 go_wp2_with fail
 generalize w.alloc (.cells (bunC p A k c) 29) = V at *
 have b19 : ∀ e : Later V, e.x.cell? ⟨w.heap.size, 19, none⟩ = some (.slice A k c) := HB.out.cellL 19 rfl
 obtain ⟨e0, he0⟩ := Later.self V
 go_loopw [3] (fun s3 wr => ∃ i : Nat, s3 = .int .i64 (i : Int) /\ Hid (i <= k /\ i <= 30 /\ ∀ j, j < i -> (bs j).data.length <= 4100) /\ ∃ e : Later V, wr = e.x) (fun s3 _ => 30 - (intOf s3).toNat)
 case atStart => exact ⟨0, rfl, (show Hid _ from ⟨by omega, by omega, fun j hj => by omega⟩), e0, he0⟩
 case round =>
  clear he0 e0
  obtain ⟨i, rfl, hi, e, rfl⟩ := hrel
  have i0 : (0 : Int) <= (i : Int) := by omega
  by_cases hlt : i < k /\ i < 30
  .
   obtain ⟨hlt, hl30⟩ := hlt
   obtain ⟨b, o, rfl, hb, q0, q1, q2, q3, q4⟩ := HL.out.cells hlt
   have tc : decide (i < k) = true := by simp [hlt]
   have tc3 : decide ((i : Int) < 30) = true := by simp; omega
   have i1 : (i : Int) < (k : Int) := by omega
   have HLT := hid hlt
   have HL30 := hid hl30
   clear hlt hl30 q0 q1 q2 q3
   by_cases ht : 4100 < (bs i).data.length
   .
    have t1 : decide (4100 < ((bs i).data.length : Int)) = true := by simp; omega
    have t2 : (4100 < (bs i).data.length) = True := by simp; omega
    have HF := hid (bunFew_long (p := p) HLT.out ht)
    clear ht
    go_wp2_with fail
    go_ret
    exact Ret.mk (by rw [HF.out]; rfl) (HE.out.trans e.h)
   .
    have t1 : decide (4100 < ((bs i).data.length : Int)) = false := by simp; omega
    have t2 : (4100 < (bs i).data.length) = False := by simp; omega
    have HN := hid ht
    clear ht
    go_wp2_with fail
    go_roundw
    case rel => exact ⟨i + 1, by go_num, (show Hid _ from ⟨HLT.out, HL30.out, fun j hj => by
     by_cases hji : j = i
     . subst hji; have := HN.out; omega
     . exact hi.out.2.2 j (by omega)⟩), e, rfl⟩
    case measure => have := HL30.out; simp [intOf]; omega
  .
   by_cases hk20 : k <= 20
   .
    obtain rfl : i = k := by have := hi.out; omega
    have tc : decide (i < i) = false := by simp
    have t20 : decide ((i : Int) <= 20) = true := by simp; omega
    have HF : Hid (bunFew p bs i = p.few) := by
     unfold Hid bunFew
     rw [firstOf_none (fun j hj => by unfold bsFew; have := hi.out.2.2 j hj; simp; omega)]
     simp [hk20]
    clear hlt hk20
    have HPR : Hid (∀ e : Later V, e.x.rangeAt w.heap.size 0 p.c.toList) := HB.out.range 0 19 (by rw [Array.toList_extract]; rfl)
    go_wp2_with (first | (refine wpList_mid (by rfl) 26 _ rfl _ 0 rfl _ _ (HPR.out e) vqC rfl (by kernel_rfl) ?_) | (go_at_call 17; refine (Ret.later (KF.out _)).mono ?_; rintro x _ ⟨rfl, e1, rfl⟩))
    go_ret
    exact Ret.mk (by rw [HF.out]; rfl) (HE.out.trans e1.h)
   .
    have t20 : decide ((k : Int) <= 20) = false := by simp; omega
    have HF : Hid (bunFew p bs k = false) := by unfold Hid bunFew; simp [hk20]
    by_cases hik : i < k
    .
     have tc : decide (i < k) = true := by simp [hik]
     have tc3 : decide ((i : Int) < 30) = false := by have := hi.out; simp; omega
     clear hlt hk20 hik
     go_wp2_with fail
     go_ret
     exact Ret.mk (by rw [HF.out]; rfl) (HE.out.trans e.h)
    .
     obtain rfl : i = k := by have := hi.out; omega
     have tc : decide (i < i) = false := by simp
     clear hlt hk20 hik
     go_wp2_with fail
     go_ret
     exact Ret.mk (by rw [HF.out]; rfl) (HE.out.trans e.h)
section
open Go.Shelf
def hasNum (n : Int) (b : BV) : Bool := decide (b.num = n)
def numB (bs : Nat -> BV) (n : Int) (i : Nat) : Bool := hasNum n (bs i)
set_option maxRecDepth 20000 in
theorem IndexFuncB_any (A : Option Addr) (bs : Nat -> BV) (k c g : Nat) (lb : Array Value) (P : BV -> Bool) (eg : ∀ args w, (callFunc g args).run Tryz.prog w = .ok (.enter g args) w)
  (hk : k < 4611686018427387904) (w : World) (h : BsL w A k bs) (hp : Hid (∀ (W : World) (x : BV), Ext w W -> Calls Tryz.prog g (#[x.v] ++ lb) W (Ret (.bool (P x)) W))) :
  Calls Tryz.prog 98 #[.slice A k c, .func (.func g) #[] lb] w (Ret (.int .i64 (firstI (fun i => P (bs i)) k)) w) := by
 have HL := hid h
 have k1 : (k : Int) < 4611686018427387904 := by omega
 have HK := hid hk
 clear h hk
 obtain ⟨e0, he0⟩ := Later.self w
 go_enter Tryz.func98, Tryz.ntmps98
 go_wp2_with fail
 go_loopw [8] (fun s5 wr => ∃ i : Nat, s5 = .int .i64 (i : Int) /\ Hid (i <= k /\ ∀ j, j < i -> (fun i => P (bs i)) j = false) /\ ∃ e : Later w, wr = e.x) (fun s5 _ => k - (intOf s5).toNat)
 case atStart => exact ⟨0, rfl, (show Hid _ from ⟨by omega, fun j hj => by omega⟩), e0, (by first | exact he0 | rfl)⟩
 case round =>
  clear he0 e0
  obtain ⟨i, rfl, hi, e, rfl⟩ := hrel
  have i0 : (0 : Int) <= (i : Int) := by omega
  by_cases hlt : i < k
  .
   obtain ⟨b, o, rfl, hb, q0, q1, q2, q3, q4⟩ := HL.out.cells hlt
   have tc : decide (i < k) = true := by simp [hlt]
   have i1 : (i : Int) < (k : Int) := by omega
   have HLT := hid hlt
   clear hlt
   by_cases ht : (fun i => P (bs i)) i = true
   .
    have HF : Hid (firstI ((fun i => P (bs i))) k = (i : Int)) := by unfold Hid firstI; rw [firstOf_some HLT.out ht hi.out.2]
    have hcall : Calls Tryz.prog g (#[(bs i).v] ++ lb) e.x (Ret (.bool true) e.x) := by have := hp.out e.x (bs i) e.h; rw [show P (bs i) = true from ht] at this; exact this
    clear ht
    go_wp2_with (go_at_fn g; refine (Ret.later hcall).mono ?_; rintro x _ ⟨rfl, e3, rfl⟩)
    go_ret
    exact Ret.mk (by rw [HF.out]; rfl) e3.h
   .
    have HN : Hid ((fun i => P (bs i)) i = false) := by unfold Hid; simpa using ht
    have hcall : Calls Tryz.prog g (#[(bs i).v] ++ lb) e.x (Ret (.bool false) e.x) := by have := hp.out e.x (bs i) e.h; rw [show P (bs i) = false from HN.out] at this; exact this
    clear ht
    go_wp2_with (go_at_fn g; refine (Ret.later hcall).mono ?_; rintro x _ ⟨rfl, e3, rfl⟩)
    go_roundw
    case rel => exact ⟨i + 1, by go_num, (show Hid _ from ⟨HLT.out, fun j hj => by
     by_cases hji : j = i
     . subst hji; exact HN.out
     . exact hi.out.2 j (by omega)⟩), e3, rfl⟩
    case measure => have := HLT.out; simp [intOf]; omega
  .
   obtain rfl : i = k := by have := hi.out.1; omega
   have tc : decide (i < i) = false := by simp
   have HF : Hid (firstI ((fun i => P (bs i))) i = -1) := by unfold Hid firstI; rw [firstOf_none hi.out.2]
   go_wp2_with fail
   go_ret
   exact Ret.mk (by rw [HF.out]; rfl) (e.h)
set_option maxRecDepth 20000 in
theorem atCl_any (n : Int) (B : Nat) (w : World) (hB : B < w.heap.size) (c0 : w.cell? ⟨B, 0, none⟩ = some (.int .i64 n)) (W : World) (x : BV) (hb : Ext w W) : Calls Tryz.prog 99 (#[x.v] ++ #[.pointer (some ⟨B, 0, none⟩)]) W (Ret (.bool (hasNum n x)) W) := by
 have d0 : W.cell? ⟨B, 0, none⟩ = some (.int .i64 n) := (hb.cell hB (by simp)).trans c0
 have hBW : B < W.heap.size := Nat.lt_of_lt_of_le hB hb.size
 have hne : B ≠ W.heap.size := by omega
 clear c0
 show Calls Tryz.prog 99 #[.agg #[.int .i64 x.ty, .int .i64 x.num, .int .u64 (x.fl : Int), .int .i64 x.crc, str x.data], .pointer (some ⟨B, 0, none⟩)] W _
 go_enter Tryz.func99, Tryz.ntmps99
 go_wp2
 go_ret
 exact Ret.mk (by simp [hasNum]; rfl) ((Mod.refl _ _).alloc _)
theorem entersAC : ∀ args w, (callFunc 99 args).run Tryz.prog w = .ok (.enter 99 args) w := enters_of Tryz.func99 (by kernel_rfl) rfl
set_option maxRecDepth 20000 in
theorem at_any (p : PV) (bs : Nat -> BV) (k c : Nat) (A : Option Addr) (n : Int) (hk : k < 4611686018427387904) (w : World) (h : BsL w A k bs) : Calls Tryz.prog 83 #[bunV p A k c, .int .i64 n] w (Ret (.int .i64 (firstI (numB bs n) k)) w) := by
 have HE := hid (((Mod.refl [] w).alloc (.cells (bunC p A k c) 29)).alloc (.cells #[.int .i64 n] 3))
 have HB := hid ((Blk.new w 29 (bunC p A k c)).alloc (.cells #[.int .i64 n] 3))
 have HN : Hid (Blk ((w.alloc (.cells (bunC p A k c) 29)).alloc (.cells #[.int .i64 n] 3)) (w.heap.size + 1) 3 #[.int .i64 n]) := Blk.newL _ _ _ (by simp)
 have HL := hid (BsL.ext h HE.out)
 have HK := hid hk
 clear h hk
 go_enter Tryz.func83, Tryz.ntmps83
 go_upto_region 1 with fail
 generalize (w.alloc (.cells (bunC p A k c) 29)).alloc (.cells #[.int .i64 n] 3) = V at *
 have KI : Hid (Calls Tryz.prog 98 #[.slice A k c, .func (.func 99) #[] #[.pointer (some ⟨w.heap.size + 1, 0, none⟩)]] V (Ret (.int .i64 (firstI (numB bs n) k)) V)) :=
  IndexFuncB_any A bs k c 99 #[.pointer (some ⟨w.heap.size + 1, 0, none⟩)] (hasNum n) entersAC HK.out V HL.out (fun W x hb => atCl_any n (w.heap.size + 1) V HN.out.lt (HN.out.cell 0) W x hb)
 have b19 : V.cell? ⟨w.heap.size, 19, none⟩ = some (.slice A k c) := HB.out.cell 19
 go_wp2_with (go_at_call 98; refine KI.out.mono ?_; rintro x w2 ⟨rfl, hb2⟩)
 go_ret
 exact Ret.mk rfl (HE.out.trans hb2)
end
end Go.Proofs.YthecmnbkjchjmaaGreat
