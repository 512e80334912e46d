/-
 An item with the right sum as its last part.
 A block's item and bytes, whatever its sum.
 The reference's blocks: bytes, header.
 The reference's blocks, built.
 Primaries: the bytes, as the reference puts them together.
 Primaries: the whole bytes, with and without a sum, as the reference puts them together.
 A block's header.
 Bundles that are right, and their bytes: plain.
 A block's cells, stored anew one by one.
 Items: the code's same.
 An argument item.Item, opened: it is a tree whose items lie in memory.
 The law ItemSame: its walk.
 The name that an item may be.
-/
import Derived.Test.YtfgipgpbjfhflaaGreatMBundleBackd
import Derived.Deep.Slices
import Derived.Deep.Fields
import Derived.ChangeSame
import Derived.SizedLaws

namespace Go.Proofs.YtfgipgpbjfhflaaGreat
open Go.RowKit
set_option linter.unusedVariables false
set_option linter.unusedSimpArgs false

/-- An array of six, with another last part. -/
def lastT (ch : Nat → T) (s : List UInt8) : T := T.mk 4 0 [] false 6 fun i => if i = 5 then strT s else ch i
/-- Its bytes, as they are built. -/
def bldL (t : T) : List UInt8 := if t.right 8 then t.bytes else []
theorem buildV_bld (t : T) : ∃ E, buildV t = .tuple #[str (bldL t), .int .i64 E] := by
 unfold buildV bldL
 split
 · exact ⟨_, rfl⟩
 · exact ⟨_, rfl⟩
theorem lastK {W W' : World} {g : Nat} {Q : Nat → Prop} {ch : Nat → T} {ac : Nat → Option Addr × Nat} (hm : Mod [g] W W') (hq : ∀ b, Q b → b ≠ g) (h : ∀ i, i < 6 → IsL W Q (ch i) (ac i).1) (s : List UInt8) :
  ∀ i, i < 6 → IsL W' Q ((fun i => if i = 5 then strT s else ch i) i) ((fun i => if i = 5 then ((none : Option Addr), 0) else ac i) i).1 := by
 intro i hi
 by_cases e : i = 5
 · subst e; simp only [if_true]; exact fun h => absurd h (by decide)
 ·
  simp only [if_neg e]
  exact IsL.mod hm (fun k hk _ hm => by rw [List.mem_singleton] at hm; exact hq k hk hm) _ (h i hi)

set_option maxRecDepth 20000 in
set_option maxHeartbeats 1600000 in
theorem summed_any (ch : Nat → T) (kind : Nat) (k1 : Hid (1 ≤ kind)) (k2 : Hid (kind ≤ 2)) (hok : Hid ((lastT ch (List.replicate (2 * kind) 0)).ok ∧ (lastT ch (List.replicate (2 * kind) 0)).size ≤ 100000)) (hbl : Hid ((bldL (lastT ch (List.replicate (2 * kind) 0))).length < 1000000)) (N : Nat) (A : Option Addr) (c : Nat) (w : World) (hN : Hid (N ≤ w.heap.size)) (h : IsL w (fun b => N ≤ b) (T.mk 4 0 [] false 6 ch) A) :
  Calls Tryz.prog 106 #[.int .i64 (kind : Int), .agg #[.int .i64 4, .int .u64 0, str [], .slice A 6 c, .bool false]] w (fun e w' => ∃ A c, e = .returned (itemV (lastT ch (Crc.sumL kind (bldL (lastT ch (List.replicate (2 * kind) 0))))) A c) ∧ Ext w w' ∧ IsL w' (fun b => N ≤ b) (lastT ch (Crc.sumL kind (bldL (lastT ch (List.replicate (2 * kind) 0))))) A) := by
 have e1 : ((kind : Int) = 0) = False := by have := k1.out; simp; omega
 have e2 : ((kind : Int) == 0) = false := by have := k1.out; simp; omega
 have HI : Hid (IsL w (fun b => N ≤ b ∧ b < w.heap.size) (T.mk 4 0 [] false 6 ch) A) := IsL.weak (fun k hk hq => ⟨hq, hk⟩) _ h
 clear h
 have KR := hid (fun W => Repeat_zero (2 * kind) (by have := k2.out; omega) W)
 have KS := hid (fun W => Sum_any kind k1.out k2.out (bldL (lastT ch (List.replicate (2 * kind) 0))) hbl W)
 obtain ⟨E, hE⟩ := buildV_bld (lastT ch (List.replicate (2 * kind) 0))
 have HV := hid hE; clear hE
 have hTk : (lastT ch (List.replicate (2 * kind) 0)) = T.mk 4 0 [] false 6 (fun i => if i = 5 then strT (List.replicate (2 * kind) 0) else ch i) := rfl
 have HT := hid hTk; clear hTk
 generalize bldL (lastT ch (List.replicate (2 * kind) 0)) = B at *
 have HU : Hid (lastT ch (Crc.sumL kind B) = T.mk 4 0 [] false 6 (fun i => if i = 5 then strT (Crc.sumL kind B) else if i = 5 then strT (List.replicate (2 * kind) 0) else ch i)) := by
  unfold Hid lastT
  congr 1
  funext i
  split <;> rfl
 generalize lastT ch (Crc.sumL kind B) = U at *
 generalize lastT ch (List.replicate (2 * kind) 0) = Y at *
 generalize List.replicate (2 * kind) (0 : UInt8) = Z at *
 generalize Crc.sumL kind B = S at *
 have HE := hid (((Mod.refl [] w).alloc (.cells #[.int .i64 4, .int .u64 0, str [], .slice A 6 c, .bool false] 52)).alloc (.cells #[.int .i64 0, .int .u64 0, .string ⟨#[]⟩, .slice none 0 0, .bool false] 52))
 have HR : Hid (Blk ((w.alloc (.cells #[.int .i64 4, .int .u64 0, str [], .slice A 6 c, .bool false] 52)).alloc (.cells #[.int .i64 0, .int .u64 0, .string ⟨#[]⟩, .slice none 0 0, .bool false] 52)) (w.heap.size + 1) 52 (itemC (numT 0) none 0)) := by
  have := Blk.new (w.alloc (.cells #[.int .i64 4, .int .u64 0, str [], .slice A 6 c, .bool false] 52)) 52 (itemC (numT 0) none 0)
  unfold Hid
  simpa [itemC, numT, T.kind, T.n, T.s, T.k, T.op] using this
 go_enter Tryz.func106, Tryz.ntmps106
 go_wp2_with fail
 refine (CloneI_any ch 6 (by unfold Hid; omega) A c _ (HI.out.ext HE.out)).mono ?_
 rintro e w1 ⟨g, c', ac, rfl, hb1, hg1, hlt1, hown1, hk1⟩
 have HE1 := hid (HE.out.trans hb1)
 have HR1 := hid (HR.out.ext hb1)
 have HO1 := hid hown1
 have HK1 := hid hk1
 have HG : Hid (w.heap.size + 2 ≤ g) := by unfold Hid; simpa using hg1
 have HL1 := hid hlt1
 clear hb1 hg1 hlt1 hown1 hk1 HE HR HI
 go_wp2_with fail
 refine (Size_any kind k2.out _).mono ?_
 rintro e w2 ⟨rfl, hb2⟩
 have HE2 := hid (HE1.out.trans hb2)
 have HR2 := hid (HR1.out.ext hb2)
 have HO2 := hid (ownsRow_mod HO1.out hb2 (by simp))
 have HK2 : Hid (∀ i, i < 6 → IsL w2 (fun b => N ≤ b ∧ b < w.heap.size) (ch i) (ac i).1) := fun i hi => (HK1.out i hi).ext hb2
 have HL2 := hid (Nat.lt_of_lt_of_le HL1.out hb2.size)
 clear hb2 HE1 HR1 HO1 HK1 HL1
 go_wp2_with fail
 refine (KR.out _).mono ?_
 rintro e w3 ⟨rfl, hb3⟩
 have HE3 := hid (HE2.out.trans hb3)
 have HR3 := hid (HR2.out.ext hb3)
 have HO3 := hid (ownsRow_mod HO2.out hb3 (by simp))
 have HK3 : Hid (∀ i, i < 6 → IsL w3 (fun b => N ≤ b ∧ b < w.heap.size) (ch i) (ac i).1) := fun i hi => (HK2.out i hi).ext hb3
 have HL3 := hid (Nat.lt_of_lt_of_le HL2.out hb3.size)
 clear hb3 HE2 HR2 HO2 HK2 HL2
 go_wp2_with fail
 refine (StrV_any _ _).mono ?_
 rintro e w4 ⟨rfl, hb4⟩
 have HE4 := hid (HE3.out.trans hb4)
 have HR4 := hid (HR3.out.ext hb4)
 have HO4 := hid (ownsRow_mod HO3.out hb4 (by simp))
 have HK4 : Hid (∀ i, i < 6 → IsL w4 (fun b => N ≤ b ∧ b < w.heap.size) (ch i) (ac i).1) := fun i hi => (HK3.out i hi).ext hb4
 have HL4 := hid (Nat.lt_of_lt_of_le HL3.out hb4.size)
 clear hb4 HE3 HR3 HO3 HK3 HL3
 obtain ⟨x0, x1, x2, x3, x4⟩ := flatC_get ch ac 6 5 (by omega)
 have y0 := own_cells HO4.out x0
 have y1 := own_cells HO4.out x1
 have y2 := own_cells HO4.out x2
 have y3 := own_cells HO4.out x3
 have y4 := own_cells HO4.out x4
 clear x0 x1 x2 x3 x4
 have z0 := HO4.out.frozenAt 25
 have z1 := HO4.out.frozenAt 26
 have z2 := HO4.out.frozenAt 27
 have z3 := HO4.out.frozenAt 28
 have z4 := HO4.out.frozenAt 29
 go_wp2_with fail
 clear y0 y1 y2 y3 y4 z0 z1 z2 z3 z4
 have HO5 := hid (own_last (n := 5) (strT Z) none 0 HO4.out)
 have HM5 := hid (((((((Mod.refl [g] w4).setCell (p := ⟨g, 25, none⟩) (.inl (by simp)) (.int .i64 2)).setCell (p := ⟨g, 26, none⟩) (.inl (by simp)) (.int .u64 0)).setCell (p := ⟨g, 27, none⟩) (.inl (by simp)) (str Z)).setCell (p := ⟨g, 28, none⟩) (.inl (by simp)) (.slice none 0 0)).setCell (p := ⟨g, 29, none⟩) (.inl (by simp)) (.bool false)))
 have HE5 := hid (((((HE4.out.setCell (p := ⟨g, 25, none⟩) (.inr (by have := HG.out; show w.heap.size ≤ g; omega)) (.int .i64 2)).setCell (p := ⟨g, 26, none⟩) (.inr (by have := HG.out; show w.heap.size ≤ g; omega)) (.int .u64 0)).setCell (p := ⟨g, 27, none⟩) (.inr (by have := HG.out; show w.heap.size ≤ g; omega)) (str Z)).setCell (p := ⟨g, 28, none⟩) (.inr (by have := HG.out; show w.heap.size ≤ g; omega)) (.slice none 0 0)).setCell (p := ⟨g, 29, none⟩) (.inr (by have := HG.out; show w.heap.size ≤ g; omega)) (.bool false))
 change Hid (World.ownsRow (((((w4.setCell ⟨g, 25, none⟩ (.int .i64 2)).setCell ⟨g, 26, none⟩ (.int .u64 0)).setCell ⟨g, 27, none⟩ (str Z)).setCell ⟨g, 28, none⟩ (.slice none 0 0)).setCell ⟨g, 29, none⟩ (.bool false)) _ _ _ _ _ _) at HO5
 change Hid (Mod [g] w4 (((((w4.setCell ⟨g, 25, none⟩ (.int .i64 2)).setCell ⟨g, 26, none⟩ (.int .u64 0)).setCell ⟨g, 27, none⟩ (str Z)).setCell ⟨g, 28, none⟩ (.slice none 0 0)).setCell ⟨g, 29, none⟩ (.bool false))) at HM5
 change Hid (Mod [] w (((((w4.setCell ⟨g, 25, none⟩ (.int .i64 2)).setCell ⟨g, 26, none⟩ (.int .u64 0)).setCell ⟨g, 27, none⟩ (str Z)).setCell ⟨g, 28, none⟩ (.slice none 0 0)).setCell ⟨g, 29, none⟩ (.bool false))) at HE5
 generalize (((((w4.setCell ⟨g, 25, none⟩ (.int .i64 2)).setCell ⟨g, 26, none⟩ (.int .u64 0)).setCell ⟨g, 27, none⟩ (str Z)).setCell ⟨g, 28, none⟩ (.slice none 0 0)).setCell ⟨g, 29, none⟩ (.bool false)) = w5 at *
 have HR5 := hid (HR4.out.mod HM5.out (by have := HG.out; simp; omega))
 have HK5 := hid (lastK HM5.out (fun b hb => by have := HG.out; omega) HK4.out Z)
 have HL5 := hid (Nat.lt_of_lt_of_le HL4.out HM5.out.size)
 clear HE4 HR4 HO4 HK4 HL4 HM5
 generalize hch : (fun i => if i = 5 then strT Z else ch i) = ch5 at *
 generalize hac : (fun i => if i = 5 then ((none : Option Addr), 0) else ac i) = ac5 at *
 have Hch5 := hid hch; clear hch; clear hac
 refine (ListV_any 6 _ c' _).mono ?_
 rintro e w6 ⟨rfl, hb6⟩
 have HE6 := hid (HE5.out.trans hb6)
 have HR6 := hid (HR5.out.ext hb6)
 have HO6 := hid (ownsRow_mod HO5.out hb6 (by simp))
 have HK6 : Hid (∀ i, i < 6 → IsL w6 (fun b => N ≤ b ∧ b < w.heap.size) (ch5 i) (ac5 i).1) := fun i hi => (HK5.out i hi).ext hb6
 have HL6 := hid (Nat.lt_of_lt_of_le HL5.out hb6.size)
 clear hb6 HE5 HR5 HO5 HK5 HL5
 have HY : Hid (Y = T.mk 4 0 [] false 6 ch5) := HT.out
 have HIY : Hid (IsL w6 (fun _ => True) Y (some ⟨g, 0, none⟩)) := by
  rw [HY.out]
  exact own_IsL HL6.out trivial HO6.out (fun i hi => IsL.weak (fun _ _ _ => trivial) _ (HK6.out i hi))
 have HBY : Hid (∀ W, IsL W (fun _ => True) Y (some ⟨g, 0, none⟩) → Calls Tryz.prog 35 #[.agg #[.int .i64 4, .int .u64 0, str [], .slice (some ⟨g, 0, none⟩) 6 c', .bool false]] W (Ret (.tuple #[str B, .int .i64 E]) W)) := fun W hW => by
  have := iBuild_any Y hok.out.1 hok.out.2 (some ⟨g, 0, none⟩) c' W hW
  rw [HV.out, HY.out] at this
  exact this
 go_wp2_with fail
 refine (HBY.out _ HIY.out).mono ?_
 rintro e w7 ⟨rfl, hb7⟩
 have HE7 := hid (HE6.out.trans hb7)
 have HR7 := hid (HR6.out.ext hb7)
 have HO7 := hid (ownsRow_mod HO6.out hb7 (by simp))
 have HK7 : Hid (∀ i, i < 6 → IsL w7 (fun b => N ≤ b ∧ b < w.heap.size) (ch5 i) (ac5 i).1) := fun i hi => (HK6.out i hi).ext hb7
 have HL7 := hid (Nat.lt_of_lt_of_le HL6.out hb7.size)
 clear hb7 HE6 HR6 HO6 HK6 HL6
 clear HIY HBY HV
 go_wp2_with fail
 refine (KS.out _).mono ?_
 rintro e w8 ⟨rfl, hb8⟩
 have HE8 := hid (HE7.out.trans hb8)
 have HR8 := hid (HR7.out.ext hb8)
 have HO8 := hid (ownsRow_mod HO7.out hb8 (by simp))
 have HK8 : Hid (∀ i, i < 6 → IsL w8 (fun b => N ≤ b ∧ b < w.heap.size) (ch5 i) (ac5 i).1) := fun i hi => (HK7.out i hi).ext hb8
 have HL8 := hid (Nat.lt_of_lt_of_le HL7.out hb8.size)
 clear hb8 HE7 HR7 HO7 HK7 HL7
 go_wp2_with fail
 refine (StrV_any _ _).mono ?_
 rintro e w9 ⟨rfl, hb9⟩
 have HE9 := hid (HE8.out.trans hb9)
 have HR9 := hid (HR8.out.ext hb9)
 have HO9 := hid (ownsRow_mod HO8.out hb9 (by simp))
 have HK9 : Hid (∀ i, i < 6 → IsL w9 (fun b => N ≤ b ∧ b < w.heap.size) (ch5 i) (ac5 i).1) := fun i hi => (HK8.out i hi).ext hb9
 have HL9 := hid (Nat.lt_of_lt_of_le HL8.out hb9.size)
 clear hb9 HE8 HR8 HO8 HK8 HL8
 obtain ⟨x0, x1, x2, x3, x4⟩ := flatC_get ch5 ac5 6 5 (by omega)
 have y0 := own_cells HO9.out x0
 have y1 := own_cells HO9.out x1
 have y2 := own_cells HO9.out x2
 have y3 := own_cells HO9.out x3
 have y4 := own_cells HO9.out x4
 clear x0 x1 x2 x3 x4
 have z0 := HO9.out.frozenAt 25
 have z1 := HO9.out.frozenAt 26
 have z2 := HO9.out.frozenAt 27
 have z3 := HO9.out.frozenAt 28
 have z4 := HO9.out.frozenAt 29
 go_wp2_with fail
 clear y0 y1 y2 y3 y4 z0 z1 z2 z3 z4
 have HO10 := hid (own_last (n := 5) (strT S) none 0 HO9.out)
 have HM10 := hid (((((((Mod.refl [g] w9).setCell (p := ⟨g, 25, none⟩) (.inl (by simp)) (.int .i64 2)).setCell (p := ⟨g, 26, none⟩) (.inl (by simp)) (.int .u64 0)).setCell (p := ⟨g, 27, none⟩) (.inl (by simp)) (str S)).setCell (p := ⟨g, 28, none⟩) (.inl (by simp)) (.slice none 0 0)).setCell (p := ⟨g, 29, none⟩) (.inl (by simp)) (.bool false)))
 have HE10 := hid (((((HE9.out.setCell (p := ⟨g, 25, none⟩) (.inr (by have := HG.out; show w.heap.size ≤ g; omega)) (.int .i64 2)).setCell (p := ⟨g, 26, none⟩) (.inr (by have := HG.out; show w.heap.size ≤ g; omega)) (.int .u64 0)).setCell (p := ⟨g, 27, none⟩) (.inr (by have := HG.out; show w.heap.size ≤ g; omega)) (str S)).setCell (p := ⟨g, 28, none⟩) (.inr (by have := HG.out; show w.heap.size ≤ g; omega)) (.slice none 0 0)).setCell (p := ⟨g, 29, none⟩) (.inr (by have := HG.out; show w.heap.size ≤ g; omega)) (.bool false))
 change Hid (World.ownsRow (((((w9.setCell ⟨g, 25, none⟩ (.int .i64 2)).setCell ⟨g, 26, none⟩ (.int .u64 0)).setCell ⟨g, 27, none⟩ (str S)).setCell ⟨g, 28, none⟩ (.slice none 0 0)).setCell ⟨g, 29, none⟩ (.bool false)) _ _ _ _ _ _) at HO10
 change Hid (Mod [g] w9 (((((w9.setCell ⟨g, 25, none⟩ (.int .i64 2)).setCell ⟨g, 26, none⟩ (.int .u64 0)).setCell ⟨g, 27, none⟩ (str S)).setCell ⟨g, 28, none⟩ (.slice none 0 0)).setCell ⟨g, 29, none⟩ (.bool false))) at HM10
 change Hid (Mod [] w (((((w9.setCell ⟨g, 25, none⟩ (.int .i64 2)).setCell ⟨g, 26, none⟩ (.int .u64 0)).setCell ⟨g, 27, none⟩ (str S)).setCell ⟨g, 28, none⟩ (.slice none 0 0)).setCell ⟨g, 29, none⟩ (.bool false))) at HE10
 generalize (((((w9.setCell ⟨g, 25, none⟩ (.int .i64 2)).setCell ⟨g, 26, none⟩ (.int .u64 0)).setCell ⟨g, 27, none⟩ (str S)).setCell ⟨g, 28, none⟩ (.slice none 0 0)).setCell ⟨g, 29, none⟩ (.bool false)) = w10 at *
 have HR10 := hid (HR9.out.mod HM10.out (by have := HG.out; simp; omega))
 have HK10 := hid (lastK HM10.out (fun b hb => by have := HG.out; omega) HK9.out S)
 have HL10 := hid (Nat.lt_of_lt_of_le HL9.out HM10.out.size)
 clear HE9 HR9 HO9 HK9 HL9 HM10
 generalize hch : (fun i => if i = 5 then strT S else ch5 i) = ch10 at *
 generalize hac : (fun i => if i = 5 then ((none : Option Addr), 0) else ac5 i) = ac10 at *
 have Hch10 := hid hch; clear hch; clear hac
 refine (ListV_any 6 _ c' _).mono ?_
 rintro e w11 ⟨rfl, hb11⟩
 have HE11 := hid (HE10.out.trans hb11)
 have HR11 := hid (HR10.out.ext hb11)
 have HO11 := hid (ownsRow_mod HO10.out hb11 (by simp))
 have HK11 : Hid (∀ i, i < 6 → IsL w11 (fun b => N ≤ b ∧ b < w.heap.size) (ch10 i) (ac10 i).1) := fun i hi => (HK10.out i hi).ext hb11
 have HL11 := hid (Nat.lt_of_lt_of_le HL10.out hb11.size)
 clear hb11 HE10 HR10 HO10 HK10 HL10
 have HU2 : U = T.mk 4 0 [] false 6 ch10 := by rw [HU.out, ← Hch10.out, ← Hch5.out]
 have HIU : Hid (IsL w11 (fun b => b ≠ w.heap.size + 1 ∧ N ≤ b) U (some ⟨g, 0, none⟩)) := by
  rw [HU2]
  exact own_IsL HL11.out (by have := HG.out; have := hN.out; omega) HO11.out (fun i hi => IsL.weak (fun k _ hq => ⟨by omega, hq.1⟩) _ (HK11.out i hi))
 obtain ⟨c0, c1, c2, c3, c4⟩ := cells5 HR11.out
 have f0 := Blk.frozen HR11.out 0
 have f1 := Blk.frozen HR11.out 1
 have f2 := Blk.frozen HR11.out 2
 have f3 := Blk.frozen HR11.out 3
 have f4 := Blk.frozen HR11.out 4
 go_wp2_with fail
 obtain ⟨d0, d1, d2, d3, d4⟩ := cells5 (set5_blk (t := T.mk 4 0 [] false 6 ch10) (A := some ⟨g, 0, none⟩) (c := c') HR11.out)
 clear c0 c1 c2 c3 c4 f0 f1 f2 f3 f4
 show bodyPost _ _ _ _ _ (set5 w11 (w.heap.size + 1) (T.mk 4 0 [] false 6 ch10) (some ⟨g, 0, none⟩) c')
 refine bodyPost_ret (v := itemV (T.mk 4 0 [] false 6 ch10) (some ⟨g, 0, none⟩) c') (by simp [results, Tryz.results106, go_sem, d0, d1, d2, d3, d4]) rfl ?_
 refine ⟨some ⟨g, 0, none⟩, c', by rw [HU2], set5_mod HE11.out (by omega), ?_⟩
 refine IsL.weak (fun _ _ h => h.2) _ (IsL.mod (Q := fun b => b ≠ w.heap.size + 1 ∧ N ≤ b) set5_modb (fun k hq hk hm => by rw [List.mem_singleton] at hm; exact hq.1 hm) _ HIU.out)
end Go.Proofs.YtfgipgpbjfhflaaGreat


namespace Go.Proofs.YtfgipgpbjfhflaaGreat
open Go.RowKit
set_option linter.unusedVariables false
set_option linter.unusedSimpArgs false

theorem blkT_last {ty num fl crc : Nat} {data s t : List UInt8} (hc : ¬ crc = 0) (ch : Nat → T) (hch : blkT ty num fl crc data s = T.mk 4 0 [] false 6 ch) : lastT ch t = blkT ty num fl crc data t := by
 unfold blkT at hch ⊢
 rw [if_neg hc] at hch ⊢
 have h := (T.mk.inj hch).2.2.2.2.2
 subst h
 unfold lastT
 congr 1
 funext i
 by_cases e : i = 5
 · subst e; simp
 · simp [e]
theorem blkT_right {ty num fl crc : Nat} {data s : List UInt8} (d : Nat) (hd : 2 ≤ d) : (blkT ty num fl crc data s).right d = true := by
 unfold blkT T.right
 rw [if_neg (by omega)]
 simp only [Bool.and_eq_true]
 constructor
 · split <;> rfl
 ·
  rw [T.all_iff]
  intro i hi
  have hi6 : i < 6 := by split at hi <;> omega
  have hd1 : ¬ d - 1 < 1 := by omega
  have h6 : i = 0 ∨ i = 1 ∨ i = 2 ∨ i = 3 ∨ i = 4 ∨ i = 5 := by omega
  rcases h6 with rfl | rfl | rfl | rfl | rfl | rfl <;> simp [numT, strT, T.right, hd1, T.node, T.all]
theorem sum_le {f : Nat → Nat} {B : Nat} (h : ∀ i, f i ≤ B) : ∀ k, T.sum f k ≤ k * B
 | 0 => by simp [T.sum]
 | k + 1 => by have := sum_le h k; have := h k; rw [T.sum, Nat.succ_mul]; omega
theorem blkT_size {ty num fl crc : Nat} {data s : List UInt8} (h5 : data.length ≤ 4000) (h6 : s.length ≤ 4000) : (blkT ty num fl crc data s).size ≤ 100000 := by
 have hs : ∀ k, k ≤ 6 → ∀ f : Nat → Nat, (∀ i, f i ≤ 4001) → 1 + ([] : List UInt8).length + T.sum f k ≤ 100000 := fun k hk f hf => by
  have := sum_le hf k
  have : k * 4001 ≤ 6 * 4001 := Nat.mul_le_mul_right _ hk
  simp
  omega
 unfold blkT T.size
 refine hs _ (by split <;> omega) _ (fun i => ?_)
 dsimp only
 split
 · simp [numT, T.size, T.sum]
 ·
  split
  · simp [numT, T.size, T.sum]
  ·
   split
   · simp [numT, T.size, T.sum]
   ·
    split
    · simp [numT, T.size, T.sum]
    ·
     split
     · simp [strT, T.size, T.sum]; omega
     ·
      split
      · simp [strT, T.size, T.sum]; omega
      · simp [T.size]

/-- A block's item's bytes. -/
def blkB (ty num fl crc : Nat) (data sum : List UInt8) : List UInt8 :=
 headL 4 (if crc = 0 then 5 else 6) ++ headL 0 ty ++ headL 0 num ++ headL 0 fl ++ headL 0 crc ++ (headL 2 data.length ++ data) ++ (if crc = 0 then [] else headL 2 sum.length ++ sum)
theorem blkT_bytes (ty num fl crc : Nat) (data sum : List UInt8) : (blkT ty num fl crc data sum).bytes = blkB ty num fl crc data sum := by
 unfold blkT blkB
 by_cases hc : crc = 0
 ·
  subst hc
  simp [T.bytes, T.cat, numT, strT]
 · simp [hc, T.bytes, T.cat, numT, strT]
theorem blkB_length {ty num fl crc : Nat} {data sum : List UInt8} (h5 : data.length ≤ 4000) (h6 : sum.length ≤ 4000) : (blkB ty num fl crc data sum).length < 1000000 := by
 have a1 := headL_le 4 5
 have a0 := headL_le 4 6
 have a2 := headL_le 0 ty
 have a3 := headL_le 0 num
 have a4 := headL_le 0 fl
 have a5 := headL_le 0 crc
 have a6 := headL_le 2 data.length
 have a7 := headL_le 2 sum.length
 unfold blkB
 simp only [List.length_append]
 split <;> simp <;> omega
/-- The right sum of a block. -/
def sumB (ty num fl crc : Nat) (data : List UInt8) : List UInt8 := if crc = 0 then [] else Crc.sumL crc (blkB ty num fl crc data (List.replicate (2 * crc) 0))
def finT (ty num fl crc : Nat) (data : List UInt8) : T := blkT ty num fl crc data (sumB ty num fl crc data)
theorem sumB_length {ty num fl crc : Nat} {data : List UInt8} (hc : crc ≤ 2) : (sumB ty num fl crc data).length = 2 * crc := by
 unfold sumB
 split
 · subst crc; rfl
 · exact Crc.sumL_length (by omega) hc _
theorem sumOf {ty num fl crc : Nat} {data : List UInt8} (h1 : ty ≤ 65535) (h2 : num ≤ 65535) (h3 : fl ≤ 255) (h4 : crc ≤ 2) (h5 : data.length ≤ 4000) :
  Hid (∀ N A c W, N ≤ W.heap.size → IsL W (fun b => N ≤ b) (blkT ty num fl crc data []) A → Calls Tryz.prog 106 #[.int .i64 (crc : Int), itemV (blkT ty num fl crc data []) A c] W (fun e w' => ∃ A c, e = .returned (itemV (finT ty num fl crc data) A c) ∧ Ext W w' ∧ IsL w' (fun b => N ≤ b) (finT ty num fl crc data) A)) := by
 intro N A c W hN hI
 by_cases hc : crc = 0
 ·
  subst hc
  exact (summed_0 _ A c W).mono fun e w' ⟨he, hb⟩ => ⟨A, c, he, hb, hI.ext hb⟩
 ·
  obtain ⟨ch, hch⟩ : ∃ ch, blkT ty num fl crc data [] = T.mk 4 0 [] false 6 ch := ⟨_, by unfold blkT; rw [if_neg hc]⟩
  have hl : ∀ t, lastT ch t = blkT ty num fl crc data t := fun t => blkT_last hc ch hch
  have hZ : (List.replicate (2 * crc) (0 : UInt8)).length ≤ 4000 := by simp; omega
  have hB : bldL (lastT ch (List.replicate (2 * crc) 0)) = blkB ty num fl crc data (List.replicate (2 * crc) 0) := by
   rw [hl, bldL, blkT_right 8 (by omega), if_pos rfl, blkT_bytes]
  have h := summed_any ch crc (by unfold Hid; omega) h4 (by rw [hl]; exact ⟨blkT_ok h1 h2 h3 h4 h5 hZ, blkT_size h5 hZ⟩) (by rw [hB]; exact blkB_length h5 hZ) N A c W hN (by rw [hch] at hI; exact hI)
  rw [hB, hl] at h
  have he : finT ty num fl crc data = blkT ty num fl crc data (Crc.sumL crc (blkB ty num fl crc data (List.replicate (2 * crc) 0))) := by unfold finT sumB; rw [if_neg hc]
  rw [← he] at h
  rw [hch]
  exact h
theorem finV {ty num fl crc : Nat} {data : List UInt8} : buildV (finT ty num fl crc data) = .tuple #[str (blkB ty num fl crc data (sumB ty num fl crc data)), .int .i64 0] := by
 unfold buildV finT
 rw [blkT_right 8 (by omega), if_pos rfl, blkT_bytes]
theorem Build_any (ty num fl crc : Nat) (data : List UInt8) (hb : BV.right ⟨ty, num, fl, crc, data⟩ = 0) (w : World) : Calls Tryz.prog 52 #[BV.v ⟨ty, num, fl, crc, data⟩] w (Ret (.tuple #[str (blkB ty num fl crc data (sumB ty num fl crc data)), .int .i64 0]) w) := by
 have h := BV.right_zero hb
 simp only [] at h
 have hs := sumB_length (ty := ty) (num := num) (fl := fl) (data := data) (show crc ≤ 2 by omega)
 rw [← finV]
 exact Build_ok ty num fl crc data hb (finT ty num fl crc data) (blkT_ok (by omega) (by omega) (by omega) (by omega) (by omega) (by omega)) (blkT_size (by omega) (by omega)) (sumOf (by omega) (by omega) (by omega) (by omega) (by omega)) w
end Go.Proofs.YtfgipgpbjfhflaaGreat


namespace Go.Proofs.YtfgipgpbjfhflaaGreat
open Go.RowKit
set_option linter.unusedVariables false
set_option linter.unusedSimpArgs false

set_option maxRecDepth 20000 in
theorem R4B_1 (l : List UInt8) (hl : Hid (l.length < 1000000)) (w : World) : Calls Tryz.prog 40 #[.int .i64 1, str l] w (Ret (str (be (Crc.x25 l) 2)) w) := by
 have hd : Crc.x25 l < 65536 := by unfold Crc.x25; omega
 have K := hid (fun W => Sum16 l hl W)
 generalize Crc.x25 l = d at *
 have hcv : ∀ W : World, (convert 77 9 (.slice (some ⟨W.heap.size, 0, none⟩) 2 2)).run Tryz.prog (W.alloc (.cells #[.int .u8 ((d : Int) / 256), .int .u8 ((d : Int) % 256)] 5)) = .ok (str (be d 2)) (W.alloc (.cells #[.int .u8 ((d : Int) / 256), .int .u8 ((d : Int) % 256)] 5)) := fun W => by
  have := conv_new (be d 2) 2 W
  rw [be_length, be2 hd] at this
  simpa [b8_cast (show d / 256 < 256 by omega), b8_cast (show d % 256 < 256 by omega), be2 hd] using this
 go_enter Tryz.func40, Tryz.ntmps40
 go_wp2_with fail
 refine (K.out _).mono ?_
 rintro e w1 ⟨rfl, hb1⟩
 go_wp2_with fail
 go_ret
 exact Ret.mk rfl (hb1.alloc _)
set_option maxRecDepth 20000 in
theorem R4B_2 (l : List UInt8) (hl : Hid (l.length < 1000000)) (w : World) : Calls Tryz.prog 40 #[.int .i64 2, str l] w (Ret (str (be (Crc.cast l) 4)) w) := by
 have hd : Crc.cast l < 4294967296 := by unfold Crc.cast; omega
 have K := hid (fun W => Sum32 l hl W)
 generalize Crc.cast l = d at *
 have hcv : ∀ W : World, (convert 77 9 (.slice (some ⟨W.heap.size, 0, none⟩) 4 4)).run Tryz.prog (W.alloc (.cells #[.int .u8 ((d : Int) / 16777216), .int .u8 ((d : Int) / 65536 % 256), .int .u8 ((d : Int) / 256 % 256), .int .u8 ((d : Int) % 256)] 5)) = .ok (str (be d 4)) (W.alloc (.cells #[.int .u8 ((d : Int) / 16777216), .int .u8 ((d : Int) / 65536 % 256), .int .u8 ((d : Int) / 256 % 256), .int .u8 ((d : Int) % 256)] 5)) := fun W => by
  have := conv_new (be d 4) 4 W
  rw [be_length, be4 hd] at this
  simpa [b8_cast (show d / 16777216 < 256 by omega), b8_cast (show d / 65536 % 256 < 256 by omega), b8_cast (show d / 256 % 256 < 256 by omega), b8_cast (show d % 256 < 256 by omega), be4 hd] using this
 go_enter Tryz.func40, Tryz.ntmps40
 go_wp2_with fail
 refine (K.out _).mono ?_
 rintro e w1 ⟨rfl, hb1⟩
 go_wp2_with fail
 go_ret
 exact Ret.mk rfl (hb1.alloc _)
theorem R4B_0 (l : List UInt8) (w : World) : Calls Tryz.prog 40 #[.int .i64 0, str l] w (Ret (str []) w) := by
 go_enter Tryz.func40, Tryz.ntmps40
 go_wp2_with fail
 go_ret
 exact Ret.mk rfl (Mod.refl _ _)
theorem R4B_any (k : Nat) (h2 : k ≤ 2) (l : List UInt8) (hl : Hid (l.length < 1000000)) (w : World) : Calls Tryz.prog 40 #[.int .i64 (k : Int), str l] w (Ret (str (if k = 0 then [] else Crc.sumL k l)) w) := by
 have : k = 0 ∨ k = 1 ∨ k = 2 := by omega
 rcases this with rfl | rfl | rfl
 · exact R4B_0 l w
 · exact R4B_1 l hl w
 · exact R4B_2 l hl w

abbrev numsV (ty num fl crc : Nat) : Value := .agg #[.int .u64 (ty : Int), .int .u64 (num : Int), .int .u64 (fl : Int), .int .u64 (crc : Int)]
set_option maxRecDepth 20000 in
theorem nums_any (ty num fl crc : Nat) (data : List UInt8) (h1 : ty ≤ 65535) (h2 : num ≤ 65535) (h3 : crc ≤ 2) (w : World) : Calls Tryz.prog 42 #[BV.v ⟨ty, num, fl, crc, data⟩] w (Ret (numsV ty num fl crc) w) := by
 have t1 : IntKind.u64.wrap (ty : Int) = (ty : Int) := IntWalk.u64_in _ (by omega)
 have t2 : IntKind.u64.wrap (num : Int) = (num : Int) := IntWalk.u64_in _ (by omega)
 have t3 : IntKind.u64.wrap (crc : Int) = (crc : Int) := IntWalk.u64_in _ (by omega)
 go_enter Tryz.func42, Tryz.ntmps42
 go_wp2_with fail
 refine bodyPost_ret (v := numsV ty num fl crc) (by simp [results, Tryz.results42, go_sem]) rfl (Ret.mk rfl (((Mod.refl _ _).alloc _).alloc _))
def num4 (ty num fl crc i : Nat) : Nat := if i = 0 then ty else if i = 1 then num else if i = 2 then fl else crc
def cat4 (ty num fl crc : Nat) (j : Nat) : List UInt8 := T.cat (fun i => headL 0 (num4 ty num fl crc i)) j
theorem cat4_le (ty num fl crc : Nat) : ∀ j, (cat4 ty num fl crc j).length ≤ 9 * j
 | 0 => by simp [cat4, T.cat]
 | j + 1 => by
  have h := cat4_le ty num fl crc j
  have := headL_le 0 (num4 ty num fl crc j)
  unfold cat4 at h ⊢
  rw [T.cat, List.length_append]
  omega
theorem rHead_n (m n : Nat) (hm : m ≤ 7) (hn : n < 18446744073709551616) (w : World) : Calls Tryz.prog 73 #[.int .i64 (m : Int), .int .u64 (n : Int)] w (Ret (str (headL m n)) w) := by
 simpa using rhead_in (m : Int) (n : Int) (by omega) (by omega) (by omega) (by omega) w

set_option maxRecDepth 20000 in
set_option maxHeartbeats 800000 in
theorem rbytes_0 (ty num fl : Nat) (data sum : List UInt8) (h1 : Hid (ty ≤ 65535)) (h2 : Hid (num ≤ 65535)) (h3 : Hid (fl ≤ 255)) (hd : Hid (data.length ≤ 4000)) (hs : Hid (sum.length ≤ 4000)) (w : World) : Calls Tryz.prog 43 #[numsV ty num fl 0, str data, str sum] w (Ret (str (blkB ty num fl 0 data sum)) w) := by
 have HC : Hid (∀ W, Ext (w.alloc (.cells #[.int .u64 (ty : Int), .int .u64 (num : Int), .int .u64 (fl : Int), .int .u64 0] 78)) W → ∀ j, j < 4 → W.cell? ⟨w.heap.size, j, none⟩ = some (.int .u64 ((num4 ty num fl 0 j : Nat) : Int))) := fun W hW j hj => by
  have hB := (Blk.new w 78 #[.int .u64 (ty : Int), .int .u64 (num : Int), .int .u64 (fl : Int), .int .u64 0]).ext hW
  have h4 : j = 0 ∨ j = 1 ∨ j = 2 ∨ j = 3 := by omega
  rcases h4 with rfl | rfl | rfl | rfl
  · exact hB.cell 0
  · exact hB.cell 1
  · exact hB.cell 2
  · exact hB.cell 3
 have HN : Hid (∀ j, num4 ty num fl 0 j < 18446744073709551616) := fun j => by
  have := h1.out; have := h2.out; have := h3.out
  unfold num4
  split
  · omega
  ·
   split
   · omega
   · split <;> omega
 have K5 := hid (fun W => rBytes_any data (by have := hd.out; unfold Hid; omega) W)
 have K6 := hid (fun W => rBytes_any sum (by have := hs.out; unfold Hid; omega) W)
 have KH := hid (fun W => rHead_n 4 5 (by omega) (by omega) W)
 have HE := hid ((Mod.refl [] w).alloc (.cells #[.int .u64 (ty : Int), .int .u64 (num : Int), .int .u64 (fl : Int), .int .u64 0] 78))
 have hblk : blkB ty num fl 0 data sum = (headL 4 5 ++ cat4 ty num fl 0 4) ++ (headL 2 data.length ++ data) := by
  simp [blkB, cat4, T.cat, num4]
 have HBK := hid hblk; clear hblk
 go_enter Tryz.func43, Tryz.ntmps43
 go_wp2_with fail
 generalize w.alloc (.cells #[.int .u64 (ty : Int), .int .u64 (num : Int), .int .u64 (fl : Int), .int .u64 0] 78) = V at *
 refine (KH.out _).mono ?_
 rintro e w1 ⟨rfl, hb1⟩
 have HB1 := hid hb1
 clear hb1
 go_wp2_with fail
 have hh4 := headL_le 4 5
 generalize headL 4 5 = P at *
 go_loopw [8, 9] (fun s i wr => ∃ j : Nat, j ≤ 4 ∧ i = .int .i64 j ∧ s = str (P ++ cat4 ty num fl 0 j) ∧ Ext V wr) (fun _ i _ => 4 - (intOf i).toNat)
 case atStart => exact ⟨0, Nat.zero_le _, rfl, by simp [cat4, T.cat], HB1.out⟩
 case round =>
  obtain ⟨j, hj, rfl, rfl, hw⟩ := hrel
  have hcl := cat4_le ty num fl 0 j
  by_cases hlt : j < 4
  ·
   have hcell := HC.out wr hw j hlt
   have HS : Hid (cat4 ty num fl 0 (j + 1) = cat4 ty num fl 0 j ++ headL 0 (num4 ty num fl 0 j)) := rfl
   have K := hid (fun W => rHead_n 0 (num4 ty num fl 0 j) (by omega) (HN.out j) W)
   have hl2 := headL_le 0 (num4 ty num fl 0 j)
   generalize num4 ty num fl 0 j = x at *
   generalize headL 0 x = y at *
   generalize cat4 ty num fl 0 j = z at *
   have HW := hid hw
   clear hw
   go_wp2_with fail
   refine (K.out _).mono ?_
   rintro e w2 ⟨rfl, hb2⟩
   have hlen : (P ++ z).length + y.length ≤ 100 := by rw [List.length_append]; omega
   generalize hq : P ++ z = q at *
   have HQ := hid hq; clear hq
   have hlx : ¬ 9223372036854775807 < q.length + y.length := by omega
   go_wp2_with fail
   go_roundw
   case rel => exact ⟨j + 1, by omega, by go_num, by rw [HS.out, ← List.append_assoc, HQ.out]; exact str_app _ _, HW.out.trans hb2⟩
   case measure => simp [intOf]; omega
  ·
   obtain rfl : j = 4 := by omega
   have HW := hid hw
   clear hw
   have hp2 : (P ++ cat4 ty num fl 0 4).length ≤ 100 := by rw [List.length_append]; omega
   generalize P ++ cat4 ty num fl 0 4 = q at *
   go_wp2_with fail
   refine (K5.out _).mono ?_
   rintro e w2 ⟨rfl, hb2⟩
   have HB2 := hid (HW.out.trans hb2)
   clear hb2
   have hd2 : (headL 2 data.length ++ data).length ≤ 5000 := by have := headL_le 2 data.length; have := hd.out; rw [List.length_append]; omega
   have hs2 : (headL 2 sum.length ++ sum).length ≤ 5000 := by have := headL_le 2 sum.length; have := hs.out; rw [List.length_append]; omega
   generalize headL 2 data.length ++ data = dd at *
   generalize headL 2 sum.length ++ sum = ss at *
   have hlx : ¬ 9223372036854775807 < q.length + dd.length := by omega
   go_wp2_with fail
   go_ret
   refine Ret.mk ?_ (HE.out.trans HB2.out)
   rw [HBK.out]
   exact str_app _ _

set_option maxRecDepth 20000 in
set_option maxHeartbeats 800000 in
theorem rbytes_1 (ty num fl : Nat) (data sum : List UInt8) (h1 : Hid (ty ≤ 65535)) (h2 : Hid (num ≤ 65535)) (h3 : Hid (fl ≤ 255)) (hd : Hid (data.length ≤ 4000)) (hs : Hid (sum.length ≤ 4000)) (w : World) : Calls Tryz.prog 43 #[numsV ty num fl 1, str data, str sum] w (Ret (str (blkB ty num fl 1 data sum)) w) := by
 have HC : Hid (∀ W, Ext (w.alloc (.cells #[.int .u64 (ty : Int), .int .u64 (num : Int), .int .u64 (fl : Int), .int .u64 1] 78)) W → ∀ j, j < 4 → W.cell? ⟨w.heap.size, j, none⟩ = some (.int .u64 ((num4 ty num fl 1 j : Nat) : Int))) := fun W hW j hj => by
  have hB := (Blk.new w 78 #[.int .u64 (ty : Int), .int .u64 (num : Int), .int .u64 (fl : Int), .int .u64 1]).ext hW
  have h4 : j = 0 ∨ j = 1 ∨ j = 2 ∨ j = 3 := by omega
  rcases h4 with rfl | rfl | rfl | rfl
  · exact hB.cell 0
  · exact hB.cell 1
  · exact hB.cell 2
  · exact hB.cell 3
 have HN : Hid (∀ j, num4 ty num fl 1 j < 18446744073709551616) := fun j => by
  have := h1.out; have := h2.out; have := h3.out
  unfold num4
  split
  · omega
  ·
   split
   · omega
   · split <;> omega
 have K5 := hid (fun W => rBytes_any data (by have := hd.out; unfold Hid; omega) W)
 have K6 := hid (fun W => rBytes_any sum (by have := hs.out; unfold Hid; omega) W)
 have KH := hid (fun W => rHead_n 4 6 (by omega) (by omega) W)
 have HE := hid ((Mod.refl [] w).alloc (.cells #[.int .u64 (ty : Int), .int .u64 (num : Int), .int .u64 (fl : Int), .int .u64 1] 78))
 have hblk : blkB ty num fl 1 data sum = (headL 4 6 ++ cat4 ty num fl 1 4) ++ (headL 2 data.length ++ data) ++ (headL 2 sum.length ++ sum) := by
  simp [blkB, cat4, T.cat, num4]
 have HBK := hid hblk; clear hblk
 go_enter Tryz.func43, Tryz.ntmps43
 go_wp2_with fail
 generalize w.alloc (.cells #[.int .u64 (ty : Int), .int .u64 (num : Int), .int .u64 (fl : Int), .int .u64 1] 78) = V at *
 refine (KH.out _).mono ?_
 rintro e w1 ⟨rfl, hb1⟩
 have HB1 := hid hb1
 clear hb1
 go_wp2_with fail
 have hh4 := headL_le 4 6
 generalize headL 4 6 = P at *
 go_loopw [8, 9] (fun s i wr => ∃ j : Nat, j ≤ 4 ∧ i = .int .i64 j ∧ s = str (P ++ cat4 ty num fl 1 j) ∧ Ext V wr) (fun _ i _ => 4 - (intOf i).toNat)
 case atStart => exact ⟨0, Nat.zero_le _, rfl, by simp [cat4, T.cat], HB1.out⟩
 case round =>
  obtain ⟨j, hj, rfl, rfl, hw⟩ := hrel
  have hcl := cat4_le ty num fl 1 j
  by_cases hlt : j < 4
  ·
   have hcell := HC.out wr hw j hlt
   have HS : Hid (cat4 ty num fl 1 (j + 1) = cat4 ty num fl 1 j ++ headL 0 (num4 ty num fl 1 j)) := rfl
   have K := hid (fun W => rHead_n 0 (num4 ty num fl 1 j) (by omega) (HN.out j) W)
   have hl2 := headL_le 0 (num4 ty num fl 1 j)
   generalize num4 ty num fl 1 j = x at *
   generalize headL 0 x = y at *
   generalize cat4 ty num fl 1 j = z at *
   have HW := hid hw
   clear hw
   go_wp2_with fail
   refine (K.out _).mono ?_
   rintro e w2 ⟨rfl, hb2⟩
   have hlen : (P ++ z).length + y.length ≤ 100 := by rw [List.length_append]; omega
   generalize hq : P ++ z = q at *
   have HQ := hid hq; clear hq
   have hlx : ¬ 9223372036854775807 < q.length + y.length := by omega
   go_wp2_with fail
   go_roundw
   case rel => exact ⟨j + 1, by omega, by go_num, by rw [HS.out, ← List.append_assoc, HQ.out]; exact str_app _ _, HW.out.trans hb2⟩
   case measure => simp [intOf]; omega
  ·
   obtain rfl : j = 4 := by omega
   have HW := hid hw
   clear hw
   have hp2 : (P ++ cat4 ty num fl 1 4).length ≤ 100 := by rw [List.length_append]; omega
   generalize P ++ cat4 ty num fl 1 4 = q at *
   go_wp2_with fail
   refine (K5.out _).mono ?_
   rintro e w2 ⟨rfl, hb2⟩
   have HB2 := hid (HW.out.trans hb2)
   clear hb2
   have hd2 : (headL 2 data.length ++ data).length ≤ 5000 := by have := headL_le 2 data.length; have := hd.out; rw [List.length_append]; omega
   have hs2 : (headL 2 sum.length ++ sum).length ≤ 5000 := by have := headL_le 2 sum.length; have := hs.out; rw [List.length_append]; omega
   generalize headL 2 data.length ++ data = dd at *
   generalize headL 2 sum.length ++ sum = ss at *
   have hlx : ¬ 9223372036854775807 < q.length + dd.length := by omega
   go_wp2_with fail
   refine (K6.out _).mono ?_
   rintro e w3 ⟨rfl, hb3⟩
   have HB3 := hid (HB2.out.trans hb3)
   clear hb3
   have hq3 : (q ++ dd).length ≤ 10000 := by rw [List.length_append]; omega
   rw [str_app q dd]
   generalize hqd : q ++ dd = r at *
   have HQD := hid hqd; clear hqd
   have hly : ¬ 9223372036854775807 < r.length + ss.length := by omega
   go_wp2_with fail
   go_ret
   refine Ret.mk ?_ (HE.out.trans HB3.out)
   rw [HBK.out]
   exact str_app _ _

set_option maxRecDepth 20000 in
set_option maxHeartbeats 800000 in
theorem rbytes_2 (ty num fl : Nat) (data sum : List UInt8) (h1 : Hid (ty ≤ 65535)) (h2 : Hid (num ≤ 65535)) (h3 : Hid (fl ≤ 255)) (hd : Hid (data.length ≤ 4000)) (hs : Hid (sum.length ≤ 4000)) (w : World) : Calls Tryz.prog 43 #[numsV ty num fl 2, str data, str sum] w (Ret (str (blkB ty num fl 2 data sum)) w) := by
 have HC : Hid (∀ W, Ext (w.alloc (.cells #[.int .u64 (ty : Int), .int .u64 (num : Int), .int .u64 (fl : Int), .int .u64 2] 78)) W → ∀ j, j < 4 → W.cell? ⟨w.heap.size, j, none⟩ = some (.int .u64 ((num4 ty num fl 2 j : Nat) : Int))) := fun W hW j hj => by
  have hB := (Blk.new w 78 #[.int .u64 (ty : Int), .int .u64 (num : Int), .int .u64 (fl : Int), .int .u64 2]).ext hW
  have h4 : j = 0 ∨ j = 1 ∨ j = 2 ∨ j = 3 := by omega
  rcases h4 with rfl | rfl | rfl | rfl
  · exact hB.cell 0
  · exact hB.cell 1
  · exact hB.cell 2
  · exact hB.cell 3
 have HN : Hid (∀ j, num4 ty num fl 2 j < 18446744073709551616) := fun j => by
  have := h1.out; have := h2.out; have := h3.out
  unfold num4
  split
  · omega
  ·
   split
   · omega
   · split <;> omega
 have K5 := hid (fun W => rBytes_any data (by have := hd.out; unfold Hid; omega) W)
 have K6 := hid (fun W => rBytes_any sum (by have := hs.out; unfold Hid; omega) W)
 have KH := hid (fun W => rHead_n 4 6 (by omega) (by omega) W)
 have HE := hid ((Mod.refl [] w).alloc (.cells #[.int .u64 (ty : Int), .int .u64 (num : Int), .int .u64 (fl : Int), .int .u64 2] 78))
 have hblk : blkB ty num fl 2 data sum = (headL 4 6 ++ cat4 ty num fl 2 4) ++ (headL 2 data.length ++ data) ++ (headL 2 sum.length ++ sum) := by
  simp [blkB, cat4, T.cat, num4]
 have HBK := hid hblk; clear hblk
 go_enter Tryz.func43, Tryz.ntmps43
 go_wp2_with fail
 generalize w.alloc (.cells #[.int .u64 (ty : Int), .int .u64 (num : Int), .int .u64 (fl : Int), .int .u64 2] 78) = V at *
 refine (KH.out _).mono ?_
 rintro e w1 ⟨rfl, hb1⟩
 have HB1 := hid hb1
 clear hb1
 go_wp2_with fail
 have hh4 := headL_le 4 6
 generalize headL 4 6 = P at *
 go_loopw [8, 9] (fun s i wr => ∃ j : Nat, j ≤ 4 ∧ i = .int .i64 j ∧ s = str (P ++ cat4 ty num fl 2 j) ∧ Ext V wr) (fun _ i _ => 4 - (intOf i).toNat)
 case atStart => exact ⟨0, Nat.zero_le _, rfl, by simp [cat4, T.cat], HB1.out⟩
 case round =>
  obtain ⟨j, hj, rfl, rfl, hw⟩ := hrel
  have hcl := cat4_le ty num fl 2 j
  by_cases hlt : j < 4
  ·
   have hcell := HC.out wr hw j hlt
   have HS : Hid (cat4 ty num fl 2 (j + 1) = cat4 ty num fl 2 j ++ headL 0 (num4 ty num fl 2 j)) := rfl
   have K := hid (fun W => rHead_n 0 (num4 ty num fl 2 j) (by omega) (HN.out j) W)
   have hl2 := headL_le 0 (num4 ty num fl 2 j)
   generalize num4 ty num fl 2 j = x at *
   generalize headL 0 x = y at *
   generalize cat4 ty num fl 2 j = z at *
   have HW := hid hw
   clear hw
   go_wp2_with fail
   refine (K.out _).mono ?_
   rintro e w2 ⟨rfl, hb2⟩
   have hlen : (P ++ z).length + y.length ≤ 100 := by rw [List.length_append]; omega
   generalize hq : P ++ z = q at *
   have HQ := hid hq; clear hq
   have hlx : ¬ 9223372036854775807 < q.length + y.length := by omega
   go_wp2_with fail
   go_roundw
   case rel => exact ⟨j + 1, by omega, by go_num, by rw [HS.out, ← List.append_assoc, HQ.out]; exact str_app _ _, HW.out.trans hb2⟩
   case measure => simp [intOf]; omega
  ·
   obtain rfl : j = 4 := by omega
   have HW := hid hw
   clear hw
   have hp2 : (P ++ cat4 ty num fl 2 4).length ≤ 100 := by rw [List.length_append]; omega
   generalize P ++ cat4 ty num fl 2 4 = q at *
   go_wp2_with fail
   refine (K5.out _).mono ?_
   rintro e w2 ⟨rfl, hb2⟩
   have HB2 := hid (HW.out.trans hb2)
   clear hb2
   have hd2 : (headL 2 data.length ++ data).length ≤ 5000 := by have := headL_le 2 data.length; have := hd.out; rw [List.length_append]; omega
   have hs2 : (headL 2 sum.length ++ sum).length ≤ 5000 := by have := headL_le 2 sum.length; have := hs.out; rw [List.length_append]; omega
   generalize headL 2 data.length ++ data = dd at *
   generalize headL 2 sum.length ++ sum = ss at *
   have hlx : ¬ 9223372036854775807 < q.length + dd.length := by omega
   go_wp2_with fail
   refine (K6.out _).mono ?_
   rintro e w3 ⟨rfl, hb3⟩
   have HB3 := hid (HB2.out.trans hb3)
   clear hb3
   have hq3 : (q ++ dd).length ≤ 10000 := by rw [List.length_append]; omega
   rw [str_app q dd]
   generalize hqd : q ++ dd = r at *
   have HQD := hid hqd; clear hqd
   have hly : ¬ 9223372036854775807 < r.length + ss.length := by omega
   go_wp2_with fail
   go_ret
   refine Ret.mk ?_ (HE.out.trans HB3.out)
   rw [HBK.out]
   exact str_app _ _

theorem rbytes_any (ty num fl crc : Nat) (hc : crc ≤ 2) (data sum : List UInt8) (h1 : Hid (ty ≤ 65535)) (h2 : Hid (num ≤ 65535)) (h3 : Hid (fl ≤ 255)) (hd : Hid (data.length ≤ 4000)) (hs : Hid (sum.length ≤ 4000)) (w : World) : Calls Tryz.prog 43 #[numsV ty num fl crc, str data, str sum] w (Ret (str (blkB ty num fl crc data sum)) w) := by
 have : crc = 0 ∨ crc = 1 ∨ crc = 2 := by omega
 rcases this with rfl | rfl | rfl
 · exact rbytes_0 ty num fl data sum h1 h2 h3 hd hs w
 · exact rbytes_1 ty num fl data sum h1 h2 h3 hd hs w
 · exact rbytes_2 ty num fl data sum h1 h2 h3 hd hs w
end Go.Proofs.YtfgipgpbjfhflaaGreat


namespace Go.Proofs.YtfgipgpbjfhflaaGreat
open Go.RowKit
set_option linter.unusedVariables false
set_option linter.unusedSimpArgs false

theorem infoByte8 : (Tryz.prog.info? 5).map (fun i => (i.zero, i.size, i.bytes)) = some (some (.int .u8 0), 1, 1) := by kernel_rfl
/-- Bytes made, as a string. -/
theorem conv_made (k c : Nat) (W : World) : (convert 77 9 (.slice (some ⟨W.heap.size, 0, none⟩) k c)).run Tryz.prog (W.alloc (.cells (madeCells #[.int .u8 0] k) 5)) = .ok (str (List.replicate k 0)) (W.alloc (.cells (madeCells #[.int .u8 0] k) 5)) := by
 have h := run_convert_bytes_back (P := Tryz.prog) (W.alloc (.cells (madeCells #[.int .u8 0] k) 5)) 77 9 5 ⟨W.heap.size, 0, none⟩ c (List.replicate k 0) Tryz.underlying77 Tryz.underlying5 Tryz.underlying9 (fun j hj => by
  rw [addr_add, Nat.zero_add, (Blk.new W 5 _).cell j]
  rw [List.length_replicate] at hj
  have := toList_madeCells_one (.int .u8 0) k
  rw [← Array.getElem?_toList, this, List.getElem?_replicate, if_pos hj]
  simp)
 rw [List.length_replicate] at h
 exact h
set_option maxRecDepth 20000 in
set_option maxHeartbeats 800000 in
theorem rBuild_ok (ty num fl crc : Nat) (data : List UInt8) (h1 : Hid (ty ≤ 65535)) (h2 : Hid (num ≤ 65535)) (h3 : Hid (fl ≤ 255)) (h4 : Hid (crc ≤ 2)) (h5 : Hid (data.length ≤ 4000)) (w : World) : Calls Tryz.prog 27 #[BV.v ⟨ty, num, fl, crc, data⟩] w (Ret (str (blkB ty num fl crc data (sumB ty num fl crc data))) w) := by
 have HB := hid (Blk.new w 42 (BV.c ⟨ty, num, fl, crc, data⟩))
 have HE0 := hid ((Mod.refl [] w).alloc (.cells (BV.c ⟨ty, num, fl, crc, data⟩) 42))
 go_enter Tryz.func27, Tryz.ntmps27
 go_wp2_with fail
 refine (nums_any ty num fl crc data h1.out h2.out h4.out _).mono ?_
 rintro e w1 ⟨rfl, hb1⟩
 have HE1 := hid (HE0.out.trans hb1)
 have HB1 := hid (HB.out.ext hb1)
 clear hb1
 have hmk : ∀ W : World, (Instr.makeSlice 77 (.int .i64 (2 * (crc : Int))) (.int .i64 (2 * (crc : Int)))).run Tryz.prog W = .ok (.slice (some ⟨W.heap.size, 0, none⟩) (2 * crc) (2 * crc)) (W.alloc (.cells (madeCells #[.int .u8 0] (2 * crc)) 5)) := by
  intro W
  have := run_make_row' (P := Tryz.prog) 77 5 (.int .u8 0) 1 Tryz.underlying77 infoByte8 rfl .i64 .i64 (2 * crc) (by have := h4.out; omega) (by have := h4.out; omega) W
  simpa using this
 have hcv := conv_made (2 * crc) (2 * crc)
 have twr : IntKind.i64.wrap (2 * (crc : Int)) = 2 * (crc : Int) := IntWalk.i64_in _ (by have := h4.out; omega)
 have KB := hid (fun W => rbytes_any ty num fl crc h4.out data (List.replicate (2 * crc) 0) h1 h2 h3 h5 (by have := h4.out; unfold Hid; simp; omega) W)
 have KC := hid (fun W => R4B_any crc h4.out (blkB ty num fl crc data (List.replicate (2 * crc) 0)) (blkB_length h5.out (by have := h4.out; simp; omega)) W)
 have KE := hid (fun W => rbytes_any ty num fl crc h4.out data (sumB ty num fl crc data) h1 h2 h3 h5 (by have := h4.out; unfold Hid; rw [sumB_length h4.out]; omega) W)
 have hsb : (if crc = 0 then [] else Crc.sumL crc (blkB ty num fl crc data (List.replicate (2 * crc) 0))) = sumB ty num fl crc data := rfl
 rw [hsb] at KC
 clear hsb
 generalize blkB ty num fl crc data (List.replicate (2 * crc) 0) = X at *
 generalize sumB ty num fl crc data = Y at *
 generalize blkB ty num fl crc data Y = Z at *
 go_upto_region 2 with fail
 have HL1 := hid (Blk.new w1 78 #[.int .u64 (ty : Int), .int .u64 (num : Int), .int .u64 (fl : Int), .int .u64 (crc : Int)])
 have HB2 := hid (HB1.out.alloc (.cells #[.int .u64 (ty : Int), .int .u64 (num : Int), .int .u64 (fl : Int), .int .u64 (crc : Int)] 78))
 have HE2 := hid (HE1.out.alloc (.cells #[.int .u64 (ty : Int), .int .u64 (num : Int), .int .u64 (fl : Int), .int .u64 (crc : Int)] 78))
 generalize w1.alloc (.cells #[.int .u64 (ty : Int), .int .u64 (num : Int), .int .u64 (fl : Int), .int .u64 (crc : Int)] 78) = V at *
 have HS : Hid (∀ w', Ext V w' → w'.cell? ⟨w.heap.size, 3, none⟩ = some (.int .i64 (crc : Int)) ∧ w'.cell? ⟨w.heap.size, 4, none⟩ = some (str data) ∧ w'.cell? ⟨w1.heap.size, 0, none⟩ = some (.int .u64 (ty : Int)) ∧ w'.cell? ⟨w1.heap.size, 1, none⟩ = some (.int .u64 (num : Int)) ∧ w'.cell? ⟨w1.heap.size, 2, none⟩ = some (.int .u64 (fl : Int)) ∧ w'.cell? ⟨w1.heap.size, 3, none⟩ = some (.int .u64 (crc : Int))) := fun W hW => by
  have b1 := HB2.out.ext hW
  have b2 := HL1.out.ext hW
  exact ⟨b1.cell 3, b1.cell 4, b2.cell 0, b2.cell 1, b2.cell 2, b2.cell 3⟩
 obtain ⟨p0, p1, p2, p3, p4, p5⟩ := HS.out V (Mod.refl _ _)
 have hcv2 : (convert 77 9 (.slice (some ⟨V.heap.size, 0, none⟩) (2 * crc) (2 * crc))).run Tryz.prog (V.alloc (.cells (madeCells #[.int .u8 0] (2 * crc)) 5)).drew = .ok (str (List.replicate (2 * crc) 0)) (V.alloc (.cells (madeCells #[.int .u8 0] (2 * crc)) 5)).drew := hcv V.drew
 go_region_held (fun w' => w'.cell? ⟨w.heap.size, 3, none⟩ = some (.int .i64 (crc : Int)) ∧ w'.cell? ⟨w.heap.size, 4, none⟩ = some (str data) ∧ w'.cell? ⟨w1.heap.size, 0, none⟩ = some (.int .u64 (ty : Int)) ∧ w'.cell? ⟨w1.heap.size, 1, none⟩ = some (.int .u64 (num : Int)) ∧ w'.cell? ⟨w1.heap.size, 2, none⟩ = some (.int .u64 (fl : Int)) ∧ w'.cell? ⟨w1.heap.size, 3, none⟩ = some (.int .u64 (crc : Int))) (go_keep)
  (first
   | (go_at_call 43; refine (KB.out _).mono ?_; rintro x w3 ⟨rfl, hb3⟩; have hx : Ext V w3 := (by (with_reducible refine Mod.trans ?_ hb3); (repeat (first | with_reducible assumption | with_reducible exact Mod.refl _ _ | with_reducible refine Mod.drew ?_ | with_reducible refine Mod.alloc ?_ _))); have z := HS.out w3 hx)
   | (go_at_call 40; refine (KC.out _).mono ?_; rintro x w4 ⟨rfl, hb4⟩; have hx : Ext V w4 := (by (with_reducible refine Mod.trans ?_ hb4); (repeat (first | with_reducible assumption | with_reducible exact Mod.refl _ _ | with_reducible refine Mod.drew ?_ | with_reducible refine Mod.alloc ?_ _))); have z := HS.out w4 hx))
 all_goals obtain ⟨q0, q1, q2, q3, q4, q5⟩ := HS.out w4 hx
 all_goals go_wp2_with fail
 all_goals refine (KE.out _).mono ?_
 all_goals rintro e w5 ⟨rfl, hb5⟩
 all_goals go_wp2_with fail
 all_goals go_ret
 all_goals exact Ret.mk rfl (HE2.out.trans (hx.trans (by first | exact hb5 | exact (Mod.refl _ _).drew.trans hb5)))
end Go.Proofs.YtfgipgpbjfhflaaGreat


namespace Go.Proofs.YtfgipgpbjfhflaaGreat
open Go.RowKit
set_option linter.unusedVariables false
set_option linter.unusedSimpArgs false

set_option maxRecDepth 20000 in
theorem r11Count_any (p : PV) (hf : p.fl < 18446744073709551616) (k : Nat) (hk : k ≤ 2) (w : World) : Calls Tryz.prog 74 #[.int .u64 (p.fl : Int), .int .u64 (k : Int)] w (Ret (.int .i64 ((priN p k : Nat) : Int)) w) := by
 have h3 : k = 0 ∨ k = 1 ∨ k = 2 := by omega
 cases hh : has p.fl 1 <;> rcases h3 with rfl | rfl | rfl
 ·
  have hx : ¬ p.fl % 2 = 1 := by simpa [has] using hh
  have KH : Hid (∀ W, Calls Tryz.prog 17 #[.int .u64 (p.fl : Int), .int .i64 1] W (Ret (.bool false) W)) := fun W => by have := Has_any p.fl 1 hf (by omega) (by omega) W; rw [hh] at this; exact this
  have HN : Hid (priN p 0 = 8) := by unfold Hid priN; simp [hx]
  clear hh hx hf
  go_enter Tryz.func74, Tryz.ntmps74
  go_wp2_with (go_at_call 17; refine (KH.out _).mono ?_; rintro x w1 ⟨rfl, hb1⟩)
  go_ret
  exact Ret.mk (by rw [HN.out]; rfl) hb1
 ·
  have hx : ¬ p.fl % 2 = 1 := by simpa [has] using hh
  have KH : Hid (∀ W, Calls Tryz.prog 17 #[.int .u64 (p.fl : Int), .int .i64 1] W (Ret (.bool false) W)) := fun W => by have := Has_any p.fl 1 hf (by omega) (by omega) W; rw [hh] at this; exact this
  have HN : Hid (priN p 1 = 9) := by unfold Hid priN; simp [hx]
  clear hh hx hf
  go_enter Tryz.func74, Tryz.ntmps74
  go_wp2_with (go_at_call 17; refine (KH.out _).mono ?_; rintro x w1 ⟨rfl, hb1⟩)
  go_ret
  exact Ret.mk (by rw [HN.out]; rfl) hb1
 ·
  have hx : ¬ p.fl % 2 = 1 := by simpa [has] using hh
  have KH : Hid (∀ W, Calls Tryz.prog 17 #[.int .u64 (p.fl : Int), .int .i64 1] W (Ret (.bool false) W)) := fun W => by have := Has_any p.fl 1 hf (by omega) (by omega) W; rw [hh] at this; exact this
  have HN : Hid (priN p 2 = 9) := by unfold Hid priN; simp [hx]
  clear hh hx hf
  go_enter Tryz.func74, Tryz.ntmps74
  go_wp2_with (go_at_call 17; refine (KH.out _).mono ?_; rintro x w1 ⟨rfl, hb1⟩)
  go_ret
  exact Ret.mk (by rw [HN.out]; rfl) hb1
 ·
  have hx : p.fl % 2 = 1 := by simpa [has] using hh
  have KH : Hid (∀ W, Calls Tryz.prog 17 #[.int .u64 (p.fl : Int), .int .i64 1] W (Ret (.bool true) W)) := fun W => by have := Has_any p.fl 1 hf (by omega) (by omega) W; rw [hh] at this; exact this
  have HN : Hid (priN p 0 = 10) := by unfold Hid priN; simp [hx]
  clear hh hx hf
  go_enter Tryz.func74, Tryz.ntmps74
  go_wp2_with (go_at_call 17; refine (KH.out _).mono ?_; rintro x w1 ⟨rfl, hb1⟩)
  go_ret
  exact Ret.mk (by rw [HN.out]; rfl) hb1
 ·
  have hx : p.fl % 2 = 1 := by simpa [has] using hh
  have KH : Hid (∀ W, Calls Tryz.prog 17 #[.int .u64 (p.fl : Int), .int .i64 1] W (Ret (.bool true) W)) := fun W => by have := Has_any p.fl 1 hf (by omega) (by omega) W; rw [hh] at this; exact this
  have HN : Hid (priN p 1 = 11) := by unfold Hid priN; simp [hx]
  clear hh hx hf
  go_enter Tryz.func74, Tryz.ntmps74
  go_wp2_with (go_at_call 17; refine (KH.out _).mono ?_; rintro x w1 ⟨rfl, hb1⟩)
  go_ret
  exact Ret.mk (by rw [HN.out]; rfl) hb1
 ·
  have hx : p.fl % 2 = 1 := by simpa [has] using hh
  have KH : Hid (∀ W, Calls Tryz.prog 17 #[.int .u64 (p.fl : Int), .int .i64 1] W (Ret (.bool true) W)) := fun W => by have := Has_any p.fl 1 hf (by omega) (by omega) W; rw [hh] at this; exact this
  have HN : Hid (priN p 2 = 11) := by unfold Hid priN; simp [hx]
  clear hh hx hf
  go_enter Tryz.func74, Tryz.ntmps74
  go_wp2_with (go_at_call 17; refine (KH.out _).mono ?_; rintro x w1 ⟨rfl, hb1⟩)
  go_ret
  exact Ret.mk (by rw [HN.out]; rfl) hb1
theorem rBytesE (E : EV) (hE : E.ok = true) (B : Option Addr) (W : World) (hW : IsL W (fun _ => True) (eidT E) B) : Calls Tryz.prog 75 #[itemV (eidT E) B 2] W (Ret (str (eidT E).bytes) W) := rBytesI_any _ (eidT_ok hE).1 (eidT_ok hE).2.2.1 (eidT_ok hE).2.2.2 B 2 W hW
theorem eidT_len {e : EV} (ho : e.ok = true) : (eidT e).bytes.length ≤ 10000 := by
 have a := T.bytes_le (eidT e)
 have b := eidT_small ho
 omega
set_option maxRecDepth 20000 in
set_option maxHeartbeats 2000000 in
theorem r11bytes_any (p : PV) (h : p.ranged = true) (k : Nat) (hk : k ≤ 2) (sum : List UInt8) (hs : sum.length ≤ 90) (w : World) : Calls Tryz.prog 41 #[.agg p.c, .int .u64 (k : Int), str sum] w (Ret (str (priB p k sum)) w) := by
 obtain ⟨e1, e2, e3, c0, c1, f0, t0, q0, l0, o0, n0⟩ := PV.ranged_spec h
 have KC := hid (fun W => r11Count_any p (by omega) k hk W)
 have HX : Hid (priB p k sum = headL 4 (priN p k) ++ (headL 0 7 ++ (headL 0 p.fl ++ (headL 0 k ++ ((eidT p.d).bytes ++ ((eidT p.s).bytes ++ ((eidT p.r).bytes ++ (headL 4 2 ++ (headL 0 p.t ++ (headL 0 p.q ++ (headL 0 p.l ++ ((if p.fl % 2 = 1 then headL 0 p.o ++ headL 0 p.n else []) ++ (if k = 0 then [] else headL 2 sum.length ++ sum))))))))))))) := rfl
 have ID := hid (fun W => r10Item_ok p.d e1 W)
 have IS := hid (fun W => r10Item_ok p.s e2 W)
 have IR := hid (fun W => r10Item_ok p.r e3 W)
 have YD := hid (fun B W hW => rBytesE p.d e1 B W hW)
 have YS := hid (fun B W hW => rBytesE p.s e2 B W hW)
 have YR := hid (fun B W hW => rBytesE p.r e3 B W hW)
 have lD := eidT_len e1
 have lS := eidT_len e2
 have lR := eidT_len e3
 have hN : priN p k ≤ 11 := by unfold priN; split <;> split <;> omega
 have KSUM := hid (fun W => rBytes_any sum (by unfold Hid; omega) W)
 have lU := headL_le 2 sum.length
 have lU2 : (headL 2 sum.length ++ sum).length ≤ 200 := by rw [List.length_append]; omega
 have KHas : Hid (∀ W, Calls Tryz.prog 17 #[.int .u64 (p.fl : Int), .int .i64 1] W (Ret (.bool (has p.fl 1)) W)) := fun W => Has_any p.fl 1 (by omega) (by omega) (by omega) W
 generalize hgN : priN p k = N at *
 clear hgN
 have tN : IntKind.u64.wrap (N : Int) = (N : Int) := IntWalk.u64_in _ (by omega)
 have KN : Hid (∀ W, Calls Tryz.prog 73 #[.int .i64 4, .int .u64 (N : Int)] W (Ret (str (headL 4 N)) W)) := fun W => rHead_n 4 N (by omega) (by omega) W
 have KV : Hid (∀ W, Calls Tryz.prog 73 #[.int .i64 0, .int .u64 7] W (Ret (str (headL 0 7)) W)) := fun W => rHead_n 0 7 (by omega) (by omega) W
 have KF : Hid (∀ W, Calls Tryz.prog 73 #[.int .i64 0, .int .u64 (p.fl : Int)] W (Ret (str (headL 0 p.fl)) W)) := fun W => rHead_n 0 p.fl (by omega) (by omega) W
 have KK : Hid (∀ W, Calls Tryz.prog 73 #[.int .i64 0, .int .u64 (k : Int)] W (Ret (str (headL 0 k)) W)) := fun W => rHead_n 0 k (by omega) (by omega) W
 have K2 : Hid (∀ W, Calls Tryz.prog 73 #[.int .i64 4, .int .u64 2] W (Ret (str (headL 4 2)) W)) := fun W => rHead_n 4 2 (by omega) (by omega) W
 have KT : Hid (∀ W, Calls Tryz.prog 73 #[.int .i64 0, .int .u64 (p.t : Int)] W (Ret (str (headL 0 p.t)) W)) := fun W => rHead_n 0 p.t (by omega) (by omega) W
 have KQ : Hid (∀ W, Calls Tryz.prog 73 #[.int .i64 0, .int .u64 (p.q : Int)] W (Ret (str (headL 0 p.q)) W)) := fun W => rHead_n 0 p.q (by omega) (by omega) W
 have KL : Hid (∀ W, Calls Tryz.prog 73 #[.int .i64 0, .int .u64 (p.l : Int)] W (Ret (str (headL 0 p.l)) W)) := fun W => rHead_n 0 p.l (by omega) (by omega) W
 have KO : Hid (∀ W, Calls Tryz.prog 73 #[.int .i64 0, .int .u64 (p.o : Int)] W (Ret (str (headL 0 p.o)) W)) := fun W => rHead_n 0 p.o (by omega) (by omega) W
 have KM : Hid (∀ W, Calls Tryz.prog 73 #[.int .i64 0, .int .u64 (p.n : Int)] W (Ret (str (headL 0 p.n)) W)) := fun W => rHead_n 0 p.n (by omega) (by omega) W
 have lN := headL_le 4 N
 generalize headL 4 N = BN at *
 have lV := headL_le 0 7
 generalize headL 0 7 = BV at *
 have lF := headL_le 0 p.fl
 generalize headL 0 p.fl = BF at *
 have lK := headL_le 0 k
 generalize headL 0 k = BK at *
 have l2 := headL_le 4 2
 generalize headL 4 2 = B2 at *
 have lT := headL_le 0 p.t
 generalize headL 0 p.t = BT at *
 have lQ := headL_le 0 p.q
 generalize headL 0 p.q = BQ at *
 have lL := headL_le 0 p.l
 generalize headL 0 p.l = BL at *
 have lO := headL_le 0 p.o
 generalize headL 0 p.o = BO at *
 have lM := headL_le 0 p.n
 generalize headL 0 p.n = BM at *
 generalize headL 2 sum.length ++ sum = BU at *
 generalize eidT p.d = TD at *
 generalize eidT p.s = TS at *
 generalize eidT p.r = TR at *
 generalize TD.bytes = BD at *
 generalize TS.bytes = BS at *
 generalize TR.bytes = BR at *
 have HE := hid ((Mod.refl [] w).alloc (.cells p.c 26))
 have HB := hid (Blk.new w 26 p.c)
 have HF0 := hid f0
 clear h e1 e2 e3 c0 c1 f0 t0 q0 l0 o0 n0 hN hs
 have hk2 := hid hk
 clear hk
 go_enter Tryz.func41, Tryz.ntmps41
 go_upto_region 1 with fail
 generalize w.alloc (.cells p.c 26) = V at *
 have x0 : ∀ e : Later V, e.x.cell? ⟨w.heap.size, 0, none⟩ = some (.int .u64 (p.fl : Int)) := HB.out.cellL 0 rfl
 have x2 : ∀ e : Later V, e.x.cell? ⟨w.heap.size, 2, none⟩ = some (.int .i64 p.d.sch) := HB.out.cellL 2 rfl
 have x3 : ∀ e : Later V, e.x.cell? ⟨w.heap.size, 3, none⟩ = some (str p.d.name) := HB.out.cellL 3 rfl
 have x4 : ∀ e : Later V, e.x.cell? ⟨w.heap.size, 4, none⟩ = some (.int .u64 (p.d.node : Int)) := HB.out.cellL 4 rfl
 have x5 : ∀ e : Later V, e.x.cell? ⟨w.heap.size, 5, none⟩ = some (.int .u64 (p.d.svc : Int)) := HB.out.cellL 5 rfl
 have x6 : ∀ e : Later V, e.x.cell? ⟨w.heap.size, 6, none⟩ = some (.int .i64 p.s.sch) := HB.out.cellL 6 rfl
 have x7 : ∀ e : Later V, e.x.cell? ⟨w.heap.size, 7, none⟩ = some (str p.s.name) := HB.out.cellL 7 rfl
 have x8 : ∀ e : Later V, e.x.cell? ⟨w.heap.size, 8, none⟩ = some (.int .u64 (p.s.node : Int)) := HB.out.cellL 8 rfl
 have x9 : ∀ e : Later V, e.x.cell? ⟨w.heap.size, 9, none⟩ = some (.int .u64 (p.s.svc : Int)) := HB.out.cellL 9 rfl
 have x10 : ∀ e : Later V, e.x.cell? ⟨w.heap.size, 10, none⟩ = some (.int .i64 p.r.sch) := HB.out.cellL 10 rfl
 have x11 : ∀ e : Later V, e.x.cell? ⟨w.heap.size, 11, none⟩ = some (str p.r.name) := HB.out.cellL 11 rfl
 have x12 : ∀ e : Later V, e.x.cell? ⟨w.heap.size, 12, none⟩ = some (.int .u64 (p.r.node : Int)) := HB.out.cellL 12 rfl
 have x13 : ∀ e : Later V, e.x.cell? ⟨w.heap.size, 13, none⟩ = some (.int .u64 (p.r.svc : Int)) := HB.out.cellL 13 rfl
 have x14 : ∀ e : Later V, e.x.cell? ⟨w.heap.size, 14, none⟩ = some (.int .u64 (p.t : Int)) := HB.out.cellL 14 rfl
 have x15 : ∀ e : Later V, e.x.cell? ⟨w.heap.size, 15, none⟩ = some (.int .u64 (p.q : Int)) := HB.out.cellL 15 rfl
 have x16 : ∀ e : Later V, e.x.cell? ⟨w.heap.size, 16, none⟩ = some (.int .u64 (p.l : Int)) := HB.out.cellL 16 rfl
 have x17 : ∀ e : Later V, e.x.cell? ⟨w.heap.size, 17, none⟩ = some (.int .u64 (p.o : Int)) := HB.out.cellL 17 rfl
 have x18 : ∀ e : Later V, e.x.cell? ⟨w.heap.size, 18, none⟩ = some (.int .u64 (p.n : Int)) := HB.out.cellL 18 rfl
 obtain ⟨e, he⟩ := Later.self V
 rw [he]
 clear he
 refine wp_region_later (by kernel_rfl) (by kernel_rfl) ?_
 repeat (first | (refine q_cat (by rfl) _ _ _ _ rfl _ _ rfl rfl (by (try simp only [List.length_append]); omega) ?_; (try simp only [Act.put, sTl, s0l, sSl])) | go_big_quiet_step ((first | (go_at_call 74; with_reducible exact Ret.later (KC.out _)) | (go_at_call 73; first | (with_reducible exact Ret.later (KN.out _)) | (with_reducible exact Ret.later (KV.out _)) | (with_reducible exact Ret.later (KF.out _)) | (with_reducible exact Ret.later (KK.out _)) | (with_reducible exact Ret.later (K2.out _)) | (with_reducible exact Ret.later (KT.out _)) | (with_reducible exact Ret.later (KQ.out _)) | (with_reducible exact Ret.later (KL.out _)) | (with_reducible exact Ret.later (KO.out _)) | (with_reducible exact Ret.later (KM.out _))))))
 refine wpQuiet_nil ?_
 rintro _ ⟨e, rfl⟩
 try simp only [List.append_assoc]
 have lg1 : (BN ++ (BV ++ (BF ++ BK))).length ≤ 100 := by simp only [List.length_append]; omega
 generalize hq1 : BN ++ (BV ++ (BF ++ BK)) = q1 at *
 have HQ1 := hid hq1
 clear hq1
 go_upto_region 2 with fail
 have HS2 : Hid (∀ W, Ext V W → W.cell? ⟨w.heap.size, 2, none⟩ = some (.int .i64 p.d.sch)) := fun W hW => (HB.out.ext hW).cell 2
 have HS3 : Hid (∀ W, Ext V W → W.cell? ⟨w.heap.size, 3, none⟩ = some (str p.d.name)) := fun W hW => (HB.out.ext hW).cell 3
 have HS4 : Hid (∀ W, Ext V W → W.cell? ⟨w.heap.size, 4, none⟩ = some (.int .u64 (p.d.node : Int))) := fun W hW => (HB.out.ext hW).cell 4
 have HS5 : Hid (∀ W, Ext V W → W.cell? ⟨w.heap.size, 5, none⟩ = some (.int .u64 (p.d.svc : Int))) := fun W hW => (HB.out.ext hW).cell 5
 have HS6 : Hid (∀ W, Ext V W → W.cell? ⟨w.heap.size, 6, none⟩ = some (.int .i64 p.s.sch)) := fun W hW => (HB.out.ext hW).cell 6
 have HS7 : Hid (∀ W, Ext V W → W.cell? ⟨w.heap.size, 7, none⟩ = some (str p.s.name)) := fun W hW => (HB.out.ext hW).cell 7
 have HS8 : Hid (∀ W, Ext V W → W.cell? ⟨w.heap.size, 8, none⟩ = some (.int .u64 (p.s.node : Int))) := fun W hW => (HB.out.ext hW).cell 8
 have HS9 : Hid (∀ W, Ext V W → W.cell? ⟨w.heap.size, 9, none⟩ = some (.int .u64 (p.s.svc : Int))) := fun W hW => (HB.out.ext hW).cell 9
 have HS10 : Hid (∀ W, Ext V W → W.cell? ⟨w.heap.size, 10, none⟩ = some (.int .i64 p.r.sch)) := fun W hW => (HB.out.ext hW).cell 10
 have HS11 : Hid (∀ W, Ext V W → W.cell? ⟨w.heap.size, 11, none⟩ = some (str p.r.name)) := fun W hW => (HB.out.ext hW).cell 11
 have HS12 : Hid (∀ W, Ext V W → W.cell? ⟨w.heap.size, 12, none⟩ = some (.int .u64 (p.r.node : Int))) := fun W hW => (HB.out.ext hW).cell 12
 have HS13 : Hid (∀ W, Ext V W → W.cell? ⟨w.heap.size, 13, none⟩ = some (.int .u64 (p.r.svc : Int))) := fun W hW => (HB.out.ext hW).cell 13
 refine wp_region_held_drew (S := fun w' => Ext V w' ∧ True) (by kernel_rfl) ⟨(Later.h e).drew, trivial⟩ (fun hHeld => ?_)
 refine' wpAnyH_take (i := 0) (v := _) rfl (by kernel_rfl) (by kernel_rfl) (by kernel_rfl) (fun _ _ _ h => h) (Or.inl ⟨by rfl, ?hy⟩) hHeld ?rest
 case hy => (rintro W ⟨hM, _⟩; go_simp; (try with_reducible rfl))
 case rest =>
 (try simp only [Act.put, sTl, s0l, sSl])
 refine' wpAnyH_take (i := 1) (v := _) rfl (by kernel_rfl) (by kernel_rfl) (by kernel_rfl) (fun _ _ _ h => h) (Or.inl ⟨by rfl, ?hy⟩) hHeld ?rest
 case hy => (rintro W ⟨hM, _⟩; go_simp; (try with_reducible rfl))
 case rest =>
 (try simp only [Act.put, sTl, s0l, sSl])
 refine' wpAnyH_take (i := 2) (v := _) rfl (by kernel_rfl) (by kernel_rfl) (by kernel_rfl) (fun _ _ _ h => h) (Or.inl ⟨by rfl, ?hy⟩) hHeld ?rest
 case hy => (rintro W ⟨hM, _⟩; have x2 := HS2.out W hM; have x3 := HS3.out W hM; have x4 := HS4.out W hM; have x5 := HS5.out W hM; go_simp; (try with_reducible rfl))
 case rest =>
 (try simp only [Act.put, sTl, s0l, sSl])
 refine' wpAnyH_take (i := 5) (v := _) rfl (by kernel_rfl) (by kernel_rfl) (by kernel_rfl) (fun _ _ _ h => h) (Or.inl ⟨by rfl, ?hy⟩) hHeld ?rest
 case hy => (rintro W ⟨hM, _⟩; go_simp; (try with_reducible rfl))
 case rest =>
 (try simp only [Act.put, sTl, s0l, sSl])
 refine' wpAnyH_take (i := 6) (v := _) rfl (by kernel_rfl) (by kernel_rfl) (by kernel_rfl) (fun _ _ _ h => h) (Or.inl ⟨by rfl, ?hy⟩) hHeld ?rest
 case hy => (rintro W ⟨hM, _⟩; have x6 := HS6.out W hM; have x7 := HS7.out W hM; have x8 := HS8.out W hM; have x9 := HS9.out W hM; go_simp; (try with_reducible rfl))
 case rest =>
 (try simp only [Act.put, sTl, s0l, sSl])
 refine' wpAnyH_take (i := 10) (v := _) rfl (by kernel_rfl) (by kernel_rfl) (by kernel_rfl) (fun _ _ _ h => h) (Or.inl ⟨by rfl, ?hy⟩) hHeld ?rest
 case hy => (rintro W ⟨hM, _⟩; go_simp; (try with_reducible rfl))
 case rest =>
 (try simp only [Act.put, sTl, s0l, sSl])
 refine' wpAnyH_take (i := 11) (v := _) rfl (by kernel_rfl) (by kernel_rfl) (by kernel_rfl) (fun _ _ _ h => h) (Or.inl ⟨by rfl, ?hy⟩) hHeld ?rest
 case hy => (rintro W ⟨hM, _⟩; have x10 := HS10.out W hM; have x11 := HS11.out W hM; have x12 := HS12.out W hM; have x13 := HS13.out W hM; go_simp; (try with_reducible rfl))
 case rest =>
 (try simp only [Act.put, sTl, s0l, sSl])
 refine wpAnyH_ready (rs := [3]) (by kernel_rfl) (by simp) ?_
 refine AllReadyH.cons rfl (fun K hK => ?_) AllReadyH.nil
 go_simp
 (go_at_call 76; refine (ID.out _).mono ?_; rintro x w1 ⟨A1, rfl, hb1, hi1⟩; have HI1 := hid (IsL.weak (R := fun _ => True) (fun _ _ _ => trivial) _ hi1))
 refine hK.out _ _ ⟨hHeld.1.trans hb1, trivial⟩ (fun hHeld => ?_)
 clear hK K
 (try simp only [Act.put, sTl, s0l, sSl])
 refine wpAnyH_ready (rs := [4]) (by kernel_rfl) (by simp) ?_
 refine AllReadyH.cons rfl (fun K hK => ?_) AllReadyH.nil
 go_simp
 (go_at_call 75; refine (YD.out _ _ HI1.out).mono ?_; rintro x w2 ⟨rfl, hb2⟩)
 refine hK.out _ _ ⟨hHeld.1.trans hb2, trivial⟩ (fun hHeld => ?_)
 clear hK K
 (try simp only [Act.put, sTl, s0l, sSl])
 refine wpAnyH_ready (rs := [7]) (by kernel_rfl) (by simp) ?_
 refine AllReadyH.cons rfl (fun K hK => ?_) AllReadyH.nil
 go_simp
 (go_at_call 76; refine (IS.out _).mono ?_; rintro x w3 ⟨A2, rfl, hb3, hi3⟩; have HI3 := hid (IsL.weak (R := fun _ => True) (fun _ _ _ => trivial) _ hi3))
 refine hK.out _ _ ⟨hHeld.1.trans hb3, trivial⟩ (fun hHeld => ?_)
 clear hK K
 (try simp only [Act.put, sTl, s0l, sSl])
 refine wpAnyH_ready (rs := [8]) (by kernel_rfl) (by simp) ?_
 refine AllReadyH.cons rfl (fun K hK => ?_) AllReadyH.nil
 go_simp
 (go_at_call 75; refine (YS.out _ _ HI3.out).mono ?_; rintro x w4 ⟨rfl, hb4⟩)
 refine hK.out _ _ ⟨hHeld.1.trans hb4, trivial⟩ (fun hHeld => ?_)
 clear hK K
 (try simp only [Act.put, sTl, s0l, sSl])
 refine wpAnyH_take (i := 9) rfl (by kernel_rfl) (by kernel_rfl) (by kernel_rfl) (fun _ _ _ h => h) (yieldsIf_cat (by rfl) _ _ _ _ rfl _ _ rfl rfl (by (try simp only [List.length_append]); omega)) hHeld ?_
 (try simp only [Act.put, sTl, s0l, sSl])
 refine wpAnyH_ready (rs := [12]) (by kernel_rfl) (by simp) ?_
 refine AllReadyH.cons rfl (fun K hK => ?_) AllReadyH.nil
 go_simp
 (go_at_call 76; refine (IR.out _).mono ?_; rintro x w5 ⟨A3, rfl, hb5, hi5⟩; have HI5 := hid (IsL.weak (R := fun _ => True) (fun _ _ _ => trivial) _ hi5))
 refine hK.out _ _ ⟨hHeld.1.trans hb5, trivial⟩ (fun hHeld => ?_)
 clear hK K
 (try simp only [Act.put, sTl, s0l, sSl])
 refine wpAnyH_ready (rs := [13]) (by kernel_rfl) (by simp) ?_
 refine AllReadyH.cons rfl (fun K hK => ?_) AllReadyH.nil
 go_simp
 (go_at_call 75; refine (YR.out _ _ HI5.out).mono ?_; rintro x w6 ⟨rfl, hb6⟩)
 refine hK.out _ _ ⟨hHeld.1.trans hb6, trivial⟩ (fun hHeld => ?_)
 clear hK K
 (try simp only [Act.put, sTl, s0l, sSl])
 refine wpAnyH_take (i := 14) rfl (by kernel_rfl) (by kernel_rfl) (by kernel_rfl) (fun _ _ _ h => h) (yieldsIf_cat (by rfl) _ _ _ _ rfl _ _ rfl rfl (by (try simp only [List.length_append]); omega)) hHeld ?_
 (try simp only [Act.put, sTl, s0l, sSl])
 refine wpAnyH_take (i := 15) rfl (by kernel_rfl) (by kernel_rfl) (by kernel_rfl) (fun _ _ _ h => h) (yieldsIf_cat (by rfl) _ _ _ _ rfl _ _ rfl rfl (by (try simp only [List.length_append]); omega)) hHeld ?_
 (try simp only [Act.put, sTl, s0l, sSl])
 refine wpAnyH_ready (rs := [16]) (by kernel_rfl) (by simp) ?_
 refine AllReadyH.cons rfl (fun K hK => ?_) AllReadyH.nil
 go_simp
 refine hK.out _ _ hHeld (fun hHeld => ?_)
 clear hK K
 (try simp only [Act.put, sTl, s0l, sSl])
 refine wpAnyH_done (by kernel_rfl) ?_ _
 obtain ⟨e, rfl⟩ : ∃ e : Later V, w6 = e.x := ⟨⟨_, hHeld.1⟩, rfl⟩
 try simp only [List.append_assoc]
 have lg2 : (q1 ++ (BD ++ (BS ++ BR))).length ≤ 40000 := by simp only [List.length_append]; omega
 generalize hq2 : q1 ++ (BD ++ (BS ++ BR)) = q2 at *
 have HQ2 := hid hq2
 clear hq2
 go_upto_region 3 with fail
 refine wp_region_later (by kernel_rfl) (by kernel_rfl) ?_
 repeat (first | (refine q_cat (by rfl) _ _ _ _ rfl _ _ rfl rfl (by (try simp only [List.length_append]); omega) ?_; (try simp only [Act.put, sTl, s0l, sSl])) | go_big_quiet_step ((go_at_call 73; first | (with_reducible exact Ret.later (KN.out _)) | (with_reducible exact Ret.later (KV.out _)) | (with_reducible exact Ret.later (KF.out _)) | (with_reducible exact Ret.later (KK.out _)) | (with_reducible exact Ret.later (K2.out _)) | (with_reducible exact Ret.later (KT.out _)) | (with_reducible exact Ret.later (KQ.out _)) | (with_reducible exact Ret.later (KL.out _)) | (with_reducible exact Ret.later (KO.out _)) | (with_reducible exact Ret.later (KM.out _)))))
 refine wpQuiet_nil ?_
 rintro _ ⟨e, rfl⟩
 try simp only [List.append_assoc]
 have lg3 : (q2 ++ (B2 ++ (BT ++ (BQ ++ BL)))).length ≤ 41000 := by simp only [List.length_append]; omega
 generalize hq3 : q2 ++ (B2 ++ (BT ++ (BQ ++ BL))) = q3 at *
 have HQ3 := hid hq3
 clear hq3
 cases hh : has p.fl 1
 all_goals rw [hh] at KHas
 ·
  have HX2 : Hid (priB p k sum = q3 ++ (if k = 0 then [] else BU)) := by
   have hx : ¬ p.fl % 2 = 1 := by simpa [has] using hh
   unfold Hid
   rw [HX.out, if_neg hx, ← HQ3.out, ← HQ2.out, ← HQ1.out]
   simp only [List.append_assoc, List.nil_append]
  clear hh
  go_upto_region 6 with (go_at_call 17; refine (Ret.later (KHas.out _)).mono ?_; rintro x _ ⟨rfl, e, rfl⟩)
  have lg4 : ¬ 9223372036854775807 < q3.length + BU.length := by omega
  have hk := hk2.out
  have h3 : k = 0 ∨ k = 1 ∨ k = 2 := by omega
  rcases h3 with rfl | rfl | rfl
  ·
   have HX3 : Hid (priB p 0 sum = q3) := by unfold Hid; rw [HX2.out]; exact List.append_nil _
   clear hk hk2 HX HQ1 HQ2 HQ3 HX2
   go_wp2_with (go_at_call 77; refine (Ret.later (KSUM.out _)).mono ?_; rintro x _ ⟨rfl, e, rfl⟩)
   go_ret
   refine Ret.mk ?_ (HE.out.trans e.h)
   rw [HX3.out]
   rfl
  ·
   have HX3 : Hid (priB p 1 sum = q3 ++ BU) := by unfold Hid; rw [HX2.out]; rfl
   clear hk hk2 HX HQ1 HQ2 HQ3 HX2
   go_wp2_with (go_at_call 77; refine (Ret.later (KSUM.out _)).mono ?_; rintro x _ ⟨rfl, e, rfl⟩)
   go_ret
   refine Ret.mk ?_ (HE.out.trans e.h)
   rw [HX3.out]
   exact str_app _ _
  ·
   have HX3 : Hid (priB p 2 sum = q3 ++ BU) := by unfold Hid; rw [HX2.out]; rfl
   clear hk hk2 HX HQ1 HQ2 HQ3 HX2
   go_wp2_with (go_at_call 77; refine (Ret.later (KSUM.out _)).mono ?_; rintro x _ ⟨rfl, e, rfl⟩)
   go_ret
   refine Ret.mk ?_ (HE.out.trans e.h)
   rw [HX3.out]
   exact str_app _ _
 ·
  have HX2 : Hid (priB p k sum = (q3 ++ (BO ++ BM)) ++ (if k = 0 then [] else BU)) := by
   have hx : p.fl % 2 = 1 := by simpa [has] using hh
   unfold Hid
   rw [HX.out, if_pos hx, ← HQ3.out, ← HQ2.out, ← HQ1.out]
   simp only [List.append_assoc]
  clear hh
  go_upto_region 5 with (go_at_call 17; refine (Ret.later (KHas.out _)).mono ?_; rintro x _ ⟨rfl, e, rfl⟩)
  refine wp_region_later (by kernel_rfl) (by kernel_rfl) ?_
  repeat (first | (refine q_cat (by rfl) _ _ _ _ rfl _ _ rfl rfl (by (try simp only [List.length_append]); omega) ?_; (try simp only [Act.put, sTl, s0l, sSl])) | go_big_quiet_step ((go_at_call 73; first | (with_reducible exact Ret.later (KN.out _)) | (with_reducible exact Ret.later (KV.out _)) | (with_reducible exact Ret.later (KF.out _)) | (with_reducible exact Ret.later (KK.out _)) | (with_reducible exact Ret.later (K2.out _)) | (with_reducible exact Ret.later (KT.out _)) | (with_reducible exact Ret.later (KQ.out _)) | (with_reducible exact Ret.later (KL.out _)) | (with_reducible exact Ret.later (KO.out _)) | (with_reducible exact Ret.later (KM.out _)))))
  refine wpQuiet_nil ?_
  rintro _ ⟨e, rfl⟩
  try simp only [List.append_assoc]
  have lg4 : (q3 ++ (BO ++ BM)).length ≤ 42000 := by simp only [List.length_append]; omega
  generalize hq4 : q3 ++ (BO ++ BM) = q4 at *
  clear hq4
  go_upto_region 6 with fail
  have lg5 : ¬ 9223372036854775807 < q4.length + BU.length := by omega
  have hk := hk2.out
  have h3 : k = 0 ∨ k = 1 ∨ k = 2 := by omega
  rcases h3 with rfl | rfl | rfl
  ·
   have HX3 : Hid (priB p 0 sum = q4) := by unfold Hid; rw [HX2.out]; exact List.append_nil _
   clear hk hk2 HX HQ1 HQ2 HQ3 HX2
   go_wp2_with (go_at_call 77; refine (Ret.later (KSUM.out _)).mono ?_; rintro x _ ⟨rfl, e, rfl⟩)
   go_ret
   refine Ret.mk ?_ (HE.out.trans e.h)
   rw [HX3.out]
   rfl
  ·
   have HX3 : Hid (priB p 1 sum = q4 ++ BU) := by unfold Hid; rw [HX2.out]; rfl
   clear hk hk2 HX HQ1 HQ2 HQ3 HX2
   go_wp2_with (go_at_call 77; refine (Ret.later (KSUM.out _)).mono ?_; rintro x _ ⟨rfl, e, rfl⟩)
   go_ret
   refine Ret.mk ?_ (HE.out.trans e.h)
   rw [HX3.out]
   exact str_app _ _
  ·
   have HX3 : Hid (priB p 2 sum = q4 ++ BU) := by unfold Hid; rw [HX2.out]; rfl
   clear hk hk2 HX HQ1 HQ2 HQ3 HX2
   go_wp2_with (go_at_call 77; refine (Ret.later (KSUM.out _)).mono ?_; rintro x _ ⟨rfl, e, rfl⟩)
   go_ret
   refine Ret.mk ?_ (HE.out.trans e.h)
   rw [HX3.out]
   exact str_app _ _
end Go.Proofs.YtfgipgpbjfhflaaGreat


namespace Go.Proofs.YtfgipgpbjfhflaaGreat
open Go.RowKit
set_option linter.unusedVariables false
set_option linter.unusedSimpArgs false

theorem priB_length {p : PV} (h : p.ranged = true) {k : Nat} (hk : k ≤ 2) {s : List UInt8} (hs : s.length ≤ 90) : (priB p k s).length < 1000000 := by
 obtain ⟨a, b, c⟩ := priT_all h hk (sum := s) hs
 rw [← priT_bytes]
 have := T.bytes_le (priT p k s)
 omega
set_option maxRecDepth 20000 in
set_option maxHeartbeats 800000 in
theorem r11Build_ok (p : PV) (h : p.ranged = true) (w : World) : Calls Tryz.prog 26 #[.agg p.c] w (Ret (str p.bytes) w) := by
 have hrs := PV.ranged_spec h
 obtain ⟨k, hc⟩ := Int.eq_ofNat_of_zero_le hrs.2.2.2.1
 have hk : k ≤ 2 := by omega
 have KB := hid (fun W => r11bytes_any p h k hk (List.replicate (2 * k) 0) (by simp; omega) W)
 have KC : Hid (∀ W, Calls Tryz.prog 40 #[.int .i64 (k : Int), str (priB p k (List.replicate (2 * k) 0))] W (Ret (str (priSum p k)) W)) := fun W => R4B_any k hk (priB p k (List.replicate (2 * k) 0)) (priB_length h hk (by simp; omega)) W
 have KE := hid (fun W => r11bytes_any p h k hk (priSum p k) (by rw [priSum_length p hk]; omega) W)
 have HV : Hid (p.bytes = priB p k (priSum p k)) := by unfold Hid PV.bytes; rw [hc]; rfl
 have hmk : ∀ W : World, (Instr.makeSlice 77 (.int .i64 (2 * (k : Int))) (.int .i64 (2 * (k : Int)))).run Tryz.prog W = .ok (.slice (some ⟨W.heap.size, 0, none⟩) (2 * k) (2 * k)) (W.alloc (.cells (madeCells #[.int .u8 0] (2 * k)) 5)) := by
  intro W
  have := run_make_row' (P := Tryz.prog) 77 5 (.int .u8 0) 1 Tryz.underlying77 infoByte8 rfl .i64 .i64 (2 * k) (by omega) (by omega) W
  simpa using this
 have hcv := conv_made (2 * k) (2 * k)
 have t2 : IntKind.i64.wrap (2 * (k : Int)) = 2 * (k : Int) := IntWalk.i64_in _ (by omega)
 have t1 : IntKind.u64.wrap (k : Int) = (k : Int) := IntWalk.u64_in _ (by omega)
 generalize List.replicate (2 * k) (0 : UInt8) = Z at *
 generalize priB p k Z = X at *
 generalize priSum p k = Y at *
 generalize priB p k Y = R at *
 have HE := hid ((Mod.refl [] w).alloc (.cells p.c 26))
 have HB := hid (Blk.new w 26 p.c)
 have HC := hid hc
 clear h hrs hc hk
 go_enter Tryz.func26, Tryz.ntmps26
 go_upto_region 1 with fail
 generalize w.alloc (.cells p.c 26) = V at *
 have HBL : Hid (∀ e : Later V, Blk e.x w.heap.size 26 p.c) := fun e => HB.out.later e
 have HBM : Hid (∀ W, Ext V W → Blk W w.heap.size 26 p.c) := fun W hW => HB.out.ext hW
 have HS1 : Hid (∀ W, Ext V W → W.cell? ⟨w.heap.size, 1, none⟩ = some (.int .i64 (k : Int))) := fun W hW => by rw [← HC.out]; exact (HB.out.ext hW).cell 1
 have x1 : ∀ e : Later V, e.x.cell? ⟨w.heap.size, 1, none⟩ = some (.int .i64 (k : Int)) := fun e => HS1.out _ e.h
 obtain ⟨e, he⟩ := Later.self V
 rw [he]
 clear he
 have hcv2 : (convert 77 9 (.slice (some ⟨e.x.heap.size, 0, none⟩) (2 * k) (2 * k))).run Tryz.prog (e.x.alloc (.cells (madeCells #[.int .u8 0] (2 * k)) 5)).drew = .ok (str Z) (e.x.alloc (.cells (madeCells #[.int .u8 0] (2 * k)) 5)).drew := hcv e.x.drew
 refine wp_region_held_drew (S := fun w' => Ext V w' ∧ True) (by kernel_rfl) ⟨(Later.h e).drew, trivial⟩ (fun hHeld => ?_)
 refine' wpAnyH_take (i := 0) (v := _) rfl (by kernel_rfl) (by kernel_rfl) (by kernel_rfl) (fun _ _ _ h => h) (Or.inl ⟨by rfl, ?hy⟩) hHeld ?rest
 case hy => (rintro W ⟨hM, _⟩; go_simp; (try with_reducible rfl))
 case rest =>
 (try simp only [Act.put, sTl, s0l, sSl])
 refine' wpAnyH_take (i := 1) (v := _) rfl (by kernel_rfl) (by kernel_rfl) (by kernel_rfl) (fun _ _ _ h => h) (Or.inl ⟨by rfl, ?hy⟩) hHeld ?rest
 case hy => (rintro W ⟨hM, _⟩; have x1 := HS1.out W hM; go_simp; (try with_reducible rfl))
 case rest =>
 (try simp only [Act.put, sTl, s0l, sSl])
 refine wpAnyH_take (i := 2) rfl (by kernel_rfl) (by kernel_rfl) (by kernel_rfl) (fun _ _ _ h => h) (yieldsIf_row (by rfl) 26 _ rfl _ rfl (fun W h => HBM.out W h.1) Tryz.underlying26 rfl (by kernel_rfl)) hHeld ?_
 (try simp only [Act.put, sTl, s0l, sSl])
 refine' wpAnyH_take (i := 3) (v := _) rfl (by kernel_rfl) (by kernel_rfl) (by kernel_rfl) (fun _ _ _ h => h) (Or.inl ⟨by rfl, ?hy⟩) hHeld ?rest
 case hy => (rintro W ⟨hM, _⟩; go_simp; (try with_reducible rfl))
 case rest =>
 (try simp only [Act.put, sTl, s0l, sSl])
 refine' wpAnyH_take (i := 4) (v := _) rfl (by kernel_rfl) (by kernel_rfl) (by kernel_rfl) (fun _ _ _ h => h) (Or.inl ⟨by rfl, ?hy⟩) hHeld ?rest
 case hy => (rintro W ⟨hM, _⟩; have x1 := HS1.out W hM; go_simp; (try with_reducible rfl))
 case rest =>
 (try simp only [Act.put, sTl, s0l, sSl])
 refine' wpAnyH_take (i := 5) (v := _) rfl (by kernel_rfl) (by kernel_rfl) (by kernel_rfl) (fun _ _ _ h => h) (Or.inl ⟨by rfl, ?hy⟩) hHeld ?rest
 case hy => (rintro W ⟨hM, _⟩; go_simp; (try with_reducible rfl))
 case rest =>
 (try simp only [Act.put, sTl, s0l, sSl])
 refine' wpAnyH_take (i := 6) (v := _) rfl (by kernel_rfl) (by kernel_rfl) (by kernel_rfl) (fun _ _ _ h => h) (Or.inl ⟨by rfl, ?hy⟩) hHeld ?rest
 case hy => (rintro W ⟨hM, _⟩; go_simp; (try with_reducible rfl))
 case rest =>
 (try simp only [Act.put, sTl, s0l, sSl])
 refine' wpAnyH_take (i := 7) (v := _) rfl (by kernel_rfl) (by kernel_rfl) (by kernel_rfl) (fun _ _ _ h => h) (Or.inl ⟨by rfl, ?hy⟩) hHeld ?rest
 case hy => (rintro W ⟨hM, _⟩; have x1 := HS1.out W hM; go_simp; (try with_reducible rfl))
 case rest =>
 (try simp only [Act.put, sTl, s0l, sSl])
 refine' wpAnyH_take (i := 8) (v := _) rfl (by kernel_rfl) (by kernel_rfl) (by kernel_rfl) (fun _ _ _ h => h) (Or.inl ⟨by rfl, ?hy⟩) hHeld ?rest
 case hy => (rintro W ⟨hM, _⟩; go_simp; (try with_reducible rfl))
 case rest =>
 (try simp only [Act.put, sTl, s0l, sSl])
 refine wpAnyH_ready (rs := [9]) (by kernel_rfl) (by simp) ?_
 refine AllReadyH.cons rfl (fun K hK => ?_) AllReadyH.nil
 go_simp
 refine hK.out _ _ ⟨hHeld.1.alloc _, trivial⟩ (fun hHeld => ?_)
 clear hK K
 (try simp only [Act.put, sTl, s0l, sSl])
 refine wpAnyH_ready (rs := [10]) (by kernel_rfl) (by simp) ?_
 refine AllReadyH.cons rfl (fun K hK => ?_) AllReadyH.nil
 go_simp
 refine hK.out _ _ hHeld (fun hHeld => ?_)
 clear hK K
 (try simp only [Act.put, sTl, s0l, sSl])
 refine wpAnyH_ready (rs := [11]) (by kernel_rfl) (by simp) ?_
 refine AllReadyH.cons rfl (fun K hK => ?_) AllReadyH.nil
 go_simp
 (go_at_call 41; refine (KB.out _).mono ?_; rintro x w1 ⟨rfl, hb1⟩)
 refine hK.out _ _ ⟨hHeld.1.trans hb1, trivial⟩ (fun hHeld => ?_)
 clear hK K
 (try simp only [Act.put, sTl, s0l, sSl])
 refine wpAnyH_ready (rs := [12]) (by kernel_rfl) (by simp) ?_
 refine AllReadyH.cons rfl (fun K hK => ?_) AllReadyH.nil
 go_simp
 (go_at_call 40; refine (KC.out _).mono ?_; rintro x w2 ⟨rfl, hb2⟩)
 refine hK.out _ _ ⟨hHeld.1.trans hb2, trivial⟩ (fun hHeld => ?_)
 clear hK K
 (try simp only [Act.put, sTl, s0l, sSl])
 refine wpAnyH_ready (rs := [13]) (by kernel_rfl) (by simp) ?_
 refine AllReadyH.cons rfl (fun K hK => ?_) AllReadyH.nil
 go_simp
 refine hK.out _ _ hHeld (fun hHeld => ?_)
 clear hK K
 (try simp only [Act.put, sTl, s0l, sSl])
 refine wpAnyH_done (by kernel_rfl) ?_ _
 obtain ⟨e2, rfl⟩ : ∃ e2 : Later V, w2 = e2.x := ⟨⟨_, hHeld.1⟩, rfl⟩
 clear hb1 hb2 hHeld hcv2 hcv hmk
 go_wp2_with (first | (refine wpList_row (by rfl) 26 _ rfl _ rfl (HBL.out _) Tryz.underlying26 rfl (by kernel_rfl) ?_) | (go_at_call 41; refine (Ret.later (KE.out _)).mono ?_; rintro x _ ⟨rfl, e3, rfl⟩))
 go_ret
 exact Ret.mk (by rw [HV.out]; rfl) (HE.out.trans e3.h)
end Go.Proofs.YtfgipgpbjfhflaaGreat


namespace Go.Proofs.YtfgipgpbjfhflaaGreat
open Go.RowKit
set_option linter.unusedVariables false
set_option linter.unusedSimpArgs false

theorem bv_nat {b : BV} (h : b.right = 0) : ∃ ty num : Nat, b = ⟨ty, num, b.fl, b.crc, b.data⟩ := by
 obtain ⟨ty, num, fl, crc, data⟩ := b
 have h := BV.right_zero h
 simp only [] at h
 obtain ⟨ty, rfl⟩ := Int.eq_ofNat_of_zero_le (show 0 ≤ ty by omega)
 obtain ⟨num, rfl⟩ := Int.eq_ofNat_of_zero_le (show 0 ≤ num by omega)
 exact ⟨ty, num, rfl⟩
end Go.Proofs.YtfgipgpbjfhflaaGreat


namespace Go.Proofs.YtfgipgpbjfhflaaGreat
open Go.RowKit
set_option linter.unusedVariables false
set_option linter.unusedSimpArgs false

def BV.bytes (b : BV) : List UInt8 := blkB b.ty.toNat b.num.toNat b.fl b.crc.toNat b.data (sumB b.ty.toNat b.num.toNat b.fl b.crc.toNat b.data)
/-- How many of the first k blocks have a type. -/
def cntB (bs : Nat → BV) (typ : Int) : Nat → Nat
 | 0 => 0
 | k + 1 => cntB bs typ k + (if (bs k).ty = typ then 1 else 0)
theorem cntB_le (bs : Nat → BV) (typ : Int) : ∀ k, cntB bs typ k ≤ k
 | 0 => Nat.le_refl _
 | k + 1 => by have := cntB_le bs typ k; rw [cntB]; split <;> omega
theorem cntB_no {bs : Nat → BV} {typ : Int} : ∀ {k : Nat}, (∀ j, j < k → tyB bs typ j = false) → cntB bs typ k = 0
 | 0, _ => rfl
 | k + 1, h => by
  have h1 := h k (by omega)
  have : (bs k).ty ≠ typ := by intro e; rw [tyB_yes e] at h1; cases h1
  rw [cntB, cntB_no fun j hj => h j (by omega), if_neg this]
theorem cntB_pos {bs : Nat → BV} {typ : Int} {i : Nat} : ∀ {k : Nat}, i < k → tyB bs typ i = true → 1 ≤ cntB bs typ k
 | k + 1, h, ht => by
  rw [cntB]
  by_cases e : i = k
  ·
   subst e
   have : (bs i).ty = typ := by simpa [tyB] using ht
   rw [if_pos this]; omega
  · have := cntB_pos (k := k) (by omega) ht; omega
theorem cntB_find {bs : Nat → BV} {typ : Int} {k : Nat} : (firstOf (tyB bs typ) k).isSome = decide (cntB bs typ k ≠ 0) := by
 cases h : firstOf (tyB bs typ) k with
 | none => rw [cntB_no (firstOf_no h)]; rfl
 | some i => have := cntB_pos (firstOf_spec h).1 (firstOf_spec h).2.1; symm; simp; omega
/-- Has an earlier block this one's number? -/
def hasNumOf (bs : Nat → BV) (i j : Nat) : Bool := decide ((bs i).num = (bs j).num)
def dupAt (bs : Nat → BV) (i : Nat) : Bool := (firstOf (hasNumOf bs i) i).isSome
def dupB (bs : Nat → BV) (k : Nat) : Bool := (firstOf (dupAt bs) k).isSome
/-- The blocks' bytes, one behind the other. -/
def blksB (bs : Nat → BV) : Nat → List UInt8
 | 0 => []
 | k + 1 => blksB bs k ++ (bs k).bytes
def bunBytes (p : PV) (bs : Nat → BV) (k : Nat) : List UInt8 := 159 :: p.bytes ++ blksB bs k ++ [255]
def badAt (bs : Nat → BV) (i : Nat) : Bool := decide ((bs i).right ≠ 0)
def bunRule1 (bs : Nat → BV) (k : Nat) : Bool := decide (k = 0) || decide (cntB bs 1 k ≠ 1) || dupB bs k || decide (1 < cntB bs 6 k) || decide (1 < cntB bs 7 k) || decide (1 < cntB bs 10 k)
def bunRule2 (p : PV) (bs : Nat → BV) (k : Nat) : Bool := decide ((bs (k - 1)).ty ≠ 1) || (decide (p.t = 0) && decide (cntB bs 7 k = 0))
def bunRule3 (p : PV) (bs : Nat → BV) (k : Nat) : Bool := has p.fl 1 && decide (p.n < p.o + (bs (k - 1)).data.length)
/-- Why a bundle is not right. -/
def bunRight (p : PV) (bs : Nat → BV) (k : Nat) : Int :=
 if p.right ≠ 0 then p.right else match firstOf (badAt bs) k with
  | some i => (bs i).right
  | none => if 16 < k then 4 else if bunRule1 bs k then 8 else if bunRule2 p bs k then 8 else if bunRule3 p bs k then 8 else if 4000 < (bunBytes p bs k).length then 4 else 0
theorem bad_no {bs : Nat → BV} {i : Nat} (h : badAt bs i = false) : (bs i).right = 0 := by unfold badAt at h; simpa using h
theorem BV.bytes_length {b : BV} (h : b.right = 0) : b.bytes.length < 1000000 := by
 obtain ⟨h1, h2, h3, h4, h5, h6, h7, h8, h9⟩ := BV.right_zero h
 exact blkB_length h8 (by rw [sumB_length (by omega)]; omega)
theorem blksB_length {bs : Nat → BV} : ∀ {k : Nat}, (∀ i, i < k → (bs i).right = 0) → (blksB bs k).length ≤ k * 1000000
 | 0, _ => by simp [blksB]
 | k + 1, h => by
  have h1 := blksB_length (k := k) fun i hi => h i (by omega)
  have h2 := BV.bytes_length (h k (by omega))
  rw [blksB, List.length_append]
  omega
theorem r12Build_any {b : BV} (h : b.right = 0) (w : World) : Calls Tryz.prog 27 #[b.v] w (Ret (str b.bytes) w) := by
 have hz := BV.right_zero h
 obtain ⟨ty, num, e⟩ := bv_nat h
 obtain ⟨crc, e2⟩ : ∃ c : Nat, b.crc = (c : Int) := ⟨b.crc.toNat, by omega⟩
 obtain ⟨bty, bnum, bfl, bcrc, bdata⟩ := b
 simp only [BV.mk.injEq] at e e2
 obtain ⟨rfl, rfl, -⟩ := e
 subst e2
 simp only [] at hz
 simpa [BV.bytes] using rBuild_ok ty num bfl crc bdata (by unfold Hid; omega) (by unfold Hid; omega) (by unfold Hid; omega) (by unfold Hid; omega) (by unfold Hid; omega) w
end Go.Proofs.YtfgipgpbjfhflaaGreat


namespace Go.Proofs.YtfgipgpbjfhflaaGreat
open Go.RowKit
set_option linter.unusedVariables false
set_option linter.unusedSimpArgs false

/-- The cells l, stored into block b from cell i on. -/
def setRow (W : World) (b : Nat) : Nat → List Value → World
 | _, [] => W
 | i, v :: l => setRow (W.setCell ⟨b, i, none⟩ v) b (i + 1) l
def writeFrom (cs : Array Value) : Nat → List Value → Array Value
 | _, [] => cs
 | i, v :: l => writeFrom (cs.setIfInBounds i v) (i + 1) l
theorem setRow_blk {t : TypeId} {b : Nat} : ∀ (l : List Value) (W : World) (i : Nat) (cs : Array Value), Blk W b t cs → Blk (setRow W b i l) b t (writeFrom cs i l)
 | [], _, _, _, h => h
 | v :: l, W, i, cs, h => setRow_blk l _ _ _ (h.set_ i v)
theorem writeFrom_get : ∀ (l : List Value) (i : Nat) (cs : Array Value) (j : Nat), i + l.length ≤ cs.size → (writeFrom cs i l)[j]? = if i ≤ j ∧ j < i + l.length then l[j - i]? else cs[j]?
 | [], i, cs, j, _ => by
  rw [writeFrom, if_neg (by simp)]
 | v :: l, i, cs, j, h => by
  have h2 : i + (l.length + 1) ≤ cs.size := h
  rw [writeFrom, writeFrom_get l (i + 1) _ j (by simp; omega)]
  by_cases e : j = i
  ·
   subst e
   rw [if_neg (by omega), if_pos ⟨by omega, by simp⟩]
   simp [show j < cs.size by omega]
  ·
   by_cases a : i + 1 ≤ j ∧ j < i + 1 + l.length
   · rw [if_pos a, if_pos ⟨by omega, by simp; omega⟩, show j - i = (j - (i + 1)) + 1 by omega, List.getElem?_cons_succ]
   · rw [if_neg a, if_neg (by simp; omega), Array.getElem?_setIfInBounds, if_neg (fun h => e h.symm)]
theorem writeFrom_all (cs : Array Value) (l : List Value) (h : l.length = cs.size) : writeFrom cs 0 l = l.toArray := by
 apply Array.ext_getElem?
 intro j
 rw [writeFrom_get l 0 cs j (by omega)]
 by_cases hj : j < l.length
 · rw [if_pos ⟨by omega, by omega⟩]; simp
 · rw [if_neg (by omega), Array.getElem?_eq_none (by omega), Array.getElem?_eq_none (by simp; omega)]
theorem setRow_all {t : TypeId} {b : Nat} {W : World} {cs ds : Array Value} (h : Blk W b t cs) (hs : ds.toList.length = cs.size) : Blk (setRow W b 0 ds.toList) b t ds := by
 have := setRow_blk ds.toList W 0 cs h
 rw [writeFrom_all cs ds.toList hs] at this
 simpa using this
theorem setRow_mod {w : World} {S : List Nat} {b : Nat} : ∀ (l : List Value) (W : World) (i : Nat), Mod S w W → (b ∈ S ∨ w.heap.size ≤ b) → Mod S w (setRow W b i l)
 | [], _, _, h, _ => h
 | v :: l, W, i, h, hb => setRow_mod l _ _ (h.setCell (p := ⟨b, i, none⟩) hb v) hb
theorem setRow_eq {b : Nat} : ∀ (l : List Value) (W : World) (i : Nat), setRow W b i l = W.setCells b i l
 | [], _, _ => rfl
 | v :: l, W, i => setRow_eq l _ _
theorem setCells_all {t : TypeId} {b : Nat} {W : World} {cs ds : Array Value} (h : Blk W b t cs) (hs : ds.toList.length = cs.size) : Blk (W.setCells b 0 ds.toList) b t ds := setRow_eq ds.toList W 0 ▸ setRow_all h hs
theorem setCells_mod {w W : World} {S : List Nat} {b : Nat} (l : List Value) (i : Nat) (h : Mod S w W) (hb : b ∈ S ∨ w.heap.size ≤ b) : Mod S w (W.setCells b i l) := setRow_eq l W i ▸ setRow_mod l W i h hb
theorem Blk.there {W : World} {b : Nat} {t : TypeId} {cs : Array Value} (h : Blk W b t cs) {n : Nat} (hn : n ≤ cs.size) : W.there b 0 n := fun j hj => by
 rw [Nat.zero_add]
 refine ⟨?_, h.frozen j⟩
 rw [h.cell j, Array.getElem?_eq_getElem (by omega)]; rfl
/-- A struct result lies in a block that is known whole. -/
theorem results_cell {P : Program} {fn : Func} {t : Tmp} {ty : TypeId} (h : fn.results = #[.cell t ty]) (tmps : Array Value) {g : Nat} (ht : tmps.getD t undef = .pointer (some ⟨g, 0, none⟩)) {W : World} {tt : TypeId} {cs : Array Value} {d : TypeDesc} (hb : Blk W g tt cs)
  (hu : P.underlying ty = some d) (hd : (match d with | .struct _ | .array _ _ => true | _ => false) = true) (hi : (P.info? ty).map (·.size) = some cs.size) : (results fn tmps).run P W = .ok (.agg cs) W := by
 have hl := run_loadVar_row (P := P) W g tt ty cs (0, 0) d hb hu hd hi
 have ht2 : tmps[t]?.getD undef = .pointer (some ⟨g, 0, none⟩) := by simpa using ht
 simp [results, h, ht2, asAddr, hl]
theorem results_cell2 {P : Program} {fn : Func} {t u : Tmp} {ty : TypeId} (h : fn.results = #[.cell t ty, .tmp u]) (tmps : Array Value) {g : Nat} (ht : tmps.getD t undef = .pointer (some ⟨g, 0, none⟩)) {v : Value} (hv : tmps.getD u undef = v) {W : World} {tt : TypeId} {cs : Array Value} {d : TypeDesc} (hb : Blk W g tt cs)
  (hu : P.underlying ty = some d) (hd : (match d with | .struct _ | .array _ _ => true | _ => false) = true) (hi : (P.info? ty).map (·.size) = some cs.size) : (results fn tmps).run P W = .ok (.tuple #[.agg cs, v]) W := by
 have hl := run_loadVar_row (P := P) W g tt ty cs (0, 0) d hb hu hd hi
 have ht2 : tmps[t]?.getD undef = .pointer (some ⟨g, 0, none⟩) := by simpa using ht
 have hv2 : tmps[u]?.getD undef = v := by simpa using hv
 simp [results, h, ht2, hv2, asAddr, hl, Result.andThen_ok]
end Go.Proofs.YtfgipgpbjfhflaaGreat


namespace Go.Proofs.YtfgipgpbjfhflaaGreat
open Go.RowKit
set_option linter.unusedVariables false
set_option linter.unusedSimpArgs false

set_option maxRecDepth 20000 in
set_option maxHeartbeats 3200000 in
theorem same_any (a : T) : ∀ b : T, a.ok → b.ok → ∀ A c B d w, IsL w (fun _ => True) a A → IsL w (fun _ => True) b B →
  Calls Tryz.prog 101 #[itemV a A c, itemV b B d] w (Ret (.bool (a.same b)) w) := by
 induction a with
 | nil => intro b hok; cases hok
 | mk kind n s op k ch ih =>
  intro b
  rcases b with _ | ⟨kind', n', s', op', k', ch'⟩
  · intro _ hok; cases hok
  intro hok hok' A c B d w h h'
  have H := hid h; have HO := hid hok
  have H' := hid h'; have HO' := hid hok'
  have HI := hid ih
  have hk : Hid (k < 4611686018427387904) := by unfold T.ok at hok; exact hok.2.2.2.1
  have HR : Hid ((T.mk kind n s op k ch).same (T.mk kind' n' s' op' k' ch') = (kind == kind' && n == n' && s == s' && op == op' && k == k' && T.all (fun i => (ch i).same (ch' i)) k)) := rfl
  show Calls Tryz.prog 101 #[.agg #[.int .i64 kind, .int .u64 (n : Int), str s, .slice A k c, .bool op], .agg #[.int .i64 kind', .int .u64 (n' : Int), str s', .slice B k' d, .bool op']] w (Ret (.bool ((T.mk kind n s op k ch).same (T.mk kind' n' s' op' k' ch'))) w)
  rw [HR.out]
  have HBa : Hid (Blk ((w.alloc (.cells #[.int .i64 kind, .int .u64 (n : Int), str s, .slice A k c, .bool op] 52)).alloc (.cells #[.int .i64 kind', .int .u64 (n' : Int), str s', .slice B k' d, .bool op'] 52)) w.heap.size 52 #[.int .i64 kind, .int .u64 (n : Int), str s, .slice A k c, .bool op]) := (Blk.new _ _ _).alloc _
  have HBb : Hid (Blk ((w.alloc (.cells #[.int .i64 kind, .int .u64 (n : Int), str s, .slice A k c, .bool op] 52)).alloc (.cells #[.int .i64 kind', .int .u64 (n' : Int), str s', .slice B k' d, .bool op'] 52)) (w.heap.size + 1) 52 #[.int .i64 kind', .int .u64 (n' : Int), str s', .slice B k' d, .bool op']) := by
   exact Blk.new' _ _ _ (by simp)
  have HE0 := hid (((Mod.refl [] w).alloc (.cells #[.int .i64 kind, .int .u64 (n : Int), str s, .slice A k c, .bool op] 52)).alloc (.cells #[.int .i64 kind', .int .u64 (n' : Int), str s', .slice B k' d, .bool op'] 52))
  clear h hok h' hok' ih HR
  go_enter Tryz.func101, Tryz.ntmps101
  by_cases e1 : kind = kind'
  ·
   subst e1
   by_cases e2 : n = n'
   ·
    subst e2
    by_cases e3 : s = s'
    ·
     subst e3
     by_cases e4 : op = op'
     ·
      subst e4
      by_cases e5 : k = k'
      ·
       subst e5
       have tk : ((k : Int) == (k : Int)) = true := by simp
       have HA := hid (fun (wr : World) (hX : Ext ((w.alloc (.cells #[.int .i64 kind, .int .u64 (n : Int), str s, .slice A k c, .bool op] 52)).alloc (.cells #[.int .i64 kind, .int .u64 (n : Int), str s, .slice B k d, .bool op] 52)) wr) => (show wr.cell? ⟨w.heap.size, 3, none⟩ = some (.slice A k c) ∧ wr.cell? ⟨w.heap.size + 1, 3, none⟩ = some (.slice B k d) from ⟨(HBa.out.ext hX).cell 3, (HBb.out.ext hX).cell 3⟩))
       have HEB := hid (Mod.refl [] ((w.alloc (.cells #[.int .i64 kind, .int .u64 (n : Int), str s, .slice A k c, .bool op] 52)).alloc (.cells #[.int .i64 kind, .int .u64 (n : Int), str s, .slice B k d, .bool op] 52)))
       go_wp2_with fail
       go_loopw [44] (fun s44 wr => ∃ i : Nat, i ≤ k ∧ s44 = .int .i64 (i : Int) ∧ Hid (Ext ((w.alloc (.cells #[.int .i64 kind, .int .u64 (n : Int), str s, .slice A k c, .bool op] 52)).alloc (.cells #[.int .i64 kind, .int .u64 (n : Int), str s, .slice B k d, .bool op] 52)) wr ∧ T.all (fun i => (ch i).same (ch' i)) i = true)) (fun i _ => k - (intOf i).toNat)
       case atStart => exact ⟨0, Nat.zero_le _, rfl, HEB.out, rfl⟩
       case round =>
        obtain ⟨i, hi, rfl, hX⟩ := hrel
        have HEW := hid (HE0.out.trans hX.out.1)
        have i0 : (0 : Int) ≤ (i : Int) := by omega
        by_cases hlt : i < k
        ·
         obtain ⟨y0, y1⟩ := HA.out wr hX.out.1
         obtain ⟨b, o, Ai, ci, rfl, hb, ⟨k0, k1, k2, k3, k4⟩, hL⟩ := H.out.cells HEW.out hlt
         obtain ⟨b', o', Ai', ci', rfl, hb', ⟨l0, l1, l2, l3, l4⟩, hL'⟩ := H'.out.cells HEW.out hlt
         have i1 : (i : Int) < (k : Int) := by omega
         have ti : decide (i < k) = true := by simp [hlt]
         have HL := hid hL; have HL' := hid hL'; have HLT := hid hlt
         have HOi : Hid (ch i).ok := by have := HO.out; unfold T.ok at this; exact this.2.2.2.2 i hlt
         have HOi' : Hid (ch' i).ok := by have := HO'.out; unfold T.ok at this; exact this.2.2.2.2 i hlt
         have hb0 : b < wr.heap.size := Nat.lt_of_lt_of_le hb HEW.out.size
         have hb0' : b' < wr.heap.size := Nat.lt_of_lt_of_le hb' HEW.out.size
         have HL5 : Hid (∀ W, Ext wr W → W.cell? ⟨b, o + i * 5 + 3, none⟩ = some (.slice Ai (ch i).k ci)) := fun W hW => (hW.cell hb0 (by simp)).trans k3
         have HL5' : Hid (∀ W, Ext wr W → W.cell? ⟨b', o' + i * 5 + 3, none⟩ = some (.slice Ai' (ch' i).k ci')) := fun W hW => (hW.cell hb0' (by simp)).trans l3
         clear hb hb' hb0 hb0'
         have HC := hid (fun W hW => HI.out i (ch' i) HOi.out HOi'.out Ai ci Ai' ci' W (HL.out.ext hW) (HL'.out.ext hW))
         have HS : Hid (∀ W, Ext wr W → W.cell? ⟨w.heap.size, 3, none⟩ = some (.slice (some ⟨b, o, none⟩) k c) ∧ W.cell? ⟨w.heap.size + 1, 3, none⟩ = some (.slice (some ⟨b', o', none⟩) k d) ∧ W.cell? ⟨b, o + i * 5, none⟩ = some (.int .i64 (ch i).kind) ∧ W.cell? ⟨b, o + i * 5 + 1, none⟩ = some (.int .u64 ((ch i).n : Int)) ∧ W.cell? ⟨b, o + i * 5 + 2, none⟩ = some (str (ch i).s) ∧ W.cell? ⟨b, o + i * 5 + 3, none⟩ = some (.slice Ai (ch i).k ci) ∧ W.cell? ⟨b, o + i * 5 + 4, none⟩ = some (.bool (ch i).op) ∧ W.cell? ⟨b', o' + i * 5, none⟩ = some (.int .i64 (ch' i).kind) ∧ W.cell? ⟨b', o' + i * 5 + 1, none⟩ = some (.int .u64 ((ch' i).n : Int)) ∧ W.cell? ⟨b', o' + i * 5 + 2, none⟩ = some (str (ch' i).s) ∧ W.cell? ⟨b', o' + i * 5 + 3, none⟩ = some (.slice Ai' (ch' i).k ci') ∧ W.cell? ⟨b', o' + i * 5 + 4, none⟩ = some (.bool (ch' i).op)) := fun W hW => by
          obtain ⟨z0, z1⟩ := HA.out W (hX.out.1.trans hW)
          obtain ⟨e1, e2, Ai2, ci2, e3, _, ⟨p0, p1, p2, p3, p4⟩, _⟩ := H.out.cells (HEW.out.trans hW) hlt
          obtain ⟨e1', e2', Ai2', ci2', e3', _, ⟨q0, q1, q2, q3, q4⟩, _⟩ := H'.out.cells (HEW.out.trans hW) hlt
          simp only [Option.some.injEq, Addr.mk.injEq, and_true] at e3 e3'
          obtain ⟨rfl, rfl⟩ := e3
          obtain ⟨rfl, rfl⟩ := e3'
          have g3 := HL5.out W hW; have g3' := HL5'.out W hW
          rw [p3] at g3; rw [q3] at g3'
          exact ⟨z0, z1, p0, p1, p2, p3.trans g3, p4, q0, q1, q2, q3.trans g3', q4⟩
         clear hL hL' hlt
         have hk2 : (k : Int) < 4611686018427387904 := by have := hk.out; omega
         go_upto_region 6 with fail
         go_region_held3 (fun w' => w'.cell? ⟨w.heap.size, 3, none⟩ = some (.slice (some ⟨b, o, none⟩) k c) ∧ w'.cell? ⟨w.heap.size + 1, 3, none⟩ = some (.slice (some ⟨b', o', none⟩) k d) ∧ w'.cell? ⟨b, o + i * 5, none⟩ = some (.int .i64 (ch i).kind) ∧ w'.cell? ⟨b, o + i * 5 + 1, none⟩ = some (.int .u64 ((ch i).n : Int)) ∧ w'.cell? ⟨b, o + i * 5 + 2, none⟩ = some (str (ch i).s) ∧ w'.cell? ⟨b, o + i * 5 + 3, none⟩ = some (.slice Ai (ch i).k ci) ∧ w'.cell? ⟨b, o + i * 5 + 4, none⟩ = some (.bool (ch i).op) ∧ w'.cell? ⟨b', o' + i * 5, none⟩ = some (.int .i64 (ch' i).kind) ∧ w'.cell? ⟨b', o' + i * 5 + 1, none⟩ = some (.int .u64 ((ch' i).n : Int)) ∧ w'.cell? ⟨b', o' + i * 5 + 2, none⟩ = some (str (ch' i).s) ∧ w'.cell? ⟨b', o' + i * 5 + 3, none⟩ = some (.slice Ai' (ch' i).k ci') ∧ w'.cell? ⟨b', o' + i * 5 + 4, none⟩ = some (.bool (ch' i).op)) (exact HS.out _ (by (repeat (first | with_reducible assumption | with_reducible exact Mod.refl _ _ | with_reducible refine Mod.drew ?_))))
          ((go_at_call 101; refine (HC.out _ ?_).mono ?_; (repeat (first | with_reducible assumption | with_reducible exact Mod.refl _ _ | with_reducible refine Mod.drew ?_)); rintro e w3 ⟨rfl, hb3⟩; have hx3 : Ext wr w3 := (by with_reducible refine Mod.trans ?_ hb3; (repeat (first | with_reducible assumption | with_reducible exact Mod.refl _ _ | with_reducible refine Mod.drew ?_)))))
         have HE3 := hid (hX.out.1.trans hx3)
         have HE4 := hid (HEW.out.trans hx3)
         have HW1 : Hid (wrap64 ((i : Int) + 1) = (i : Int) + 1) := IntWalk.wrap64_in _ (by omega)
         clear hb3 hk2
         cases hpl : (ch i).same (ch' i)
         ·
          have hno : T.all (fun i => (ch i).same (ch' i)) k = false := by
           have hlt := HLT.out
           cases hh : T.all (fun i => (ch i).same (ch' i)) k with
           | false => rfl
           | true => have := T.all_iff.1 hh i hlt; rw [hpl] at this; cases this
          have HNO := hid hno
          clear hno hpl
          go_wp2_with fail
          go_ret
          exact Ret.mk (by rw [HNO.out]; simp) HE4.out
         ·
          have HPL := hid hpl
          clear hpl
          go_wp2_with fail
          have hlt := HLT.out
          have G1 : Value.int .i64 (wrap64 ((i : Int) + 1)) = .int .i64 ((i + 1 : Nat) : Int) := by rw [HW1.out]; simp
          have G2 : T.all (fun i => (ch i).same (ch' i)) (i + 1) = true := by rw [T.all, hX.out.2, HPL.out]; rfl
          have G3 : k - (intOf (Value.int .i64 (wrap64 ((i : Int) + 1)))).toNat < k - (intOf (.int .i64 (i : Int))).toNat := by rw [G1]; simp only [intOf]; omega
          refine ⟨⟨i + 1, by omega, G1, (show Hid _ from ⟨HE3.out, G2⟩)⟩, G3⟩
        ·
         obtain rfl : i = k := by omega
         have ti : decide (i < i) = false := by simp
         go_wp2_with fail
         go_ret
         exact Ret.mk (by rw [hX.out.2]; simp) HEW.out
      ·
       have f5 : (k = k') = False := by simp [e5]
       have f5' : ((k : Int) == (k' : Int)) = false := by simp; omega
       cases op
       ·
        go_wp2_with fail
        go_ret
        exact Ret.mk (by simp [e5]) HE0.out
       ·
        go_wp2_with fail
        go_ret
        exact Ret.mk (by simp [e5]) HE0.out
     ·
      have f4 : (op == op') = false := by simp [e4]
      have f4' : (op = op') = False := by simp [e4]
      go_wp2_with fail
      go_ret
      exact Ret.mk (by simp) HE0.out
    ·
     have f3 : (s == s') = false := by simp [e3]
     have f3' : (s = s') = False := by simp [e3]
     go_wp2_with fail
     go_ret
     exact Ret.mk (by simp) HE0.out
   ·
    have f2 : ((n : Int) == (n' : Int)) = false := by simp; omega
    have f2' : (n = n') = False := by simp [e2]
    go_wp2_with fail
    go_ret
    exact Ret.mk (by simp [e2]) HE0.out
  ·
   have f1 : (kind == kind') = false := by simp [e1]
   have f1' : (kind = kind') = False := by simp [e1]
   go_wp2_with fail
   go_ret
   exact Ret.mk (by simp) HE0.out
end Go.Proofs.YtfgipgpbjfhflaaGreat


namespace Go.Proofs.YtfgipgpbjfhflaaGreat
open Go.ChangeShapes Go.WideShapes Go.ChangeAt Go.RowKit Go.Deep
set_option linter.unusedVariables false
set_option linter.unusedSimpArgs false

section
variable {H : Type} {enc : TypeId × Value → H} {w : World} {base b0 : Nat} {spare : Nat → Bool} {held : Bool} {r : Reach}
/-- A field of one cell, read alone. -/
theorem field_at {P : Program} {fs : Array Field} {cs : List Value} {ys : List (DataW H × List MemPlace)} {n : Nat} (hone : oneCellFields P fs = true)
  (hfl : ∀ (i : Nat) (f : Field), fs[i]? = some f → DataW.trod enc P w base spare held n f.type ((cs.drop f.offset).take (P.cellsOf f.type)) = ys[i]?)
  {i : Nat} {f : Field} (h : fs[i]? = some f) {c : Value} (hc : cs[i]? = some c) : DataW.trod enc P w base spare held n f.type [c] = ys[i]? := by
 obtain ⟨ho, hk⟩ := hone_of hone i f h
 have := hfl i f h
 rw [ho, hk] at this
 obtain ⟨hlt, hv⟩ := List.getElem?_eq_some_iff.1 hc
 rw [List.drop_eq_getElem_cons hlt, hv] at this
 exact this

end
end Go.Proofs.YtfgipgpbjfhflaaGreat


namespace Go.Proofs.YtfgipgpbjfhflaaGreat
open Go.RowKit
set_option linter.unusedVariables false
set_option linter.unusedSimpArgs false

set_option maxRecDepth 20000 in
set_option maxHeartbeats 1600000 in
/-- The code's Same. -/
theorem Same_any (a b : T) (hoa : a.ok) (hob : b.ok) (A B : Option Addr) (c d : Nat) (w : World) (ha : IsL w (fun _ => True) a A) (hb : IsL w (fun _ => True) b B) :
  Calls Tryz.prog 65 #[itemV a A c, itemV b B d] w (Ret (.bool (a.right 8 && b.right 8 && a.same b)) w) := by
 have H := hid ha; have H' := hid hb; have HO := hid hoa; have HO' := hid hob
 have HBa : Hid (Blk ((w.alloc (.cells (itemC a A c) 52)).alloc (.cells (itemC b B d) 52)) w.heap.size 52 (itemC a A c)) := (Blk.new _ _ _).alloc _
 have HBb : Hid (Blk ((w.alloc (.cells (itemC a A c) 52)).alloc (.cells (itemC b B d) 52)) (w.heap.size + 1) 52 (itemC b B d)) := Blk.new' _ _ _ (by simp)
 have HE0 := hid (((Mod.refl [] w).alloc (.cells (itemC a A c) 52)).alloc (.cells (itemC b B d) 52))
 clear ha hb hoa hob
 go_enter Tryz.func65, Tryz.ntmps65
 go_wp2_with fail
 refine (iRight_any a HO.out A c _ (H.out.ext HE0.out)).mono ?_
 rintro e w2 ⟨rfl, hb2⟩
 have HE2 := hid (HE0.out.trans hb2)
 have hBa2 := HBa.out.ext hb2
 have hBb2 := HBb.out.ext hb2
 have ca0 : w2.cell? ⟨w.heap.size, 0, none⟩ = some (.int .i64 a.kind) := hBa2.cell 0
 have ca1 : w2.cell? ⟨w.heap.size, 1, none⟩ = some (.int .u64 (a.n : Int)) := hBa2.cell 1
 have ca2 : w2.cell? ⟨w.heap.size, 2, none⟩ = some (str a.s) := hBa2.cell 2
 have ca3 : w2.cell? ⟨w.heap.size, 3, none⟩ = some (.slice A a.k c) := hBa2.cell 3
 have ca4 : w2.cell? ⟨w.heap.size, 4, none⟩ = some (.bool a.op) := hBa2.cell 4
 have cb0 : w2.cell? ⟨w.heap.size + 1, 0, none⟩ = some (.int .i64 b.kind) := hBb2.cell 0
 have cb1 : w2.cell? ⟨w.heap.size + 1, 1, none⟩ = some (.int .u64 (b.n : Int)) := hBb2.cell 1
 have cb2 : w2.cell? ⟨w.heap.size + 1, 2, none⟩ = some (str b.s) := hBb2.cell 2
 have cb3 : w2.cell? ⟨w.heap.size + 1, 3, none⟩ = some (.slice B b.k d) := hBb2.cell 3
 have cb4 : w2.cell? ⟨w.heap.size + 1, 4, none⟩ = some (.bool b.op) := hBb2.cell 4
 have HA2 := hid hBa2; have HB2 := hid hBb2
 clear hBa2 hBb2 hb2
 cases hr : a.right 8
 ·
  have HR := hid hr
  clear hr
  go_wp2_with fail
  go_ret
  exact Ret.mk (by simp [show a.right 8 = false from HR.out]) HE2.out
 ·
  have HR := hid hr
  clear hr
  go_wp2_with fail
  refine (iRight_any b HO'.out B d _ (H'.out.ext HE2.out)).mono ?_
  rintro e w3 ⟨rfl, hb3⟩
  have HE3 := hid (HE2.out.trans hb3)
  have hBa2 := HA2.out.ext hb3
  have hBb2 := HB2.out.ext hb3
  clear ca0 ca1 ca2 ca3 ca4 cb0 cb1 cb2 cb3 cb4
  have ca0 : w3.cell? ⟨w.heap.size, 0, none⟩ = some (.int .i64 a.kind) := hBa2.cell 0
  have ca1 : w3.cell? ⟨w.heap.size, 1, none⟩ = some (.int .u64 (a.n : Int)) := hBa2.cell 1
  have ca2 : w3.cell? ⟨w.heap.size, 2, none⟩ = some (str a.s) := hBa2.cell 2
  have ca3 : w3.cell? ⟨w.heap.size, 3, none⟩ = some (.slice A a.k c) := hBa2.cell 3
  have ca4 : w3.cell? ⟨w.heap.size, 4, none⟩ = some (.bool a.op) := hBa2.cell 4
  have cb0 : w3.cell? ⟨w.heap.size + 1, 0, none⟩ = some (.int .i64 b.kind) := hBb2.cell 0
  have cb1 : w3.cell? ⟨w.heap.size + 1, 1, none⟩ = some (.int .u64 (b.n : Int)) := hBb2.cell 1
  have cb2 : w3.cell? ⟨w.heap.size + 1, 2, none⟩ = some (str b.s) := hBb2.cell 2
  have cb3 : w3.cell? ⟨w.heap.size + 1, 3, none⟩ = some (.slice B b.k d) := hBb2.cell 3
  have cb4 : w3.cell? ⟨w.heap.size + 1, 4, none⟩ = some (.bool b.op) := hBb2.cell 4
  clear hBa2 hBb2 hb3
  cases hr : b.right 8
  ·
   have HR2 := hid hr
   clear hr
   go_wp2_with fail
   go_ret
   exact Ret.mk (by simp [show b.right 8 = false from HR2.out]) HE3.out
  ·
   have HR2 := hid hr
   clear hr
   go_wp2_with fail
   refine (same_any a b HO.out HO'.out A c B d _ (H.out.ext HE3.out) (H'.out.ext HE3.out)).mono ?_
   rintro e w4 ⟨rfl, hb4⟩
   go_wp2_with fail
   go_ret
   exact Ret.mk (by simp [show a.right 8 = true from HR.out, show b.right 8 = true from HR2.out]) (HE3.out.trans hb4)

/-- The two arguments' blocks in a later world. -/
structure Two (W : World) (g : Nat) (a b : T) (A B : Option Addr) (c d : Nat) : Prop where
 a0 : W.cell? ⟨g, 0, none⟩ = some (.int .i64 a.kind)
 a1 : W.cell? ⟨g, 1, none⟩ = some (.int .u64 (a.n : Int))
 a2 : W.cell? ⟨g, 2, none⟩ = some (str a.s)
 a3 : W.cell? ⟨g, 3, none⟩ = some (.slice A a.k c)
 a4 : W.cell? ⟨g, 4, none⟩ = some (.bool a.op)
 b0 : W.cell? ⟨g + 1, 0, none⟩ = some (.int .i64 b.kind)
 b1 : W.cell? ⟨g + 1, 1, none⟩ = some (.int .u64 (b.n : Int))
 b2 : W.cell? ⟨g + 1, 2, none⟩ = some (str b.s)
 b3 : W.cell? ⟨g + 1, 3, none⟩ = some (.slice B b.k d)
 b4 : W.cell? ⟨g + 1, 4, none⟩ = some (.bool b.op)
theorem Two.new (w : World) (a b : T) (A B : Option Addr) (c d : Nat) : Hid (∀ W, Ext ((w.alloc (.cells (itemC a A c) 52)).alloc (.cells (itemC b B d) 52)) W → Two W w.heap.size a b A B c d) := fun W hW => by
 have h1 : Blk W w.heap.size 52 (itemC a A c) := ((Blk.new _ _ _).alloc _).ext hW
 have h2 : Blk W (w.heap.size + 1) 52 (itemC b B d) := (Blk.new' _ _ _ (by simp)).ext hW
 exact ⟨h1.cell 0, h1.cell 1, h1.cell 2, h1.cell 3, h1.cell 4, h2.cell 0, h2.cell 1, h2.cell 2, h2.cell 3, h2.cell 4⟩

end Go.Proofs.YtfgipgpbjfhflaaGreat


namespace Go.Proofs.YtfgipgpbjfhflaaGreat
open Go.RowKit
set_option linter.unusedVariables false
set_option linter.unusedSimpArgs false

def zeroE : EV := ⟨0, [], 0, 0⟩
def noneE : EV := ⟨1, [110, 111, 110, 101], 0, 0⟩
def readE (t : T) : EV :=
 if t.kind ≠ 4 ∨ t.k ≠ 2 ∨ (t.ch 0).kind ≠ 0 then zeroE
 else if (t.ch 0).n = 2 ∧ (t.ch 1).k = 2 then ⟨2, [], ((t.ch 1).ch 0).n, ((t.ch 1).ch 1).n⟩
 else if (t.ch 0).n = 1 ∧ (t.ch 1).kind = 3 then ⟨1, (t.ch 1).s, 0, 0⟩
 else noneE

set_option maxRecDepth 20000 in
set_option maxHeartbeats 800000 in
theorem eread_1 (t : T) (A : Option Addr) (c : Nat) (h : t.kind ≠ 4) (w : World) : Calls Tryz.prog 133 #[.agg (itemC t A c)] w (Ret zeroE.v w) := by
 have HE := hid (((Mod.refl [] w).alloc (.cells (itemC t A c) 52)).alloc (.cells #[.int .i64 0, .string ⟨#[]⟩, .int .u64 0, .int .u64 0] 24))
 have n1 : (t.kind == 4) = false := by simpa using h
 have n2 : (t.kind = 4) = False := by simpa using h
 have n3 : (t.kind != 4) = true := by simpa using h
 clear h
 go_enter Tryz.func133, Tryz.ntmps133
 go_wp2_with fail
 refine bodyPost_ret (v := .agg #[.int .i64 0, str [], .int .u64 0, .int .u64 0]) (by simp [results, Tryz.results133, go_sem]) rfl (Ret.mk rfl (by first | exact (((Mod.refl _ _).alloc _).alloc _) | exact ((((Mod.refl _ _).alloc _).alloc _).alloc _)))
set_option maxRecDepth 20000 in
set_option maxHeartbeats 800000 in
theorem eread_2 (n : Nat) (s : List UInt8) (op : Bool) (k : Nat) (A : Option Addr) (c : Nat) (h : k ≠ 2) (w : World) : Calls Tryz.prog 133 #[.agg #[.int .i64 4, .int .u64 (n : Int), str s, .slice A k c, .bool op]] w (Ret zeroE.v w) := by
 have HE := hid (((Mod.refl [] w).alloc (.cells #[.int .i64 4, .int .u64 (n : Int), str s, .slice A k c, .bool op] 52)).alloc (.cells #[.int .i64 0, .string ⟨#[]⟩, .int .u64 0, .int .u64 0] 24))
 have n1 : ((k : Int) == 2) = false := by simp; omega
 have n2 : ((k : Int) = 2) = False := by simp; omega
 have n3 : ((k : Int) != 2) = true := by simp; omega
 clear h
 go_enter Tryz.func133, Tryz.ntmps133
 go_wp2_with fail
 refine bodyPost_ret (v := .agg #[.int .i64 0, str [], .int .u64 0, .int .u64 0]) (by simp [results, Tryz.results133, go_sem]) rfl (Ret.mk rfl (by first | exact (((Mod.refl _ _).alloc _).alloc _) | exact ((((Mod.refl _ _).alloc _).alloc _).alloc _)))
set_option maxRecDepth 20000 in
set_option maxHeartbeats 800000 in
theorem eread_3 (n : Nat) (s : List UInt8) (op : Bool) (ch : Nat → T) (b o c : Nat) (A0 A1 : Option Addr) (c0 c1 : Nat) (h : (ch 0).kind ≠ 0) (w : World) (hb : b < w.heap.size) (h0 : At5 w b o (ch 0) A0 c0) (h1 : At5 w b (o + 5) (ch 1) A1 c1) : Calls Tryz.prog 133 #[.agg #[.int .i64 4, .int .u64 (n : Int), str s, .slice (some ⟨b, o, none⟩) 2 c, .bool op]] w (Ret zeroE.v w) := by
 have HE := hid (((Mod.refl [] w).alloc (.cells #[.int .i64 4, .int .u64 (n : Int), str s, .slice (some ⟨b, o, none⟩) 2 c, .bool op] 52)).alloc (.cells #[.int .i64 0, .string ⟨#[]⟩, .int .u64 0, .int .u64 0] 24))
 obtain ⟨x0, x1, x2, x3, x4⟩ := h0.mod HE.out hb (by simp)
 obtain ⟨y0, y1, y2, y3, y4⟩ := h1.mod HE.out hb (by simp)
 have n1 : ((ch 0).kind == 0) = false := by simpa using h
 have n2 : ((ch 0).kind = 0) = False := by simpa using h
 have n3 : ((ch 0).kind != 0) = true := by simpa using h
 clear h h0 h1
 go_enter Tryz.func133, Tryz.ntmps133
 go_wp2_with fail
 refine bodyPost_ret (v := .agg #[.int .i64 0, str [], .int .u64 0, .int .u64 0]) (by simp [results, Tryz.results133, go_sem]) rfl (Ret.mk rfl (by first | exact (((Mod.refl _ _).alloc _).alloc _) | exact ((((Mod.refl _ _).alloc _).alloc _).alloc _)))
set_option maxRecDepth 20000 in
set_option maxHeartbeats 800000 in
theorem eread_4 (n : Nat) (s : List UInt8) (op : Bool) (ch : Nat → T) (b o c : Nat) (A0 A1 : Option Addr) (c0 c1 : Nat) (b1 o1 : Nat) (A2 A3 : Option Addr) (c2 c3 : Nat) (hk0 : (ch 0).kind = 0) (hn0 : (ch 0).n = 2) (hk1 : (ch 1).k = 2) (hA : A1 = some ⟨b1, o1, none⟩) (w : World) (hb : b < w.heap.size) (h0 : At5 w b o (ch 0) A0 c0) (h1 : At5 w b (o + 5) (ch 1) A1 c1) (hb1 : b1 < w.heap.size) (h2 : At5 w b1 o1 ((ch 1).ch 0) A2 c2) (h3 : At5 w b1 (o1 + 5) ((ch 1).ch 1) A3 c3) : Calls Tryz.prog 133 #[.agg #[.int .i64 4, .int .u64 (n : Int), str s, .slice (some ⟨b, o, none⟩) 2 c, .bool op]] w (Ret (EV.v ⟨2, [], ((ch 1).ch 0).n, ((ch 1).ch 1).n⟩) w) := by
 have HE := hid (((Mod.refl [] w).alloc (.cells #[.int .i64 4, .int .u64 (n : Int), str s, .slice (some ⟨b, o, none⟩) 2 c, .bool op] 52)).alloc (.cells #[.int .i64 0, .string ⟨#[]⟩, .int .u64 0, .int .u64 0] 24))
 obtain ⟨x0, x1, x2, x3, x4⟩ := h0.mod HE.out hb (by simp)
 obtain ⟨y0, y1, y2, y3, y4⟩ := h1.mod HE.out hb (by simp)
 obtain ⟨_, z1, _⟩ := h2.mod HE.out hb1 (by simp)
 obtain ⟨_, v1, _⟩ := h3.mod HE.out hb1 (by simp)
 rw [hk0] at x0
 rw [hn0] at x1
 subst hA
 rw [hk1] at y3
 have HE3 := hid (HE.out.alloc (.cells #[.int .i64 (ch 1).kind, .int .u64 ((ch 1).n : Int), str (ch 1).s, .slice (some ⟨b1, o1, none⟩) 2 c1, .bool (ch 1).op] 52))
 have gx1 : (((w.alloc (.cells #[.int .i64 4, .int .u64 (n : Int), str s, .slice (some ⟨b, o, none⟩) 2 c, .bool op] 52)).alloc (.cells #[.int .i64 0, .string ⟨#[]⟩, .int .u64 0, .int .u64 0] 24)).alloc (.cells #[.int .i64 (ch 1).kind, .int .u64 ((ch 1).n : Int), str (ch 1).s, .slice (some ⟨b1, o1, none⟩) 2 c1, .bool (ch 1).op] 52)).cell? ⟨b, o + 1, none⟩ = some (.int .u64 2) := by have := (h0.mod HE3.out hb (by simp)).2.1; rw [hn0] at this; exact this
 have gz : (((w.alloc (.cells #[.int .i64 4, .int .u64 (n : Int), str s, .slice (some ⟨b, o, none⟩) 2 c, .bool op] 52)).alloc (.cells #[.int .i64 0, .string ⟨#[]⟩, .int .u64 0, .int .u64 0] 24)).alloc (.cells #[.int .i64 (ch 1).kind, .int .u64 ((ch 1).n : Int), str (ch 1).s, .slice (some ⟨b1, o1, none⟩) 2 c1, .bool (ch 1).op] 52)).cell? ⟨b1, o1 + 1, none⟩ = some (.int .u64 (((ch 1).ch 0).n : Int)) := (h2.mod HE3.out hb1 (by simp)).2.1
 have gv : (((w.alloc (.cells #[.int .i64 4, .int .u64 (n : Int), str s, .slice (some ⟨b, o, none⟩) 2 c, .bool op] 52)).alloc (.cells #[.int .i64 0, .string ⟨#[]⟩, .int .u64 0, .int .u64 0] 24)).alloc (.cells #[.int .i64 (ch 1).kind, .int .u64 ((ch 1).n : Int), str (ch 1).s, .slice (some ⟨b1, o1, none⟩) 2 c1, .bool (ch 1).op] 52)).cell? ⟨b1, o1 + 5 + 1, none⟩ = some (.int .u64 (((ch 1).ch 1).n : Int)) := (h3.mod HE3.out hb1 (by simp)).2.1
 clear hk0 hn0 hk1 h0 h1 h2 h3
 go_enter Tryz.func133, Tryz.ntmps133
 go_wp2_with fail
 go_region
 all_goals go_wp2_with fail
 all_goals refine bodyPost_ret (v := EV.v ⟨2, [], ((ch 1).ch 0).n, ((ch 1).ch 1).n⟩) (by simp [results, Tryz.results133, go_sem]) rfl (Ret.mk rfl ((((Mod.refl _ _).alloc _).alloc _).alloc _).drew)
set_option maxRecDepth 20000 in
set_option maxHeartbeats 800000 in
theorem eread_5 (n : Nat) (s : List UInt8) (op : Bool) (ch : Nat → T) (b o c : Nat) (A0 A1 : Option Addr) (c0 c1 : Nat) (hk0 : (ch 0).kind = 0) (hn0 : (ch 0).n = 1) (hk1 : (ch 1).kind = 3) (w : World) (hb : b < w.heap.size) (h0 : At5 w b o (ch 0) A0 c0) (h1 : At5 w b (o + 5) (ch 1) A1 c1) : Calls Tryz.prog 133 #[.agg #[.int .i64 4, .int .u64 (n : Int), str s, .slice (some ⟨b, o, none⟩) 2 c, .bool op]] w (Ret (EV.v ⟨1, (ch 1).s, 0, 0⟩) w) := by
 have HE := hid (((Mod.refl [] w).alloc (.cells #[.int .i64 4, .int .u64 (n : Int), str s, .slice (some ⟨b, o, none⟩) 2 c, .bool op] 52)).alloc (.cells #[.int .i64 0, .string ⟨#[]⟩, .int .u64 0, .int .u64 0] 24))
 obtain ⟨x0, x1, x2, x3, x4⟩ := h0.mod HE.out hb (by simp)
 obtain ⟨y0, y1, y2, y3, y4⟩ := h1.mod HE.out hb (by simp)
 rw [hk0] at x0
 rw [hn0] at x1
 rw [hk1] at y0
 have HE3 := hid (HE.out.alloc (.cells #[.int .i64 3, .int .u64 ((ch 1).n : Int), str (ch 1).s, .slice A1 (ch 1).k c1, .bool (ch 1).op] 52))
 have gx1 : (((w.alloc (.cells #[.int .i64 4, .int .u64 (n : Int), str s, .slice (some ⟨b, o, none⟩) 2 c, .bool op] 52)).alloc (.cells #[.int .i64 0, .string ⟨#[]⟩, .int .u64 0, .int .u64 0] 24)).alloc (.cells #[.int .i64 3, .int .u64 ((ch 1).n : Int), str (ch 1).s, .slice A1 (ch 1).k c1, .bool (ch 1).op] 52)).cell? ⟨b, o + 1, none⟩ = some (.int .u64 1) := by have := (h0.mod HE3.out hb (by simp)).2.1; rw [hn0] at this; exact this
 clear hk0 hn0 hk1 h0 h1
 go_enter Tryz.func133, Tryz.ntmps133
 go_wp2_with fail
 refine bodyPost_ret (v := EV.v ⟨1, (ch 1).s, 0, 0⟩) (by simp [results, Tryz.results133, go_sem]) rfl (Ret.mk rfl (by first | exact (((Mod.refl _ _).alloc _).alloc _) | exact ((((Mod.refl _ _).alloc _).alloc _).alloc _)))
set_option maxRecDepth 20000 in
set_option maxHeartbeats 800000 in
theorem eread_6 (n : Nat) (s : List UInt8) (op : Bool) (ch : Nat → T) (b o c : Nat) (A0 A1 : Option Addr) (c0 c1 : Nat) (hk0 : (ch 0).kind = 0) (hn0 : (ch 0).n = 2) (hk1 : (ch 1).k ≠ 2) (w : World) (hb : b < w.heap.size) (h0 : At5 w b o (ch 0) A0 c0) (h1 : At5 w b (o + 5) (ch 1) A1 c1) : Calls Tryz.prog 133 #[.agg #[.int .i64 4, .int .u64 (n : Int), str s, .slice (some ⟨b, o, none⟩) 2 c, .bool op]] w (Ret noneE.v w) := by
 have HE := hid (((Mod.refl [] w).alloc (.cells #[.int .i64 4, .int .u64 (n : Int), str s, .slice (some ⟨b, o, none⟩) 2 c, .bool op] 52)).alloc (.cells #[.int .i64 0, .string ⟨#[]⟩, .int .u64 0, .int .u64 0] 24))
 obtain ⟨x0, x1, x2, x3, x4⟩ := h0.mod HE.out hb (by simp)
 obtain ⟨y0, y1, y2, y3, y4⟩ := h1.mod HE.out hb (by simp)
 rw [hk0] at x0
 rw [hn0] at x1
 have n1 : (((ch 1).k : Int) == 2) = false := by simp; omega
 have n2 : (((ch 1).k : Int) = 2) = False := by simp; omega
 have HE3 := hid (HE.out.alloc (.cells #[.int .i64 (ch 1).kind, .int .u64 ((ch 1).n : Int), str (ch 1).s, .slice A1 (ch 1).k c1, .bool (ch 1).op] 52))
 have gx1 : (((w.alloc (.cells #[.int .i64 4, .int .u64 (n : Int), str s, .slice (some ⟨b, o, none⟩) 2 c, .bool op] 52)).alloc (.cells #[.int .i64 0, .string ⟨#[]⟩, .int .u64 0, .int .u64 0] 24)).alloc (.cells #[.int .i64 (ch 1).kind, .int .u64 ((ch 1).n : Int), str (ch 1).s, .slice A1 (ch 1).k c1, .bool (ch 1).op] 52)).cell? ⟨b, o + 1, none⟩ = some (.int .u64 2) := by have := (h0.mod HE3.out hb (by simp)).2.1; rw [hn0] at this; exact this
 clear hk0 hn0 hk1 h0 h1
 have HQ := hid ((Blk.new' (w.alloc (.cells #[.int .i64 4, .int .u64 (n : Int), str s, .slice (some ⟨b, o, none⟩) 2 c, .bool op] 52)) 24 #[.int .i64 0, .string ⟨#[]⟩, .int .u64 0, .int .u64 0] (N := w.heap.size + 1) (by simp)).alloc (.cells #[.int .i64 (ch 1).kind, .int .u64 ((ch 1).n : Int), str (ch 1).s, .slice A1 (ch 1).k c1, .bool (ch 1).op] 52))
 go_enter Tryz.func133, Tryz.ntmps133
 go_wp2_with fail
 refine (eidNone_any _).mono ?_
 rintro e w1 ⟨rfl, hb1⟩
 have HE1 : Hid (Ext w w1) := HE3.out.trans hb1
 have HQ1 := hid (HQ.out.ext hb1)
 clear hb1
 obtain ⟨r0, r1, r2, r3⟩ : w1.cell? ⟨w.heap.size + 1, 0, none⟩ = some (.int .i64 0) ∧ w1.cell? ⟨w.heap.size + 1, 1, none⟩ = some (str []) ∧ w1.cell? ⟨w.heap.size + 1, 2, none⟩ = some (.int .u64 0) ∧ w1.cell? ⟨w.heap.size + 1, 3, none⟩ = some (.int .u64 0) := ⟨HQ1.out.cell 0, HQ1.out.cell 1, HQ1.out.cell 2, HQ1.out.cell 3⟩
 have f0 := Blk.frozen HQ1.out 0
 have f1 := Blk.frozen HQ1.out 1
 have f2 := Blk.frozen HQ1.out 2
 have f3 := Blk.frozen HQ1.out 3
 go_wp2_with fail
 have B4 := (((HQ1.out.set_ 0 (.int .i64 1)).set_ 1 (str [110, 111, 110, 101])).set_ 2 (.int .u64 0)).set_ 3 (.int .u64 0)
 obtain ⟨d0, d1, d2, d3⟩ := And.intro (B4.cell 0) (And.intro (B4.cell 1) (And.intro (B4.cell 2) (B4.cell 3)))
 simp only [List.setIfInBounds_toArray, List.set_cons_zero, List.set_cons_succ, List.getElem?_toArray, List.getElem?_cons_zero, List.getElem?_cons_succ] at d0 d1 d2 d3
 clear r0 r1 r2 r3 f0 f1 f2 f3
 refine bodyPost_ret (v := .agg #[.int .i64 1, str [110, 111, 110, 101], .int .u64 0, .int .u64 0]) (by simp [results, Tryz.results133, go_sem, d0, d1, d2, d3]) rfl (Ret.mk rfl ((((HE1.out.setCell (.inr (by show w.heap.size ≤ w.heap.size + 1; omega)) _).setCell (.inr (by show w.heap.size ≤ w.heap.size + 1; omega)) _).setCell (.inr (by show w.heap.size ≤ w.heap.size + 1; omega)) _).setCell (.inr (by show w.heap.size ≤ w.heap.size + 1; omega)) _))
set_option maxRecDepth 20000 in
set_option maxHeartbeats 800000 in
theorem eread_7 (n : Nat) (s : List UInt8) (op : Bool) (ch : Nat → T) (b o c : Nat) (A0 A1 : Option Addr) (c0 c1 : Nat) (hk0 : (ch 0).kind = 0) (hn0 : (ch 0).n = 1) (hk1 : (ch 1).kind ≠ 3) (w : World) (hb : b < w.heap.size) (h0 : At5 w b o (ch 0) A0 c0) (h1 : At5 w b (o + 5) (ch 1) A1 c1) : Calls Tryz.prog 133 #[.agg #[.int .i64 4, .int .u64 (n : Int), str s, .slice (some ⟨b, o, none⟩) 2 c, .bool op]] w (Ret noneE.v w) := by
 have HE := hid (((Mod.refl [] w).alloc (.cells #[.int .i64 4, .int .u64 (n : Int), str s, .slice (some ⟨b, o, none⟩) 2 c, .bool op] 52)).alloc (.cells #[.int .i64 0, .string ⟨#[]⟩, .int .u64 0, .int .u64 0] 24))
 obtain ⟨x0, x1, x2, x3, x4⟩ := h0.mod HE.out hb (by simp)
 obtain ⟨y0, y1, y2, y3, y4⟩ := h1.mod HE.out hb (by simp)
 rw [hk0] at x0
 rw [hn0] at x1
 have n1 : ((ch 1).kind == 3) = false := by simpa using hk1
 have n2 : ((ch 1).kind = 3) = False := by simpa using hk1
 have HE3 := hid (HE.out.alloc (.cells #[.int .i64 (ch 1).kind, .int .u64 ((ch 1).n : Int), str (ch 1).s, .slice A1 (ch 1).k c1, .bool (ch 1).op] 52))
 have gx1 : (((w.alloc (.cells #[.int .i64 4, .int .u64 (n : Int), str s, .slice (some ⟨b, o, none⟩) 2 c, .bool op] 52)).alloc (.cells #[.int .i64 0, .string ⟨#[]⟩, .int .u64 0, .int .u64 0] 24)).alloc (.cells #[.int .i64 (ch 1).kind, .int .u64 ((ch 1).n : Int), str (ch 1).s, .slice A1 (ch 1).k c1, .bool (ch 1).op] 52)).cell? ⟨b, o + 1, none⟩ = some (.int .u64 1) := by have := (h0.mod HE3.out hb (by simp)).2.1; rw [hn0] at this; exact this
 clear hk0 hn0 hk1 h0 h1
 have HQ := hid ((Blk.new' (w.alloc (.cells #[.int .i64 4, .int .u64 (n : Int), str s, .slice (some ⟨b, o, none⟩) 2 c, .bool op] 52)) 24 #[.int .i64 0, .string ⟨#[]⟩, .int .u64 0, .int .u64 0] (N := w.heap.size + 1) (by simp)).alloc (.cells #[.int .i64 (ch 1).kind, .int .u64 ((ch 1).n : Int), str (ch 1).s, .slice A1 (ch 1).k c1, .bool (ch 1).op] 52))
 go_enter Tryz.func133, Tryz.ntmps133
 go_wp2_with fail
 refine (eidNone_any _).mono ?_
 rintro e w1 ⟨rfl, hb1⟩
 have HE1 : Hid (Ext w w1) := HE3.out.trans hb1
 have HQ1 := hid (HQ.out.ext hb1)
 clear hb1
 obtain ⟨r0, r1, r2, r3⟩ : w1.cell? ⟨w.heap.size + 1, 0, none⟩ = some (.int .i64 0) ∧ w1.cell? ⟨w.heap.size + 1, 1, none⟩ = some (str []) ∧ w1.cell? ⟨w.heap.size + 1, 2, none⟩ = some (.int .u64 0) ∧ w1.cell? ⟨w.heap.size + 1, 3, none⟩ = some (.int .u64 0) := ⟨HQ1.out.cell 0, HQ1.out.cell 1, HQ1.out.cell 2, HQ1.out.cell 3⟩
 have f0 := Blk.frozen HQ1.out 0
 have f1 := Blk.frozen HQ1.out 1
 have f2 := Blk.frozen HQ1.out 2
 have f3 := Blk.frozen HQ1.out 3
 go_wp2_with fail
 have B4 := (((HQ1.out.set_ 0 (.int .i64 1)).set_ 1 (str [110, 111, 110, 101])).set_ 2 (.int .u64 0)).set_ 3 (.int .u64 0)
 obtain ⟨d0, d1, d2, d3⟩ := And.intro (B4.cell 0) (And.intro (B4.cell 1) (And.intro (B4.cell 2) (B4.cell 3)))
 simp only [List.setIfInBounds_toArray, List.set_cons_zero, List.set_cons_succ, List.getElem?_toArray, List.getElem?_cons_zero, List.getElem?_cons_succ] at d0 d1 d2 d3
 clear r0 r1 r2 r3 f0 f1 f2 f3
 refine bodyPost_ret (v := .agg #[.int .i64 1, str [110, 111, 110, 101], .int .u64 0, .int .u64 0]) (by simp [results, Tryz.results133, go_sem, d0, d1, d2, d3]) rfl (Ret.mk rfl ((((HE1.out.setCell (.inr (by show w.heap.size ≤ w.heap.size + 1; omega)) _).setCell (.inr (by show w.heap.size ≤ w.heap.size + 1; omega)) _).setCell (.inr (by show w.heap.size ≤ w.heap.size + 1; omega)) _).setCell (.inr (by show w.heap.size ≤ w.heap.size + 1; omega)) _))
set_option maxRecDepth 20000 in
set_option maxHeartbeats 800000 in
theorem eread_8 (n : Nat) (s : List UInt8) (op : Bool) (ch : Nat → T) (b o c : Nat) (A0 A1 : Option Addr) (c0 c1 : Nat) (hk0 : (ch 0).kind = 0) (hn0 : (ch 0).n ≠ 1) (hn2 : (ch 0).n ≠ 2) (w : World) (hb : b < w.heap.size) (h0 : At5 w b o (ch 0) A0 c0) (h1 : At5 w b (o + 5) (ch 1) A1 c1) : Calls Tryz.prog 133 #[.agg #[.int .i64 4, .int .u64 (n : Int), str s, .slice (some ⟨b, o, none⟩) 2 c, .bool op]] w (Ret noneE.v w) := by
 have HE := hid (((Mod.refl [] w).alloc (.cells #[.int .i64 4, .int .u64 (n : Int), str s, .slice (some ⟨b, o, none⟩) 2 c, .bool op] 52)).alloc (.cells #[.int .i64 0, .string ⟨#[]⟩, .int .u64 0, .int .u64 0] 24))
 obtain ⟨x0, x1, x2, x3, x4⟩ := h0.mod HE.out hb (by simp)
 obtain ⟨y0, y1, y2, y3, y4⟩ := h1.mod HE.out hb (by simp)
 rw [hk0] at x0
 have n1 : (((ch 0).n : Int) == 1) = false := by simp; omega
 have n2 : (((ch 0).n : Int) = 1) = False := by simp; omega
 have n3 : (((ch 0).n : Int) == 2) = false := by simp; omega
 have n4 : (((ch 0).n : Int) = 2) = False := by simp; omega
 have HE3 := hid (HE.out.alloc (.cells #[.int .i64 (ch 1).kind, .int .u64 ((ch 1).n : Int), str (ch 1).s, .slice A1 (ch 1).k c1, .bool (ch 1).op] 52))
 have gx1 : (((w.alloc (.cells #[.int .i64 4, .int .u64 (n : Int), str s, .slice (some ⟨b, o, none⟩) 2 c, .bool op] 52)).alloc (.cells #[.int .i64 0, .string ⟨#[]⟩, .int .u64 0, .int .u64 0] 24)).alloc (.cells #[.int .i64 (ch 1).kind, .int .u64 ((ch 1).n : Int), str (ch 1).s, .slice A1 (ch 1).k c1, .bool (ch 1).op] 52)).cell? ⟨b, o + 1, none⟩ = some (.int .u64 ((ch 0).n : Int)) := by have := (h0.mod HE3.out hb (by simp)).2.1; exact this
 clear hk0 hn0 hn2 h0 h1
 have HQ := hid ((Blk.new' (w.alloc (.cells #[.int .i64 4, .int .u64 (n : Int), str s, .slice (some ⟨b, o, none⟩) 2 c, .bool op] 52)) 24 #[.int .i64 0, .string ⟨#[]⟩, .int .u64 0, .int .u64 0] (N := w.heap.size + 1) (by simp)).alloc (.cells #[.int .i64 (ch 1).kind, .int .u64 ((ch 1).n : Int), str (ch 1).s, .slice A1 (ch 1).k c1, .bool (ch 1).op] 52))
 go_enter Tryz.func133, Tryz.ntmps133
 go_wp2_with fail
 refine (eidNone_any _).mono ?_
 rintro e w1 ⟨rfl, hb1⟩
 have HE1 : Hid (Ext w w1) := HE3.out.trans hb1
 have HQ1 := hid (HQ.out.ext hb1)
 clear hb1
 obtain ⟨r0, r1, r2, r3⟩ : w1.cell? ⟨w.heap.size + 1, 0, none⟩ = some (.int .i64 0) ∧ w1.cell? ⟨w.heap.size + 1, 1, none⟩ = some (str []) ∧ w1.cell? ⟨w.heap.size + 1, 2, none⟩ = some (.int .u64 0) ∧ w1.cell? ⟨w.heap.size + 1, 3, none⟩ = some (.int .u64 0) := ⟨HQ1.out.cell 0, HQ1.out.cell 1, HQ1.out.cell 2, HQ1.out.cell 3⟩
 have f0 := Blk.frozen HQ1.out 0
 have f1 := Blk.frozen HQ1.out 1
 have f2 := Blk.frozen HQ1.out 2
 have f3 := Blk.frozen HQ1.out 3
 go_wp2_with fail
 have B4 := (((HQ1.out.set_ 0 (.int .i64 1)).set_ 1 (str [110, 111, 110, 101])).set_ 2 (.int .u64 0)).set_ 3 (.int .u64 0)
 obtain ⟨d0, d1, d2, d3⟩ := And.intro (B4.cell 0) (And.intro (B4.cell 1) (And.intro (B4.cell 2) (B4.cell 3)))
 simp only [List.setIfInBounds_toArray, List.set_cons_zero, List.set_cons_succ, List.getElem?_toArray, List.getElem?_cons_zero, List.getElem?_cons_succ] at d0 d1 d2 d3
 clear r0 r1 r2 r3 f0 f1 f2 f3
 refine bodyPost_ret (v := .agg #[.int .i64 1, str [110, 111, 110, 101], .int .u64 0, .int .u64 0]) (by simp [results, Tryz.results133, go_sem, d0, d1, d2, d3]) rfl (Ret.mk rfl ((((HE1.out.setCell (.inr (by show w.heap.size ≤ w.heap.size + 1; omega)) _).setCell (.inr (by show w.heap.size ≤ w.heap.size + 1; omega)) _).setCell (.inr (by show w.heap.size ≤ w.heap.size + 1; omega)) _).setCell (.inr (by show w.heap.size ≤ w.heap.size + 1; omega)) _))
theorem eread_any (t : T) (ht : t ≠ T.nil) (A : Option Addr) (c : Nat) (w : World) (h : IsL w (fun _ => True) t A) : Calls Tryz.prog 133 #[itemV t A c] w (Ret (readE t).v w) := by
 by_cases h4 : t.kind = 4
 case neg =>
  have e : readE t = zeroE := by unfold readE; rw [if_pos (Or.inl h4)]
  rw [e]; exact eread_1 t A c h4 w
 obtain ⟨kind, n, s, op, k, ch, rfl⟩ : ∃ kind n s op k ch, t = T.mk kind n s op k ch := by cases t with | nil => exact absurd rfl ht | mk a b d e f g => exact ⟨a, b, d, e, f, g, rfl⟩
 have h4 : kind = 4 := h4
 subst h4
 by_cases hk : k = 2
 case neg =>
  have e : readE (T.mk 4 n s op k ch) = zeroE := by unfold readE; rw [if_pos (Or.inr (Or.inl (show (T.mk 4 n s op k ch).k ≠ 2 from hk)))]
  rw [e]; exact eread_2 n s op k A c hk w
 subst hk
 obtain ⟨b, o, ac, rfl, hb, _, hc⟩ := h.rows (by omega)
 obtain ⟨a0, i0⟩ := hc 0 (by omega)
 obtain ⟨a1, i1⟩ := hc 1 (by omega)
 have a0 : At5 w b o (ch 0) (ac 0).1 (ac 0).2 := by simpa using a0
 have a1 : At5 w b (o + 5) (ch 1) (ac 1).1 (ac 1).2 := by simpa using a1
 by_cases hk0 : (ch 0).kind = 0
 case neg =>
  have e : readE (T.mk 4 n s op 2 ch) = zeroE := by unfold readE; rw [if_pos (Or.inr (Or.inr (show ((T.mk 4 n s op 2 ch).ch 0).kind ≠ 0 from hk0)))]
  rw [e]; exact eread_3 n s op ch b o c _ _ _ _ hk0 w hb a0 a1
 have hz : ¬ ((T.mk 4 n s op 2 ch).kind ≠ 4 ∨ (T.mk 4 n s op 2 ch).k ≠ 2 ∨ ((T.mk 4 n s op 2 ch).ch 0).kind ≠ 0) := by
  rintro (h | h | h)
  · exact h rfl
  · exact h rfl
  · exact h hk0
 by_cases hn2 : (ch 0).n = 2
 ·
  by_cases hk1 : (ch 1).k = 2
  ·
   have e : readE (T.mk 4 n s op 2 ch) = ⟨2, [], ((ch 1).ch 0).n, ((ch 1).ch 1).n⟩ := by unfold readE; rw [if_neg hz, if_pos ⟨hn2, hk1⟩]; rfl
   rw [e]
   cases hc1 : ch 1 with
   | nil => rw [hc1] at hk1; cases hk1
   | mk k1 n1 s1 op1 kk ch1 =>
    rw [hc1] at i1 hk1
    have hkk : kk = 2 := hk1
    subst hkk
    obtain ⟨b1, o1, ac1, hA, hb1, _, hcc⟩ := i1.rows (by omega)
    obtain ⟨q0, _⟩ := hcc 0 (by omega)
    obtain ⟨q1, _⟩ := hcc 1 (by omega)
    have q0 : At5 w b1 o1 (ch1 0) (ac1 0).1 (ac1 0).2 := by simpa using q0
    have q1 : At5 w b1 (o1 + 5) (ch1 1) (ac1 1).1 (ac1 1).2 := by simpa using q1
    have h := eread_4 n s op ch b o c _ _ _ _ b1 o1 _ _ _ _ hk0 hn2 (by rw [hc1]; rfl) hA w hb a0 a1 hb1 (by rw [hc1]; exact q0) (by rw [hc1]; exact q1)
    rw [hc1] at h
    exact h
  ·
   have e : readE (T.mk 4 n s op 2 ch) = noneE := by unfold readE; rw [if_neg hz, if_neg (fun h => hk1 h.2), if_neg (fun h => by have : (ch 0).n = 1 := h.1; omega)]
   rw [e]; exact eread_6 n s op ch b o c _ _ _ _ hk0 hn2 hk1 w hb a0 a1
 ·
  by_cases hn1 : (ch 0).n = 1
  ·
   by_cases hk1 : (ch 1).kind = 3
   ·
    have e : readE (T.mk 4 n s op 2 ch) = ⟨1, (ch 1).s, 0, 0⟩ := by unfold readE; rw [if_neg hz, if_neg (fun h => hn2 h.1), if_pos ⟨hn1, hk1⟩]; rfl
    rw [e]; exact eread_5 n s op ch b o c _ _ _ _ hk0 hn1 hk1 w hb a0 a1
   ·
    have e : readE (T.mk 4 n s op 2 ch) = noneE := by unfold readE; rw [if_neg hz, if_neg (fun h => hn2 h.1), if_neg (fun h => hk1 h.2)]
    rw [e]; exact eread_7 n s op ch b o c _ _ _ _ hk0 hn1 hk1 w hb a0 a1
  ·
   have e : readE (T.mk 4 n s op 2 ch) = noneE := by unfold readE; rw [if_neg hz, if_neg (fun h => hn2 h.1), if_neg (fun h => hn1 h.1)]
   rw [e]; exact eread_8 n s op ch b o c _ _ _ _ hk0 hn1 hn2 w hb a0 a1
end Go.Proofs.YtfgipgpbjfhflaaGreat
