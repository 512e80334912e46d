/-
  An item with the right sum as its last part.
-/
import Derived.Test.YticbopfacfmjfaaBlk5
import Derived.Test.YticbopfacfmjfaaCrc2
import Derived.Test.YticbopfacfmjfaaRepeat
namespace Go.Proofs.Yticbopfacfmjfaa
open Go.RowKit
set_option linter.unusedVariables false

set_option maxHeartbeats 800000 in
theorem CloneI_any {Q : Nat → Prop} {kind : Int} {n : Nat} {s : List UInt8} {op : Bool} (ch : Nat → T) (k : Nat) (hk : Hid (0 < k ∧ k ≤ 1000)) (A : Option Addr) (c : Nat) (w : World) (h : IsL w Q (T.mk kind n s op k ch) A) :
    Calls Try.prog 27 #[.slice A k c] w (fun e w' => ∃ (g c' : Nat) (ac : Nat → Option Addr × Nat), e = .returned (.slice (some ⟨g, 0, none⟩) k c') ∧ Ext w w' ∧ w.heap.size ≤ g ∧ g < w'.heap.size ∧ w'.ownsRow w.heap.size 32 5 (.slice (some ⟨g, 0, none⟩) k c') k (flatC ch ac k) ∧ ∀ i, i < k → IsL w' Q (ch i) (ac i).1) := by
  have he := Lib.run_eql_slice_nil (P := Try.prog)
  obtain ⟨i0, hi, hz0, hz1, hz2⟩ := info_parts infoItem
  obtain ⟨b, o, ac, rfl, hb, hq, hc⟩ := h.rows hk.out.1
  have hl := World.ownsRow_lit (base := w.heap.size) (e := 32) (size := 5) w #[] 0 (Nat.le_refl _) (Nat.zero_le _) rfl
  have hnews : Hid (∀ j u, (flatC ch ac k)[j]? = some u → (w.alloc (.cells #[] 32)).cell? ((⟨b, o, none⟩ : Addr).add j) = some u) := flatC_news fun i hi => (hc i hi).1.mod (S := []) ((Mod.refl _ _).alloc _) hb (by simp)
  have hfl := hid (flatC_length ch ac k)
  have hfc := hid (flatC_one ch ac k)
  have HC := hid hc
  clear hc h
  go_enter Try.func27, Try.ntmps27
  go_wp2_with (at_builtin; refine wpList_append_own _ rfl _ _ 30 rfl w.heap.size 32 i0 _ 5 64 Try.underlying30 hi hz0 hz1 hz2 rfl (by decide) _ _ _ rfl hl ⟨b, o, none⟩ k c (flatC ch ac k) rfl hfl.out hnews.out hfc.out (by have := hk.out; unfold maxLen; omega) (by have := hk.out; omega) (by simp) ?_; intro v' w1 hown' hgrow hnil)
  have hg2 : (w.alloc (.cells #[] 32)).grownBy w1 (some w.heap.size) := hgrow
  have hm : Ext w w1 := ((Mod.refl [] w).alloc (.cells #[] 32)).grown hg2 (fun k hk => .inr (by cases hk; exact Nat.le_refl _))
  have hown2 : w1.ownsRow w.heap.size 32 5 v' k (flatC ch ac k) := by simpa using hown'
  obtain ⟨m, rfl⟩ : ∃ m, k = m + 1 := ⟨k - 1, by have := hk.out.1; omega⟩
  obtain ⟨g, c', rfl, hg, hlt⟩ := own_form hown2
  go_wp2
  go_ret
  exact ⟨g, c', rfl, hm, hg, hlt, ac, hown2, fun i hi => (HC.out i hi).2.ext hm⟩

/-- An array of six, with another last part. -/
def lastT (ch : Nat → T) (s : List UInt8) : T := T.mk 4 0 [] false 6 fun i => if i = 5 then strT s else ch i
/-- Its bytes, as they are built. -/
def bldL (t : T) : List UInt8 := if t.right 8 then t.bytes else []
theorem buildV_bld (t : T) : ∃ E, buildV t = .tuple #[str (bldL t), .int .i64 E] := by
  unfold buildV bldL
  split
  · exact ⟨_, rfl⟩
  · exact ⟨_, rfl⟩
theorem lastK {W W' : World} {g : Nat} {Q : Nat → Prop} {ch : Nat → T} {ac : Nat → Option Addr × Nat} (hm : Mod [g] W W') (hq : ∀ b, Q b → b ≠ g) (h : ∀ i, i < 6 → IsL W Q (ch i) (ac i).1) (s : List UInt8) :
    ∀ i, i < 6 → IsL W' Q ((fun i => if i = 5 then strT s else ch i) i) ((fun i => if i = 5 then ((none : Option Addr), 0) else ac i) i).1 := by
  intro i hi
  by_cases e : i = 5
  · subst e; simp only [if_true]; exact fun h => absurd h (by decide)
  · simp only [if_neg e]
    exact IsL.mod hm (fun k hk _ hm => by rw [List.mem_singleton] at hm; exact hq k hk hm) _ (h i hi)

set_option maxRecDepth 20000 in
set_option maxHeartbeats 1600000 in
theorem summed_any (ch : Nat → T) (kind : Nat) (k1 : Hid (1 ≤ kind)) (k2 : Hid (kind ≤ 2)) (hok : Hid ((lastT ch (List.replicate (2 * kind) 0)).ok ∧ (lastT ch (List.replicate (2 * kind) 0)).size ≤ 100000)) (hbl : Hid ((bldL (lastT ch (List.replicate (2 * kind) 0))).length < 1000000)) (N : Nat) (A : Option Addr) (c : Nat) (w : World) (hN : Hid (N ≤ w.heap.size)) (h : IsL w (fun b => N ≤ b) (T.mk 4 0 [] false 6 ch) A) :
    Calls Try.prog 16 #[.int .i64 (kind : Int), .agg #[.int .i64 4, .int .u64 0, str [], .slice A 6 c, .bool false]] w (fun e w' => ∃ A c, e = .returned (itemV (lastT ch (Crc.sumL kind (bldL (lastT ch (List.replicate (2 * kind) 0))))) A c) ∧ Ext w w' ∧ IsL w' (fun b => N ≤ b) (lastT ch (Crc.sumL kind (bldL (lastT ch (List.replicate (2 * kind) 0))))) A) := by
  have e1 : ((kind : Int) = 0) = False := by have := k1.out; simp; omega
  have e2 : ((kind : Int) == 0) = false := by have := k1.out; simp; omega
  have HI : Hid (IsL w (fun b => N ≤ b ∧ b < w.heap.size) (T.mk 4 0 [] false 6 ch) A) := IsL.weak (fun k hk hq => ⟨hq, hk⟩) _ h
  clear h
  have KR := hid (fun W => Repeat_zero (2 * kind) (by have := k2.out; omega) W)
  have KS := hid (fun W => Sum_any kind k1.out k2.out (bldL (lastT ch (List.replicate (2 * kind) 0))) hbl W)
  obtain ⟨E, hE⟩ := buildV_bld (lastT ch (List.replicate (2 * kind) 0))
  have HV := hid hE; clear hE
  have hTk : (lastT ch (List.replicate (2 * kind) 0)) = T.mk 4 0 [] false 6 (fun i => if i = 5 then strT (List.replicate (2 * kind) 0) else ch i) := rfl
  have HT := hid hTk; clear hTk
  generalize bldL (lastT ch (List.replicate (2 * kind) 0)) = B at *
  have HU : Hid (lastT ch (Crc.sumL kind B) = T.mk 4 0 [] false 6 (fun i => if i = 5 then strT (Crc.sumL kind B) else if i = 5 then strT (List.replicate (2 * kind) 0) else ch i)) := by
    unfold Hid lastT
    congr 1
    funext i
    split <;> rfl
  generalize lastT ch (Crc.sumL kind B) = U at *
  generalize lastT ch (List.replicate (2 * kind) 0) = Y at *
  generalize List.replicate (2 * kind) (0 : UInt8) = Z at *
  generalize Crc.sumL kind B = S at *
  have HE := hid (((Mod.refl [] w).alloc (.cells #[.int .i64 4, .int .u64 0, str [], .slice A 6 c, .bool false] 32)).alloc (.cells #[.int .i64 0, .int .u64 0, .string ⟨#[]⟩, .slice none 0 0, .bool false] 32))
  have HR : Hid (Blk ((w.alloc (.cells #[.int .i64 4, .int .u64 0, str [], .slice A 6 c, .bool false] 32)).alloc (.cells #[.int .i64 0, .int .u64 0, .string ⟨#[]⟩, .slice none 0 0, .bool false] 32)) (w.heap.size + 1) 32 (itemC (numT 0) none 0)) := by
    have := Blk.new (w.alloc (.cells #[.int .i64 4, .int .u64 0, str [], .slice A 6 c, .bool false] 32)) 32 (itemC (numT 0) none 0)
    unfold Hid
    simpa [itemC, numT, T.kind, T.n, T.s, T.k, T.op] using this
  go_enter Try.func16, Try.ntmps16
  go_wp2_with fail
  refine (CloneI_any ch 6 (by unfold Hid; omega) A c _ (HI.out.ext HE.out)).mono ?_
  rintro e w1 ⟨g, c', ac, rfl, hb1, hg1, hlt1, hown1, hk1⟩
  have HE1 := hid (HE.out.trans hb1)
  have HR1 := hid (HR.out.ext hb1)
  have HO1 := hid hown1
  have HK1 := hid hk1
  have HG : Hid (w.heap.size + 2 ≤ g) := by unfold Hid; simpa using hg1
  have HL1 := hid hlt1
  clear hb1 hg1 hlt1 hown1 hk1 HE HR HI
  go_wp2_with fail
  refine (Size_any kind k2.out _).mono ?_
  rintro e w2 ⟨rfl, hb2⟩
  have HE2 := hid (HE1.out.trans hb2)
  have HR2 := hid (HR1.out.ext hb2)
  have HO2 := hid (ownsRow_mod HO1.out hb2 (by simp))
  have HK2 : Hid (∀ i, i < 6 → IsL w2 (fun b => N ≤ b ∧ b < w.heap.size) (ch i) (ac i).1) := fun i hi => (HK1.out i hi).ext hb2
  have HL2 := hid (Nat.lt_of_lt_of_le HL1.out hb2.size)
  clear hb2 HE1 HR1 HO1 HK1 HL1
  go_wp2_with fail
  refine (KR.out _).mono ?_
  rintro e w3 ⟨rfl, hb3⟩
  have HE3 := hid (HE2.out.trans hb3)
  have HR3 := hid (HR2.out.ext hb3)
  have HO3 := hid (ownsRow_mod HO2.out hb3 (by simp))
  have HK3 : Hid (∀ i, i < 6 → IsL w3 (fun b => N ≤ b ∧ b < w.heap.size) (ch i) (ac i).1) := fun i hi => (HK2.out i hi).ext hb3
  have HL3 := hid (Nat.lt_of_lt_of_le HL2.out hb3.size)
  clear hb3 HE2 HR2 HO2 HK2 HL2
  go_wp2_with fail
  refine (StrV_any _ _).mono ?_
  rintro e w4 ⟨rfl, hb4⟩
  have HE4 := hid (HE3.out.trans hb4)
  have HR4 := hid (HR3.out.ext hb4)
  have HO4 := hid (ownsRow_mod HO3.out hb4 (by simp))
  have HK4 : Hid (∀ i, i < 6 → IsL w4 (fun b => N ≤ b ∧ b < w.heap.size) (ch i) (ac i).1) := fun i hi => (HK3.out i hi).ext hb4
  have HL4 := hid (Nat.lt_of_lt_of_le HL3.out hb4.size)
  clear hb4 HE3 HR3 HO3 HK3 HL3
  obtain ⟨x0, x1, x2, x3, x4⟩ := flatC_get ch ac 6 5 (by omega)
  have y0 := own_cells HO4.out x0
  have y1 := own_cells HO4.out x1
  have y2 := own_cells HO4.out x2
  have y3 := own_cells HO4.out x3
  have y4 := own_cells HO4.out x4
  clear x0 x1 x2 x3 x4
  have z0 := HO4.out.frozenAt 25
  have z1 := HO4.out.frozenAt 26
  have z2 := HO4.out.frozenAt 27
  have z3 := HO4.out.frozenAt 28
  have z4 := HO4.out.frozenAt 29
  go_wp2_with fail
  clear y0 y1 y2 y3 y4 z0 z1 z2 z3 z4
  have HO5 := hid (own_last (n := 5) (strT Z) none 0 HO4.out)
  have HM5 := hid (((((((Mod.refl [g] w4).setCell (p := ⟨g, 25, none⟩) (.inl (by simp)) (.int .i64 2)).setCell (p := ⟨g, 26, none⟩) (.inl (by simp)) (.int .u64 0)).setCell (p := ⟨g, 27, none⟩) (.inl (by simp)) (str Z)).setCell (p := ⟨g, 28, none⟩) (.inl (by simp)) (.slice none 0 0)).setCell (p := ⟨g, 29, none⟩) (.inl (by simp)) (.bool false)))
  have HE5 := hid (((((HE4.out.setCell (p := ⟨g, 25, none⟩) (.inr (by have := HG.out; show w.heap.size ≤ g; omega)) (.int .i64 2)).setCell (p := ⟨g, 26, none⟩) (.inr (by have := HG.out; show w.heap.size ≤ g; omega)) (.int .u64 0)).setCell (p := ⟨g, 27, none⟩) (.inr (by have := HG.out; show w.heap.size ≤ g; omega)) (str Z)).setCell (p := ⟨g, 28, none⟩) (.inr (by have := HG.out; show w.heap.size ≤ g; omega)) (.slice none 0 0)).setCell (p := ⟨g, 29, none⟩) (.inr (by have := HG.out; show w.heap.size ≤ g; omega)) (.bool false))
  change Hid (World.ownsRow (((((w4.setCell ⟨g, 25, none⟩ (.int .i64 2)).setCell ⟨g, 26, none⟩ (.int .u64 0)).setCell ⟨g, 27, none⟩ (str Z)).setCell ⟨g, 28, none⟩ (.slice none 0 0)).setCell ⟨g, 29, none⟩ (.bool false)) _ _ _ _ _ _) at HO5
  change Hid (Mod [g] w4 (((((w4.setCell ⟨g, 25, none⟩ (.int .i64 2)).setCell ⟨g, 26, none⟩ (.int .u64 0)).setCell ⟨g, 27, none⟩ (str Z)).setCell ⟨g, 28, none⟩ (.slice none 0 0)).setCell ⟨g, 29, none⟩ (.bool false))) at HM5
  change Hid (Mod [] w (((((w4.setCell ⟨g, 25, none⟩ (.int .i64 2)).setCell ⟨g, 26, none⟩ (.int .u64 0)).setCell ⟨g, 27, none⟩ (str Z)).setCell ⟨g, 28, none⟩ (.slice none 0 0)).setCell ⟨g, 29, none⟩ (.bool false))) at HE5
  generalize (((((w4.setCell ⟨g, 25, none⟩ (.int .i64 2)).setCell ⟨g, 26, none⟩ (.int .u64 0)).setCell ⟨g, 27, none⟩ (str Z)).setCell ⟨g, 28, none⟩ (.slice none 0 0)).setCell ⟨g, 29, none⟩ (.bool false)) = w5 at *
  have HR5 := hid (HR4.out.mod HM5.out (by have := HG.out; simp; omega))
  have HK5 := hid (lastK HM5.out (fun b hb => by have := HG.out; omega) HK4.out Z)
  have HL5 := hid (Nat.lt_of_lt_of_le HL4.out HM5.out.size)
  clear HE4 HR4 HO4 HK4 HL4 HM5
  generalize hch : (fun i => if i = 5 then strT Z else ch i) = ch5 at *
  generalize hac : (fun i => if i = 5 then ((none : Option Addr), 0) else ac i) = ac5 at *
  have Hch5 := hid hch; clear hch; clear hac
  refine (ListV_any 6 _ c' _).mono ?_
  rintro e w6 ⟨rfl, hb6⟩
  have HE6 := hid (HE5.out.trans hb6)
  have HR6 := hid (HR5.out.ext hb6)
  have HO6 := hid (ownsRow_mod HO5.out hb6 (by simp))
  have HK6 : Hid (∀ i, i < 6 → IsL w6 (fun b => N ≤ b ∧ b < w.heap.size) (ch5 i) (ac5 i).1) := fun i hi => (HK5.out i hi).ext hb6
  have HL6 := hid (Nat.lt_of_lt_of_le HL5.out hb6.size)
  clear hb6 HE5 HR5 HO5 HK5 HL5
  have HY : Hid (Y = T.mk 4 0 [] false 6 ch5) := HT.out
  have HIY : Hid (IsL w6 (fun _ => True) Y (some ⟨g, 0, none⟩)) := by
    rw [HY.out]
    exact own_IsL HL6.out trivial HO6.out (fun i hi => IsL.weak (fun _ _ _ => trivial) _ (HK6.out i hi))
  have HBY : Hid (∀ W, IsL W (fun _ => True) Y (some ⟨g, 0, none⟩) → Calls Try.prog 18 #[.agg #[.int .i64 4, .int .u64 0, str [], .slice (some ⟨g, 0, none⟩) 6 c', .bool false]] W (Ret (.tuple #[str B, .int .i64 E]) W)) := fun W hW => by
    have := iBuild_any Y hok.out.1 hok.out.2 (some ⟨g, 0, none⟩) c' W hW
    rw [HV.out, HY.out] at this
    exact this
  go_wp2_with fail
  refine (HBY.out _ HIY.out).mono ?_
  rintro e w7 ⟨rfl, hb7⟩
  have HE7 := hid (HE6.out.trans hb7)
  have HR7 := hid (HR6.out.ext hb7)
  have HO7 := hid (ownsRow_mod HO6.out hb7 (by simp))
  have HK7 : Hid (∀ i, i < 6 → IsL w7 (fun b => N ≤ b ∧ b < w.heap.size) (ch5 i) (ac5 i).1) := fun i hi => (HK6.out i hi).ext hb7
  have HL7 := hid (Nat.lt_of_lt_of_le HL6.out hb7.size)
  clear hb7 HE6 HR6 HO6 HK6 HL6
  clear HIY HBY HV
  go_wp2_with fail
  refine (KS.out _).mono ?_
  rintro e w8 ⟨rfl, hb8⟩
  have HE8 := hid (HE7.out.trans hb8)
  have HR8 := hid (HR7.out.ext hb8)
  have HO8 := hid (ownsRow_mod HO7.out hb8 (by simp))
  have HK8 : Hid (∀ i, i < 6 → IsL w8 (fun b => N ≤ b ∧ b < w.heap.size) (ch5 i) (ac5 i).1) := fun i hi => (HK7.out i hi).ext hb8
  have HL8 := hid (Nat.lt_of_lt_of_le HL7.out hb8.size)
  clear hb8 HE7 HR7 HO7 HK7 HL7
  go_wp2_with fail
  refine (StrV_any _ _).mono ?_
  rintro e w9 ⟨rfl, hb9⟩
  have HE9 := hid (HE8.out.trans hb9)
  have HR9 := hid (HR8.out.ext hb9)
  have HO9 := hid (ownsRow_mod HO8.out hb9 (by simp))
  have HK9 : Hid (∀ i, i < 6 → IsL w9 (fun b => N ≤ b ∧ b < w.heap.size) (ch5 i) (ac5 i).1) := fun i hi => (HK8.out i hi).ext hb9
  have HL9 := hid (Nat.lt_of_lt_of_le HL8.out hb9.size)
  clear hb9 HE8 HR8 HO8 HK8 HL8
  obtain ⟨x0, x1, x2, x3, x4⟩ := flatC_get ch5 ac5 6 5 (by omega)
  have y0 := own_cells HO9.out x0
  have y1 := own_cells HO9.out x1
  have y2 := own_cells HO9.out x2
  have y3 := own_cells HO9.out x3
  have y4 := own_cells HO9.out x4
  clear x0 x1 x2 x3 x4
  have z0 := HO9.out.frozenAt 25
  have z1 := HO9.out.frozenAt 26
  have z2 := HO9.out.frozenAt 27
  have z3 := HO9.out.frozenAt 28
  have z4 := HO9.out.frozenAt 29
  go_wp2_with fail
  clear y0 y1 y2 y3 y4 z0 z1 z2 z3 z4
  have HO10 := hid (own_last (n := 5) (strT S) none 0 HO9.out)
  have HM10 := hid (((((((Mod.refl [g] w9).setCell (p := ⟨g, 25, none⟩) (.inl (by simp)) (.int .i64 2)).setCell (p := ⟨g, 26, none⟩) (.inl (by simp)) (.int .u64 0)).setCell (p := ⟨g, 27, none⟩) (.inl (by simp)) (str S)).setCell (p := ⟨g, 28, none⟩) (.inl (by simp)) (.slice none 0 0)).setCell (p := ⟨g, 29, none⟩) (.inl (by simp)) (.bool false)))
  have HE10 := hid (((((HE9.out.setCell (p := ⟨g, 25, none⟩) (.inr (by have := HG.out; show w.heap.size ≤ g; omega)) (.int .i64 2)).setCell (p := ⟨g, 26, none⟩) (.inr (by have := HG.out; show w.heap.size ≤ g; omega)) (.int .u64 0)).setCell (p := ⟨g, 27, none⟩) (.inr (by have := HG.out; show w.heap.size ≤ g; omega)) (str S)).setCell (p := ⟨g, 28, none⟩) (.inr (by have := HG.out; show w.heap.size ≤ g; omega)) (.slice none 0 0)).setCell (p := ⟨g, 29, none⟩) (.inr (by have := HG.out; show w.heap.size ≤ g; omega)) (.bool false))
  change Hid (World.ownsRow (((((w9.setCell ⟨g, 25, none⟩ (.int .i64 2)).setCell ⟨g, 26, none⟩ (.int .u64 0)).setCell ⟨g, 27, none⟩ (str S)).setCell ⟨g, 28, none⟩ (.slice none 0 0)).setCell ⟨g, 29, none⟩ (.bool false)) _ _ _ _ _ _) at HO10
  change Hid (Mod [g] w9 (((((w9.setCell ⟨g, 25, none⟩ (.int .i64 2)).setCell ⟨g, 26, none⟩ (.int .u64 0)).setCell ⟨g, 27, none⟩ (str S)).setCell ⟨g, 28, none⟩ (.slice none 0 0)).setCell ⟨g, 29, none⟩ (.bool false))) at HM10
  change Hid (Mod [] w (((((w9.setCell ⟨g, 25, none⟩ (.int .i64 2)).setCell ⟨g, 26, none⟩ (.int .u64 0)).setCell ⟨g, 27, none⟩ (str S)).setCell ⟨g, 28, none⟩ (.slice none 0 0)).setCell ⟨g, 29, none⟩ (.bool false))) at HE10
  generalize (((((w9.setCell ⟨g, 25, none⟩ (.int .i64 2)).setCell ⟨g, 26, none⟩ (.int .u64 0)).setCell ⟨g, 27, none⟩ (str S)).setCell ⟨g, 28, none⟩ (.slice none 0 0)).setCell ⟨g, 29, none⟩ (.bool false)) = w10 at *
  have HR10 := hid (HR9.out.mod HM10.out (by have := HG.out; simp; omega))
  have HK10 := hid (lastK HM10.out (fun b hb => by have := HG.out; omega) HK9.out S)
  have HL10 := hid (Nat.lt_of_lt_of_le HL9.out HM10.out.size)
  clear HE9 HR9 HO9 HK9 HL9 HM10
  generalize hch : (fun i => if i = 5 then strT S else ch5 i) = ch10 at *
  generalize hac : (fun i => if i = 5 then ((none : Option Addr), 0) else ac5 i) = ac10 at *
  have Hch10 := hid hch; clear hch; clear hac
  refine (ListV_any 6 _ c' _).mono ?_
  rintro e w11 ⟨rfl, hb11⟩
  have HE11 := hid (HE10.out.trans hb11)
  have HR11 := hid (HR10.out.ext hb11)
  have HO11 := hid (ownsRow_mod HO10.out hb11 (by simp))
  have HK11 : Hid (∀ i, i < 6 → IsL w11 (fun b => N ≤ b ∧ b < w.heap.size) (ch10 i) (ac10 i).1) := fun i hi => (HK10.out i hi).ext hb11
  have HL11 := hid (Nat.lt_of_lt_of_le HL10.out hb11.size)
  clear hb11 HE10 HR10 HO10 HK10 HL10
  have HU2 : U = T.mk 4 0 [] false 6 ch10 := by rw [HU.out, ← Hch10.out, ← Hch5.out]
  have HIU : Hid (IsL w11 (fun b => b ≠ w.heap.size + 1 ∧ N ≤ b) U (some ⟨g, 0, none⟩)) := by
    rw [HU2]
    exact own_IsL HL11.out (by have := HG.out; have := hN.out; omega) HO11.out (fun i hi => IsL.weak (fun k _ hq => ⟨by omega, hq.1⟩) _ (HK11.out i hi))
  obtain ⟨c0, c1, c2, c3, c4⟩ := cells5 HR11.out
  have f0 := Blk.frozen HR11.out 0
  have f1 := Blk.frozen HR11.out 1
  have f2 := Blk.frozen HR11.out 2
  have f3 := Blk.frozen HR11.out 3
  have f4 := Blk.frozen HR11.out 4
  go_wp2_with fail
  obtain ⟨d0, d1, d2, d3, d4⟩ := cells5 (set5_blk (t := T.mk 4 0 [] false 6 ch10) (A := some ⟨g, 0, none⟩) (c := c') HR11.out)
  clear c0 c1 c2 c3 c4 f0 f1 f2 f3 f4
  show bodyPost _ _ _ _ _ (set5 w11 (w.heap.size + 1) (T.mk 4 0 [] false 6 ch10) (some ⟨g, 0, none⟩) c')
  refine bodyPost_ret (v := itemV (T.mk 4 0 [] false 6 ch10) (some ⟨g, 0, none⟩) c') (by simp [results, Try.results16, go_sem, d0, d1, d2, d3, d4]) rfl ?_
  refine ⟨some ⟨g, 0, none⟩, c', by rw [HU2], set5_mod HE11.out (by omega), ?_⟩
  refine IsL.weak (fun _ _ h => h.2) _ (IsL.mod (Q := fun b => b ≠ w.heap.size + 1 ∧ N ≤ b) set5_modb (fun k hq hk hm => by rw [List.mem_singleton] at hm; exact hq.1 hm) _ HIU.out)
end Go.Proofs.Yticbopfacfmjfaa
