/-
 The rules on operations: whole bundles; what seals.
-/
import Derived.Test.YtmckfdmdkljomaaGreatDoorMMixLessCardav
import Derived.Test.YtmckfdmdkljomaaGreatDoorMMixLessCardaw
namespace Go.Proofs.YtmckfdmdkljomaaGreatDoor
open Go.RowKit Go.Maps
set_option linter.unusedVariables false
set_option linter.unusedSimpArgs false
def wholeB (p : PV) (bs : Nat -> BV) (k : Nat) : Bool := !(has p.fl 1 && (firstOf (fun i => safeT (bs i).ty) k).isSome)
set_option maxRecDepth 20000 in
theorem whole_any (p : PV) (bs : Nat -> BV) (k c : Nat) (A : Option Addr) (hk : k < 4611686018427387904) (l : Nat -> OV) (n cl : Nat) (Al : Option Addr) (hn : n < 4611686018427387904) (hf : p.fl < 18446744073709551616) (w : World) (h : BsL w A k bs) (ho : OsL w Al n l) : Calls Tryz.prog 56 #[bunV p A k c, .slice Al n cl] w (Ret (.bool (wholeB p bs k)) w) := by
 have KC := hid (fun W (hW : BsL W A k bs) => ContainsB_any A bs k c 84 #[] (fun x => safeT x.ty) entersSf hk W hW (fun W' x hE => safe_any x W'))
 have HE := hid ((Mod.refl [] w).alloc (.cells (bunC p A k c) 29))
 have HB0 : Hid (Blk (w.alloc (.cells (bunC p A k c) 29)) w.heap.size 29 (bunC p A k c)) := hid (Blk.new w 29 (bunC p A k c))
 have HL := hid (BsL.ext h HE.out)
 have HA := hid (u64_and_powP p.fl 0 hf (by omega))
 have HRES : Hid (has p.fl 1 = decide (p.fl % 2 = 1)) := by unfold Hid has; simp
 have HQ : Hid (wholeB p bs k = !(has p.fl 1 && (firstOf (fun i => safeT (bs i).ty) k).isSome)) := hid rfl
 generalize (firstOf (fun i => safeT (bs i).ty) k).isSome = F at *
 generalize wholeB p bs k = R at *
 clear h ho hk hn hf
 go_enter Tryz.func56, Tryz.ntmps56
 go_upto_region 1 with fail
 generalize w.alloc (.cells (bunC p A k c) 29) = V at *
 have b19 : V.cell? ⟨w.heap.size, 19, none⟩ = some (.slice A k c) := HB0.out.cell 19
 have b0 : V.cell? ⟨w.heap.size, 0, none⟩ = some (.int .u64 (p.fl : Int)) := HB0.out.cell 0
 by_cases hh : p.fl % 2 = 1
 .
  have ha : bits .and .u64 (p.fl : Int) 1 = 1 := by have := HA.out; simpa [hh] using this
  have HR : Hid (has p.fl 1 = true) := by unfold Hid; rw [HRES.out]; simpa using hh
  clear hh HA HRES
  go_wp2_with (go_at_call 83; refine (KC.out _ HL.out).mono ?_; rintro x w2 ⟨rfl, hb2⟩)
  go_ret
  exact Ret.mk (by rw [HQ.out, HR.out]; rfl) (HE.out.trans hb2)
 .
  have ha : bits .and .u64 (p.fl : Int) 1 = 0 := by have := HA.out; simpa [hh] using this
  have HR : Hid (has p.fl 1 = false) := by unfold Hid; rw [HRES.out]; simpa using hh
  clear hh HA HRES
  go_wp2_with fail
  go_ret
  exact Ret.mk (by rw [HQ.out, HR.out]; rfl) HE.out
def cntS (l : Nat -> OV) (num : Int) : Nat -> Nat
 | 0 => 0
 | i + 1 => cntS l num i + (if (l i).kind = 2 /\ (l i).num = num then 1 else 0)
theorem cntS_le (l : Nat -> OV) (num : Int) : ∀ k, cntS l num k <= k
 | 0 => Nat.le_refl _
 | k + 1 => by have := cntS_le l num k; rw [cntS]; split <;> omega
theorem cntS_skip {l : Nat -> OV} {i : Nat} (h : (l i).kind ≠ 2) (x : Int) : cntS l x i = cntS l x (i + 1) := by
 rw [cntS, if_neg (fun e => h e.1)]; rfl
theorem cntS_upd {l : Nat -> OV} {i : Nat} (h : (l i).kind = 2) (x : Int) : upd (fun x => cntS l x i) (l i).num x = cntS l x (i + 1) := by
 unfold upd
 rw [cntS]
 by_cases e : x = (l i).num
 . subst e; rw [if_pos rfl, if_pos ⟨h, rfl⟩]
 . rw [if_neg e, if_neg (fun q => e q.2.symm)]; rfl
theorem cntS_pos {l : Nat -> OV} {num : Int} {i : Nat} : ∀ {k : Nat}, i < k -> (l i).kind = 2 -> (l i).num = num -> 1 <= cntS l num k
 | k + 1, h, hk, ht => by
  rw [cntS]
  by_cases e : i = k
  . subst e; rw [if_pos ⟨hk, ht⟩]; omega
  . have := cntS_pos (k := k) (by omega) hk ht; omega
theorem cntS_zero {l : Nat -> OV} {num : Int} : ∀ {k : Nat}, (∀ j, j < k -> ¬ ((l j).kind = 2 /\ (l j).num = num)) -> cntS l num k = 0
 | 0, _ => rfl
 | k + 1, h => by rw [cntS, cntS_zero fun j hj => h j (by omega), if_neg (h k (by omega))]
theorem cntS_same {l : Nat -> OV} {x : OV} {i : Nat} (hx : x.kind = 2) : (firstOf (sameKN x l) i).isSome = decide (0 < cntS l x.num i) := by
 cases h : firstOf (sameKN x l) i with
 | none =>
  have h2 := firstOf_no h
  rw [cntS_zero fun j hj e => by have := h2 j hj; unfold sameKN at this; rw [hx] at this; simp [e.1, e.2] at this]; rfl
 | some j =>
  obtain ⟨h1, h2, _⟩ := firstOf_spec h
  unfold sameKN at h2
  rw [hx] at h2
  simp at h2
  have := cntS_pos (num := x.num) h1 h2.1 h2.2
  symm; simp; omega
set_option maxRecDepth 20000 in
set_option maxHeartbeats 8000000 in
theorem seals_any (p : PV) (bs : Nat -> BV) (k c : Nat) (A : Option Addr) (hk : k < 4611686018427387904) (l : Nat -> OV) (n cl : Nat) (Al : Option Addr) (hn : n < 4611686018427387904) (hn9 : n <= 100000) (hin : ∀ i, i < n -> InI (l i).num) (w : World) (h : BsL w A k bs) (ho : OsL w Al n l) : Calls Tryz.prog 59 #[bunV p A k c, .slice Al n cl] w (Ret (.bool (sealsB bs k l n)) w) := by
 have KG := hid (fun W m (hW : BsL W A k bs) => Get_any p bs k c A m hk W hW)
 have HE := hid ((Mod.refl [] w).alloc (.cells (bunC p A k c) 29))
 have HB0 : Hid (Blk (w.alloc (.cells (bunC p A k c) 29)) w.heap.size 29 (bunC p A k c)) := hid (Blk.new w 29 (bunC p A k c))
 have HL := hid (BsL.ext h HE.out)
 have HO := hid (OsL.ext ho HE.out)
 have HK := hid hn9
 have HI := hid hin
 have n1 : (n : Int) <= 100000 := by omega
 have hmm := @run_makeMap Tryz.prog
 clear h ho hk hn hn9 hin
 go_enter Tryz.func59, Tryz.ntmps59
 go_upto_region 1 with fail
 generalize w.alloc (.cells (bunC p A k c) 29) = V at *
 go_upto_region 2 with fail
 have HM0 : Hid (Counts (V.alloc (.map #[] 0)) V.heap.size 0 (fun _ => 0)) := hid (Counts.made V)
 have HX0 : Hid (Ext V (V.alloc (.map #[] 0))) := hid ((Mod.refl [] V).alloc _)
 clear hmm
 generalize hW0 : V.alloc (.map #[] 0) = W0 at *
 clear hW0
 generalize hM : V.heap.size = M at *
 have HMV := hid hM
 clear hM
 go_upto_region 3 with fail
 go_loopw [13] (fun s wr => ∃ (i ci : Nat), s = .int .i64 (i : Int) /\ Hid (i <= n /\ (∀ j, j < i -> sealAt bs k l j = false) /\ Ext V wr /\ ci <= i /\ Counts wr M ci (fun x => cntS l x i))) (fun s _ => n - (intOf s).toNat)
 case atStart => exact ⟨0, 0, rfl, (show Hid _ from ⟨Nat.zero_le _, fun j hj => by omega, HX0.out, Nat.le_refl _, HM0.out⟩)⟩
 case round =>
  clear HX0 HM0
  obtain ⟨i, ci, rfl, hS⟩ := hrel
  rename World => wr
  have i0 : (0 : Int) <= (i : Int) := by omega
  by_cases hlt : i < n
  .
   obtain ⟨b, o, rfl, hb, q0, q1, q2⟩ := HO.out.cells hlt
   have tc : decide (i < n) = true := by simp [hlt]
   have i1 : (i : Int) < (n : Int) := by omega
   have i2 : i <= 100000 := by have := HK.out; omega
   have HLT := hid hlt
   obtain ⟨x, hx⟩ : ∃ x, l i = x := ⟨_, rfl⟩
   rw [hx] at q0 q1 q2
   have HXL := hid hx
   have hxi : InI x.num := by rw [<- hx]; exact HI.out i hlt
   have HXI := hid hxi
   have u0 : wr.cell? ⟨b, o + i * 3, none⟩ = _ := q0 ⟨wr, hS.out.2.2.1⟩
   have u1 : wr.cell? ⟨b, o + i * 3 + 1, none⟩ = _ := q1 ⟨wr, hS.out.2.2.1⟩
   have u2 : wr.cell? ⟨b, o + i * 3 + 2, none⟩ = _ := q2 ⟨wr, hS.out.2.2.1⟩
   clear hx hlt hxi q0 q1 q2
   go_upto_region 5 with fail
   generalize hW1 : World.alloc wr _ = W1
   have HOB : Hid (Blk W1 wr.heap.size 40 x.c) := hid (by rw [<- hW1]; exact Blk.new _ _ _)
   have HE1 : Hid (Ext wr W1) := hid (by rw [<- hW1]; exact (Mod.refl [] _).alloc _)
   have HEW := hid (hS.out.2.2.1.trans HE1.out)
   have HC1 : Hid (Counts W1 M ci (fun x => cntS l x i)) := hid (hS.out.2.2.2.2.kept HE1.out (by simp))
   have HGM : Hid (wr.heap.size ≠ M) := hid (by have := hS.out.2.2.2.2.lt; omega)
   have HCI := hid hS.out.2.2.2.1
   have HNO := hid hS.out.2.1
   clear hW1 hS u0 u1 u2
   generalize wr.heap.size = ob at *
   have o0 : W1.cell? ⟨ob, 0, none⟩ = some (.int .i64 x.kind) := HOB.out.cell 0
   by_cases hk2 : x.kind = 2
   case neg =>
    have HN : Hid (sealAt bs k l i = false) := hid (by unfold sealAt; rw [HXL.out]; simp [hk2])
    have HCN : Hid (∀ y, cntS l y i = cntS l y (i + 1)) := hid (fun y => cntS_skip (by rw [HXL.out]; exact hk2) y)
    have t1 : (x.kind == 2) = false := by simpa using hk2
    have t2 : (x.kind = 2) = False := eq_false hk2
    have t3 : (x.kind != 2) = true := by simpa using hk2
    clear hk2
    go_wp2_with fail
    go_roundw
    case rel => exact ⟨i + 1, ci, by go_num, (show Hid _ from ⟨HLT.out, fun j hj => by
     by_cases hji : j = i
     . subst hji; exact HN.out
     . exact HNO.out j (by omega), HEW.out, by have := HCI.out; omega, HC1.out.congr HCN.out⟩)⟩
    case measure => have := HLT.out; simp [intOf]; omega
   have HSG : Hid (sealAt bs k l i = (decide (0 < cntS l x.num i) || decide (x.tgt = 0) || decide (tyAt bs k x.tgt = 12) || chgT (tyAt bs k x.tgt))) := hid (by unfold sealAt; rw [HXL.out, cntS_same hk2]; simp [hk2])
   have HCN : Hid (∀ y, upd (fun y => cntS l y i) x.num y = cntS l y (i + 1)) := hid (fun y => by have h := cntS_upd (l := l) (i := i) (by rw [HXL.out]; exact hk2) y; rw [HXL.out] at h; exact h)
   have t1 : (x.kind == 2) = true := by simpa using hk2
   have t2 : (x.kind = 2) = True := eq_true hk2
   have t3 : (x.kind != 2) = false := by simpa using hk2
   clear hk2
   have KG1 := hid (fun W hW => KG.out W x.tgt hW)
   obtain ⟨y, bf, hI, hty⟩ := getV_ty bs k x.tgt
   rw [hI] at KG1
   have HTY := hid hty
   rw [<- hty] at HSG
   clear hI hty
   have HBW := hid (HB0.out.ext HEW.out)
   have HLW := hid (HL.out.ext HEW.out)
   have o2x : ∀ e : Later W1, e.x.cell? ⟨ob, 2, none⟩ = some (.int .i64 x.tgt) := HOB.out.cellL 2 rfl
   obtain ⟨e, he⟩ := Later.self W1
   rw [he] at o0 ⊢
   clear he
   have tk1 : True := trivial
   go_upto_region 7 with (first | (clear tk1; refine wpList_row (by rfl) 29 _ rfl _ rfl (HBW.out.later _) vqA rfl (by kernel_rfl) ?_) | (go_at_call 53; refine (Ret.later (KG1.out _ (HLW.out.ext (Later.h _)))).mono ?_; rintro y _ ⟨rfl, e, rfl⟩))
   generalize hW2 : World.alloc e.x _ = W2
   have HE2 : Hid (Ext W1 W2) := hid (by rw [<- hW2]; exact e.h.alloc _)
   have HYB : Hid (Blk W2 e.x.heap.size 45 (BV.c y)) := hid (by rw [<- hW2]; exact Blk.new _ _ _)
   clear hW2 o0 o2x
   generalize e.x.heap.size = yb at *
   clear e
   have HC2 : Hid (Counts W2 M ci (fun x => cntS l x i)) := hid (HC1.out.kept HE2.out (by simp))
   have o1 : W2.cell? ⟨ob, 1, none⟩ = some (.int .i64 x.num) := (HOB.out.ext HE2.out).cell 1
   have o2 : W2.cell? ⟨ob, 2, none⟩ = some (.int .i64 x.tgt) := (HOB.out.ext HE2.out).cell 2
   have y0 : W2.cell? ⟨yb, 0, none⟩ = some (.int .i64 y.ty) := HYB.out.cell 0
   have hl := HC2.out.look HXI.out
   try dsimp only at hl
   have hcle := cntS_le l x.num i
   obtain ⟨c1, hc1⟩ : ∃ c1, cntS l x.num i = c1 := ⟨_, rfl⟩
   rw [hc1] at hl HSG hcle
   have HC1N := hid hc1
   have c0 : (0 : Int) <= (c1 : Int) := by omega
   have c9 : (c1 : Int) <= 100000 := by omega
   clear hc1 hcle
   by_cases h1 : 0 < c1
   .
    have HF : Hid (sealsB bs k l n = false) := hid (by unfold sealsB; rw [firstOf_some HLT.out (by rw [HSG.out]; simp [h1]) HNO.out]; rfl)
    have g1 : decide ((0 : Int) < (c1 : Int)) = true := decide_eq_true (by omega)
    have g2 : ((0 : Int) < (c1 : Int)) = True := eq_true (by omega)
    have g3 : decide (0 < c1) = true := decide_eq_true h1
    have g4 : (0 < c1) = True := eq_true h1
    clear h1
    go_wp2_with fail
    go_ret
    exact Ret.mk (by rw [HF.out]; rfl) (HE.out.trans (HEW.out.trans HE2.out))
   have g1 : decide ((0 : Int) < (c1 : Int)) = false := decide_eq_false (by omega)
   have g2 : ((0 : Int) < (c1 : Int)) = False := eq_false (by omega)
   have g3 : decide (0 < c1) = false := decide_eq_false h1
   have g4 : (0 < c1) = False := eq_false h1
   have HS1 : Hid (sealAt bs k l i = (decide (x.tgt = 0) || decide (y.ty = 12) || chgT y.ty)) := hid (by rw [HSG.out]; simp [h1])
   clear h1 HSG
   by_cases ht : x.tgt = 0
   .
    have HF : Hid (sealsB bs k l n = false) := hid (by unfold sealsB; rw [firstOf_some HLT.out (by rw [HS1.out]; simp [ht]) HNO.out]; rfl)
    have v1 : (x.tgt == 0) = true := by simpa using ht
    have v2 : (x.tgt = 0) = True := eq_true ht
    have v3 : (x.tgt != 0) = false := by simpa using ht
    clear ht
    go_wp2_with fail
    go_ret
    exact Ret.mk (by rw [HF.out]; rfl) (HE.out.trans (HEW.out.trans HE2.out))
   have HS2 : Hid (sealAt bs k l i = (decide (y.ty = 12) || chgT y.ty)) := hid (by rw [HS1.out]; simp [ht])
   have v1 : (x.tgt == 0) = false := by simpa using ht
   have v2 : (x.tgt = 0) = False := eq_false ht
   have v3 : (x.tgt != 0) = true := by simpa using ht
   clear ht HS1
   by_cases hy : y.ty = 12
   .
    have HF : Hid (sealsB bs k l n = false) := hid (by unfold sealsB; rw [firstOf_some HLT.out (by rw [HS2.out]; simp [hy]) HNO.out]; rfl)
    have z1 : (y.ty == 12) = true := by simpa using hy
    have z2 : (y.ty = 12) = True := eq_true hy
    have z3 : (y.ty != 12) = false := by simpa using hy
    clear hy
    go_wp2_with fail
    go_ret
    exact Ret.mk (by rw [HF.out]; rfl) (HE.out.trans (HEW.out.trans HE2.out))
   have HS3 : Hid (sealAt bs k l i = chgT y.ty) := hid (by rw [HS2.out]; simp [hy])
   have z1 : (y.ty == 12) = false := by simpa using hy
   have z2 : (y.ty = 12) = False := eq_false hy
   have z3 : (y.ty != 12) = true := by simpa using hy
   clear hy HS2
   have HCG := hid (fun W => changes_any y W)
   have tk1 : True := trivial
   cases hc : chgT y.ty with
   | true =>
    rw [hc] at HCG HS3
    have HF : Hid (sealsB bs k l n = false) := hid (by unfold sealsB; rw [firstOf_some HLT.out HS3.out HNO.out]; rfl)
    clear hc
    go_wp2_with (first | (clear tk1; refine wpList_row (by rfl) 45 _ rfl _ rfl HYB.out vqG rfl (by kernel_rfl) ?_) | (go_at_call 85; refine (HCG.out _).mono ?_; rintro y9 w3 ⟨rfl, hb3⟩))
    go_ret
    exact Ret.mk (by rw [HF.out]; rfl) (HE.out.trans (HEW.out.trans (HE2.out.trans hb3)))
   | false =>
    rw [hc] at HCG HS3
    have HN : Hid (sealAt bs k l i = false) := hid HS3.out
    clear hc
    go_upto_region 9 with (first | (clear tk1; refine wpList_row (by rfl) 45 _ rfl _ rfl HYB.out vqG rfl (by kernel_rfl) ?_) | (go_at_call 85; refine (HCG.out _).mono ?_; rintro y9 w3 ⟨rfl, hb3⟩; have HB3 := hid hb3; clear hb3))
    have HC3 := HC2.out.kept HB3.out (by simp)
    clear hl o1 o2 y0
    have o1 : w3.cell? ⟨ob, 1, none⟩ = some (.int .i64 x.num) := (HOB.out.ext (HE2.out.trans HB3.out)).cell 1
    have hl := HC3.look HXI.out
    try dsimp only at hl
    rw [HC1N.out] at hl
    obtain ⟨D, hown, hat⟩ := HC3
    have hkey := keyOf3 HXI.out
    have hci : ci <= 100000 := by have := HCI.out; omega
    have hw1 : (Lit.int .i64 ((c1 : Int) + 1)).wf = true := InI.wf (by unfold InI; omega)
    go_wp2_with (at_mapUpdate; refine wpList_mapUpdate_own _ rfl _ _ _ 118 rfl 3 3 law3 Tryz.underlying118 _ M ci _ rfl hown (by unfold maxLen; omega) _ _ _ rfl rfl hkey _ [] (plainElem_int vqK hw1) ?_; intro w4 hown4 hgrow4)
    have hC4 : Hid (Counts w4 M (ci + 1) (fun y => cntS l y (i + 1))) := hid ((Counts.put (f := fun y => cntS l y i) HXI.out hown hat (by (try dsimp only); rw [HC1N.out]; exact hown4)).congr HCN.out)
    have m4 : Mod [M] w3 w4 := (Mod.refl _ _).grown hgrow4 (fun kk hkk => .inl (by cases hkk; simp))
    have HE4 : Hid (Ext V w4) := hid (Mod.new (S := [M]) ((HEW.out.trans (HE2.out.trans HB3.out)).of_ext.trans m4) (fun kk hkk => .inr (by have := HMV.out; simp at hkk; omega)))
    clear hown4 hgrow4 m4 hown hat hl
    go_roundw
    case rel => exact ⟨i + 1, ci + 1, by go_num, (show Hid _ from ⟨HLT.out, fun j hj => by
     by_cases hji : j = i
     . subst hji; exact HN.out
     . exact HNO.out j (by omega), HE4.out, by have := HCI.out; omega, hC4.out⟩)⟩
    case measure => have := HLT.out; simp [intOf]; omega
  .
   have hin : i = n := by have := hS.out.1; omega
   have HF : Hid (sealsB bs k l n = true) := hid (by unfold sealsB; rw [firstOf_none (fun j hj => hS.out.2.1 j (by omega))]; rfl)
   have tc : decide (i < n) = false := by simp [hin]
   have tc2 : decide ((i : Int) < (n : Int)) = false := by simp [hin]
   clear hin
   go_wp2_with fail
   go_ret
   exact Ret.mk (by rw [HF.out]; rfl) (HE.out.trans hS.out.2.2.1)
section
open Go.Shelf
theorem entersR0 : ∀ args w, (callFunc 56 args).run Tryz.prog w = .ok (.enter 56 args) w := enters_of Tryz.func56 (by kernel_rfl) rfl
theorem entersR1 : ∀ args w, (callFunc 57 args).run Tryz.prog w = .ok (.enter 57 args) w := enters_of Tryz.func57 (by kernel_rfl) rfl
theorem entersR2 : ∀ args w, (callFunc 58 args).run Tryz.prog w = .ok (.enter 58 args) w := enters_of Tryz.func58 (by kernel_rfl) rfl
theorem entersR3 : ∀ args w, (callFunc 59 args).run Tryz.prog w = .ok (.enter 59 args) w := enters_of Tryz.func59 (by kernel_rfl) rfl
theorem entersR4 : ∀ args w, (callFunc 60 args).run Tryz.prog w = .ok (.enter 60 args) w := enters_of Tryz.func60 (by kernel_rfl) rfl
def ruleAt (p : PV) (bs : Nat -> BV) (k : Nat) (l : Nat -> OV) (n i : Nat) : Bool := if i = 0 then wholeB p bs k else if i = 1 then thereB bs k l n else if i = 2 then onceO l n else if i = 3 then sealsB bs k l n else signsB bs k l n
def rulesAll (p : PV) (bs : Nat -> BV) (k : Nat) (l : Nat -> OV) (n : Nat) : Bool := wholeB p bs k && thereB bs k l n && onceO l n && sealsB bs k l n && signsB bs k l n
def rulesV (p : PV) (bs : Nat -> BV) (k : Nat) (l : Nat -> OV) (n : Nat) : Int := if rulesAll p bs k l n then 0 else 8
theorem rulesAll_no {p : PV} {bs : Nat -> BV} {k : Nat} {l : Nat -> OV} {n i : Nat} (hi : i < 5) (h : ruleAt p bs k l n i = false) : rulesAll p bs k l n = false := by
 have : i = 0 \/ i = 1 \/ i = 2 \/ i = 3 \/ i = 4 := by omega
 unfold rulesAll
 rcases this with rfl | rfl | rfl | rfl | rfl
 . rw [show wholeB p bs k = false from h]; rfl
 . rw [show thereB bs k l n = false from h]; simp
 . rw [show onceO l n = false from h]; simp
 . rw [show sealsB bs k l n = false from h]; simp
 . rw [show signsB bs k l n = false from h]; simp
theorem rulesAll_yes {p : PV} {bs : Nat -> BV} {k : Nat} {l : Nat -> OV} {n : Nat} (h : ∀ i, i < 5 -> ruleAt p bs k l n i = true) : rulesAll p bs k l n = true := by
 unfold rulesAll
 rw [show wholeB p bs k = true from h 0 (by omega), show thereB bs k l n = true from h 1 (by omega), show onceO l n = true from h 2 (by omega), show sealsB bs k l n = true from h 3 (by omega), show signsB bs k l n = true from h 4 (by omega)]
 rfl
set_option maxRecDepth 20000 in
set_option maxHeartbeats 8000000 in
theorem rules_all (p : PV) (bs : Nat -> BV) (k c : Nat) (A : Option Addr) (hk : k < 4611686018427387904) (l : Nat -> OV) (n cl : Nat) (Al : Option Addr) (hn : n < 4611686018427387904) (hf : p.fl < 18446744073709551616) (hn9 : n <= 100000) (hin : ∀ i, i < n -> InI (l i).num) (KO : ∀ W, BsL W A k bs -> OsL W Al n l -> Calls Tryz.prog 58 #[bunV p A k c, .slice Al n cl] W (Ret (.bool (onceO l n)) W)) (w : World) (h : BsL w A k bs) (ho : OsL w Al n l) : Calls Tryz.prog 30 #[bunV p A k c, .slice Al n cl] w (Ret (.int .i64 (rulesV p bs k l n)) w) := by
 have KR0 : Hid (∀ W, BsL W A k bs -> OsL W Al n l -> Calls Tryz.prog 56 #[bunV p A k c, .slice Al n cl] W (Ret (.bool (ruleAt p bs k l n 0)) W)) := hid (fun W hW hO => whole_any p bs k c A hk l n cl Al hn hf W hW hO)
 have KR1 : Hid (∀ W, BsL W A k bs -> OsL W Al n l -> Calls Tryz.prog 57 #[bunV p A k c, .slice Al n cl] W (Ret (.bool (ruleAt p bs k l n 1)) W)) := hid (fun W hW hO => there_any p bs k c A hk l n cl Al hn W hW hO)
 have KR2 : Hid (∀ W, BsL W A k bs -> OsL W Al n l -> Calls Tryz.prog 58 #[bunV p A k c, .slice Al n cl] W (Ret (.bool (ruleAt p bs k l n 2)) W)) := hid (fun W hW hO => KO W hW hO)
 have KR3 : Hid (∀ W, BsL W A k bs -> OsL W Al n l -> Calls Tryz.prog 59 #[bunV p A k c, .slice Al n cl] W (Ret (.bool (ruleAt p bs k l n 3)) W)) := hid (fun W hW hO => seals_any p bs k c A hk l n cl Al hn hn9 hin W hW hO)
 have KR4 : Hid (∀ W, BsL W A k bs -> OsL W Al n l -> Calls Tryz.prog 60 #[bunV p A k c, .slice Al n cl] W (Ret (.bool (ruleAt p bs k l n 4)) W)) := hid (fun W hW hO => signs_any p bs k c A hk l n cl Al hn W hW hO)
 have HE := hid ((Mod.refl [] w).alloc (.cells (bunC p A k c) 29))
 have HB0 : Hid (Blk (w.alloc (.cells (bunC p A k c) 29)) w.heap.size 29 (bunC p A k c)) := hid (Blk.new w 29 (bunC p A k c))
 have HL := hid (BsL.ext h HE.out)
 have HO := hid (OsL.ext ho HE.out)
 clear h ho hk hn hn9 hin hf KO
 go_enter Tryz.func30, Tryz.ntmps30
 go_upto_region 1 with fail
 generalize (w.alloc (.cells (bunC p A k c) 29)) = V at *
 obtain ⟨e, he⟩ := Later.self V
 rw [he]
 clear he
 go_wp2_with fail
 generalize hV2 : World.alloc e.x _ = V2
 have HSL : Hid (Blk V2 e.x.heap.size 92 #[.func (.func 56) #[] #[], .func (.func 57) #[] #[], .func (.func 58) #[] #[], .func (.func 59) #[] #[], .func (.func 60) #[] #[]]) := hid (by rw [<- hV2]; exact Blk.new _ _ _)
 have HE2 : Hid (Ext V V2) := hid (by rw [<- hV2]; exact e.h.alloc _)
 generalize e.x.heap.size = sb at *
 clear hV2 e
 have HB2 := hid (HB0.out.ext HE2.out)
 have HL2 := hid (HL.out.ext HE2.out)
 have HO2 := hid (HO.out.ext HE2.out)
 have HW2 := hid (HE.out.trans HE2.out)
 clear HB0 HL HO HE HE2
 obtain ⟨e0, he0⟩ := Later.self V2
 rw [he0]
 go_loopw [9] (fun s wr => ∃ i : Nat, s = .int .i64 (i : Int) /\ Hid (i <= 5 /\ ∀ j, j < i -> ruleAt p bs k l n j = true) /\ ∃ e : Later V2, wr = e.x) (fun s _ => 5 - (intOf s).toNat)
 case atStart => exact ⟨0, rfl, (show Hid _ from ⟨by omega, fun j hj => by omega⟩), e0, rfl⟩
 case round =>
  clear he0 e0
  obtain ⟨i, rfl, hi, e, rfl⟩ := hrel
  have h5 : i = 0 \/ i = 1 \/ i = 2 \/ i = 3 \/ i = 4 \/ i = 5 := by have := hi.out.1; omega
  rcases h5 with rfl | rfl | rfl | rfl | rfl | rfl
  .
   have x0 : ∀ e : Later V2, e.x.cell? ⟨sb, 0, none⟩ = some (.func (.func 56) #[] #[]) := HSL.out.cellL 0 rfl
   have eg := entersR0
   have tk1 : True := trivial
   cases hr : ruleAt p bs k l n 0 with
   | false =>
    have HF : Hid (rulesV p bs k l n = 8) := hid (by unfold rulesV; rw [rulesAll_no (by omega) hr]; rfl)
    have KC : Hid (∀ W, BsL W A k bs -> OsL W Al n l -> Calls Tryz.prog 56 (#[bunV p A k c, .slice Al n cl] ++ #[]) W (Ret (.bool false) W)) := hid (fun W hW hO => by rw [<- hr]; exact KR0.out W hW hO)
    clear hr
    go_wp2_with (first | (clear tk1; refine wpList_row (by rfl) 29 _ rfl _ rfl (HB2.out.later _) vqA rfl (by kernel_rfl) ?_) | (go_at_fn 56; refine (Ret.later (KC.out _ (HL2.out.ext (Later.h _)) (HO2.out.ext (Later.h _)))).mono ?_; rintro y _ ⟨rfl, e, rfl⟩))
    go_ret
    exact Ret.mk (by rw [HF.out]; rfl) (HW2.out.trans e.h)
   | true =>
    have HN := hid hr
    have KC : Hid (∀ W, BsL W A k bs -> OsL W Al n l -> Calls Tryz.prog 56 (#[bunV p A k c, .slice Al n cl] ++ #[]) W (Ret (.bool true) W)) := hid (fun W hW hO => by rw [<- hr]; exact KR0.out W hW hO)
    clear hr
    go_wp2_with (first | (clear tk1; refine wpList_row (by rfl) 29 _ rfl _ rfl (HB2.out.later _) vqA rfl (by kernel_rfl) ?_) | (go_at_fn 56; refine (Ret.later (KC.out _ (HL2.out.ext (Later.h _)) (HO2.out.ext (Later.h _)))).mono ?_; rintro y _ ⟨rfl, e, rfl⟩))
    go_roundw
    case rel => exact ⟨1, by go_num, (show Hid _ from ⟨by omega, fun j hj => by
     by_cases hji : j = 0
     . subst hji; exact HN.out
     . exact hi.out.2 j (by omega)⟩), e, rfl⟩
    case measure => simp [intOf]
  .
   have x0 : ∀ e : Later V2, e.x.cell? ⟨sb, 1, none⟩ = some (.func (.func 57) #[] #[]) := HSL.out.cellL 1 rfl
   have eg := entersR1
   have tk1 : True := trivial
   cases hr : ruleAt p bs k l n 1 with
   | false =>
    have HF : Hid (rulesV p bs k l n = 8) := hid (by unfold rulesV; rw [rulesAll_no (by omega) hr]; rfl)
    have KC : Hid (∀ W, BsL W A k bs -> OsL W Al n l -> Calls Tryz.prog 57 (#[bunV p A k c, .slice Al n cl] ++ #[]) W (Ret (.bool false) W)) := hid (fun W hW hO => by rw [<- hr]; exact KR1.out W hW hO)
    clear hr
    go_wp2_with (first | (clear tk1; refine wpList_row (by rfl) 29 _ rfl _ rfl (HB2.out.later _) vqA rfl (by kernel_rfl) ?_) | (go_at_fn 57; refine (Ret.later (KC.out _ (HL2.out.ext (Later.h _)) (HO2.out.ext (Later.h _)))).mono ?_; rintro y _ ⟨rfl, e, rfl⟩))
    go_ret
    exact Ret.mk (by rw [HF.out]; rfl) (HW2.out.trans e.h)
   | true =>
    have HN := hid hr
    have KC : Hid (∀ W, BsL W A k bs -> OsL W Al n l -> Calls Tryz.prog 57 (#[bunV p A k c, .slice Al n cl] ++ #[]) W (Ret (.bool true) W)) := hid (fun W hW hO => by rw [<- hr]; exact KR1.out W hW hO)
    clear hr
    go_wp2_with (first | (clear tk1; refine wpList_row (by rfl) 29 _ rfl _ rfl (HB2.out.later _) vqA rfl (by kernel_rfl) ?_) | (go_at_fn 57; refine (Ret.later (KC.out _ (HL2.out.ext (Later.h _)) (HO2.out.ext (Later.h _)))).mono ?_; rintro y _ ⟨rfl, e, rfl⟩))
    go_roundw
    case rel => exact ⟨2, by go_num, (show Hid _ from ⟨by omega, fun j hj => by
     by_cases hji : j = 1
     . subst hji; exact HN.out
     . exact hi.out.2 j (by omega)⟩), e, rfl⟩
    case measure => simp [intOf]
  .
   have x0 : ∀ e : Later V2, e.x.cell? ⟨sb, 2, none⟩ = some (.func (.func 58) #[] #[]) := HSL.out.cellL 2 rfl
   have eg := entersR2
   have tk1 : True := trivial
   cases hr : ruleAt p bs k l n 2 with
   | false =>
    have HF : Hid (rulesV p bs k l n = 8) := hid (by unfold rulesV; rw [rulesAll_no (by omega) hr]; rfl)
    have KC : Hid (∀ W, BsL W A k bs -> OsL W Al n l -> Calls Tryz.prog 58 (#[bunV p A k c, .slice Al n cl] ++ #[]) W (Ret (.bool false) W)) := hid (fun W hW hO => by rw [<- hr]; exact KR2.out W hW hO)
    clear hr
    go_wp2_with (first | (clear tk1; refine wpList_row (by rfl) 29 _ rfl _ rfl (HB2.out.later _) vqA rfl (by kernel_rfl) ?_) | (go_at_fn 58; refine (Ret.later (KC.out _ (HL2.out.ext (Later.h _)) (HO2.out.ext (Later.h _)))).mono ?_; rintro y _ ⟨rfl, e, rfl⟩))
    go_ret
    exact Ret.mk (by rw [HF.out]; rfl) (HW2.out.trans e.h)
   | true =>
    have HN := hid hr
    have KC : Hid (∀ W, BsL W A k bs -> OsL W Al n l -> Calls Tryz.prog 58 (#[bunV p A k c, .slice Al n cl] ++ #[]) W (Ret (.bool true) W)) := hid (fun W hW hO => by rw [<- hr]; exact KR2.out W hW hO)
    clear hr
    go_wp2_with (first | (clear tk1; refine wpList_row (by rfl) 29 _ rfl _ rfl (HB2.out.later _) vqA rfl (by kernel_rfl) ?_) | (go_at_fn 58; refine (Ret.later (KC.out _ (HL2.out.ext (Later.h _)) (HO2.out.ext (Later.h _)))).mono ?_; rintro y _ ⟨rfl, e, rfl⟩))
    go_roundw
    case rel => exact ⟨3, by go_num, (show Hid _ from ⟨by omega, fun j hj => by
     by_cases hji : j = 2
     . subst hji; exact HN.out
     . exact hi.out.2 j (by omega)⟩), e, rfl⟩
    case measure => simp [intOf]
  .
   have x0 : ∀ e : Later V2, e.x.cell? ⟨sb, 3, none⟩ = some (.func (.func 59) #[] #[]) := HSL.out.cellL 3 rfl
   have eg := entersR3
   have tk1 : True := trivial
   cases hr : ruleAt p bs k l n 3 with
   | false =>
    have HF : Hid (rulesV p bs k l n = 8) := hid (by unfold rulesV; rw [rulesAll_no (by omega) hr]; rfl)
    have KC : Hid (∀ W, BsL W A k bs -> OsL W Al n l -> Calls Tryz.prog 59 (#[bunV p A k c, .slice Al n cl] ++ #[]) W (Ret (.bool false) W)) := hid (fun W hW hO => by rw [<- hr]; exact KR3.out W hW hO)
    clear hr
    go_wp2_with (first | (clear tk1; refine wpList_row (by rfl) 29 _ rfl _ rfl (HB2.out.later _) vqA rfl (by kernel_rfl) ?_) | (go_at_fn 59; refine (Ret.later (KC.out _ (HL2.out.ext (Later.h _)) (HO2.out.ext (Later.h _)))).mono ?_; rintro y _ ⟨rfl, e, rfl⟩))
    go_ret
    exact Ret.mk (by rw [HF.out]; rfl) (HW2.out.trans e.h)
   | true =>
    have HN := hid hr
    have KC : Hid (∀ W, BsL W A k bs -> OsL W Al n l -> Calls Tryz.prog 59 (#[bunV p A k c, .slice Al n cl] ++ #[]) W (Ret (.bool true) W)) := hid (fun W hW hO => by rw [<- hr]; exact KR3.out W hW hO)
    clear hr
    go_wp2_with (first | (clear tk1; refine wpList_row (by rfl) 29 _ rfl _ rfl (HB2.out.later _) vqA rfl (by kernel_rfl) ?_) | (go_at_fn 59; refine (Ret.later (KC.out _ (HL2.out.ext (Later.h _)) (HO2.out.ext (Later.h _)))).mono ?_; rintro y _ ⟨rfl, e, rfl⟩))
    go_roundw
    case rel => exact ⟨4, by go_num, (show Hid _ from ⟨by omega, fun j hj => by
     by_cases hji : j = 3
     . subst hji; exact HN.out
     . exact hi.out.2 j (by omega)⟩), e, rfl⟩
    case measure => simp [intOf]
  .
   have x0 : ∀ e : Later V2, e.x.cell? ⟨sb, 4, none⟩ = some (.func (.func 60) #[] #[]) := HSL.out.cellL 4 rfl
   have eg := entersR4
   have tk1 : True := trivial
   cases hr : ruleAt p bs k l n 4 with
   | false =>
    have HF : Hid (rulesV p bs k l n = 8) := hid (by unfold rulesV; rw [rulesAll_no (by omega) hr]; rfl)
    have KC : Hid (∀ W, BsL W A k bs -> OsL W Al n l -> Calls Tryz.prog 60 (#[bunV p A k c, .slice Al n cl] ++ #[]) W (Ret (.bool false) W)) := hid (fun W hW hO => by rw [<- hr]; exact KR4.out W hW hO)
    clear hr
    go_wp2_with (first | (clear tk1; refine wpList_row (by rfl) 29 _ rfl _ rfl (HB2.out.later _) vqA rfl (by kernel_rfl) ?_) | (go_at_fn 60; refine (Ret.later (KC.out _ (HL2.out.ext (Later.h _)) (HO2.out.ext (Later.h _)))).mono ?_; rintro y _ ⟨rfl, e, rfl⟩))
    go_ret
    exact Ret.mk (by rw [HF.out]; rfl) (HW2.out.trans e.h)
   | true =>
    have HN := hid hr
    have KC : Hid (∀ W, BsL W A k bs -> OsL W Al n l -> Calls Tryz.prog 60 (#[bunV p A k c, .slice Al n cl] ++ #[]) W (Ret (.bool true) W)) := hid (fun W hW hO => by rw [<- hr]; exact KR4.out W hW hO)
    clear hr
    go_wp2_with (first | (clear tk1; refine wpList_row (by rfl) 29 _ rfl _ rfl (HB2.out.later _) vqA rfl (by kernel_rfl) ?_) | (go_at_fn 60; refine (Ret.later (KC.out _ (HL2.out.ext (Later.h _)) (HO2.out.ext (Later.h _)))).mono ?_; rintro y _ ⟨rfl, e, rfl⟩))
    go_roundw
    case rel => exact ⟨5, by go_num, (show Hid _ from ⟨by omega, fun j hj => by
     by_cases hji : j = 4
     . subst hji; exact HN.out
     . exact hi.out.2 j (by omega)⟩), e, rfl⟩
    case measure => simp [intOf]
  .
   have HF : Hid (rulesV p bs k l n = 0) := hid (by unfold rulesV; rw [rulesAll_yes (fun j hj => hi.out.2 j hj)]; rfl)
   go_wp2_with fail
   go_ret
   exact Ret.mk (by rw [HF.out]; rfl) (HW2.out.trans e.h)
end
section
open Go.Maps Go.ChangeMaps
def cntK (l : Nat -> OV) (a t : Int) : Nat -> Nat
 | 0 => 0
 | i + 1 => cntK l a t i + (if (l i).kind = a /\ (l i).tgt = t then 1 else 0)
theorem cntK_le (l : Nat -> OV) (a t : Int) : ∀ k, cntK l a t k <= k
 | 0 => Nat.le_refl _
 | k + 1 => by have := cntK_le l a t k; rw [cntK]; split <;> omega
theorem cntK_upd (l : Nat -> OV) (i : Nat) (x y : Int) : updO (fun a t => cntK l a t i) (l i).kind (l i).tgt x y = cntK l x y (i + 1) := by
 unfold updO
 rw [cntK]
 by_cases e : x = (l i).kind /\ y = (l i).tgt
 . obtain ⟨rfl, rfl⟩ := e; rw [if_pos ⟨rfl, rfl⟩, if_pos ⟨rfl, rfl⟩]
 . rw [if_neg e, if_neg (fun q => e ⟨q.1.symm, q.2.symm⟩)]; rfl
theorem cntK_pos {l : Nat -> OV} {a t : Int} {i : Nat} : ∀ {k : Nat}, i < k -> (l i).kind = a -> (l i).tgt = t -> 1 <= cntK l a t k
 | k + 1, h, hk, ht => by
  rw [cntK]
  by_cases e : i = k
  . subst e; rw [if_pos ⟨hk, ht⟩]; omega
  . have := cntK_pos (k := k) (by omega) hk ht; omega
theorem cntK_zero {l : Nat -> OV} {a t : Int} : ∀ {k : Nat}, (∀ j, j < k -> ¬ ((l j).kind = a /\ (l j).tgt = t)) -> cntK l a t k = 0
 | 0, _ => rfl
 | k + 1, h => by rw [cntK, cntK_zero fun j hj => h j (by omega), if_neg (h k (by omega))]
theorem cntK_same {l : Nat -> OV} {i : Nat} : onceAt l i = decide (0 < cntK l (l i).kind (l i).tgt i) := by
 unfold onceAt
 cases h : firstOf (sameKT (l i) l) i with
 | none =>
  have h2 := firstOf_no h
  rw [cntK_zero fun j hj e => by have := h2 j hj; unfold sameKT at this; simp [e.1, e.2] at this]; rfl
 | some j =>
  obtain ⟨h1, h2, _⟩ := firstOf_spec h
  unfold sameKT at h2
  simp at h2
  have := cntK_pos h1 h2.1 h2.2
  symm; simp; omega
set_option maxRecDepth 20000 in
set_option maxHeartbeats 8000000 in
theorem conce_any (p : PV) (bs : Nat -> BV) (k c : Nat) (A : Option Addr) (hk : k < 4611686018427387904) (l : Nat -> OV) (n cl : Nat) (Al : Option Addr) (hn : n < 4611686018427387904) (hn9 : n <= 100000) (hin : ∀ i, i < n -> InI (l i).kind /\ InI (l i).tgt) (w : World) (h : BsL w A k bs) (ho : OsL w Al n l) : Calls Tryz.prog 58 #[bunV p A k c, .slice Al n cl] w (Ret (.bool (onceO l n)) w) := by
 have HE := hid ((Mod.refl [] w).alloc (.cells (bunC p A k c) 29))
 have HB0 : Hid (Blk (w.alloc (.cells (bunC p A k c) 29)) w.heap.size 29 (bunC p A k c)) := hid (Blk.new w 29 (bunC p A k c))
 have HO := hid (OsL.ext ho HE.out)
 have HK := hid hn9
 have HI := hid hin
 have n1 : (n : Int) <= 100000 := by omega
 have hmm := @run_makeMap Tryz.prog
 clear h ho hk hn hn9 hin
 go_enter Tryz.func58, Tryz.ntmps58
 go_upto_region 1 with fail
 generalize w.alloc (.cells (bunC p A k c) 29) = V at *
 go_upto_region 2 with fail
 have HM0 : Hid (CountsO (V.alloc (.map #[] 0)) V.heap.size 0 (fun _ _ => 0)) := hid (CountsO.made V)
 have HX0 : Hid (Ext V (V.alloc (.map #[] 0))) := hid ((Mod.refl [] V).alloc _)
 clear hmm
 generalize hW0 : V.alloc (.map #[] 0) = W0 at *
 clear hW0
 generalize hM : V.heap.size = M at *
 have HMV := hid hM
 clear hM
 go_upto_region 3 with fail
 go_loopw [12] (fun s wr => ∃ (i ci : Nat), s = .int .i64 (i : Int) /\ Hid (i <= n /\ (∀ j, j < i -> onceAt l j = false) /\ Ext V wr /\ ci <= i /\ CountsO wr M ci (fun a t => cntK l a t i))) (fun s _ => n - (intOf s).toNat)
 case atStart => exact ⟨0, 0, rfl, (show Hid _ from ⟨Nat.zero_le _, fun j hj => by omega, HX0.out, Nat.le_refl _, HM0.out⟩)⟩
 case round =>
  clear HX0 HM0
  obtain ⟨i, ci, rfl, hS⟩ := hrel
  rename World => wr
  have i0 : (0 : Int) <= (i : Int) := by omega
  by_cases hlt : i < n
  .
   obtain ⟨b, o, rfl, hb, q0, q1, q2⟩ := HO.out.cells hlt
   have tc : decide (i < n) = true := by simp [hlt]
   have i1 : (i : Int) < (n : Int) := by omega
   have i2 : i <= 100000 := by have := HK.out; omega
   have HLT := hid hlt
   obtain ⟨x, hx⟩ : ∃ x, l i = x := ⟨_, rfl⟩
   rw [hx] at q0 q1 q2
   have HXL := hid hx
   have hxi : InI x.kind /\ InI x.tgt := by rw [<- hx]; exact HI.out i hlt
   have HXI := hid hxi
   have u0 : wr.cell? ⟨b, o + i * 3, none⟩ = _ := q0 ⟨wr, hS.out.2.2.1⟩
   have u1 : wr.cell? ⟨b, o + i * 3 + 1, none⟩ = _ := q1 ⟨wr, hS.out.2.2.1⟩
   have u2 : wr.cell? ⟨b, o + i * 3 + 2, none⟩ = _ := q2 ⟨wr, hS.out.2.2.1⟩
   clear hx hlt hxi q0 q1 q2
   go_upto_region 5 with fail
   generalize hW1 : World.alloc wr _ = W1
   have HOB : Hid (Blk W1 wr.heap.size 40 x.c) := hid (by rw [<- hW1]; exact Blk.new _ _ _)
   have HE1 : Hid (Ext wr W1) := hid (by rw [<- hW1]; exact (Mod.refl [] _).alloc _)
   have HEW := hid (hS.out.2.2.1.trans HE1.out)
   have HC1 : Hid (CountsO W1 M ci (fun a t => cntK l a t i)) := hid (hS.out.2.2.2.2.kept HE1.out (by simp))
   have HCI := hid hS.out.2.2.2.1
   have HNO := hid hS.out.2.1
   clear hW1 hS u0 u1 u2
   generalize wr.heap.size = ob at *
   have o0 : W1.cell? ⟨ob, 0, none⟩ = some (.int .i64 x.kind) := HOB.out.cell 0
   have o2 : W1.cell? ⟨ob, 2, none⟩ = some (.int .i64 x.tgt) := HOB.out.cell 2
   go_upto_region 6 with fail
   generalize hW2 : World.alloc W1 _ = W2
   have HKB : Hid (Blk W2 W1.heap.size 40 #[.int .i64 x.kind, .int .i64 0, .int .i64 x.tgt]) := hid (by rw [<- hW2]; exact Blk.new _ _ _)
   have HE2 : Hid (Ext W1 W2) := hid (by rw [<- hW2]; exact (Mod.refl [] _).alloc _)
   have HKM : Hid (W1.heap.size ≠ M) := hid (by have := HC1.out.lt; omega)
   have HC2 : Hid (CountsO W2.drew M ci (fun a t => cntK l a t i)) := hid (HC1.out.kept HE2.out.drew (by simp))
   clear hW2 o0 o2
   generalize W1.heap.size = kb at *
   obtain ⟨c1, hc1⟩ : ∃ c1, cntK l x.kind x.tgt i = c1 := ⟨_, rfl⟩
   have hcle := cntK_le l x.kind x.tgt i
   rw [hc1] at hcle
   have HSG : Hid (onceAt l i = decide (0 < c1)) := hid (by rw [cntK_same, HXL.out, hc1])
   obtain ⟨st, es1, ck1, w4, hE0, hgr, hL3, hS0, hC4, hM4⟩ := HC2.out.bump (a := x.kind) (t := x.tgt) (by have := HCI.out; unfold maxLen; omega) HXI.out.1 HXI.out.2 (by rw [hc1]; omega)
   have hl0 := HC2.out.look HXI.out.1 HXI.out.2
   have hL4 := hC4.look HXI.out.1 HXI.out.2
   have hu : updO (fun a t => cntK l a t i) x.kind x.tgt x.kind x.tgt = c1 + 1 := by unfold updO; rw [if_pos ⟨rfl, rfl⟩]; show cntK l x.kind x.tgt i + 1 = c1 + 1; rw [hc1]
   rw [hu] at hL4
   rw [hc1] at hE0 hL3 hS0 hl0
   have HLK : Hid ((Instr.lookup 117 (.map (some M)) (.agg #[.int .i64 x.kind, .int .i64 0, .int .i64 x.tgt]) false).run Tryz.prog W2.drew = .ok (.int .i64 (c1 : Int)) W2.drew) := hid hl0
   have HG3 : Hid (Mod [M] W2 (setBlock W2.drew M (.map es1 ck1))) := hid ((Mod.refl [M] W2).drew.grown hgr (fun kk hkk => .inl (by cases hkk; simp)))
   have HL3 := hid hL3
   have HG4 : Hid (Mod [M] W2 w4) := hid ((Mod.refl [M] W2).drew.trans hM4)
   have HL4 : Hid ((Instr.lookup 117 (.map (some M)) (.agg #[.int .i64 x.kind, .int .i64 0, .int .i64 x.tgt]) false).run Tryz.prog w4 = .ok (.int .i64 ((c1 : Int) + 1)) w4) := hid (by have h := hL4; rw [Int.natCast_add] at h; exact h)
   have HC4 : Hid (CountsO w4 M (ci + 1) (fun a t => cntK l a t (i + 1))) := hid (hC4.congr fun y z => by have h := cntK_upd l i y z; rw [HXL.out] at h; exact h)
   have hE : (Instr.mapEntry 117 (.map (some M)) (.agg #[.int .i64 x.kind, .int .i64 0, .int .i64 x.tgt])).run Tryz.prog W2.drew = .ok (.tuple #[.int .i64 (c1 : Int), .int .i64 (st : Int)]) (setBlock W2.drew M (.map es1 ck1)) := hE0
   have hS : (Instr.entryStore 117 (.map (some M)) (.int .i64 (st : Int)) (.int .i64 ((c1 : Int) + 1))).run Tryz.prog (setBlock W2.drew M (.map es1 ck1)) = .ok () w4 := hS0
   have HEV : Hid (Ext V w4) := hid (Mod.new (S := [M]) ((HEW.out.trans HE2.out).of_ext.trans HG4.out) (fun kk hkk => .inr (by have := HMV.out; simp at hkk; omega)))
   have c0 : (0 : Int) <= (c1 : Int) := by omega
   have c9 : (c1 : Int) <= 100000 := by omega
   have tl1 : IntKind.i64.wrap ((c1 : Int) + 1) = (c1 : Int) + 1 := IntWalk.i64_in _ (by omega)
   have HE9 := hid hE
   have HS9 := hid hS
   clear hE hS hl0 hE0 hS0 hL3 hL4 hu hgr hC4 hM4 hc1 hcle
   generalize hW3 : setBlock W2.drew M (.map es1 ck1) = W3 at *
   clear hW3
   refine wp_region_held_drew (S := fun w' => Mod [M] W2 w') (by kernel_rfl) (Mod.refl _ _).drew (fun hHeld => ?_)
   refine' wpAnyH_take (i := 0) (v := _) rfl (by kernel_rfl) (by kernel_rfl) (by kernel_rfl) (fun _ _ _ h => h) (Or.inl ⟨by rfl, ?hy1⟩) hHeld ?rest1
   case hy1 => (rintro W hM; go_simp; (try with_reducible rfl))
   case rest1 =>
   (try simp only [Act.put, gTl, g0l, gSl, sTl, s0l, sSl])
   refine wpAnyH_take (i := 1) rfl (by kernel_rfl) (by kernel_rfl) (by kernel_rfl) (fun _ _ _ h => h) (yieldsIf_row (by rfl) 40 _ rfl _ rfl (fun W h => HKB.out.mod h (by simp; exact HKM.out)) vqL rfl (by kernel_rfl)) hHeld ?_
   (try simp only [Act.put, gTl, g0l, gSl, sTl, s0l, sSl])
   refine wpAnyH_ready (rs := [2, 4]) (by kernel_rfl) (by simp) ?_
   refine AllReadyH.cons rfl (fun K hK => ?_) (AllReadyH.cons rfl (fun K hK => ?_) AllReadyH.nil)
   .
    have hl0 := HLK.out
    go_simp
    refine hK.out _ _ hHeld (fun hHeld => ?_)
    clear hK K
    (try simp only [Act.put, gTl, g0l, gSl, sTl, s0l, sSl])
    clear hl0
    refine' wpAnyH_take (i := 3) (v := _) rfl (by kernel_rfl) (by kernel_rfl) (by kernel_rfl) (fun _ _ _ h => h) (Or.inl ⟨by rfl, ?hy2⟩) hHeld ?rest2
    case hy2 => (rintro W hM; go_simp; (try with_reducible rfl))
    case rest2 =>
    (try simp only [Act.put, gTl, g0l, gSl, sTl, s0l, sSl])
    refine wpAnyH_ready (rs := [4]) (by kernel_rfl) (by simp) ?_
    refine AllReadyH.cons rfl (fun K hK => ?_) AllReadyH.nil
    have hE := HE9.out
    go_simp
    refine hK.out _ _ HG3.out (fun hHeld => ?_)
    clear hK K
    (try simp only [Act.put, gTl, g0l, gSl, sTl, s0l, sSl])
    clear hE
    refine' wpAnyH_take (i := 5) (v := _) rfl (by kernel_rfl) (by kernel_rfl) (by kernel_rfl) (fun _ _ _ h => h) (Or.inl ⟨by rfl, ?hy3⟩) hHeld ?rest3
    case hy3 => (rintro W hM; go_simp; (try with_reducible rfl))
    case rest3 =>
    (try simp only [Act.put, gTl, g0l, gSl, sTl, s0l, sSl])
    refine wpAnyH_ready (rs := [6]) (by kernel_rfl) (by simp) ?_
    refine AllReadyH.cons rfl (fun K hK => ?_) AllReadyH.nil
    have hS := HS9.out
    go_simp
    refine hK.out _ _ HG4.out (fun hHeld => ?_)
    clear hK K
    (try simp only [Act.put, gTl, g0l, gSl, sTl, s0l, sSl])
    clear hS
    refine wpAnyH_done (by kernel_rfl) ?_ _
    have hl4 := HL4.out
    have kb0 : Blk w4 kb 40 #[.int .i64 x.kind, .int .i64 0, .int .i64 x.tgt] := HKB.out.mod HG4.out (by simp; exact HKM.out)
    have HKB4 := hid kb0
    clear kb0
    have tka : True := trivial
    by_cases h1 : 0 < c1
    .
     have HF : Hid (onceO l n = false) := hid (by unfold onceO; rw [firstOf_some HLT.out (by rw [HSG.out]; simp [h1]) HNO.out]; rfl)
     have g1 : decide ((1 : Int) < (c1 : Int) + 1) = true := decide_eq_true (by omega)
     have g2 : ((1 : Int) < (c1 : Int) + 1) = True := eq_true (by omega)
     clear h1
     go_wp2_with (clear tka; refine wpList_row (by rfl) 40 _ rfl _ rfl HKB4.out vqL rfl (by kernel_rfl) ?_)
     go_ret
     exact Ret.mk (by rw [HF.out]; rfl) (HE.out.trans HEV.out)
    .
     have HN : Hid (onceAt l i = false) := hid (by rw [HSG.out]; simp [h1])
     have g1 : decide ((1 : Int) < (c1 : Int) + 1) = false := decide_eq_false (by omega)
     have g2 : ((1 : Int) < (c1 : Int) + 1) = False := eq_false (by omega)
     clear h1
     go_wp2_with (clear tka; refine wpList_row (by rfl) 40 _ rfl _ rfl HKB4.out vqL rfl (by kernel_rfl) ?_)
     go_roundw
     case rel => exact ⟨i + 1, ci + 1, by go_num, (show Hid _ from ⟨HLT.out, fun j hj => by
      by_cases hji : j = i
      . subst hji; exact HN.out
      . exact HNO.out j (by omega), HEV.out, by have := HCI.out; omega, HC4.out⟩)⟩
     case measure => have := HLT.out; simp [intOf]; omega
   .
    have hE := HE9.out
    go_simp
    refine hK.out _ _ HG3.out (fun hHeld => ?_)
    clear hK K
    (try simp only [Act.put, gTl, g0l, gSl, sTl, s0l, sSl])
    clear hE
    refine' wpAnyH_take (i := 5) (v := _) rfl (by kernel_rfl) (by kernel_rfl) (by kernel_rfl) (fun _ _ _ h => h) (Or.inl ⟨by rfl, ?hy4⟩) hHeld ?rest4
    case hy4 => (rintro W hM; go_simp; (try with_reducible rfl))
    case rest4 =>
    (try simp only [Act.put, gTl, g0l, gSl, sTl, s0l, sSl])
    refine wpAnyH_ready (rs := [2]) (by kernel_rfl) (by simp) ?_
    refine AllReadyH.cons rfl (fun K hK => ?_) AllReadyH.nil
    have hl3 := HL3.out
    go_simp
    refine hK.out _ _ hHeld (fun hHeld => ?_)
    clear hK K
    (try simp only [Act.put, gTl, g0l, gSl, sTl, s0l, sSl])
    clear hl3
    refine' wpAnyH_take (i := 3) (v := _) rfl (by kernel_rfl) (by kernel_rfl) (by kernel_rfl) (fun _ _ _ h => h) (Or.inl ⟨by rfl, ?hy5⟩) hHeld ?rest5
    case hy5 => (rintro W hM; go_simp; (try with_reducible rfl))
    case rest5 =>
    (try simp only [Act.put, gTl, g0l, gSl, sTl, s0l, sSl])
    refine wpAnyH_ready (rs := [6]) (by kernel_rfl) (by simp) ?_
    refine AllReadyH.cons rfl (fun K hK => ?_) AllReadyH.nil
    have hS := HS9.out
    go_simp
    refine hK.out _ _ HG4.out (fun hHeld => ?_)
    clear hK K
    (try simp only [Act.put, gTl, g0l, gSl, sTl, s0l, sSl])
    clear hS
    refine wpAnyH_done (by kernel_rfl) ?_ _
    have hl4 := HL4.out
    have kb0 : Blk w4 kb 40 #[.int .i64 x.kind, .int .i64 0, .int .i64 x.tgt] := HKB.out.mod HG4.out (by simp; exact HKM.out)
    have HKB4 := hid kb0
    clear kb0
    have tka : True := trivial
    by_cases h1 : 0 < c1
    .
     have HF : Hid (onceO l n = false) := hid (by unfold onceO; rw [firstOf_some HLT.out (by rw [HSG.out]; simp [h1]) HNO.out]; rfl)
     have g1 : decide ((1 : Int) < (c1 : Int) + 1) = true := decide_eq_true (by omega)
     have g2 : ((1 : Int) < (c1 : Int) + 1) = True := eq_true (by omega)
     clear h1
     go_wp2_with (clear tka; refine wpList_row (by rfl) 40 _ rfl _ rfl HKB4.out vqL rfl (by kernel_rfl) ?_)
     go_ret
     exact Ret.mk (by rw [HF.out]; rfl) (HE.out.trans HEV.out)
    .
     have HN : Hid (onceAt l i = false) := hid (by rw [HSG.out]; simp [h1])
     have g1 : decide ((1 : Int) < (c1 : Int) + 1) = false := decide_eq_false (by omega)
     have g2 : ((1 : Int) < (c1 : Int) + 1) = False := eq_false (by omega)
     clear h1
     go_wp2_with (clear tka; refine wpList_row (by rfl) 40 _ rfl _ rfl HKB4.out vqL rfl (by kernel_rfl) ?_)
     go_roundw
     case rel => exact ⟨i + 1, ci + 1, by go_num, (show Hid _ from ⟨HLT.out, fun j hj => by
      by_cases hji : j = i
      . subst hji; exact HN.out
      . exact HNO.out j (by omega), HEV.out, by have := HCI.out; omega, HC4.out⟩)⟩
     case measure => have := HLT.out; simp [intOf]; omega
  .
   have hin : i = n := by have := hS.out.1; omega
   have HF : Hid (onceO l n = true) := hid (by unfold onceO; rw [firstOf_none (fun j hj => hS.out.2.1 j (by omega))]; rfl)
   have tc : decide (i < n) = false := by simp [hin]
   have tc2 : decide ((i : Int) < (n : Int)) = false := by simp [hin]
   clear hin
   go_wp2_with fail
   go_ret
   exact Ret.mk (by rw [HF.out]; rfl) (HE.out.trans hS.out.2.2.1)
end
end Go.Proofs.YtmckfdmdkljomaaGreatDoor
