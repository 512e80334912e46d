/-
 Whether numbers, and types that may be there once, are there once, as the code tells.
-/
import Derived.Test.YtmckfdmdkljomaaGreatDoorMMixLessCardau
namespace Go.Proofs.YtmckfdmdkljomaaGreatDoor
open Go.RowKit Go.Maps
set_option linter.unusedVariables false
set_option linter.unusedSimpArgs false
def cntNo (bs : Nat -> BV) (num : Int) : Nat -> Nat
 | 0 => 0
 | i + 1 => cntNo bs num i + (if (bs i).num = num then 1 else 0)
theorem cntNo_le (bs : Nat -> BV) (num : Int) : ∀ k, cntNo bs num k <= k
 | 0 => Nat.le_refl _
 | k + 1 => by have := cntNo_le bs num k; rw [cntNo]; split <;> omega
theorem cntNo_zero {bs : Nat -> BV} {num : Int} : ∀ {k : Nat}, (∀ j, j < k -> (bs j).num ≠ num) -> cntNo bs num k = 0
 | 0, _ => rfl
 | k + 1, h => by rw [cntNo, cntNo_zero fun j hj => h j (by omega), if_neg (h k (by omega))]
theorem cntNo_pos {bs : Nat -> BV} {num : Int} {i : Nat} : ∀ {k : Nat}, i < k -> (bs i).num = num -> 1 <= cntNo bs num k
 | k + 1, h, ht => by
  rw [cntNo]
  by_cases e : i = k
  . subst e; rw [if_pos ht]; omega
  . have := cntNo_pos (k := k) (by omega) ht; omega
theorem cntNo_dup {bs : Nat -> BV} {i : Nat} : dupAt bs i = decide (1 <= cntNo bs (bs i).num i) := by
 unfold dupAt
 cases h : firstOf (hasNumOf bs i) i with
 | none =>
  have h2 := firstOf_no h
  rw [cntNo_zero fun j hj e => by have := h2 j hj; simp [hasNumOf] at this; exact this e.symm]; rfl
 | some j =>
  obtain ⟨h1, h2, _⟩ := firstOf_spec h
  have := cntNo_pos (num := (bs i).num) h1 (by simp [hasNumOf] at h2; exact h2.symm)
  symm; simpa using this
def onceB (bs : Nat -> BV) (k : Nat) : Bool := !dupB bs k && decide (cntB bs 1 k = 1) && decide (cntB bs 6 k < 2) && decide (cntB bs 7 k < 2) && decide (cntB bs 10 k < 2)
theorem cntNo_upd (bs : Nat -> BV) (i : Nat) (x : Int) : upd (fun x => cntNo bs x i) (bs i).num x = cntNo bs x (i + 1) := by
 unfold upd
 rw [cntNo]
 by_cases e : x = (bs i).num
 . subst e; rw [if_pos rfl, if_pos rfl]
 . rw [if_neg e, if_neg (fun h => e h.symm)]; rfl
theorem cntB_upd (bs : Nat -> BV) (i : Nat) (x : Int) : upd (fun x => cntB bs x i) (bs i).ty x = cntB bs x (i + 1) := by
 unfold upd
 rw [cntB]
 by_cases e : x = (bs i).ty
 . subst e; rw [if_pos rfl, if_pos rfl]
 . rw [if_neg e, if_neg (fun h => e h.symm)]; rfl
set_option maxRecDepth 20000 in
set_option maxHeartbeats 4000000 in
theorem once_any (bs : Nat -> BV) (k c : Nat) (A : Option Addr) (hk : k <= 16) (hr : ∀ i, i < k -> InI (bs i).num /\ InI (bs i).ty) (w : World) (h : BsL w A k bs) : Calls Tryz.prog 109 #[.slice A k c] w (Ret (.bool (onceB bs k)) w) := by
 have HL := hid h
 have HI := hid hr
 have k1 : (k : Int) <= 16 := by omega
 have HK := hid hk
 have hmm := @run_makeMap Tryz.prog
 clear h hr hk
 go_enter Tryz.func109, Tryz.ntmps109
 go_upto_region 2 with fail
 have HE0 : Hid (Ext w ((w.alloc (.map #[] 0)).alloc (.map #[] 0))) := hid (((Mod.refl [] w).alloc _).alloc _)
 have HN0 : Hid (Counts ((w.alloc (.map #[] 0)).alloc (.map #[] 0)) w.heap.size 0 (fun _ => 0)) := hid ((Counts.made w).kept ((Mod.refl [] _).alloc _) (by simp))
 have HT0 : Hid (Counts ((w.alloc (.map #[] 0)).alloc (.map #[] 0)) (w.heap.size + 1) 0 (fun _ => 0)) := hid (by have := Counts.made (w.alloc (.map #[] 0)); simpa using this)
 clear hmm
 generalize (w.alloc (.map #[] 0)).alloc (.map #[] 0) = V at *
 generalize hM : w.heap.size = M at *
 have HM := hid hM
 clear hM
 go_upto_region 3 with fail
 go_loopw [11] (fun s11 wr => ∃ i : Nat, s11 = .int .i64 (i : Int) /\ Hid (i <= k /\ (∀ j, j < i -> dupAt bs j = false) /\ Ext w wr /\ Counts wr M i (fun x => cntNo bs x i) /\ Counts wr (M + 1) i (fun x => cntB bs x i))) (fun s11 _ => k - (intOf s11).toNat)
 case atStart => exact ⟨0, rfl, (show Hid _ from ⟨Nat.zero_le _, fun j hj => by omega, HE0.out, HN0.out, HT0.out⟩)⟩
 case round =>
  clear HE0 HN0 HT0
  obtain ⟨i, rfl, hS⟩ := hrel
  rename World => wr
  have i0 : (0 : Int) <= (i : Int) := by omega
  by_cases hlt : i < k
  .
   obtain ⟨b, o, rfl, hb, q0, q1, q2, q3, q4⟩ := HL.out.cells hlt
   have tc : decide (i < k) = true := by simp [hlt]
   have i1 : (i : Int) < (k : Int) := by omega
   have i2 : i <= 16 := by have := HK.out; omega
   have HLT := hid hlt
   have u0 : wr.cell? ⟨b, o + i * 5, none⟩ = _ := q0 ⟨wr, hS.out.2.2.1⟩
   have u1 : wr.cell? ⟨b, o + i * 5 + 1, none⟩ = _ := q1 ⟨wr, hS.out.2.2.1⟩
   have u2 : wr.cell? ⟨b, o + i * 5 + 2, none⟩ = _ := q2 ⟨wr, hS.out.2.2.1⟩
   have u3 : wr.cell? ⟨b, o + i * 5 + 3, none⟩ = _ := q3 ⟨wr, hS.out.2.2.1⟩
   have u4 : wr.cell? ⟨b, o + i * 5 + 4, none⟩ = _ := q4 ⟨wr, hS.out.2.2.1⟩
   clear q0 q1 q2 q3 q4
   obtain ⟨hin, hit⟩ := HI.out i hlt
   clear hlt
   go_upto_region 5 with fail
   generalize hW1 : World.alloc wr _ = W1
   have HG1 : Hid (Blk W1 wr.heap.size 45 (BV.c (bs i))) := hid (by rw [<- hW1]; exact Blk.new _ _ _)
   have hS1 : Hid (Ext w W1 /\ Counts W1 M i (fun x => cntNo bs x i) /\ Counts W1 (M + 1) i (fun x => cntB bs x i)) := hid (by
    have h := hS.out.2.2
    rw [<- hW1]
    exact ⟨h.1.alloc _, h.2.1.kept (Mod.alloc (S := []) (Mod.refl _ _) _) (by simp), h.2.2.kept (Mod.alloc (S := []) (Mod.refl _ _) _) (by simp)⟩)
   have HGM : Hid (wr.heap.size ≠ M /\ wr.heap.size ≠ M + 1) := hid ⟨by have := hS.out.2.2.2.1.lt; omega, by have := hS.out.2.2.2.2.lt; omega⟩
   have hno := hS.out.2.1
   have HNO := hid hno
   clear hW1 hS u0 u1 u2 u3 u4 hno
   generalize wr.heap.size = G at *
   have HDA := hid (cntNo_dup (bs := bs) (i := i))
   have hUN := cntNo_upd bs i
   have hUT := cntB_upd bs i
   have HUN := hid hUN
   have HUT := hid hUT
   clear hUN hUT
   have hn1 := cntNo_le bs (bs i).num i
   have hn2 := cntB_le bs (bs i).ty i
   have g0 : W1.cell? ⟨G, 0, none⟩ = some (.int .i64 (bs i).ty) := HG1.out.cell 0
   have g1 : W1.cell? ⟨G, 1, none⟩ = some (.int .i64 (bs i).num) := HG1.out.cell 1
   have hl := hS1.out.2.1.look hin
   try dsimp only at hl
   have hN1 : cntNo bs (bs i).num (i + 1) = cntNo bs (bs i).num i + 1 := by rw [cntNo, if_pos rfl]
   have HN1 := hid hN1
   clear hN1
   obtain ⟨D, hown, hat⟩ := hS1.out.2.1
   have hkey := keyOf3 hin
   have u0 : (0 : Int) <= (cntNo bs (bs i).num i : Nat) := by omega
   have u1 : ((cntNo bs (bs i).num i : Nat) : Int) <= 16 := by omega
   have hw1 : (Lit.int .i64 (((cntNo bs (bs i).num i : Nat) : Int) + 1)).wf = true := InI.wf (by unfold InI; omega)
   generalize hnn : cntNo bs (bs i).num i = n1 at *
   have HNN := hid hnn
   clear hnn hn1
   go_upto_region 6 with (at_mapUpdate; refine wpList_mapUpdate_own _ rfl _ _ _ 118 rfl 3 3 law3 Tryz.underlying118 _ M i _ rfl hown (by unfold maxLen; omega) _ _ _ rfl rfl hkey _ [] (plainElem_int vqK hw1) ?_; intro w2 hown2 hgrow2)
   have hC2 : Hid (Counts w2 M (i + 1) (fun x => cntNo bs x (i + 1))) := hid ((Counts.put (f := fun x => cntNo bs x i) hin hown hat (by (try dsimp only); rw [HNN.out]; exact hown2)).congr HUN.out)
   have m2 : Mod [M] W1 w2 := (Mod.refl _ _).grown hgrow2 (fun kk hkk => .inl (by cases hkk; simp))
   have HG2 := hid (HG1.out.mod m2 (by simpa using HGM.out.1))
   have HE2 : Hid (Ext w w2) := hid (Mod.new (S := [M]) (hS1.out.1.of_ext.trans m2) (fun kk hkk => .inr (by have := HM.out; simp at hkk; omega)))
   have hT2 := hS1.out.2.2.kept m2 (by simp)
   clear hl hown hat hown2 hgrow2 m2 g0 g1 hkey hw1 HG1 hS1 u0 u1
   have g0 : w2.cell? ⟨G, 0, none⟩ = some (.int .i64 (bs i).ty) := HG2.out.cell 0
   have hl := hT2.look hit
   try dsimp only at hl
   obtain ⟨D2, hown, hat⟩ := hT2
   have hkey := keyOf3 hit
   have u0 : (0 : Int) <= (cntB bs (bs i).ty i : Nat) := by omega
   have u1 : ((cntB bs (bs i).ty i : Nat) : Int) <= 16 := by omega
   have hw1 : (Lit.int .i64 (((cntB bs (bs i).ty i : Nat) : Int) + 1)).wf = true := InI.wf (by unfold InI; omega)
   generalize hnn2 : cntB bs (bs i).ty i = n2 at *
   have HNN2 := hid hnn2
   clear hnn2 hn2
   go_upto_region 7 with (at_mapUpdate; refine wpList_mapUpdate_own _ rfl _ _ _ 118 rfl 3 3 law3 Tryz.underlying118 _ (M + 1) i _ rfl hown (by unfold maxLen; omega) _ _ _ rfl rfl hkey _ [] (plainElem_int vqK hw1) ?_; intro w3 hown3 hgrow3)
   have hC3 : Hid (Counts w3 (M + 1) (i + 1) (fun x => cntB bs x (i + 1))) := hid ((Counts.put (f := fun x => cntB bs x i) hit hown hat (by (try dsimp only); rw [HNN2.out]; exact hown3)).congr HUT.out)
   have m3 : Mod [M + 1] w2 w3 := (Mod.refl _ _).grown hgrow3 (fun kk hkk => .inl (by cases hkk; simp))
   have HG3 := hid (HG2.out.mod m3 (by simpa using HGM.out.2))
   have HE3 : Hid (Ext w w3) := hid (Mod.new (S := [M + 1]) (HE2.out.of_ext.trans m3) (fun kk hkk => .inr (by have := HM.out; simp at hkk; omega)))
   have hC4 := hid (hC2.out.kept m3 (by simp))
   clear hl hown hat hown3 hgrow3 m3 g0 hkey hw1 HG2 HE2 hC2 u0 u1
   have g1 : w3.cell? ⟨G, 1, none⟩ = some (.int .i64 (bs i).num) := HG3.out.cell 1
   have hl := hC4.out.look hin
   try dsimp only at hl
   rw [HN1.out, show ((n1 + 1 : Nat) : Int) = (n1 : Int) + 1 by omega] at hl
   by_cases hd : 1 <= n1
   .
    have HF : Hid (onceB bs k = false) := by
     have h1 : dupAt bs i = true := by rw [HDA.out]; simpa using hd
     have h2 : dupB bs k = true := by unfold dupB; rw [firstOf_some HLT.out h1 HNO.out]; rfl
     unfold Hid onceB; rw [h2]; rfl
    have ta : decide ((1 : Int) < (n1 : Int) + 1) = true := decide_eq_true (by omega)
    have tb : ((1 : Int) < (n1 : Int) + 1) = True := eq_true (by omega)
    have td : decide (1 < n1 + 1) = true := decide_eq_true (by omega)
    have te : (1 < n1 + 1) = True := eq_true (by omega)
    have te2 : (0 < n1) = True := eq_true (by omega)
    clear hd
    go_wp2_with fail
    go_ret
    exact Ret.mk (by rw [HF.out]; rfl) HE3.out
   .
    obtain rfl : n1 = 0 := by omega
    have HN : Hid (dupAt bs i = false) := hid (by rw [HDA.out]; rfl)
    clear hd
    go_wp2_with fail
    go_roundw
    case rel => exact ⟨i + 1, by go_num, (show Hid _ from ⟨HLT.out, fun j hj => by
     by_cases hji : j = i
     . subst hji; exact HN.out
     . exact HNO.out j (by omega), HE3.out, hC4.out, hC3.out⟩)⟩
    case measure => have := HLT.out; simp [intOf]; omega
  .
   obtain rfl : i = k := by have := hS.out.1; omega
   have tc : decide (i < i) = false := by simp
   have HD : Hid (dupB bs i = false) := by unfold Hid dupB; rw [firstOf_none hS.out.2.1]; rfl
   have HE := hid hS.out.2.2.1
   have hT := hS.out.2.2.2.2
   have l1 := hT.look (id := 1) (by unfold InI; omega)
   have l6 := hT.look (id := 6) (by unfold InI; omega)
   have l7 := hT.look (id := 7) (by unfold InI; omega)
   have l10 := hT.look (id := 10) (by unfold InI; omega)
   try dsimp only at l1 l6 l7 l10
   have HF : Hid (onceB bs i = (decide (cntB bs 1 i = 1) && decide (cntB bs 6 i < 2) && decide (cntB bs 7 i < 2) && decide (cntB bs 10 i < 2))) := by unfold Hid onceB; rw [HD.out]; rfl
   clear hT hS HD hlt HL
   generalize onceB bs i = R at *
   generalize cntB bs 1 i = n1 at *
   generalize cntB bs 6 i = n6 at *
   generalize cntB bs 7 i = n7 at *
   generalize cntB bs 10 i = n10 at *
   by_cases z1 : n1 = 1
   .
    subst z1
    have z1 : True := trivial
    by_cases z6 : n6 < 2
    .
     have HZ6 := hid z6
     have t6a : decide ((n6 : Int) < 2) = true := decide_eq_true (by omega)
     have t6b : ((n6 : Int) < 2) = True := eq_true (by omega)
     have t6na : decide (n6 < 2) = true := decide_eq_true (by omega)
     have t6nb : (n6 < 2) = True := eq_true (by omega)
     clear z6
     by_cases z7 : n7 < 2
     .
      have HZ7 := hid z7
      have t7a : decide ((n7 : Int) < 2) = true := decide_eq_true (by omega)
      have t7b : ((n7 : Int) < 2) = True := eq_true (by omega)
      have t7na : decide (n7 < 2) = true := decide_eq_true (by omega)
      have t7nb : (n7 < 2) = True := eq_true (by omega)
      clear z7
      by_cases z10 : n10 < 2
      .
       have HZ10 := hid z10
       have t10a : decide ((n10 : Int) < 2) = true := decide_eq_true (by omega)
       have t10b : ((n10 : Int) < 2) = True := eq_true (by omega)
       have t10na : decide (n10 < 2) = true := decide_eq_true (by omega)
       have t10nb : (n10 < 2) = True := eq_true (by omega)
       clear z10
       go_wp2_with fail
       go_ret
       exact Ret.mk (by rw [HF.out]; simp [HZ6.out, HZ7.out, HZ10.out]) HE.out
      .
       have HZ10 := hid z10
       have t10a : decide ((n10 : Int) < 2) = false := decide_eq_false (by omega)
       have t10b : ((n10 : Int) < 2) = False := eq_false (by omega)
       have t10na : decide (n10 < 2) = false := decide_eq_false (by omega)
       have t10nb : (n10 < 2) = False := eq_false (by omega)
       clear z10
       go_wp2_with fail
       go_ret
       exact Ret.mk (by rw [HF.out]; simp [HZ6.out, HZ7.out, HZ10.out]) HE.out
     .
      have HZ7 := hid z7
      have t7a : decide ((n7 : Int) < 2) = false := decide_eq_false (by omega)
      have t7b : ((n7 : Int) < 2) = False := eq_false (by omega)
      have t7na : decide (n7 < 2) = false := decide_eq_false (by omega)
      have t7nb : (n7 < 2) = False := eq_false (by omega)
      clear z7
      go_wp2_with fail
      go_ret
      exact Ret.mk (by rw [HF.out]; simp [HZ6.out, HZ7.out]) HE.out
    .
     have HZ6 := hid z6
     have t6a : decide ((n6 : Int) < 2) = false := decide_eq_false (by omega)
     have t6b : ((n6 : Int) < 2) = False := eq_false (by omega)
     have t6na : decide (n6 < 2) = false := decide_eq_false (by omega)
     have t6nb : (n6 < 2) = False := eq_false (by omega)
     clear z6
     go_wp2_with fail
     go_ret
     exact Ret.mk (by rw [HF.out]; simp [HZ6.out]) HE.out
   .
    have HZ1 := hid z1
    have t1a : (((n1 : Int)) == (1)) = false := by rw [beq_eq_false_iff_ne]; omega
    have t1b : (((n1 : Int)) = (1)) = False := eq_false (by omega)
    have t1c : (((n1 : Int)) != (1)) = true := by rw [bne_iff_ne]; omega
    have t1na : ((n1) == (1)) = false := by rw [beq_eq_false_iff_ne]; omega
    have t1nb : ((n1) = (1)) = False := eq_false (by omega)
    have t1nc : ((n1) != (1)) = true := by rw [bne_iff_ne]; omega
    clear z1
    go_wp2_with fail
    go_ret
    exact Ret.mk (by rw [HF.out]; simp [HZ1.out]) HE.out
def partsR (p : PV) (bs : Nat -> BV) (k : Nat) : Int := if p.right ≠ 0 then p.right else match firstOf (badAt bs) k with | some i => (bs i).right | none => 0
theorem cBuildB_any {b : BV} (h : b.right = 0) (w : World) : Calls Tryz.prog 112 #[b.v] w (Ret (.tuple #[str b.bytes, .int .i64 0]) w) := by
 have hz := BV.right_zero h
 obtain ⟨ty, num, e⟩ := bv_nat h
 obtain ⟨crc, e2⟩ : ∃ c : Nat, b.crc = (c : Int) := ⟨b.crc.toNat, by omega⟩
 obtain ⟨bty, bnum, bfl, bcrc, bdata⟩ := b
 simp only [BV.mk.injEq] at e e2
 obtain ⟨rfl, rfl, -⟩ := e
 subst e2
 simpa [BV.bytes] using Build_any ty num bfl crc bdata h w
set_option maxRecDepth 20000 in
theorem parts_p (p : PV) (bs : Nat -> BV) (k c : Nat) (A : Option Addr) (hnl : Hid (p.d.name.length < 4611686018427387904 /\ p.s.name.length < 4611686018427387904 /\ p.r.name.length < 4611686018427387904)) (hf : p.fl < 18446744073709551616) (hb : p.right ≠ 0) (w : World) (h : BsL w A k bs) : Calls Tryz.prog 87 #[bunV p A k c] w (Ret (.int .i64 p.right) w) := by
 have KP := hid (fun W => cPriRight_any p hnl hf W)
 have HE := hid ((Mod.refl [] w).alloc (.cells (bunC p A k c) 29))
 have HB0 : Hid (Blk (w.alloc (.cells (bunC p A k c) 29)) w.heap.size 29 (bunC p A k c)) := hid (Blk.new w 29 (bunC p A k c))
 generalize p.right = r at *
 have ra : ((r) == (0)) = false := by rw [beq_eq_false_iff_ne]; exact hb
 have rb : ((r) = (0)) = False := eq_false (by exact hb)
 have rc : ((r) != (0)) = true := by rw [bne_iff_ne]; exact hb
 clear hb hf h
 go_enter Tryz.func87, Tryz.ntmps87
 go_upto_region 1 with fail
 generalize (w.alloc (.cells (bunC p A k c) 29)) = V at *
 have HPR : Hid (∀ e : Later V, e.x.rangeAt w.heap.size 0 p.c.toList) := HB0.out.range 0 19 (by rw [Array.toList_extract]; rfl)
 obtain ⟨e, he⟩ := Later.self V
 rw [he]
 clear he
 go_wp2_with (first | (refine wpList_mid (by rfl) 26 _ rfl _ 0 rfl _ _ (HPR.out _) vqJ rfl (by kernel_rfl) ?_) | (go_at_call 105; refine (Ret.later (KP.out _)).mono ?_; rintro x _ ⟨rfl, e, rfl⟩))
 go_ret
 exact Ret.mk rfl (HE.out.trans e.h)
set_option maxRecDepth 20000 in
set_option maxHeartbeats 1600000 in
theorem parts_ok (p : PV) (bs : Nat -> BV) (k c : Nat) (A : Option Addr) (hnl : Hid (p.d.name.length < 4611686018427387904 /\ p.s.name.length < 4611686018427387904 /\ p.r.name.length < 4611686018427387904)) (hf : p.fl < 18446744073709551616) (hk : k < 4611686018427387904) (hb : p.right = 0) (w : World) (h : BsL w A k bs) : Calls Tryz.prog 87 #[bunV p A k c] w (Ret (.int .i64 (match firstOf (badAt bs) k with | some i => (bs i).right | none => 0)) w) := by
 generalize hRES : (match firstOf (badAt bs) k with | some i => (bs i).right | none => 0) = RES
 have HRES := hid hRES
 clear hRES
 have KP := hid (fun W => cPriRight_any p hnl hf W)
 rw [hb] at KP
 have HE := hid ((Mod.refl [] w).alloc (.cells (bunC p A k c) 29))
 have HB0 : Hid (Blk (w.alloc (.cells (bunC p A k c) 29)) w.heap.size 29 (bunC p A k c)) := hid (Blk.new w 29 (bunC p A k c))
 have HL := hid (BsL.ext h HE.out)
 have k1 : (k : Int) < 4611686018427387904 := by omega
 clear hb hf hk h
 go_enter Tryz.func87, Tryz.ntmps87
 go_upto_region 1 with fail
 generalize (w.alloc (.cells (bunC p A k c) 29)) = V at *
 have HPR : Hid (∀ e : Later V, e.x.rangeAt w.heap.size 0 p.c.toList) := HB0.out.range 0 19 (by rw [Array.toList_extract]; rfl)
 have b19 : ∀ e : Later V, e.x.cell? ⟨w.heap.size, 19, none⟩ = some (.slice A k c) := HB0.out.cellL 19 rfl
 obtain ⟨e, he⟩ := Later.self V
 rw [he]
 clear he
 go_upto_region 5 with (first | (refine wpList_mid (by rfl) 26 _ rfl _ 0 rfl _ _ (HPR.out _) vqJ rfl (by kernel_rfl) ?_) | (go_at_call 105; refine (Ret.later (KP.out _)).mono ?_; rintro x _ ⟨rfl, e, rfl⟩))
 go_loopw [16] (fun s5 wr => ∃ i : Nat, s5 = .int .i64 (i : Int) /\ Hid (i <= k /\ ∀ j, j < i -> badAt bs j = false) /\ ∃ e : Later V, wr = e.x) (fun s5 _ => k - (intOf s5).toNat)
 case atStart => exact ⟨0, rfl, (show Hid _ from ⟨Nat.zero_le _, fun j hj => by omega⟩), e, rfl⟩
 case round =>
  clear e
  obtain ⟨i, rfl, hi, e, rfl⟩ := hrel
  have i0 : (0 : Int) <= (i : Int) := by omega
  by_cases hlt : i < k
  .
   obtain ⟨b, o, rfl, hb, q0, q1, q2, q3, q4⟩ := HL.out.cells hlt
   have tc : decide (i < k) = true := by simp [hlt]
   have i1 : (i : Int) < (k : Int) := by omega
   have HLT := hid hlt
   have KX := hid (fun W => cbRight_any (bs i) W)
   clear hlt
   by_cases ht : badAt bs i = true
   .
    have HR : Hid (RES = (bs i).right) := by unfold Hid; rw [<- HRES.out, firstOf_some HLT.out ht hi.out.2]
    have hx : (bs i).right ≠ 0 := by simpa [badAt] using ht
    clear ht
    generalize (bs i).right = r at *
    have ra : ((r) == (0)) = false := by rw [beq_eq_false_iff_ne]; exact hx
    have rb : ((r) = (0)) = False := eq_false (by exact hx)
    have rc : ((r) != (0)) = true := by rw [bne_iff_ne]; exact hx
    clear hx
    go_wp2_with (go_at_call 106; refine (Ret.laterW ((Later.h e).alloc _) (KX.out _)).mono ?_; rintro x _ ⟨rfl, e1, rfl⟩)
    go_ret
    exact Ret.mk (by rw [HR.out]; rfl) (HE.out.trans e1.h)
   .
    have HN : Hid (badAt bs i = false) := by unfold Hid; simpa using ht
    rw [bad_no HN.out] at KX
    clear ht
    go_wp2_with (go_at_call 106; refine (Ret.laterW ((Later.h e).alloc _) (KX.out _)).mono ?_; rintro x _ ⟨rfl, e1, rfl⟩)
    go_roundw
    case rel => exact ⟨i + 1, by go_num, (show Hid _ from ⟨HLT.out, fun j hj => by
     by_cases hji : j = i
     . subst hji; exact HN.out
     . exact hi.out.2 j (by omega)⟩), e1, rfl⟩
    case measure => have := HLT.out; simp [intOf]; omega
  .
   obtain rfl : i = k := by have := hi.out.1; omega
   have tc : decide (i < i) = false := by simp
   have HR1 : Hid (RES = 0) := by unfold Hid; rw [<- HRES.out, firstOf_none hi.out.2]
   go_wp2_with fail
   go_ret
   exact Ret.mk (by rw [HR1.out]; rfl) (HE.out.trans e.h)
theorem bparts_any (p : PV) (bs : Nat -> BV) (k c : Nat) (A : Option Addr) (hnl : Hid (p.d.name.length < 4611686018427387904 /\ p.s.name.length < 4611686018427387904 /\ p.r.name.length < 4611686018427387904)) (hf : p.fl < 18446744073709551616) (hk : k < 4611686018427387904) (w : World) (h : BsL w A k bs) : Calls Tryz.prog 87 #[bunV p A k c] w (Ret (.int .i64 (partsR p bs k)) w) := by
 unfold partsR
 by_cases hb : p.right = 0
 . rw [if_neg (by simpa using hb)]; exact parts_ok p bs k c A hnl hf hk hb w h
 . rw [if_pos hb]; exact parts_p p bs k c A hnl hf hb w h
set_option maxRecDepth 20000 in
theorem lasts_0 (bs : Nat -> BV) (c : Nat) (A : Option Addr) (w : World) : Calls Tryz.prog 108 #[.slice A 0 c] w (Ret (.bool false) w) := by
 go_enter Tryz.func108, Tryz.ntmps108
 go_wp2_with fail
 go_ret
 exact Ret.mk rfl (Mod.refl _ _)
set_option maxRecDepth 20000 in
theorem lasts_S (bs : Nat -> BV) (m c : Nat) (A : Option Addr) (hm : m < 4611686018427387904) (w : World) (h : BsL w A (m + 1) bs) : Calls Tryz.prog 108 #[.slice A (m + 1 : Nat) c] w (Ret (.bool (decide ((bs m).ty = 1))) w) := by
 obtain ⟨b, o, rfl, hb, q0, q1, q2, q3, q4⟩ := h.cells (Nat.lt_succ_self m)
 have m0 : (0 : Int) <= (m : Int) := by omega
 have m1 : (m : Int) < 4611686018427387904 := by omega
 have u0 : w.cell? ⟨b, o + m * 5, none⟩ = some (.int .i64 (bs m).ty) := q0 ⟨w, Mod.refl _ _⟩
 have tp : decide ((0 : Int) < ((m + 1 : Nat) : Int)) = true := decide_eq_true (by omega)
 have tq : ((0 : Int) < ((m + 1 : Nat) : Int)) = True := eq_true (by omega)
 have tr : decide ((0 : Int) < (m : Int) + 1) = true := decide_eq_true (by omega)
 have ts : ((0 : Int) < (m : Int) + 1) = True := eq_true (by omega)
 clear q0 q1 q2 q3 q4 h hb hm
 generalize (bs m).ty = ty at *
 by_cases ht : ty = 1
 .
  have HT := hid ht
  have ta : ((ty) == (1)) = true := by rw [beq_iff_eq]; exact ht
  have tb : ((ty) = (1)) = True := eq_true (by exact ht)
  have tc : ((ty) != (1)) = false := by rw [bne_eq_false_iff_eq]; exact ht
  clear ht
  go_enter Tryz.func108, Tryz.ntmps108
  go_wp2_with fail
  go_ret
  exact Ret.mk (by simp [HT.out]) (Mod.refl _ _)
 .
  have HT := hid ht
  have ta : ((ty) == (1)) = false := by rw [beq_eq_false_iff_ne]; exact ht
  have tb : ((ty) = (1)) = False := eq_false (by exact ht)
  have tc : ((ty) != (1)) = true := by rw [bne_iff_ne]; exact ht
  clear ht
  go_enter Tryz.func108, Tryz.ntmps108
  go_wp2_with fail
  go_ret
  exact Ret.mk (by simp [HT.out]) (Mod.refl _ _)
set_option maxRecDepth 20000 in
set_option maxHeartbeats 800000 in
theorem fits_S (p : PV) (bs : Nat -> BV) (m c : Nat) (A : Option Addr) (hm : m < 4611686018427387904) (hf : p.fl < 18446744073709551616) (po : p.o <= 1099511627776) (hd : (bs m).data.length <= 100000) (w : World) (h : BsL w A (m + 1) bs) : Calls Tryz.prog 110 #[bunV p A (m + 1) c] w (Ret (.bool (!(has p.fl 1 && decide (p.n < p.o + (bs m).data.length)))) w) := by
 have HE := hid ((Mod.refl [] w).alloc (.cells (bunC p A (m + 1) c) 29))
 have HB0 := hid (Blk.new w 29 (bunC p A (m + 1) c))
 have HL := hid (BsL.ext h HE.out)
 obtain ⟨b, o, rfl, hb, q0, q1, q2, q3, q4⟩ := HL.out.cells (Nat.lt_succ_self m)
 have m0 : (0 : Int) <= (m : Int) := by omega
 have m1 : (m : Int) < 4611686018427387904 := by omega
 have ld : ((bs m).data.length : Int) <= 100000 := by omega
 have po2 : (p.o : Int) <= 1099511627776 := by omega
 have HA := hid (u64_and_powP p.fl 0 hf (by omega))
 clear q0 q1 q2 q3 h hb hm HL hd po
 have HRES : Hid (has p.fl 1 = decide (p.fl % 2 = 1)) := by unfold Hid has; simp
 go_enter Tryz.func110, Tryz.ntmps110
 go_upto_region 1 with fail
 generalize w.alloc (.cells (bunC p (some ⟨b, o, none⟩) (m + 1) c) 29) = V at *
 have b19 : V.cell? ⟨w.heap.size, 19, none⟩ = some (.slice (some ⟨b, o, none⟩) (m + 1) c) := HB0.out.cell 19
 have b0 : V.cell? ⟨w.heap.size, 0, none⟩ = some (.int .u64 (p.fl : Int)) := HB0.out.cell 0
 have b17 : V.cell? ⟨w.heap.size, 17, none⟩ = some (.int .u64 (p.o : Int)) := HB0.out.cell 17
 have b18 : V.cell? ⟨w.heap.size, 18, none⟩ = some (.int .u64 (p.n : Int)) := HB0.out.cell 18
 have u4 : V.cell? ⟨b, o + m * 5 + 4, none⟩ = some (str (bs m).data) := q4 ⟨V, Mod.refl _ _⟩
 clear q4
 generalize (bs m).data = dat at *
 generalize p.o = po at *
 generalize p.n = pn at *
 go_upto_region 2 with fail
 by_cases hh : p.fl % 2 = 1
 .
  have ha : bits .and .u64 (p.fl : Int) 1 = 1 := by have := HA.out; simpa [hh] using this
  have HR : Hid (has p.fl 1 = true) := by unfold Hid; rw [HRES.out]; simpa using hh
  clear hh HA HRES
  by_cases hv : pn < po + dat.length
  .
   have HV := hid hv
   have va : decide ((po : Int) + (dat.length : Int) <= (pn : Int)) = false := decide_eq_false (by omega)
   have vb : ((po : Int) + (dat.length : Int) <= (pn : Int)) = False := eq_false (by omega)
   have vc : decide (po + dat.length <= pn) = false := decide_eq_false (by omega)
   clear hv
   go_wp2_with fail
   go_ret
   exact Ret.mk (by rw [HR.out]; simp [HV.out]) HE.out
  .
   have HV := hid hv
   have va : decide ((po : Int) + (dat.length : Int) <= (pn : Int)) = true := decide_eq_true (by omega)
   have vb : ((po : Int) + (dat.length : Int) <= (pn : Int)) = True := eq_true (by omega)
   have vc : decide (po + dat.length <= pn) = true := decide_eq_true (by omega)
   clear hv
   go_wp2_with fail
   go_ret
   exact Ret.mk (by rw [HR.out]; simp [HV.out]) HE.out
 .
  have ha : bits .and .u64 (p.fl : Int) 1 = 0 := by have := HA.out; simpa [hh] using this
  have HR : Hid (has p.fl 1 = false) := by unfold Hid; rw [HRES.out]; simpa using hh
  clear hh HA HRES
  go_wp2_with fail
  go_ret
  exact Ret.mk (by rw [HR.out]; simp) HE.out
set_option maxRecDepth 20000 in
set_option maxHeartbeats 1600000 in
theorem bbuild_any (p : PV) (bs : Nat -> BV) (k c : Nat) (A : Option Addr) (hnl : Hid (p.d.name.length < 4611686018427387904 /\ p.s.name.length < 4611686018427387904 /\ p.r.name.length < 4611686018427387904)) (hf : p.fl < 18446744073709551616) (hk : k <= 100000) (hp : p.right = 0) (hbs : ∀ i, i < k -> (bs i).right = 0) (w : World) (h : BsL w A k bs) : Calls Tryz.prog 89 #[bunV p A k c] w (Ret (str (bunBytes p bs k)) w) := by
 have HE := hid ((Mod.refl [] w).alloc (.cells (bunC p A k c) 29))
 have HB0 : Hid (Blk (w.alloc (.cells (bunC p A k c) 29)) w.heap.size 29 (bunC p A k c)) := hid (Blk.new w 29 (bunC p A k c))
 have HL := hid (BsL.ext h HE.out)
 have k1 : (k : Int) <= 100000 := by omega
 have HK := hid hk
 have HBS := hid hbs
 have KP := hid (fun W => cPriBuild_ok p hnl hf hp W)
 have KO4 : Hid (∀ W, Calls Tryz.prog 99 #[.int .i64 4] W (Ret (str [159]) W)) := fun W => by have := open_yes 4 (by rfl) W; rw [show openL ((4 : Nat) : Int) = [159] from by decide] at this; exact this
 have KO7 : Hid (∀ W, Calls Tryz.prog 99 #[.int .i64 7] W (Ret (str [255]) W)) := fun W => by have := open_yes 7 (by rfl) W; rw [show openL ((7 : Nat) : Int) = [255] from by decide] at this; exact this
 have lP : p.bytes.length <= 40000 := PV.bytes_length (PV.right_ranged hp)
 have HRes : Hid (bunBytes p bs k = (159 :: p.bytes) ++ blksB bs k ++ [255]) := rfl
 clear h hk hbs hp hf
 generalize p.bytes = PB at *
 generalize bunBytes p bs k = RES at *
 go_enter Tryz.func89, Tryz.ntmps89
 go_upto_region 1 with fail
 generalize (w.alloc (.cells (bunC p A k c) 29)) = V at *
 have HPR : Hid (∀ e : Later V, e.x.rangeAt w.heap.size 0 p.c.toList) := HB0.out.range 0 19 (by rw [Array.toList_extract]; rfl)
 have b19 : ∀ e : Later V, e.x.cell? ⟨w.heap.size, 19, none⟩ = some (.slice A k c) := HB0.out.cellL 19 rfl
 obtain ⟨e, he⟩ := Later.self V
 rw [he]
 clear he
 go_upto_region 4 with (first | (refine wpList_mid (by rfl) 26 _ rfl _ 0 rfl _ _ (HPR.out _) vqJ rfl (by kernel_rfl) ?_) | (go_at_call 111; refine (Ret.later (KP.out _)).mono ?_; rintro x _ ⟨rfl, e, rfl⟩) | (go_at_call 99; refine (Ret.later (KO4.out _)).mono ?_; rintro x _ ⟨rfl, e, rfl⟩))
 go_loopw [3, 21] (fun s3 s4 wr => ∃ i : Nat, s4 = .int .i64 (i : Int) /\ s3 = str ((159 :: PB) ++ blksB bs i) /\ Hid (i <= k) /\ ∃ e : Later V, wr = e.x) (fun _ s4 _ => k - (intOf s4).toNat)
 case atStart => exact ⟨0, rfl, by simp only [blksB, List.append_nil]; exact str_app [159] PB, (show Hid _ from Nat.zero_le _), e, rfl⟩
 case round =>
  clear e
  obtain ⟨i, rfl, rfl, hi, e, rfl⟩ := hrel
  have i0 : (0 : Int) <= (i : Int) := by omega
  have lX : ((159 :: PB) ++ blksB bs i).length <= 200000000000 := by
   have := blksB_length (bs := bs) (k := i) (fun j hj => HBS.out j (by have := hi.out; omega))
   have := hi.out
   have := HK.out
   rw [List.length_append, List.length_cons]
   omega
  by_cases hlt : i < k
  .
   obtain ⟨b, o, rfl, hb, q0, q1, q2, q3, q4⟩ := HL.out.cells hlt
   have tc : decide (i < k) = true := by simp [hlt]
   have i1 : (i : Int) < (k : Int) := by omega
   have HLT := hid hlt
   have KB := hid (fun W => cBuildB_any (HBS.out i hlt) W)
   have lB := BV.bytes_length (HBS.out i hlt)
   have HC : Hid ((159 :: PB) ++ blksB bs (i + 1) = ((159 :: PB) ++ blksB bs i) ++ (bs i).bytes) := by unfold Hid; rw [blksB, List.append_assoc]
   clear hlt
   generalize (bs i).bytes = BB at *
   generalize (159 :: PB) ++ blksB bs i = X at *
   go_wp2_with (first | (go_at_call 112; refine (Ret.laterW ((Later.h e).alloc _) (KB.out _)).mono ?_; rintro x _ ⟨rfl, e1, rfl⟩) | (refine wpList_cat (by rfl) _ _ _ _ rfl _ _ rfl rfl (by (try simp only [List.length_append, List.length_cons, List.length_nil]); omega) ?_))
   go_roundw
   case rel => exact ⟨i + 1, by go_num, by (rw [HC.out]) <;> exact str_app _ _, (show Hid _ from HLT.out), e1, rfl⟩
   case measure => have := HLT.out; simp [intOf]; omega
  .
   obtain rfl : i = k := by have := hi.out; omega
   have tc : decide (i < i) = false := by simp
   generalize (159 :: PB) ++ blksB bs i = X at *
   go_wp2_with (first | (go_at_call 99; refine (Ret.later (KO7.out _)).mono ?_; rintro x _ ⟨rfl, e, rfl⟩) | (refine wpList_cat (by rfl) _ _ X [255] rfl _ _ rfl rfl (by simp only [List.length_cons, List.length_nil]; omega) ?_))
   go_ret
   exact Ret.mk (by rw [HRes.out]; rfl) (HE.out.trans e.h)
def rulesR (p : PV) (bs : Nat -> BV) (k : Nat) : Int := if 16 < k then 4 else if bunRule1 bs k then 8 else if bunRule2 p bs k then 8 else if bunRule3 p bs k then 8 else 0
theorem find_age (bs : Nat -> BV) (k : Nat) : ∃ x : BV, findV bs 7 k = .tuple #[x.v, .bool (decide (cntB bs 7 k ≠ 0))] := by
 have h := cntB_find (bs := bs) (typ := 7) (k := k)
 unfold findV
 cases hf : firstOf (tyB bs 7) k with
 | some i => rw [hf] at h; rw [<- h]; exact ⟨bs i, rfl⟩
 | none => rw [hf] at h; rw [<- h]; exact ⟨zeroB, rfl⟩
theorem rule1_once (bs : Nat -> BV) (k : Nat) : bunRule1 bs k = (decide (k = 0) || !onceB bs k) := by
 unfold bunRule1 onceB
 rw [Bool.eq_iff_iff]
 cases dupB bs k <;> simp <;> omega
theorem right_wf {b : BV} (h : b.right = 0) : InI b.num /\ InI b.ty := by
 have := BV.right_zero h
 unfold InI
 omega
set_option maxRecDepth 20000 in
theorem rules_16 (p : PV) (bs : Nat -> BV) (k c : Nat) (A : Option Addr) (h16 : 16 < k) (w : World) (h : BsL w A k bs) : Calls Tryz.prog 88 #[bunV p A k c] w (Ret (.int .i64 4) w) := by
 have HE := hid ((Mod.refl [] w).alloc (.cells (bunC p A k c) 29))
 have HB0 : Hid (Blk (w.alloc (.cells (bunC p A k c) 29)) w.heap.size 29 (bunC p A k c)) := hid (Blk.new w 29 (bunC p A k c))
 have xa : decide ((16 : Int) < (k : Int)) = true := decide_eq_true (by omega)
 have xb : ((16 : Int) < (k : Int)) = True := eq_true (by omega)
 have xc : decide (16 < k) = true := decide_eq_true h16
 clear h h16
 go_enter Tryz.func88, Tryz.ntmps88
 go_upto_region 1 with fail
 generalize (w.alloc (.cells (bunC p A k c) 29)) = V at *
 have b19 : ∀ e : Later V, e.x.cell? ⟨w.heap.size, 19, none⟩ = some (.slice A k c) := HB0.out.cellL 19 rfl
 have b14 : ∀ e : Later V, e.x.cell? ⟨w.heap.size, 14, none⟩ = some (.int .u64 (p.t : Int)) := HB0.out.cellL 14 rfl
 obtain ⟨e, he⟩ := Later.self V
 rw [he]
 clear he
 go_wp2_with fail
 go_ret
 exact Ret.mk rfl (HE.out.trans e.h)
set_option maxRecDepth 20000 in
set_option maxHeartbeats 3200000 in
theorem rules_let (p : PV) (bs : Nat -> BV) (k c : Nat) (A : Option Addr) (h16 : ¬ 16 < k) (x : BV) (L O G F : Bool) (KF : ∀ W, BsL W A k bs -> Calls Tryz.prog 107 #[bunV p A k c, .int .i64 7] W (Ret (.tuple #[x.v, .bool G]) W)) (KL : ∀ W, BsL W A k bs -> Calls Tryz.prog 108 #[.slice A k c] W (Ret (.bool L) W)) (KO : ∀ W, BsL W A k bs -> Calls Tryz.prog 109 #[.slice A k c] W (Ret (.bool O) W)) (KG : L = true -> ∀ W, BsL W A k bs -> Calls Tryz.prog 110 #[bunV p A k c] W (Ret (.bool F) W)) (w : World) (h : BsL w A k bs) : Calls Tryz.prog 88 #[bunV p A k c] w (Ret (.int .i64 (if !L || !O || (decide (p.t = 0) && !G) || !F then 8 else 0)) w) := by
 generalize hRES : (if !L || !O || (decide (p.t = 0) && !G) || !F then (8 : Int) else 0) = RES
 have HRES := hid hRES.symm
 clear hRES
 have HE := hid ((Mod.refl [] w).alloc (.cells (bunC p A k c) 29))
 have HB0 : Hid (Blk (w.alloc (.cells (bunC p A k c) 29)) w.heap.size 29 (bunC p A k c)) := hid (Blk.new w 29 (bunC p A k c))
 have xa : decide ((16 : Int) < (k : Int)) = false := decide_eq_false (by omega)
 have xb : ((16 : Int) < (k : Int)) = False := eq_false (by omega)
 have xc : decide (16 < k) = false := decide_eq_false h16
 have HL := hid (BsL.ext h HE.out)
 have KF := hid KF
 have KL := hid KL
 have KO := hid KO
 have KG := hid KG
 clear h h16
 go_enter Tryz.func88, Tryz.ntmps88
 go_upto_region 1 with fail
 generalize (w.alloc (.cells (bunC p A k c) 29)) = V at *
 have b19 : ∀ e : Later V, e.x.cell? ⟨w.heap.size, 19, none⟩ = some (.slice A k c) := HB0.out.cellL 19 rfl
 have b14 : ∀ e : Later V, e.x.cell? ⟨w.heap.size, 14, none⟩ = some (.int .u64 (p.t : Int)) := HB0.out.cellL 14 rfl
 obtain ⟨e, he⟩ := Later.self V
 rw [he]
 clear he
 go_upto_region 4 with (first | (go_at_call 107; refine (Ret.later (KF.out _ (HL.out.ext (Later.h _)))).mono ?_; rintro x _ ⟨rfl, e, rfl⟩) | (refine wpList_row (by rfl) 29 _ rfl _ rfl (HB0.out.later _) vqA rfl (by kernel_rfl) ?_))
 generalize hU : World.alloc e.x _ = U
 obtain ⟨e2, rfl⟩ : ∃ e2 : Later V, U = e2.x := ⟨⟨U, by rw [<- hU]; exact (Later.h e).alloc _⟩, rfl⟩
 clear hU
 cases L with
 | false =>
  go_wp2_with (first | (go_at_call 108; refine (Ret.later (KL.out _ (HL.out.ext (Later.h _)))).mono ?_; rintro x _ ⟨rfl, e, rfl⟩))
  go_ret
  exact Ret.mk (by rw [HRES.out]; simp) (HE.out.trans (Later.h _))
 | true =>
  have KH := hid (KG.out rfl)
  clear KG
  cases O with
  | false =>
   go_wp2_with (first | (go_at_call 108; refine (Ret.later (KL.out _ (HL.out.ext (Later.h _)))).mono ?_; rintro x _ ⟨rfl, e, rfl⟩) | (go_at_call 109; refine (Ret.later (KO.out _ (HL.out.ext (Later.h _)))).mono ?_; rintro x _ ⟨rfl, e, rfl⟩))
   go_ret
   exact Ret.mk (by rw [HRES.out]; simp) (HE.out.trans (Later.h _))
  | true =>
   by_cases ht : p.t = 0
   .
    have HT := hid ht
    have ta : (((p.t : Int)) == (0)) = true := by rw [beq_iff_eq]; omega
    have tb : (((p.t : Int)) = (0)) = True := eq_true (by omega)
    have tc : (((p.t : Int)) != (0)) = false := by rw [bne_eq_false_iff_eq]; omega
    have ua : ((p.t) == (0)) = true := by rw [beq_iff_eq]; omega
    have ub : ((p.t) = (0)) = True := eq_true (by omega)
    have uc : ((p.t) != (0)) = false := by rw [bne_eq_false_iff_eq]; omega
    clear ht
    cases G with
    | false =>
     go_wp2_with (first | (go_at_call 108; refine (Ret.later (KL.out _ (HL.out.ext (Later.h _)))).mono ?_; rintro x _ ⟨rfl, e, rfl⟩) | (go_at_call 109; refine (Ret.later (KO.out _ (HL.out.ext (Later.h _)))).mono ?_; rintro x _ ⟨rfl, e, rfl⟩))
     go_ret
     exact Ret.mk (by rw [HRES.out]; simp [HT.out]) (HE.out.trans (Later.h _))
    | true =>
     cases F with
     | false =>
      go_wp2_with (first | (go_at_call 108; refine (Ret.later (KL.out _ (HL.out.ext (Later.h _)))).mono ?_; rintro x _ ⟨rfl, e, rfl⟩) | (go_at_call 109; refine (Ret.later (KO.out _ (HL.out.ext (Later.h _)))).mono ?_; rintro x _ ⟨rfl, e, rfl⟩) | (go_at_call 110; refine (Ret.later (KH.out _ (HL.out.ext (Later.h _)))).mono ?_; rintro x _ ⟨rfl, e, rfl⟩) | (refine wpList_row (by rfl) 29 _ rfl _ rfl (HB0.out.later _) vqA rfl (by kernel_rfl) ?_))
      go_ret
      exact Ret.mk (by rw [HRES.out]; simp) (HE.out.trans (Later.h _))
     | true =>
      go_wp2_with (first | (go_at_call 108; refine (Ret.later (KL.out _ (HL.out.ext (Later.h _)))).mono ?_; rintro x _ ⟨rfl, e, rfl⟩) | (go_at_call 109; refine (Ret.later (KO.out _ (HL.out.ext (Later.h _)))).mono ?_; rintro x _ ⟨rfl, e, rfl⟩) | (go_at_call 110; refine (Ret.later (KH.out _ (HL.out.ext (Later.h _)))).mono ?_; rintro x _ ⟨rfl, e, rfl⟩) | (refine wpList_row (by rfl) 29 _ rfl _ rfl (HB0.out.later _) vqA rfl (by kernel_rfl) ?_))
      go_ret
      exact Ret.mk (by rw [HRES.out]; simp) (HE.out.trans (Later.h _))
   .
    have HT := hid ht
    have ta : (((p.t : Int)) == (0)) = false := by rw [beq_eq_false_iff_ne]; omega
    have tb : (((p.t : Int)) = (0)) = False := eq_false (by omega)
    have tc : (((p.t : Int)) != (0)) = true := by rw [bne_iff_ne]; omega
    have ua : ((p.t) == (0)) = false := by rw [beq_eq_false_iff_ne]; omega
    have ub : ((p.t) = (0)) = False := eq_false (by omega)
    have uc : ((p.t) != (0)) = true := by rw [bne_iff_ne]; omega
    clear ht
    cases F with
    | false =>
     go_wp2_with (first | (go_at_call 108; refine (Ret.later (KL.out _ (HL.out.ext (Later.h _)))).mono ?_; rintro x _ ⟨rfl, e, rfl⟩) | (go_at_call 109; refine (Ret.later (KO.out _ (HL.out.ext (Later.h _)))).mono ?_; rintro x _ ⟨rfl, e, rfl⟩) | (go_at_call 110; refine (Ret.later (KH.out _ (HL.out.ext (Later.h _)))).mono ?_; rintro x _ ⟨rfl, e, rfl⟩) | (refine wpList_row (by rfl) 29 _ rfl _ rfl (HB0.out.later _) vqA rfl (by kernel_rfl) ?_))
     go_ret
     exact Ret.mk (by rw [HRES.out]; simp [HT.out]) (HE.out.trans (Later.h _))
    | true =>
     go_wp2_with (first | (go_at_call 108; refine (Ret.later (KL.out _ (HL.out.ext (Later.h _)))).mono ?_; rintro x _ ⟨rfl, e, rfl⟩) | (go_at_call 109; refine (Ret.later (KO.out _ (HL.out.ext (Later.h _)))).mono ?_; rintro x _ ⟨rfl, e, rfl⟩) | (go_at_call 110; refine (Ret.later (KH.out _ (HL.out.ext (Later.h _)))).mono ?_; rintro x _ ⟨rfl, e, rfl⟩) | (refine wpList_row (by rfl) 29 _ rfl _ rfl (HB0.out.later _) vqA rfl (by kernel_rfl) ?_))
     go_ret
     exact Ret.mk (by rw [HRES.out]; simp [HT.out]) (HE.out.trans (Later.h _))
theorem rules_any (p : PV) (bs : Nat -> BV) (k c : Nat) (A : Option Addr) (hf : p.fl < 18446744073709551616) (hk : k < 4611686018427387904) (hp : p.right = 0) (hbs : ∀ i, i < k -> (bs i).right = 0) (w : World) (h : BsL w A k bs) : Calls Tryz.prog 88 #[bunV p A k c] w (Ret (.int .i64 (rulesR p bs k)) w) := by
 have hrs := PV.ranged_spec (PV.right_ranged hp)
 unfold rulesR
 by_cases h16 : 16 < k
 . rw [if_pos h16]; exact rules_16 p bs k c A h16 w h
 .
  rw [if_neg h16, rule1_once]
  obtain ⟨x, hx⟩ := find_age bs k
  have KF : ∀ W, BsL W A k bs -> Calls Tryz.prog 107 #[bunV p A k c, .int .i64 7] W (Ret (.tuple #[x.v, .bool (decide (cntB bs 7 k ≠ 0))]) W) := fun W hW => by rw [<- hx]; exact Find_any p bs k c A 7 hk W hW
  have KO : ∀ W, BsL W A k bs -> Calls Tryz.prog 109 #[.slice A k c] W (Ret (.bool (onceB bs k)) W) := fun W hW => once_any bs k c A (by omega) (fun i hi => right_wf (hbs i hi)) W hW
  cases k with
  | zero =>
   have := rules_let p bs 0 c A h16 x false (onceB bs 0) _ true KF (fun W hW => lasts_0 bs c A W) KO (fun e => by cases e) w h
   simpa using this
  | succ m =>
   have hm := hbs m (by omega)
   have hz := BV.right_zero hm
   have := rules_let p bs (m + 1) c A h16 x (decide ((bs m).ty = 1)) (onceB bs (m + 1)) _ (!(has p.fl 1 && decide (p.n < p.o + (bs m).data.length))) KF (fun W hW => lasts_S bs m c A (by omega) W hW) KO (fun _ W hW => fits_S p bs m c A (by omega) hf (by omega) (by omega) W hW) w h
   refine this.mono fun r w' hr => ?_
   have e : (if !decide ((bs m).ty = 1) || !onceB bs (m + 1) || (decide (p.t = 0) && !decide (cntB bs 7 (m + 1) ≠ 0)) || !!(has p.fl 1 && decide (p.n < p.o + (bs m).data.length)) then (8 : Int) else 0) =
     if (decide (m + 1 = 0) || !onceB bs (m + 1)) = true then 8 else if bunRule2 p bs (m + 1) = true then 8 else if bunRule3 p bs (m + 1) = true then 8 else 0 := by
    unfold bunRule2 bunRule3
    simp only [Nat.add_sub_cancel]
    cases onceB bs (m + 1) <;> by_cases ht : (bs m).ty = 1 <;> by_cases h0 : p.t = 0 <;> by_cases h7 : cntB bs 7 (m + 1) = 0 <;> cases has p.fl 1 <;> simp [ht, h0, h7]
   rw [<- e]
   exact hr
set_option maxRecDepth 20000 in
set_option maxHeartbeats 1600000 in
theorem made_p (p : PV) (bs : Nat -> BV) (k c : Nat) (A : Option Addr) (r : Int) (hr : r ≠ 0) (KP : Hid (∀ W, BsL W A k bs -> Calls Tryz.prog 87 #[bunV p A k c] W (Ret (.int .i64 r) W))) (w : World) (h : BsL w A k bs) : Calls Tryz.prog 62 #[bunV p A k c] w (Ret (.tuple #[str [], .int .i64 r]) w) := by
 have HE := hid ((Mod.refl [] w).alloc (.cells (bunC p A k c) 29))
 have HB0 : Hid (Blk (w.alloc (.cells (bunC p A k c) 29)) w.heap.size 29 (bunC p A k c)) := hid (Blk.new w 29 (bunC p A k c))
 have HL := hid (BsL.ext h HE.out)
 clear h
 have ra : ((r) == (0)) = false := by rw [beq_eq_false_iff_ne]; exact hr
 have rb : ((r) = (0)) = False := eq_false (by exact hr)
 have rc : ((r) != (0)) = true := by rw [bne_iff_ne]; exact hr
 clear hr
 go_enter Tryz.func62, Tryz.ntmps62
 go_upto_region 1 with fail
 generalize (w.alloc (.cells (bunC p A k c) 29)) = V at *
 obtain ⟨e, he⟩ := Later.self V
 rw [he]
 clear he
 go_wp2_with (first | (refine wpList_row (by rfl) 29 _ rfl _ rfl (HB0.out.later _) vqA rfl (by kernel_rfl) ?_) | (go_at_call 87; refine (Ret.later (KP.out _ (HL.out.ext (Later.h _)))).mono ?_; rintro x _ ⟨rfl, e, rfl⟩))
 go_ret2
 exact Ret.mk rfl (HE.out.trans (Later.h _))
set_option maxRecDepth 20000 in
set_option maxHeartbeats 1600000 in
theorem made_r (p : PV) (bs : Nat -> BV) (k c : Nat) (A : Option Addr) (r : Int) (hr : r ≠ 0) (KP : Hid (∀ W, BsL W A k bs -> Calls Tryz.prog 87 #[bunV p A k c] W (Ret (.int .i64 0) W))) (KR : Hid (∀ W, BsL W A k bs -> Calls Tryz.prog 88 #[bunV p A k c] W (Ret (.int .i64 r) W))) (w : World) (h : BsL w A k bs) : Calls Tryz.prog 62 #[bunV p A k c] w (Ret (.tuple #[str [], .int .i64 r]) w) := by
 have HE := hid ((Mod.refl [] w).alloc (.cells (bunC p A k c) 29))
 have HB0 : Hid (Blk (w.alloc (.cells (bunC p A k c) 29)) w.heap.size 29 (bunC p A k c)) := hid (Blk.new w 29 (bunC p A k c))
 have HL := hid (BsL.ext h HE.out)
 clear h
 have ra : ((r) == (0)) = false := by rw [beq_eq_false_iff_ne]; exact hr
 have rb : ((r) = (0)) = False := eq_false (by exact hr)
 have rc : ((r) != (0)) = true := by rw [bne_iff_ne]; exact hr
 clear hr
 go_enter Tryz.func62, Tryz.ntmps62
 go_upto_region 1 with fail
 generalize (w.alloc (.cells (bunC p A k c) 29)) = V at *
 obtain ⟨e, he⟩ := Later.self V
 rw [he]
 clear he
 go_wp2_with (first | (refine wpList_row (by rfl) 29 _ rfl _ rfl (HB0.out.later _) vqA rfl (by kernel_rfl) ?_) | (go_at_call 87; refine (Ret.later (KP.out _ (HL.out.ext (Later.h _)))).mono ?_; rintro x _ ⟨rfl, e, rfl⟩) | (go_at_call 88; refine (Ret.later (KR.out _ (HL.out.ext (Later.h _)))).mono ?_; rintro x _ ⟨rfl, e, rfl⟩))
 go_ret2
 exact Ret.mk rfl (HE.out.trans (Later.h _))
set_option maxRecDepth 20000 in
set_option maxHeartbeats 1600000 in
theorem made_l (p : PV) (bs : Nat -> BV) (k c : Nat) (A : Option Addr) (BB : List UInt8) (hl : 4000 < BB.length) (KP : Hid (∀ W, BsL W A k bs -> Calls Tryz.prog 87 #[bunV p A k c] W (Ret (.int .i64 0) W))) (KR : Hid (∀ W, BsL W A k bs -> Calls Tryz.prog 88 #[bunV p A k c] W (Ret (.int .i64 0) W))) (KB : Hid (∀ W, BsL W A k bs -> Calls Tryz.prog 89 #[bunV p A k c] W (Ret (str BB) W))) (w : World) (h : BsL w A k bs) : Calls Tryz.prog 62 #[bunV p A k c] w (Ret (.tuple #[str [], .int .i64 4]) w) := by
 have HE := hid ((Mod.refl [] w).alloc (.cells (bunC p A k c) 29))
 have HB0 : Hid (Blk (w.alloc (.cells (bunC p A k c) 29)) w.heap.size 29 (bunC p A k c)) := hid (Blk.new w 29 (bunC p A k c))
 have HL := hid (BsL.ext h HE.out)
 clear h
 have la : decide ((4000 : Int) < (BB.length : Int)) = true := decide_eq_true (by omega)
 have lb : ((4000 : Int) < (BB.length : Int)) = True := eq_true (by omega)
 have lc : decide (4000 < BB.length) = true := decide_eq_true hl
 clear hl
 go_enter Tryz.func62, Tryz.ntmps62
 go_upto_region 1 with fail
 generalize (w.alloc (.cells (bunC p A k c) 29)) = V at *
 obtain ⟨e, he⟩ := Later.self V
 rw [he]
 clear he
 go_wp2_with (first | (refine wpList_row (by rfl) 29 _ rfl _ rfl (HB0.out.later _) vqA rfl (by kernel_rfl) ?_) | (go_at_call 87; refine (Ret.later (KP.out _ (HL.out.ext (Later.h _)))).mono ?_; rintro x _ ⟨rfl, e, rfl⟩) | (go_at_call 88; refine (Ret.later (KR.out _ (HL.out.ext (Later.h _)))).mono ?_; rintro x _ ⟨rfl, e, rfl⟩) | (go_at_call 89; refine (Ret.later (KB.out _ (HL.out.ext (Later.h _)))).mono ?_; rintro x _ ⟨rfl, e, rfl⟩))
 go_ret2
 exact Ret.mk rfl (HE.out.trans (Later.h _))
set_option maxRecDepth 20000 in
set_option maxHeartbeats 1600000 in
theorem made_0 (p : PV) (bs : Nat -> BV) (k c : Nat) (A : Option Addr) (BB : List UInt8) (hl : ¬ 4000 < BB.length) (KP : Hid (∀ W, BsL W A k bs -> Calls Tryz.prog 87 #[bunV p A k c] W (Ret (.int .i64 0) W))) (KR : Hid (∀ W, BsL W A k bs -> Calls Tryz.prog 88 #[bunV p A k c] W (Ret (.int .i64 0) W))) (KB : Hid (∀ W, BsL W A k bs -> Calls Tryz.prog 89 #[bunV p A k c] W (Ret (str BB) W))) (w : World) (h : BsL w A k bs) : Calls Tryz.prog 62 #[bunV p A k c] w (Ret (.tuple #[str BB, .int .i64 0]) w) := by
 have HE := hid ((Mod.refl [] w).alloc (.cells (bunC p A k c) 29))
 have HB0 : Hid (Blk (w.alloc (.cells (bunC p A k c) 29)) w.heap.size 29 (bunC p A k c)) := hid (Blk.new w 29 (bunC p A k c))
 have HL := hid (BsL.ext h HE.out)
 clear h
 have la : decide ((4000 : Int) < (BB.length : Int)) = false := decide_eq_false (by omega)
 have lb : ((4000 : Int) < (BB.length : Int)) = False := eq_false (by omega)
 have lc : decide (4000 < BB.length) = false := decide_eq_false hl
 clear hl
 go_enter Tryz.func62, Tryz.ntmps62
 go_upto_region 1 with fail
 generalize (w.alloc (.cells (bunC p A k c) 29)) = V at *
 obtain ⟨e, he⟩ := Later.self V
 rw [he]
 clear he
 go_wp2_with (first | (refine wpList_row (by rfl) 29 _ rfl _ rfl (HB0.out.later _) vqA rfl (by kernel_rfl) ?_) | (go_at_call 87; refine (Ret.later (KP.out _ (HL.out.ext (Later.h _)))).mono ?_; rintro x _ ⟨rfl, e, rfl⟩) | (go_at_call 88; refine (Ret.later (KR.out _ (HL.out.ext (Later.h _)))).mono ?_; rintro x _ ⟨rfl, e, rfl⟩) | (go_at_call 89; refine (Ret.later (KB.out _ (HL.out.ext (Later.h _)))).mono ?_; rintro x _ ⟨rfl, e, rfl⟩))
 go_ret2
 exact Ret.mk rfl (HE.out.trans (Later.h _))
def madeV (p : PV) (bs : Nat -> BV) (k : Nat) : Value := .tuple #[str (if bunRight p bs k = 0 then bunBytes p bs k else []), .int .i64 (bunRight p bs k)]
theorem made_any (p : PV) (bs : Nat -> BV) (k c : Nat) (A : Option Addr) (hnl : Hid (p.d.name.length < 4611686018427387904 /\ p.s.name.length < 4611686018427387904 /\ p.r.name.length < 4611686018427387904)) (hf : p.fl < 18446744073709551616) (hk : k < 4611686018427387904) (w : World) (h : BsL w A k bs) : Calls Tryz.prog 62 #[bunV p A k c] w (Ret (madeV p bs k) w) := by
 have KP := hid (fun W (hW : BsL W A k bs) => bparts_any p bs k c A hnl hf hk W hW)
 unfold madeV
 by_cases hp : p.right = 0
 .
  cases hfo : firstOf (badAt bs) k with
  | some i =>
   have hb : (bs i).right ≠ 0 := by have := (firstOf_spec hfo).2.1; simpa [badAt] using this
   have e1 : partsR p bs k = (bs i).right := by unfold partsR; rw [if_neg (by simpa using hp), hfo]
   have e2 : bunRight p bs k = (bs i).right := by unfold bunRight; rw [if_neg (by simpa using hp), hfo]
   rw [e1] at KP
   rw [e2, if_neg hb]
   exact made_p p bs k c A _ hb KP w h
  | none =>
   have hbs : ∀ i, i < k -> (bs i).right = 0 := fun i hi => bad_no (firstOf_no hfo i hi)
   have e1 : partsR p bs k = 0 := by unfold partsR; rw [if_neg (by simpa using hp), hfo]
   have e2 : bunRight p bs k = if rulesR p bs k ≠ 0 then rulesR p bs k else if 4000 < (bunBytes p bs k).length then 4 else 0 := by
    unfold bunRight rulesR
    rw [if_neg (show ¬ p.right ≠ 0 by simpa using hp), hfo]
    by_cases h16 : 16 < k
    . simp [h16]
    . cases bunRule1 bs k <;> cases bunRule2 p bs k <;> cases bunRule3 p bs k <;> simp [h16]
   rw [e1] at KP
   have KR := hid (fun W (hW : BsL W A k bs) => rules_any p bs k c A hf hk hp hbs W hW)
   by_cases hr : rulesR p bs k = 0
   .
    rw [hr] at KR
    have h16 : k <= 16 := by
     unfold rulesR at hr
     by_cases h16 : 16 < k
     . rw [if_pos h16] at hr; exact absurd hr (by decide)
     . omega
    have KB := hid (fun W (hW : BsL W A k bs) => bbuild_any p bs k c A hnl hf (by omega) hp hbs W hW)
    have e3 : bunRight p bs k = if 4000 < (bunBytes p bs k).length then 4 else 0 := by rw [e2, if_neg (show ¬ rulesR p bs k ≠ 0 by simpa using hr)]
    by_cases hl : 4000 < (bunBytes p bs k).length
    .
     rw [if_pos hl] at e3
     rw [e3, if_neg (show ¬ (4 : Int) = 0 by decide)]; exact made_l p bs k c A _ hl KP KR KB w h
    .
     rw [if_neg hl] at e3
     rw [e3, if_pos rfl]; exact made_0 p bs k c A _ hl KP KR KB w h
   .
    rw [e2, if_pos hr, if_neg hr]
    exact made_r p bs k c A _ hr KP KR w h
 .
  have e1 : partsR p bs k = p.right := by unfold partsR; rw [if_pos hp]
  have e2 : bunRight p bs k = p.right := by unfold bunRight; rw [if_pos hp]
  rw [e1] at KP
  rw [e2, if_neg hp]
  exact made_p p bs k c A _ hp KP w h
set_option maxRecDepth 20000 in
theorem cBunRight_any (p : PV) (bs : Nat -> BV) (k c : Nat) (A : Option Addr) (hnl : Hid (p.d.name.length < 4611686018427387904 /\ p.s.name.length < 4611686018427387904 /\ p.r.name.length < 4611686018427387904)) (hf : p.fl < 18446744073709551616) (hk : k < 4611686018427387904) (w : World) (h : BsL w A k bs) : Calls Tryz.prog 34 #[bunV p A k c] w (Ret (.int .i64 (bunRight p bs k)) w) := by
 have KM := hid (fun W (hW : BsL W A k bs) => made_any p bs k c A hnl hf hk W hW)
 unfold madeV at KM
 generalize (if bunRight p bs k = 0 then bunBytes p bs k else []) = BB at *
 generalize bunRight p bs k = r at *
 have HE := hid ((Mod.refl [] w).alloc (.cells (bunC p A k c) 29))
 have HB0 : Hid (Blk (w.alloc (.cells (bunC p A k c) 29)) w.heap.size 29 (bunC p A k c)) := hid (Blk.new w 29 (bunC p A k c))
 have HL := hid (BsL.ext h HE.out)
 clear h
 go_enter Tryz.func34, Tryz.ntmps34
 go_upto_region 1 with fail
 generalize (w.alloc (.cells (bunC p A k c) 29)) = V at *
 obtain ⟨e, he⟩ := Later.self V
 rw [he]
 clear he
 go_wp2_with (first | (refine wpList_row (by rfl) 29 _ rfl _ rfl (HB0.out.later _) vqA rfl (by kernel_rfl) ?_) | (go_at_call 62; refine (Ret.later (KM.out _ (HL.out.ext (Later.h _)))).mono ?_; rintro x _ ⟨rfl, e, rfl⟩))
 go_ret
 exact Ret.mk rfl (HE.out.trans (Later.h _))
end Go.Proofs.YtmckfdmdkljomaaGreatDoor
