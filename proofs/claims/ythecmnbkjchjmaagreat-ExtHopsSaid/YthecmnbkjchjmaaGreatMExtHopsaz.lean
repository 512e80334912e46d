/-
 Why a bundle is not right, as the reference tells.
-/
import Derived.Test.YthecmnbkjchjmaaGreatMExtHopsax
namespace Go.Proofs.YthecmnbkjchjmaaGreat
open Go.RowKit
set_option linter.unusedVariables false
set_option linter.unusedSimpArgs false
set_option maxRecDepth 20000 in
theorem r13Right_p (p : PV) (bs : Nat -> BV) (k c : Nat) (A : Option Addr) (hf : p.fl < 18446744073709551616) (hk : k < 4611686018427387904) (hb : p.right ≠ 0) (w : World) (h : BsL w A k bs) : Calls Tryz.prog 7 #[bunV p A k c] w (Ret (.int .i64 p.right) w) := by
 have KP := hid (fun W => r11Right_any p hf W)
 have HE := hid ((Mod.refl [] w).alloc (.cells (bunC p A k c) 29))
 have HB0 : Hid (Blk (w.alloc (.cells (bunC p A k c) 29)) w.heap.size 29 (bunC p A k c)) := hid (Blk.new w 29 (bunC p A k c))
 generalize p.right = r at *
 have ra : ((r) == (0)) = false := by rw [beq_eq_false_iff_ne]; exact hb
 have rb : ((r) = (0)) = False := eq_false (by exact hb)
 have rc : ((r) != (0)) = true := by rw [bne_iff_ne]; exact hb
 clear hb hf hk h
 go_enter Tryz.func7, Tryz.ntmps7
 go_upto_region 1 with fail
 generalize (w.alloc (.cells (bunC p A k c) 29)) = V at *
 have HPR : Hid (∀ e : Later V, e.x.rangeAt w.heap.size 0 p.c.toList) := HB0.out.range 0 19 (by rw [Array.toList_extract]; rfl)
 have b19 : ∀ e : Later V, e.x.cell? ⟨w.heap.size, 19, none⟩ = some (.slice A k c) := HB0.out.cellL 19 rfl
 obtain ⟨e, he⟩ := Later.self V
 rw [he]
 clear he
 go_wp2_with (first | (refine wpList_mid (by rfl) 26 _ rfl _ 0 rfl _ _ (HPR.out _) vqC rfl (by kernel_rfl) ?_) | (go_at_call 18; refine (Ret.later (KP.out _)).mono ?_; rintro x _ ⟨rfl, e, rfl⟩))
 go_ret
 exact Ret.mk rfl (HE.out.trans e.h)
set_option maxRecDepth 20000 in
set_option maxHeartbeats 40000000 in
theorem r13Right_ok (p : PV) (bs : Nat -> BV) (k c : Nat) (A : Option Addr) (hf : p.fl < 18446744073709551616) (hk : k < 4611686018427387904) (hb : p.right = 0) (hd : ∀ i, i < k -> (bs i).data.length <= 100000) (w : World) (h : BsL w A k bs) : Calls Tryz.prog 7 #[bunV p A k c] w (Ret (.int .i64 (match firstOf (badAt bs) k with | some i => (bs i).right | none => if 16 < k then 4 else if bunRule1 bs k then 8 else if bunRule2 p bs k then 8 else if bunRule3 p bs k then 8 else if 4000 < (bunBytes p bs k).length then 4 else 0)) w) := by
 generalize hRES : (match firstOf (badAt bs) k with | some i => (bs i).right | none => if 16 < k then 4 else if bunRule1 bs k then 8 else if bunRule2 p bs k then 8 else if bunRule3 p bs k then 8 else if 4000 < (bunBytes p bs k).length then 4 else 0) = RES
 have HRES := hid hRES
 clear hRES
 have KP := hid (fun W => r11Right_any p hf W)
 rw [hb] at KP
 have HE := hid ((Mod.refl [] w).alloc (.cells (bunC p A k c) 29))
 have HB0 : Hid (Blk (w.alloc (.cells (bunC p A k c) 29)) w.heap.size 29 (bunC p A k c)) := hid (Blk.new w 29 (bunC p A k c))
 have HL := hid (BsL.ext h HE.out)
 have k1 : (k : Int) < 4611686018427387904 := by omega
 have HK := hid hk
 have HD := hid hd
 have HF := hid hf
 have HP := hid hb
 have hrs := PV.ranged_spec (PV.right_ranged hb)
 have fl2 : p.fl < 2097152 := by omega
 have po : p.o <= 1099511627776 := by omega
 have pn : p.n <= 1099511627776 := by omega
 clear hb hf hk hd h hrs
 go_enter Tryz.func7, Tryz.ntmps7
 go_upto_region 1 with fail
 generalize (w.alloc (.cells (bunC p A k c) 29)) = V at *
 have HPR : Hid (∀ e : Later V, e.x.rangeAt w.heap.size 0 p.c.toList) := HB0.out.range 0 19 (by rw [Array.toList_extract]; rfl)
 have b19 : ∀ e : Later V, e.x.cell? ⟨w.heap.size, 19, none⟩ = some (.slice A k c) := HB0.out.cellL 19 rfl
 have b5 : ∀ e : Later V, e.x.cell? ⟨w.heap.size, 14, none⟩ = some (.int .u64 (p.t : Int)) := HB0.out.cellL 14 rfl
 have b0 : ∀ e : Later V, e.x.cell? ⟨w.heap.size, 0, none⟩ = some (.int .u64 (p.fl : Int)) := HB0.out.cellL 0 rfl
 have b17 : ∀ e : Later V, e.x.cell? ⟨w.heap.size, 17, none⟩ = some (.int .u64 (p.o : Int)) := HB0.out.cellL 17 rfl
 have b18 : ∀ e : Later V, e.x.cell? ⟨w.heap.size, 18, none⟩ = some (.int .u64 (p.n : Int)) := HB0.out.cellL 18 rfl
 have KC : Hid (∀ (e : Later V) typ, Calls Tryz.prog 20 #[.slice A k c, .int .i64 typ] e.x (Ret (.int .i64 (cntB bs typ k : Nat)) e.x)) := fun e typ => r13count_any bs k c A typ HK.out e.x (HL.out.ext e.h)
 have KT : Hid (∀ (e : Later V), Calls Tryz.prog 21 #[.slice A k c] e.x (Ret (.bool (dupB bs k)) e.x)) := fun e => r13twice_any bs k c A HK.out e.x (HL.out.ext e.h)
 have KH : Hid (∀ W, Calls Tryz.prog 22 #[.int .u64 (p.fl : Int), .int .i64 1] W (Ret (.bool (has p.fl 1)) W)) := fun W => Has_any p.fl 1 HF.out (by omega) (by omega) W
 obtain ⟨e0, he0⟩ := Later.self V
 rw [he0]
 go_upto_region 6 with (first | (refine wpList_mid (by rfl) 26 _ rfl _ 0 rfl _ _ (HPR.out _) vqC rfl (by kernel_rfl) ?_) | (go_at_call 18; refine (Ret.later (KP.out _)).mono ?_; rintro x _ ⟨rfl, e, rfl⟩))
 go_loopw [5] (fun s5 wr => ∃ i : Nat, s5 = .int .i64 (i : Int) /\ Hid (i <= k /\ ∀ j, j < i -> badAt bs j = false) /\ ∃ e : Later V, wr = e.x) (fun s5 _ => k - (intOf s5).toNat)
 case atStart => exact ⟨0, rfl, (show Hid _ from ⟨Nat.zero_le _, fun j hj => by omega⟩), e, rfl⟩
 case round =>
  clear he0 e0 e
  obtain ⟨i, rfl, hi, e, rfl⟩ := hrel
  have i0 : (0 : Int) <= (i : Int) := by omega
  by_cases hlt : i < k
  .
   clear KC KT KH b5 b0 b17 b18 HF fl2 po pn
   obtain ⟨b, o, rfl, hb, q0, q1, q2, q3, q4⟩ := HL.out.cells hlt
   have tc : decide (i < k) = true := by simp [hlt]
   have i1 : (i : Int) < (k : Int) := by omega
   have HLT := hid hlt
   have KX := hid (fun W => rbRight_any (bs i) W)
   clear hlt
   by_cases ht : badAt bs i = true
   .
    have HR : Hid (RES = (bs i).right) := by unfold Hid; rw [<- HRES.out, firstOf_some HLT.out ht hi.out.2]
    have hx : (bs i).right ≠ 0 := by simpa [badAt] using ht
    clear ht
    generalize (bs i).right = r at *
    have ra : ((r) == (0)) = false := by rw [beq_eq_false_iff_ne]; exact hx
    have rb : ((r) = (0)) = False := eq_false (by exact hx)
    have rc : ((r) != (0)) = true := by rw [bne_iff_ne]; exact hx
    clear hx
    go_wp2_with (first | (go_at_call 19; refine (Ret.later (KX.out _)).mono ?_; rintro x _ ⟨rfl, e, rfl⟩))
    go_ret
    exact Ret.mk (by rw [HR.out]; rfl) (HE.out.trans e.h)
   .
    have HN : Hid (badAt bs i = false) := by unfold Hid; simpa using ht
    rw [bad_no HN.out] at KX
    clear ht
    go_wp2_with (first | (go_at_call 19; refine (Ret.later (KX.out _)).mono ?_; rintro x _ ⟨rfl, e, rfl⟩))
    go_roundw
    case rel => exact ⟨i + 1, by go_num, (show Hid _ from ⟨HLT.out, fun j hj => by
     by_cases hji : j = i
     . subst hji; exact HN.out
     . exact hi.out.2 j (by omega)⟩), e, rfl⟩
    case measure => have := HLT.out; simp [intOf]; omega
  .
   obtain rfl : i = k := by have := hi.out.1; omega
   have tc : decide (i < i) = false := by simp
   have HR1 : Hid (RES = if 16 < i then 4 else if bunRule1 bs i then 8 else if bunRule2 p bs i then 8 else if bunRule3 p bs i then 8 else if 4000 < (bunBytes p bs i).length then 4 else 0) := by unfold Hid; rw [<- HRES.out, firstOf_none hi.out.2]
   have HB' : Hid (∀ j, j < i -> (bs j).right = 0) := fun j hj => bad_no (hi.out.2 j hj)
   clear HRES hi hlt KP
   have K1 := hid (fun e => KC.out e 1)
   have K6 := hid (fun e => KC.out e 6)
   have K7 := hid (fun e => KC.out e 7)
   have K10 := hid (fun e => KC.out e 10)
   clear KC
   have HR0 : Hid (bunRule1 bs i = (decide (i = 0) || decide (cntB bs 1 i ≠ 1) || dupB bs i || decide (1 < cntB bs 6 i) || decide (1 < cntB bs 7 i) || decide (1 < cntB bs 10 i))) := rfl
   have HR00 : Hid (bunRule2 p bs i = (decide ((bs (i - 1)).ty ≠ 1) || (decide (p.t = 0) && decide (cntB bs 7 i = 0)))) := rfl
   generalize cntB bs 1 i = n1 at *
   generalize cntB bs 6 i = n6 at *
   generalize cntB bs 7 i = n7 at *
   generalize cntB bs 10 i = n10 at *
   by_cases h16 : 16 < i
   .
    have HR : Hid (RES = 4) := by unfold Hid; rw [HR1.out, if_pos h16]
    have xa : decide ((16 : Int) < (i : Int)) = true := decide_eq_true (by omega)
    have xb : ((16 : Int) < (i : Int)) = True := eq_true (by omega)
    have xc : decide (16 < i) = true := decide_eq_true h16
    clear h16
    go_wp2_with fail
    go_ret
    exact Ret.mk (by rw [HR.out]; rfl) (HE.out.trans e.h)
   .
    have HR2 : Hid (RES = if bunRule1 bs i then 8 else if bunRule2 p bs i then 8 else if bunRule3 p bs i then 8 else if 4000 < (bunBytes p bs i).length then 4 else 0) := by unfold Hid; rw [HR1.out, if_neg h16]
    have H16 := hid h16
    clear HR1
    have xa : decide ((16 : Int) < (i : Int)) = false := decide_eq_false (by omega)
    have xb : ((16 : Int) < (i : Int)) = False := eq_false (by omega)
    have xc : decide (16 < i) = false := decide_eq_false h16
    clear h16
    cases hR1 : bunRule1 bs i with
    | true =>
     have HR : Hid (RES = 8) := by unfold Hid; rw [HR2.out, hR1]; rfl
     clear HR2
     rw [HR0.out] at hR1
     by_cases z0 : i = 0
     .
      subst z0
      have za : ((0 : Int) == 0) = true := rfl
      clear hR1
      go_wp2_with (first | (go_at_call 20; first | ((with_reducible refine (Ret.later (K1.out _)).mono ?_); rintro x _ ⟨rfl, e, rfl⟩) | ((with_reducible refine (Ret.later (K6.out _)).mono ?_); rintro x _ ⟨rfl, e, rfl⟩) | ((with_reducible refine (Ret.later (K7.out _)).mono ?_); rintro x _ ⟨rfl, e, rfl⟩) | ((with_reducible refine (Ret.later (K10.out _)).mono ?_); rintro x _ ⟨rfl, e, rfl⟩)) | (go_at_call 21; refine (Ret.later (KT.out _)).mono ?_; rintro x _ ⟨rfl, e, rfl⟩))
      go_ret
      exact Ret.mk (by rw [HR.out]; rfl) (HE.out.trans e.h)
     have n0 : ((i : Int) == 0) = false := by rw [beq_eq_false_iff_ne]; omega
     have n0a : ((i : Int) = 0) = False := eq_false (by omega)
     have n0b : (i == 0) = false := by rw [beq_eq_false_iff_ne]; omega
     have n0c : (i = 0) = False := eq_false (by omega)
     by_cases z1 : n1 ≠ 1
     .
      clear hR1
      have c1a : (((n1 : Int)) == (1)) = false := by rw [beq_eq_false_iff_ne]; omega
      have c1b : (((n1 : Int)) = (1)) = False := eq_false (by omega)
      have c1c : (((n1 : Int)) != (1)) = true := by rw [bne_iff_ne]; omega
      have c1na : ((n1) == (1)) = false := by rw [beq_eq_false_iff_ne]; omega
      have c1nb : ((n1) = (1)) = False := eq_false (by omega)
      have c1nc : ((n1) != (1)) = true := by rw [bne_iff_ne]; omega
      go_wp2_with (first | (go_at_call 20; first | ((with_reducible refine (Ret.later (K1.out _)).mono ?_); rintro x _ ⟨rfl, e, rfl⟩) | ((with_reducible refine (Ret.later (K6.out _)).mono ?_); rintro x _ ⟨rfl, e, rfl⟩) | ((with_reducible refine (Ret.later (K7.out _)).mono ?_); rintro x _ ⟨rfl, e, rfl⟩) | ((with_reducible refine (Ret.later (K10.out _)).mono ?_); rintro x _ ⟨rfl, e, rfl⟩)) | (go_at_call 21; refine (Ret.later (KT.out _)).mono ?_; rintro x _ ⟨rfl, e, rfl⟩))
      go_ret
      exact Ret.mk (by rw [HR.out]; rfl) (HE.out.trans e.h)
     obtain rfl : n1 = 1 := by omega
     cases zt : dupB bs i with
     | true =>
      rw [zt] at KT
      clear hR1
      go_wp2_with (first | (go_at_call 20; first | ((with_reducible refine (Ret.later (K1.out _)).mono ?_); rintro x _ ⟨rfl, e, rfl⟩) | ((with_reducible refine (Ret.later (K6.out _)).mono ?_); rintro x _ ⟨rfl, e, rfl⟩) | ((with_reducible refine (Ret.later (K7.out _)).mono ?_); rintro x _ ⟨rfl, e, rfl⟩) | ((with_reducible refine (Ret.later (K10.out _)).mono ?_); rintro x _ ⟨rfl, e, rfl⟩)) | (go_at_call 21; refine (Ret.later (KT.out _)).mono ?_; rintro x _ ⟨rfl, e, rfl⟩))
      go_ret
      exact Ret.mk (by rw [HR.out]; rfl) (HE.out.trans e.h)
     | false =>
     rw [zt] at KT
     by_cases z6 : 1 < n6
     .
      clear hR1
      have c6a : decide ((1 : Int) < (n6 : Int)) = true := decide_eq_true (by omega)
      have c6b : ((1 : Int) < (n6 : Int)) = True := eq_true (by omega)
      have c6na : decide (1 < n6) = true := decide_eq_true (by omega)
      have c6nb : (1 < n6) = True := eq_true (by omega)
      go_wp2_with (first | (go_at_call 20; first | ((with_reducible refine (Ret.later (K1.out _)).mono ?_); rintro x _ ⟨rfl, e, rfl⟩) | ((with_reducible refine (Ret.later (K6.out _)).mono ?_); rintro x _ ⟨rfl, e, rfl⟩) | ((with_reducible refine (Ret.later (K7.out _)).mono ?_); rintro x _ ⟨rfl, e, rfl⟩) | ((with_reducible refine (Ret.later (K10.out _)).mono ?_); rintro x _ ⟨rfl, e, rfl⟩)) | (go_at_call 21; refine (Ret.later (KT.out _)).mono ?_; rintro x _ ⟨rfl, e, rfl⟩))
      go_ret
      exact Ret.mk (by rw [HR.out]; rfl) (HE.out.trans e.h)
     have c6a : decide ((1 : Int) < (n6 : Int)) = false := decide_eq_false (by omega)
     have c6b : ((1 : Int) < (n6 : Int)) = False := eq_false (by omega)
     have c6na : decide (1 < n6) = false := decide_eq_false (by omega)
     have c6nb : (1 < n6) = False := eq_false (by omega)
     by_cases z7 : 1 < n7
     .
      clear hR1
      have c7a : decide ((1 : Int) < (n7 : Int)) = true := decide_eq_true (by omega)
      have c7b : ((1 : Int) < (n7 : Int)) = True := eq_true (by omega)
      have c7na : decide (1 < n7) = true := decide_eq_true (by omega)
      have c7nb : (1 < n7) = True := eq_true (by omega)
      go_wp2_with (first | (go_at_call 20; first | ((with_reducible refine (Ret.later (K1.out _)).mono ?_); rintro x _ ⟨rfl, e, rfl⟩) | ((with_reducible refine (Ret.later (K6.out _)).mono ?_); rintro x _ ⟨rfl, e, rfl⟩) | ((with_reducible refine (Ret.later (K7.out _)).mono ?_); rintro x _ ⟨rfl, e, rfl⟩) | ((with_reducible refine (Ret.later (K10.out _)).mono ?_); rintro x _ ⟨rfl, e, rfl⟩)) | (go_at_call 21; refine (Ret.later (KT.out _)).mono ?_; rintro x _ ⟨rfl, e, rfl⟩))
      go_ret
      exact Ret.mk (by rw [HR.out]; rfl) (HE.out.trans e.h)
     have c7a : decide ((1 : Int) < (n7 : Int)) = false := decide_eq_false (by omega)
     have c7b : ((1 : Int) < (n7 : Int)) = False := eq_false (by omega)
     have c7na : decide (1 < n7) = false := decide_eq_false (by omega)
     have c7nb : (1 < n7) = False := eq_false (by omega)
     have z10 : 1 < n10 := by simpa [n0c, zt, z1, z6, z7] using hR1
     have c10a : decide ((1 : Int) < (n10 : Int)) = true := decide_eq_true (by omega)
     have c10b : ((1 : Int) < (n10 : Int)) = True := eq_true (by omega)
     have c10na : decide (1 < n10) = true := decide_eq_true (by omega)
     have c10nb : (1 < n10) = True := eq_true (by omega)
     clear hR1
     go_wp2_with (first | (go_at_call 20; first | ((with_reducible refine (Ret.later (K1.out _)).mono ?_); rintro x _ ⟨rfl, e, rfl⟩) | ((with_reducible refine (Ret.later (K6.out _)).mono ?_); rintro x _ ⟨rfl, e, rfl⟩) | ((with_reducible refine (Ret.later (K7.out _)).mono ?_); rintro x _ ⟨rfl, e, rfl⟩) | ((with_reducible refine (Ret.later (K10.out _)).mono ?_); rintro x _ ⟨rfl, e, rfl⟩)) | (go_at_call 21; refine (Ret.later (KT.out _)).mono ?_; rintro x _ ⟨rfl, e, rfl⟩))
     go_ret
     exact Ret.mk (by rw [HR.out]; rfl) (HE.out.trans e.h)
    | false =>
     have HR3 : Hid (RES = if bunRule2 p bs i then 8 else if bunRule3 p bs i then 8 else if 4000 < (bunBytes p bs i).length then 4 else 0) := by unfold Hid; rw [HR2.out, hR1]; rfl
     clear HR2
     rw [HR0.out] at hR1
     simp only [Bool.or_eq_false_iff, decide_eq_false_iff_not] at hR1
     obtain ⟨⟨⟨⟨⟨z0, z1⟩, zt⟩, z6⟩, z7⟩, z10⟩ := hR1
     have H16' := H16.out
     have n0 : ((i : Int) == 0) = false := by rw [beq_eq_false_iff_ne]; omega
     have n0a : ((i : Int) = 0) = False := eq_false (by omega)
     have n0b : (i == 0) = false := by rw [beq_eq_false_iff_ne]; omega
     have n0c : (i = 0) = False := eq_false (by omega)
     rw [zt] at KT
     obtain rfl : n1 = 1 := by omega
     have c6a : decide ((1 : Int) < (n6 : Int)) = false := decide_eq_false (by omega)
     have c6b : ((1 : Int) < (n6 : Int)) = False := eq_false (by omega)
     have c6na : decide (1 < n6) = false := decide_eq_false (by omega)
     have c6nb : (1 < n6) = False := eq_false (by omega)
     have c7a : decide ((1 : Int) < (n7 : Int)) = false := decide_eq_false (by omega)
     have c7b : ((1 : Int) < (n7 : Int)) = False := eq_false (by omega)
     have c7na : decide (1 < n7) = false := decide_eq_false (by omega)
     have c7nb : (1 < n7) = False := eq_false (by omega)
     have c10a : decide ((1 : Int) < (n10 : Int)) = false := decide_eq_false (by omega)
     have c10b : ((1 : Int) < (n10 : Int)) = False := eq_false (by omega)
     have c10na : decide (1 < n10) = false := decide_eq_false (by omega)
     have c10nb : (1 < n10) = False := eq_false (by omega)
     have i2 := hid ((show (1 : Int) <= (i : Int) by omega))
     have i3 := hid (show (i : Int) <= 16 by omega)
     have HI0 : Hid (i ≠ 0) := hid z0
     clear z0 z1 zt z6 z7 z10 H16'
     go_upto_region 15 with (first | (go_at_call 20; first | ((with_reducible refine (Ret.later (K1.out _)).mono ?_); rintro x _ ⟨rfl, e, rfl⟩) | ((with_reducible refine (Ret.later (K6.out _)).mono ?_); rintro x _ ⟨rfl, e, rfl⟩) | ((with_reducible refine (Ret.later (K7.out _)).mono ?_); rintro x _ ⟨rfl, e, rfl⟩) | ((with_reducible refine (Ret.later (K10.out _)).mono ?_); rintro x _ ⟨rfl, e, rfl⟩)) | (go_at_call 21; refine (Ret.later (KT.out _)).mono ?_; rintro x _ ⟨rfl, e, rfl⟩))
     clear n0 n0a n0b n0c c6a c6b c6na c6nb c10a c10b c10na c10nb c7a c7b c7na c7nb tc xa xb xc
     obtain ⟨m, rfl⟩ : ∃ m : Nat, i = m + 1 := ⟨i - 1, by have := HI0.out; omega⟩
     clear HI0
     obtain ⟨b, o, rfl, hb, q0, q1, q2, q3, q4⟩ := HL.out.cells (Nat.lt_succ_self m)
     have m0 : (0 : Int) <= (m : Int) := by omega
     have m1 : (m : Int) <= 15 := by have := i3.out; omega
     clear i2 i3
     go_upto_region 16 with fail
     generalize hU : World.alloc e.x _ = U
     have HX : Hid (Blk U e.x.heap.size 38 (BV.c (bs m))) := hid (by rw [<- hU]; exact Blk.new _ _ _)
     have HM : Hid (Ext V U) := hid (by rw [<- hU]; exact e.h.alloc _)
     clear hU q0 q1 q2 q3 q4 hb m0 m1 i0 k1 K1 K6 K10 KT
     have L7 : Hid (∀ e : Later U, Calls Tryz.prog 20 #[.slice (some ⟨b, o, none⟩) (m + 1) c, .int .i64 7] e.x (Ret (.int .i64 (n7 : Int)) e.x)) := fun e => K7.out ⟨e.x, HM.out.trans e.h⟩
     clear K7
     have x0 : ∀ e : Later U, e.x.cell? ⟨w.heap.size, 0, none⟩ = some (.int .u64 (p.fl : Int)) := fun e => b0 ⟨e.x, HM.out.trans e.h⟩
     have x5 : ∀ e : Later U, e.x.cell? ⟨w.heap.size, 14, none⟩ = some (.int .u64 (p.t : Int)) := fun e => b5 ⟨e.x, HM.out.trans e.h⟩
     have x17 : ∀ e : Later U, e.x.cell? ⟨w.heap.size, 17, none⟩ = some (.int .u64 (p.o : Int)) := fun e => b17 ⟨e.x, HM.out.trans e.h⟩
     have x18 : ∀ e : Later U, e.x.cell? ⟨w.heap.size, 18, none⟩ = some (.int .u64 (p.n : Int)) := fun e => b18 ⟨e.x, HM.out.trans e.h⟩
     have x19 : ∀ e : Later U, e.x.cell? ⟨w.heap.size, 19, none⟩ = some (.slice (some ⟨b, o, none⟩) (m + 1) c) := fun e => b19 ⟨e.x, HM.out.trans e.h⟩
     have HB1 := hid (HB0.out.ext HM.out)
     have KB : Hid (∀ e : Later U, Calls Tryz.prog 9 #[bunV p (some ⟨b, o, none⟩) (m + 1) c] e.x (Ret (str (bunBytes p bs (m + 1))) e.x)) := fun e => r13Bytes_any p bs (m + 1) c (some ⟨b, o, none⟩) (by have := H16.out; omega) HP.out HB'.out e.x (HL.out.ext (HM.out.trans e.h))
     clear b0 b5 b17 b18 b19 HPR HB0 HP HF H16 HR0 HK
     have HE1 := hid (HE.out.trans HM.out)
     have HR2' : Hid (bunRule2 p bs (m + 1) = (decide ((bs m).ty ≠ 1) || (decide (p.t = 0) && decide (n7 = 0)))) := HR00.out
     have HR3' : Hid (bunRule3 p bs (m + 1) = (has p.fl 1 && decide (p.n < p.o + (bs m).data.length))) := rfl
     clear HR00 HE
     have ld : ((bs m).data.length : Int) <= 100000 := by have := HD.out m (by omega); omega
     have po2 : (p.o : Int) <= 1099511627776 := by omega
     clear HD HB' po pn fl2 HL
     generalize bunRule2 p bs (m + 1) = R2 at *
     generalize bunRule3 p bs (m + 1) = R3 at *
     generalize bunBytes p bs (m + 1) = BB at *
     have y0 : ∀ e : Later U, e.x.cell? ⟨e.x.heap.size, 0, none⟩ = e.x.cell? ⟨e.x.heap.size, 0, none⟩ := fun _ => rfl
     clear y0
     generalize hpay : e.x.heap.size = pay at *
     clear hpay
     have z0 : ∀ e : Later U, e.x.cell? ⟨pay, 0, none⟩ = some (.int .i64 (bs m).ty) := HX.out.cellL 0 rfl
     have z4 : ∀ e : Later U, e.x.cell? ⟨pay, 4, none⟩ = some (str (bs m).data) := HX.out.cellL 4 rfl
     clear HX HM
     generalize (bs m).ty = ty at *
     generalize (bs m).data = dat at *
     generalize p.o = po at *
     generalize p.n = pn at *
     generalize p.t = pt at *
     clear e
     obtain ⟨e, he⟩ := Later.self U
     rw [he]
     clear he
     by_cases zt : ty = 1
     .
      have HT1 := hid zt
      have ta : ((ty) == (1)) = true := by rw [beq_iff_eq]; exact zt
      have tb : ((ty) = (1)) = True := eq_true (by exact zt)
      have tc : ((ty) != (1)) = false := by rw [bne_eq_false_iff_eq]; exact zt
      clear zt
      by_cases zp : pt = 0
      .
       have HP0 := hid zp
       have ua : (((pt : Int)) == (0)) = true := by rw [beq_iff_eq]; omega
       have ub : (((pt : Int)) = (0)) = True := eq_true (by omega)
       have uc : (((pt : Int)) != (0)) = false := by rw [bne_eq_false_iff_eq]; omega
       have una : ((pt) == (0)) = true := by rw [beq_iff_eq]; omega
       have unb : ((pt) = (0)) = True := eq_true (by omega)
       have unc : ((pt) != (0)) = false := by rw [bne_eq_false_iff_eq]; omega
       clear zp
       by_cases z7 : n7 = 0
       .
        have HR : Hid (RES = 8) := by unfold Hid; rw [HR3.out, HR2'.out]; simp [HT1.out, HP0.out, z7]
        have sa : (((n7 : Int)) == (0)) = true := by rw [beq_iff_eq]; omega
        have sb : (((n7 : Int)) = (0)) = True := eq_true (by omega)
        have sc : (((n7 : Int)) != (0)) = false := by rw [bne_eq_false_iff_eq]; omega
        have sna : ((n7) == (0)) = true := by rw [beq_iff_eq]; omega
        have snb : ((n7) = (0)) = True := eq_true (by omega)
        have snc : ((n7) != (0)) = false := by rw [bne_eq_false_iff_eq]; omega
        clear z7
        go_wp2_with (first | (go_at_call 20; refine (Ret.later (L7.out _)).mono ?_; rintro x _ ⟨rfl, e, rfl⟩) | (go_at_call 22; refine (Ret.later (KH.out _)).mono ?_; rintro x _ ⟨rfl, e, rfl⟩))
        go_ret
        exact Ret.mk (by rw [HR.out]; rfl) (HE1.out.trans e.h)
       .
        have HF2 : Hid (R2 = false) := by unfold Hid; rw [HR2'.out]; simp [HT1.out, z7]
        have sa : (((n7 : Int)) == (0)) = false := by rw [beq_eq_false_iff_ne]; omega
        have sb : (((n7 : Int)) = (0)) = False := eq_false (by omega)
        have sc : (((n7 : Int)) != (0)) = true := by rw [bne_iff_ne]; omega
        have sna : ((n7) == (0)) = false := by rw [beq_eq_false_iff_ne]; omega
        have snb : ((n7) = (0)) = False := eq_false (by omega)
        have snc : ((n7) != (0)) = true := by rw [bne_iff_ne]; omega
        clear z7
        go_upto_region 18 with (first | (go_at_call 20; refine (Ret.later (L7.out _)).mono ?_; rintro x _ ⟨rfl, e, rfl⟩) | (go_at_call 22; refine (Ret.later (KH.out _)).mono ?_; rintro x _ ⟨rfl, e, rfl⟩))
        clear sa sb sc sna snb snc ta tb tc ua ub uc una unb unc
        have HR4 : Hid (RES = if R3 = true then 8 else if 4000 < BB.length then 4 else 0) := by unfold Hid; rw [HR3.out, HF2.out]; rfl
        cases hh : has p.fl 1 with
        | false =>
         rw [hh] at KH
         have HR5 : Hid (RES = if 4000 < BB.length then 4 else 0) := by unfold Hid; rw [HR4.out, HR3'.out, hh]; rfl
         clear hh
         go_upto_region 20 with (first | (go_at_call 20; refine (Ret.later (L7.out _)).mono ?_; rintro x _ ⟨rfl, e, rfl⟩) | (go_at_call 22; refine (Ret.later (KH.out _)).mono ?_; rintro x _ ⟨rfl, e, rfl⟩))
         by_cases hl : 4000 < BB.length
         .
          have HR : Hid (RES = 4) := by unfold Hid; rw [HR5.out, if_pos hl]
          have la : decide ((4000 : Int) < (BB.length : Int)) = true := decide_eq_true (by omega)
          have lb : ((4000 : Int) < (BB.length : Int)) = True := eq_true (by omega)
          have lc : decide (4000 < BB.length) = true := decide_eq_true hl
          clear hl
          go_wp2_with (first | (refine wpList_row (by rfl) 29 _ rfl _ rfl (HB1.out.later _) vqA rfl (by kernel_rfl) ?_) | (go_at_call 9; refine (Ret.later (KB.out _)).mono ?_; rintro x _ ⟨rfl, e, rfl⟩))
          go_ret
          exact Ret.mk (by rw [HR.out]; rfl) (HE1.out.trans e.h)
         .
          have HR : Hid (RES = 0) := by unfold Hid; rw [HR5.out, if_neg hl]
          have la : decide ((4000 : Int) < (BB.length : Int)) = false := decide_eq_false (by omega)
          have lb : ((4000 : Int) < (BB.length : Int)) = False := eq_false (by omega)
          have lc : decide (4000 < BB.length) = false := decide_eq_false hl
          clear hl
          go_wp2_with (first | (refine wpList_row (by rfl) 29 _ rfl _ rfl (HB1.out.later _) vqA rfl (by kernel_rfl) ?_) | (go_at_call 9; refine (Ret.later (KB.out _)).mono ?_; rintro x _ ⟨rfl, e, rfl⟩))
          go_ret
          exact Ret.mk (by rw [HR.out]; rfl) (HE1.out.trans e.h)
        | true =>
         rw [hh] at KH
         by_cases hv : pn < po + dat.length
         .
          have HR : Hid (RES = 8) := by unfold Hid; rw [HR4.out, HR3'.out, hh, decide_eq_true hv]; rfl
          clear hh
          have va : decide ((pn : Int) < (po : Int) + (dat.length : Int)) = true := decide_eq_true (by omega)
          have vb : ((pn : Int) < (po : Int) + (dat.length : Int)) = True := eq_true (by omega)
          have vc : decide (pn < po + dat.length) = true := decide_eq_true hv
          clear hv
          go_wp2_with (first | (go_at_call 20; refine (Ret.later (L7.out _)).mono ?_; rintro x _ ⟨rfl, e, rfl⟩) | (go_at_call 22; refine (Ret.later (KH.out _)).mono ?_; rintro x _ ⟨rfl, e, rfl⟩))
          go_ret
          exact Ret.mk (by rw [HR.out]; rfl) (HE1.out.trans e.h)
         .
          have HR5 : Hid (RES = if 4000 < BB.length then 4 else 0) := by unfold Hid; rw [HR4.out, HR3'.out, hh, decide_eq_false hv]; rfl
          clear hh
          have va : decide ((pn : Int) < (po : Int) + (dat.length : Int)) = false := decide_eq_false (by omega)
          have vb : ((pn : Int) < (po : Int) + (dat.length : Int)) = False := eq_false (by omega)
          have vc : decide (pn < po + dat.length) = false := decide_eq_false hv
          clear hv
          go_upto_region 20 with (first | (go_at_call 20; refine (Ret.later (L7.out _)).mono ?_; rintro x _ ⟨rfl, e, rfl⟩) | (go_at_call 22; refine (Ret.later (KH.out _)).mono ?_; rintro x _ ⟨rfl, e, rfl⟩))
          by_cases hl : 4000 < BB.length
          .
           have HR : Hid (RES = 4) := by unfold Hid; rw [HR5.out, if_pos hl]
           have la : decide ((4000 : Int) < (BB.length : Int)) = true := decide_eq_true (by omega)
           have lb : ((4000 : Int) < (BB.length : Int)) = True := eq_true (by omega)
           have lc : decide (4000 < BB.length) = true := decide_eq_true hl
           clear hl
           go_wp2_with (first | (refine wpList_row (by rfl) 29 _ rfl _ rfl (HB1.out.later _) vqA rfl (by kernel_rfl) ?_) | (go_at_call 9; refine (Ret.later (KB.out _)).mono ?_; rintro x _ ⟨rfl, e, rfl⟩))
           go_ret
           exact Ret.mk (by rw [HR.out]; rfl) (HE1.out.trans e.h)
          .
           have HR : Hid (RES = 0) := by unfold Hid; rw [HR5.out, if_neg hl]
           have la : decide ((4000 : Int) < (BB.length : Int)) = false := decide_eq_false (by omega)
           have lb : ((4000 : Int) < (BB.length : Int)) = False := eq_false (by omega)
           have lc : decide (4000 < BB.length) = false := decide_eq_false hl
           clear hl
           go_wp2_with (first | (refine wpList_row (by rfl) 29 _ rfl _ rfl (HB1.out.later _) vqA rfl (by kernel_rfl) ?_) | (go_at_call 9; refine (Ret.later (KB.out _)).mono ?_; rintro x _ ⟨rfl, e, rfl⟩))
           go_ret
           exact Ret.mk (by rw [HR.out]; rfl) (HE1.out.trans e.h)
      .
       have HF2 : Hid (R2 = false) := by unfold Hid; rw [HR2'.out]; simp [HT1.out, zp]
       have sa : (((pt : Int)) == (0)) = false := by rw [beq_eq_false_iff_ne]; omega
       have sb : (((pt : Int)) = (0)) = False := eq_false (by omega)
       have sc : (((pt : Int)) != (0)) = true := by rw [bne_iff_ne]; omega
       have sna : ((pt) == (0)) = false := by rw [beq_eq_false_iff_ne]; omega
       have snb : ((pt) = (0)) = False := eq_false (by omega)
       have snc : ((pt) != (0)) = true := by rw [bne_iff_ne]; omega
       clear zp
       go_upto_region 18 with (first | (go_at_call 20; refine (Ret.later (L7.out _)).mono ?_; rintro x _ ⟨rfl, e, rfl⟩) | (go_at_call 22; refine (Ret.later (KH.out _)).mono ?_; rintro x _ ⟨rfl, e, rfl⟩))
       clear sa sb sc sna snb snc ta tb tc
       have HR4 : Hid (RES = if R3 = true then 8 else if 4000 < BB.length then 4 else 0) := by unfold Hid; rw [HR3.out, HF2.out]; rfl
       cases hh : has p.fl 1 with
       | false =>
        rw [hh] at KH
        have HR5 : Hid (RES = if 4000 < BB.length then 4 else 0) := by unfold Hid; rw [HR4.out, HR3'.out, hh]; rfl
        clear hh
        go_upto_region 20 with (first | (go_at_call 20; refine (Ret.later (L7.out _)).mono ?_; rintro x _ ⟨rfl, e, rfl⟩) | (go_at_call 22; refine (Ret.later (KH.out _)).mono ?_; rintro x _ ⟨rfl, e, rfl⟩))
        by_cases hl : 4000 < BB.length
        .
         have HR : Hid (RES = 4) := by unfold Hid; rw [HR5.out, if_pos hl]
         have la : decide ((4000 : Int) < (BB.length : Int)) = true := decide_eq_true (by omega)
         have lb : ((4000 : Int) < (BB.length : Int)) = True := eq_true (by omega)
         have lc : decide (4000 < BB.length) = true := decide_eq_true hl
         clear hl
         go_wp2_with (first | (refine wpList_row (by rfl) 29 _ rfl _ rfl (HB1.out.later _) vqA rfl (by kernel_rfl) ?_) | (go_at_call 9; refine (Ret.later (KB.out _)).mono ?_; rintro x _ ⟨rfl, e, rfl⟩))
         go_ret
         exact Ret.mk (by rw [HR.out]; rfl) (HE1.out.trans e.h)
        .
         have HR : Hid (RES = 0) := by unfold Hid; rw [HR5.out, if_neg hl]
         have la : decide ((4000 : Int) < (BB.length : Int)) = false := decide_eq_false (by omega)
         have lb : ((4000 : Int) < (BB.length : Int)) = False := eq_false (by omega)
         have lc : decide (4000 < BB.length) = false := decide_eq_false hl
         clear hl
         go_wp2_with (first | (refine wpList_row (by rfl) 29 _ rfl _ rfl (HB1.out.later _) vqA rfl (by kernel_rfl) ?_) | (go_at_call 9; refine (Ret.later (KB.out _)).mono ?_; rintro x _ ⟨rfl, e, rfl⟩))
         go_ret
         exact Ret.mk (by rw [HR.out]; rfl) (HE1.out.trans e.h)
       | true =>
        rw [hh] at KH
        by_cases hv : pn < po + dat.length
        .
         have HR : Hid (RES = 8) := by unfold Hid; rw [HR4.out, HR3'.out, hh, decide_eq_true hv]; rfl
         clear hh
         have va : decide ((pn : Int) < (po : Int) + (dat.length : Int)) = true := decide_eq_true (by omega)
         have vb : ((pn : Int) < (po : Int) + (dat.length : Int)) = True := eq_true (by omega)
         have vc : decide (pn < po + dat.length) = true := decide_eq_true hv
         clear hv
         go_wp2_with (first | (go_at_call 20; refine (Ret.later (L7.out _)).mono ?_; rintro x _ ⟨rfl, e, rfl⟩) | (go_at_call 22; refine (Ret.later (KH.out _)).mono ?_; rintro x _ ⟨rfl, e, rfl⟩))
         go_ret
         exact Ret.mk (by rw [HR.out]; rfl) (HE1.out.trans e.h)
        .
         have HR5 : Hid (RES = if 4000 < BB.length then 4 else 0) := by unfold Hid; rw [HR4.out, HR3'.out, hh, decide_eq_false hv]; rfl
         clear hh
         have va : decide ((pn : Int) < (po : Int) + (dat.length : Int)) = false := decide_eq_false (by omega)
         have vb : ((pn : Int) < (po : Int) + (dat.length : Int)) = False := eq_false (by omega)
         have vc : decide (pn < po + dat.length) = false := decide_eq_false hv
         clear hv
         go_upto_region 20 with (first | (go_at_call 20; refine (Ret.later (L7.out _)).mono ?_; rintro x _ ⟨rfl, e, rfl⟩) | (go_at_call 22; refine (Ret.later (KH.out _)).mono ?_; rintro x _ ⟨rfl, e, rfl⟩))
         by_cases hl : 4000 < BB.length
         .
          have HR : Hid (RES = 4) := by unfold Hid; rw [HR5.out, if_pos hl]
          have la : decide ((4000 : Int) < (BB.length : Int)) = true := decide_eq_true (by omega)
          have lb : ((4000 : Int) < (BB.length : Int)) = True := eq_true (by omega)
          have lc : decide (4000 < BB.length) = true := decide_eq_true hl
          clear hl
          go_wp2_with (first | (refine wpList_row (by rfl) 29 _ rfl _ rfl (HB1.out.later _) vqA rfl (by kernel_rfl) ?_) | (go_at_call 9; refine (Ret.later (KB.out _)).mono ?_; rintro x _ ⟨rfl, e, rfl⟩))
          go_ret
          exact Ret.mk (by rw [HR.out]; rfl) (HE1.out.trans e.h)
         .
          have HR : Hid (RES = 0) := by unfold Hid; rw [HR5.out, if_neg hl]
          have la : decide ((4000 : Int) < (BB.length : Int)) = false := decide_eq_false (by omega)
          have lb : ((4000 : Int) < (BB.length : Int)) = False := eq_false (by omega)
          have lc : decide (4000 < BB.length) = false := decide_eq_false hl
          clear hl
          go_wp2_with (first | (refine wpList_row (by rfl) 29 _ rfl _ rfl (HB1.out.later _) vqA rfl (by kernel_rfl) ?_) | (go_at_call 9; refine (Ret.later (KB.out _)).mono ?_; rintro x _ ⟨rfl, e, rfl⟩))
          go_ret
          exact Ret.mk (by rw [HR.out]; rfl) (HE1.out.trans e.h)
     .
      have HR : Hid (RES = 8) := by unfold Hid; rw [HR3.out, HR2'.out]; simp [zt]
      have sa : ((ty) == (1)) = false := by rw [beq_eq_false_iff_ne]; exact zt
      have sb : ((ty) = (1)) = False := eq_false (by exact zt)
      have sc : ((ty) != (1)) = true := by rw [bne_iff_ne]; exact zt
      clear zt
      go_wp2_with (first | (go_at_call 20; refine (Ret.later (L7.out _)).mono ?_; rintro x _ ⟨rfl, e, rfl⟩) | (go_at_call 22; refine (Ret.later (KH.out _)).mono ?_; rintro x _ ⟨rfl, e, rfl⟩))
      go_ret
      exact Ret.mk (by rw [HR.out]; rfl) (HE1.out.trans e.h)
theorem r13Right_any (p : PV) (bs : Nat -> BV) (k c : Nat) (A : Option Addr) (hf : p.fl < 18446744073709551616) (hk : k < 4611686018427387904) (hd : ∀ i, i < k -> (bs i).data.length <= 100000) (w : World) (h : BsL w A k bs) : Calls Tryz.prog 7 #[bunV p A k c] w (Ret (.int .i64 (bunRight p bs k)) w) := by
 unfold bunRight
 by_cases hb : p.right = 0
 . rw [if_neg (by simpa using hb)]; exact r13Right_ok p bs k c A hf hk hb hd w h
 . rw [if_pos hb]; exact r13Right_p p bs k c A hf hk hb w h
def EdRel (W : World) (may : Bool) (none : Int) (p : PV) (B : Nat -> BV) (n : Nat) (zc : Array Value) (r : Int) : Prop :=
 (may = false /\ zc = zeroBun /\ r = none) \/ (may = true /\ bunRight p B n ≠ 0 /\ r = bunRight p B n /\ zc = zeroBun) \/ (may = true /\ bunRight p B n = 0 /\ r = 0 /\ ∃ A c, zc = bunC p A n c /\ BsL W A n B)
theorem EdRel.ext {W W' : World} {may : Bool} {none : Int} {p : PV} {B : Nat -> BV} {n : Nat} {zc : Array Value} {r : Int} (h : EdRel W may none p B n zc r) (hm : Ext W W') : EdRel W' may none p B n zc r := by
 rcases h with h | h | ⟨h1, h2, h3, A, c, h4, h5⟩
 . exact .inl h
 . exact .inr (.inl h)
 . exact .inr (.inr ⟨h1, h2, h3, A, c, h4, h5.ext hm⟩)
theorem EdRel.cells {W : World} {may : Bool} {none : Int} {p : PV} {B : Nat -> BV} {n : Nat} {zc : Array Value} {r : Int} (h : EdRel W may none p B n zc r) : (Tryz.prog.info? 29).map (·.size) = some zc.size /\ zc.all (·.oneCell') = true /\ zc.size = 20 := by
 have hz : (Tryz.prog.info? 29).map (·.size) = some zeroBun.size /\ zeroBun.all (·.oneCell') = true /\ zeroBun.size = 20 := ⟨by kernel_rfl, by simp [zeroBun, Value.oneCell'], rfl⟩
 rcases h with ⟨_, h, _⟩ | ⟨_, _, _, h⟩ | ⟨_, _, _, A, c, h, _⟩
 . rw [h]; exact hz
 . rw [h]; exact hz
 . rw [h]; exact ⟨by kernel_rfl, by simp [Value.oneCell'], rfl⟩
theorem BsL.congr {w : World} {A : Option Addr} {k : Nat} {bs bs' : Nat -> BV} (h : BsL w A k bs) (he : ∀ j, j < k -> bs j = bs' j) : BsL w A k bs' := fun hk => by
 obtain ⟨b, o, hA, hb, hc⟩ := h hk
 exact ⟨b, o, hA, hb, fun i hi => by rw [<- he i hi]; exact hc i hi⟩
theorem one_BsL {w : World} {vb : Nat} {x : BV} (hv : Blk w vb 38 (BV.c x)) : BsL w (some ⟨vb, 0, none⟩) 1 (fun _ => x) := fun _ => ⟨vb, 0, rfl, hv.lt, fun j hj => by
 obtain rfl : j = 0 := by omega
 exact ⟨hv.cell 0, hv.cell 1, hv.cell 2, hv.cell 3, hv.cell 4⟩⟩
theorem one_SlA (vb : Nat) : SlA (some ⟨vb, 0, none⟩) 1 1 := ⟨fun h => (by cases h), Nat.le_refl _, by unfold maxLen; omega⟩
theorem set_with (bs : Nat -> BV) (k i : Nat) (x : BV) (hi : i < k) : ∀ j, j < k -> setAt bs i x j = withB bs i 1 1 (fun _ => x) j := fun j hj => by
 unfold withB catB setAt
 by_cases c0 : j = i
 . subst c0; rw [if_pos rfl, if_pos (by omega), if_neg (by omega)]
 .
  by_cases c1 : j < i
  . rw [if_neg c0, if_pos (by omega), if_pos c1]
  .
   rw [if_neg c0, if_neg (by omega)]
   show bs j = bs (i + 1 + (j - (i + 1)))
   rw [show i + 1 + (j - (i + 1)) = j by omega]
section
open Go.ChangeShapes Go.WideShapes Go.ChangeAt Go.Deep
section
variable {H : Type} {enc : TypeId × Value -> H} {w : World} {base b0 : Nat} {spare : Nat -> Bool} {held : Bool} {r : Reach}
set_option maxRecDepth 100000 in
theorem open_eids {v : Value} {d : DataW H} {q : List MemPlace} (hval : Value.okWide Tryz.prog w r b0 30 v) (h : DataW.Trod enc Tryz.prog w base spare held 30 v d q) (hz : ∀ n ∈ d.weights Tryz.prog 30, n <= reachBytes) :
  ∃ (A : Option Addr) (k c : Nat) (f : Nat -> EV), v = .slice A k c /\ k < 4611686018427387904 /\ (∀ i, i < k -> (f i).node < 18446744073709551616 /\ (f i).svc < 18446744073709551616 /\ (-9223372036854775808 <= (f i).sch /\ (f i).sch <= 9223372036854775807)) /\ EsL w A k f /\ SlA A k c := by
 haveI : Nonempty EV := ⟨⟨0, [], 0, 0⟩⟩
 obtain ⟨fuel, hf⟩ := h
 obtain ⟨a, n, c, rfl⟩ := okWide_slice Tryz.underlying30 hval
 have h3 : DataW.trod enc Tryz.prog w base spare held fuel 30 [.slice a n c] = some (d, q) := hf
 obtain ⟨A, k, c, g, e, hk, hs, hall, hcs⟩ := trod_rows (Z := EV) (by kernel_rfl) (by kernel_rfl : Tryz.prog.cellsOf 24 = 4) (by decide) (by kernel_rfl : Tryz.prog.bytesOf 24 = 40) (by decide)
  (fun e L => L = [.int .i64 e.sch, str e.name, .int .u64 (e.node : Int), .int .u64 (e.svc : Int)] /\ e.node < 18446744073709551616 /\ e.svc < 18446744073709551616 /\ (-9223372036854775808 <= e.sch /\ e.sch <= 9223372036854775807)) (fun f cs x h _ => trod_eid h) h3 hz
 rw [e]
 refine ⟨A, k, c, g, rfl, hk, fun i hi => by obtain ⟨cs, _, h⟩ := hall i hi; exact h, fun h0 => ?_, hs⟩
 obtain ⟨b, o, rfl, hb, hc⟩ := hcs h0
 refine ⟨b, o, rfl, hb, fun i hi => ?_⟩
 obtain ⟨cs, _, ⟨rfl, _⟩, hat⟩ := hc i hi
 exact ⟨hat 0 _ rfl, hat 1 _ rfl, hat 2 _ rfl, hat 3 _ rfl⟩
end
end
end Go.Proofs.YthecmnbkjchjmaaGreat
