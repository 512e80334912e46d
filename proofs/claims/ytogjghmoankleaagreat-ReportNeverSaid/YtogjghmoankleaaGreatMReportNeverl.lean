/-
  Why a bundle is not right, as the reference tells.
  The laws ReportBuilds and ReportParses, walked.
  Reports: the reference's Make.
  Two bundles that are the same, as the reference tells.
  An argument api.EID, opened; two numbers in a row.
  An argument api.Bundle, opened: its primary's cells; its blocks lie in memory.
  An argument of the type report.Report, opened.
  Two names, three numbers: arrays, opened.
  The law ReportMakes, walked.
  The law ReportNever, walked.
-/
import Derived.Test.YtogjghmoankleaaGreatMReportNeverk
import Derived.OpenShut

namespace Go.Proofs.YtogjghmoankleaaGreat
open Go.RowKit
set_option linter.unusedVariables false
set_option linter.unusedSimpArgs false

set_option maxRecDepth 20000 in
theorem r13Right_p (p : PV) (bs : Nat → BV) (k c : Nat) (A : Option Addr) (hf : p.fl < 18446744073709551616) (hk : k < 4611686018427387904) (hb : p.right ≠ 0) (w : World) (h : BsL w A k bs) : Calls Tryz.prog 11 #[bunV p A k c] w (Ret (.int .i64 p.right) w) := by
  have KP := hid (fun W => r11Right_any p hf W)
  have HE := hid ((Mod.refl [] w).alloc (.cells (bunC p A k c) 37))
  have HB0 : Hid (Blk (w.alloc (.cells (bunC p A k c) 37)) w.heap.size 37 (bunC p A k c)) := hid (Blk.new w 37 (bunC p A k c))
  generalize p.right = r at *
  have ra : ((r) == (0)) = false := by rw [beq_eq_false_iff_ne]; exact hb
  have rb : ((r) = (0)) = False := eq_false (by exact hb)
  have rc : ((r) != (0)) = true := by rw [bne_iff_ne]; exact hb
  clear hb hf hk h
  go_enter Tryz.func11, Tryz.ntmps11
  go_upto_region 1 with fail
  generalize (w.alloc (.cells (bunC p A k c) 37)) = V at *
  have HPR : Hid (∀ e : Later V, e.x.rangeAt w.heap.size 0 p.c.toList) := HB0.out.range 0 19 (by rw [Array.toList_extract]; rfl)
  have b19 : ∀ e : Later V, e.x.cell? ⟨w.heap.size, 19, none⟩ = some (.slice A k c) := HB0.out.cellL 19 rfl
  obtain ⟨e, he⟩ := Later.self V
  rw [he]
  clear he
  go_wp2_with (first | (refine wpList_mid (by rfl) 34 _ rfl _ 0 rfl _ _ (HPR.out _) Tryz.underlying34 rfl (by kernel_rfl) ?_) | (go_at_call 19; refine (Ret.later (KP.out _)).mono ?_; rintro x _ ⟨rfl, e, rfl⟩))
  go_ret
  exact Ret.mk rfl (HE.out.trans e.h)
set_option maxRecDepth 20000 in
set_option maxHeartbeats 40000000 in
theorem r13Right_ok (p : PV) (bs : Nat → BV) (k c : Nat) (A : Option Addr) (hf : p.fl < 18446744073709551616) (hk : k < 4611686018427387904) (hb : p.right = 0) (hd : ∀ i, i < k → (bs i).data.length ≤ 100000) (w : World) (h : BsL w A k bs) : Calls Tryz.prog 11 #[bunV p A k c] w (Ret (.int .i64 (match firstOf (badAt bs) k with | some i => (bs i).right | none => if 16 < k then 4 else if bunRule1 bs k then 8 else if bunRule2 p bs k then 8 else if bunRule3 p bs k then 8 else if 4000 < (bunBytes p bs k).length then 4 else 0)) w) := by
  generalize hRES : (match firstOf (badAt bs) k with | some i => (bs i).right | none => if 16 < k then 4 else if bunRule1 bs k then 8 else if bunRule2 p bs k then 8 else if bunRule3 p bs k then 8 else if 4000 < (bunBytes p bs k).length then 4 else 0) = RES
  have HRES := hid hRES
  clear hRES
  have KP := hid (fun W => r11Right_any p hf W)
  rw [hb] at KP
  have HE := hid ((Mod.refl [] w).alloc (.cells (bunC p A k c) 37))
  have HB0 : Hid (Blk (w.alloc (.cells (bunC p A k c) 37)) w.heap.size 37 (bunC p A k c)) := hid (Blk.new w 37 (bunC p A k c))
  have HL := hid (BsL.ext h HE.out)
  have k1 : (k : Int) < 4611686018427387904 := by omega
  have HK := hid hk
  have HD := hid hd
  have HF := hid hf
  have HP := hid hb
  have hrs := PV.ranged_spec (PV.right_ranged hb)
  have fl2 : p.fl < 2097152 := by omega
  have po : p.o ≤ 1099511627776 := by omega
  have pn : p.n ≤ 1099511627776 := by omega
  clear hb hf hk hd h hrs
  go_enter Tryz.func11, Tryz.ntmps11
  go_upto_region 1 with fail
  generalize (w.alloc (.cells (bunC p A k c) 37)) = V at *
  have HPR : Hid (∀ e : Later V, e.x.rangeAt w.heap.size 0 p.c.toList) := HB0.out.range 0 19 (by rw [Array.toList_extract]; rfl)
  have b19 : ∀ e : Later V, e.x.cell? ⟨w.heap.size, 19, none⟩ = some (.slice A k c) := HB0.out.cellL 19 rfl
  have b5 : ∀ e : Later V, e.x.cell? ⟨w.heap.size, 14, none⟩ = some (.int .u64 (p.t : Int)) := HB0.out.cellL 14 rfl
  have b0 : ∀ e : Later V, e.x.cell? ⟨w.heap.size, 0, none⟩ = some (.int .u64 (p.fl : Int)) := HB0.out.cellL 0 rfl
  have b17 : ∀ e : Later V, e.x.cell? ⟨w.heap.size, 17, none⟩ = some (.int .u64 (p.o : Int)) := HB0.out.cellL 17 rfl
  have b18 : ∀ e : Later V, e.x.cell? ⟨w.heap.size, 18, none⟩ = some (.int .u64 (p.n : Int)) := HB0.out.cellL 18 rfl
  have KC : Hid (∀ (e : Later V) typ, Calls Tryz.prog 21 #[.slice A k c, .int .i64 typ] e.x (Ret (.int .i64 (cntB bs typ k : Nat)) e.x)) := fun e typ => r13count_any bs k c A typ HK.out e.x (HL.out.ext e.h)
  have KT : Hid (∀ (e : Later V), Calls Tryz.prog 22 #[.slice A k c] e.x (Ret (.bool (dupB bs k)) e.x)) := fun e => r13twice_any bs k c A HK.out e.x (HL.out.ext e.h)
  have KH : Hid (∀ W, Calls Tryz.prog 23 #[.int .u64 (p.fl : Int), .int .i64 1] W (Ret (.bool (has p.fl 1)) W)) := fun W => Has_any p.fl 1 HF.out (by omega) (by omega) W
  obtain ⟨e0, he0⟩ := Later.self V
  rw [he0]
  go_upto_region 6 with (first | (refine wpList_mid (by rfl) 34 _ rfl _ 0 rfl _ _ (HPR.out _) Tryz.underlying34 rfl (by kernel_rfl) ?_) | (go_at_call 19; refine (Ret.later (KP.out _)).mono ?_; rintro x _ ⟨rfl, e, rfl⟩))
  go_loopw [5] (fun s5 wr => ∃ i : Nat, s5 = .int .i64 (i : Int) ∧ Hid (i ≤ k ∧ ∀ j, j < i → badAt bs j = false) ∧ ∃ e : Later V, wr = e.x) (fun s5 _ => k - (intOf s5).toNat)
  case atStart => exact ⟨0, rfl, (show Hid _ from ⟨Nat.zero_le _, fun j hj => by omega⟩), e, rfl⟩
  case round =>
    clear he0 e0 e
    obtain ⟨i, rfl, hi, e, rfl⟩ := hrel
    have i0 : (0 : Int) ≤ (i : Int) := by omega
    by_cases hlt : i < k
    · clear KC KT KH b5 b0 b17 b18 HF fl2 po pn
      obtain ⟨b, o, rfl, hb, q0, q1, q2, q3, q4⟩ := HL.out.cells hlt
      have tc : decide (i < k) = true := by simp [hlt]
      have i1 : (i : Int) < (k : Int) := by omega
      have HLT := hid hlt
      have KX := hid (fun W => rbRight_any (bs i) W)
      clear hlt
      by_cases ht : badAt bs i = true
      · have HR : Hid (RES = (bs i).right) := by unfold Hid; rw [← HRES.out, firstOf_some HLT.out ht hi.out.2]
        have hx : (bs i).right ≠ 0 := by simpa [badAt] using ht
        clear ht
        generalize (bs i).right = r at *
        have ra : ((r) == (0)) = false := by rw [beq_eq_false_iff_ne]; exact hx
        have rb : ((r) = (0)) = False := eq_false (by exact hx)
        have rc : ((r) != (0)) = true := by rw [bne_iff_ne]; exact hx
        clear hx
        go_wp2_with (first | (go_at_call 20; refine (Ret.later (KX.out _)).mono ?_; rintro x _ ⟨rfl, e, rfl⟩))
        go_ret
        exact Ret.mk (by rw [HR.out]; rfl) (HE.out.trans e.h)
      · have HN : Hid (badAt bs i = false) := by unfold Hid; simpa using ht
        rw [bad_no HN.out] at KX
        clear ht
        go_wp2_with (first | (go_at_call 20; refine (Ret.later (KX.out _)).mono ?_; rintro x _ ⟨rfl, e, rfl⟩))
        go_roundw
        case rel => exact ⟨i + 1, by go_num, (show Hid _ from ⟨HLT.out, fun j hj => by
          by_cases hji : j = i
          · subst hji; exact HN.out
          · exact hi.out.2 j (by omega)⟩), e, rfl⟩
        case measure => have := HLT.out; simp [intOf]; omega
    · obtain rfl : i = k := by have := hi.out.1; omega
      have tc : decide (i < i) = false := by simp
      have HR1 : Hid (RES = if 16 < i then 4 else if bunRule1 bs i then 8 else if bunRule2 p bs i then 8 else if bunRule3 p bs i then 8 else if 4000 < (bunBytes p bs i).length then 4 else 0) := by unfold Hid; rw [← HRES.out, firstOf_none hi.out.2]
      have HB' : Hid (∀ j, j < i → (bs j).right = 0) := fun j hj => bad_no (hi.out.2 j hj)
      clear HRES hi hlt KP
      have K1 := hid (fun e => KC.out e 1)
      have K6 := hid (fun e => KC.out e 6)
      have K7 := hid (fun e => KC.out e 7)
      have K10 := hid (fun e => KC.out e 10)
      clear KC
      have HR0 : Hid (bunRule1 bs i = (decide (i = 0) || decide (cntB bs 1 i ≠ 1) || dupB bs i || decide (1 < cntB bs 6 i) || decide (1 < cntB bs 7 i) || decide (1 < cntB bs 10 i))) := rfl
      have HR00 : Hid (bunRule2 p bs i = (decide ((bs (i - 1)).ty ≠ 1) || (decide (p.t = 0) && decide (cntB bs 7 i = 0)))) := rfl
      generalize cntB bs 1 i = n1 at *
      generalize cntB bs 6 i = n6 at *
      generalize cntB bs 7 i = n7 at *
      generalize cntB bs 10 i = n10 at *
      by_cases h16 : 16 < i
      · have HR : Hid (RES = 4) := by unfold Hid; rw [HR1.out, if_pos h16]
        have xa : decide ((16 : Int) < (i : Int)) = true := decide_eq_true (by omega)
        have xb : ((16 : Int) < (i : Int)) = True := eq_true (by omega)
        have xc : decide (16 < i) = true := decide_eq_true h16
        clear h16
        go_wp2_with fail
        go_ret
        exact Ret.mk (by rw [HR.out]; rfl) (HE.out.trans e.h)
      · have HR2 : Hid (RES = if bunRule1 bs i then 8 else if bunRule2 p bs i then 8 else if bunRule3 p bs i then 8 else if 4000 < (bunBytes p bs i).length then 4 else 0) := by unfold Hid; rw [HR1.out, if_neg h16]
        have H16 := hid h16
        clear HR1
        have xa : decide ((16 : Int) < (i : Int)) = false := decide_eq_false (by omega)
        have xb : ((16 : Int) < (i : Int)) = False := eq_false (by omega)
        have xc : decide (16 < i) = false := decide_eq_false h16
        clear h16
        cases hR1 : bunRule1 bs i with
        | true =>
          have HR : Hid (RES = 8) := by unfold Hid; rw [HR2.out, hR1]; rfl
          clear HR2
          rw [HR0.out] at hR1
          by_cases z0 : i = 0
          · subst z0
            have za : ((0 : Int) == 0) = true := rfl
            clear hR1
            go_wp2_with (first | (go_at_call 21; first | ((with_reducible refine (Ret.later (K1.out _)).mono ?_); rintro x _ ⟨rfl, e, rfl⟩) | ((with_reducible refine (Ret.later (K6.out _)).mono ?_); rintro x _ ⟨rfl, e, rfl⟩) | ((with_reducible refine (Ret.later (K7.out _)).mono ?_); rintro x _ ⟨rfl, e, rfl⟩) | ((with_reducible refine (Ret.later (K10.out _)).mono ?_); rintro x _ ⟨rfl, e, rfl⟩)) | (go_at_call 22; refine (Ret.later (KT.out _)).mono ?_; rintro x _ ⟨rfl, e, rfl⟩))
            go_ret
            exact Ret.mk (by rw [HR.out]; rfl) (HE.out.trans e.h)
          have n0 : ((i : Int) == 0) = false := by rw [beq_eq_false_iff_ne]; omega
          have n0a : ((i : Int) = 0) = False := eq_false (by omega)
          have n0b : (i == 0) = false := by rw [beq_eq_false_iff_ne]; omega
          have n0c : (i = 0) = False := eq_false (by omega)
          by_cases z1 : n1 ≠ 1
          · clear hR1
            have c1a : (((n1 : Int)) == (1)) = false := by rw [beq_eq_false_iff_ne]; omega
            have c1b : (((n1 : Int)) = (1)) = False := eq_false (by omega)
            have c1c : (((n1 : Int)) != (1)) = true := by rw [bne_iff_ne]; omega
            have c1na : ((n1) == (1)) = false := by rw [beq_eq_false_iff_ne]; omega
            have c1nb : ((n1) = (1)) = False := eq_false (by omega)
            have c1nc : ((n1) != (1)) = true := by rw [bne_iff_ne]; omega
            go_wp2_with (first | (go_at_call 21; first | ((with_reducible refine (Ret.later (K1.out _)).mono ?_); rintro x _ ⟨rfl, e, rfl⟩) | ((with_reducible refine (Ret.later (K6.out _)).mono ?_); rintro x _ ⟨rfl, e, rfl⟩) | ((with_reducible refine (Ret.later (K7.out _)).mono ?_); rintro x _ ⟨rfl, e, rfl⟩) | ((with_reducible refine (Ret.later (K10.out _)).mono ?_); rintro x _ ⟨rfl, e, rfl⟩)) | (go_at_call 22; refine (Ret.later (KT.out _)).mono ?_; rintro x _ ⟨rfl, e, rfl⟩))
            go_ret
            exact Ret.mk (by rw [HR.out]; rfl) (HE.out.trans e.h)
          obtain rfl : n1 = 1 := by omega
          cases zt : dupB bs i with
          | true =>
            rw [zt] at KT
            clear hR1
            go_wp2_with (first | (go_at_call 21; first | ((with_reducible refine (Ret.later (K1.out _)).mono ?_); rintro x _ ⟨rfl, e, rfl⟩) | ((with_reducible refine (Ret.later (K6.out _)).mono ?_); rintro x _ ⟨rfl, e, rfl⟩) | ((with_reducible refine (Ret.later (K7.out _)).mono ?_); rintro x _ ⟨rfl, e, rfl⟩) | ((with_reducible refine (Ret.later (K10.out _)).mono ?_); rintro x _ ⟨rfl, e, rfl⟩)) | (go_at_call 22; refine (Ret.later (KT.out _)).mono ?_; rintro x _ ⟨rfl, e, rfl⟩))
            go_ret
            exact Ret.mk (by rw [HR.out]; rfl) (HE.out.trans e.h)
          | false =>
          rw [zt] at KT
          by_cases z6 : 1 < n6
          · clear hR1
            have c6a : decide ((1 : Int) < (n6 : Int)) = true := decide_eq_true (by omega)
            have c6b : ((1 : Int) < (n6 : Int)) = True := eq_true (by omega)
            have c6na : decide (1 < n6) = true := decide_eq_true (by omega)
            have c6nb : (1 < n6) = True := eq_true (by omega)
            go_wp2_with (first | (go_at_call 21; first | ((with_reducible refine (Ret.later (K1.out _)).mono ?_); rintro x _ ⟨rfl, e, rfl⟩) | ((with_reducible refine (Ret.later (K6.out _)).mono ?_); rintro x _ ⟨rfl, e, rfl⟩) | ((with_reducible refine (Ret.later (K7.out _)).mono ?_); rintro x _ ⟨rfl, e, rfl⟩) | ((with_reducible refine (Ret.later (K10.out _)).mono ?_); rintro x _ ⟨rfl, e, rfl⟩)) | (go_at_call 22; refine (Ret.later (KT.out _)).mono ?_; rintro x _ ⟨rfl, e, rfl⟩))
            go_ret
            exact Ret.mk (by rw [HR.out]; rfl) (HE.out.trans e.h)
          have c6a : decide ((1 : Int) < (n6 : Int)) = false := decide_eq_false (by omega)
          have c6b : ((1 : Int) < (n6 : Int)) = False := eq_false (by omega)
          have c6na : decide (1 < n6) = false := decide_eq_false (by omega)
          have c6nb : (1 < n6) = False := eq_false (by omega)
          by_cases z7 : 1 < n7
          · clear hR1
            have c7a : decide ((1 : Int) < (n7 : Int)) = true := decide_eq_true (by omega)
            have c7b : ((1 : Int) < (n7 : Int)) = True := eq_true (by omega)
            have c7na : decide (1 < n7) = true := decide_eq_true (by omega)
            have c7nb : (1 < n7) = True := eq_true (by omega)
            go_wp2_with (first | (go_at_call 21; first | ((with_reducible refine (Ret.later (K1.out _)).mono ?_); rintro x _ ⟨rfl, e, rfl⟩) | ((with_reducible refine (Ret.later (K6.out _)).mono ?_); rintro x _ ⟨rfl, e, rfl⟩) | ((with_reducible refine (Ret.later (K7.out _)).mono ?_); rintro x _ ⟨rfl, e, rfl⟩) | ((with_reducible refine (Ret.later (K10.out _)).mono ?_); rintro x _ ⟨rfl, e, rfl⟩)) | (go_at_call 22; refine (Ret.later (KT.out _)).mono ?_; rintro x _ ⟨rfl, e, rfl⟩))
            go_ret
            exact Ret.mk (by rw [HR.out]; rfl) (HE.out.trans e.h)
          have c7a : decide ((1 : Int) < (n7 : Int)) = false := decide_eq_false (by omega)
          have c7b : ((1 : Int) < (n7 : Int)) = False := eq_false (by omega)
          have c7na : decide (1 < n7) = false := decide_eq_false (by omega)
          have c7nb : (1 < n7) = False := eq_false (by omega)
          have z10 : 1 < n10 := by simpa [n0c, zt, z1, z6, z7] using hR1
          have c10a : decide ((1 : Int) < (n10 : Int)) = true := decide_eq_true (by omega)
          have c10b : ((1 : Int) < (n10 : Int)) = True := eq_true (by omega)
          have c10na : decide (1 < n10) = true := decide_eq_true (by omega)
          have c10nb : (1 < n10) = True := eq_true (by omega)
          clear hR1
          go_wp2_with (first | (go_at_call 21; first | ((with_reducible refine (Ret.later (K1.out _)).mono ?_); rintro x _ ⟨rfl, e, rfl⟩) | ((with_reducible refine (Ret.later (K6.out _)).mono ?_); rintro x _ ⟨rfl, e, rfl⟩) | ((with_reducible refine (Ret.later (K7.out _)).mono ?_); rintro x _ ⟨rfl, e, rfl⟩) | ((with_reducible refine (Ret.later (K10.out _)).mono ?_); rintro x _ ⟨rfl, e, rfl⟩)) | (go_at_call 22; refine (Ret.later (KT.out _)).mono ?_; rintro x _ ⟨rfl, e, rfl⟩))
          go_ret
          exact Ret.mk (by rw [HR.out]; rfl) (HE.out.trans e.h)
        | false =>
          have HR3 : Hid (RES = if bunRule2 p bs i then 8 else if bunRule3 p bs i then 8 else if 4000 < (bunBytes p bs i).length then 4 else 0) := by unfold Hid; rw [HR2.out, hR1]; rfl
          clear HR2
          rw [HR0.out] at hR1
          simp only [Bool.or_eq_false_iff, decide_eq_false_iff_not] at hR1
          obtain ⟨⟨⟨⟨⟨z0, z1⟩, zt⟩, z6⟩, z7⟩, z10⟩ := hR1
          have H16' := H16.out
          have n0 : ((i : Int) == 0) = false := by rw [beq_eq_false_iff_ne]; omega
          have n0a : ((i : Int) = 0) = False := eq_false (by omega)
          have n0b : (i == 0) = false := by rw [beq_eq_false_iff_ne]; omega
          have n0c : (i = 0) = False := eq_false (by omega)
          rw [zt] at KT
          obtain rfl : n1 = 1 := by omega
          have c6a : decide ((1 : Int) < (n6 : Int)) = false := decide_eq_false (by omega)
          have c6b : ((1 : Int) < (n6 : Int)) = False := eq_false (by omega)
          have c6na : decide (1 < n6) = false := decide_eq_false (by omega)
          have c6nb : (1 < n6) = False := eq_false (by omega)
          have c7a : decide ((1 : Int) < (n7 : Int)) = false := decide_eq_false (by omega)
          have c7b : ((1 : Int) < (n7 : Int)) = False := eq_false (by omega)
          have c7na : decide (1 < n7) = false := decide_eq_false (by omega)
          have c7nb : (1 < n7) = False := eq_false (by omega)
          have c10a : decide ((1 : Int) < (n10 : Int)) = false := decide_eq_false (by omega)
          have c10b : ((1 : Int) < (n10 : Int)) = False := eq_false (by omega)
          have c10na : decide (1 < n10) = false := decide_eq_false (by omega)
          have c10nb : (1 < n10) = False := eq_false (by omega)
          have i2 := hid ((show (1 : Int) ≤ (i : Int) by omega))
          have i3 := hid (show (i : Int) ≤ 16 by omega)
          have HI0 : Hid (i ≠ 0) := hid z0
          clear z0 z1 zt z6 z7 z10 H16'
          go_upto_region 15 with (first | (go_at_call 21; first | ((with_reducible refine (Ret.later (K1.out _)).mono ?_); rintro x _ ⟨rfl, e, rfl⟩) | ((with_reducible refine (Ret.later (K6.out _)).mono ?_); rintro x _ ⟨rfl, e, rfl⟩) | ((with_reducible refine (Ret.later (K7.out _)).mono ?_); rintro x _ ⟨rfl, e, rfl⟩) | ((with_reducible refine (Ret.later (K10.out _)).mono ?_); rintro x _ ⟨rfl, e, rfl⟩)) | (go_at_call 22; refine (Ret.later (KT.out _)).mono ?_; rintro x _ ⟨rfl, e, rfl⟩))
          clear n0 n0a n0b n0c c6a c6b c6na c6nb c10a c10b c10na c10nb c7a c7b c7na c7nb tc xa xb xc
          obtain ⟨m, rfl⟩ : ∃ m : Nat, i = m + 1 := ⟨i - 1, by have := HI0.out; omega⟩
          clear HI0
          obtain ⟨b, o, rfl, hb, q0, q1, q2, q3, q4⟩ := HL.out.cells (Nat.lt_succ_self m)
          have m0 : (0 : Int) ≤ (m : Int) := by omega
          have m1 : (m : Int) ≤ 15 := by have := i3.out; omega
          clear i2 i3
          go_upto_region 16 with fail
          generalize hU : World.alloc e.x _ = U
          have HX : Hid (Blk U e.x.heap.size 49 (BV.c (bs m))) := hid (by rw [← hU]; exact Blk.new _ _ _)
          have HM : Hid (Ext V U) := hid (by rw [← hU]; exact e.h.alloc _)
          clear hU q0 q1 q2 q3 q4 hb m0 m1 i0 k1 K1 K6 K10 KT
          have L7 : Hid (∀ e : Later U, Calls Tryz.prog 21 #[.slice (some ⟨b, o, none⟩) (m + 1) c, .int .i64 7] e.x (Ret (.int .i64 (n7 : Int)) e.x)) := fun e => K7.out ⟨e.x, HM.out.trans e.h⟩
          clear K7
          have x0 : ∀ e : Later U, e.x.cell? ⟨w.heap.size, 0, none⟩ = some (.int .u64 (p.fl : Int)) := fun e => b0 ⟨e.x, HM.out.trans e.h⟩
          have x5 : ∀ e : Later U, e.x.cell? ⟨w.heap.size, 14, none⟩ = some (.int .u64 (p.t : Int)) := fun e => b5 ⟨e.x, HM.out.trans e.h⟩
          have x17 : ∀ e : Later U, e.x.cell? ⟨w.heap.size, 17, none⟩ = some (.int .u64 (p.o : Int)) := fun e => b17 ⟨e.x, HM.out.trans e.h⟩
          have x18 : ∀ e : Later U, e.x.cell? ⟨w.heap.size, 18, none⟩ = some (.int .u64 (p.n : Int)) := fun e => b18 ⟨e.x, HM.out.trans e.h⟩
          have x19 : ∀ e : Later U, e.x.cell? ⟨w.heap.size, 19, none⟩ = some (.slice (some ⟨b, o, none⟩) (m + 1) c) := fun e => b19 ⟨e.x, HM.out.trans e.h⟩
          have HB1 := hid (HB0.out.ext HM.out)
          have KB : Hid (∀ e : Later U, Calls Tryz.prog 24 #[bunV p (some ⟨b, o, none⟩) (m + 1) c] e.x (Ret (str (bunBytes p bs (m + 1))) e.x)) := fun e => r13Bytes_any p bs (m + 1) c (some ⟨b, o, none⟩) (by have := H16.out; omega) HP.out HB'.out e.x (HL.out.ext (HM.out.trans e.h))
          clear b0 b5 b17 b18 b19 HPR HB0 HP HF H16 HR0 HK
          have HE1 := hid (HE.out.trans HM.out)
          have HR2' : Hid (bunRule2 p bs (m + 1) = (decide ((bs m).ty ≠ 1) || (decide (p.t = 0) && decide (n7 = 0)))) := HR00.out
          have HR3' : Hid (bunRule3 p bs (m + 1) = (has p.fl 1 && decide (p.n < p.o + (bs m).data.length))) := rfl
          clear HR00 HE
          have ld : ((bs m).data.length : Int) ≤ 100000 := by have := HD.out m (by omega); omega
          have po2 : (p.o : Int) ≤ 1099511627776 := by omega
          clear HD HB' po pn fl2 HL
          generalize bunRule2 p bs (m + 1) = R2 at *
          generalize bunRule3 p bs (m + 1) = R3 at *
          generalize bunBytes p bs (m + 1) = BB at *
          have y0 : ∀ e : Later U, e.x.cell? ⟨e.x.heap.size, 0, none⟩ = e.x.cell? ⟨e.x.heap.size, 0, none⟩ := fun _ => rfl
          clear y0
          generalize hpay : e.x.heap.size = pay at *
          clear hpay
          have z0 : ∀ e : Later U, e.x.cell? ⟨pay, 0, none⟩ = some (.int .i64 (bs m).ty) := HX.out.cellL 0 rfl
          have z4 : ∀ e : Later U, e.x.cell? ⟨pay, 4, none⟩ = some (str (bs m).data) := HX.out.cellL 4 rfl
          clear HX HM
          generalize (bs m).ty = ty at *
          generalize (bs m).data = dat at *
          generalize p.o = po at *
          generalize p.n = pn at *
          generalize p.t = pt at *
          clear e
          obtain ⟨e, he⟩ := Later.self U
          rw [he]
          clear he
          by_cases zt : ty = 1
          · have HT1 := hid zt
            have ta : ((ty) == (1)) = true := by rw [beq_iff_eq]; exact zt
            have tb : ((ty) = (1)) = True := eq_true (by exact zt)
            have tc : ((ty) != (1)) = false := by rw [bne_eq_false_iff_eq]; exact zt
            clear zt
            by_cases zp : pt = 0
            · have HP0 := hid zp
              have ua : (((pt : Int)) == (0)) = true := by rw [beq_iff_eq]; omega
              have ub : (((pt : Int)) = (0)) = True := eq_true (by omega)
              have uc : (((pt : Int)) != (0)) = false := by rw [bne_eq_false_iff_eq]; omega
              have una : ((pt) == (0)) = true := by rw [beq_iff_eq]; omega
              have unb : ((pt) = (0)) = True := eq_true (by omega)
              have unc : ((pt) != (0)) = false := by rw [bne_eq_false_iff_eq]; omega
              clear zp
              by_cases z7 : n7 = 0
              · have HR : Hid (RES = 8) := by unfold Hid; rw [HR3.out, HR2'.out]; simp [HT1.out, HP0.out, z7]
                have sa : (((n7 : Int)) == (0)) = true := by rw [beq_iff_eq]; omega
                have sb : (((n7 : Int)) = (0)) = True := eq_true (by omega)
                have sc : (((n7 : Int)) != (0)) = false := by rw [bne_eq_false_iff_eq]; omega
                have sna : ((n7) == (0)) = true := by rw [beq_iff_eq]; omega
                have snb : ((n7) = (0)) = True := eq_true (by omega)
                have snc : ((n7) != (0)) = false := by rw [bne_eq_false_iff_eq]; omega
                clear z7
                go_wp2_with (first | (go_at_call 21; refine (Ret.later (L7.out _)).mono ?_; rintro x _ ⟨rfl, e, rfl⟩) | (go_at_call 23; refine (Ret.later (KH.out _)).mono ?_; rintro x _ ⟨rfl, e, rfl⟩))
                go_ret
                exact Ret.mk (by rw [HR.out]; rfl) (HE1.out.trans e.h)
              · have HF2 : Hid (R2 = false) := by unfold Hid; rw [HR2'.out]; simp [HT1.out, z7]
                have sa : (((n7 : Int)) == (0)) = false := by rw [beq_eq_false_iff_ne]; omega
                have sb : (((n7 : Int)) = (0)) = False := eq_false (by omega)
                have sc : (((n7 : Int)) != (0)) = true := by rw [bne_iff_ne]; omega
                have sna : ((n7) == (0)) = false := by rw [beq_eq_false_iff_ne]; omega
                have snb : ((n7) = (0)) = False := eq_false (by omega)
                have snc : ((n7) != (0)) = true := by rw [bne_iff_ne]; omega
                clear z7
                go_upto_region 18 with (first | (go_at_call 21; refine (Ret.later (L7.out _)).mono ?_; rintro x _ ⟨rfl, e, rfl⟩) | (go_at_call 23; refine (Ret.later (KH.out _)).mono ?_; rintro x _ ⟨rfl, e, rfl⟩))
                clear sa sb sc sna snb snc ta tb tc ua ub uc una unb unc
                have HR4 : Hid (RES = if R3 = true then 8 else if 4000 < BB.length then 4 else 0) := by unfold Hid; rw [HR3.out, HF2.out]; rfl
                cases hh : has p.fl 1 with
                | false =>
                  rw [hh] at KH
                  have HR5 : Hid (RES = if 4000 < BB.length then 4 else 0) := by unfold Hid; rw [HR4.out, HR3'.out, hh]; rfl
                  clear hh
                  go_upto_region 20 with (first | (go_at_call 21; refine (Ret.later (L7.out _)).mono ?_; rintro x _ ⟨rfl, e, rfl⟩) | (go_at_call 23; refine (Ret.later (KH.out _)).mono ?_; rintro x _ ⟨rfl, e, rfl⟩))
                  by_cases hl : 4000 < BB.length
                  · have HR : Hid (RES = 4) := by unfold Hid; rw [HR5.out, if_pos hl]
                    have la : decide ((4000 : Int) < (BB.length : Int)) = true := decide_eq_true (by omega)
                    have lb : ((4000 : Int) < (BB.length : Int)) = True := eq_true (by omega)
                    have lc : decide (4000 < BB.length) = true := decide_eq_true hl
                    clear hl
                    go_wp2_with (first | (refine wpList_row (by rfl) 37 _ rfl _ rfl (HB1.out.later _) Tryz.underlying37 rfl (by kernel_rfl) ?_) | (go_at_call 24; refine (Ret.later (KB.out _)).mono ?_; rintro x _ ⟨rfl, e, rfl⟩))
                    go_ret
                    exact Ret.mk (by rw [HR.out]; rfl) (HE1.out.trans e.h)
                  · have HR : Hid (RES = 0) := by unfold Hid; rw [HR5.out, if_neg hl]
                    have la : decide ((4000 : Int) < (BB.length : Int)) = false := decide_eq_false (by omega)
                    have lb : ((4000 : Int) < (BB.length : Int)) = False := eq_false (by omega)
                    have lc : decide (4000 < BB.length) = false := decide_eq_false hl
                    clear hl
                    go_wp2_with (first | (refine wpList_row (by rfl) 37 _ rfl _ rfl (HB1.out.later _) Tryz.underlying37 rfl (by kernel_rfl) ?_) | (go_at_call 24; refine (Ret.later (KB.out _)).mono ?_; rintro x _ ⟨rfl, e, rfl⟩))
                    go_ret
                    exact Ret.mk (by rw [HR.out]; rfl) (HE1.out.trans e.h)
                | true =>
                  rw [hh] at KH
                  by_cases hv : pn < po + dat.length
                  · have HR : Hid (RES = 8) := by unfold Hid; rw [HR4.out, HR3'.out, hh, decide_eq_true hv]; rfl
                    clear hh
                    have va : decide ((pn : Int) < (po : Int) + (dat.length : Int)) = true := decide_eq_true (by omega)
                    have vb : ((pn : Int) < (po : Int) + (dat.length : Int)) = True := eq_true (by omega)
                    have vc : decide (pn < po + dat.length) = true := decide_eq_true hv
                    clear hv
                    go_wp2_with (first | (go_at_call 21; refine (Ret.later (L7.out _)).mono ?_; rintro x _ ⟨rfl, e, rfl⟩) | (go_at_call 23; refine (Ret.later (KH.out _)).mono ?_; rintro x _ ⟨rfl, e, rfl⟩))
                    go_ret
                    exact Ret.mk (by rw [HR.out]; rfl) (HE1.out.trans e.h)
                  · have HR5 : Hid (RES = if 4000 < BB.length then 4 else 0) := by unfold Hid; rw [HR4.out, HR3'.out, hh, decide_eq_false hv]; rfl
                    clear hh
                    have va : decide ((pn : Int) < (po : Int) + (dat.length : Int)) = false := decide_eq_false (by omega)
                    have vb : ((pn : Int) < (po : Int) + (dat.length : Int)) = False := eq_false (by omega)
                    have vc : decide (pn < po + dat.length) = false := decide_eq_false hv
                    clear hv
                    go_upto_region 20 with (first | (go_at_call 21; refine (Ret.later (L7.out _)).mono ?_; rintro x _ ⟨rfl, e, rfl⟩) | (go_at_call 23; refine (Ret.later (KH.out _)).mono ?_; rintro x _ ⟨rfl, e, rfl⟩))
                    by_cases hl : 4000 < BB.length
                    · have HR : Hid (RES = 4) := by unfold Hid; rw [HR5.out, if_pos hl]
                      have la : decide ((4000 : Int) < (BB.length : Int)) = true := decide_eq_true (by omega)
                      have lb : ((4000 : Int) < (BB.length : Int)) = True := eq_true (by omega)
                      have lc : decide (4000 < BB.length) = true := decide_eq_true hl
                      clear hl
                      go_wp2_with (first | (refine wpList_row (by rfl) 37 _ rfl _ rfl (HB1.out.later _) Tryz.underlying37 rfl (by kernel_rfl) ?_) | (go_at_call 24; refine (Ret.later (KB.out _)).mono ?_; rintro x _ ⟨rfl, e, rfl⟩))
                      go_ret
                      exact Ret.mk (by rw [HR.out]; rfl) (HE1.out.trans e.h)
                    · have HR : Hid (RES = 0) := by unfold Hid; rw [HR5.out, if_neg hl]
                      have la : decide ((4000 : Int) < (BB.length : Int)) = false := decide_eq_false (by omega)
                      have lb : ((4000 : Int) < (BB.length : Int)) = False := eq_false (by omega)
                      have lc : decide (4000 < BB.length) = false := decide_eq_false hl
                      clear hl
                      go_wp2_with (first | (refine wpList_row (by rfl) 37 _ rfl _ rfl (HB1.out.later _) Tryz.underlying37 rfl (by kernel_rfl) ?_) | (go_at_call 24; refine (Ret.later (KB.out _)).mono ?_; rintro x _ ⟨rfl, e, rfl⟩))
                      go_ret
                      exact Ret.mk (by rw [HR.out]; rfl) (HE1.out.trans e.h)
            · have HF2 : Hid (R2 = false) := by unfold Hid; rw [HR2'.out]; simp [HT1.out, zp]
              have sa : (((pt : Int)) == (0)) = false := by rw [beq_eq_false_iff_ne]; omega
              have sb : (((pt : Int)) = (0)) = False := eq_false (by omega)
              have sc : (((pt : Int)) != (0)) = true := by rw [bne_iff_ne]; omega
              have sna : ((pt) == (0)) = false := by rw [beq_eq_false_iff_ne]; omega
              have snb : ((pt) = (0)) = False := eq_false (by omega)
              have snc : ((pt) != (0)) = true := by rw [bne_iff_ne]; omega
              clear zp
              go_upto_region 18 with (first | (go_at_call 21; refine (Ret.later (L7.out _)).mono ?_; rintro x _ ⟨rfl, e, rfl⟩) | (go_at_call 23; refine (Ret.later (KH.out _)).mono ?_; rintro x _ ⟨rfl, e, rfl⟩))
              clear sa sb sc sna snb snc ta tb tc
              have HR4 : Hid (RES = if R3 = true then 8 else if 4000 < BB.length then 4 else 0) := by unfold Hid; rw [HR3.out, HF2.out]; rfl
              cases hh : has p.fl 1 with
              | false =>
                rw [hh] at KH
                have HR5 : Hid (RES = if 4000 < BB.length then 4 else 0) := by unfold Hid; rw [HR4.out, HR3'.out, hh]; rfl
                clear hh
                go_upto_region 20 with (first | (go_at_call 21; refine (Ret.later (L7.out _)).mono ?_; rintro x _ ⟨rfl, e, rfl⟩) | (go_at_call 23; refine (Ret.later (KH.out _)).mono ?_; rintro x _ ⟨rfl, e, rfl⟩))
                by_cases hl : 4000 < BB.length
                · have HR : Hid (RES = 4) := by unfold Hid; rw [HR5.out, if_pos hl]
                  have la : decide ((4000 : Int) < (BB.length : Int)) = true := decide_eq_true (by omega)
                  have lb : ((4000 : Int) < (BB.length : Int)) = True := eq_true (by omega)
                  have lc : decide (4000 < BB.length) = true := decide_eq_true hl
                  clear hl
                  go_wp2_with (first | (refine wpList_row (by rfl) 37 _ rfl _ rfl (HB1.out.later _) Tryz.underlying37 rfl (by kernel_rfl) ?_) | (go_at_call 24; refine (Ret.later (KB.out _)).mono ?_; rintro x _ ⟨rfl, e, rfl⟩))
                  go_ret
                  exact Ret.mk (by rw [HR.out]; rfl) (HE1.out.trans e.h)
                · have HR : Hid (RES = 0) := by unfold Hid; rw [HR5.out, if_neg hl]
                  have la : decide ((4000 : Int) < (BB.length : Int)) = false := decide_eq_false (by omega)
                  have lb : ((4000 : Int) < (BB.length : Int)) = False := eq_false (by omega)
                  have lc : decide (4000 < BB.length) = false := decide_eq_false hl
                  clear hl
                  go_wp2_with (first | (refine wpList_row (by rfl) 37 _ rfl _ rfl (HB1.out.later _) Tryz.underlying37 rfl (by kernel_rfl) ?_) | (go_at_call 24; refine (Ret.later (KB.out _)).mono ?_; rintro x _ ⟨rfl, e, rfl⟩))
                  go_ret
                  exact Ret.mk (by rw [HR.out]; rfl) (HE1.out.trans e.h)
              | true =>
                rw [hh] at KH
                by_cases hv : pn < po + dat.length
                · have HR : Hid (RES = 8) := by unfold Hid; rw [HR4.out, HR3'.out, hh, decide_eq_true hv]; rfl
                  clear hh
                  have va : decide ((pn : Int) < (po : Int) + (dat.length : Int)) = true := decide_eq_true (by omega)
                  have vb : ((pn : Int) < (po : Int) + (dat.length : Int)) = True := eq_true (by omega)
                  have vc : decide (pn < po + dat.length) = true := decide_eq_true hv
                  clear hv
                  go_wp2_with (first | (go_at_call 21; refine (Ret.later (L7.out _)).mono ?_; rintro x _ ⟨rfl, e, rfl⟩) | (go_at_call 23; refine (Ret.later (KH.out _)).mono ?_; rintro x _ ⟨rfl, e, rfl⟩))
                  go_ret
                  exact Ret.mk (by rw [HR.out]; rfl) (HE1.out.trans e.h)
                · have HR5 : Hid (RES = if 4000 < BB.length then 4 else 0) := by unfold Hid; rw [HR4.out, HR3'.out, hh, decide_eq_false hv]; rfl
                  clear hh
                  have va : decide ((pn : Int) < (po : Int) + (dat.length : Int)) = false := decide_eq_false (by omega)
                  have vb : ((pn : Int) < (po : Int) + (dat.length : Int)) = False := eq_false (by omega)
                  have vc : decide (pn < po + dat.length) = false := decide_eq_false hv
                  clear hv
                  go_upto_region 20 with (first | (go_at_call 21; refine (Ret.later (L7.out _)).mono ?_; rintro x _ ⟨rfl, e, rfl⟩) | (go_at_call 23; refine (Ret.later (KH.out _)).mono ?_; rintro x _ ⟨rfl, e, rfl⟩))
                  by_cases hl : 4000 < BB.length
                  · have HR : Hid (RES = 4) := by unfold Hid; rw [HR5.out, if_pos hl]
                    have la : decide ((4000 : Int) < (BB.length : Int)) = true := decide_eq_true (by omega)
                    have lb : ((4000 : Int) < (BB.length : Int)) = True := eq_true (by omega)
                    have lc : decide (4000 < BB.length) = true := decide_eq_true hl
                    clear hl
                    go_wp2_with (first | (refine wpList_row (by rfl) 37 _ rfl _ rfl (HB1.out.later _) Tryz.underlying37 rfl (by kernel_rfl) ?_) | (go_at_call 24; refine (Ret.later (KB.out _)).mono ?_; rintro x _ ⟨rfl, e, rfl⟩))
                    go_ret
                    exact Ret.mk (by rw [HR.out]; rfl) (HE1.out.trans e.h)
                  · have HR : Hid (RES = 0) := by unfold Hid; rw [HR5.out, if_neg hl]
                    have la : decide ((4000 : Int) < (BB.length : Int)) = false := decide_eq_false (by omega)
                    have lb : ((4000 : Int) < (BB.length : Int)) = False := eq_false (by omega)
                    have lc : decide (4000 < BB.length) = false := decide_eq_false hl
                    clear hl
                    go_wp2_with (first | (refine wpList_row (by rfl) 37 _ rfl _ rfl (HB1.out.later _) Tryz.underlying37 rfl (by kernel_rfl) ?_) | (go_at_call 24; refine (Ret.later (KB.out _)).mono ?_; rintro x _ ⟨rfl, e, rfl⟩))
                    go_ret
                    exact Ret.mk (by rw [HR.out]; rfl) (HE1.out.trans e.h)
          · have HR : Hid (RES = 8) := by unfold Hid; rw [HR3.out, HR2'.out]; simp [zt]
            have sa : ((ty) == (1)) = false := by rw [beq_eq_false_iff_ne]; exact zt
            have sb : ((ty) = (1)) = False := eq_false (by exact zt)
            have sc : ((ty) != (1)) = true := by rw [bne_iff_ne]; exact zt
            clear zt
            go_wp2_with (first | (go_at_call 21; refine (Ret.later (L7.out _)).mono ?_; rintro x _ ⟨rfl, e, rfl⟩) | (go_at_call 23; refine (Ret.later (KH.out _)).mono ?_; rintro x _ ⟨rfl, e, rfl⟩))
            go_ret
            exact Ret.mk (by rw [HR.out]; rfl) (HE1.out.trans e.h)
theorem r13Right_any (p : PV) (bs : Nat → BV) (k c : Nat) (A : Option Addr) (hf : p.fl < 18446744073709551616) (hk : k < 4611686018427387904) (hd : ∀ i, i < k → (bs i).data.length ≤ 100000) (w : World) (h : BsL w A k bs) : Calls Tryz.prog 11 #[bunV p A k c] w (Ret (.int .i64 (bunRight p bs k)) w) := by
  unfold bunRight
  by_cases hb : p.right = 0
  · rw [if_neg (by simpa using hb)]; exact r13Right_ok p bs k c A hf hk hb hd w h
  · rw [if_pos hb]; exact r13Right_p p bs k c A hf hk hb w h
end Go.Proofs.YtogjghmoankleaaGreat


namespace Go.Proofs.YtogjghmoankleaaGreat
open Go.RowKit
set_option linter.unusedVariables false
set_option linter.unusedSimpArgs false

theorem RV.bytes_len {r : RV} (h : r.right = true) : r.bytes.length ≤ 100000 := by
  have := (RV.tree_all h).2.2
  have := T.bytes_le r.tree
  unfold RV.bytes; omega
end Go.Proofs.YtogjghmoankleaaGreat


namespace Go.Proofs.YtogjghmoankleaaGreat
open Go.RowKit
set_option linter.unusedVariables false
set_option linter.unusedSimpArgs false

theorem writeFrom_pre (cs : Array Value) (l : List Value) (v : Value) (hs : cs.size = l.length + 1) (hv : cs[l.length]? = some v) : writeFrom cs 0 l = (l ++ [v]).toArray := by
  apply Array.ext_getElem?
  intro j
  rw [writeFrom_get l 0 cs j (by omega)]
  by_cases h : j < l.length
  · rw [if_pos ⟨Nat.zero_le _, by omega⟩]
    simp [List.getElem?_append_left h]
  · rw [if_neg (by omega)]
    by_cases e : j = l.length
    · subst e; rw [hv]; simp
    · rw [Array.getElem?_eq_none (by omega)]
      symm
      rw [List.getElem?_toArray, List.getElem?_eq_none (by simp; omega)]
theorem setCells_pre {t : TypeId} {b : Nat} {W : World} {cs : Array Value} (h : Blk W b t cs) (l : List Value) (v : Value) (hs : cs.size = l.length + 1) (hv : cs[l.length]? = some v) : Blk (W.setCells b 0 l) b t (l ++ [v]).toArray := by
  rw [← writeFrom_pre cs l v hs hv]; exact setRow_eq l W 0 ▸ setRow_blk l W 0 cs h
set_option maxRecDepth 20000 in
set_option maxHeartbeats 8000000 in
theorem r25Make_any (y : EV) (p : PV) (r : RV) (t q l : Nat) (w : World) : Calls Tryz.prog 8 #[y.v, .agg p.c, repV r, .agg #[.int .u64 (t : Int), .int .u64 (q : Int), .int .u64 (l : Int)]] w (MkPost (mkP p.r y t q l) r w) := by
  have HE := hid ((((((Mod.refl [] w).alloc (.cells y.c 24)).alloc (.cells p.c 34)).alloc (.cells (repC r) 29)).alloc (.cells #[.int .u64 (t : Int), .int .u64 (q : Int), .int .u64 (l : Int)] 30)).alloc (.cells #[.int .u64 0, .int .i64 0, .int .i64 0, .string ⟨#[]⟩, .int .u64 0, .int .u64 0, .int .i64 0, .string ⟨#[]⟩, .int .u64 0, .int .u64 0, .int .i64 0, .string ⟨#[]⟩, .int .u64 0, .int .u64 0, .int .u64 0, .int .u64 0, .int .u64 0, .int .u64 0, .int .u64 0, .slice none 0 0] 37))
  have HB0 : Hid (Blk (((((w.alloc (.cells y.c 24)).alloc (.cells p.c 34)).alloc (.cells (repC r) 29)).alloc (.cells #[.int .u64 (t : Int), .int .u64 (q : Int), .int .u64 (l : Int)] 30)).alloc (.cells #[.int .u64 0, .int .i64 0, .int .i64 0, .string ⟨#[]⟩, .int .u64 0, .int .u64 0, .int .i64 0, .string ⟨#[]⟩, .int .u64 0, .int .u64 0, .int .i64 0, .string ⟨#[]⟩, .int .u64 0, .int .u64 0, .int .u64 0, .int .u64 0, .int .u64 0, .int .u64 0, .int .u64 0, .slice none 0 0] 37)) w.heap.size 24 y.c) := hid (((((Blk.new w 24 y.c).alloc (.cells p.c 34)).alloc (.cells (repC r) 29)).alloc (.cells #[.int .u64 (t : Int), .int .u64 (q : Int), .int .u64 (l : Int)] 30)).alloc (.cells #[.int .u64 0, .int .i64 0, .int .i64 0, .string ⟨#[]⟩, .int .u64 0, .int .u64 0, .int .i64 0, .string ⟨#[]⟩, .int .u64 0, .int .u64 0, .int .i64 0, .string ⟨#[]⟩, .int .u64 0, .int .u64 0, .int .u64 0, .int .u64 0, .int .u64 0, .int .u64 0, .int .u64 0, .slice none 0 0] 37))
  have HB1 : Hid (Blk (((((w.alloc (.cells y.c 24)).alloc (.cells p.c 34)).alloc (.cells (repC r) 29)).alloc (.cells #[.int .u64 (t : Int), .int .u64 (q : Int), .int .u64 (l : Int)] 30)).alloc (.cells #[.int .u64 0, .int .i64 0, .int .i64 0, .string ⟨#[]⟩, .int .u64 0, .int .u64 0, .int .i64 0, .string ⟨#[]⟩, .int .u64 0, .int .u64 0, .int .i64 0, .string ⟨#[]⟩, .int .u64 0, .int .u64 0, .int .u64 0, .int .u64 0, .int .u64 0, .int .u64 0, .int .u64 0, .slice none 0 0] 37)) (w.heap.size + 1) 34 p.c) := by unfold Hid; have := (Blk.newL (N := (w.heap.size + 1)) (w.alloc (.cells y.c 24)) 34 p.c (by simp)); exact (((this.alloc (.cells (repC r) 29)).alloc (.cells #[.int .u64 (t : Int), .int .u64 (q : Int), .int .u64 (l : Int)] 30)).alloc (.cells #[.int .u64 0, .int .i64 0, .int .i64 0, .string ⟨#[]⟩, .int .u64 0, .int .u64 0, .int .i64 0, .string ⟨#[]⟩, .int .u64 0, .int .u64 0, .int .i64 0, .string ⟨#[]⟩, .int .u64 0, .int .u64 0, .int .u64 0, .int .u64 0, .int .u64 0, .int .u64 0, .int .u64 0, .slice none 0 0] 37))
  have HB2 : Hid (Blk (((((w.alloc (.cells y.c 24)).alloc (.cells p.c 34)).alloc (.cells (repC r) 29)).alloc (.cells #[.int .u64 (t : Int), .int .u64 (q : Int), .int .u64 (l : Int)] 30)).alloc (.cells #[.int .u64 0, .int .i64 0, .int .i64 0, .string ⟨#[]⟩, .int .u64 0, .int .u64 0, .int .i64 0, .string ⟨#[]⟩, .int .u64 0, .int .u64 0, .int .i64 0, .string ⟨#[]⟩, .int .u64 0, .int .u64 0, .int .u64 0, .int .u64 0, .int .u64 0, .int .u64 0, .int .u64 0, .slice none 0 0] 37)) (w.heap.size + 1 + 1) 29 (repC r)) := by unfold Hid; have := (Blk.newL (N := (w.heap.size + 1 + 1)) ((w.alloc (.cells y.c 24)).alloc (.cells p.c 34)) 29 (repC r) (by simp)); exact ((this.alloc (.cells #[.int .u64 (t : Int), .int .u64 (q : Int), .int .u64 (l : Int)] 30)).alloc (.cells #[.int .u64 0, .int .i64 0, .int .i64 0, .string ⟨#[]⟩, .int .u64 0, .int .u64 0, .int .i64 0, .string ⟨#[]⟩, .int .u64 0, .int .u64 0, .int .i64 0, .string ⟨#[]⟩, .int .u64 0, .int .u64 0, .int .u64 0, .int .u64 0, .int .u64 0, .int .u64 0, .int .u64 0, .slice none 0 0] 37))
  have HB3 : Hid (Blk (((((w.alloc (.cells y.c 24)).alloc (.cells p.c 34)).alloc (.cells (repC r) 29)).alloc (.cells #[.int .u64 (t : Int), .int .u64 (q : Int), .int .u64 (l : Int)] 30)).alloc (.cells #[.int .u64 0, .int .i64 0, .int .i64 0, .string ⟨#[]⟩, .int .u64 0, .int .u64 0, .int .i64 0, .string ⟨#[]⟩, .int .u64 0, .int .u64 0, .int .i64 0, .string ⟨#[]⟩, .int .u64 0, .int .u64 0, .int .u64 0, .int .u64 0, .int .u64 0, .int .u64 0, .int .u64 0, .slice none 0 0] 37)) (w.heap.size + 1 + 1 + 1) 30 #[.int .u64 (t : Int), .int .u64 (q : Int), .int .u64 (l : Int)]) := by unfold Hid; have := (Blk.newL (N := (w.heap.size + 1 + 1 + 1)) (((w.alloc (.cells y.c 24)).alloc (.cells p.c 34)).alloc (.cells (repC r) 29)) 30 #[.int .u64 (t : Int), .int .u64 (q : Int), .int .u64 (l : Int)] (by simp)); exact (this.alloc (.cells #[.int .u64 0, .int .i64 0, .int .i64 0, .string ⟨#[]⟩, .int .u64 0, .int .u64 0, .int .i64 0, .string ⟨#[]⟩, .int .u64 0, .int .u64 0, .int .i64 0, .string ⟨#[]⟩, .int .u64 0, .int .u64 0, .int .u64 0, .int .u64 0, .int .u64 0, .int .u64 0, .int .u64 0, .slice none 0 0] 37))
  have HB4 : Hid (Blk (((((w.alloc (.cells y.c 24)).alloc (.cells p.c 34)).alloc (.cells (repC r) 29)).alloc (.cells #[.int .u64 (t : Int), .int .u64 (q : Int), .int .u64 (l : Int)] 30)).alloc (.cells #[.int .u64 0, .int .i64 0, .int .i64 0, .string ⟨#[]⟩, .int .u64 0, .int .u64 0, .int .i64 0, .string ⟨#[]⟩, .int .u64 0, .int .u64 0, .int .i64 0, .string ⟨#[]⟩, .int .u64 0, .int .u64 0, .int .u64 0, .int .u64 0, .int .u64 0, .int .u64 0, .int .u64 0, .slice none 0 0] 37)) (w.heap.size + 1 + 1 + 1 + 1) 37 #[.int .u64 0, .int .i64 0, .int .i64 0, .string ⟨#[]⟩, .int .u64 0, .int .u64 0, .int .i64 0, .string ⟨#[]⟩, .int .u64 0, .int .u64 0, .int .i64 0, .string ⟨#[]⟩, .int .u64 0, .int .u64 0, .int .u64 0, .int .u64 0, .int .u64 0, .int .u64 0, .int .u64 0, .slice none 0 0]) := by unfold Hid; exact Blk.newL _ _ _ (by simp)
  have KG := hid (fun W => r25Right_any r W)
  go_enter Tryz.func8, Tryz.ntmps8
  go_upto_region 1 with fail
  generalize (((((w.alloc (.cells y.c 24)).alloc (.cells p.c 34)).alloc (.cells (repC r) 29)).alloc (.cells #[.int .u64 (t : Int), .int .u64 (q : Int), .int .u64 (l : Int)] 30)).alloc (.cells #[.int .u64 0, .int .i64 0, .int .i64 0, .string ⟨#[]⟩, .int .u64 0, .int .u64 0, .int .i64 0, .string ⟨#[]⟩, .int .u64 0, .int .u64 0, .int .i64 0, .string ⟨#[]⟩, .int .u64 0, .int .u64 0, .int .u64 0, .int .u64 0, .int .u64 0, .int .u64 0, .int .u64 0, .slice none 0 0] 37)) = V at *
  obtain ⟨e, he⟩ := Later.self V
  rw [he]
  clear he
  have HBL : Hid (∀ e : Later V, Blk e.x (w.heap.size + 2) 29 (repC r)) := hid (fun e => HB2.out.later e)
  have tk1 : True := trivial
  cases hr : r.right with
  | false =>
    have HMR : Hid (mkR (mkP p.r y t q l) r = 1) := hid (by unfold mkR; rw [hr]; rfl)
    rw [hr] at KG
    clear hr
    go_upto_region 2 with (first | (clear tk1; refine wpList_row (by rfl) 29 _ rfl _ rfl (HBL.out _) Tryz.underlying29 rfl (by kernel_rfl) ?_) | (go_at_call 17; refine (Ret.later (KG.out _)).mono ?_; rintro x _ ⟨rfl, e, rfl⟩))
    go_wp2_with (first | (refine wpList_store_mid rfl 37 _ _ rfl (w.heap.size + 4) 0 zeroBun (by rfl) (by rfl) ((HB4.out.later e).there (Nat.le_refl 20)) (by kernel_rfl) (by simp [zeroBun, Value.oneCell']) ?_))
    generalize hZZ : World.setCells _ _ _ _ = ZZ
    have HZB : Hid (Blk ZZ (w.heap.size + 4) 37 zeroBun) := hid (by rw [← hZZ]; exact setCells_all (ds := zeroBun) (HB4.out.later e) rfl)
    have HZM : Hid (Ext w ZZ) := hid (by rw [← hZZ]; exact setCells_mod _ _ (HE.out.trans e.h) (.inr (by omega)))
    have HZX : Hid (∀ A k bs, BsL e.x A k bs → (∀ b o, A = some ⟨b, o, none⟩ → b ≠ w.heap.size + 4) → BsL ZZ A k bs) := hid (fun A k bs h hn hk => by
      obtain ⟨b, o, hA, hb, hc⟩ := h hk
      have hM : Mod [w.heap.size + 4] e.x ZZ := by rw [← hZZ]; exact setCells_mod _ _ (Mod.refl _ _) (.inl (by simp))
      exact ⟨b, o, hA, Nat.lt_of_lt_of_le hb hM.size, fun i hi => (hc i hi).mod hM hb (by simpa using hn b o hA)⟩)
    clear hZZ
    refine bodyPost_ret (results_cell2 rfl _ (by rfl) rfl HZB.out Tryz.underlying37 rfl (by kernel_rfl)) rfl ?_
    exact ⟨zeroBun, by rw [HMR.out]; rfl, HZM.out, Or.inl ⟨by rw [HMR.out]; decide, rfl⟩⟩
  | true =>
    have HMR : Hid (mkR (mkP p.r y t q l) r = bunRight (mkP p.r y t q l) (mkB r.bytes) 2) := hid (by unfold mkR; rw [hr]; rfl)
    have KY := hid (fun W => r25Bytes_any r hr W)
    have hb5 := RV.bytes_len hr
    have KR : Hid (∀ W A, BsL W A 2 (mkB r.bytes) → Calls Tryz.prog 11 #[bunV (mkP p.r y t q l) A 2 2] W (Ret (.int .i64 (bunRight (mkP p.r y t q l) (mkB r.bytes) 2)) W)) := hid (fun W A hL => r13Right_any (mkP p.r y t q l) (mkB r.bytes) 2 2 A (by show 2 < _; decide) (by decide) (fun i hi => by
      have hi : i = 0 ∨ i = 1 := by omega
      rcases hi with rfl | rfl
      · show (1 : Nat) ≤ _; decide
      · exact hb5) W hL)
    have HRT := hid hr
    rw [hr] at KG
    clear hr hb5
    obtain ⟨s, hs⟩ : ∃ s, r.bytes = s := ⟨_, rfl⟩
    have HS := hid hs
    rw [hs] at KY HMR
    clear hs
    go_upto_region 4 with (first | (clear tk1; refine wpList_row (by rfl) 29 _ rfl _ rfl (HBL.out _) Tryz.underlying29 rfl (by kernel_rfl) ?_) | (go_at_call 17; refine (Ret.later (KG.out _)).mono ?_; rintro x _ ⟨rfl, e, rfl⟩))
    generalize hU : World.alloc e.x _ = U
    have HT : Hid (Blk U e.x.heap.size 37 #[.int .u64 0, .int .i64 0, .int .i64 0, .string ⟨#[]⟩, .int .u64 0, .int .u64 0, .int .i64 0, .string ⟨#[]⟩, .int .u64 0, .int .u64 0, .int .i64 0, .string ⟨#[]⟩, .int .u64 0, .int .u64 0, .int .u64 0, .int .u64 0, .int .u64 0, .int .u64 0, .int .u64 0, .slice none 0 0]) := hid (by rw [← hU]; exact Blk.new _ _ _)
    have HVU : Hid (Ext V U) := hid (by rw [← hU]; exact e.h.alloc _)
    have HNT : Hid (V.heap.size ≤ e.x.heap.size) := hid e.h.size
    clear hU
    generalize e.x.heap.size = nT at *
    clear e
    have HPR : Hid (∀ e : Later U, e.x.rangeAt (w.heap.size + 1) 10 [.int .i64 p.r.sch, str p.r.name, .int .u64 (p.r.node : Int), .int .u64 (p.r.svc : Int)]) := hid (fun e => (HB1.out.ext HVU.out).range 10 4 (by rfl) e)
    have HEL : Hid (∀ e : Later U, Blk e.x w.heap.size 24 y.c) := hid (fun e => (HB0.out.ext HVU.out).later e)
    have d0 : ∀ e : Later U, e.x.cell? ⟨w.heap.size + 3, 0, none⟩ = some (.int .u64 (t : Int)) := fun e => ((HB3.out.ext HVU.out).later e).cell 0
    have d1 : ∀ e : Later U, e.x.cell? ⟨w.heap.size + 3, 1, none⟩ = some (.int .u64 (q : Int)) := fun e => ((HB3.out.ext HVU.out).later e).cell 1
    have d2 : ∀ e : Later U, e.x.cell? ⟨w.heap.size + 3, 2, none⟩ = some (.int .u64 (l : Int)) := fun e => ((HB3.out.ext HVU.out).later e).cell 2
    obtain ⟨e, he⟩ := Later.self U
    rw [he]
    clear he
    have tk1 : True := trivial
    have tk2 : True := trivial
    go_upto_region 5 with (first | (clear tk1; refine wpList_mid (by rfl) 24 _ rfl _ 10 rfl _ _ (HPR.out _) Tryz.underlying24 rfl (by kernel_rfl) ?_) | (clear tk2; refine wpList_row (by rfl) 24 _ rfl _ rfl (HEL.out _) Tryz.underlying24 rfl (by kernel_rfl) ?_) | (refine wpList_store_mid rfl 34 _ _ rfl nT 0 #[.int .u64 2, .int .i64 0, .int .i64 p.r.sch, str p.r.name, .int .u64 (p.r.node : Int), .int .u64 (p.r.svc : Int), .int .i64 y.sch, str y.name, .int .u64 (y.node : Int), .int .u64 (y.svc : Int), .int .i64 1, str [110, 111, 110, 101], .int .u64 0, .int .u64 0, .int .u64 (t : Int), .int .u64 (q : Int), .int .u64 (l : Int), .int .u64 0, .int .u64 0] (by rfl) (by rfl) ((HT.out.later e).there (show 19 ≤ 20 by decide)) (by kernel_rfl) (by simp [Value.oneCell']) ?_))
    generalize hZ : World.setCells _ _ _ _ = U5
    have HT5 : Hid (Blk U5 nT 37 #[.int .u64 2, .int .i64 0, .int .i64 p.r.sch, str p.r.name, .int .u64 (p.r.node : Int), .int .u64 (p.r.svc : Int), .int .i64 y.sch, str y.name, .int .u64 (y.node : Int), .int .u64 (y.svc : Int), .int .i64 1, str [110, 111, 110, 101], .int .u64 0, .int .u64 0, .int .u64 (t : Int), .int .u64 (q : Int), .int .u64 (l : Int), .int .u64 0, .int .u64 0, .slice none 0 0]) := hid (by rw [← hZ]; exact setCells_pre (HT.out.later e) _ (.slice none 0 0) rfl rfl)
    have HM5 : Hid (Mod [nT] V U5) := hid (by rw [← hZ]; exact setCells_mod _ _ ((HVU.out.trans e.h).mono (by simp)) (.inl (by simp)))
    clear hZ d0 d1 d2 HPR HEL HT e
    have HBL : Hid (∀ e : Later U5, Blk e.x (w.heap.size + 2) 29 (repC r)) := hid (fun e => (HB2.out.mod HM5.out (by have := HB2.out.lt; have := HNT.out; simp; omega)).later e)
    have c19 : ∀ e : Later U5, e.x.cell? ⟨nT, 19, none⟩ = some (.slice none 0 0) := HT5.out.cellL 19 rfl
    have f19 : ∀ e : Later U5, e.x.frozen? ⟨nT, 19, none⟩ = false := fun e => (HT5.out.later e).frozen 19
    obtain ⟨e, he⟩ := Later.self U5
    rw [he]
    clear he
    have tk1 : True := trivial
    go_upto_region 6 with (first | (clear tk1; refine wpList_row (by rfl) 29 _ rfl _ rfl (HBL.out _) Tryz.underlying29 rfl (by kernel_rfl) ?_) | (go_at_call 18; refine (Ret.later (KY.out _)).mono ?_; rintro x _ ⟨rfl, e, rfl⟩; have ca : (World.alloc e.x (.cells #[.int .i64 7, .int .i64 2, .int .u64 0, .int .i64 0, str [0], .int .i64 1, .int .i64 1, .int .u64 0, .int .i64 0, str s] 49)).cell? ⟨nT, 19, none⟩ = some (.slice none 0 0) := ((HT5.out.later e).alloc _).cell 19; have fa : (World.alloc e.x (.cells #[.int .i64 7, .int .i64 2, .int .u64 0, .int .i64 0, str [0], .int .i64 1, .int .i64 1, .int .u64 0, .int .i64 0, str s] 49)).frozen? ⟨nT, 19, none⟩ = false := ((HT5.out.later e).alloc _).frozen 19))
    generalize hZ : World.setCell _ _ _ = U6
    have HT6 : Hid (Blk U6 nT 37 #[.int .u64 2, .int .i64 0, .int .i64 p.r.sch, str p.r.name, .int .u64 (p.r.node : Int), .int .u64 (p.r.svc : Int), .int .i64 y.sch, str y.name, .int .u64 (y.node : Int), .int .u64 (y.svc : Int), .int .i64 1, str [110, 111, 110, 101], .int .u64 0, .int .u64 0, .int .u64 (t : Int), .int .u64 (q : Int), .int .u64 (l : Int), .int .u64 0, .int .u64 0, .slice (some ⟨e.x.heap.size, 0, none⟩) 2 2]) := hid (by rw [← hZ]; exact ((HT5.out.later e).alloc _).set_ 19 _)
    have HK6 : Hid (Blk U6 e.x.heap.size 49 #[.int .i64 7, .int .i64 2, .int .u64 0, .int .i64 0, str [0], .int .i64 1, .int .i64 1, .int .u64 0, .int .i64 0, str s]) := hid (by rw [← hZ]; exact (Blk.new _ _ _).mod (S := [nT]) ((Mod.refl _ _).setCell (.inl (by simp)) _) (by have := (HT5.out.later e).lt; simp; omega))
    have HM6 : Hid (Mod [nT] V U6) := hid (by rw [← hZ]; exact ((HM5.out.trans (e.h.mono (by simp))).trans (((Mod.refl [nT] _).alloc _))).setCell (.inl (by simp)) _)
    have HGS : Hid (V.heap.size ≤ e.x.heap.size) := hid (Nat.le_trans HM5.out.size e.h.size)
    clear hZ ca fa c19 f19
    generalize e.x.heap.size = gs at *
    clear e
    obtain ⟨zc, hzc⟩ : ∃ zc : Array Value, zc = #[.int .u64 2, .int .i64 0, .int .i64 p.r.sch, str p.r.name, .int .u64 (p.r.node : Int), .int .u64 (p.r.svc : Int), .int .i64 y.sch, str y.name, .int .u64 (y.node : Int), .int .u64 (y.svc : Int), .int .i64 1, str [110, 111, 110, 101], .int .u64 0, .int .u64 0, .int .u64 (t : Int), .int .u64 (q : Int), .int .u64 (l : Int), .int .u64 0, .int .u64 0, .slice (some ⟨gs, 0, none⟩) 2 2] := ⟨_, rfl⟩
    have HT : Hid (∀ e : Later U6, Blk e.x nT 37 zc) := hid (fun e => by rw [hzc]; exact HT6.out.later e)
    have HBS : Hid (∀ e : Later U6, BsL e.x (some ⟨gs, 0, none⟩) 2 (mkB s)) := hid (fun e => (mkB_IsL HK6.out).ext e.h)
    have KR : Hid (∀ W, BsL W (some ⟨gs, 0, none⟩) 2 (mkB s) → Calls Tryz.prog 11 #[.agg zc] W (Ret (.int .i64 (bunRight (mkP p.r y t q l) (mkB s) 2)) W)) := hid (fun W hL => by rw [hzc, ← HS.out]; exact KR.out W _ (by rw [HS.out]; exact hL))
    have HZS : Hid ((Tryz.prog.info? 37).map (·.size) = some zc.size) := hid (by rw [hzc]; kernel_rfl)
    have HZ1 : Hid (zc.all (·.oneCell') = true) := hid (by rw [hzc]; simp [Value.oneCell'])
    have HZ2 : Hid (zc.size = 20) := hid (by rw [hzc]; rfl)
    have HZC : Hid (zc = bunC (mkP p.r y t q l) (some ⟨gs, 0, none⟩) 2 2) := hid hzc
    have HSV : Hid (w.heap.size + 4 < V.heap.size) := hid HB4.out.lt
    have HB4 : Hid (Blk U6 (w.heap.size + 4) 37 #[.int .u64 0, .int .i64 0, .int .i64 0, .string ⟨#[]⟩, .int .u64 0, .int .u64 0, .int .i64 0, .string ⟨#[]⟩, .int .u64 0, .int .u64 0, .int .i64 0, .string ⟨#[]⟩, .int .u64 0, .int .u64 0, .int .u64 0, .int .u64 0, .int .u64 0, .int .u64 0, .int .u64 0, .slice none 0 0]) := hid (HB4.out.mod HM6.out (by have := HSV.out; have := HNT.out; simp; omega))
    have HE : Hid (Ext w U6) := hid ((HE.out.of_ext.trans HM6.out).new (fun k hk => .inr (by have := HSV.out; have := HNT.out; rw [List.mem_singleton] at hk; omega)))
    clear hzc HT6 HK6 HM6 HT5 HM5 HBL HB0 HB1 HB2 HB3 KG KY HVU
    generalize bunRight (mkP p.r y t q l) (mkB s) 2 = R at *
    obtain ⟨e, he⟩ := Later.self U6
    rw [he]
    clear he
    have tk1 : True := trivial
    go_upto_region 7 with (first | (clear tk1; refine wpList_row (by rfl) 37 _ rfl _ rfl (HT.out _) Tryz.underlying37 rfl HZS.out ?_) | (go_at_call 11; refine (Ret.later (KR.out _ (HBS.out _))).mono ?_; rintro x _ ⟨rfl, e, rfl⟩))
    by_cases hR : R = 0
    · have HR := hid hR
      have t1a : ((R) == (0)) = true := by rw [beq_iff_eq]; exact hR
      have t1b : ((R) = (0)) = True := eq_true (by exact hR)
      have t1c : ((R) != (0)) = false := by rw [bne_eq_false_iff_eq]; exact hR
      clear hR
      have tk1 : True := trivial
      go_wp2_with (first | (clear tk1; refine wpList_row (by rfl) 37 _ rfl _ rfl (HT.out _) Tryz.underlying37 rfl HZS.out ?_) | (refine wpList_store_mid rfl 37 _ _ rfl (w.heap.size + 4) 0 zc (by rfl) (by rfl) ((HB4.out.later e).there (by rw [HZ2.out]; exact Nat.le_refl 20)) HZS.out HZ1.out ?_))
      generalize hZZ : World.setCells _ _ _ _ = ZZ
      have HZB : Hid (Blk ZZ (w.heap.size + 4) 37 zc) := hid (by rw [← hZZ]; exact setCells_all (ds := zc) (HB4.out.later e) (by rw [Array.length_toList, HZ2.out]; rfl))
      have HZM : Hid (Ext w ZZ) := hid (by rw [← hZZ]; exact setCells_mod _ _ (HE.out.trans e.h) (.inr (by omega)))
      have HZX : Hid (∀ A k bs, BsL e.x A k bs → (∀ b o, A = some ⟨b, o, none⟩ → b ≠ w.heap.size + 4) → BsL ZZ A k bs) := hid (fun A k bs h hn hk => by
        obtain ⟨b, o, hA, hb, hc⟩ := h hk
        have hM : Mod [w.heap.size + 4] e.x ZZ := by rw [← hZZ]; exact setCells_mod _ _ (Mod.refl _ _) (.inl (by simp))
        exact ⟨b, o, hA, Nat.lt_of_lt_of_le hb hM.size, fun i hi => (hc i hi).mod hM hb (by simpa using hn b o hA)⟩)
      clear hZZ
      refine bodyPost_ret (results_cell2 rfl _ (by rfl) rfl HZB.out Tryz.underlying37 rfl HZS.out) rfl ?_
      exact ⟨zc, by rw [HMR.out, HR.out]; rfl, HZM.out, Or.inr ⟨HMR.out.trans HR.out, HRT.out, some ⟨gs, 0, none⟩, 2, HZC.out, HZX.out _ _ _ (by rw [HS.out]; exact HBS.out e) (fun b o h => by have := HGS.out; have := HSV.out; cases h; omega)⟩⟩
    · have HR := hid hR
      have t1a : ((R) == (0)) = false := by rw [beq_eq_false_iff_ne]; exact hR
      have t1b : ((R) = (0)) = False := eq_false (by exact hR)
      have t1c : ((R) != (0)) = true := by rw [bne_iff_ne]; exact hR
      clear hR
      go_wp2_with (first | (refine wpList_store_mid rfl 37 _ _ rfl (w.heap.size + 4) 0 zeroBun (by rfl) (by rfl) ((HB4.out.later e).there (Nat.le_refl 20)) (by kernel_rfl) (by simp [zeroBun, Value.oneCell']) ?_))
      generalize hZZ : World.setCells _ _ _ _ = ZZ
      have HZB : Hid (Blk ZZ (w.heap.size + 4) 37 zeroBun) := hid (by rw [← hZZ]; exact setCells_all (ds := zeroBun) (HB4.out.later e) rfl)
      have HZM : Hid (Ext w ZZ) := hid (by rw [← hZZ]; exact setCells_mod _ _ (HE.out.trans e.h) (.inr (by omega)))
      have HZX : Hid (∀ A k bs, BsL e.x A k bs → (∀ b o, A = some ⟨b, o, none⟩ → b ≠ w.heap.size + 4) → BsL ZZ A k bs) := hid (fun A k bs h hn hk => by
        obtain ⟨b, o, hA, hb, hc⟩ := h hk
        have hM : Mod [w.heap.size + 4] e.x ZZ := by rw [← hZZ]; exact setCells_mod _ _ (Mod.refl _ _) (.inl (by simp))
        exact ⟨b, o, hA, Nat.lt_of_lt_of_le hb hM.size, fun i hi => (hc i hi).mod hM hb (by simpa using hn b o hA)⟩)
      clear hZZ
      refine bodyPost_ret (results_cell2 rfl _ (by rfl) rfl HZB.out Tryz.underlying37 rfl (by kernel_rfl)) rfl ?_
      exact ⟨zeroBun, by rw [HMR.out]; rfl, HZM.out, Or.inl ⟨by rw [HMR.out]; exact HR.out, rfl⟩⟩
end Go.Proofs.YtogjghmoankleaaGreat


namespace Go.Proofs.YtogjghmoankleaaGreat
open Go.RowKit
set_option linter.unusedVariables false
set_option linter.unusedSimpArgs false

set_option maxRecDepth 20000 in
set_option maxHeartbeats 4000000 in
theorem Same_eq (p : PV) (bs bs' : Nat → BV) (k c c' : Nat) (A A' : Option Addr) (hk : k < 4611686018427387904) (he : ∀ j, j < k → bs j = bs' j) (w : World) (h : BsL w A k bs) (h' : BsL w A' k bs') : Calls Tryz.prog 9 #[bunV p A k c, bunV p A' k c'] w (Ret (.bool true) w) := by
  have HE := hid (((Mod.refl [] w).alloc (.cells (bunC p A k c) 37)).alloc (.cells (bunC p A' k c') 37))
  have HB0 : Hid (Blk ((w.alloc (.cells (bunC p A k c) 37)).alloc (.cells (bunC p A' k c') 37)) w.heap.size 37 (bunC p A k c)) := hid ((Blk.new w 37 (bunC p A k c)).alloc (.cells (bunC p A' k c') 37))
  have HB1 : Hid (Blk ((w.alloc (.cells (bunC p A k c) 37)).alloc (.cells (bunC p A' k c') 37)) (w.heap.size + 1) 37 (bunC p A' k c')) := by unfold Hid; exact Blk.newL _ _ _ (by simp)
  have HL := hid (BsL.ext h HE.out)
  have HL' := hid (BsL.ext h' HE.out)
  have HQ := hid he
  have k1 : (k : Int) < 4611686018427387904 := by omega
  clear h h' he hk
  go_enter Tryz.func9, Tryz.ntmps9
  go_upto_region 1 with fail
  generalize ((w.alloc (.cells (bunC p A k c) 37)).alloc (.cells (bunC p A' k c') 37)) = V at *
  have HP0 : Hid (∀ e : Later V, e.x.rangeAt w.heap.size 0 p.c.toList) := HB0.out.range 0 19 (by rw [Array.toList_extract]; rfl)
  have HP1 : Hid (∀ e : Later V, e.x.rangeAt (w.heap.size + 1) 0 p.c.toList) := HB1.out.range 0 19 (by rw [Array.toList_extract]; rfl)
  have b19 : ∀ e : Later V, e.x.cell? ⟨w.heap.size, 19, none⟩ = some (.slice A k c) := HB0.out.cellL 19 rfl
  have b20 : ∀ e : Later V, e.x.cell? ⟨w.heap.size + 1, 19, none⟩ = some (.slice A' k c') := HB1.out.cellL 19 rfl
  obtain ⟨e, he⟩ := Later.self V
  rw [he]
  clear he
  go_upto_region 4 with (first | (refine wpList_mid (by rfl) 34 _ rfl _ 0 rfl _ _ (HP0.out _) Tryz.underlying34 rfl (by kernel_rfl) ?_) | (refine wpList_mid (by rfl) 34 _ rfl _ 0 rfl _ _ (HP1.out _) Tryz.underlying34 rfl (by kernel_rfl) ?_))
  go_loopw [5] (fun s5 wr => ∃ i : Nat, s5 = .int .i64 (i : Int) ∧ Hid (i ≤ k) ∧ ∃ e : Later V, wr = e.x) (fun s5 _ => k - (intOf s5).toNat)
  case atStart => exact ⟨0, rfl, (show Hid _ from Nat.zero_le _), e, rfl⟩
  case round =>
    clear e
    obtain ⟨i, rfl, hi, e, rfl⟩ := hrel
    have i0 : (0 : Int) ≤ (i : Int) := by omega
    by_cases hlt : i < k
    · obtain ⟨b, o, rfl, hb, q0, q1, q2, q3, q4⟩ := HL.out.cells hlt
      obtain ⟨b', o', rfl, hb', u0, u1, u2, u3, u4⟩ := HL'.out.cells hlt
      rw [← HQ.out i hlt] at u0 u1 u2 u3 u4
      have tc : decide (i < k) = true := by simp [hlt]
      have i1 : (i : Int) < (k : Int) := by omega
      have HLT := hid hlt
      clear hlt hb hb'
      generalize bs i = X at *
      go_upto_region 6 with fail
      refine wp_region_later (by kernel_rfl) (by kernel_rfl) ?_
      repeat (first | go_big_quiet_step (fail))
      refine wpQuiet_nil ?_
      rintro _ ⟨e, rfl⟩
      go_wp2_with fail
      go_roundw
      case rel => exact ⟨i + 1, by go_num, (show Hid _ from HLT.out), e, rfl⟩
      case measure => have := HLT.out; simp [intOf]; omega
    · obtain rfl : i = k := by have := hi.out; omega
      have tc : decide (i < i) = false := by simp
      go_wp2_with fail
      go_ret
      exact Ret.mk rfl (HE.out.trans e.h)
end Go.Proofs.YtogjghmoankleaaGreat


namespace Go.Proofs.YtogjghmoankleaaGreat
open Go.ChangeShapes Go.WideShapes Go.ChangeAt Go.RowKit Go.Deep
set_option linter.unusedVariables false
set_option linter.unusedSimpArgs false

section
variable {H : Type} {enc : TypeId × Value → H} {w : World} {base b0 : Nat} {spare : Nat → Bool} {held : Bool} {r : Reach}
set_option maxRecDepth 100000 in
theorem trod_eid {fuel : Nat} {cs : List Value} {x : DataW H × List MemPlace} (h : DataW.trod enc Tryz.prog w base spare held fuel 24 cs = some x) :
    ∃ e : EV, cs = [.int .i64 e.sch, str e.name, .int .u64 (e.node : Int), .int .u64 (e.svc : Int)] ∧ e.node < 18446744073709551616 ∧ e.svc < 18446744073709551616 ∧ (-9223372036854775808 ≤ e.sch ∧ e.sch ≤ 9223372036854775807) := by
  obtain ⟨ys, n', hn', hy, hlen, hyl, hfl⟩ := DataW.trod_struct Tryz.underlying24 h
  match cs, hlen with
  | [c0, c1, c2, c3], _ =>
    have h0 := field_at (by kernel_rfl) hfl (i := 0) rfl rfl
    have h1 := field_at (by kernel_rfl) hfl (i := 1) rfl rfl
    have h2 := field_at (by kernel_rfl) hfl (i := 2) rfl rfl
    have h3 := field_at (by kernel_rfl) hfl (i := 3) rfl rfl
    clear hfl h
    match ys, hyl with
    | [y0, y1, y2, y3], _ =>
      obtain ⟨sch, e0, _, w0⟩ := DataW.trod_int (k := .i64) (by kernel_rfl) h0
      obtain ⟨s, e1, _, _⟩ := DataW.trod_string (by kernel_rfl) h1
      obtain ⟨a, e2, _, w2⟩ := DataW.trod_int (k := .u64) (by kernel_rfl) h2
      obtain ⟨b, e3, _, w3⟩ := DataW.trod_int (k := .u64) (by kernel_rfl) h3
      have q0 : c0 = .int .i64 sch := by have : [c0] = [Value.int .i64 sch] := e0; simpa using this
      have q1 : c1 = .string s := by have : [c1] = [Value.string s] := e1; simpa using this
      have q2 : c2 = .int .u64 a := by have : [c2] = [Value.int .u64 a] := e2; simpa using this
      have q3 : c3 = .int .u64 b := by have : [c3] = [Value.int .u64 b] := e3; simpa using this
      subst q0 q1 q2 q3
      have b0 : -9223372036854775808 ≤ sch ∧ sch ≤ 9223372036854775807 := by simpa [Lit.wf, IntKind.min, IntKind.max, IntKind.signed, IntKind.bits] using w0
      have b2 : 0 ≤ a ∧ a ≤ 18446744073709551615 := by simpa [Lit.wf, IntKind.min, IntKind.max, IntKind.signed, IntKind.bits] using w2
      have b3 : 0 ≤ b ∧ b ≤ 18446744073709551615 := by simpa [Lit.wf, IntKind.min, IntKind.max, IntKind.signed, IntKind.bits] using w3
      obtain ⟨a, rfl⟩ := Int.eq_ofNat_of_zero_le b2.1
      obtain ⟨b, rfl⟩ := Int.eq_ofNat_of_zero_le b3.1
      exact ⟨⟨sch, s.data.toList, a, b⟩, rfl, by show a < _; omega, by show b < _; omega, b0⟩

set_option maxRecDepth 100000 in
theorem open_eid {v : Value} {d : DataW H} {p : List MemPlace} (hval : Value.okWide Tryz.prog w r b0 24 v) (h : DataW.Trod enc Tryz.prog w base spare held 24 v d p) :
    ∃ e : EV, v = e.v ∧ e.node < 18446744073709551616 ∧ e.svc < 18446744073709551616 ∧ (-9223372036854775808 ≤ e.sch ∧ e.sch ≤ 9223372036854775807) := by
  obtain ⟨cs, rfl, hsz⟩ := okWide_struct Tryz.underlying24 hval
  obtain ⟨fuel, hf⟩ := h
  have hcs : (Value.agg cs).cells.toList = cs.toList := rfl
  rw [hcs] at hf
  obtain ⟨e, he, h1, h2, h3⟩ := trod_eid hf
  refine ⟨e, ?_, h1, h2, h3⟩
  have : cs = (cs.toList).toArray := by simp
  rw [this, he]
theorem okWide_arr {P : Program} {t e : TypeId} {n : Nat} {v : Value} (ht : P.underlying t = some (.array n e)) (h : Value.okWide P w r base t v) : ∃ cs, v = .agg cs ∧ cs.size = P.cellsOf t := by
  simp only [Value.okWide, ht] at h
  obtain ⟨cs, h1, h2, _⟩ := h
  exact ⟨cs, h1, h2⟩
theorem two_ints {P : Program} {t e : TypeId} {k : IntKind} {fuel : Nat} {c0 c1 : Value} {x : DataW H × List MemPlace} (ht : P.underlying t = some (.array 2 e)) (he : P.underlying e = some (.int k)) (hC : P.cellsOf e = 1)
    (h : DataW.trod enc P w base spare held fuel t [c0, c1] = some x) : ∃ a b, c0 = .int k a ∧ c1 = .int k b ∧ (Lit.int k a).wf = true ∧ (Lit.int k b).wf = true := by
  obtain ⟨xs, m, _, _, _, hlen, hg⟩ := DataW.trod_array ht h
  have h0 := hg 0 (by omega)
  have h1 := hg 1 (by omega)
  rw [hC] at h0 h1
  match xs, hlen with
  | [y0, y1], _ =>
    obtain ⟨a, ha, _, hwa⟩ := DataW.trod_int (k := k) he h0
    obtain ⟨b, hb, _, hwb⟩ := DataW.trod_int (k := k) he h1
    exact ⟨a, b, by simpa using ha, by simpa using hb, hwa, hwb⟩
end
end Go.Proofs.YtogjghmoankleaaGreat


namespace Go.Proofs.YtogjghmoankleaaGreat
open Go.ChangeShapes Go.WideShapes Go.ChangeAt Go.RowKit Go.Deep
set_option linter.unusedVariables false
set_option linter.unusedSimpArgs false

/-- What every slice's shape obeys. -/
def SlA (A : Option Addr) (k c : Nat) : Prop := (A = none → k = 0 ∧ c = 0) ∧ k ≤ c ∧ c ≤ maxLen
def EV.wf (e : EV) : Prop := (-9223372036854775808 ≤ e.sch ∧ e.sch ≤ 9223372036854775807) ∧ e.node < 18446744073709551616 ∧ e.svc < 18446744073709551616
def PV.wf (p : PV) : Prop := p.fl < 18446744073709551616 ∧ (-9223372036854775808 ≤ p.crc ∧ p.crc ≤ 9223372036854775807) ∧ p.d.wf ∧ p.s.wf ∧ p.r.wf ∧ p.t < 18446744073709551616 ∧ p.q < 18446744073709551616 ∧ p.l < 18446744073709551616 ∧ p.o < 18446744073709551616 ∧ p.n < 18446744073709551616
def BV.wf (b : BV) : Prop := (-9223372036854775808 ≤ b.ty ∧ b.ty ≤ 9223372036854775807) ∧ (-9223372036854775808 ≤ b.num ∧ b.num ≤ 9223372036854775807) ∧ b.fl < 18446744073709551616 ∧ (-9223372036854775808 ≤ b.crc ∧ b.crc ≤ 9223372036854775807)
section
variable {H : Type} {enc : TypeId × Value → H} {w : World} {base b0 : Nat} {spare : Nat → Bool} {held : Bool} {r : Reach}
theorem fldB {P : Program} {n k : Nat} {ty : TypeId} {l : List Value} {off : Nat} {y : Option (DataW H × List MemPlace)} (hk : P.cellsOf ty = k) (h : DataW.trod enc P w base spare held n ty ((l.drop off).take (P.cellsOf ty)) = y) : DataW.trod enc P w base spare held n ty ((l.drop off).take k) = y := by rw [hk] at h; exact h
set_option maxRecDepth 100000 in
theorem trod_blkC {fuel : Nat} {L : List Value} {x : DataW H × List MemPlace} (h : DataW.trod enc Tryz.prog w base spare held fuel 49 L = some x) : ∃ b : BV, L = [.int .i64 b.ty, .int .i64 b.num, .int .u64 (b.fl : Int), .int .i64 b.crc, str b.data] ∧ b.wf := by
  obtain ⟨ys, n', hn', hy, hlen, hyl, hfl⟩ := DataW.trod_struct Tryz.underlying49 h
  clear h
  match L, hlen with
  | [c0, c1, c2, c3, c4], _ =>
    have h0 := field_at (by kernel_rfl) hfl (i := 0) rfl rfl
    have h1 := field_at (by kernel_rfl) hfl (i := 1) rfl rfl
    have h2 := field_at (by kernel_rfl) hfl (i := 2) rfl rfl
    have h3 := field_at (by kernel_rfl) hfl (i := 3) rfl rfl
    have h4 := field_at (by kernel_rfl) hfl (i := 4) rfl rfl
    clear hfl
    match ys, hyl with
    | [y0, y1, y2, y3, y4], _ =>
      obtain ⟨ty, e0, _, w0⟩ := DataW.trod_int (k := .i64) (by kernel_rfl) h0
      obtain ⟨num, e1, _, w1⟩ := DataW.trod_int (k := .i64) (by kernel_rfl) h1
      obtain ⟨fl, e2, _, w2⟩ := DataW.trod_int (k := .u64) (by kernel_rfl) h2
      obtain ⟨crc, e3, _, w3⟩ := DataW.trod_int (k := .i64) (by kernel_rfl) h3
      obtain ⟨s, e4, _, _⟩ := DataW.trod_string (by kernel_rfl) h4
      have q0 : c0 = .int .i64 ty := by have : [c0] = [Value.int .i64 ty] := e0; simpa using this
      have q1 : c1 = .int .i64 num := by have : [c1] = [Value.int .i64 num] := e1; simpa using this
      have q2 : c2 = .int .u64 fl := by have : [c2] = [Value.int .u64 fl] := e2; simpa using this
      have q3 : c3 = .int .i64 crc := by have : [c3] = [Value.int .i64 crc] := e3; simpa using this
      have q4 : c4 = .string s := by have : [c4] = [Value.string s] := e4; simpa using this
      subst q0 q1 q2 q3 q4
      have b0 : -9223372036854775808 ≤ ty ∧ ty ≤ 9223372036854775807 := by simpa [Lit.wf, IntKind.min, IntKind.max, IntKind.signed, IntKind.bits] using w0
      have b1 : -9223372036854775808 ≤ num ∧ num ≤ 9223372036854775807 := by simpa [Lit.wf, IntKind.min, IntKind.max, IntKind.signed, IntKind.bits] using w1
      have b2 : 0 ≤ fl ∧ fl ≤ 18446744073709551615 := by simpa [Lit.wf, IntKind.min, IntKind.max, IntKind.signed, IntKind.bits] using w2
      have b3 : -9223372036854775808 ≤ crc ∧ crc ≤ 9223372036854775807 := by simpa [Lit.wf, IntKind.min, IntKind.max, IntKind.signed, IntKind.bits] using w3
      obtain ⟨fl, rfl⟩ := Int.eq_ofNat_of_zero_le b2.1
      exact ⟨⟨ty, num, fl, crc, s.data.toList⟩, rfl, b0, b1, by show fl < _; omega, b3⟩
set_option maxRecDepth 100000 in
theorem trod_priC {fuel : Nat} {L : List Value} {x : DataW H × List MemPlace} (h : DataW.trod enc Tryz.prog w base spare held fuel 34 L = some x) : ∃ p : PV, L = p.c.toList ∧ p.wf := by
  obtain ⟨ys, n', hn', hy, hlen, hyl, hfl⟩ := DataW.trod_struct Tryz.underlying34 h
  clear h
  have k1 : Tryz.prog.cellsOf 22 = 1 := by kernel_rfl
  have k2 : Tryz.prog.cellsOf 3 = 1 := by kernel_rfl
  have k3 : Tryz.prog.cellsOf 24 = 4 := by kernel_rfl
  match L, hlen with
  | [c0, c1, c2, c3, c4, c5, c6, c7, c8, c9, c10, c11, c12, c13, c14, c15, c16, c17, c18], _ =>
    match ys, hyl with
    | [y0, y1, y2, y3, y4, y5, y6, y7, y8, y9], _ =>
      have h0 : DataW.trod enc Tryz.prog w base spare held n' 22 [c0] = some y0 := fldB k1 (hfl 0 _ rfl)
      have h1 : DataW.trod enc Tryz.prog w base spare held n' 3 [c1] = some y1 := fldB k2 (hfl 1 _ rfl)
      have h2 : DataW.trod enc Tryz.prog w base spare held n' 24 [c2, c3, c4, c5] = some y2 := fldB k3 (hfl 2 _ rfl)
      have h3 : DataW.trod enc Tryz.prog w base spare held n' 24 [c6, c7, c8, c9] = some y3 := fldB k3 (hfl 3 _ rfl)
      have h4 : DataW.trod enc Tryz.prog w base spare held n' 24 [c10, c11, c12, c13] = some y4 := fldB k3 (hfl 4 _ rfl)
      have h5 : DataW.trod enc Tryz.prog w base spare held n' 22 [c14] = some y5 := fldB k1 (hfl 5 _ rfl)
      have h6 : DataW.trod enc Tryz.prog w base spare held n' 22 [c15] = some y6 := fldB k1 (hfl 6 _ rfl)
      have h7 : DataW.trod enc Tryz.prog w base spare held n' 22 [c16] = some y7 := fldB k1 (hfl 7 _ rfl)
      have h8 : DataW.trod enc Tryz.prog w base spare held n' 22 [c17] = some y8 := fldB k1 (hfl 8 _ rfl)
      have h9 : DataW.trod enc Tryz.prog w base spare held n' 22 [c18] = some y9 := fldB k1 (hfl 9 _ rfl)
      clear hfl
      obtain ⟨z1, e1, _, w1⟩ := DataW.trod_int (k := .i64) (by kernel_rfl) h1
      have b1 : -9223372036854775808 ≤ z1 ∧ z1 ≤ 9223372036854775807 := by simpa [Lit.wf, IntKind.min, IntKind.max, IntKind.signed, IntKind.bits] using w1
      obtain ⟨E2, e2, n2, s2, x2⟩ := trod_eid h2
      obtain ⟨E3, e3, n3, s3, x3⟩ := trod_eid h3
      obtain ⟨E4, e4, n4, s4, x4⟩ := trod_eid h4
      obtain ⟨z0, e0, _, w0⟩ := DataW.trod_int (k := .u64) (by kernel_rfl) h0
      have b0 : 0 ≤ z0 ∧ z0 ≤ 18446744073709551615 := by simpa [Lit.wf, IntKind.min, IntKind.max, IntKind.signed, IntKind.bits] using w0
      obtain ⟨z0, rfl⟩ := Int.eq_ofNat_of_zero_le b0.1
      obtain ⟨z5, e5, _, w5⟩ := DataW.trod_int (k := .u64) (by kernel_rfl) h5
      have b5 : 0 ≤ z5 ∧ z5 ≤ 18446744073709551615 := by simpa [Lit.wf, IntKind.min, IntKind.max, IntKind.signed, IntKind.bits] using w5
      obtain ⟨z5, rfl⟩ := Int.eq_ofNat_of_zero_le b5.1
      obtain ⟨z6, e6, _, w6⟩ := DataW.trod_int (k := .u64) (by kernel_rfl) h6
      have b6 : 0 ≤ z6 ∧ z6 ≤ 18446744073709551615 := by simpa [Lit.wf, IntKind.min, IntKind.max, IntKind.signed, IntKind.bits] using w6
      obtain ⟨z6, rfl⟩ := Int.eq_ofNat_of_zero_le b6.1
      obtain ⟨z7, e7, _, w7⟩ := DataW.trod_int (k := .u64) (by kernel_rfl) h7
      have b7 : 0 ≤ z7 ∧ z7 ≤ 18446744073709551615 := by simpa [Lit.wf, IntKind.min, IntKind.max, IntKind.signed, IntKind.bits] using w7
      obtain ⟨z7, rfl⟩ := Int.eq_ofNat_of_zero_le b7.1
      obtain ⟨z8, e8, _, w8⟩ := DataW.trod_int (k := .u64) (by kernel_rfl) h8
      have b8 : 0 ≤ z8 ∧ z8 ≤ 18446744073709551615 := by simpa [Lit.wf, IntKind.min, IntKind.max, IntKind.signed, IntKind.bits] using w8
      obtain ⟨z8, rfl⟩ := Int.eq_ofNat_of_zero_le b8.1
      obtain ⟨z9, e9, _, w9⟩ := DataW.trod_int (k := .u64) (by kernel_rfl) h9
      have b9 : 0 ≤ z9 ∧ z9 ≤ 18446744073709551615 := by simpa [Lit.wf, IntKind.min, IntKind.max, IntKind.signed, IntKind.bits] using w9
      obtain ⟨z9, rfl⟩ := Int.eq_ofNat_of_zero_le b9.1
      simp only [List.cons.injEq, and_true] at e0 e1 e2 e3 e4 e5 e6 e7 e8 e9
      obtain ⟨rfl, rfl, rfl, rfl⟩ := e2
      obtain ⟨rfl, rfl, rfl, rfl⟩ := e3
      obtain ⟨rfl, rfl, rfl, rfl⟩ := e4
      subst e0 e1 e5 e6 e7 e8 e9
      exact ⟨⟨z0, z1, E2, E3, E4, z5, z6, z7, z8, z9⟩, rfl, by show z0 < _; omega, b1, ⟨x2, n2, s2⟩, ⟨x3, n3, s3⟩, ⟨x4, n4, s4⟩, by show z5 < _; omega, by show z6 < _; omega, by show z7 < _; omega, by show z8 < _; omega, by show z9 < _; omega⟩
/-- A slice of blocks. -/
theorem trod_blksS {fuel : Nat} {c3 : Value} {y : DataW H × List MemPlace} (h3 : DataW.trod enc Tryz.prog w base spare held fuel 35 [c3] = some y) (hz : ∀ n ∈ y.1.weights Tryz.prog 35, n ≤ reachBytes) :
    ∃ (A : Option Addr) (k c : Nat) (bs : Nat → BV), c3 = .slice A k c ∧ k < 4611686018427387904 ∧ BsL w A k bs ∧ (∀ i, i < k → (bs i).wf) ∧ SlA A k c := by
  have hR : reachBytes < 140737488355328 := by decide
  rcases DataW.trod_slice (e := 49) (by kernel_rfl) h3 with ⟨hcs, _⟩ | ⟨a, len, cap', elems, rest, f, hf, hcs, hx, hb, hl, hm, hlen, hel, _, _⟩
  · have e3 : c3 = .slice none 0 0 := by simpa using hcs
    subst e3
    exact ⟨none, 0, 0, fun _ => zeroB, rfl, by omega, fun h => by omega, fun i hi => by omega, fun _ => ⟨rfl, rfl⟩, Nat.le_refl _, Nat.zero_le _⟩
  · have e3 : c3 = .slice (some a) len cap' := by simpa using hcs
    subst e3
    have hC : Tryz.prog.cellsOf 49 = 5 := by kernel_rfl
    have hBy : Tryz.prog.bytesOf 49 = 48 := by kernel_rfl
    have hzs := hz
    rw [hx] at hzs
    simp only [DataW.weights, Tryz.underlying35] at hzs
    have bl : len < 4611686018427387904 := by
      have h8 := hzs _ List.mem_cons_self
      rw [hBy, List.length_map, hlen] at h8
      have h9 : len * 48 ≤ (len + (List.map (fun x => x.1) rest).length) * 48 := Nat.mul_le_mul_right _ (Nat.le_add_right _ _)
      omega
    have key : ∀ i, i < len → ∃ t : BV, (w.cell? ((a.add (i * 5)).add 0) = some (.int .i64 t.ty) ∧ w.cell? ((a.add (i * 5)).add 1) = some (.int .i64 t.num) ∧ w.cell? ((a.add (i * 5)).add 2) = some (.int .u64 (t.fl : Int)) ∧ w.cell? ((a.add (i * 5)).add 3) = some (.int .i64 t.crc) ∧ w.cell? ((a.add (i * 5)).add 4) = some (str t.data)) ∧ t.wf := by
      intro i hin
      have hi := hel i hin
      rw [List.getElem?_eq_getElem (by omega)] at hi
      obtain ⟨cs', hc, ht⟩ := Option.bind_eq_some_iff.1 hi
      obtain ⟨t, rfl, hw⟩ := trod_blkC ht
      rw [hC] at hc
      obtain ⟨_, hcl, hat⟩ := World.cells?_some hc
      exact ⟨t, ⟨hat 0 (by simp), hat 1 (by simp), hat 2 (by simp), hat 3 (by simp), hat 4 (by simp)⟩, hw⟩
    have key2 : ∀ i, ∃ t : BV, i < len → (w.cell? ((a.add (i * 5)).add 0) = some (.int .i64 t.ty) ∧ w.cell? ((a.add (i * 5)).add 1) = some (.int .i64 t.num) ∧ w.cell? ((a.add (i * 5)).add 2) = some (.int .u64 (t.fl : Int)) ∧ w.cell? ((a.add (i * 5)).add 3) = some (.int .i64 t.crc) ∧ w.cell? ((a.add (i * 5)).add 4) = some (str t.data)) ∧ t.wf := fun i => by
      by_cases hin : i < len
      · obtain ⟨t, h5⟩ := key i hin
        exact ⟨t, fun _ => h5⟩
      · exact ⟨zeroB, fun h => absurd h hin⟩
    obtain ⟨g, hg⟩ : ∃ g : Nat → BV, ∀ i, i < len → (w.cell? ((a.add (i * 5)).add 0) = some (.int .i64 (g i).ty) ∧ w.cell? ((a.add (i * 5)).add 1) = some (.int .i64 (g i).num) ∧ w.cell? ((a.add (i * 5)).add 2) = some (.int .u64 ((g i).fl : Int)) ∧ w.cell? ((a.add (i * 5)).add 3) = some (.int .i64 (g i).crc) ∧ w.cell? ((a.add (i * 5)).add 4) = some (str (g i).data)) ∧ (g i).wf :=
      ⟨fun i => Classical.choose (key2 i), fun i => Classical.choose_spec (key2 i)⟩
    refine ⟨some a, len, cap', g, rfl, bl, fun h0 => ?_, fun i hi => (hg i hi).2, (fun h => by cases h), hl, hm⟩
    obtain ⟨⟨z0, _⟩, _⟩ := hg 0 h0
    have z1 : w.cell? a = some (.int .i64 (g 0).ty) := by simpa [Addr.add] using z0
    have hsp := World.cell?_spot z1
    obtain ⟨ab, ao, sp⟩ := a
    simp only at hsp
    subst hsp
    refine ⟨ab, ao, rfl, World.block_lt_of_cell? w _ z1, fun i hin => ?_⟩
    obtain ⟨⟨g0, g1, g2, g3, g4⟩, _⟩ := hg i hin
    rw [addr_add, addr_add] at g0 g1 g2 g3 g4
    exact ⟨g0, g1, g2, g3, g4⟩
set_option maxRecDepth 100000 in
theorem open_bundleS {v : Value} {d : DataW H} {q : List MemPlace} (hval : Value.okWide Tryz.prog w r b0 37 v) (h : DataW.Trod enc Tryz.prog w base spare held 37 v d q) (hz : ∀ n ∈ d.weights Tryz.prog 37, n ≤ reachBytes) :
    ∃ (p : PV) (A : Option Addr) (k c : Nat) (bs : Nat → BV), v = bunV p A k c ∧ p.wf ∧ k < 4611686018427387904 ∧ BsL w A k bs ∧ (∀ i, i < k → (bs i).wf) ∧ SlA A k c := by
  obtain ⟨cs, rfl, hsz⟩ := okWide_struct Tryz.underlying37 hval
  obtain ⟨fuel, hf⟩ := h
  obtain ⟨ys, n', hn', hy, hlen, hyl, hfl⟩ := DataW.trod_struct Tryz.underlying37 hf
  have hcs : (Value.agg cs).cells.toList = cs.toList := rfl
  rw [hcs] at hlen hfl
  obtain ⟨L, hL⟩ : ∃ L, L = cs.toList := ⟨_, rfl⟩
  rw [← hL] at hlen hfl
  have hcsL : cs = L.toArray := by rw [hL]
  subst hcsL
  have hd : d = .agg (ys.map (·.1)) := by simpa using congrArg Prod.fst hy
  have hz' : ∀ n ∈ DataW.weightsEach Tryz.prog [34, 35] (ys.map (·.1)), n ≤ reachBytes := by
    intro n hn
    apply hz
    rw [hd]
    simp only [DataW.weights, Tryz.underlying37]
    exact hn
  clear hL hcs hf hval hsz hz
  have k1 : Tryz.prog.cellsOf 34 = 19 := by kernel_rfl
  have k2 : Tryz.prog.cellsOf 35 = 1 := by kernel_rfl
  match L, hlen with
  | [c0, c1, c2, c3, c4, c5, c6, c7, c8, c9, c10, c11, c12, c13, c14, c15, c16, c17, c18, c19], _ =>
    obtain ⟨y0, y1, rfl⟩ : ∃ y0 y1, ys = [y0, y1] := by clear hd hz' hy hfl; match ys, hyl with | [a, b], _ => exact ⟨a, b, rfl⟩
    · have h0 : DataW.trod enc Tryz.prog w base spare held n' 34 [c0, c1, c2, c3, c4, c5, c6, c7, c8, c9, c10, c11, c12, c13, c14, c15, c16, c17, c18] = some y0 := fldB k1 (hfl 0 _ rfl)
      have h1 : DataW.trod enc Tryz.prog w base spare held n' 35 [c19] = some y1 := fldB k2 (hfl 1 _ rfl)
      clear hfl
      obtain ⟨p, hp, hw⟩ := trod_priC h0
      obtain ⟨A, k, c, bs, rfl, hk, hL, hbw⟩ := trod_blksS h1 (fun n hn => hz' n (DataW.weights_mem_each (j := 1) rfl rfl n hn))
      refine ⟨p, A, k, c, bs, ?_, hw, hk, hL, hbw⟩
      simp only [PV.c, List.cons.injEq, and_true] at hp
      obtain ⟨rfl, rfl, rfl, rfl, rfl, rfl, rfl, rfl, rfl, rfl, rfl, rfl, rfl, rfl, rfl, rfl, rfl, rfl, rfl⟩ := hp
      rfl
set_option maxRecDepth 100000 in
theorem open_bundle {v : Value} {d : DataW H} {q : List MemPlace} (hval : Value.okWide Tryz.prog w r b0 37 v) (h : DataW.Trod enc Tryz.prog w base spare held 37 v d q) (hz : ∀ n ∈ d.weights Tryz.prog 37, n ≤ reachBytes) :
    ∃ (p : PV) (A : Option Addr) (k c : Nat) (bs : Nat → BV), v = bunV p A k c ∧ p.wf ∧ k < 4611686018427387904 ∧ BsL w A k bs ∧ ∀ i, i < k → (bs i).wf := by
  obtain ⟨p, A, k, c, bs, h1, h2, h3, h4, h5, _⟩ := open_bundleS hval h hz
  exact ⟨p, A, k, c, bs, h1, h2, h3, h4, h5⟩
end
end Go.Proofs.YtogjghmoankleaaGreat


namespace Go.Proofs.YtogjghmoankleaaGreat
open Go.ChangeShapes Go.WideShapes Go.ChangeAt Go.RowKit Go.Deep
set_option linter.unusedVariables false
set_option linter.unusedSimpArgs false
section
variable {H : Type} {enc : TypeId × Value → H} {w : World} {base b0 : Nat} {spare : Nat → Bool} {held : Bool} {r : Reach}
set_option maxRecDepth 100000 in
theorem trod_nat {fuel : Nat} {L : List Value} {x : DataW H × List MemPlace} (h : DataW.trod enc Tryz.prog w base spare held fuel 22 L = some x) : ∃ n : Nat, L = [.int .u64 (n : Int)] ∧ n < 18446744073709551616 := by
  obtain ⟨z, e, _, w⟩ := DataW.trod_int (k := .u64) (by kernel_rfl) h
  have b : 0 ≤ z ∧ z ≤ 18446744073709551615 := by simpa [Lit.wf, IntKind.min, IntKind.max, IntKind.signed, IntKind.bits] using w
  obtain ⟨z, rfl⟩ := Int.eq_ofNat_of_zero_le b.1
  exact ⟨z, e, by omega⟩
set_option maxRecDepth 100000 in
theorem trod_idC {fuel : Nat} {L : List Value} {x : DataW H × List MemPlace} (h : DataW.trod enc Tryz.prog w base spare held fuel 27 L = some x) : ∃ i : IDV, L = idC i ∧ i.t < 18446744073709551616 ∧ i.q < 18446744073709551616 ∧ i.o < 18446744073709551616 ∧ i.n < 18446744073709551616 := by
  obtain ⟨ys, n', hn', hy, hlen, hyl, hfl⟩ := DataW.trod_struct Tryz.underlying27 h
  clear h
  have k1 : Tryz.prog.cellsOf 22 = 1 := by kernel_rfl
  have k2 : Tryz.prog.cellsOf 4 = 1 := by kernel_rfl
  have k3 : Tryz.prog.cellsOf 24 = 4 := by kernel_rfl
  match L, hlen with
  | [c0, c1, c2, c3, c4, c5, c6, c7, c8], _ =>
    match ys, hyl with
    | [y0, y1, y2, y3, y4, y5], _ =>
      have h0 : DataW.trod enc Tryz.prog w base spare held n' 24 [c0, c1, c2, c3] = some y0 := fldB k3 (hfl 0 _ rfl)
      have h1 : DataW.trod enc Tryz.prog w base spare held n' 22 [c4] = some y1 := fldB k1 (hfl 1 _ rfl)
      have h2 : DataW.trod enc Tryz.prog w base spare held n' 22 [c5] = some y2 := fldB k1 (hfl 2 _ rfl)
      have h3 : DataW.trod enc Tryz.prog w base spare held n' 4 [c6] = some y3 := fldB k2 (hfl 3 _ rfl)
      have h4 : DataW.trod enc Tryz.prog w base spare held n' 22 [c7] = some y4 := fldB k1 (hfl 4 _ rfl)
      have h5 : DataW.trod enc Tryz.prog w base spare held n' 22 [c8] = some y5 := fldB k1 (hfl 5 _ rfl)
      clear hfl
      obtain ⟨E0, e0, n0, s0, x0⟩ := trod_eid h0
      obtain ⟨z1, e1, w1⟩ := trod_nat h1
      obtain ⟨z2, e2, w2⟩ := trod_nat h2
      obtain ⟨b3, e3, _⟩ := DataW.trod_bool (by kernel_rfl) h3
      obtain ⟨z4, e4, w4⟩ := trod_nat h4
      obtain ⟨z5, e5, w5⟩ := trod_nat h5
      simp only [List.cons.injEq, and_true] at e0 e1 e2 e3 e4 e5
      obtain ⟨rfl, rfl, rfl, rfl⟩ := e0
      subst e1 e2 e3 e4 e5
      exact ⟨⟨E0, z1, z2, b3, z4, z5⟩, rfl, w1, w2, w4, w5⟩
set_option maxRecDepth 100000 in
theorem trod_repC {fuel : Nat} {L : List Value} {x : DataW H × List MemPlace} (h : DataW.trod enc Tryz.prog w base spare held fuel 29 L = some x) : ∃ r : RV, L = (repC r).toList ∧ (r.of.t < 18446744073709551616 ∧ r.of.q < 18446744073709551616 ∧ r.of.o < 18446744073709551616 ∧ r.of.n < 18446744073709551616) := by
  obtain ⟨ys, n', hn', hy, hlen, hyl, hfl⟩ := DataW.trod_struct Tryz.underlying29 h
  clear h
  have k1 : Tryz.prog.cellsOf 3 = 1 := by kernel_rfl
  have k2 : Tryz.prog.cellsOf 4 = 1 := by kernel_rfl
  have k3 : Tryz.prog.cellsOf 27 = 9 := by kernel_rfl
  match L, hlen with
  | [c0, c1, c2, c3, c4, c5, c6, c7, c8, c9, c10, c11], _ =>
    match ys, hyl with
    | [y0, y1, y2, y3], _ =>
      have h0 : DataW.trod enc Tryz.prog w base spare held n' 4 [c0] = some y0 := fldB k2 (hfl 0 _ rfl)
      have h1 : DataW.trod enc Tryz.prog w base spare held n' 4 [c1] = some y1 := fldB k2 (hfl 1 _ rfl)
      have h2 : DataW.trod enc Tryz.prog w base spare held n' 3 [c2] = some y2 := fldB k1 (hfl 2 _ rfl)
      have h3 : DataW.trod enc Tryz.prog w base spare held n' 27 [c3, c4, c5, c6, c7, c8, c9, c10, c11] = some y3 := fldB k3 (hfl 3 _ rfl)
      clear hfl
      obtain ⟨b0, e0, _⟩ := DataW.trod_bool (by kernel_rfl) h0
      obtain ⟨b1, e1, _⟩ := DataW.trod_bool (by kernel_rfl) h1
      obtain ⟨z2, e2, _, w2⟩ := DataW.trod_int (k := .i64) (by kernel_rfl) h2
      obtain ⟨i, e3, hi⟩ := trod_idC h3
      simp only [List.cons.injEq, and_true, idC] at e0 e1 e2 e3
      obtain ⟨rfl, rfl, rfl, rfl, rfl, rfl, rfl, rfl, rfl⟩ := e3
      subst e0 e1 e2
      exact ⟨⟨b0, b1, z2, i⟩, rfl, hi⟩
set_option maxRecDepth 100000 in
theorem open_rep {v : Value} {d : DataW H} {q : List MemPlace} (hval : Value.okWide Tryz.prog w r b0 29 v) (h : DataW.Trod enc Tryz.prog w base spare held 29 v d q) :
    ∃ r : RV, v = repV r ∧ (r.of.t < 18446744073709551616 ∧ r.of.q < 18446744073709551616 ∧ r.of.o < 18446744073709551616 ∧ r.of.n < 18446744073709551616) := by
  obtain ⟨cs, rfl, hsz⟩ := okWide_struct Tryz.underlying29 hval
  obtain ⟨fuel, hf⟩ := h
  obtain ⟨p, hp, hw⟩ := trod_repC hf
  have hcs : (Value.agg cs).cells.toList = cs.toList := rfl
  rw [hcs] at hp
  exact ⟨p, by rw [Array.toList_inj.1 hp], hw⟩
end
end Go.Proofs.YtogjghmoankleaaGreat


namespace Go.Proofs.YtogjghmoankleaaGreat
open Go.ChangeShapes Go.WideShapes Go.ChangeAt Go.RowKit Go.Deep
set_option linter.unusedVariables false
set_option linter.unusedSimpArgs false
abbrev names2C (x y : EV) : Array Value := #[.int .i64 x.sch, str x.name, .int .u64 (x.node : Int), .int .u64 (x.svc : Int), .int .i64 y.sch, str y.name, .int .u64 (y.node : Int), .int .u64 (y.svc : Int)]
abbrev nums3C (a b c : Nat) : Array Value := #[.int .u64 (a : Int), .int .u64 (b : Int), .int .u64 (c : Int)]
section
variable {H : Type} {enc : TypeId × Value → H} {w : World} {base b0 : Nat} {spare : Nat → Bool} {held : Bool} {r : Reach}
theorem parts_two {L : List Value} {n : Nat} (hn : L.length = 2 * n) : L = L.take n ++ (L.drop n).take n := by
  conv => lhs; rw [← List.take_append_drop n L]
  congr 1
  rw [List.take_of_length_le]
  rw [List.length_drop]; omega
set_option maxRecDepth 100000 in
theorem open_names2 {v : Value} {d : DataW H} {q : List MemPlace} (hval : Value.okWide Tryz.prog w r b0 25 v) (h : DataW.Trod enc Tryz.prog w base spare held 25 v d q) :
    ∃ s t : EV, v = .agg (names2C s t) ∧ (s.node < 18446744073709551616 ∧ s.svc < 18446744073709551616) ∧ (t.node < 18446744073709551616 ∧ t.svc < 18446744073709551616) := by
  obtain ⟨cs, rfl, hsz⟩ := okWide_arr Tryz.underlying25 hval
  have hC : Tryz.prog.cellsOf 25 = 8 := by kernel_rfl
  have hC1 : Tryz.prog.cellsOf 24 = 4 := by kernel_rfl
  obtain ⟨fuel, hf⟩ := h
  obtain ⟨xs, m, _, hx, hlen, hxl, hg⟩ := DataW.trod_array Tryz.underlying25 hf
  have g0 := hg 0 (by omega)
  have g1 := hg 1 (by omega)
  rw [hC1] at g0 g1
  match xs, hxl with
  | [y0, y1], _ =>
    obtain ⟨s, e0, s1, s2, _⟩ := trod_eid (x := y0) (by simpa using g0)
    obtain ⟨t, e1, t1, t2, _⟩ := trod_eid (x := y1) (by simpa using g1)
    refine ⟨s, t, ?_, ⟨s1, s2⟩, ⟨t1, t2⟩⟩
    have hcs : (Value.agg cs).cells.toList = cs.toList := rfl
    rw [hcs] at hlen
    have hL := parts_two (L := cs.toList) (n := 4) (by rw [hlen, hC])
    have : cs = names2C s t := by
      apply Array.toList_inj.1
      rw [hL]
      simp only [Value.cells] at e0 e1
      rw [e0, e1]
      rfl
    rw [this]
set_option maxRecDepth 100000 in
theorem open_nums3 {v : Value} {d : DataW H} {q : List MemPlace} (hval : Value.okWide Tryz.prog w r b0 30 v) (h : DataW.Trod enc Tryz.prog w base spare held 30 v d q) :
    ∃ a b c : Nat, v = .agg (nums3C a b c) ∧ a < 18446744073709551616 ∧ b < 18446744073709551616 ∧ c < 18446744073709551616 := by
  obtain ⟨cs, rfl, hsz⟩ := okWide_arr Tryz.underlying30 hval
  have hC : Tryz.prog.cellsOf 30 = 3 := by kernel_rfl
  have hC1 : Tryz.prog.cellsOf 22 = 1 := by kernel_rfl
  rw [hC] at hsz
  obtain ⟨fuel, hf⟩ := h
  obtain ⟨l⟩ := cs
  match l, hsz with
  | [c0, c1, c2], _ =>
    obtain ⟨xs, m, _, _, _, hlen, hg⟩ := DataW.trod_array Tryz.underlying30 hf
    have h0 := hg 0 (by omega)
    have h1 := hg 1 (by omega)
    have h2 := hg 2 (by omega)
    rw [hC1] at h0 h1 h2
    match xs, hlen with
    | [y0, y1, y2], _ =>
      obtain ⟨a, ea, ha⟩ := trod_nat (x := y0) (by simpa [Value.cells] using h0)
      obtain ⟨b, eb, hb⟩ := trod_nat (x := y1) (by simpa [Value.cells] using h1)
      obtain ⟨c, ec, hc⟩ := trod_nat (x := y2) (by simpa [Value.cells] using h2)
      simp only [List.cons.injEq, and_true] at ea eb ec
      subst ea eb ec
      exact ⟨a, b, c, rfl, ha, hb, hc⟩
end
end Go.Proofs.YtogjghmoankleaaGreat


namespace Go.Proofs.YtogjghmoankleaaGreat
open Go.RowKit
set_option linter.unusedVariables false
set_option linter.unusedSimpArgs false

def rptP (y : EV) : PV := ⟨0, 0, zeroE, zeroE, y, 0, 0, 0, 0, 0⟩
theorem Same_mk {P : PV} {r : RV} {W : World} {z1 z2 : Array Value} (h1 : MkRel P r W z1) (h2 : MkRel P r W z2) : Calls Tryz.prog 9 #[.agg z1, .agg z2] W (Ret (.bool true) W) := by
  rcases h1 with ⟨n1, rfl⟩ | ⟨n1, _, A, c, rfl, b1⟩
  · rcases h2 with ⟨_, rfl⟩ | ⟨n2, _⟩
    · exact Same_eq ⟨0, 0, zeroE, zeroE, zeroE, 0, 0, 0, 0, 0⟩ (mkB []) (mkB []) 0 0 0 none none (by decide) (fun _ _ => rfl) W (fun h => absurd h (by decide)) (fun h => absurd h (by decide))
    · exact absurd n2 n1
  · rcases h2 with ⟨n2, _⟩ | ⟨_, _, A2, c2, rfl, b2⟩
    · exact absurd n1 n2
    · exact Same_eq P (mkB r.bytes) (mkB r.bytes) 2 c c2 A A2 (by decide) (fun _ _ => rfl) W b1 b2
set_option maxRecDepth 20000 in
set_option maxHeartbeats 8000000 in
theorem lawRepMakes_any (x y : EV) (r : RV) (a b c : Nat) (hn : r.of.t < 18446744073709551616 ∧ r.of.q < 18446744073709551616 ∧ r.of.o < 18446744073709551616 ∧ r.of.n < 18446744073709551616) (w : World) : Calls Tryz.prog 3 #[.agg (names2C x y), repV r, .agg (nums3C a b c)] w (Ret (.bool true) w) := by
  have KA := hid (fun W => awake25_any W)
  have KF0 := hid (fun W => few10L_any x W)
  have KF1 := hid (fun W => few10L_any y W)
  have KF2 := hid (fun W => few10L_any r.of.src W)
  have HE := hid ((((Mod.refl [] w).alloc (.cells (names2C x y) 25)).alloc (.cells (repC r) 29)).alloc (.cells (nums3C a b c) 30))
  have HB0 : Hid (Blk (((w.alloc (.cells (names2C x y) 25)).alloc (.cells (repC r) 29)).alloc (.cells (nums3C a b c) 30)) w.heap.size 25 (names2C x y)) := hid (((Blk.new w 25 (names2C x y)).alloc (.cells (repC r) 29)).alloc (.cells (nums3C a b c) 30))
  have HB1 : Hid (Blk (((w.alloc (.cells (names2C x y) 25)).alloc (.cells (repC r) 29)).alloc (.cells (nums3C a b c) 30)) (w.heap.size + 1) 29 (repC r)) := by unfold Hid; have := (Blk.newL (N := (w.heap.size + 1)) (w.alloc (.cells (names2C x y) 25)) 29 (repC r) (by simp)); exact (this.alloc (.cells (nums3C a b c) 30))
  have HB2 : Hid (Blk (((w.alloc (.cells (names2C x y) 25)).alloc (.cells (repC r) 29)).alloc (.cells (nums3C a b c) 30)) (w.heap.size + 1 + 1) 30 (nums3C a b c)) := by unfold Hid; exact Blk.newL _ _ _ (by simp)
  go_enter Tryz.func3, Tryz.ntmps3
  go_upto_region 1 with fail
  generalize (((w.alloc (.cells (names2C x y) 25)).alloc (.cells (repC r) 29)).alloc (.cells (nums3C a b c) 30)) = V at *
  have HN0 : Hid (∀ e : Later V, e.x.rangeAt w.heap.size 0 [.int .i64 x.sch, str x.name, .int .u64 (x.node : Int), .int .u64 (x.svc : Int)]) := HB0.out.range 0 4 (by rfl)
  have HN1 : Hid (∀ e : Later V, e.x.rangeAt w.heap.size 4 [.int .i64 y.sch, str y.name, .int .u64 (y.node : Int), .int .u64 (y.svc : Int)]) := HB0.out.range 4 4 (by rfl)
  have HN2 : Hid (∀ e : Later V, e.x.rangeAt (w.heap.size + 1) 3 [.int .i64 r.of.src.sch, str r.of.src.name, .int .u64 (r.of.src.node : Int), .int .u64 (r.of.src.svc : Int)]) := HB1.out.range 3 4 (by rfl)
  obtain ⟨e, he⟩ := Later.self V
  rw [he]
  clear he
  have tk10 : True := trivial
  have tk11 : True := trivial
  have tk12 : True := trivial
  by_cases hf0 : x.name.length ≤ 100
  case neg =>
    rw [decide_eq_false hf0] at KF0
    clear hf0
    go_wp2_with (first | (clear tk10; refine wpList_mid (by rfl) 24 _ rfl _ 0 rfl _ _ (HN0.out _) Tryz.underlying24 rfl (by kernel_rfl) ?_) | (go_at_call 5; refine (Ret.later (KA.out _)).mono ?_; rintro x _ ⟨rfl, e, rfl⟩) | (go_at_call 6; first | ((with_reducible refine (Ret.later (KF0.out _)).mono ?_); rintro x _ ⟨rfl, e, rfl⟩) | ((with_reducible refine (Ret.later (KF1.out _)).mono ?_); rintro x _ ⟨rfl, e, rfl⟩) | ((with_reducible refine (Ret.later (KF2.out _)).mono ?_); rintro x _ ⟨rfl, e, rfl⟩)))
    go_ret
    exact Ret.mk rfl (HE.out.trans e.h)
  rw [decide_eq_true hf0] at KF0
  by_cases hf1 : y.name.length ≤ 100
  case neg =>
    rw [decide_eq_false hf1] at KF1
    clear hf0 hf1
    go_wp2_with (first | (clear tk10; refine wpList_mid (by rfl) 24 _ rfl _ 0 rfl _ _ (HN0.out _) Tryz.underlying24 rfl (by kernel_rfl) ?_) | (clear tk11; refine wpList_mid (by rfl) 24 _ rfl _ 4 rfl _ _ (HN1.out _) Tryz.underlying24 rfl (by kernel_rfl) ?_) | (go_at_call 5; refine (Ret.later (KA.out _)).mono ?_; rintro x _ ⟨rfl, e, rfl⟩) | (go_at_call 6; first | ((with_reducible refine (Ret.later (KF0.out _)).mono ?_); rintro x _ ⟨rfl, e, rfl⟩) | ((with_reducible refine (Ret.later (KF1.out _)).mono ?_); rintro x _ ⟨rfl, e, rfl⟩) | ((with_reducible refine (Ret.later (KF2.out _)).mono ?_); rintro x _ ⟨rfl, e, rfl⟩)))
    go_ret
    exact Ret.mk rfl (HE.out.trans e.h)
  rw [decide_eq_true hf1] at KF1
  by_cases hf2 : r.of.src.name.length ≤ 100
  case neg =>
    rw [decide_eq_false hf2] at KF2
    clear hf0 hf1 hf2
    go_wp2_with (first | (clear tk10; refine wpList_mid (by rfl) 24 _ rfl _ 0 rfl _ _ (HN0.out _) Tryz.underlying24 rfl (by kernel_rfl) ?_) | (clear tk11; refine wpList_mid (by rfl) 24 _ rfl _ 4 rfl _ _ (HN1.out _) Tryz.underlying24 rfl (by kernel_rfl) ?_) | (clear tk12; refine wpList_mid (by rfl) 24 _ rfl _ 3 rfl _ _ (HN2.out _) Tryz.underlying24 rfl (by kernel_rfl) ?_) | (go_at_call 5; refine (Ret.later (KA.out _)).mono ?_; rintro x _ ⟨rfl, e, rfl⟩) | (go_at_call 6; first | ((with_reducible refine (Ret.later (KF0.out _)).mono ?_); rintro x _ ⟨rfl, e, rfl⟩) | ((with_reducible refine (Ret.later (KF1.out _)).mono ?_); rintro x _ ⟨rfl, e, rfl⟩) | ((with_reducible refine (Ret.later (KF2.out _)).mono ?_); rintro x _ ⟨rfl, e, rfl⟩)))
    go_ret
    exact Ret.mk rfl (HE.out.trans e.h)
  rw [decide_eq_true hf2] at KF2
  have KM := hid (fun W => repMake_any x (rptP y) r a b c ⟨hn.1, hn.2.1, hn.2.2.1, hn.2.2.2, by omega⟩ ⟨by omega, by show y.name.length < _; omega⟩ W)
  have KQ := hid (fun W => r25Make_any x (rptP y) r a b c W)
  have KM : Hid (∀ W, Calls Tryz.prog 7 #[x.v, .agg #[.int .u64 0, .int .i64 0, .int .i64 0, .string ⟨#[]⟩, .int .u64 0, .int .u64 0, .int .i64 0, .string ⟨#[]⟩, .int .u64 0, .int .u64 0, .int .i64 y.sch, str y.name, .int .u64 (y.node : Int), .int .u64 (y.svc : Int), .int .u64 0, .int .u64 0, .int .u64 0, .int .u64 0, .int .u64 0], repV r, .int .u64 (a : Int), .int .u64 (b : Int), .int .u64 (c : Int)] W (MkPost (mkP y x a b c) r W)) := hid (fun W => KM.out W)
  have KQ : Hid (∀ W, Calls Tryz.prog 8 #[x.v, .agg #[.int .u64 0, .int .i64 0, .int .i64 0, .string ⟨#[]⟩, .int .u64 0, .int .u64 0, .int .i64 0, .string ⟨#[]⟩, .int .u64 0, .int .u64 0, .int .i64 y.sch, str y.name, .int .u64 (y.node : Int), .int .u64 (y.svc : Int), .int .u64 0, .int .u64 0, .int .u64 0, .int .u64 0, .int .u64 0], repV r, .agg (nums3C a b c)] W (MkPost (mkP y x a b c) r W)) := hid (fun W => KQ.out W)
  clear hf0 hf1 hf2 hn
  generalize mkP y x a b c = P at *
  obtain ⟨R, hR⟩ : ∃ R, mkR P r = R := ⟨_, rfl⟩
  have HR := hid hR
  clear hR
  go_upto_region 3 with (first | (clear tk10; refine wpList_mid (by rfl) 24 _ rfl _ 0 rfl _ _ (HN0.out _) Tryz.underlying24 rfl (by kernel_rfl) ?_) | (clear tk11; refine wpList_mid (by rfl) 24 _ rfl _ 4 rfl _ _ (HN1.out _) Tryz.underlying24 rfl (by kernel_rfl) ?_) | (clear tk12; refine wpList_mid (by rfl) 24 _ rfl _ 3 rfl _ _ (HN2.out _) Tryz.underlying24 rfl (by kernel_rfl) ?_) | (go_at_call 5; refine (Ret.later (KA.out _)).mono ?_; rintro x _ ⟨rfl, e, rfl⟩) | (go_at_call 6; first | ((with_reducible refine (Ret.later (KF0.out _)).mono ?_); rintro x _ ⟨rfl, e, rfl⟩) | ((with_reducible refine (Ret.later (KF1.out _)).mono ?_); rintro x _ ⟨rfl, e, rfl⟩) | ((with_reducible refine (Ret.later (KF2.out _)).mono ?_); rintro x _ ⟨rfl, e, rfl⟩)))
  have tk11 : True := trivial
  go_upto_region 4 with (first | (clear tk11; refine wpList_mid (by rfl) 24 _ rfl _ 4 rfl _ _ (HN1.out _) Tryz.underlying24 rfl (by kernel_rfl) ?_) | (refine wpList_store_mid rfl 34 _ _ rfl e.x.heap.size 0 #[.int .u64 0, .int .i64 0, .int .i64 0, .string ⟨#[]⟩, .int .u64 0, .int .u64 0, .int .i64 0, .string ⟨#[]⟩, .int .u64 0, .int .u64 0, .int .i64 y.sch, str y.name, .int .u64 (y.node : Int), .int .u64 (y.svc : Int), .int .u64 0, .int .u64 0, .int .u64 0, .int .u64 0, .int .u64 0] (by rfl) (by rfl) ((Blk.new _ _ _).there (Nat.le_refl 19)) (by kernel_rfl) (by simp [Value.oneCell']) ?_))
  generalize hZ : World.setCells _ _ _ _ = U
  have HP : Hid (Blk U e.x.heap.size 34 #[.int .u64 0, .int .i64 0, .int .i64 0, .string ⟨#[]⟩, .int .u64 0, .int .u64 0, .int .i64 0, .string ⟨#[]⟩, .int .u64 0, .int .u64 0, .int .i64 y.sch, str y.name, .int .u64 (y.node : Int), .int .u64 (y.svc : Int), .int .u64 0, .int .u64 0, .int .u64 0, .int .u64 0, .int .u64 0]) := hid (by rw [← hZ]; exact setCells_all (ds := #[.int .u64 0, .int .i64 0, .int .i64 0, .string ⟨#[]⟩, .int .u64 0, .int .u64 0, .int .i64 0, .string ⟨#[]⟩, .int .u64 0, .int .u64 0, .int .i64 y.sch, str y.name, .int .u64 (y.node : Int), .int .u64 (y.svc : Int), .int .u64 0, .int .u64 0, .int .u64 0, .int .u64 0, .int .u64 0]) (Blk.new _ _ _) rfl)
  have HX : Hid (Ext V U) := hid (by rw [← hZ]; exact setCells_mod _ _ (e.h.alloc _) (.inr e.h.size))
  clear hZ
  generalize e.x.heap.size = nP at *
  clear e
  have HE := hid (HE.out.trans HX.out)
  have HB0 := hid (HB0.out.ext HX.out)
  have HB1 := hid (HB1.out.ext HX.out)
  have HB2 := hid (HB2.out.ext HX.out)
  clear HX
  have HN0 : Hid (∀ e : Later U, e.x.rangeAt w.heap.size 0 [.int .i64 x.sch, str x.name, .int .u64 (x.node : Int), .int .u64 (x.svc : Int)]) := HB0.out.range 0 4 (by rfl)
  have HN1 : Hid (∀ e : Later U, e.x.rangeAt w.heap.size 4 [.int .i64 y.sch, str y.name, .int .u64 (y.node : Int), .int .u64 (y.svc : Int)]) := HB0.out.range 4 4 (by rfl)
  have HRL : Hid (∀ e : Later U, Blk e.x (w.heap.size + 1) 29 (repC r)) := hid (fun e => HB1.out.later e)
  have d0 : ∀ e : Later U, e.x.cell? ⟨w.heap.size + 2, 0, none⟩ = some (.int .u64 (a : Int)) := HB2.out.cellL 0 rfl
  have d1 : ∀ e : Later U, e.x.cell? ⟨w.heap.size + 2, 1, none⟩ = some (.int .u64 (b : Int)) := HB2.out.cellL 1 rfl
  have d2 : ∀ e : Later U, e.x.cell? ⟨w.heap.size + 2, 2, none⟩ = some (.int .u64 (c : Int)) := HB2.out.cellL 2 rfl
  have HPL : Hid (∀ e : Later U, Blk e.x nP 34 #[.int .u64 0, .int .i64 0, .int .i64 0, .string ⟨#[]⟩, .int .u64 0, .int .u64 0, .int .i64 0, .string ⟨#[]⟩, .int .u64 0, .int .u64 0, .int .i64 y.sch, str y.name, .int .u64 (y.node : Int), .int .u64 (y.svc : Int), .int .u64 0, .int .u64 0, .int .u64 0, .int .u64 0, .int .u64 0]) := hid (fun e => HP.out.later e)
  obtain ⟨e, he⟩ := Later.self U
  rw [he]
  clear he
  have tk10 : True := trivial
  have tk20 : True := trivial
  have tk21 : True := trivial
  go_upto_region 5 with (first | (clear tk10; refine wpList_mid (by rfl) 24 _ rfl _ 0 rfl _ _ (HN0.out _) Tryz.underlying24 rfl (by kernel_rfl) ?_) | (clear tk20; refine wpList_row (by rfl) 34 _ rfl _ rfl (HPL.out _) Tryz.underlying34 rfl (by kernel_rfl) ?_) | (clear tk21; refine wpList_row (by rfl) 29 _ rfl _ rfl (HRL.out _) Tryz.underlying29 rfl (by kernel_rfl) ?_) | (go_at_call 7; refine (KM.out _).mono ?_; rintro v w1 ⟨z1, rfl, hb, hr⟩; have HX := hid (e.h.trans hb); have HS1 := hid hr; have HC1 := hid hr.cells; rw [HR.out]; clear hb hr) | (refine wpList_store_mid rfl 37 _ _ rfl w1.heap.size 0 z1 (by rfl) (by rfl) ((Blk.new _ _ _).there (by rw [HC1.out.2.2]; exact Nat.le_refl 20)) HC1.out.1 HC1.out.2.1 ?_))
  generalize hZ : World.setCells _ _ _ _ = U1
  have HZ1 : Hid (Blk U1 w1.heap.size 37 z1) := hid (by rw [← hZ]; exact setCells_all (ds := z1) (Blk.new _ _ _) (by rw [Array.length_toList, HC1.out.2.2]; rfl))
  have HXw : Hid (Ext w1 U1) := hid (by rw [← hZ]; exact setCells_mod _ _ ((Mod.refl [] _).alloc _) (.inr (Nat.le_refl _)))
  have HXU : Hid (Ext U U1) := hid (by rw [← hZ]; exact setCells_mod _ _ (HX.out.alloc _) (.inr HX.out.size))
  have HS1 := hid (HS1.out.ext HXw.out)
  clear hZ HX HXw d0 d1 d2 HN0 HN1 HRL HPL e
  generalize w1.heap.size = n1 at *
  have HE := hid (HE.out.trans HXU.out)
  have HB0 := hid (HB0.out.ext HXU.out)
  have HB1 := hid (HB1.out.ext HXU.out)
  have HB2 := hid (HB2.out.ext HXU.out)
  have HP := hid (HP.out.ext HXU.out)
  clear HXU
  have HN0 : Hid (∀ e : Later U1, e.x.rangeAt w.heap.size 0 [.int .i64 x.sch, str x.name, .int .u64 (x.node : Int), .int .u64 (x.svc : Int)]) := HB0.out.range 0 4 (by rfl)
  have HN1 : Hid (∀ e : Later U1, e.x.rangeAt w.heap.size 4 [.int .i64 y.sch, str y.name, .int .u64 (y.node : Int), .int .u64 (y.svc : Int)]) := HB0.out.range 4 4 (by rfl)
  have HRL : Hid (∀ e : Later U1, Blk e.x (w.heap.size + 1) 29 (repC r)) := hid (fun e => HB1.out.later e)
  have d0 : ∀ e : Later U1, e.x.cell? ⟨w.heap.size + 2, 0, none⟩ = some (.int .u64 (a : Int)) := HB2.out.cellL 0 rfl
  have d1 : ∀ e : Later U1, e.x.cell? ⟨w.heap.size + 2, 1, none⟩ = some (.int .u64 (b : Int)) := HB2.out.cellL 1 rfl
  have d2 : ∀ e : Later U1, e.x.cell? ⟨w.heap.size + 2, 2, none⟩ = some (.int .u64 (c : Int)) := HB2.out.cellL 2 rfl
  have HPL : Hid (∀ e : Later U1, Blk e.x nP 34 #[.int .u64 0, .int .i64 0, .int .i64 0, .string ⟨#[]⟩, .int .u64 0, .int .u64 0, .int .i64 0, .string ⟨#[]⟩, .int .u64 0, .int .u64 0, .int .i64 y.sch, str y.name, .int .u64 (y.node : Int), .int .u64 (y.svc : Int), .int .u64 0, .int .u64 0, .int .u64 0, .int .u64 0, .int .u64 0]) := hid (fun e => HP.out.later e)
  obtain ⟨e, he⟩ := Later.self U1
  rw [he]
  clear he
  have HAL : Hid (∀ e : Later U1, Blk e.x (w.heap.size + 2) 30 (nums3C a b c)) := hid (fun e => HB2.out.later e)
  have tk10 : True := trivial
  have tk20 : True := trivial
  have tk21 : True := trivial
  have tk22 : True := trivial
  go_upto_region 6 with (first | (clear tk10; refine wpList_mid (by rfl) 24 _ rfl _ 0 rfl _ _ (HN0.out _) Tryz.underlying24 rfl (by kernel_rfl) ?_) | (clear tk20; refine wpList_row (by rfl) 34 _ rfl _ rfl (HPL.out _) Tryz.underlying34 rfl (by kernel_rfl) ?_) | (clear tk21; refine wpList_row (by rfl) 29 _ rfl _ rfl (HRL.out _) Tryz.underlying29 rfl (by kernel_rfl) ?_) | (clear tk22; refine wpList_row (by rfl) 30 _ rfl _ rfl (HAL.out _) Tryz.underlying30 rfl (by kernel_rfl) ?_) | (go_at_call 8; refine (KQ.out _).mono ?_; rintro v w2 ⟨z2, rfl, hb, hr⟩; have HX := hid (e.h.trans hb); have HS2 := hid hr; have HC2 := hid hr.cells; rw [HR.out]; clear hb hr) | (refine wpList_store_mid rfl 37 _ _ rfl w2.heap.size 0 z2 (by rfl) (by rfl) ((Blk.new _ _ _).there (by rw [HC2.out.2.2]; exact Nat.le_refl 20)) HC2.out.1 HC2.out.2.1 ?_))
  generalize hZ : World.setCells _ _ _ _ = U2
  have HZ2 : Hid (Blk U2 w2.heap.size 37 z2) := hid (by rw [← hZ]; exact setCells_all (ds := z2) (Blk.new _ _ _) (by rw [Array.length_toList, HC2.out.2.2]; rfl))
  have HXw : Hid (Ext w2 U2) := hid (by rw [← hZ]; exact setCells_mod _ _ ((Mod.refl [] _).alloc _) (.inr (Nat.le_refl _)))
  have HXU : Hid (Ext U1 U2) := hid (by rw [← hZ]; exact setCells_mod _ _ (HX.out.alloc _) (.inr HX.out.size))
  have HS2 := hid (HS2.out.ext HXw.out)
  clear hZ HX HXw d0 d1 d2 HN0 HN1 HRL HPL e
  generalize w2.heap.size = n2 at *
  have HE := hid (HE.out.trans HXU.out)
  have HS1 := hid (HS1.out.ext HXU.out)
  have HZ1 := hid (HZ1.out.ext HXU.out)
  have HL1 : Hid (∀ e : Later U2, Blk e.x n1 37 z1) := hid (fun e => HZ1.out.later e)
  have HL2 : Hid (∀ e : Later U2, Blk e.x n2 37 z2) := hid (fun e => HZ2.out.later e)
  have KS : Hid (∀ e : Later U2, Calls Tryz.prog 9 #[.agg z1, .agg z2] e.x (Ret (.bool true) e.x)) := hid (fun e => Same_mk (HS1.out.ext e.h) (HS2.out.ext e.h))
  obtain ⟨e, he⟩ := Later.self U2
  rw [he]
  clear he HAL
  have tk20 : True := trivial
  have tk21 : True := trivial
  go_wp2_with (first | (clear tk20; refine wpList_row (by rfl) 37 _ rfl _ rfl (HL1.out _) Tryz.underlying37 rfl HC1.out.1 ?_) | (clear tk21; refine wpList_row (by rfl) 37 _ rfl _ rfl (HL2.out _) Tryz.underlying37 rfl HC2.out.1 ?_) | (go_at_call 9; refine (Ret.later (KS.out _)).mono ?_; rintro x _ ⟨rfl, e, rfl⟩))
  go_ret
  exact Ret.mk (by first | rfl | simp) (HE.out.trans e.h)
end Go.Proofs.YtogjghmoankleaaGreat


namespace Go.Proofs.YtogjghmoankleaaGreat
open Go.RowKit
set_option linter.unusedVariables false
set_option linter.unusedSimpArgs false

set_option maxRecDepth 20000 in
set_option maxHeartbeats 1600000 in
theorem wants_admin (x y : EV) (a b c : Nat) (g : Bool) (w : World) : Calls Tryz.prog 10 #[.agg #[.int .u64 2, .int .i64 0, .int .i64 y.sch, str y.name, .int .u64 (y.node : Int), .int .u64 (y.svc : Int), .int .i64 x.sch, str x.name, .int .u64 (x.node : Int), .int .u64 (x.svc : Int), .int .i64 1, str [110, 111, 110, 101], .int .u64 0, .int .u64 0, .int .u64 (a : Int), .int .u64 (b : Int), .int .u64 (c : Int), .int .u64 0, .int .u64 0], .bool g] w (Ret (.bool false) w) := by
  have HE := hid ((Mod.refl [] w).alloc (.cells #[.int .u64 2, .int .i64 0, .int .i64 y.sch, str y.name, .int .u64 (y.node : Int), .int .u64 (y.svc : Int), .int .i64 x.sch, str x.name, .int .u64 (x.node : Int), .int .u64 (x.svc : Int), .int .i64 1, str [110, 111, 110, 101], .int .u64 0, .int .u64 0, .int .u64 (a : Int), .int .u64 (b : Int), .int .u64 (c : Int), .int .u64 0, .int .u64 0] 34))
  have HB0 : Hid (Blk (w.alloc (.cells #[.int .u64 2, .int .i64 0, .int .i64 y.sch, str y.name, .int .u64 (y.node : Int), .int .u64 (y.svc : Int), .int .i64 x.sch, str x.name, .int .u64 (x.node : Int), .int .u64 (x.svc : Int), .int .i64 1, str [110, 111, 110, 101], .int .u64 0, .int .u64 0, .int .u64 (a : Int), .int .u64 (b : Int), .int .u64 (c : Int), .int .u64 0, .int .u64 0] 34)) w.heap.size 34 #[.int .u64 2, .int .i64 0, .int .i64 y.sch, str y.name, .int .u64 (y.node : Int), .int .u64 (y.svc : Int), .int .i64 x.sch, str x.name, .int .u64 (x.node : Int), .int .u64 (x.svc : Int), .int .i64 1, str [110, 111, 110, 101], .int .u64 0, .int .u64 0, .int .u64 (a : Int), .int .u64 (b : Int), .int .u64 (c : Int), .int .u64 0, .int .u64 0]) := hid (Blk.new w 34 #[.int .u64 2, .int .i64 0, .int .i64 y.sch, str y.name, .int .u64 (y.node : Int), .int .u64 (y.svc : Int), .int .i64 x.sch, str x.name, .int .u64 (x.node : Int), .int .u64 (x.svc : Int), .int .i64 1, str [110, 111, 110, 101], .int .u64 0, .int .u64 0, .int .u64 (a : Int), .int .u64 (b : Int), .int .u64 (c : Int), .int .u64 0, .int .u64 0])
  have KN := hid (fun W => eidNoneP_any W)
  have hbb : bits BinOp.and IntKind.u64 2 2 = 2 := by decide
  cases g
  · go_enter Tryz.func10, Tryz.ntmps10
    go_upto_region 1 with fail
    generalize (w.alloc (.cells #[.int .u64 2, .int .i64 0, .int .i64 y.sch, str y.name, .int .u64 (y.node : Int), .int .u64 (y.svc : Int), .int .i64 x.sch, str x.name, .int .u64 (x.node : Int), .int .u64 (x.svc : Int), .int .i64 1, str [110, 111, 110, 101], .int .u64 0, .int .u64 0, .int .u64 (a : Int), .int .u64 (b : Int), .int .u64 (c : Int), .int .u64 0, .int .u64 0] 34)) = V at *
    have b0 : ∀ e : Later V, e.x.cell? ⟨w.heap.size, 0, none⟩ = some (.int .u64 2) := HB0.out.cellL 0 rfl
    obtain ⟨e, he⟩ := Later.self V
    rw [he]
    clear he
    go_upto_region 4 with fail
    refine wp_region_later (by kernel_rfl) (by kernel_rfl) ?_
    repeat (first | go_big_quiet_step ((first | (go_at_call 15; exact Ret.later (KN.out _)))))
    refine wpQuiet_nil ?_
    rintro _ ⟨e, rfl⟩
    go_wp2_with fail
    go_ret
    exact Ret.mk rfl (HE.out.trans e.h)
  · go_enter Tryz.func10, Tryz.ntmps10
    go_upto_region 1 with fail
    generalize (w.alloc (.cells #[.int .u64 2, .int .i64 0, .int .i64 y.sch, str y.name, .int .u64 (y.node : Int), .int .u64 (y.svc : Int), .int .i64 x.sch, str x.name, .int .u64 (x.node : Int), .int .u64 (x.svc : Int), .int .i64 1, str [110, 111, 110, 101], .int .u64 0, .int .u64 0, .int .u64 (a : Int), .int .u64 (b : Int), .int .u64 (c : Int), .int .u64 0, .int .u64 0] 34)) = V at *
    have b0 : ∀ e : Later V, e.x.cell? ⟨w.heap.size, 0, none⟩ = some (.int .u64 2) := HB0.out.cellL 0 rfl
    obtain ⟨e, he⟩ := Later.self V
    rw [he]
    clear he
    go_upto_region 4 with fail
    refine wp_region_later (by kernel_rfl) (by kernel_rfl) ?_
    repeat (first | go_big_quiet_step ((first | (go_at_call 15; exact Ret.later (KN.out _)))))
    refine wpQuiet_nil ?_
    rintro _ ⟨e, rfl⟩
    go_wp2_with fail
    go_ret
    exact Ret.mk rfl (HE.out.trans e.h)
set_option maxRecDepth 20000 in
set_option maxHeartbeats 8000000 in
theorem lawRepNever_any (x y : EV) (r : RV) (a b c : Nat) (hn : r.of.t < 18446744073709551616 ∧ r.of.q < 18446744073709551616 ∧ r.of.o < 18446744073709551616 ∧ r.of.n < 18446744073709551616) (w : World) : Calls Tryz.prog 4 #[.agg (names2C x y), repV r, .agg (nums3C a b c)] w (Ret (.bool true) w) := by
  have KA := hid (fun W => awake25_any W)
  have KF0 := hid (fun W => few10L_any x W)
  have KF1 := hid (fun W => few10L_any y W)
  have KF2 := hid (fun W => few10L_any r.of.src W)
  have HE := hid ((((Mod.refl [] w).alloc (.cells (names2C x y) 25)).alloc (.cells (repC r) 29)).alloc (.cells (nums3C a b c) 30))
  have HB0 : Hid (Blk (((w.alloc (.cells (names2C x y) 25)).alloc (.cells (repC r) 29)).alloc (.cells (nums3C a b c) 30)) w.heap.size 25 (names2C x y)) := hid (((Blk.new w 25 (names2C x y)).alloc (.cells (repC r) 29)).alloc (.cells (nums3C a b c) 30))
  have HB1 : Hid (Blk (((w.alloc (.cells (names2C x y) 25)).alloc (.cells (repC r) 29)).alloc (.cells (nums3C a b c) 30)) (w.heap.size + 1) 29 (repC r)) := by unfold Hid; have := (Blk.newL (N := (w.heap.size + 1)) (w.alloc (.cells (names2C x y) 25)) 29 (repC r) (by simp)); exact (this.alloc (.cells (nums3C a b c) 30))
  have HB2 : Hid (Blk (((w.alloc (.cells (names2C x y) 25)).alloc (.cells (repC r) 29)).alloc (.cells (nums3C a b c) 30)) (w.heap.size + 1 + 1) 30 (nums3C a b c)) := by unfold Hid; exact Blk.newL _ _ _ (by simp)
  go_enter Tryz.func4, Tryz.ntmps4
  go_upto_region 1 with fail
  generalize (((w.alloc (.cells (names2C x y) 25)).alloc (.cells (repC r) 29)).alloc (.cells (nums3C a b c) 30)) = V at *
  have HN0 : Hid (∀ e : Later V, e.x.rangeAt w.heap.size 0 [.int .i64 x.sch, str x.name, .int .u64 (x.node : Int), .int .u64 (x.svc : Int)]) := HB0.out.range 0 4 (by rfl)
  have HN1 : Hid (∀ e : Later V, e.x.rangeAt w.heap.size 4 [.int .i64 y.sch, str y.name, .int .u64 (y.node : Int), .int .u64 (y.svc : Int)]) := HB0.out.range 4 4 (by rfl)
  have HN2 : Hid (∀ e : Later V, e.x.rangeAt (w.heap.size + 1) 3 [.int .i64 r.of.src.sch, str r.of.src.name, .int .u64 (r.of.src.node : Int), .int .u64 (r.of.src.svc : Int)]) := HB1.out.range 3 4 (by rfl)
  obtain ⟨e, he⟩ := Later.self V
  rw [he]
  clear he
  have tk10 : True := trivial
  have tk11 : True := trivial
  have tk12 : True := trivial
  by_cases hf0 : x.name.length ≤ 100
  case neg =>
    rw [decide_eq_false hf0] at KF0
    clear hf0
    go_wp2_with (first | (clear tk10; refine wpList_mid (by rfl) 24 _ rfl _ 0 rfl _ _ (HN0.out _) Tryz.underlying24 rfl (by kernel_rfl) ?_) | (go_at_call 5; refine (Ret.later (KA.out _)).mono ?_; rintro x _ ⟨rfl, e, rfl⟩) | (go_at_call 6; first | ((with_reducible refine (Ret.later (KF0.out _)).mono ?_); rintro x _ ⟨rfl, e, rfl⟩) | ((with_reducible refine (Ret.later (KF1.out _)).mono ?_); rintro x _ ⟨rfl, e, rfl⟩) | ((with_reducible refine (Ret.later (KF2.out _)).mono ?_); rintro x _ ⟨rfl, e, rfl⟩)))
    go_ret
    exact Ret.mk rfl (HE.out.trans e.h)
  rw [decide_eq_true hf0] at KF0
  by_cases hf1 : y.name.length ≤ 100
  case neg =>
    rw [decide_eq_false hf1] at KF1
    clear hf0 hf1
    go_wp2_with (first | (clear tk10; refine wpList_mid (by rfl) 24 _ rfl _ 0 rfl _ _ (HN0.out _) Tryz.underlying24 rfl (by kernel_rfl) ?_) | (clear tk11; refine wpList_mid (by rfl) 24 _ rfl _ 4 rfl _ _ (HN1.out _) Tryz.underlying24 rfl (by kernel_rfl) ?_) | (go_at_call 5; refine (Ret.later (KA.out _)).mono ?_; rintro x _ ⟨rfl, e, rfl⟩) | (go_at_call 6; first | ((with_reducible refine (Ret.later (KF0.out _)).mono ?_); rintro x _ ⟨rfl, e, rfl⟩) | ((with_reducible refine (Ret.later (KF1.out _)).mono ?_); rintro x _ ⟨rfl, e, rfl⟩) | ((with_reducible refine (Ret.later (KF2.out _)).mono ?_); rintro x _ ⟨rfl, e, rfl⟩)))
    go_ret
    exact Ret.mk rfl (HE.out.trans e.h)
  rw [decide_eq_true hf1] at KF1
  by_cases hf2 : r.of.src.name.length ≤ 100
  case neg =>
    rw [decide_eq_false hf2] at KF2
    clear hf0 hf1 hf2
    go_wp2_with (first | (clear tk10; refine wpList_mid (by rfl) 24 _ rfl _ 0 rfl _ _ (HN0.out _) Tryz.underlying24 rfl (by kernel_rfl) ?_) | (clear tk11; refine wpList_mid (by rfl) 24 _ rfl _ 4 rfl _ _ (HN1.out _) Tryz.underlying24 rfl (by kernel_rfl) ?_) | (clear tk12; refine wpList_mid (by rfl) 24 _ rfl _ 3 rfl _ _ (HN2.out _) Tryz.underlying24 rfl (by kernel_rfl) ?_) | (go_at_call 5; refine (Ret.later (KA.out _)).mono ?_; rintro x _ ⟨rfl, e, rfl⟩) | (go_at_call 6; first | ((with_reducible refine (Ret.later (KF0.out _)).mono ?_); rintro x _ ⟨rfl, e, rfl⟩) | ((with_reducible refine (Ret.later (KF1.out _)).mono ?_); rintro x _ ⟨rfl, e, rfl⟩) | ((with_reducible refine (Ret.later (KF2.out _)).mono ?_); rintro x _ ⟨rfl, e, rfl⟩)))
    go_ret
    exact Ret.mk rfl (HE.out.trans e.h)
  rw [decide_eq_true hf2] at KF2
  have KM := hid (fun W => repMake_any x (rptP y) r a b c ⟨hn.1, hn.2.1, hn.2.2.1, hn.2.2.2, by omega⟩ ⟨by omega, by show y.name.length < _; omega⟩ W)
  have KM : Hid (∀ W, Calls Tryz.prog 7 #[x.v, .agg #[.int .u64 0, .int .i64 0, .int .i64 0, .string ⟨#[]⟩, .int .u64 0, .int .u64 0, .int .i64 0, .string ⟨#[]⟩, .int .u64 0, .int .u64 0, .int .i64 y.sch, str y.name, .int .u64 (y.node : Int), .int .u64 (y.svc : Int), .int .u64 0, .int .u64 0, .int .u64 0, .int .u64 0, .int .u64 0], repV r, .int .u64 (a : Int), .int .u64 (b : Int), .int .u64 (c : Int)] W (MkPost (mkP y x a b c) r W)) := hid (fun W => KM.out W)
  clear hf0 hf1 hf2 hn
  obtain ⟨R, hR⟩ : ∃ R, mkR (mkP y x a b c) r = R := ⟨_, rfl⟩
  have HR := hid hR
  clear hR
  go_upto_region 3 with (first | (clear tk10; refine wpList_mid (by rfl) 24 _ rfl _ 0 rfl _ _ (HN0.out _) Tryz.underlying24 rfl (by kernel_rfl) ?_) | (clear tk11; refine wpList_mid (by rfl) 24 _ rfl _ 4 rfl _ _ (HN1.out _) Tryz.underlying24 rfl (by kernel_rfl) ?_) | (clear tk12; refine wpList_mid (by rfl) 24 _ rfl _ 3 rfl _ _ (HN2.out _) Tryz.underlying24 rfl (by kernel_rfl) ?_) | (go_at_call 5; refine (Ret.later (KA.out _)).mono ?_; rintro x _ ⟨rfl, e, rfl⟩) | (go_at_call 6; first | ((with_reducible refine (Ret.later (KF0.out _)).mono ?_); rintro x _ ⟨rfl, e, rfl⟩) | ((with_reducible refine (Ret.later (KF1.out _)).mono ?_); rintro x _ ⟨rfl, e, rfl⟩) | ((with_reducible refine (Ret.later (KF2.out _)).mono ?_); rintro x _ ⟨rfl, e, rfl⟩)))
  have HRL : Hid (∀ e : Later V, Blk e.x (w.heap.size + 1) 29 (repC r)) := hid (fun e => HB1.out.later e)
  have d0 : ∀ e : Later V, e.x.cell? ⟨w.heap.size + 2, 0, none⟩ = some (.int .u64 (a : Int)) := HB2.out.cellL 0 rfl
  have d1 : ∀ e : Later V, e.x.cell? ⟨w.heap.size + 2, 1, none⟩ = some (.int .u64 (b : Int)) := HB2.out.cellL 1 rfl
  have d2 : ∀ e : Later V, e.x.cell? ⟨w.heap.size + 2, 2, none⟩ = some (.int .u64 (c : Int)) := HB2.out.cellL 2 rfl
  have tk10 : True := trivial
  have tk11 : True := trivial
  have tk21 : True := trivial
  go_upto_region 4 with (first | (clear tk10; refine wpList_mid (by rfl) 24 _ rfl _ 0 rfl _ _ (HN0.out _) Tryz.underlying24 rfl (by kernel_rfl) ?_) | (clear tk11; refine wpList_mid (by rfl) 24 _ rfl _ 4 rfl _ _ (HN1.out _) Tryz.underlying24 rfl (by kernel_rfl) ?_) | (clear tk21; refine wpList_row (by rfl) 29 _ rfl _ rfl (HRL.out _) Tryz.underlying29 rfl (by kernel_rfl) ?_) | (go_at_call 7; refine (KM.out _).mono ?_; rintro v w1 ⟨z1, rfl, hb, hr⟩; have HX := hid (e.h.trans hb); have HS1 := hid hr; have HC1 := hid hr.cells; rw [HR.out]; clear hb hr) | (refine wpList_store_mid rfl 37 _ _ rfl w1.heap.size 0 z1 (by rfl) (by rfl) ((Blk.new _ _ _).there (by rw [HC1.out.2.2]; exact Nat.le_refl 20)) HC1.out.1 HC1.out.2.1 ?_))
  generalize hZ : World.setCells _ _ _ _ = U1
  have HZ1 : Hid (Blk U1 w1.heap.size 37 z1) := hid (by rw [← hZ]; exact setCells_all (ds := z1) (Blk.new _ _ _) (by rw [Array.length_toList, HC1.out.2.2]; rfl))
  have HXw : Hid (Ext w1 U1) := hid (by rw [← hZ]; exact setCells_mod _ _ ((Mod.refl [] _).alloc _) (.inr (Nat.le_refl _)))
  have HXU : Hid (Ext V U1) := hid (by rw [← hZ]; exact setCells_mod _ _ (HX.out.alloc _) (.inr HX.out.size))
  have HS1 := hid (HS1.out.ext HXw.out)
  clear hZ HX HXw d0 d1 d2 HN0 HN1 HRL HN2 e
  generalize w1.heap.size = n1 at *
  have HE := hid (HE.out.trans HXU.out)
  have HB0 := hid (HB0.out.ext HXU.out)
  have HB1 := hid (HB1.out.ext HXU.out)
  clear HXU HB2 KM
  obtain ⟨e, he⟩ := Later.self U1
  rw [he]
  clear he
  by_cases hR : R = 0
  case neg =>
    have hz : z1 = zeroBun := by
      rcases HS1.out with h | h
      · exact h.2
      · exact absurd (HR.out ▸ h.1) hR
    rw [hz] at HZ1
    have t1a : ((R) == (0)) = false := by rw [beq_eq_false_iff_ne]; exact hR
    have t1b : ((R) = (0)) = False := eq_false (by exact hR)
    have t1c : ((R) != (0)) = true := by rw [bne_iff_ne]; exact hR
    have c19 : ∀ e : Later U1, e.x.cell? ⟨n1, 19, none⟩ = some (.slice none 0 0) := HZ1.out.cellL 19 rfl
    clear hR hz
    go_wp2_with fail
    go_ret
    exact Ret.mk rfl (HE.out.trans e.h)
  obtain ⟨hrt, A, cc, hz, hbs⟩ : r.right = true ∧ ∃ A cc, z1 = bunC (mkP y x a b c) A 2 cc ∧ BsL U1 A 2 (mkB r.bytes) := by
    rcases HS1.out with h | h
    · exact absurd (HR.out ▸ hR) h.1
    · exact h.2
  have hb0 : bunRight (mkP y x a b c) (mkB r.bytes) 2 = 0 := by
    have h := HR.out
    unfold mkR at h
    rw [hrt, if_pos rfl] at h
    rw [h, hR]
  have HBX : Hid (∀ e : Later U1, BsL e.x A 2 (mkB r.bytes)) := hid (fun e => hbs.ext e.h)
  have HZX : Hid (Blk U1 n1 37 (bunC (mkP y x a b c) A 2 cc)) := hid (hz ▸ HZ1.out)
  have HP0 : Hid (∀ e : Later U1, e.x.rangeAt n1 0 [.int .u64 2, .int .i64 0, .int .i64 y.sch, str y.name, .int .u64 (y.node : Int), .int .u64 (y.svc : Int), .int .i64 x.sch, str x.name, .int .u64 (x.node : Int), .int .u64 (x.svc : Int), .int .i64 1, str [110, 111, 110, 101], .int .u64 0, .int .u64 0, .int .u64 (a : Int), .int .u64 (b : Int), .int .u64 (c : Int), .int .u64 0, .int .u64 0]) := HZX.out.range 0 19 (by rw [Array.toList_extract]; rfl)
  have HPD : Hid (∀ e : Later U1, e.x.rangeAt n1 2 [.int .i64 y.sch, str y.name, .int .u64 (y.node : Int), .int .u64 (y.svc : Int)]) := HZX.out.range 2 4 (by rfl)
  have HZL : Hid (∀ e : Later U1, Blk e.x n1 37 z1) := hid (fun e => HZ1.out.later e)
  have KX : Hid (∀ W, BsL W A 2 (mkB r.bytes) → Calls Tryz.prog 11 #[.agg z1] W (Ret (.int .i64 0) W)) := hid (fun W hL => by
    rw [hz, ← hb0]
    exact r13Right_any (mkP y x a b c) (mkB r.bytes) 2 cc A (by show 2 < _; decide) (by decide) (fun i hi => by
      have hi : i = 0 ∨ i = 1 := by omega
      rcases hi with rfl | rfl
      · show (1 : Nat) ≤ _; decide
      · exact RV.bytes_len hrt) W hL)
  have KW := hid (fun g W => wants_admin x y a b c g W)
  have c19 : ∀ e : Later U1, e.x.cell? ⟨n1, 19, none⟩ = some (.slice A 2 cc) := HZX.out.cellL 19 rfl
  have HN1 : Hid (∀ e : Later U1, e.x.rangeAt w.heap.size 4 [.int .i64 y.sch, str y.name, .int .u64 (y.node : Int), .int .u64 (y.svc : Int)]) := HB0.out.range 4 4 (by rfl)
  obtain ⟨gb, go, rfl, hgb, _, _, _, _, k4⟩ := hbs.cells (i := 1) (by decide)
  have k4 : ∀ e : Later U1, e.x.cell? ⟨gb, go + 5 + 4, none⟩ = some (str r.bytes) := fun e => by have := k4 e; rwa [show go + 1 * 5 + 4 = go + 5 + 4 by omega] at this
  have KP : Hid (∀ W, Calls Tryz.prog 12 #[str r.bytes] W (Ret (.tuple #[repV r, .int .i64 0]) W)) := hid (fun W => by have := repParse_any r.bytes (by have := RV.bytes_len hrt; omega) W; rw [rparse_some (repO_some hrt)] at this; exact this)
  obtain ⟨zc, hzc⟩ : ∃ zc : Array Value, zc = #[.bool r.here, .bool r.gone, .int .i64 r.reason, .int .i64 r.of.src.sch, str r.of.src.name, .int .u64 (r.of.src.node : Int), .int .u64 (r.of.src.svc : Int), .int .u64 (r.of.t : Int), .int .u64 (r.of.q : Int), .bool r.of.fr, .int .u64 (r.of.o : Int), .int .u64 (r.of.n : Int)] := ⟨_, rfl⟩
  have HZS : Hid ((Tryz.prog.info? 29).map (·.size) = some zc.size) := hid (by rw [hzc]; kernel_rfl)
  have HY1 : Hid (zc.all (·.oneCell') = true) := hid (by rw [hzc]; simp [Value.oneCell'])
  have HY2 : Hid (zc.size ≤ 12) := hid (by rw [hzc]; exact Nat.le_refl 12)
  have HZC := hid hzc
  have KP : Hid (∀ W, Calls Tryz.prog 12 #[str r.bytes] W (Ret (.tuple #[.agg zc, .int .i64 0]) W)) := hid (by rw [hzc]; exact KP.out)
  subst hR
  clear hzc hb0 hrt hz hbs hgb HS1 HR HZX HZ1 KA KF0 KF1 KF2
  generalize r.bytes = B at *
  have tk11 : True := trivial
  have tk30 : True := trivial
  have tk31 : True := trivial
  have tk32 : True := trivial
  have tk33 : True := trivial
  have fr1 : True := trivial
  go_upto_region 8 with (first | (clear tk30; refine wpList_mid (by rfl) 34 _ rfl _ 0 rfl _ _ (HP0.out _) Tryz.underlying34 rfl (by kernel_rfl) ?_) | (clear tk31; refine wpList_mid (by rfl) 34 _ rfl _ 0 rfl _ _ (HP0.out _) Tryz.underlying34 rfl (by kernel_rfl) ?_) | (clear tk32; refine wpList_row (by rfl) 37 _ rfl _ rfl (HZL.out _) Tryz.underlying37 rfl HC1.out.1 ?_) | (clear tk33; refine wpList_mid (by rfl) 24 _ rfl _ 2 rfl _ _ (HPD.out _) Tryz.underlying24 rfl (by kernel_rfl) ?_) | (clear tk11; refine wpList_mid (by rfl) 24 _ rfl _ 4 rfl _ _ (HN1.out _) Tryz.underlying24 rfl (by kernel_rfl) ?_) | (go_at_call 10; refine (Ret.later (KW.out _ _)).mono ?_; rintro x _ ⟨rfl, e, rfl⟩) | (go_at_call 11; refine (Ret.later (KX.out _ (HBX.out _))).mono ?_; rintro x _ ⟨rfl, e, rfl⟩))
  go_upto_region 9 with (first | (go_at_call 12; refine (KP.out _).mono ?_; rintro v w2 ⟨rfl, hb⟩; have HX := hid (e.h.trans hb); clear hb) | (refine wpList_store_mid rfl 29 _ _ rfl w2.heap.size 0 zc (by rfl) (by rfl) ((Blk.new _ _ _).there HY2.out) HZS.out HY1.out ?_))
  generalize hZ : World.setCells _ _ _ _ = U2
  have HQ2 : Hid (Blk U2 w2.heap.size 29 #[.bool r.here, .bool r.gone, .int .i64 r.reason, .int .i64 r.of.src.sch, str r.of.src.name, .int .u64 (r.of.src.node : Int), .int .u64 (r.of.src.svc : Int), .int .u64 (r.of.t : Int), .int .u64 (r.of.q : Int), .bool r.of.fr, .int .u64 (r.of.o : Int), .int .u64 (r.of.n : Int)]) := hid (by rw [← hZ]; rw [← HZC.out]; exact setCells_all (ds := zc) (Blk.new _ _ _) (by rw [HZC.out]; rfl))
  have HX2 : Hid (Ext U1 U2) := hid (by rw [← hZ]; exact setCells_mod _ _ (HX.out.alloc _) (.inr HX.out.size))
  have HRL : Hid (∀ e : Later U2, Blk e.x (w.heap.size + 1) 29 #[.bool r.here, .bool r.gone, .int .i64 r.reason, .int .i64 r.of.src.sch, str r.of.src.name, .int .u64 (r.of.src.node : Int), .int .u64 (r.of.src.svc : Int), .int .u64 (r.of.t : Int), .int .u64 (r.of.q : Int), .bool r.of.fr, .int .u64 (r.of.o : Int), .int .u64 (r.of.n : Int)]) := hid (fun e => (HB1.out.ext HX2.out).later e)
  have HRM : Hid (∀ e : Later U2, Blk e.x w2.heap.size 29 #[.bool r.here, .bool r.gone, .int .i64 r.reason, .int .i64 r.of.src.sch, str r.of.src.name, .int .u64 (r.of.src.node : Int), .int .u64 (r.of.src.svc : Int), .int .u64 (r.of.t : Int), .int .u64 (r.of.q : Int), .bool r.of.fr, .int .u64 (r.of.o : Int), .int .u64 (r.of.n : Int)]) := hid (fun e => HQ2.out.later e)
  have HE2 := hid (HE.out.trans HX2.out)
  clear hZ HX HX2 HB0 HB1 HE HQ2 HP0 HPD HZL HN1 c19 k4 e
  generalize w2.heap.size = n2 at *
  obtain ⟨e, he⟩ := Later.self U2
  rw [he]
  clear he
  have tk20 : True := trivial
  have tk21 : True := trivial
  go_wp2_with (first | (clear tk20; refine wpList_row (by rfl) 29 _ rfl _ rfl (HRM.out _) Tryz.underlying29 rfl (by kernel_rfl) ?_) | (clear tk21; refine wpList_row (by rfl) 29 _ rfl _ rfl (HRL.out _) Tryz.underlying29 rfl (by kernel_rfl) ?_))
  go_ret
  exact Ret.mk (by first | rfl | simp) (HE2.out.trans e.h)
end Go.Proofs.YtogjghmoankleaaGreat
