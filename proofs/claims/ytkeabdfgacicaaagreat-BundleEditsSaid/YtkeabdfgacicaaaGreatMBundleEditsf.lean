/-
  Why a bundle is not right, as the reference tells.
  Rows of blocks of the call's own: their cells; what is appended to them.
  slices.Clone of blocks.
  slices.Insert of one block: where there is room.
  slices.Insert of one block: where there is no room.
  slices.Insert of one block into a row of one's own: the row behind it.
  slices.Delete of one block out of a row of one's own.
  append of blocks to a row of one's own, whatever their slice.
  A bundle with other blocks, as the reference puts it together.
  A bundle without blocks, copied as the reference does.
  Maps from numbers to numbers that count.
  Whether numbers, and types that may be there once, are there once, as the code tells.
  Bundles: parts, the last block, whether a fragment fits, the bytes, as the code tells.
-/
import Derived.Test.YtkeabdfgacicaaaGreatMBundleEditse
import Derived.Deep.AppendLies
import Derived.Deep.RegionLaw
import Derived.Lib.SliceRun
import Derived.Lib.Overlaps
import Derived.Laws.Externs
import Derived.Laws.IdiomCopy
import Derived.Shelf.Spec.SlicesInsert
import Derived.Lib.AppendZerosOnto
import Derived.Laws.NewBlocks
import Derived.Laws.AppendOwnNone
import Derived.Maps.Own
import Derived.Maps.OwnOps
import Derived.Maps.Views

namespace Go.Proofs.YtkeabdfgacicaaaGreat
open Go.RowKit
set_option linter.unusedVariables false
set_option linter.unusedSimpArgs false

set_option maxRecDepth 20000 in
theorem r13Right_p (p : PV) (bs : Nat → BV) (k c : Nat) (A : Option Addr) (hf : p.fl < 18446744073709551616) (hk : k < 4611686018427387904) (hb : p.right ≠ 0) (w : World) (h : BsL w A k bs) : Calls Tryz.prog 14 #[bunV p A k c] w (Ret (.int .i64 p.right) w) := by
  have KP := hid (fun W => r11Right_any p hf W)
  have HE := hid ((Mod.refl [] w).alloc (.cells (bunC p A k c) 29))
  have HB0 : Hid (Blk (w.alloc (.cells (bunC p A k c) 29)) w.heap.size 29 (bunC p A k c)) := hid (Blk.new w 29 (bunC p A k c))
  generalize p.right = r at *
  have ra : ((r) == (0)) = false := by rw [beq_eq_false_iff_ne]; exact hb
  have rb : ((r) = (0)) = False := eq_false (by exact hb)
  have rc : ((r) != (0)) = true := by rw [bne_iff_ne]; exact hb
  clear hb hf hk h
  go_enter Tryz.func14, Tryz.ntmps14
  go_upto_region 1 with fail
  generalize (w.alloc (.cells (bunC p A k c) 29)) = V at *
  have HPR : Hid (∀ e : Later V, e.x.rangeAt w.heap.size 0 p.c.toList) := HB0.out.range 0 19 (by rw [Array.toList_extract]; rfl)
  have b19 : ∀ e : Later V, e.x.cell? ⟨w.heap.size, 19, none⟩ = some (.slice A k c) := HB0.out.cellL 19 rfl
  obtain ⟨e, he⟩ := Later.self V
  rw [he]
  clear he
  go_wp2_with (first | (refine wpList_mid (by rfl) 26 _ rfl _ 0 rfl _ _ (HPR.out _) Tryz.underlying26 rfl (by kernel_rfl) ?_) | (go_at_call 26; refine (Ret.later (KP.out _)).mono ?_; rintro x _ ⟨rfl, e, rfl⟩))
  go_ret
  exact Ret.mk rfl (HE.out.trans e.h)
set_option maxRecDepth 20000 in
set_option maxHeartbeats 40000000 in
theorem r13Right_ok (p : PV) (bs : Nat → BV) (k c : Nat) (A : Option Addr) (hf : p.fl < 18446744073709551616) (hk : k < 4611686018427387904) (hb : p.right = 0) (hd : ∀ i, i < k → (bs i).data.length ≤ 100000) (w : World) (h : BsL w A k bs) : Calls Tryz.prog 14 #[bunV p A k c] w (Ret (.int .i64 (match firstOf (badAt bs) k with | some i => (bs i).right | none => if 16 < k then 4 else if bunRule1 bs k then 8 else if bunRule2 p bs k then 8 else if bunRule3 p bs k then 8 else if 4000 < (bunBytes p bs k).length then 4 else 0)) w) := by
  generalize hRES : (match firstOf (badAt bs) k with | some i => (bs i).right | none => if 16 < k then 4 else if bunRule1 bs k then 8 else if bunRule2 p bs k then 8 else if bunRule3 p bs k then 8 else if 4000 < (bunBytes p bs k).length then 4 else 0) = RES
  have HRES := hid hRES
  clear hRES
  have KP := hid (fun W => r11Right_any p hf W)
  rw [hb] at KP
  have HE := hid ((Mod.refl [] w).alloc (.cells (bunC p A k c) 29))
  have HB0 : Hid (Blk (w.alloc (.cells (bunC p A k c) 29)) w.heap.size 29 (bunC p A k c)) := hid (Blk.new w 29 (bunC p A k c))
  have HL := hid (BsL.ext h HE.out)
  have k1 : (k : Int) < 4611686018427387904 := by omega
  have HK := hid hk
  have HD := hid hd
  have HF := hid hf
  have HP := hid hb
  have hrs := PV.ranged_spec (PV.right_ranged hb)
  have fl2 : p.fl < 2097152 := by omega
  have po : p.o ≤ 1099511627776 := by omega
  have pn : p.n ≤ 1099511627776 := by omega
  clear hb hf hk hd h hrs
  go_enter Tryz.func14, Tryz.ntmps14
  go_upto_region 1 with fail
  generalize (w.alloc (.cells (bunC p A k c) 29)) = V at *
  have HPR : Hid (∀ e : Later V, e.x.rangeAt w.heap.size 0 p.c.toList) := HB0.out.range 0 19 (by rw [Array.toList_extract]; rfl)
  have b19 : ∀ e : Later V, e.x.cell? ⟨w.heap.size, 19, none⟩ = some (.slice A k c) := HB0.out.cellL 19 rfl
  have b5 : ∀ e : Later V, e.x.cell? ⟨w.heap.size, 14, none⟩ = some (.int .u64 (p.t : Int)) := HB0.out.cellL 14 rfl
  have b0 : ∀ e : Later V, e.x.cell? ⟨w.heap.size, 0, none⟩ = some (.int .u64 (p.fl : Int)) := HB0.out.cellL 0 rfl
  have b17 : ∀ e : Later V, e.x.cell? ⟨w.heap.size, 17, none⟩ = some (.int .u64 (p.o : Int)) := HB0.out.cellL 17 rfl
  have b18 : ∀ e : Later V, e.x.cell? ⟨w.heap.size, 18, none⟩ = some (.int .u64 (p.n : Int)) := HB0.out.cellL 18 rfl
  have KC : Hid (∀ (e : Later V) typ, Calls Tryz.prog 28 #[.slice A k c, .int .i64 typ] e.x (Ret (.int .i64 (cntB bs typ k : Nat)) e.x)) := fun e typ => r13count_any bs k c A typ HK.out e.x (HL.out.ext e.h)
  have KT : Hid (∀ (e : Later V), Calls Tryz.prog 29 #[.slice A k c] e.x (Ret (.bool (dupB bs k)) e.x)) := fun e => r13twice_any bs k c A HK.out e.x (HL.out.ext e.h)
  have KH : Hid (∀ W, Calls Tryz.prog 30 #[.int .u64 (p.fl : Int), .int .i64 1] W (Ret (.bool (has p.fl 1)) W)) := fun W => Has_any p.fl 1 HF.out (by omega) (by omega) W
  obtain ⟨e0, he0⟩ := Later.self V
  rw [he0]
  go_upto_region 6 with (first | (refine wpList_mid (by rfl) 26 _ rfl _ 0 rfl _ _ (HPR.out _) Tryz.underlying26 rfl (by kernel_rfl) ?_) | (go_at_call 26; refine (Ret.later (KP.out _)).mono ?_; rintro x _ ⟨rfl, e, rfl⟩))
  go_loopw [5] (fun s5 wr => ∃ i : Nat, s5 = .int .i64 (i : Int) ∧ Hid (i ≤ k ∧ ∀ j, j < i → badAt bs j = false) ∧ ∃ e : Later V, wr = e.x) (fun s5 _ => k - (intOf s5).toNat)
  case atStart => exact ⟨0, rfl, (show Hid _ from ⟨Nat.zero_le _, fun j hj => by omega⟩), e, rfl⟩
  case round =>
    clear he0 e0 e
    obtain ⟨i, rfl, hi, e, rfl⟩ := hrel
    have i0 : (0 : Int) ≤ (i : Int) := by omega
    by_cases hlt : i < k
    · clear KC KT KH b5 b0 b17 b18 HF fl2 po pn
      obtain ⟨b, o, rfl, hb, q0, q1, q2, q3, q4⟩ := HL.out.cells hlt
      have tc : decide (i < k) = true := by simp [hlt]
      have i1 : (i : Int) < (k : Int) := by omega
      have HLT := hid hlt
      have KX := hid (fun W => rbRight_any (bs i) W)
      clear hlt
      by_cases ht : badAt bs i = true
      · have HR : Hid (RES = (bs i).right) := by unfold Hid; rw [← HRES.out, firstOf_some HLT.out ht hi.out.2]
        have hx : (bs i).right ≠ 0 := by simpa [badAt] using ht
        clear ht
        generalize (bs i).right = r at *
        have ra : ((r) == (0)) = false := by rw [beq_eq_false_iff_ne]; exact hx
        have rb : ((r) = (0)) = False := eq_false (by exact hx)
        have rc : ((r) != (0)) = true := by rw [bne_iff_ne]; exact hx
        clear hx
        go_wp2_with (first | (go_at_call 27; refine (Ret.later (KX.out _)).mono ?_; rintro x _ ⟨rfl, e, rfl⟩))
        go_ret
        exact Ret.mk (by rw [HR.out]; rfl) (HE.out.trans e.h)
      · have HN : Hid (badAt bs i = false) := by unfold Hid; simpa using ht
        rw [bad_no HN.out] at KX
        clear ht
        go_wp2_with (first | (go_at_call 27; refine (Ret.later (KX.out _)).mono ?_; rintro x _ ⟨rfl, e, rfl⟩))
        go_roundw
        case rel => exact ⟨i + 1, by go_num, (show Hid _ from ⟨HLT.out, fun j hj => by
          by_cases hji : j = i
          · subst hji; exact HN.out
          · exact hi.out.2 j (by omega)⟩), e, rfl⟩
        case measure => have := HLT.out; simp [intOf]; omega
    · obtain rfl : i = k := by have := hi.out.1; omega
      have tc : decide (i < i) = false := by simp
      have HR1 : Hid (RES = if 16 < i then 4 else if bunRule1 bs i then 8 else if bunRule2 p bs i then 8 else if bunRule3 p bs i then 8 else if 4000 < (bunBytes p bs i).length then 4 else 0) := by unfold Hid; rw [← HRES.out, firstOf_none hi.out.2]
      have HB' : Hid (∀ j, j < i → (bs j).right = 0) := fun j hj => bad_no (hi.out.2 j hj)
      clear HRES hi hlt KP
      have K1 := hid (fun e => KC.out e 1)
      have K6 := hid (fun e => KC.out e 6)
      have K7 := hid (fun e => KC.out e 7)
      have K10 := hid (fun e => KC.out e 10)
      clear KC
      have HR0 : Hid (bunRule1 bs i = (decide (i = 0) || decide (cntB bs 1 i ≠ 1) || dupB bs i || decide (1 < cntB bs 6 i) || decide (1 < cntB bs 7 i) || decide (1 < cntB bs 10 i))) := rfl
      have HR00 : Hid (bunRule2 p bs i = (decide ((bs (i - 1)).ty ≠ 1) || (decide (p.t = 0) && decide (cntB bs 7 i = 0)))) := rfl
      generalize cntB bs 1 i = n1 at *
      generalize cntB bs 6 i = n6 at *
      generalize cntB bs 7 i = n7 at *
      generalize cntB bs 10 i = n10 at *
      by_cases h16 : 16 < i
      · have HR : Hid (RES = 4) := by unfold Hid; rw [HR1.out, if_pos h16]
        have xa : decide ((16 : Int) < (i : Int)) = true := decide_eq_true (by omega)
        have xb : ((16 : Int) < (i : Int)) = True := eq_true (by omega)
        have xc : decide (16 < i) = true := decide_eq_true h16
        clear h16
        go_wp2_with fail
        go_ret
        exact Ret.mk (by rw [HR.out]; rfl) (HE.out.trans e.h)
      · have HR2 : Hid (RES = if bunRule1 bs i then 8 else if bunRule2 p bs i then 8 else if bunRule3 p bs i then 8 else if 4000 < (bunBytes p bs i).length then 4 else 0) := by unfold Hid; rw [HR1.out, if_neg h16]
        have H16 := hid h16
        clear HR1
        have xa : decide ((16 : Int) < (i : Int)) = false := decide_eq_false (by omega)
        have xb : ((16 : Int) < (i : Int)) = False := eq_false (by omega)
        have xc : decide (16 < i) = false := decide_eq_false h16
        clear h16
        cases hR1 : bunRule1 bs i with
        | true =>
          have HR : Hid (RES = 8) := by unfold Hid; rw [HR2.out, hR1]; rfl
          clear HR2
          rw [HR0.out] at hR1
          by_cases z0 : i = 0
          · subst z0
            have za : ((0 : Int) == 0) = true := rfl
            clear hR1
            go_wp2_with (first | (go_at_call 28; first | ((with_reducible refine (Ret.later (K1.out _)).mono ?_); rintro x _ ⟨rfl, e, rfl⟩) | ((with_reducible refine (Ret.later (K6.out _)).mono ?_); rintro x _ ⟨rfl, e, rfl⟩) | ((with_reducible refine (Ret.later (K7.out _)).mono ?_); rintro x _ ⟨rfl, e, rfl⟩) | ((with_reducible refine (Ret.later (K10.out _)).mono ?_); rintro x _ ⟨rfl, e, rfl⟩)) | (go_at_call 29; refine (Ret.later (KT.out _)).mono ?_; rintro x _ ⟨rfl, e, rfl⟩))
            go_ret
            exact Ret.mk (by rw [HR.out]; rfl) (HE.out.trans e.h)
          have n0 : ((i : Int) == 0) = false := by rw [beq_eq_false_iff_ne]; omega
          have n0a : ((i : Int) = 0) = False := eq_false (by omega)
          have n0b : (i == 0) = false := by rw [beq_eq_false_iff_ne]; omega
          have n0c : (i = 0) = False := eq_false (by omega)
          by_cases z1 : n1 ≠ 1
          · clear hR1
            have c1a : (((n1 : Int)) == (1)) = false := by rw [beq_eq_false_iff_ne]; omega
            have c1b : (((n1 : Int)) = (1)) = False := eq_false (by omega)
            have c1c : (((n1 : Int)) != (1)) = true := by rw [bne_iff_ne]; omega
            have c1na : ((n1) == (1)) = false := by rw [beq_eq_false_iff_ne]; omega
            have c1nb : ((n1) = (1)) = False := eq_false (by omega)
            have c1nc : ((n1) != (1)) = true := by rw [bne_iff_ne]; omega
            go_wp2_with (first | (go_at_call 28; first | ((with_reducible refine (Ret.later (K1.out _)).mono ?_); rintro x _ ⟨rfl, e, rfl⟩) | ((with_reducible refine (Ret.later (K6.out _)).mono ?_); rintro x _ ⟨rfl, e, rfl⟩) | ((with_reducible refine (Ret.later (K7.out _)).mono ?_); rintro x _ ⟨rfl, e, rfl⟩) | ((with_reducible refine (Ret.later (K10.out _)).mono ?_); rintro x _ ⟨rfl, e, rfl⟩)) | (go_at_call 29; refine (Ret.later (KT.out _)).mono ?_; rintro x _ ⟨rfl, e, rfl⟩))
            go_ret
            exact Ret.mk (by rw [HR.out]; rfl) (HE.out.trans e.h)
          obtain rfl : n1 = 1 := by omega
          cases zt : dupB bs i with
          | true =>
            rw [zt] at KT
            clear hR1
            go_wp2_with (first | (go_at_call 28; first | ((with_reducible refine (Ret.later (K1.out _)).mono ?_); rintro x _ ⟨rfl, e, rfl⟩) | ((with_reducible refine (Ret.later (K6.out _)).mono ?_); rintro x _ ⟨rfl, e, rfl⟩) | ((with_reducible refine (Ret.later (K7.out _)).mono ?_); rintro x _ ⟨rfl, e, rfl⟩) | ((with_reducible refine (Ret.later (K10.out _)).mono ?_); rintro x _ ⟨rfl, e, rfl⟩)) | (go_at_call 29; refine (Ret.later (KT.out _)).mono ?_; rintro x _ ⟨rfl, e, rfl⟩))
            go_ret
            exact Ret.mk (by rw [HR.out]; rfl) (HE.out.trans e.h)
          | false =>
          rw [zt] at KT
          by_cases z6 : 1 < n6
          · clear hR1
            have c6a : decide ((1 : Int) < (n6 : Int)) = true := decide_eq_true (by omega)
            have c6b : ((1 : Int) < (n6 : Int)) = True := eq_true (by omega)
            have c6na : decide (1 < n6) = true := decide_eq_true (by omega)
            have c6nb : (1 < n6) = True := eq_true (by omega)
            go_wp2_with (first | (go_at_call 28; first | ((with_reducible refine (Ret.later (K1.out _)).mono ?_); rintro x _ ⟨rfl, e, rfl⟩) | ((with_reducible refine (Ret.later (K6.out _)).mono ?_); rintro x _ ⟨rfl, e, rfl⟩) | ((with_reducible refine (Ret.later (K7.out _)).mono ?_); rintro x _ ⟨rfl, e, rfl⟩) | ((with_reducible refine (Ret.later (K10.out _)).mono ?_); rintro x _ ⟨rfl, e, rfl⟩)) | (go_at_call 29; refine (Ret.later (KT.out _)).mono ?_; rintro x _ ⟨rfl, e, rfl⟩))
            go_ret
            exact Ret.mk (by rw [HR.out]; rfl) (HE.out.trans e.h)
          have c6a : decide ((1 : Int) < (n6 : Int)) = false := decide_eq_false (by omega)
          have c6b : ((1 : Int) < (n6 : Int)) = False := eq_false (by omega)
          have c6na : decide (1 < n6) = false := decide_eq_false (by omega)
          have c6nb : (1 < n6) = False := eq_false (by omega)
          by_cases z7 : 1 < n7
          · clear hR1
            have c7a : decide ((1 : Int) < (n7 : Int)) = true := decide_eq_true (by omega)
            have c7b : ((1 : Int) < (n7 : Int)) = True := eq_true (by omega)
            have c7na : decide (1 < n7) = true := decide_eq_true (by omega)
            have c7nb : (1 < n7) = True := eq_true (by omega)
            go_wp2_with (first | (go_at_call 28; first | ((with_reducible refine (Ret.later (K1.out _)).mono ?_); rintro x _ ⟨rfl, e, rfl⟩) | ((with_reducible refine (Ret.later (K6.out _)).mono ?_); rintro x _ ⟨rfl, e, rfl⟩) | ((with_reducible refine (Ret.later (K7.out _)).mono ?_); rintro x _ ⟨rfl, e, rfl⟩) | ((with_reducible refine (Ret.later (K10.out _)).mono ?_); rintro x _ ⟨rfl, e, rfl⟩)) | (go_at_call 29; refine (Ret.later (KT.out _)).mono ?_; rintro x _ ⟨rfl, e, rfl⟩))
            go_ret
            exact Ret.mk (by rw [HR.out]; rfl) (HE.out.trans e.h)
          have c7a : decide ((1 : Int) < (n7 : Int)) = false := decide_eq_false (by omega)
          have c7b : ((1 : Int) < (n7 : Int)) = False := eq_false (by omega)
          have c7na : decide (1 < n7) = false := decide_eq_false (by omega)
          have c7nb : (1 < n7) = False := eq_false (by omega)
          have z10 : 1 < n10 := by simpa [n0c, zt, z1, z6, z7] using hR1
          have c10a : decide ((1 : Int) < (n10 : Int)) = true := decide_eq_true (by omega)
          have c10b : ((1 : Int) < (n10 : Int)) = True := eq_true (by omega)
          have c10na : decide (1 < n10) = true := decide_eq_true (by omega)
          have c10nb : (1 < n10) = True := eq_true (by omega)
          clear hR1
          go_wp2_with (first | (go_at_call 28; first | ((with_reducible refine (Ret.later (K1.out _)).mono ?_); rintro x _ ⟨rfl, e, rfl⟩) | ((with_reducible refine (Ret.later (K6.out _)).mono ?_); rintro x _ ⟨rfl, e, rfl⟩) | ((with_reducible refine (Ret.later (K7.out _)).mono ?_); rintro x _ ⟨rfl, e, rfl⟩) | ((with_reducible refine (Ret.later (K10.out _)).mono ?_); rintro x _ ⟨rfl, e, rfl⟩)) | (go_at_call 29; refine (Ret.later (KT.out _)).mono ?_; rintro x _ ⟨rfl, e, rfl⟩))
          go_ret
          exact Ret.mk (by rw [HR.out]; rfl) (HE.out.trans e.h)
        | false =>
          have HR3 : Hid (RES = if bunRule2 p bs i then 8 else if bunRule3 p bs i then 8 else if 4000 < (bunBytes p bs i).length then 4 else 0) := by unfold Hid; rw [HR2.out, hR1]; rfl
          clear HR2
          rw [HR0.out] at hR1
          simp only [Bool.or_eq_false_iff, decide_eq_false_iff_not] at hR1
          obtain ⟨⟨⟨⟨⟨z0, z1⟩, zt⟩, z6⟩, z7⟩, z10⟩ := hR1
          have H16' := H16.out
          have n0 : ((i : Int) == 0) = false := by rw [beq_eq_false_iff_ne]; omega
          have n0a : ((i : Int) = 0) = False := eq_false (by omega)
          have n0b : (i == 0) = false := by rw [beq_eq_false_iff_ne]; omega
          have n0c : (i = 0) = False := eq_false (by omega)
          rw [zt] at KT
          obtain rfl : n1 = 1 := by omega
          have c6a : decide ((1 : Int) < (n6 : Int)) = false := decide_eq_false (by omega)
          have c6b : ((1 : Int) < (n6 : Int)) = False := eq_false (by omega)
          have c6na : decide (1 < n6) = false := decide_eq_false (by omega)
          have c6nb : (1 < n6) = False := eq_false (by omega)
          have c7a : decide ((1 : Int) < (n7 : Int)) = false := decide_eq_false (by omega)
          have c7b : ((1 : Int) < (n7 : Int)) = False := eq_false (by omega)
          have c7na : decide (1 < n7) = false := decide_eq_false (by omega)
          have c7nb : (1 < n7) = False := eq_false (by omega)
          have c10a : decide ((1 : Int) < (n10 : Int)) = false := decide_eq_false (by omega)
          have c10b : ((1 : Int) < (n10 : Int)) = False := eq_false (by omega)
          have c10na : decide (1 < n10) = false := decide_eq_false (by omega)
          have c10nb : (1 < n10) = False := eq_false (by omega)
          have i2 := hid ((show (1 : Int) ≤ (i : Int) by omega))
          have i3 := hid (show (i : Int) ≤ 16 by omega)
          have HI0 : Hid (i ≠ 0) := hid z0
          clear z0 z1 zt z6 z7 z10 H16'
          go_upto_region 15 with (first | (go_at_call 28; first | ((with_reducible refine (Ret.later (K1.out _)).mono ?_); rintro x _ ⟨rfl, e, rfl⟩) | ((with_reducible refine (Ret.later (K6.out _)).mono ?_); rintro x _ ⟨rfl, e, rfl⟩) | ((with_reducible refine (Ret.later (K7.out _)).mono ?_); rintro x _ ⟨rfl, e, rfl⟩) | ((with_reducible refine (Ret.later (K10.out _)).mono ?_); rintro x _ ⟨rfl, e, rfl⟩)) | (go_at_call 29; refine (Ret.later (KT.out _)).mono ?_; rintro x _ ⟨rfl, e, rfl⟩))
          clear n0 n0a n0b n0c c6a c6b c6na c6nb c10a c10b c10na c10nb c7a c7b c7na c7nb tc xa xb xc
          obtain ⟨m, rfl⟩ : ∃ m : Nat, i = m + 1 := ⟨i - 1, by have := HI0.out; omega⟩
          clear HI0
          obtain ⟨b, o, rfl, hb, q0, q1, q2, q3, q4⟩ := HL.out.cells (Nat.lt_succ_self m)
          have m0 : (0 : Int) ≤ (m : Int) := by omega
          have m1 : (m : Int) ≤ 15 := by have := i3.out; omega
          clear i2 i3
          go_upto_region 16 with fail
          generalize hU : World.alloc e.x _ = U
          have HX : Hid (Blk U e.x.heap.size 31 (BV.c (bs m))) := hid (by rw [← hU]; exact Blk.new _ _ _)
          have HM : Hid (Ext V U) := hid (by rw [← hU]; exact e.h.alloc _)
          clear hU q0 q1 q2 q3 q4 hb m0 m1 i0 k1 K1 K6 K10 KT
          have L7 : Hid (∀ e : Later U, Calls Tryz.prog 28 #[.slice (some ⟨b, o, none⟩) (m + 1) c, .int .i64 7] e.x (Ret (.int .i64 (n7 : Int)) e.x)) := fun e => K7.out ⟨e.x, HM.out.trans e.h⟩
          clear K7
          have x0 : ∀ e : Later U, e.x.cell? ⟨w.heap.size, 0, none⟩ = some (.int .u64 (p.fl : Int)) := fun e => b0 ⟨e.x, HM.out.trans e.h⟩
          have x5 : ∀ e : Later U, e.x.cell? ⟨w.heap.size, 14, none⟩ = some (.int .u64 (p.t : Int)) := fun e => b5 ⟨e.x, HM.out.trans e.h⟩
          have x17 : ∀ e : Later U, e.x.cell? ⟨w.heap.size, 17, none⟩ = some (.int .u64 (p.o : Int)) := fun e => b17 ⟨e.x, HM.out.trans e.h⟩
          have x18 : ∀ e : Later U, e.x.cell? ⟨w.heap.size, 18, none⟩ = some (.int .u64 (p.n : Int)) := fun e => b18 ⟨e.x, HM.out.trans e.h⟩
          have x19 : ∀ e : Later U, e.x.cell? ⟨w.heap.size, 19, none⟩ = some (.slice (some ⟨b, o, none⟩) (m + 1) c) := fun e => b19 ⟨e.x, HM.out.trans e.h⟩
          have HB1 := hid (HB0.out.ext HM.out)
          have KB : Hid (∀ e : Later U, Calls Tryz.prog 31 #[bunV p (some ⟨b, o, none⟩) (m + 1) c] e.x (Ret (str (bunBytes p bs (m + 1))) e.x)) := fun e => r13Bytes_any p bs (m + 1) c (some ⟨b, o, none⟩) (by have := H16.out; omega) HP.out HB'.out e.x (HL.out.ext (HM.out.trans e.h))
          clear b0 b5 b17 b18 b19 HPR HB0 HP HF H16 HR0 HK
          have HE1 := hid (HE.out.trans HM.out)
          have HR2' : Hid (bunRule2 p bs (m + 1) = (decide ((bs m).ty ≠ 1) || (decide (p.t = 0) && decide (n7 = 0)))) := HR00.out
          have HR3' : Hid (bunRule3 p bs (m + 1) = (has p.fl 1 && decide (p.n < p.o + (bs m).data.length))) := rfl
          clear HR00 HE
          have ld : ((bs m).data.length : Int) ≤ 100000 := by have := HD.out m (by omega); omega
          have po2 : (p.o : Int) ≤ 1099511627776 := by omega
          clear HD HB' po pn fl2 HL
          generalize bunRule2 p bs (m + 1) = R2 at *
          generalize bunRule3 p bs (m + 1) = R3 at *
          generalize bunBytes p bs (m + 1) = BB at *
          have y0 : ∀ e : Later U, e.x.cell? ⟨e.x.heap.size, 0, none⟩ = e.x.cell? ⟨e.x.heap.size, 0, none⟩ := fun _ => rfl
          clear y0
          generalize hpay : e.x.heap.size = pay at *
          clear hpay
          have z0 : ∀ e : Later U, e.x.cell? ⟨pay, 0, none⟩ = some (.int .i64 (bs m).ty) := HX.out.cellL 0 rfl
          have z4 : ∀ e : Later U, e.x.cell? ⟨pay, 4, none⟩ = some (str (bs m).data) := HX.out.cellL 4 rfl
          clear HX HM
          generalize (bs m).ty = ty at *
          generalize (bs m).data = dat at *
          generalize p.o = po at *
          generalize p.n = pn at *
          generalize p.t = pt at *
          clear e
          obtain ⟨e, he⟩ := Later.self U
          rw [he]
          clear he
          by_cases zt : ty = 1
          · have HT1 := hid zt
            have ta : ((ty) == (1)) = true := by rw [beq_iff_eq]; exact zt
            have tb : ((ty) = (1)) = True := eq_true (by exact zt)
            have tc : ((ty) != (1)) = false := by rw [bne_eq_false_iff_eq]; exact zt
            clear zt
            by_cases zp : pt = 0
            · have HP0 := hid zp
              have ua : (((pt : Int)) == (0)) = true := by rw [beq_iff_eq]; omega
              have ub : (((pt : Int)) = (0)) = True := eq_true (by omega)
              have uc : (((pt : Int)) != (0)) = false := by rw [bne_eq_false_iff_eq]; omega
              have una : ((pt) == (0)) = true := by rw [beq_iff_eq]; omega
              have unb : ((pt) = (0)) = True := eq_true (by omega)
              have unc : ((pt) != (0)) = false := by rw [bne_eq_false_iff_eq]; omega
              clear zp
              by_cases z7 : n7 = 0
              · have HR : Hid (RES = 8) := by unfold Hid; rw [HR3.out, HR2'.out]; simp [HT1.out, HP0.out, z7]
                have sa : (((n7 : Int)) == (0)) = true := by rw [beq_iff_eq]; omega
                have sb : (((n7 : Int)) = (0)) = True := eq_true (by omega)
                have sc : (((n7 : Int)) != (0)) = false := by rw [bne_eq_false_iff_eq]; omega
                have sna : ((n7) == (0)) = true := by rw [beq_iff_eq]; omega
                have snb : ((n7) = (0)) = True := eq_true (by omega)
                have snc : ((n7) != (0)) = false := by rw [bne_eq_false_iff_eq]; omega
                clear z7
                go_wp2_with (first | (go_at_call 28; refine (Ret.later (L7.out _)).mono ?_; rintro x _ ⟨rfl, e, rfl⟩) | (go_at_call 30; refine (Ret.later (KH.out _)).mono ?_; rintro x _ ⟨rfl, e, rfl⟩))
                go_ret
                exact Ret.mk (by rw [HR.out]; rfl) (HE1.out.trans e.h)
              · have HF2 : Hid (R2 = false) := by unfold Hid; rw [HR2'.out]; simp [HT1.out, z7]
                have sa : (((n7 : Int)) == (0)) = false := by rw [beq_eq_false_iff_ne]; omega
                have sb : (((n7 : Int)) = (0)) = False := eq_false (by omega)
                have sc : (((n7 : Int)) != (0)) = true := by rw [bne_iff_ne]; omega
                have sna : ((n7) == (0)) = false := by rw [beq_eq_false_iff_ne]; omega
                have snb : ((n7) = (0)) = False := eq_false (by omega)
                have snc : ((n7) != (0)) = true := by rw [bne_iff_ne]; omega
                clear z7
                go_upto_region 18 with (first | (go_at_call 28; refine (Ret.later (L7.out _)).mono ?_; rintro x _ ⟨rfl, e, rfl⟩) | (go_at_call 30; refine (Ret.later (KH.out _)).mono ?_; rintro x _ ⟨rfl, e, rfl⟩))
                clear sa sb sc sna snb snc ta tb tc ua ub uc una unb unc
                have HR4 : Hid (RES = if R3 = true then 8 else if 4000 < BB.length then 4 else 0) := by unfold Hid; rw [HR3.out, HF2.out]; rfl
                cases hh : has p.fl 1 with
                | false =>
                  rw [hh] at KH
                  have HR5 : Hid (RES = if 4000 < BB.length then 4 else 0) := by unfold Hid; rw [HR4.out, HR3'.out, hh]; rfl
                  clear hh
                  go_upto_region 20 with (first | (go_at_call 28; refine (Ret.later (L7.out _)).mono ?_; rintro x _ ⟨rfl, e, rfl⟩) | (go_at_call 30; refine (Ret.later (KH.out _)).mono ?_; rintro x _ ⟨rfl, e, rfl⟩))
                  by_cases hl : 4000 < BB.length
                  · have HR : Hid (RES = 4) := by unfold Hid; rw [HR5.out, if_pos hl]
                    have la : decide ((4000 : Int) < (BB.length : Int)) = true := decide_eq_true (by omega)
                    have lb : ((4000 : Int) < (BB.length : Int)) = True := eq_true (by omega)
                    have lc : decide (4000 < BB.length) = true := decide_eq_true hl
                    clear hl
                    go_wp2_with (first | (refine wpList_row (by rfl) 29 _ rfl _ rfl (HB1.out.later _) Tryz.underlying29 rfl (by kernel_rfl) ?_) | (go_at_call 31; refine (Ret.later (KB.out _)).mono ?_; rintro x _ ⟨rfl, e, rfl⟩))
                    go_ret
                    exact Ret.mk (by rw [HR.out]; rfl) (HE1.out.trans e.h)
                  · have HR : Hid (RES = 0) := by unfold Hid; rw [HR5.out, if_neg hl]
                    have la : decide ((4000 : Int) < (BB.length : Int)) = false := decide_eq_false (by omega)
                    have lb : ((4000 : Int) < (BB.length : Int)) = False := eq_false (by omega)
                    have lc : decide (4000 < BB.length) = false := decide_eq_false hl
                    clear hl
                    go_wp2_with (first | (refine wpList_row (by rfl) 29 _ rfl _ rfl (HB1.out.later _) Tryz.underlying29 rfl (by kernel_rfl) ?_) | (go_at_call 31; refine (Ret.later (KB.out _)).mono ?_; rintro x _ ⟨rfl, e, rfl⟩))
                    go_ret
                    exact Ret.mk (by rw [HR.out]; rfl) (HE1.out.trans e.h)
                | true =>
                  rw [hh] at KH
                  by_cases hv : pn < po + dat.length
                  · have HR : Hid (RES = 8) := by unfold Hid; rw [HR4.out, HR3'.out, hh, decide_eq_true hv]; rfl
                    clear hh
                    have va : decide ((pn : Int) < (po : Int) + (dat.length : Int)) = true := decide_eq_true (by omega)
                    have vb : ((pn : Int) < (po : Int) + (dat.length : Int)) = True := eq_true (by omega)
                    have vc : decide (pn < po + dat.length) = true := decide_eq_true hv
                    clear hv
                    go_wp2_with (first | (go_at_call 28; refine (Ret.later (L7.out _)).mono ?_; rintro x _ ⟨rfl, e, rfl⟩) | (go_at_call 30; refine (Ret.later (KH.out _)).mono ?_; rintro x _ ⟨rfl, e, rfl⟩))
                    go_ret
                    exact Ret.mk (by rw [HR.out]; rfl) (HE1.out.trans e.h)
                  · have HR5 : Hid (RES = if 4000 < BB.length then 4 else 0) := by unfold Hid; rw [HR4.out, HR3'.out, hh, decide_eq_false hv]; rfl
                    clear hh
                    have va : decide ((pn : Int) < (po : Int) + (dat.length : Int)) = false := decide_eq_false (by omega)
                    have vb : ((pn : Int) < (po : Int) + (dat.length : Int)) = False := eq_false (by omega)
                    have vc : decide (pn < po + dat.length) = false := decide_eq_false hv
                    clear hv
                    go_upto_region 20 with (first | (go_at_call 28; refine (Ret.later (L7.out _)).mono ?_; rintro x _ ⟨rfl, e, rfl⟩) | (go_at_call 30; refine (Ret.later (KH.out _)).mono ?_; rintro x _ ⟨rfl, e, rfl⟩))
                    by_cases hl : 4000 < BB.length
                    · have HR : Hid (RES = 4) := by unfold Hid; rw [HR5.out, if_pos hl]
                      have la : decide ((4000 : Int) < (BB.length : Int)) = true := decide_eq_true (by omega)
                      have lb : ((4000 : Int) < (BB.length : Int)) = True := eq_true (by omega)
                      have lc : decide (4000 < BB.length) = true := decide_eq_true hl
                      clear hl
                      go_wp2_with (first | (refine wpList_row (by rfl) 29 _ rfl _ rfl (HB1.out.later _) Tryz.underlying29 rfl (by kernel_rfl) ?_) | (go_at_call 31; refine (Ret.later (KB.out _)).mono ?_; rintro x _ ⟨rfl, e, rfl⟩))
                      go_ret
                      exact Ret.mk (by rw [HR.out]; rfl) (HE1.out.trans e.h)
                    · have HR : Hid (RES = 0) := by unfold Hid; rw [HR5.out, if_neg hl]
                      have la : decide ((4000 : Int) < (BB.length : Int)) = false := decide_eq_false (by omega)
                      have lb : ((4000 : Int) < (BB.length : Int)) = False := eq_false (by omega)
                      have lc : decide (4000 < BB.length) = false := decide_eq_false hl
                      clear hl
                      go_wp2_with (first | (refine wpList_row (by rfl) 29 _ rfl _ rfl (HB1.out.later _) Tryz.underlying29 rfl (by kernel_rfl) ?_) | (go_at_call 31; refine (Ret.later (KB.out _)).mono ?_; rintro x _ ⟨rfl, e, rfl⟩))
                      go_ret
                      exact Ret.mk (by rw [HR.out]; rfl) (HE1.out.trans e.h)
            · have HF2 : Hid (R2 = false) := by unfold Hid; rw [HR2'.out]; simp [HT1.out, zp]
              have sa : (((pt : Int)) == (0)) = false := by rw [beq_eq_false_iff_ne]; omega
              have sb : (((pt : Int)) = (0)) = False := eq_false (by omega)
              have sc : (((pt : Int)) != (0)) = true := by rw [bne_iff_ne]; omega
              have sna : ((pt) == (0)) = false := by rw [beq_eq_false_iff_ne]; omega
              have snb : ((pt) = (0)) = False := eq_false (by omega)
              have snc : ((pt) != (0)) = true := by rw [bne_iff_ne]; omega
              clear zp
              go_upto_region 18 with (first | (go_at_call 28; refine (Ret.later (L7.out _)).mono ?_; rintro x _ ⟨rfl, e, rfl⟩) | (go_at_call 30; refine (Ret.later (KH.out _)).mono ?_; rintro x _ ⟨rfl, e, rfl⟩))
              clear sa sb sc sna snb snc ta tb tc
              have HR4 : Hid (RES = if R3 = true then 8 else if 4000 < BB.length then 4 else 0) := by unfold Hid; rw [HR3.out, HF2.out]; rfl
              cases hh : has p.fl 1 with
              | false =>
                rw [hh] at KH
                have HR5 : Hid (RES = if 4000 < BB.length then 4 else 0) := by unfold Hid; rw [HR4.out, HR3'.out, hh]; rfl
                clear hh
                go_upto_region 20 with (first | (go_at_call 28; refine (Ret.later (L7.out _)).mono ?_; rintro x _ ⟨rfl, e, rfl⟩) | (go_at_call 30; refine (Ret.later (KH.out _)).mono ?_; rintro x _ ⟨rfl, e, rfl⟩))
                by_cases hl : 4000 < BB.length
                · have HR : Hid (RES = 4) := by unfold Hid; rw [HR5.out, if_pos hl]
                  have la : decide ((4000 : Int) < (BB.length : Int)) = true := decide_eq_true (by omega)
                  have lb : ((4000 : Int) < (BB.length : Int)) = True := eq_true (by omega)
                  have lc : decide (4000 < BB.length) = true := decide_eq_true hl
                  clear hl
                  go_wp2_with (first | (refine wpList_row (by rfl) 29 _ rfl _ rfl (HB1.out.later _) Tryz.underlying29 rfl (by kernel_rfl) ?_) | (go_at_call 31; refine (Ret.later (KB.out _)).mono ?_; rintro x _ ⟨rfl, e, rfl⟩))
                  go_ret
                  exact Ret.mk (by rw [HR.out]; rfl) (HE1.out.trans e.h)
                · have HR : Hid (RES = 0) := by unfold Hid; rw [HR5.out, if_neg hl]
                  have la : decide ((4000 : Int) < (BB.length : Int)) = false := decide_eq_false (by omega)
                  have lb : ((4000 : Int) < (BB.length : Int)) = False := eq_false (by omega)
                  have lc : decide (4000 < BB.length) = false := decide_eq_false hl
                  clear hl
                  go_wp2_with (first | (refine wpList_row (by rfl) 29 _ rfl _ rfl (HB1.out.later _) Tryz.underlying29 rfl (by kernel_rfl) ?_) | (go_at_call 31; refine (Ret.later (KB.out _)).mono ?_; rintro x _ ⟨rfl, e, rfl⟩))
                  go_ret
                  exact Ret.mk (by rw [HR.out]; rfl) (HE1.out.trans e.h)
              | true =>
                rw [hh] at KH
                by_cases hv : pn < po + dat.length
                · have HR : Hid (RES = 8) := by unfold Hid; rw [HR4.out, HR3'.out, hh, decide_eq_true hv]; rfl
                  clear hh
                  have va : decide ((pn : Int) < (po : Int) + (dat.length : Int)) = true := decide_eq_true (by omega)
                  have vb : ((pn : Int) < (po : Int) + (dat.length : Int)) = True := eq_true (by omega)
                  have vc : decide (pn < po + dat.length) = true := decide_eq_true hv
                  clear hv
                  go_wp2_with (first | (go_at_call 28; refine (Ret.later (L7.out _)).mono ?_; rintro x _ ⟨rfl, e, rfl⟩) | (go_at_call 30; refine (Ret.later (KH.out _)).mono ?_; rintro x _ ⟨rfl, e, rfl⟩))
                  go_ret
                  exact Ret.mk (by rw [HR.out]; rfl) (HE1.out.trans e.h)
                · have HR5 : Hid (RES = if 4000 < BB.length then 4 else 0) := by unfold Hid; rw [HR4.out, HR3'.out, hh, decide_eq_false hv]; rfl
                  clear hh
                  have va : decide ((pn : Int) < (po : Int) + (dat.length : Int)) = false := decide_eq_false (by omega)
                  have vb : ((pn : Int) < (po : Int) + (dat.length : Int)) = False := eq_false (by omega)
                  have vc : decide (pn < po + dat.length) = false := decide_eq_false hv
                  clear hv
                  go_upto_region 20 with (first | (go_at_call 28; refine (Ret.later (L7.out _)).mono ?_; rintro x _ ⟨rfl, e, rfl⟩) | (go_at_call 30; refine (Ret.later (KH.out _)).mono ?_; rintro x _ ⟨rfl, e, rfl⟩))
                  by_cases hl : 4000 < BB.length
                  · have HR : Hid (RES = 4) := by unfold Hid; rw [HR5.out, if_pos hl]
                    have la : decide ((4000 : Int) < (BB.length : Int)) = true := decide_eq_true (by omega)
                    have lb : ((4000 : Int) < (BB.length : Int)) = True := eq_true (by omega)
                    have lc : decide (4000 < BB.length) = true := decide_eq_true hl
                    clear hl
                    go_wp2_with (first | (refine wpList_row (by rfl) 29 _ rfl _ rfl (HB1.out.later _) Tryz.underlying29 rfl (by kernel_rfl) ?_) | (go_at_call 31; refine (Ret.later (KB.out _)).mono ?_; rintro x _ ⟨rfl, e, rfl⟩))
                    go_ret
                    exact Ret.mk (by rw [HR.out]; rfl) (HE1.out.trans e.h)
                  · have HR : Hid (RES = 0) := by unfold Hid; rw [HR5.out, if_neg hl]
                    have la : decide ((4000 : Int) < (BB.length : Int)) = false := decide_eq_false (by omega)
                    have lb : ((4000 : Int) < (BB.length : Int)) = False := eq_false (by omega)
                    have lc : decide (4000 < BB.length) = false := decide_eq_false hl
                    clear hl
                    go_wp2_with (first | (refine wpList_row (by rfl) 29 _ rfl _ rfl (HB1.out.later _) Tryz.underlying29 rfl (by kernel_rfl) ?_) | (go_at_call 31; refine (Ret.later (KB.out _)).mono ?_; rintro x _ ⟨rfl, e, rfl⟩))
                    go_ret
                    exact Ret.mk (by rw [HR.out]; rfl) (HE1.out.trans e.h)
          · have HR : Hid (RES = 8) := by unfold Hid; rw [HR3.out, HR2'.out]; simp [zt]
            have sa : ((ty) == (1)) = false := by rw [beq_eq_false_iff_ne]; exact zt
            have sb : ((ty) = (1)) = False := eq_false (by exact zt)
            have sc : ((ty) != (1)) = true := by rw [bne_iff_ne]; exact zt
            clear zt
            go_wp2_with (first | (go_at_call 28; refine (Ret.later (L7.out _)).mono ?_; rintro x _ ⟨rfl, e, rfl⟩) | (go_at_call 30; refine (Ret.later (KH.out _)).mono ?_; rintro x _ ⟨rfl, e, rfl⟩))
            go_ret
            exact Ret.mk (by rw [HR.out]; rfl) (HE1.out.trans e.h)
theorem r13Right_any (p : PV) (bs : Nat → BV) (k c : Nat) (A : Option Addr) (hf : p.fl < 18446744073709551616) (hk : k < 4611686018427387904) (hd : ∀ i, i < k → (bs i).data.length ≤ 100000) (w : World) (h : BsL w A k bs) : Calls Tryz.prog 14 #[bunV p A k c] w (Ret (.int .i64 (bunRight p bs k)) w) := by
  unfold bunRight
  by_cases hb : p.right = 0
  · rw [if_neg (by simpa using hb)]; exact r13Right_ok p bs k c A hf hk hb hd w h
  · rw [if_pos hb]; exact r13Right_p p bs k c A hf hk hb w h
end Go.Proofs.YtkeabdfgacicaaaGreat


namespace Go.Proofs.YtkeabdfgacicaaaGreat
open Go.RowKit
set_option linter.unusedVariables false
set_option linter.unusedSimpArgs false

theorem infoBlock : (Tryz.prog.info? 31).map (fun i => (i.zero, i.size, i.bytes)) = some (some (.agg #[.int .i64 0, .int .i64 0, .int .u64 0, .int .i64 0, .string ⟨#[]⟩]), 5, 48) := by kernel_rfl
/-- The row's cells: the first i blocks'. -/
def flatB (bs : Nat → BV) : Nat → List Value
  | 0 => []
  | i + 1 => flatB bs i ++ [.int .i64 (bs i).ty, .int .i64 (bs i).num, .int .u64 ((bs i).fl : Int), .int .i64 (bs i).crc, str (bs i).data]
theorem flatB_length (bs : Nat → BV) (i : Nat) : (flatB bs i).length = i * 5 := by
  induction i with
  | zero => rfl
  | succ i ih => rw [flatB, List.length_append, ih]; simp; omega
theorem flatB_congr {bs bs' : Nat → BV} {i : Nat} (h : ∀ j, j < i → bs j = bs' j) : flatB bs i = flatB bs' i := by
  induction i with
  | zero => rfl
  | succ i ih => rw [flatB, flatB, ih (fun j hj => h j (by omega)), h i (by omega)]
theorem flatB_get (bs : Nat → BV) (i : Nat) : ∀ j, j < i → (flatB bs i)[j * 5]? = some (.int .i64 (bs j).ty) ∧ (flatB bs i)[j * 5 + 1]? = some (.int .i64 (bs j).num) ∧ (flatB bs i)[j * 5 + 2]? = some (.int .u64 ((bs j).fl : Int)) ∧
    (flatB bs i)[j * 5 + 3]? = some (.int .i64 (bs j).crc) ∧ (flatB bs i)[j * 5 + 4]? = some (str (bs j).data) := by
  induction i with
  | zero => intro j hj; omega
  | succ i ih =>
    intro j hj
    have hl := flatB_length bs i
    rw [flatB]
    by_cases e : j = i
    · subst e
      refine ⟨?_, ?_, ?_, ?_, ?_⟩ <;> (rw [List.getElem?_append_right (by omega), hl]; simp)
    · have := ih j (by omega)
      refine ⟨?_, ?_, ?_, ?_, ?_⟩ <;> rw [List.getElem?_append_left (by omega)]
      · exact this.1
      · exact this.2.1
      · exact this.2.2.1
      · exact this.2.2.2.1
      · exact this.2.2.2.2
theorem flatB_idx (bs : Nat → BV) (k : Nat) {j : Nat} {u : Value} (h : (flatB bs k)[j]? = some u) : ∃ i r, i < k ∧ r < 5 ∧ j = i * 5 + r := by
  have := (List.getElem?_eq_some_iff.1 h).1
  rw [flatB_length] at this
  exact ⟨j / 5, j % 5, by omega, by omega, by omega⟩
theorem flatB_news {W : World} {b o : Nat} {bs : Nat → BV} {k : Nat} (h : ∀ i, i < k → BAt W b (o + i * 5) (bs i)) : ∀ j u, (flatB bs k)[j]? = some u → W.cell? ((⟨b, o, none⟩ : Addr).add j) = some u := by
  intro j u hj
  obtain ⟨i, r, hi, hr, rfl⟩ := flatB_idx bs k hj
  obtain ⟨g0, g1, g2, g3, g4⟩ := flatB_get bs k i hi
  obtain ⟨a0, a1, a2, a3, a4⟩ := h i hi
  rw [addr_add, ← Nat.add_assoc]
  have h5 : r = 0 ∨ r = 1 ∨ r = 2 ∨ r = 3 ∨ r = 4 := by omega
  rcases h5 with rfl | rfl | rfl | rfl | rfl
  · rw [← hj, Nat.add_zero, Nat.add_zero, g0]; exact a0
  · rw [← hj, g1]; exact a1
  · rw [← hj, g2]; exact a2
  · rw [← hj, g3]; exact a3
  · rw [← hj, g4]; exact a4
theorem flatB_one (bs : Nat → BV) (k : Nat) : ∀ u ∈ flatB bs k, u.oneCell' = true := by
  intro u hu
  obtain ⟨j, hj⟩ := List.getElem?_of_mem hu
  obtain ⟨i, r, hi, hr, rfl⟩ := flatB_idx bs k hj
  obtain ⟨g0, g1, g2, g3, g4⟩ := flatB_get bs k i hi
  have h5 : r = 0 ∨ r = 1 ∨ r = 2 ∨ r = 3 ∨ r = 4 := by omega
  rcases h5 with rfl | rfl | rfl | rfl | rfl
  · rw [Nat.add_zero, g0] at hj; cases hj; rfl
  · rw [g1] at hj; cases hj; rfl
  · rw [g2] at hj; cases hj; rfl
  · rw [g3] at hj; cases hj; rfl
  · rw [g4] at hj; cases hj; rfl
/-- One block's cells, just made. -/
theorem newsB (W : World) (b : BV) : ∀ j u, [Value.int .i64 b.ty, .int .i64 b.num, .int .u64 (b.fl : Int), .int .i64 b.crc, str b.data][j]? = some u →
    (W.alloc (.cells (BV.c b) 31)).cell? ((⟨W.heap.size, 0, none⟩ : Addr).add j) = some u := by
  intro j u hj
  rw [addr_add, Nat.zero_add]
  rw [(Blk.new W 31 (BV.c b)).cell j]
  simpa using hj
theorem oneB (b : BV) : ∀ u ∈ [Value.int .i64 b.ty, .int .i64 b.num, .int .u64 (b.fl : Int), .int .i64 b.crc, str b.data], u.oneCell' = true := by
  intro u hu
  simp at hu
  rcases hu with rfl | rfl | rfl | rfl | rfl <;> rfl
/-- A row of one's own lies in memory as a bundle's blocks do. -/
theorem own_BsL {W : World} {base k c : Nat} {A : Option Addr} {bs : Nat → BV} (h : W.ownsRow base 31 5 (.slice A k c) k (flatB bs k)) : BsL W A k bs := by
  intro h0
  obtain ⟨k', rfl⟩ : ∃ k', k = k' + 1 := ⟨k - 1, by omega⟩
  obtain ⟨g, c', hv, hb, hlt⟩ := own_form h
  simp only [Value.slice.injEq] at hv
  obtain ⟨rfl, _, rfl⟩ := hv
  refine ⟨g, 0, rfl, hlt, fun i hi => ?_⟩
  obtain ⟨g0, g1, g2, g3, g4⟩ := flatB_get bs (k' + 1) i hi
  refine ⟨?_, ?_, ?_, ?_, ?_⟩ <;> rw [Nat.zero_add]
  · exact own_cells h g0
  · exact own_cells h g1
  · exact own_cells h g2
  · exact own_cells h g3
  · exact own_cells h g4
/-- Which blocks an append turns: the row's own. -/
theorem own_turned {w2 w4 : World} {base n size : Nat} {e : TypeId} {v : Value} {xs : List Value} (h : w2.ownsRow base e size v n xs) {w : World} {S : List Nat} (hw : Mod S w w2) (hgr : w2.grownBy w4 v.ownBlock) (hb : w.heap.size ≤ base) : Mod S w w4 :=
  hw.grown hgr (fun k hk => .inr (Nat.le_trans hb (h.lt k hk).1))
theorem own_far {w2 w4 : World} {base n size : Nat} {e : TypeId} {v : Value} {xs : List Value} (h : w2.ownsRow base e size v n xs) (hgr : w2.grownBy w4 v.ownBlock) {b : Nat} {ty : TypeId} {cs : Array Value} (hB : Blk w2 b ty cs) (hbN : b < base) : Blk w4 b ty cs :=
  (hgr.block b hB.lt (fun e => by have := (h.lt b e.symm).1; omega)).trans hB
end Go.Proofs.YtkeabdfgacicaaaGreat


namespace Go.Proofs.YtkeabdfgacicaaaGreat
open Go.RowKit
set_option linter.unusedVariables false
set_option linter.unusedSimpArgs false

set_option maxHeartbeats 800000 in
theorem CloneB_any (bs : Nat → BV) (k : Nat) (hk : Hid (0 < k ∧ k ≤ 100000)) (A : Option Addr) (c : Nat) (w : World) (h : BsL w A k bs) :
    Calls Tryz.prog 22 #[.slice A k c] w (fun e w' => ∃ (g c' : Nat), e = .returned (.slice (some ⟨g, 0, none⟩) k c') ∧ Ext w w' ∧ w'.ownsRow w.heap.size 31 5 (.slice (some ⟨g, 0, none⟩) k c') k (flatB bs k)) := by
  have he := Lib.run_eql_slice_nil (P := Tryz.prog)
  obtain ⟨i0, hi, hz0, hz1, hz2⟩ := info_parts infoBlock
  obtain ⟨b, o, rfl, hb, hc⟩ := h hk.out.1
  have hl := World.ownsRow_lit (base := w.heap.size) (e := 31) (size := 5) w #[] 0 (Nat.le_refl _) (Nat.zero_le _) rfl
  have hnews : Hid (∀ j u, (flatB bs k)[j]? = some u → (w.alloc (.cells #[] 31)).cell? ((⟨b, o, none⟩ : Addr).add j) = some u) := flatB_news fun i hi => (hc i hi).mod (S := []) ((Mod.refl _ _).alloc _) hb (by simp)
  have hfl := hid (flatB_length bs k)
  have hfc := hid (flatB_one bs k)
  clear hc h
  go_enter Tryz.func22, Tryz.ntmps22
  go_wp2_with (at_builtin; refine wpList_append_own _ rfl _ _ 27 rfl w.heap.size 31 i0 _ 5 48 Tryz.underlying27 hi hz0 hz1 hz2 rfl (by decide) _ _ _ rfl hl ⟨b, o, none⟩ k c (flatB bs k) rfl hfl.out hnews.out hfc.out (by have := hk.out; unfold maxLen; omega) (by have := hk.out; omega) (by simp) ?_; intro v' w1 hown' hgrow hnil)
  have hg2 : (w.alloc (.cells #[] 31)).grownBy w1 (some w.heap.size) := hgrow
  have hm : Ext w w1 := ((Mod.refl [] w).alloc (.cells #[] 31)).grown hg2 (fun k hk => .inr (by cases hk; exact Nat.le_refl _))
  have hown2 : w1.ownsRow w.heap.size 31 5 v' k (flatB bs k) := by simpa using hown'
  obtain ⟨m, rfl⟩ : ∃ m, k = m + 1 := ⟨k - 1, by have := hk.out.1; omega⟩
  obtain ⟨g, c', rfl, hg, hlt⟩ := own_form hown2
  go_wp2
  go_ret
  exact ⟨g, c', rfl, hm, hown2⟩
end Go.Proofs.YtkeabdfgacicaaaGreat


namespace Go.Proofs.YtkeabdfgacicaaaGreat
open Go.RowKit
set_option linter.unusedVariables false
set_option linter.unusedSimpArgs false

theorem run_copy_cells5 {P : Program} (w : World) (dT sT ty elem : TypeId) (b o dLen dCap : Nat) (a : Addr) (sLen sCap : Nat) (cs : List Value)
    (hu : P.underlying dT = some (.slice elem)) (hs : (P.info? elem).map (·.size) = some 5) (hn : cs.length = Nat.min sLen dLen * 5)
    (hsrc : ∀ j v, cs[j]? = some v → w.cell? (a.add j) = some v) (hc : ∀ j, j < cs.length → (w.cell? ⟨b, o + j, none⟩).isSome = true) (hf : ∀ j, j < cs.length → w.frozen? ⟨b, o + j, none⟩ = false) (h1 : ∀ v ∈ cs, v.oneCell' = true) :
    (Builtin.copy_ #[dT, sT] ty #[.slice (some ⟨b, o, none⟩) dLen dCap, .slice (some a) sLen sCap]).run P w = .ok (goInt (Nat.min sLen dLen)) (w.setCells b o cs) := by
  have hl := run_loadCells_list (P := P) w a cs hsrc
  have hst := run_storeCells_cells (P := P) b o cs 0 w (by simpa using hc) (by simpa using hf) h1
  cases hq : P.info? elem with
  | none => simp [hq] at hs
  | some i =>
    have hi : i.size = 5 := by simpa [hq] using hs
    simp [Builtin.copy_, run_underlying hu, Builtin.lenOf, Builtin.firstCells, sizeOf, typeInfo, hq, hi, ← hn, hl, hst]
set_option maxHeartbeats 4000000 in
set_option maxRecDepth 100000 in
theorem InsB_shift (g k c i vb : Nat) (cs vs : List Value) (w : World) (hi : i < k) (hk : k ≤ 100000) (hroom : k + 1 ≤ c) (hc63 : c ≤ 9223372036854775807) (hvb : vb ≠ g)
    (hcl : cs.length = k * 5) (hvl : vs.length = 5)
    (hcs : ∀ j v, cs[j]? = some v → w.cell? ⟨g, j, none⟩ = some v) (hsp : ∀ j, j < (k + 1) * 5 → (w.cell? ⟨g, j, none⟩).isSome = true) (hfz : ∀ j, j < (k + 1) * 5 → w.frozen? ⟨g, j, none⟩ = false)
    (hvs : ∀ j v, vs[j]? = some v → w.cell? ⟨vb, j, none⟩ = some v) (h1c : ∀ v ∈ cs, v.oneCell' = true) (h1v : ∀ v ∈ vs, v.oneCell' = true)
    (tA tB : TypeId) (kA kB : Nat) (hsa : w.shape? vb = some (tA, kA)) (hsb : w.shape? g = some (tB, kB)) (hkB : kB ≠ 0) (hfa : w.frozen? ⟨vb, 0, none⟩ = false) (hfe : w.frozen? ⟨vb, kA, none⟩ = false) :
    Calls Tryz.prog 21 #[.slice (some ⟨g, 0, none⟩) k c, .int .i64 i, .slice (some ⟨vb, 0, none⟩) 1 1] w fun e w' =>
      e = .returned (.slice (some ⟨g, 0, none⟩) (k + 1) c) ∧ w' = (w.drew.setCells g ((i + 1) * 5) (cs.drop (i * 5))).setCells g (i * 5) vs := by
  have hz2 : ¬ ((i : Int) = (k : Int)) := by omega
  have hz3 : ((i : Int) == (k : Int)) = false := by rw [beq_eq_false_iff_ne]; omega
  have hz4 : (i == k) = false := by rw [beq_eq_false_iff_ne]; omega
  have hr1 : decide ((c : Int) < (k : Int) + 1) = false := decide_eq_false (by omega)
  have hr2 : decide (c < k + 1) = false := decide_eq_false (by omega)
  have k0 : (0 : Int) ≤ (k : Int) := by omega
  have k1 : (k : Int) ≤ 100000 := by omega
  have i0 : (0 : Int) ≤ (i : Int) := by omega
  have i1 : (i : Int) < (k : Int) := by omega
  have hsz : (Tryz.prog.info? 31).map (·.size) = some 5 := by kernel_rfl
  have hov : ∀ lb cb, (callFunc 37 #[.slice (some ⟨vb, 0, none⟩) 1 1, .slice (some ⟨g, (i + 1) * 5, none⟩) lb cb]).run Tryz.prog w = .ok (.value (.bool false)) w := fun lb cb => by
    rw [run_callFunc_extern Tryz.func37 (by kernel_rfl) (by kernel_rfl) (by kernel_rfl) (e := Extern.SlicesOverlaps.overlaps #[27, 27] #[4]) (by kernel_rfl),
      Lib.run_overlaps_apart w 27 4 31 Tryz.underlying27 5 Tryz.sizeOf31 ⟨vb, 0, none⟩ ⟨g, (i + 1) * 5, none⟩ 1 1 lb cb hvb tA tB kA kB hsa hsb hkB hfa hfe]
    rfl
  have hdl : (cs.drop (i * 5)).length = (k - i) * 5 := by rw [List.length_drop, hcl]; omega
  have hcp1 : ∀ ty dc sc, (Builtin.copy_ #[27, 27] ty #[.slice (some ⟨g, (i + 1) * 5, none⟩) (k - i) dc, .slice (some ⟨g, i * 5, none⟩) (k + 1 - i) sc]).run Tryz.prog w.drew = .ok (goInt (Nat.min (k + 1 - i) (k - i))) (w.drew.setCells g ((i + 1) * 5) (cs.drop (i * 5))) := fun ty dc sc =>
    run_copy_cells5 w.drew _ _ ty 31 g ((i + 1) * 5) (k - i) dc ⟨g, i * 5, none⟩ (k + 1 - i) sc (cs.drop (i * 5)) Tryz.underlying27 hsz (by rw [hdl]; simp only [Nat.min_def]; split <;> omega)
      (fun j v hj => by rw [addr_add]; exact hcs (i * 5 + j) v (by rwa [List.getElem?_drop] at hj))
      (fun j hj => hsp _ (by omega)) (fun j hj => hfz _ (by omega)) (fun v hv => h1c v (List.mem_of_mem_drop hv))
  obtain ⟨W1, hW1⟩ : ∃ W1, W1 = w.drew.setCells g ((i + 1) * 5) (cs.drop (i * 5)) := ⟨_, rfl⟩
  have hsp1 : ∀ n, n < (k + 1) * 5 → (W1.cell? ⟨g, n, none⟩).isSome = true := fun n hn => by
    rw [hW1]
    exact isSome_setCells g (cs.drop (i * 5)) ((i + 1) * 5) w.drew (fun j hj => hsp _ (by omega)) _ (hsp n hn)
  have hcp2 : ∀ (W : World), (∀ x, W.cell? x = W1.cell? x) → (∀ x, W.frozen? x = W1.frozen? x) → ∀ ty dc, (Builtin.copy_ #[27, 27] ty #[.slice (some ⟨g, i * 5, none⟩) (k + 1 - i) dc, .slice (some ⟨vb, 0, none⟩) 1 1]).run Tryz.prog W = .ok (goInt (Nat.min 1 (k + 1 - i))) (W.setCells g (i * 5) vs) := fun W hWc hWf ty dc =>
    run_copy_cells5 W _ _ ty 31 g (i * 5) (k + 1 - i) dc ⟨vb, 0, none⟩ 1 1 vs Tryz.underlying27 hsz (by rw [hvl]; simp only [Nat.min_def]; split <;> omega)
      (fun j v hj => by
        rw [addr_add, Nat.zero_add, hWc, hW1, World.cell?_setCells_out g _ _ _ _ (fun h _ => absurd h hvb)]
        exact hvs j v hj)
      (fun j hj => by rw [hWc]; exact hsp1 _ (by omega)) (fun j hj => by rw [hWf, hW1, World.frozen?_setCells]; exact hfz _ (by omega)) h1v
  rw [← hW1] at hcp1
  clear hcs hsp hfz hvs h1c h1v hsp1 hsz hdl
  have mixed : Tryz.prog.follows Departure.mixedOrders = true := by kernel_rfl
  have hw1 : IntKind.i64.wrap ((i : Int) + 1) = (i : Int) + 1 := IntWalk.i64_in _ (by omega)
  have hb1 : (0 : Int) ≤ (i : Int) + 1 := by omega
  have htn : ((i : Int) + 1).toNat = i + 1 := by omega
  have hb2 : ¬ (c = i + 1) := by omega
  have hb3 : (i : Int) + 1 ≤ (k : Int) + 1 := by omega
  have hb4 : ¬ (c = i) := by omega
  have hb5 : (i : Int) ≤ (k : Int) + 1 := by omega
  go_enter Tryz.func21, Tryz.ntmps21
  go_upto_region 14 with fail
  go_wp2_with (simp only [hov])
  go_region_law_o (refine step_copy_runI rfl _ _ 27 27 rfl _ _ (by simp [Act.eval, Act.put]) (by simp [Act.eval, Act.put]) (hcp1 _ _ _) ?_)
  go_wp2_with (at_builtin; refine wpList_copy_runI _ rfl _ _ 27 27 rfl _ _ rfl rfl (hcp2 _ (fun _ => rfl) (fun _ => rfl) _ _) ?_)
  go_ret
  first | exact ⟨rfl, rfl⟩ | exact ⟨rfl, by rw [hW1]⟩
end Go.Proofs.YtkeabdfgacicaaaGreat


namespace Go.Proofs.YtkeabdfgacicaaaGreat
open Go.RowKit
set_option linter.unusedVariables false
set_option linter.unusedSimpArgs false

def zeroBV : Value := .agg #[.int .i64 0, .int .i64 0, .int .u64 0, .int .i64 0, .string ⟨#[]⟩]
theorem zeroCells_size (n : Nat) : (Builtin.zeroCells zeroBV.cells n).size = n * 5 := by
  simp [Builtin.zeroCells, Value.cells, zeroBV]
set_option maxHeartbeats 4000000 in
set_option maxRecDepth 100000 in
theorem InsB_grow (g k c i vb : Nat) (cs vs : List Value) (w : World) (hi : i < k) (hk : k ≤ 100000) (hnc : k ≤ c) (hroom : c < k + 1)
    (hcl : cs.length = k * 5) (hvl : vs.length = 5)
    (hcs : ∀ j v, cs[j]? = some v → w.cell? ⟨g, j, none⟩ = some v)
    (hvs : ∀ j v, vs[j]? = some v → w.cell? ⟨vb, j, none⟩ = some v) (h1c : ∀ v ∈ cs, v.oneCell' = true) (h1v : ∀ v ∈ vs, v.oneCell' = true) :
    Calls Tryz.prog 21 #[.slice (some ⟨g, 0, none⟩) k c, .int .i64 i, .slice (some ⟨vb, 0, none⟩) 1 1] w fun e w' =>
      e = .returned (.slice (some ⟨w.heap.size, 0, none⟩) (k + 1) (grownCap w (k + 1) c 31)) ∧
      w' = (((w.alloc (.cells ((cs.take (i * 5)).toArray ++ Builtin.zeroCells zeroBV.cells (k + 1 - i) ++ Builtin.zeroCells zeroBV.cells (grownCap w (k + 1) c 31 - (k + 1))) 31)).drew.setCells w.heap.size (i * 5) vs).drew).setCells w.heap.size ((i + 1) * 5) (cs.drop (i * 5)) := by
  obtain ⟨i0, hi0, hz0, hzs, hzb⟩ := info_parts infoBlock
  have hz2 : ¬ ((i : Int) = (k : Int)) := by omega
  have hz3 : ((i : Int) == (k : Int)) = false := by rw [beq_eq_false_iff_ne]; omega
  have hz4 : (i == k) = false := by rw [beq_eq_false_iff_ne]; omega
  have hr1 : decide ((c : Int) < (k : Int) + 1) = true := decide_eq_true (by omega)
  have hr2 : decide (c < k + 1) = true := decide_eq_true (by omega)
  have k0 : (0 : Int) ≤ (k : Int) := by omega
  have k1 : (k : Int) ≤ 100000 := by omega
  have ii0 : (0 : Int) ≤ (i : Int) := by omega
  have ii1 : (i : Int) < (k : Int) := by omega
  have hsz : (Tryz.prog.info? 31).map (·.size) = some 5 := by kernel_rfl
  have hbw : g < w.heap.size := block_lt_of_cell (hcs 0 _ (List.getElem?_eq_getElem (by omega)))
  have hvw : vb < w.heap.size := block_lt_of_cell (hvs 0 _ (List.getElem?_eq_getElem (by omega)))
  have hkk : (k : Int) + 1 - (i : Int) = ((k + 1 - i : Nat) : Int) := by omega
  have hik : i + (k + 1 - i) = k + 1 := by omega
  have hold : (Builtin.firstCells i0.size i (.slice (some ⟨g, 0, none⟩) i c)).run Tryz.prog w.drew = .ok (cs.take (i * 5)).toArray w.drew := by
    rw [hzs]
    exact run_firstCells_some w.drew 5 i ⟨g, 0, none⟩ i c (cs.take (i * 5)) (by rw [List.length_take]; omega) (fun j v hj => by
      rw [addr_add, Nat.zero_add]
      rw [List.getElem?_take] at hj
      split at hj
      · exact hcs j v hj
      · cases hj)
  have hrz : ∀ ty, (Builtin.append_ #[27, 3] ty #[.slice (some ⟨g, 0, none⟩) i c, .int .i64 ((k : Int) + 1 - (i : Int))]).run Tryz.prog w =
      .ok (.slice (some ⟨w.heap.size, 0, none⟩) (k + 1) (grownCap w (k + 1) c 31)) (w.drew.alloc (.cells ((cs.take (i * 5)).toArray ++ Builtin.zeroCells zeroBV.cells (k + 1 - i) ++ Builtin.zeroCells zeroBV.cells (grownCap w (k + 1) c 31 - (k + 1))) 31)) := fun ty => by
    have h := Lib.run_append_grow_zeros w 27 3 ty 31 i0 _ .i64 .i64 Tryz.underlying27 Tryz.underlying3 hi0 hz0 (some ⟨g, 0, none⟩) i c (cs.take (i * 5)) hold (k + 1 - i) (by omega) (by omega) (by omega) (by omega) (by rw [hzb]; omega) (by rw [hzb, hik]; exact growslice_fits hroom (by omega))
    rw [hik] at h
    rw [hkk]
    exact h
  obtain ⟨G, hG⟩ : ∃ G, G = grownCap w (k + 1) c 31 := ⟨_, rfl⟩
  obtain ⟨ROW, hROW⟩ : ∃ ROW : Array Value, ROW = (cs.take (i * 5)).toArray ++ Builtin.zeroCells zeroBV.cells (k + 1 - i) ++ Builtin.zeroCells zeroBV.cells (G - (k + 1)) := ⟨_, rfl⟩
  rw [← hG] at hrz ⊢
  rw [← hROW] at hrz ⊢
  have hRl : (k + 1) * 5 ≤ ROW.size := by
    rw [hROW, Array.size_append, Array.size_append, zeroCells_size, zeroCells_size, List.size_toArray, List.length_take]
    omega
  obtain ⟨W1, hW1⟩ : ∃ W1, W1 = w.drew.alloc (.cells ROW 31) := ⟨_, rfl⟩
  rw [← hW1] at hrz
  have hN : ∀ j, j < (k + 1) * 5 → (W1.cell? ⟨w.heap.size, j, none⟩).isSome = true := fun j hj => by
    rw [hW1, World.cell?_alloc_at (w := w.drew) ROW _ w.heap.size j rfl, Array.getElem?_eq_getElem (by omega)]; rfl
  have hNf : ∀ j, W1.frozen? ⟨w.heap.size, j, none⟩ = false := fun j => by rw [hW1]; exact World.frozen?_alloc_at (w := w.drew) ROW _ w.heap.size j rfl
  have hOb : ∀ j v, w.cell? ⟨g, j, none⟩ = some v → W1.cell? ⟨g, j, none⟩ = some v := fun j v h => by rw [hW1, World.cell?_alloc_past (w := w.drew) _ g j hbw]; exact h
  have hOv : ∀ j v, w.cell? ⟨vb, j, none⟩ = some v → W1.cell? ⟨vb, j, none⟩ = some v := fun j v h => by rw [hW1, World.cell?_alloc_past (w := w.drew) _ vb j hvw]; exact h
  have hcpA : ∀ (W : World), (∀ x, W.cell? x = W1.cell? x) → (∀ x, W.frozen? x = W1.frozen? x) → ∀ ty dc, (Builtin.copy_ #[27, 27] ty #[.slice (some ⟨w.heap.size, i * 5, none⟩) (k + 1 - i) dc, .slice (some ⟨vb, 0, none⟩) 1 1]).run Tryz.prog W = .ok (goInt (Nat.min 1 (k + 1 - i))) (W.setCells w.heap.size (i * 5) vs) := fun W hWc hWf ty dc =>
    run_copy_cells5 W _ _ ty 31 w.heap.size (i * 5) (k + 1 - i) dc ⟨vb, 0, none⟩ 1 1 vs Tryz.underlying27 hsz (by rw [hvl]; simp only [Nat.min_def]; split <;> omega)
      (fun j v hj => by rw [addr_add, Nat.zero_add, hWc]; exact hOv _ v (hvs j v hj))
      (fun j hj => by rw [hWc]; exact hN _ (by omega)) (fun j hj => by rw [hWf]; exact hNf _) h1v
  have hGn : k + 1 ≤ G := by rw [hG]; exact grownCap_ge w _ _ _
  have hG63 : G ≤ 9223372036854775807 := by
    have := grownCap_le_maxLen w (k + 1) c 31 (by unfold maxLen; omega)
    rw [← hG] at this
    unfold maxLen at this
    omega
  have hGi : ¬ (G = i) := by omega
  have hGim : ¬ (G = i + 1) := by omega
  have hci : ¬ (c = i) := by omega
  have hbN : g ≠ w.heap.size := by omega
  have hdl : (cs.drop (i * 5)).length = (k - i) * 5 := by rw [List.length_drop, hcl]; omega
  have hcpB : ∀ (W : World), (∀ x, W.cell? x = (W1.setCells w.heap.size (i * 5) vs).cell? x) → (∀ x, W.frozen? x = (W1.setCells w.heap.size (i * 5) vs).frozen? x) → ∀ ty dc sc, (Builtin.copy_ #[27, 27] ty #[.slice (some ⟨w.heap.size, (i + 1) * 5, none⟩) (k - i) dc, .slice (some ⟨g, i * 5, none⟩) (k - i) sc]).run Tryz.prog W = .ok (goInt (Nat.min (k - i) (k - i))) (W.setCells w.heap.size ((i + 1) * 5) (cs.drop (i * 5))) := fun W hWc hWf ty dc sc =>
    run_copy_cells5 W _ _ ty 31 w.heap.size ((i + 1) * 5) (k - i) dc ⟨g, i * 5, none⟩ (k - i) sc (cs.drop (i * 5)) Tryz.underlying27 hsz (by rw [hdl]; simp only [Nat.min_def]; split <;> omega)
      (fun j v hj => by
        rw [addr_add, hWc, World.cell?_setCells_out _ _ _ _ _ (fun h _ => absurd h hbN)]
        exact hOb _ v (hcs (i * 5 + j) v (by rwa [List.getElem?_drop] at hj)))
      (fun j hj => by rw [hWc]; exact isSome_setCells w.heap.size vs (i * 5) W1 (fun t ht => hN _ (by omega)) _ (hN _ (by omega)))
      (fun j hj => by rw [hWf, World.frozen?_setCells]; exact hNf _) (fun v hv => h1c v (List.mem_of_mem_drop hv))
  subst hW1
  have hE1 : ∀ x, ((w.alloc (.cells ROW 31)).drew).cell? x = (w.drew.alloc (.cells ROW 31)).cell? x := fun x => rfl
  have hE2 : ∀ x, ((w.alloc (.cells ROW 31)).drew).frozen? x = (w.drew.alloc (.cells ROW 31)).frozen? x := fun x => rfl
  have hF1 : ∀ x, (((w.alloc (.cells ROW 31)).drew.setCells w.heap.size (i * 5) vs).drew).cell? x = ((w.drew.alloc (.cells ROW 31)).setCells w.heap.size (i * 5) vs).cell? x := fun x => rfl
  have hF2 : ∀ x, (((w.alloc (.cells ROW 31)).drew.setCells w.heap.size (i * 5) vs).drew).frozen? x = ((w.drew.alloc (.cells ROW 31)).setCells w.heap.size (i * 5) vs).frozen? x := fun x => rfl
  have mixed : Tryz.prog.follows Departure.mixedOrders = true := by kernel_rfl
  have hw1 : IntKind.i64.wrap ((i : Int) + 1) = (i : Int) + 1 := IntWalk.i64_in _ (by omega)
  have hb1 : (0 : Int) ≤ (i : Int) + 1 := by omega
  have htn : ((i : Int) + 1).toNat = i + 1 := by omega
  have hb3 : (i : Int) ≤ (k : Int) := by omega
  have hb6 : (i : Int) + 1 ≤ (k : Int) + 1 := by omega
  have hb7 : (i : Int) ≤ (k : Int) + 1 := by omega
  clear hkk hik hold hROW hG hRl hN hNf hOb hOv hcs hvs h1c h1v hdl hsz hi0 hz0 hzs hzb
  go_enter Tryz.func21, Tryz.ntmps21
  go_wp2_with (first
    | (at_builtin; refine Lib.wpList_append_run _ rfl _ _ _ _ rfl _ _ rfl rfl _ _ (hrz _) ?_)
    | (at_builtin; refine wpList_copy_runI _ rfl _ _ 27 27 rfl _ _ rfl rfl (hcpA _ hE1 hE2 _ _) ?_)
    | (at_builtin; refine wpList_copy_runI _ rfl _ _ 27 27 rfl _ _ rfl rfl (hcpB _ (fun _ => rfl) (fun _ => rfl) _ _ _) ?_))
  go_region_law_o (refine step_copy_runI rfl _ _ 27 27 rfl (.slice (some ⟨w.heap.size, (i + 1) * 5, none⟩) (k - i) (G - (i + 1))) (.slice (some ⟨g, i * 5, none⟩) (k - i) (c - i)) (by simp [Act.eval, Act.put]) (by simp [Act.eval, Act.put]) (hcpB _ hF1 hF2 3 (G - (i + 1)) (c - i)) ?_)
  go_wp2
  go_ret
  exact ⟨rfl, rfl⟩
end Go.Proofs.YtkeabdfgacicaaaGreat


namespace Go.Proofs.YtkeabdfgacicaaaGreat
open Go.RowKit
set_option linter.unusedVariables false
set_option linter.unusedSimpArgs false

def cellB (b : BV) : Nat → Value
  | 0 => .int .i64 b.ty
  | 1 => .int .i64 b.num
  | 2 => .int .u64 (b.fl : Int)
  | 3 => .int .i64 b.crc
  | _ => str b.data
theorem flatB_at (bs : Nat → BV) (k j : Nat) (hj : j < k * 5) : (flatB bs k)[j]? = some (cellB (bs (j / 5)) (j % 5)) := by
  obtain ⟨g0, g1, g2, g3, g4⟩ := flatB_get bs k (j / 5) (by omega)
  have h5 : j % 5 = 0 ∨ j % 5 = 1 ∨ j % 5 = 2 ∨ j % 5 = 3 ∨ j % 5 = 4 := by omega
  rcases h5 with h | h | h | h | h
  · rw [h, show j = j / 5 * 5 by omega]; simpa [cellB] using g0
  · rw [h, show j = j / 5 * 5 + 1 by omega]; simpa [cellB, show (j / 5 * 5 + 1) / 5 = j / 5 by omega] using g1
  · rw [h, show j = j / 5 * 5 + 2 by omega]; simpa [cellB, show (j / 5 * 5 + 2) / 5 = j / 5 by omega] using g2
  · rw [h, show j = j / 5 * 5 + 3 by omega]; simpa [cellB, show (j / 5 * 5 + 3) / 5 = j / 5 by omega] using g3
  · rw [h, show j = j / 5 * 5 + 4 by omega]; simpa [cellB, show (j / 5 * 5 + 4) / 5 = j / 5 by omega] using g4
theorem flatB_of (bs : Nat → BV) (k : Nat) {l : List Value} (hl : l.length = k * 5) (h : ∀ j, j < k * 5 → l[j]? = some (cellB (bs (j / 5)) (j % 5))) : l = flatB bs k := by
  apply List.ext_getElem?
  intro j
  by_cases hj : j < k * 5
  · rw [h j hj, flatB_at bs k j hj]
  · rw [List.getElem?_eq_none (by omega), List.getElem?_eq_none (by rw [flatB_length]; omega)]
abbrev rowB (x : BV) : List Value := [.int .i64 x.ty, .int .i64 x.num, .int .u64 (x.fl : Int), .int .i64 x.crc, str x.data]
theorem rowB_at (x : BV) {j : Nat} (hj : j < 5) : (rowB x)[j]? = some (cellB x j) := by
  match j, hj with
  | 0, _ => rfl
  | 1, _ => rfl
  | 2, _ => rfl
  | 3, _ => rfl
  | 4, _ => rfl
/-- With one block more, at place i. -/
def insB (bs : Nat → BV) (i : Nat) (x : BV) (j : Nat) : BV := if j < i then bs j else if j = i then x else bs (j - 1)
theorem ins_at {cur : Nat → Option Value} {bs : Nat → BV} {i k : Nat} {x : BV} (hi : i < k) (j : Nat) (hj : j < (k + 1) * 5)
    (h0 : j < i * 5 → cur j = some (cellB (bs (j / 5)) (j % 5))) (h1 : i * 5 ≤ j → j < i * 5 + 5 → cur j = (rowB x)[j - i * 5]?) (h2 : i * 5 + 5 ≤ j → cur j = ((flatB bs k).drop (i * 5))[j - (i + 1) * 5]?) :
    cur j = some (cellB (insB bs i x (j / 5)) (j % 5)) := by
  unfold insB
  by_cases c0 : j < i * 5
  · rw [h0 c0, if_pos (by omega)]
  · by_cases c1 : j < i * 5 + 5
    · rw [h1 (by omega) c1, rowB_at x (by omega), if_neg (by omega), if_pos (by omega), show j - i * 5 = j % 5 by omega]
    · rw [h2 (by omega), List.getElem?_drop, show i * 5 + (j - (i + 1) * 5) = j - 5 by omega, flatB_at bs k (j - 5) (by omega), if_neg (by omega), if_neg (by omega), show (j - 5) / 5 = j / 5 - 1 by omega, show (j - 5) % 5 = j % 5 by omega]
theorem take_at (a : Array Value) (n : Nat) (hn : n ≤ a.size) (j : Nat) (hj : j < n) : (a.toList.take n)[j]? = a[j]? := by
  rw [List.getElem?_take, if_pos hj, Array.getElem?_toList]
/-- The row's cells behind the two copies, in either order. -/
theorem ins_A {cur : Array Value} {bs : Nat → BV} {i k : Nat} {x : BV} (hi : i < k) (hs : (k + 1) * 5 ≤ cur.size) (h0 : ∀ j, j < i * 5 → cur[j]? = some (cellB (bs (j / 5)) (j % 5))) :
    (writeFrom (writeFrom cur ((i + 1) * 5) ((flatB bs k).drop (i * 5))) (i * 5) (rowB x)).toList.take ((k + 1) * 5) = flatB (insB bs i x) (k + 1) := by
  have hd : ((flatB bs k).drop (i * 5)).length = (k - i) * 5 := by rw [List.length_drop, flatB_length]; omega
  have hr : (rowB x).length = 5 := rfl
  refine flatB_of _ _ (by rw [List.length_take, Array.length_toList, writeFrom_size, writeFrom_size]; omega) fun j hj => ?_
  rw [take_at _ _ (by rw [writeFrom_size, writeFrom_size]; omega) j hj]
  refine ins_at (cur := fun j => (writeFrom (writeFrom cur ((i + 1) * 5) ((flatB bs k).drop (i * 5))) (i * 5) (rowB x))[j]?) hi j hj (fun c => ?_) (fun c d => ?_) (fun c => ?_)
  · show (writeFrom _ _ _)[j]? = _
    rw [writeFrom_get _ _ _ _ (by rw [writeFrom_size, hr]; omega), if_neg (by omega), writeFrom_get _ _ _ _ (by rw [hd]; omega), if_neg (by omega), h0 j c]
  · show (writeFrom _ _ _)[j]? = _
    rw [writeFrom_get _ _ _ _ (by rw [writeFrom_size, hr]; omega), if_pos (by omega)]
  · show (writeFrom _ _ _)[j]? = _
    rw [writeFrom_get _ _ _ _ (by rw [writeFrom_size, hr]; omega), if_neg (by omega), writeFrom_get _ _ _ _ (by rw [hd]; omega), if_pos (by rw [hd]; omega)]
theorem ins_B {cur : Array Value} {bs : Nat → BV} {i k : Nat} {x : BV} (hi : i < k) (hs : (k + 1) * 5 ≤ cur.size) (h0 : ∀ j, j < i * 5 → cur[j]? = some (cellB (bs (j / 5)) (j % 5))) :
    (writeFrom (writeFrom cur (i * 5) (rowB x)) ((i + 1) * 5) ((flatB bs k).drop (i * 5))).toList.take ((k + 1) * 5) = flatB (insB bs i x) (k + 1) := by
  have hd : ((flatB bs k).drop (i * 5)).length = (k - i) * 5 := by rw [List.length_drop, flatB_length]; omega
  have hr : (rowB x).length = 5 := rfl
  refine flatB_of _ _ (by rw [List.length_take, Array.length_toList, writeFrom_size, writeFrom_size]; omega) fun j hj => ?_
  rw [take_at _ _ (by rw [writeFrom_size, writeFrom_size]; omega) j hj]
  refine ins_at (cur := fun j => (writeFrom (writeFrom cur (i * 5) (rowB x)) ((i + 1) * 5) ((flatB bs k).drop (i * 5)))[j]?) hi j hj (fun c => ?_) (fun c d => ?_) (fun c => ?_)
  · show (writeFrom _ _ _)[j]? = _
    rw [writeFrom_get _ _ _ _ (by rw [writeFrom_size, hd]; omega), if_neg (by omega), writeFrom_get _ _ _ _ (by rw [hr]; omega), if_neg (by omega), h0 j c]
  · show (writeFrom _ _ _)[j]? = _
    rw [writeFrom_get _ _ _ _ (by rw [writeFrom_size, hd]; omega), if_neg (by omega), writeFrom_get _ _ _ _ (by rw [hr]; omega), if_pos (by omega)]
  · show (writeFrom _ _ _)[j]? = _
    rw [writeFrom_get _ _ _ _ (by rw [writeFrom_size, hd]; omega), if_pos (by rw [hd]; omega)]
/-- slices.Insert of one block. -/
theorem InsB_any (bs : Nat → BV) (x : BV) (base g k c i vb : Nat) (hi : i < k) (hk : k ≤ 100000) (w : World) (hown : w.ownsRow base 31 5 (.slice (some ⟨g, 0, none⟩) k c) k (flatB bs k)) (hv : Blk w vb 31 (BV.c x)) (hvb : vb ≠ g) (hbw : base ≤ w.heap.size) :
    Calls Tryz.prog 21 #[.slice (some ⟨g, 0, none⟩) k c, .int .i64 i, .slice (some ⟨vb, 0, none⟩) 1 1] w (fun e w' => ∃ g' c', e = .returned (.slice (some ⟨g', 0, none⟩) (k + 1) c') ∧ Mod [g] w w' ∧ w'.ownsRow base 31 5 (.slice (some ⟨g', 0, none⟩) (k + 1) c') (k + 1) (flatB (insB bs i x) (k + 1))) := by
  have hfl := flatB_length bs k
  have hcs0 : ∀ j v, (flatB bs k)[j]? = some v → w.cell? ⟨g, j, none⟩ = some v := fun j v hj => own_cells hown hj
  have hvs : ∀ j v, (rowB x)[j]? = some v → w.cell? ⟨vb, j, none⟩ = some v := fun j v hj => by rw [hv.cell j]; simpa using hj
  rcases hown.2 with ⟨h, _⟩ | ⟨q, cap, cur, h, hbg, hg, hnc, hcm, hcz, htk⟩
  · cases h
  · simp only [Value.slice.injEq, Option.some.injEq, Addr.mk.injEq, and_true, true_and] at h
    obtain ⟨rfl, rfl⟩ := h
    have hB : Blk w g 31 cur := hg
    have hm63 : c ≤ 9223372036854775807 := by unfold maxLen at hcm; omega
    have h0 : ∀ j, j < k * 5 → cur[j]? = some (cellB (bs (j / 5)) (j % 5)) := fun j hj => by
      rw [← take_at cur (k * 5) (by omega) j hj, htk, flatB_at bs k j hj]
    by_cases hroom : k + 1 ≤ c
    · refine (InsB_shift g k c i vb (flatB bs k) (rowB x) w hi hk hroom hm63 hvb hfl rfl hcs0 (fun j hj => ?_) (fun j hj => hB.frozen j) hvs (flatB_one bs k) (oneB x) 31 31 5 cur.size ?_ ?_ ?_ (hv.frozen 0) (hv.frozen 5)).mono ?_
      · rw [hB.cell j, Array.getElem?_eq_getElem (by omega)]; rfl
      · unfold Blk at hv; simp [World.shape?, hv]
      · simp [World.shape?, hg]
      · omega
      · rintro e w' ⟨rfl, rfl⟩
        have hB1 := setRow_blk ((flatB bs k).drop (i * 5)) w.drew ((i + 1) * 5) cur hB.drew
        have hB2 := setRow_blk (rowB x) _ (i * 5) _ hB1
        rw [setRow_eq, setRow_eq] at hB2
        refine ⟨g, c, rfl, ?_, by simp [flatB_length], .inr ⟨g, c, _, rfl, hbg, hB2, by omega, hcm, by rw [writeFrom_size, writeFrom_size]; exact hcz, ins_A hi (by omega) fun j hj => h0 j (by omega)⟩⟩
        exact setCells_mod _ _ (setCells_mod _ _ (Mod.drew (Mod.refl _ _)) (.inl (by simp))) (.inl (by simp))
    · refine (InsB_grow g k c i vb (flatB bs k) (rowB x) w hi hk hnc (by omega) hfl rfl hcs0 hvs (flatB_one bs k) (oneB x)).mono ?_
      rintro e w' ⟨rfl, rfl⟩
      have hG := grownCap_ge w (k + 1) c 31
      have hGm := grownCap_le_maxLen w (k + 1) c 31 (by unfold maxLen; omega)
      generalize grownCap w (k + 1) c 31 = G at *
      have hrs : (((flatB bs k).take (i * 5)).toArray ++ Builtin.zeroCells zeroBV.cells (k + 1 - i) ++ Builtin.zeroCells zeroBV.cells (G - (k + 1))).size = G * 5 := by
        rw [Array.size_append, Array.size_append, zeroCells_size, zeroCells_size, List.size_toArray, List.length_take, hfl]; omega
      have hr0 : ∀ j, j < i * 5 → (((flatB bs k).take (i * 5)).toArray ++ Builtin.zeroCells zeroBV.cells (k + 1 - i) ++ Builtin.zeroCells zeroBV.cells (G - (k + 1)))[j]? = some (cellB (bs (j / 5)) (j % 5)) := fun j hj => by
        have hl1 : ((flatB bs k).take (i * 5)).toArray.size = i * 5 := by rw [List.size_toArray, List.length_take, hfl]; omega
        rw [Array.append_assoc, Array.getElem?_append_left (by omega), List.getElem?_toArray, List.getElem?_take, if_pos hj, flatB_at bs k j (by omega)]
      generalize (((flatB bs k).take (i * 5)).toArray ++ Builtin.zeroCells zeroBV.cells (k + 1 - i) ++ Builtin.zeroCells zeroBV.cells (G - (k + 1))) = ROW at *
      have hB0 := (Blk.new w 31 ROW).drew
      have hB1 := (setRow_blk (rowB x) _ (i * 5) _ hB0)
      rw [setRow_eq] at hB1
      have hB2 := setRow_blk ((flatB bs k).drop (i * 5)) _ ((i + 1) * 5) _ hB1.drew
      rw [setRow_eq] at hB2
      refine ⟨w.heap.size, G, rfl, ?_, by simp [flatB_length], .inr ⟨w.heap.size, G, _, rfl, hbw, hB2, hG, hGm, by rw [writeFrom_size, writeFrom_size]; exact hrs, ins_B hi (by omega) hr0⟩⟩
      exact setCells_mod _ _ (Mod.drew (setCells_mod _ _ (Mod.drew (Mod.alloc (Mod.refl _ _) _)) (.inr (Nat.le_refl _)))) (.inr (Nat.le_refl _))
end Go.Proofs.YtkeabdfgacicaaaGreat


namespace Go.Proofs.YtkeabdfgacicaaaGreat
open Go.RowKit
set_option linter.unusedVariables false
set_option linter.unusedSimpArgs false

theorem run_clear_rows {P : Program} (w : World) (t e ty : TypeId) (z : Value) (ht : P.underlying t = some (.slice e)) (hv : ∀ w, (zeroValue e).run P w = .ok z w) (b o n c : Nat) (hn : 0 < n) (h1 : ∀ v ∈ (Builtin.zeroCells z.cells n).toList, v.oneCell' = true)
    (hc : ∀ j, j < (Builtin.zeroCells z.cells n).size → (w.cell? ⟨b, o + j, none⟩).isSome = true) (hf : ∀ j, j < (Builtin.zeroCells z.cells n).size → w.frozen? ⟨b, o + j, none⟩ = false) :
    (Builtin.clear_ #[t] ty #[.slice (some ⟨b, o, none⟩) n c]).run P w = .ok (.tuple #[]) (w.setCells b o (Builtin.zeroCells z.cells n).toList) := by
  have hst := run_storeCells_cells (P := P) b o (Builtin.zeroCells z.cells n).toList 0 w (by simpa using hc) (by simpa using hf) h1
  have hn0 : ¬ n = 0 := by omega
  simp [Builtin.clear_, run_underlying ht, hv, hst, hn0]
set_option maxHeartbeats 4000000 in
set_option maxRecDepth 100000 in
theorem DelB_walk (g k c i j : Nat) (cs : List Value) (w : World) (hij : i < j) (hj : j ≤ k) (hkc : k ≤ c) (hm : c ≤ 9223372036854775807) (hcl : cs.length = k * 5)
    (hcs : ∀ j v, cs[j]? = some v → w.cell? ⟨g, j, none⟩ = some v) (hfz : ∀ j, w.frozen? ⟨g, j, none⟩ = false) (h1c : ∀ v ∈ cs, v.oneCell' = true) :
    Calls Tryz.prog 24 #[.slice (some ⟨g, 0, none⟩) k c, .int .i64 i, .int .i64 j] w fun e w' =>
      e = .returned (.slice (some ⟨g, 0, none⟩) (i + (k - j)) c) ∧ w' = (w.drew.setCells g (i * 5) (cs.drop (j * 5))).setCells g ((i + (k - j)) * 5) (Builtin.zeroCells zeroBV.cells (k - (i + (k - j)))).toList := by
  obtain ⟨i0, hi0, hz0, hz1, hz2⟩ := info_parts infoBlock
  obtain ⟨news, hnews⟩ : ∃ news, news = cs.drop (j * 5) := ⟨_, rfl⟩
  have hlen : news.length = (k - j) * 5 := by rw [hnews, List.length_drop, hcl]; omega
  obtain ⟨A, hA, hsrc⟩ : ∃ A : Addr, (if c = j then some (⟨g, 0, none⟩ : Addr) else some ⟨g, j * 5, none⟩) = some A ∧ Hid (∀ t u, news[t]? = some u → w.drew.cell? (A.add t) = some u) := by
    by_cases h : c = j
    · refine ⟨⟨g, 0, none⟩, by simp [h], fun t u hu => ?_⟩
      have h0 : news.length = 0 := by rw [hlen]; omega
      rw [List.length_eq_zero_iff.1 h0] at hu
      simp at hu
    · refine ⟨⟨g, j * 5, none⟩, by simp [h], fun t u hu => ?_⟩
      rw [addr_add]
      rw [hnews, List.getElem?_drop] at hu
      exact hcs _ u hu
  have s1 : Hid (news.length = (k - j) * 5) := hlen
  have s2 : Hid (∀ u ∈ news, u.oneCell' = true) := fun u hu => h1c u (List.mem_of_mem_drop (by rw [← hnews]; exact hu))
  have hsome : ∀ t, t < k * 5 → (w.cell? ⟨g, t, none⟩).isSome = true := fun t ht => by rw [hcs t _ (List.getElem?_eq_getElem (by omega))]; rfl
  have s3 : Hid (∀ t, t < news.length → (w.drew.cell? ⟨g, 0 + i * 5 + t, none⟩).isSome = true ∧ w.drew.frozen? ⟨g, 0 + i * 5 + t, none⟩ = false) := by
    intro t ht
    rw [hlen] at ht
    exact ⟨hsome _ (by omega), hfz _⟩
  obtain ⟨W1, hW1⟩ : ∃ W1, W1 = w.drew.setCells g (i * 5) news := ⟨_, rfl⟩
  have hzs : (Builtin.zeroCells zeroBV.cells (k - (i + (k - j)))).size = (k - (i + (k - j))) * 5 := zeroCells_size _
  have hz1c : ∀ v ∈ (Builtin.zeroCells zeroBV.cells (k - (i + (k - j)))).toList, v.oneCell' = true := by
    intro v hv
    simp [Builtin.zeroCells] at hv
    obtain ⟨a, ha, rfl⟩ := hv
    show (zeroBV.cells[a % 5]!).oneCell' = true
    have h5 : a % 5 = 0 ∨ a % 5 = 1 ∨ a % 5 = 2 ∨ a % 5 = 3 ∨ a % 5 = 4 := by omega
    rcases h5 with h | h | h | h | h <;> rw [h] <;> rfl
  have hcl2 : ∀ ty, (Builtin.clear_ #[27] ty #[.slice (some ⟨g, (i + (k - j)) * 5, none⟩) (k - (i + (k - j))) (c - (i + (k - j)))]).run Tryz.prog W1 = .ok (.tuple #[]) (W1.setCells g ((i + (k - j)) * 5) (Builtin.zeroCells zeroBV.cells (k - (i + (k - j)))).toList) :=
    fun ty => run_clear_rows W1 _ _ ty zeroBV Tryz.underlying27 (fun w => by kernel_rfl) g _ _ _ (by omega) hz1c
      (fun t ht => by
        rw [hzs] at ht
        rw [hW1]
        exact isSome_setCells g news (i * 5) w.drew (fun t ht => hsome _ (by rw [hlen] at ht; omega)) _ (hsome _ (by omega)))
      (fun t ht => by rw [hW1, World.frozen?_setCells]; exact hfz _)
  obtain ⟨ZC, hZC⟩ : ∃ l, l = (Builtin.zeroCells zeroBV.cells (k - (i + (k - j)))).toList := ⟨_, rfl⟩
  rw [← hZC] at hcl2 ⊢
  clear hZC
  have hW : Hid (W1 = w.drew.setCells g (i * 5) news) := hW1
  have hN := hid hnews
  have hic : i ≤ c := by omega
  have hjc : j ≤ c := by omega
  have hik : i ≤ k := by omega
  have hne : ¬ (i = j) := by omega
  have hnb : ((i : Int) == (j : Int)) = false := by rw [beq_eq_false_iff_ne]; omega
  have hneI : ¬ ((i : Int) = (j : Int)) := by omega
  have mixed : Tryz.prog.follows Departure.mixedOrders = true := by kernel_rfl
  clear hW1 hcs hfz h1c hsome hzs hz1c hnews hlen
  go_enter Tryz.func24, Tryz.ntmps24
  go_wp2_with fail
  go_region_law_o (refine step_append_room rfl (.tmp 22) (.tmp 25) 27 rfl 31 i0 5 Tryz.underlying27 hi0 hz1 g 0 i c (by simp [Act.eval, Act.put]) A (k - j) (c - j) news (by simp [Act.eval, Act.put]) s1.out hsrc.out s2.out (by omega) s3.out ?_; rw [show 0 + i * 5 = i * 5 from Nat.zero_add _]; rw [← hW.out])
  go_wp2
  go_ret
  exact ⟨rfl, by rw [hW.out, hN.out]⟩
/-- Without the block at place i. -/
def delB (bs : Nat → BV) (i : Nat) (j : Nat) : BV := if j < i then bs j else bs (j + 1)
theorem DelB_any (bs : Nat → BV) (base g k c i : Nat) (hi : i < k) (hk : k ≤ 100000) (w : World) (hown : w.ownsRow base 31 5 (.slice (some ⟨g, 0, none⟩) k c) k (flatB bs k)) :
    Calls Tryz.prog 24 #[.slice (some ⟨g, 0, none⟩) k c, .int .i64 i, .int .i64 ((i : Int) + 1)] w (fun e w' => e = .returned (.slice (some ⟨g, 0, none⟩) (k - 1) c) ∧ Mod [g] w w' ∧ w'.ownsRow base 31 5 (.slice (some ⟨g, 0, none⟩) (k - 1) c) (k - 1) (flatB (delB bs i) (k - 1))) := by
  have hfl := flatB_length bs k
  have hcs0 : ∀ j v, (flatB bs k)[j]? = some v → w.cell? ⟨g, j, none⟩ = some v := fun j v hj => own_cells hown hj
  rcases hown.2 with ⟨h, _⟩ | ⟨q, cap, cur, h, hbg, hg, hnc, hcm, hcz, htk⟩
  · cases h
  · simp only [Value.slice.injEq, Option.some.injEq, Addr.mk.injEq, and_true, true_and] at h
    obtain ⟨rfl, rfl⟩ := h
    have hB : Blk w g 31 cur := hg
    have hm63 : c ≤ 9223372036854775807 := by unfold maxLen at hcm; omega
    have h0 : ∀ j, j < k * 5 → cur[j]? = some (cellB (bs (j / 5)) (j % 5)) := fun j hj => by
      rw [← take_at cur (k * 5) (by omega) j hj, htk, flatB_at bs k j hj]
    have hw := DelB_walk g k c i (i + 1) (flatB bs k) w (by omega) (by omega) hnc hm63 hfl hcs0 (fun j => hB.frozen j) (flatB_one bs k)
    rw [show ((i + 1 : Nat) : Int) = (i : Int) + 1 by omega, show i + (k - (i + 1)) = k - 1 by omega] at hw
    refine hw.mono ?_
    rintro e w' ⟨rfl, rfl⟩
    have hd : ((flatB bs k).drop ((i + 1) * 5)).length = (k - 1 - i) * 5 := by rw [List.length_drop, hfl]; omega
    have hz : (Builtin.zeroCells zeroBV.cells (k - (k - 1))).toList.length = 5 := by rw [Array.length_toList, zeroCells_size]; omega
    have hB1 := setRow_blk ((flatB bs k).drop ((i + 1) * 5)) w.drew (i * 5) cur hB.drew
    have hB2 := setRow_blk (Builtin.zeroCells zeroBV.cells (k - (k - 1))).toList _ ((k - 1) * 5) _ hB1
    rw [setRow_eq, setRow_eq] at hB2
    have hsz : (writeFrom (writeFrom cur (i * 5) ((flatB bs k).drop ((i + 1) * 5))) ((k - 1) * 5) (Builtin.zeroCells zeroBV.cells (k - (k - 1))).toList).size = c * 5 := by rw [writeFrom_size, writeFrom_size]; exact hcz
    refine ⟨rfl, ?_, by simp [flatB_length], .inr ⟨g, c, _, rfl, hbg, hB2, by omega, hcm, hsz, ?_⟩⟩
    · exact setCells_mod _ _ (setCells_mod _ _ (Mod.drew (Mod.refl _ _)) (.inl (by simp))) (.inl (by simp))
    · refine flatB_of _ _ (by rw [List.length_take, Array.length_toList, hsz]; omega) fun j hj => ?_
      rw [take_at _ _ (by rw [hsz]; omega) j hj, writeFrom_get _ _ _ _ (by rw [writeFrom_size, hz]; omega), if_neg (by omega), writeFrom_get _ _ _ _ (by rw [hd]; omega)]
      unfold delB
      by_cases c0 : j < i * 5
      · rw [if_neg (by omega), if_pos (by omega), h0 j (by omega)]
      · rw [if_pos (by rw [hd]; omega), List.getElem?_drop, flatB_at bs k _ (by omega), if_neg (by omega), show ((i + 1) * 5 + (j - i * 5)) / 5 = j / 5 + 1 by omega, show ((i + 1) * 5 + (j - i * 5)) % 5 = j % 5 by omega]
end Go.Proofs.YtkeabdfgacicaaaGreat


namespace Go.Proofs.YtkeabdfgacicaaaGreat
open Go.RowKit
set_option linter.unusedVariables false
set_option linter.unusedSimpArgs false

def catB (ch : Nat → BV) (n : Nat) (bs : Nat → BV) (j : Nat) : BV := if j < n then ch j else bs (j - n)
theorem flatB_cat (ch bs : Nat → BV) (n m : Nat) : flatB ch n ++ flatB bs m = flatB (catB ch n bs) (n + m) := by
  refine flatB_of _ _ (by rw [List.length_append, flatB_length, flatB_length]; omega) fun j hj => ?_
  unfold catB
  by_cases c : j < n * 5
  · rw [List.getElem?_append_left (by rw [flatB_length]; omega), flatB_at ch n j c, if_pos (by omega)]
  · rw [List.getElem?_append_right (by rw [flatB_length]; omega), flatB_length, flatB_at bs m _ (by omega), if_neg (by omega), show (j - n * 5) / 5 = j / 5 - n by omega, show (j - n * 5) % 5 = j % 5 by omega]
theorem wpList_append_B {w : World} {ops : Array Oper} {rest : List Oper} {o : Oper} {a : Act} {Q : Exit → Act → World → Prop} (hgd : o.guard = none) (s x : Operand)
    (ho : o.op = .call { callee := .builtin .append, args := #[s, x], argTypes := #[27, 27] })
    (base : Nat) (v : Value) (n : Nat) (ch : Nat → BV) (hs : a.eval s = v) (hown : w.ownsRow base 31 5 v n (flatB ch n)) (A : Option Addr) (m c : Nat) (bs : Nat → BV) (hx : a.eval x = .slice A m c) (hnil : A = none → m = 0 ∧ c = 0) (hL : BsL w A m bs) (hnm : n + m ≤ 1000000) (hb : base ≤ w.heap.size)
    (h : ∀ v' w', w'.ownsRow base 31 5 v' (n + m) (flatB (catB ch n bs) (n + m)) → w.grownBy w' v.ownBlock → wpList Tryz.prog ops Q rest (a.put o.dst v') w') : wpList Tryz.prog ops Q (o :: rest) a w := by
  obtain ⟨i0, hi, hz0, hz1, hz2⟩ := info_parts infoBlock
  cases A with
  | none =>
    obtain ⟨rfl, rfl⟩ := hnil rfl
    refine wpList_append_own_none hgd s x 27 ho base 31 i0 5 Tryz.underlying27 hi v n (flatB ch n) hs hown hx (h v w ?_ ⟨rfl, rfl, rfl, Nat.le_refl _, fun _ _ _ => rfl⟩)
    have e := flatB_cat ch bs n 0
    rw [show flatB bs 0 = [] from rfl, List.append_nil] at e
    rw [Nat.add_zero] at e ⊢
    rw [← e]
    exact hown
  | some ad =>
    have hnews : ∀ j u, (flatB bs m)[j]? = some u → w.cell? (ad.add j) = some u := by
      intro j u hj
      have hm : 0 < m := by
        rcases Nat.eq_zero_or_pos m with e | e
        · subst e; simp [flatB] at hj
        · exact e
      obtain ⟨b, o', hA, hb, hc⟩ := hL hm
      cases hA
      exact flatB_news hc j u hj
    exact wpList_append_own _ hgd s x 27 ho base 31 i0 _ 5 48 Tryz.underlying27 hi hz0 hz1 hz2 rfl (by decide) v n (flatB ch n) hs hown ad m c (flatB bs m) hx (flatB_length bs m) hnews (flatB_one bs m) (by unfold maxLen; omega) (by omega) hb fun v' w' h1 h2 _ => h v' w' (by rw [← flatB_cat]; exact h1) h2
/-- Part of a slice of blocks. -/
theorem BsL.drop {w : World} {b o k : Nat} {bs : Nat → BV} (h : BsL w (some ⟨b, o, none⟩) k bs) (i : Nat) : BsL w (some ⟨b, o + i * 5, none⟩) (k - i) (fun j => bs (i + j)) := fun h0 => by
  obtain ⟨b', o', hA, hb, hc⟩ := h (by omega)
  cases hA
  refine ⟨b, o + i * 5, rfl, hb, fun j hj => ?_⟩
  have := hc (i + j) (by omega)
  rw [show o + (i + j) * 5 = o + i * 5 + j * 5 by omega] at this
  exact this
theorem BsL.take {w : World} {A : Option Addr} {k : Nat} {bs : Nat → BV} (h : BsL w A k bs) {i : Nat} (hi : i ≤ k) : BsL w A i bs := fun h0 => by
  obtain ⟨b', o', hA, hb, hc⟩ := h (by omega)
  exact ⟨b', o', hA, hb, fun j hj => hc j (by omega)⟩
end Go.Proofs.YtkeabdfgacicaaaGreat


namespace Go.Proofs.YtkeabdfgacicaaaGreat
open Go.RowKit
set_option linter.unusedVariables false
set_option linter.unusedSimpArgs false

theorem own_slA {w : World} {base n : Nat} {v : Value} {xs : List Value} (h : w.ownsRow base 31 5 v n xs) : ∃ A c, v = .slice A n c ∧ SlA A n c := by
  rcases h.2 with ⟨rfl, rfl⟩ | ⟨g, cap, cur, rfl, _, _, h1, h2, _⟩
  · exact ⟨none, 0, rfl, fun _ => ⟨rfl, rfl⟩, Nat.le_refl _, Nat.zero_le _⟩
  · exact ⟨some ⟨g, 0, none⟩, cap, rfl, fun h => (by cases h), h1, h2⟩
/-- The blocks ls in the place of gone blocks at place i. -/
def withB (bs : Nat → BV) (i gone m : Nat) (ls : Nat → BV) : Nat → BV := catB (catB bs i ls) (i + m) (fun j => bs (i + gone + j))
set_option maxRecDepth 20000 in
set_option maxHeartbeats 4000000 in
theorem With_some (p : PV) (bs : Nat → BV) (k c : Nat) (A : Option Addr) (hS : SlA A k c) (i gone : Nat) (hg : i + gone ≤ k) (m cl : Nat) (Al : Option Addr) (ls : Nat → BV) (hSl : SlA Al m cl) (h0 : 0 < k) (hk : k ≤ 100000) (hm : m ≤ 1000) (w : World) (h : BsL w A k bs) (hl : BsL w Al m ls) :
    Calls Tryz.prog 7 #[bunV p A k c, .int .i64 i, .int .i64 gone, .slice Al m cl] w (fun e w' => ∃ A' c', e = .returned (bunV p A' (i + m + (k - (i + gone))) c') ∧ Ext w w' ∧ BsL w' A' (i + m + (k - (i + gone))) (withB bs i gone m ls) ∧ SlA A' (i + m + (k - (i + gone))) c') := by
  have HE := hid (((Mod.refl [] w).alloc (.cells (bunC p A k c) 29)).alloc (.cells #[.int .u64 0, .int .i64 0, .int .i64 0, .string ⟨#[]⟩, .int .u64 0, .int .u64 0, .int .i64 0, .string ⟨#[]⟩, .int .u64 0, .int .u64 0, .int .i64 0, .string ⟨#[]⟩, .int .u64 0, .int .u64 0, .int .u64 0, .int .u64 0, .int .u64 0, .int .u64 0, .int .u64 0, .slice none 0 0] 29))
  have HB0 : Hid (Blk ((w.alloc (.cells (bunC p A k c) 29)).alloc (.cells #[.int .u64 0, .int .i64 0, .int .i64 0, .string ⟨#[]⟩, .int .u64 0, .int .u64 0, .int .i64 0, .string ⟨#[]⟩, .int .u64 0, .int .u64 0, .int .i64 0, .string ⟨#[]⟩, .int .u64 0, .int .u64 0, .int .u64 0, .int .u64 0, .int .u64 0, .int .u64 0, .int .u64 0, .slice none 0 0] 29)) w.heap.size 29 (bunC p A k c)) := hid ((Blk.new w 29 (bunC p A k c)).alloc (.cells #[.int .u64 0, .int .i64 0, .int .i64 0, .string ⟨#[]⟩, .int .u64 0, .int .u64 0, .int .i64 0, .string ⟨#[]⟩, .int .u64 0, .int .u64 0, .int .i64 0, .string ⟨#[]⟩, .int .u64 0, .int .u64 0, .int .u64 0, .int .u64 0, .int .u64 0, .int .u64 0, .int .u64 0, .slice none 0 0] 29))
  have HB1 : Hid (Blk ((w.alloc (.cells (bunC p A k c) 29)).alloc (.cells #[.int .u64 0, .int .i64 0, .int .i64 0, .string ⟨#[]⟩, .int .u64 0, .int .u64 0, .int .i64 0, .string ⟨#[]⟩, .int .u64 0, .int .u64 0, .int .i64 0, .string ⟨#[]⟩, .int .u64 0, .int .u64 0, .int .u64 0, .int .u64 0, .int .u64 0, .int .u64 0, .int .u64 0, .slice none 0 0] 29)) (w.heap.size + 1) 29 #[.int .u64 0, .int .i64 0, .int .i64 0, .string ⟨#[]⟩, .int .u64 0, .int .u64 0, .int .i64 0, .string ⟨#[]⟩, .int .u64 0, .int .u64 0, .int .i64 0, .string ⟨#[]⟩, .int .u64 0, .int .u64 0, .int .u64 0, .int .u64 0, .int .u64 0, .int .u64 0, .int .u64 0, .slice none 0 0]) := by unfold Hid; exact Blk.newL _ _ _ (by simp)
  have HL := hid (BsL.ext h HE.out)
  have HLl := hid (BsL.ext hl HE.out)
  obtain ⟨b, o, rfl, hb, _⟩ := h h0
  have hc := hS.2.1
  have hcm := hS.2.2
  obtain ⟨AD, hAD, hLD⟩ : ∃ AD : Addr, (if c = i + gone then (some ⟨b, o, none⟩ : Option Addr) else some ⟨b, o + (i + gone) * 5, none⟩) = some AD ∧ ∀ W, BsL W (some ⟨b, o, none⟩) k bs → BsL W (some AD) (k - (i + gone)) (fun j => bs (i + gone + j)) := by
    by_cases hh : c = i + gone
    · refine ⟨⟨b, o, none⟩, by simp [hh], fun W hW => ?_⟩
      intro h1; omega
    · exact ⟨⟨b, o + (i + gone) * 5, none⟩, by simp [hh], fun W hW => hW.drop (i + gone)⟩
  have HLD := hid hLD
  have HSl := hid hSl
  have HSn := hid hSl.1
  clear h hl hb hLD hS hSl
  have hi0 : (0 : Int) ≤ (i : Int) := by omega
  have hi1 : i ≤ c := by omega
  have hi2 : (i : Int) ≤ (c : Int) := by omega
  have hi3 : (i : Int) ≤ 100000 := by omega
  have hg0 : (0 : Int) ≤ (gone : Int) := by omega
  have hg1 : (gone : Int) ≤ 100000 := by omega
  have hw1 : IntKind.i64.wrap ((i : Int) + (gone : Int)) = (i : Int) + (gone : Int) := IntWalk.i64_in _ (by omega)
  have htn : ((i : Int) + (gone : Int)).toNat = i + gone := by omega
  have hg2 : (i : Int) + (gone : Int) ≤ (k : Int) := by omega
  have hg3 : (0 : Int) ≤ (i : Int) + (gone : Int) := by omega
  have hg4 : i + gone ≤ k := hg
  have hg5 : i + gone ≤ c := by omega
  have HW2 := hid (show w.heap.size + 1 < (((w.alloc (.cells (bunC p (some ⟨b, o, none⟩) k c) 29)).alloc (.cells #[.int .u64 0, .int .i64 0, .int .i64 0, .string ⟨#[]⟩, .int .u64 0, .int .u64 0, .int .i64 0, .string ⟨#[]⟩, .int .u64 0, .int .u64 0, .int .i64 0, .string ⟨#[]⟩, .int .u64 0, .int .u64 0, .int .u64 0, .int .u64 0, .int .u64 0, .int .u64 0, .int .u64 0, .slice none 0 0] 29))).heap.size by simp)
  go_enter Tryz.func7, Tryz.ntmps7
  go_upto_region 1 with fail
  generalize ((w.alloc (.cells (bunC p (some ⟨b, o, none⟩) k c) 29)).alloc (.cells #[.int .u64 0, .int .i64 0, .int .i64 0, .string ⟨#[]⟩, .int .u64 0, .int .u64 0, .int .i64 0, .string ⟨#[]⟩, .int .u64 0, .int .u64 0, .int .i64 0, .string ⟨#[]⟩, .int .u64 0, .int .u64 0, .int .u64 0, .int .u64 0, .int .u64 0, .int .u64 0, .int .u64 0, .slice none 0 0] 29)) = V at *
  have b19 : V.cell? ⟨w.heap.size, 19, none⟩ = some (.slice (some ⟨b, o, none⟩) k c) := HB0.out.cell 19
  go_upto_region 3 with (at_builtin; refine wpList_append_B rfl _ _ rfl V.heap.size (.slice none 0 0) 0 bs rfl (World.ownsRow_nil _ _ _ _) (some ⟨b, o, none⟩) i c bs rfl (fun h => by cases h) (HL.out.take (by omega)) (by omega) (Nat.le_refl _) ?_; intro v1 w1 ho1 hgr1)
  have HE1 : Hid (Ext V w1) := hid ((Mod.refl [] V).grown hgr1 (fun kk hkk => by cases hkk))
  have ho1' : w1.ownsRow V.heap.size 31 5 v1 i (flatB bs i) := by
    rw [Nat.zero_add, flatB_congr (bs' := bs) (fun j hj => show catB bs 0 bs j = bs j by unfold catB; simp)] at ho1
    exact ho1
  have HO1 := hid ho1'
  have HN1 : Hid (V.heap.size ≤ w1.heap.size) := hid HE1.out.size
  have HLl1 := hid (HLl.out.ext HE1.out)
  clear ho1 ho1' hgr1 b19
  go_upto_region 4 with (at_builtin; refine wpList_append_B rfl _ _ rfl V.heap.size v1 i bs rfl HO1.out Al m cl ls rfl HSn.out HLl1.out (by omega) HN1.out ?_; intro v2 w2 ho2 hgr2)
  have HE2 : Hid (Ext V w2) := hid (own_turned HO1.out HE1.out hgr2 (Nat.le_refl _))
  have HO2 := hid ho2
  have HN2 : Hid (V.heap.size ≤ w2.heap.size) := hid HE2.out.size
  have HD2 := hid (HLD.out w2 (HL.out.ext HE2.out))
  have b19 : w2.cell? ⟨w.heap.size, 19, none⟩ = some (.slice (some ⟨b, o, none⟩) k c) := (HB0.out.ext HE2.out).cell 19
  clear ho2 hgr2 HO1 HN1 HLl1 HLD
  go_upto_region 5 with (at_builtin; refine wpList_append_B rfl _ _ rfl V.heap.size v2 (i + m) (catB bs i ls) rfl HO2.out (some AD) (k - (i + gone)) (c - (i + gone)) (fun j => bs (i + gone + j)) rfl (fun h => by cases h) HD2.out (by omega) HN2.out ?_; intro v3 w3 ho3 hgr3)
  have HE3 : Hid (Ext V w3) := hid (own_turned HO2.out HE2.out hgr3 (Nat.le_refl _))
  obtain ⟨A', c', rfl, hsa⟩ := own_slA ho3
  have HSA := hid hsa
  have HLR : Hid (BsL w3 A' (i + m + (k - (i + gone))) (withB bs i gone m ls)) := hid (own_BsL ho3)
  have HLT : Hid (∀ kk o', A' = some ⟨kk, o', none⟩ → w.heap.size + 1 < kk) := hid (fun kk o' hA => by
    subst hA
    have := (ho3.lt kk rfl).1
    have := HW2.out
    omega)
  clear ho3 hgr3 HO2 HN2 HD2 b19 hsa
  have HR3 := hid (HB1.out.ext HE3.out)
  have HPR : w3.rangeAt w.heap.size 0 p.c.toList := (HB0.out.range 0 19 (by rw [Array.toList_extract]; rfl)) ⟨w3, HE3.out⟩
  have HPRh := hid HPR
  clear HPR
  generalize hnn : i + m + (k - (i + gone)) = n3 at *
  have HNN := hid hnn
  clear hnn
  go_wp2_with (first | (refine wpList_mid (by rfl) 26 _ rfl _ 0 rfl _ _ HPRh.out Tryz.underlying26 rfl (by kernel_rfl) ?_) | (refine wpList_store_mid rfl 29 _ _ rfl (w.heap.size + 1) 0 (bunC p A' n3 c') (by rfl) (by rfl) (HR3.out.there (Nat.le_refl 20)) (by kernel_rfl) (by simp [Value.oneCell']) ?_))
  generalize hZ : World.setCells _ _ _ _ = Z
  have HZB : Hid (Blk Z (w.heap.size + 1) 29 (bunC p A' n3 c')) := hid (by rw [← hZ]; exact setCells_all (ds := bunC p A' n3 c') HR3.out rfl)
  have HZM : Hid (Mod [w.heap.size + 1] w3 Z) := hid (by rw [← hZ]; exact setCells_mod _ _ (Mod.refl _ _) (.inl (by simp)))
  clear hZ
  refine bodyPost_ret (v := bunV p A' n3 c') (results_cell Tryz.results7 _ rfl HZB.out Tryz.underlying29 rfl (by kernel_rfl)) rfl ?_
  rw [HNN.out]
  refine ⟨A', c', rfl, Mod.new (S := [w.heap.size + 1]) ((HE.out.trans HE3.out).of_ext.trans HZM.out) (fun kk hkk => .inr (by simp at hkk; omega)), ?_, HSA.out⟩
  intro hn
  obtain ⟨bb, oo, hA, hbl, hcc⟩ := HLR.out hn
  have := HLT.out bb oo hA
  exact ⟨bb, oo, hA, Nat.lt_of_lt_of_le hbl HZM.out.size, fun j hj => (hcc j hj).mod HZM.out hbl (by simp; omega)⟩
end Go.Proofs.YtkeabdfgacicaaaGreat


namespace Go.Proofs.YtkeabdfgacicaaaGreat
open Go.RowKit
set_option linter.unusedVariables false
set_option linter.unusedSimpArgs false

set_option maxRecDepth 20000 in
set_option maxHeartbeats 1600000 in
theorem With_nil (p : PV)  (w : World) : Calls Tryz.prog 7 #[bunV p none 0 0, .int .i64 0, .int .i64 0, .slice none 0 0] w (fun e w' => ∃ A' c', e = .returned (bunV p A' 0 c') ∧ Ext w w') := by
  have HE := hid (((Mod.refl [] w).alloc (.cells (bunC p none 0 0) 29)).alloc (.cells #[.int .u64 0, .int .i64 0, .int .i64 0, .string ⟨#[]⟩, .int .u64 0, .int .u64 0, .int .i64 0, .string ⟨#[]⟩, .int .u64 0, .int .u64 0, .int .i64 0, .string ⟨#[]⟩, .int .u64 0, .int .u64 0, .int .u64 0, .int .u64 0, .int .u64 0, .int .u64 0, .int .u64 0, .slice none 0 0] 29))
  have HB0 : Hid (Blk ((w.alloc (.cells (bunC p none 0 0) 29)).alloc (.cells #[.int .u64 0, .int .i64 0, .int .i64 0, .string ⟨#[]⟩, .int .u64 0, .int .u64 0, .int .i64 0, .string ⟨#[]⟩, .int .u64 0, .int .u64 0, .int .i64 0, .string ⟨#[]⟩, .int .u64 0, .int .u64 0, .int .u64 0, .int .u64 0, .int .u64 0, .int .u64 0, .int .u64 0, .slice none 0 0] 29)) w.heap.size 29 (bunC p none 0 0)) := hid ((Blk.new w 29 (bunC p none 0 0)).alloc (.cells #[.int .u64 0, .int .i64 0, .int .i64 0, .string ⟨#[]⟩, .int .u64 0, .int .u64 0, .int .i64 0, .string ⟨#[]⟩, .int .u64 0, .int .u64 0, .int .i64 0, .string ⟨#[]⟩, .int .u64 0, .int .u64 0, .int .u64 0, .int .u64 0, .int .u64 0, .int .u64 0, .int .u64 0, .slice none 0 0] 29))
  have HB1 : Hid (Blk ((w.alloc (.cells (bunC p none 0 0) 29)).alloc (.cells #[.int .u64 0, .int .i64 0, .int .i64 0, .string ⟨#[]⟩, .int .u64 0, .int .u64 0, .int .i64 0, .string ⟨#[]⟩, .int .u64 0, .int .u64 0, .int .i64 0, .string ⟨#[]⟩, .int .u64 0, .int .u64 0, .int .u64 0, .int .u64 0, .int .u64 0, .int .u64 0, .int .u64 0, .slice none 0 0] 29)) (w.heap.size + 1) 29 #[.int .u64 0, .int .i64 0, .int .i64 0, .string ⟨#[]⟩, .int .u64 0, .int .u64 0, .int .i64 0, .string ⟨#[]⟩, .int .u64 0, .int .u64 0, .int .i64 0, .string ⟨#[]⟩, .int .u64 0, .int .u64 0, .int .u64 0, .int .u64 0, .int .u64 0, .int .u64 0, .int .u64 0, .slice none 0 0]) := by unfold Hid; exact Blk.newL _ _ _ (by simp)
  go_enter Tryz.func7, Tryz.ntmps7
  go_upto_region 1 with fail
  generalize ((w.alloc (.cells (bunC p none 0 0) 29)).alloc (.cells #[.int .u64 0, .int .i64 0, .int .i64 0, .string ⟨#[]⟩, .int .u64 0, .int .u64 0, .int .i64 0, .string ⟨#[]⟩, .int .u64 0, .int .u64 0, .int .i64 0, .string ⟨#[]⟩, .int .u64 0, .int .u64 0, .int .u64 0, .int .u64 0, .int .u64 0, .int .u64 0, .int .u64 0, .slice none 0 0] 29)) = V at *
  have b19 : V.cell? ⟨w.heap.size, 19, none⟩ = some (.slice none 0 0) := HB0.out.cell 19
  go_upto_region 3 with (at_builtin; refine wpList_append_B rfl _ _ rfl V.heap.size (.slice none 0 0) 0 (fun _ => zeroB) rfl (World.ownsRow_nil _ _ _ _) none 0 0 (fun _ => zeroB) rfl (fun _ => ⟨rfl, rfl⟩) (fun h => by omega) (by omega) (Nat.le_refl _) ?_; intro v1 w1 ho hgr)
  have HE1 : Hid (Ext V w1) := hid ((Mod.refl [] V).grown hgr (fun kk hkk => by cases hkk))
  have HO1 : Hid (w1.ownsRow V.heap.size 31 5 v1 0 (flatB (fun _ => zeroB) 0)) := hid (by simpa [flatB] using ho)
  have HN1 : Hid (V.heap.size ≤ w1.heap.size) := hid HE1.out.size
  clear ho hgr b19
  go_upto_region 4 with (at_builtin; refine wpList_append_B rfl _ _ rfl V.heap.size v1 0 (fun _ => zeroB) rfl HO1.out none 0 0 (fun _ => zeroB) rfl (fun _ => ⟨rfl, rfl⟩) (fun h => by omega) (by omega) HN1.out ?_; intro v2 w2 ho hgr)
  have HE2 : Hid (Ext V w2) := hid (own_turned HO1.out HE1.out hgr (Nat.le_refl _))
  have HO2 : Hid (w2.ownsRow V.heap.size 31 5 v2 0 (flatB (fun _ => zeroB) 0)) := hid (by simpa [flatB] using ho)
  have HN2 : Hid (V.heap.size ≤ w2.heap.size) := hid HE2.out.size
  have b19 : w2.cell? ⟨w.heap.size, 19, none⟩ = some (.slice none 0 0) := (HB0.out.ext HE2.out).cell 19
  clear ho hgr HO1 HN1 HE1
  go_upto_region 5 with (at_builtin; refine wpList_append_B rfl _ _ rfl V.heap.size v2 0 (fun _ => zeroB) rfl HO2.out none 0 0 (fun _ => zeroB) rfl (fun _ => ⟨rfl, rfl⟩) (fun h => by omega) (by omega) HN2.out ?_; intro v3 w3 ho hgr)
  have HE3 : Hid (Ext V w3) := hid (own_turned HO2.out HE2.out hgr (Nat.le_refl _))
  have ho3 : w3.ownsRow V.heap.size 31 5 v3 0 (flatB (fun _ => zeroB) 0) := by simpa [flatB] using ho
  obtain ⟨A', c', rfl, hsa⟩ := own_slA ho3
  clear ho ho3 hgr HO2 HN2 b19 hsa HE2
  have HR3 := hid (HB1.out.ext HE3.out)
  have HPRh : Hid (w3.rangeAt w.heap.size 0 p.c.toList) := hid ((HB0.out.range 0 19 (by rw [Array.toList_extract]; rfl)) ⟨w3, HE3.out⟩)
  go_wp2_with (first | (refine wpList_mid (by rfl) 26 _ rfl _ 0 rfl _ _ HPRh.out Tryz.underlying26 rfl (by kernel_rfl) ?_) | (refine wpList_store_mid rfl 29 _ _ rfl (w.heap.size + 1) 0 (bunC p A' 0 c') (by rfl) (by rfl) (HR3.out.there (Nat.le_refl 20)) (by kernel_rfl) (by simp [Value.oneCell']) ?_))
  generalize hZ : World.setCells _ _ _ _ = Z
  have HZB : Hid (Blk Z (w.heap.size + 1) 29 (bunC p A' 0 c')) := hid (by rw [← hZ]; exact setCells_all (ds := bunC p A' 0 c') HR3.out rfl)
  have HZM : Hid (Ext w Z) := hid (by rw [← hZ]; exact setCells_mod _ _ (HE.out.trans HE3.out) (.inr (by simp)))
  clear hZ
  exact bodyPost_ret (v := bunV p A' 0 c') (results_cell Tryz.results7 _ rfl HZB.out Tryz.underlying29 rfl (by kernel_rfl)) rfl ⟨⟨A', c', rfl⟩, HZM.out⟩
set_option maxRecDepth 20000 in
set_option maxHeartbeats 1600000 in
theorem With_empty (p : PV) (c : Nat) (ad : Addr) (w : World) : Calls Tryz.prog 7 #[bunV p (some ad) 0 c, .int .i64 0, .int .i64 0, .slice none 0 0] w (fun e w' => ∃ A' c', e = .returned (bunV p A' 0 c') ∧ Ext w w') := by
  have HE := hid (((Mod.refl [] w).alloc (.cells (bunC p (some ad) 0 c) 29)).alloc (.cells #[.int .u64 0, .int .i64 0, .int .i64 0, .string ⟨#[]⟩, .int .u64 0, .int .u64 0, .int .i64 0, .string ⟨#[]⟩, .int .u64 0, .int .u64 0, .int .i64 0, .string ⟨#[]⟩, .int .u64 0, .int .u64 0, .int .u64 0, .int .u64 0, .int .u64 0, .int .u64 0, .int .u64 0, .slice none 0 0] 29))
  have HB0 : Hid (Blk ((w.alloc (.cells (bunC p (some ad) 0 c) 29)).alloc (.cells #[.int .u64 0, .int .i64 0, .int .i64 0, .string ⟨#[]⟩, .int .u64 0, .int .u64 0, .int .i64 0, .string ⟨#[]⟩, .int .u64 0, .int .u64 0, .int .i64 0, .string ⟨#[]⟩, .int .u64 0, .int .u64 0, .int .u64 0, .int .u64 0, .int .u64 0, .int .u64 0, .int .u64 0, .slice none 0 0] 29)) w.heap.size 29 (bunC p (some ad) 0 c)) := hid ((Blk.new w 29 (bunC p (some ad) 0 c)).alloc (.cells #[.int .u64 0, .int .i64 0, .int .i64 0, .string ⟨#[]⟩, .int .u64 0, .int .u64 0, .int .i64 0, .string ⟨#[]⟩, .int .u64 0, .int .u64 0, .int .i64 0, .string ⟨#[]⟩, .int .u64 0, .int .u64 0, .int .u64 0, .int .u64 0, .int .u64 0, .int .u64 0, .int .u64 0, .slice none 0 0] 29))
  have HB1 : Hid (Blk ((w.alloc (.cells (bunC p (some ad) 0 c) 29)).alloc (.cells #[.int .u64 0, .int .i64 0, .int .i64 0, .string ⟨#[]⟩, .int .u64 0, .int .u64 0, .int .i64 0, .string ⟨#[]⟩, .int .u64 0, .int .u64 0, .int .i64 0, .string ⟨#[]⟩, .int .u64 0, .int .u64 0, .int .u64 0, .int .u64 0, .int .u64 0, .int .u64 0, .int .u64 0, .slice none 0 0] 29)) (w.heap.size + 1) 29 #[.int .u64 0, .int .i64 0, .int .i64 0, .string ⟨#[]⟩, .int .u64 0, .int .u64 0, .int .i64 0, .string ⟨#[]⟩, .int .u64 0, .int .u64 0, .int .i64 0, .string ⟨#[]⟩, .int .u64 0, .int .u64 0, .int .u64 0, .int .u64 0, .int .u64 0, .int .u64 0, .int .u64 0, .slice none 0 0]) := by unfold Hid; exact Blk.newL _ _ _ (by simp)
  go_enter Tryz.func7, Tryz.ntmps7
  go_upto_region 1 with fail
  generalize ((w.alloc (.cells (bunC p (some ad) 0 c) 29)).alloc (.cells #[.int .u64 0, .int .i64 0, .int .i64 0, .string ⟨#[]⟩, .int .u64 0, .int .u64 0, .int .i64 0, .string ⟨#[]⟩, .int .u64 0, .int .u64 0, .int .i64 0, .string ⟨#[]⟩, .int .u64 0, .int .u64 0, .int .u64 0, .int .u64 0, .int .u64 0, .int .u64 0, .int .u64 0, .slice none 0 0] 29)) = V at *
  have b19 : V.cell? ⟨w.heap.size, 19, none⟩ = some (.slice (some ad) 0 c) := HB0.out.cell 19
  go_upto_region 3 with (at_builtin; refine wpList_append_B rfl _ _ rfl V.heap.size (.slice none 0 0) 0 (fun _ => zeroB) rfl (World.ownsRow_nil _ _ _ _) (some ad) 0 c (fun _ => zeroB) rfl (fun h => by cases h) (fun h => by omega) (by omega) (Nat.le_refl _) ?_; intro v1 w1 ho hgr)
  have HE1 : Hid (Ext V w1) := hid ((Mod.refl [] V).grown hgr (fun kk hkk => by cases hkk))
  have HO1 : Hid (w1.ownsRow V.heap.size 31 5 v1 0 (flatB (fun _ => zeroB) 0)) := hid (by simpa [flatB] using ho)
  have HN1 : Hid (V.heap.size ≤ w1.heap.size) := hid HE1.out.size
  clear ho hgr b19
  go_upto_region 4 with (at_builtin; refine wpList_append_B rfl _ _ rfl V.heap.size v1 0 (fun _ => zeroB) rfl HO1.out none 0 0 (fun _ => zeroB) rfl (fun _ => ⟨rfl, rfl⟩) (fun h => by omega) (by omega) HN1.out ?_; intro v2 w2 ho hgr)
  have HE2 : Hid (Ext V w2) := hid (own_turned HO1.out HE1.out hgr (Nat.le_refl _))
  have HO2 : Hid (w2.ownsRow V.heap.size 31 5 v2 0 (flatB (fun _ => zeroB) 0)) := hid (by simpa [flatB] using ho)
  have HN2 : Hid (V.heap.size ≤ w2.heap.size) := hid HE2.out.size
  have b19 : w2.cell? ⟨w.heap.size, 19, none⟩ = some (.slice (some ad) 0 c) := (HB0.out.ext HE2.out).cell 19
  clear ho hgr HO1 HN1 HE1
  go_upto_region 5 with (at_builtin; refine wpList_append_B rfl _ _ rfl V.heap.size v2 0 (fun _ => zeroB) rfl HO2.out (some ad) 0 c (fun _ => zeroB) rfl (fun h => by cases h) (fun h => by omega) (by omega) HN2.out ?_; intro v3 w3 ho hgr)
  have HE3 : Hid (Ext V w3) := hid (own_turned HO2.out HE2.out hgr (Nat.le_refl _))
  have ho3 : w3.ownsRow V.heap.size 31 5 v3 0 (flatB (fun _ => zeroB) 0) := by simpa [flatB] using ho
  obtain ⟨A', c', rfl, hsa⟩ := own_slA ho3
  clear ho ho3 hgr HO2 HN2 b19 hsa HE2
  have HR3 := hid (HB1.out.ext HE3.out)
  have HPRh : Hid (w3.rangeAt w.heap.size 0 p.c.toList) := hid ((HB0.out.range 0 19 (by rw [Array.toList_extract]; rfl)) ⟨w3, HE3.out⟩)
  go_wp2_with (first | (refine wpList_mid (by rfl) 26 _ rfl _ 0 rfl _ _ HPRh.out Tryz.underlying26 rfl (by kernel_rfl) ?_) | (refine wpList_store_mid rfl 29 _ _ rfl (w.heap.size + 1) 0 (bunC p A' 0 c') (by rfl) (by rfl) (HR3.out.there (Nat.le_refl 20)) (by kernel_rfl) (by simp [Value.oneCell']) ?_))
  generalize hZ : World.setCells _ _ _ _ = Z
  have HZB : Hid (Blk Z (w.heap.size + 1) 29 (bunC p A' 0 c')) := hid (by rw [← hZ]; exact setCells_all (ds := bunC p A' 0 c') HR3.out rfl)
  have HZM : Hid (Ext w Z) := hid (by rw [← hZ]; exact setCells_mod _ _ (HE.out.trans HE3.out) (.inr (by simp)))
  clear hZ
  exact bodyPost_ret (v := bunV p A' 0 c') (results_cell Tryz.results7 _ rfl HZB.out Tryz.underlying29 rfl (by kernel_rfl)) rfl ⟨⟨A', c', rfl⟩, HZM.out⟩
end Go.Proofs.YtkeabdfgacicaaaGreat


namespace Go.Proofs.YtkeabdfgacicaaaGreat
open Go.RowKit Go.Maps
set_option linter.unusedVariables false
set_option linter.unusedSimpArgs false

theorem law3 : Keyed Tryz.prog 3 := int_keyed Tryz.underlying3
theorem zero3 (w : World) : (zeroValue 3).run Tryz.prog w = .ok (.int .i64 0) w := by kernel_rfl
abbrev UD := DataW Unit
def InI (x : Int) : Prop := -9223372036854775808 ≤ x ∧ x ≤ 9223372036854775807
theorem InI.wf {x : Int} (h : InI x) : (Lit.int .i64 x).wf = true := by
  have := h
  simpa [InI, Lit.wf, IntKind.min, IntKind.max, IntKind.signed, IntKind.bits] using this
theorem keyOf3 {x : Int} (h : InI x) : keyOf Tryz.prog 3 (.int .i64 x) = some (.int .i64 x) := keyOf_int_mk Tryz.underlying3 h.wf

/-- The map at m counts as f says. -/
def Counts (w : World) (m c : Nat) (f : Int → Nat) : Prop :=
  ∃ D : UD, w.ownsMap Tryz.prog 3 (plainElem (H := Unit) Tryz.prog 3) m c D ∧ ∀ id, InI id → D.atKey (.int .i64 id) (.lit (.int .i64 0)) = .lit (.int .i64 (f id : Int))

theorem Counts.kept {w w' : World} {m c : Nat} {f : Int → Nat} {S : List Nat} (h : Counts w m c f) (hm : Mod S w w') (hs : m ∉ S) : Counts w' m c f := by
  obtain ⟨D, ⟨es, clock, h1, h2, h3, h4⟩, h5⟩ := h
  have hlt : m < w.heap.size := by
    rcases Nat.lt_or_ge m w.heap.size with hlt | hge
    · exact hlt
    · rw [Array.getElem?_eq_none hge] at h1; cases h1
  exact ⟨D, ⟨es, clock, (hm.block m hlt hs).trans h1, h2, h3, h4⟩, h5⟩
theorem Counts.lt {w : World} {m c : Nat} {f : Int → Nat} (h : Counts w m c f) : m < w.heap.size := by
  obtain ⟨D, h1, _⟩ := h
  exact h1.lt
theorem Counts.look {w : World} {m c : Nat} {f : Int → Nat} (h : Counts w m c f) {id : Int} (hi : InI id) :
    (Instr.lookup 131 (.map (some m)) (.int .i64 id) false).run Tryz.prog w = .ok (.int .i64 (f id : Int)) w := by
  obtain ⟨D, hown, hat⟩ := h
  obtain ⟨v, hrun, h1, _⟩ := hown.lookup_int law3 Tryz.underlying131 Tryz.underlying3 (zero3 w) (keyOf3 hi)
  rw [hat id hi] at h1
  have : v = (f id : Int) := by
    have := h1
    simp at this
    exact this.symm
  rw [hrun, this]
def upd (f : Int → Nat) (id : Int) : Int → Nat := fun x => if x = id then f id + 1 else f x
theorem Counts.put {w w' : World} {m c : Nat} {f : Int → Nat} {D : UD} {id : Int} (hi : InI id) (hown : w.ownsMap Tryz.prog 3 (plainElem (H := Unit) Tryz.prog 3) m c D)
    (hat : ∀ id, InI id → D.atKey (.int .i64 id) (.lit (.int .i64 0)) = .lit (.int .i64 (f id : Int)))
    (h1 : w'.ownsMap Tryz.prog 3 (plainElem (H := Unit) Tryz.prog 3) m (c + 1) (D.put (.int .i64 id) (.lit (.int .i64 ((f id : Int) + 1))))) : Counts w' m (c + 1) (upd f id) := by
  refine ⟨_, h1, fun x hx => ?_⟩
  obtain ⟨es, clock, e1, e2, e3, e4⟩ := hown
  by_cases e : x = id
  · subst e
    rw [atKey_put_same ⟨_, e4⟩ (by simp [WideAt.IsKeyLit])]
    simp [upd]
  · rw [atKey_put_other (by intro h; simp at h; exact e h)]
    rw [hat x hx]
    simp [upd, e]

theorem Counts.made (w : World) : Counts (w.alloc (.map #[] 0)) w.heap.size 0 (fun _ => 0) := ⟨.map [], World.ownsMap_made _ _ _ _, fun id _ => rfl⟩
theorem Counts.congr {w : World} {m c : Nat} {f g : Int → Nat} (h : Counts w m c f) (e : ∀ x, f x = g x) : Counts w m c g := by
  obtain rfl : f = g := funext e
  exact h
end Go.Proofs.YtkeabdfgacicaaaGreat


namespace Go.Proofs.YtkeabdfgacicaaaGreat
open Go.RowKit Go.Maps
set_option linter.unusedVariables false
set_option linter.unusedSimpArgs false

/-- How many of the first i blocks have a number. -/
def cntN (bs : Nat → BV) (num : Int) : Nat → Nat
  | 0 => 0
  | i + 1 => cntN bs num i + (if (bs i).num = num then 1 else 0)
theorem cntN_le (bs : Nat → BV) (num : Int) : ∀ k, cntN bs num k ≤ k
  | 0 => Nat.le_refl _
  | k + 1 => by have := cntN_le bs num k; rw [cntN]; split <;> omega
theorem cntN_zero {bs : Nat → BV} {num : Int} : ∀ {k : Nat}, (∀ j, j < k → (bs j).num ≠ num) → cntN bs num k = 0
  | 0, _ => rfl
  | k + 1, h => by rw [cntN, cntN_zero fun j hj => h j (by omega), if_neg (h k (by omega))]
theorem cntN_pos {bs : Nat → BV} {num : Int} {i : Nat} : ∀ {k : Nat}, i < k → (bs i).num = num → 1 ≤ cntN bs num k
  | k + 1, h, ht => by
    rw [cntN]
    by_cases e : i = k
    · subst e; rw [if_pos ht]; omega
    · have := cntN_pos (k := k) (by omega) ht; omega
theorem cntN_dup {bs : Nat → BV} {i : Nat} : dupAt bs i = decide (1 ≤ cntN bs (bs i).num i) := by
  unfold dupAt
  cases h : firstOf (hasNumOf bs i) i with
  | none =>
    have h2 := firstOf_no h
    rw [cntN_zero fun j hj e => by have := h2 j hj; simp [hasNumOf] at this; exact this e.symm]; rfl
  | some j =>
    obtain ⟨h1, h2, _⟩ := firstOf_spec h
    have := cntN_pos (num := (bs i).num) h1 (by simp [hasNumOf] at h2; exact h2.symm)
    symm; simpa using this
def onceB (bs : Nat → BV) (k : Nat) : Bool := !dupB bs k && decide (cntB bs 1 k = 1) && decide (cntB bs 6 k < 2) && decide (cntB bs 7 k < 2) && decide (cntB bs 10 k < 2)
theorem cntN_upd (bs : Nat → BV) (i : Nat) (x : Int) : upd (fun x => cntN bs x i) (bs i).num x = cntN bs x (i + 1) := by
  unfold upd
  rw [cntN]
  by_cases e : x = (bs i).num
  · subst e; rw [if_pos rfl, if_pos rfl]
  · rw [if_neg e, if_neg (fun h => e h.symm)]; rfl
theorem cntB_upd (bs : Nat → BV) (i : Nat) (x : Int) : upd (fun x => cntB bs x i) (bs i).ty x = cntB bs x (i + 1) := by
  unfold upd
  rw [cntB]
  by_cases e : x = (bs i).ty
  · subst e; rw [if_pos rfl, if_pos rfl]
  · rw [if_neg e, if_neg (fun h => e h.symm)]; rfl
set_option maxRecDepth 20000 in
set_option maxHeartbeats 4000000 in
theorem once_any (bs : Nat → BV) (k c : Nat) (A : Option Addr) (hk : k ≤ 16) (hr : ∀ i, i < k → InI (bs i).num ∧ InI (bs i).ty) (w : World) (h : BsL w A k bs) : Calls Tryz.prog 63 #[.slice A k c] w (Ret (.bool (onceB bs k)) w) := by
  have HL := hid h
  have HI := hid hr
  have k1 : (k : Int) ≤ 16 := by omega
  have HK := hid hk
  have hmm := @run_makeMap Tryz.prog
  clear h hr hk
  go_enter Tryz.func63, Tryz.ntmps63
  go_upto_region 2 with fail
  have HE0 : Hid (Ext w ((w.alloc (.map #[] 0)).alloc (.map #[] 0))) := hid (((Mod.refl [] w).alloc _).alloc _)
  have HN0 : Hid (Counts ((w.alloc (.map #[] 0)).alloc (.map #[] 0)) w.heap.size 0 (fun _ => 0)) := hid ((Counts.made w).kept ((Mod.refl [] _).alloc _) (by simp))
  have HT0 : Hid (Counts ((w.alloc (.map #[] 0)).alloc (.map #[] 0)) (w.heap.size + 1) 0 (fun _ => 0)) := hid (by have := Counts.made (w.alloc (.map #[] 0)); simpa using this)
  clear hmm
  generalize (w.alloc (.map #[] 0)).alloc (.map #[] 0) = V at *
  generalize hM : w.heap.size = M at *
  have HM := hid hM
  clear hM
  go_upto_region 3 with fail
  go_loopw [11] (fun s11 wr => ∃ i : Nat, s11 = .int .i64 (i : Int) ∧ Hid (i ≤ k ∧ (∀ j, j < i → dupAt bs j = false) ∧ Ext w wr ∧ Counts wr M i (fun x => cntN bs x i) ∧ Counts wr (M + 1) i (fun x => cntB bs x i))) (fun s11 _ => k - (intOf s11).toNat)
  case atStart => exact ⟨0, rfl, (show Hid _ from ⟨Nat.zero_le _, fun j hj => by omega, HE0.out, HN0.out, HT0.out⟩)⟩
  case round =>
    clear HE0 HN0 HT0
    obtain ⟨i, rfl, hS⟩ := hrel
    rename World => wr
    have i0 : (0 : Int) ≤ (i : Int) := by omega
    by_cases hlt : i < k
    · obtain ⟨b, o, rfl, hb, q0, q1, q2, q3, q4⟩ := HL.out.cells hlt
      have tc : decide (i < k) = true := by simp [hlt]
      have i1 : (i : Int) < (k : Int) := by omega
      have i2 : i ≤ 16 := by have := HK.out; omega
      have HLT := hid hlt
      have u0 : wr.cell? ⟨b, o + i * 5, none⟩ = _ := q0 ⟨wr, hS.out.2.2.1⟩
      have u1 : wr.cell? ⟨b, o + i * 5 + 1, none⟩ = _ := q1 ⟨wr, hS.out.2.2.1⟩
      have u2 : wr.cell? ⟨b, o + i * 5 + 2, none⟩ = _ := q2 ⟨wr, hS.out.2.2.1⟩
      have u3 : wr.cell? ⟨b, o + i * 5 + 3, none⟩ = _ := q3 ⟨wr, hS.out.2.2.1⟩
      have u4 : wr.cell? ⟨b, o + i * 5 + 4, none⟩ = _ := q4 ⟨wr, hS.out.2.2.1⟩
      clear q0 q1 q2 q3 q4
      obtain ⟨hin, hit⟩ := HI.out i hlt
      clear hlt
      go_upto_region 5 with fail
      generalize hW1 : World.alloc wr _ = W1
      have HG1 : Hid (Blk W1 wr.heap.size 31 (BV.c (bs i))) := hid (by rw [← hW1]; exact Blk.new _ _ _)
      have hS1 : Hid (Ext w W1 ∧ Counts W1 M i (fun x => cntN bs x i) ∧ Counts W1 (M + 1) i (fun x => cntB bs x i)) := hid (by
        have h := hS.out.2.2
        rw [← hW1]
        exact ⟨h.1.alloc _, h.2.1.kept (Mod.alloc (S := []) (Mod.refl _ _) _) (by simp), h.2.2.kept (Mod.alloc (S := []) (Mod.refl _ _) _) (by simp)⟩)
      have HGM : Hid (wr.heap.size ≠ M ∧ wr.heap.size ≠ M + 1) := hid ⟨by have := hS.out.2.2.2.1.lt; omega, by have := hS.out.2.2.2.2.lt; omega⟩
      have hno := hS.out.2.1
      have HNO := hid hno
      clear hW1 hS u0 u1 u2 u3 u4 hno
      generalize wr.heap.size = G at *
      have HDA := hid (cntN_dup (bs := bs) (i := i))
      have hUN := cntN_upd bs i
      have hUT := cntB_upd bs i
      have HUN := hid hUN
      have HUT := hid hUT
      clear hUN hUT
      have hn1 := cntN_le bs (bs i).num i
      have hn2 := cntB_le bs (bs i).ty i
      have g0 : W1.cell? ⟨G, 0, none⟩ = some (.int .i64 (bs i).ty) := HG1.out.cell 0
      have g1 : W1.cell? ⟨G, 1, none⟩ = some (.int .i64 (bs i).num) := HG1.out.cell 1
      have hl := hS1.out.2.1.look hin
      try dsimp only at hl
      have hN1 : cntN bs (bs i).num (i + 1) = cntN bs (bs i).num i + 1 := by rw [cntN, if_pos rfl]
      have HN1 := hid hN1
      clear hN1
      obtain ⟨D, hown, hat⟩ := hS1.out.2.1
      have hkey := keyOf3 hin
      have u0 : (0 : Int) ≤ (cntN bs (bs i).num i : Nat) := by omega
      have u1 : ((cntN bs (bs i).num i : Nat) : Int) ≤ 16 := by omega
      have hw1 : (Lit.int .i64 (((cntN bs (bs i).num i : Nat) : Int) + 1)).wf = true := InI.wf (by unfold InI; omega)
      generalize hnn : cntN bs (bs i).num i = n1 at *
      have HNN := hid hnn
      clear hnn hn1
      go_upto_region 6 with (at_mapUpdate; refine wpList_mapUpdate_own _ rfl _ _ _ 131 rfl 3 3 law3 Tryz.underlying131 _ M i _ rfl hown (by unfold maxLen; omega) _ _ _ rfl rfl hkey _ [] (plainElem_int Tryz.underlying3 hw1) ?_; intro w2 hown2 hgrow2)
      have hC2 : Hid (Counts w2 M (i + 1) (fun x => cntN bs x (i + 1))) := hid ((Counts.put (f := fun x => cntN bs x i) hin hown hat (by (try dsimp only); rw [HNN.out]; exact hown2)).congr HUN.out)
      have m2 : Mod [M] W1 w2 := (Mod.refl _ _).grown hgrow2 (fun kk hkk => .inl (by cases hkk; simp))
      have HG2 := hid (HG1.out.mod m2 (by simpa using HGM.out.1))
      have HE2 : Hid (Ext w w2) := hid (Mod.new (S := [M]) (hS1.out.1.of_ext.trans m2) (fun kk hkk => .inr (by have := HM.out; simp at hkk; omega)))
      have hT2 := hS1.out.2.2.kept m2 (by simp)
      clear hl hown hat hown2 hgrow2 m2 g0 g1 hkey hw1 HG1 hS1 u0 u1
      have g0 : w2.cell? ⟨G, 0, none⟩ = some (.int .i64 (bs i).ty) := HG2.out.cell 0
      have hl := hT2.look hit
      try dsimp only at hl
      obtain ⟨D2, hown, hat⟩ := hT2
      have hkey := keyOf3 hit
      have u0 : (0 : Int) ≤ (cntB bs (bs i).ty i : Nat) := by omega
      have u1 : ((cntB bs (bs i).ty i : Nat) : Int) ≤ 16 := by omega
      have hw1 : (Lit.int .i64 (((cntB bs (bs i).ty i : Nat) : Int) + 1)).wf = true := InI.wf (by unfold InI; omega)
      generalize hnn2 : cntB bs (bs i).ty i = n2 at *
      have HNN2 := hid hnn2
      clear hnn2 hn2
      go_upto_region 7 with (at_mapUpdate; refine wpList_mapUpdate_own _ rfl _ _ _ 131 rfl 3 3 law3 Tryz.underlying131 _ (M + 1) i _ rfl hown (by unfold maxLen; omega) _ _ _ rfl rfl hkey _ [] (plainElem_int Tryz.underlying3 hw1) ?_; intro w3 hown3 hgrow3)
      have hC3 : Hid (Counts w3 (M + 1) (i + 1) (fun x => cntB bs x (i + 1))) := hid ((Counts.put (f := fun x => cntB bs x i) hit hown hat (by (try dsimp only); rw [HNN2.out]; exact hown3)).congr HUT.out)
      have m3 : Mod [M + 1] w2 w3 := (Mod.refl _ _).grown hgrow3 (fun kk hkk => .inl (by cases hkk; simp))
      have HG3 := hid (HG2.out.mod m3 (by simpa using HGM.out.2))
      have HE3 : Hid (Ext w w3) := hid (Mod.new (S := [M + 1]) (HE2.out.of_ext.trans m3) (fun kk hkk => .inr (by have := HM.out; simp at hkk; omega)))
      have hC4 := hid (hC2.out.kept m3 (by simp))
      clear hl hown hat hown3 hgrow3 m3 g0 hkey hw1 HG2 HE2 hC2 u0 u1
      have g1 : w3.cell? ⟨G, 1, none⟩ = some (.int .i64 (bs i).num) := HG3.out.cell 1
      have hl := hC4.out.look hin
      try dsimp only at hl
      rw [HN1.out, show ((n1 + 1 : Nat) : Int) = (n1 : Int) + 1 by omega] at hl

      by_cases hd : 1 ≤ n1
      · have HF : Hid (onceB bs k = false) := by
          have h1 : dupAt bs i = true := by rw [HDA.out]; simpa using hd
          have h2 : dupB bs k = true := by unfold dupB; rw [firstOf_some HLT.out h1 HNO.out]; rfl
          unfold Hid onceB; rw [h2]; rfl
        have ta : decide ((1 : Int) < (n1 : Int) + 1) = true := decide_eq_true (by omega)
        have tb : ((1 : Int) < (n1 : Int) + 1) = True := eq_true (by omega)
        have td : decide (1 < n1 + 1) = true := decide_eq_true (by omega)
        have te : (1 < n1 + 1) = True := eq_true (by omega)
        have te2 : (0 < n1) = True := eq_true (by omega)
        clear hd
        go_wp2_with fail
        go_ret
        exact Ret.mk (by rw [HF.out]; rfl) HE3.out
      · obtain rfl : n1 = 0 := by omega
        have HN : Hid (dupAt bs i = false) := hid (by rw [HDA.out]; rfl)
        clear hd
        go_wp2_with fail
        go_roundw
        case rel => exact ⟨i + 1, by go_num, (show Hid _ from ⟨HLT.out, fun j hj => by
          by_cases hji : j = i
          · subst hji; exact HN.out
          · exact HNO.out j (by omega), HE3.out, hC4.out, hC3.out⟩)⟩
        case measure => have := HLT.out; simp [intOf]; omega
    · obtain rfl : i = k := by have := hS.out.1; omega
      have tc : decide (i < i) = false := by simp
      have HD : Hid (dupB bs i = false) := by unfold Hid dupB; rw [firstOf_none hS.out.2.1]; rfl
      have HE := hid hS.out.2.2.1
      have hT := hS.out.2.2.2.2
      have l1 := hT.look (id := 1) (by unfold InI; omega)
      have l6 := hT.look (id := 6) (by unfold InI; omega)
      have l7 := hT.look (id := 7) (by unfold InI; omega)
      have l10 := hT.look (id := 10) (by unfold InI; omega)
      try dsimp only at l1 l6 l7 l10
      have HF : Hid (onceB bs i = (decide (cntB bs 1 i = 1) && decide (cntB bs 6 i < 2) && decide (cntB bs 7 i < 2) && decide (cntB bs 10 i < 2))) := by unfold Hid onceB; rw [HD.out]; rfl
      clear hT hS HD hlt HL
      generalize onceB bs i = R at *
      generalize cntB bs 1 i = n1 at *
      generalize cntB bs 6 i = n6 at *
      generalize cntB bs 7 i = n7 at *
      generalize cntB bs 10 i = n10 at *
      by_cases z1 : n1 = 1
      · subst z1
        have z1 : True := trivial
        by_cases z6 : n6 < 2
        · have HZ6 := hid z6
          have t6a : decide ((n6 : Int) < 2) = true := decide_eq_true (by omega)
          have t6b : ((n6 : Int) < 2) = True := eq_true (by omega)
          have t6na : decide (n6 < 2) = true := decide_eq_true (by omega)
          have t6nb : (n6 < 2) = True := eq_true (by omega)
          clear z6
          by_cases z7 : n7 < 2
          · have HZ7 := hid z7
            have t7a : decide ((n7 : Int) < 2) = true := decide_eq_true (by omega)
            have t7b : ((n7 : Int) < 2) = True := eq_true (by omega)
            have t7na : decide (n7 < 2) = true := decide_eq_true (by omega)
            have t7nb : (n7 < 2) = True := eq_true (by omega)
            clear z7
            by_cases z10 : n10 < 2
            · have HZ10 := hid z10
              have t10a : decide ((n10 : Int) < 2) = true := decide_eq_true (by omega)
              have t10b : ((n10 : Int) < 2) = True := eq_true (by omega)
              have t10na : decide (n10 < 2) = true := decide_eq_true (by omega)
              have t10nb : (n10 < 2) = True := eq_true (by omega)
              clear z10
              go_wp2_with fail
              go_ret
              exact Ret.mk (by rw [HF.out]; simp [HZ6.out, HZ7.out, HZ10.out]) HE.out
            · have HZ10 := hid z10
              have t10a : decide ((n10 : Int) < 2) = false := decide_eq_false (by omega)
              have t10b : ((n10 : Int) < 2) = False := eq_false (by omega)
              have t10na : decide (n10 < 2) = false := decide_eq_false (by omega)
              have t10nb : (n10 < 2) = False := eq_false (by omega)
              clear z10
              go_wp2_with fail
              go_ret
              exact Ret.mk (by rw [HF.out]; simp [HZ6.out, HZ7.out, HZ10.out]) HE.out
          · have HZ7 := hid z7
            have t7a : decide ((n7 : Int) < 2) = false := decide_eq_false (by omega)
            have t7b : ((n7 : Int) < 2) = False := eq_false (by omega)
            have t7na : decide (n7 < 2) = false := decide_eq_false (by omega)
            have t7nb : (n7 < 2) = False := eq_false (by omega)
            clear z7
            go_wp2_with fail
            go_ret
            exact Ret.mk (by rw [HF.out]; simp [HZ6.out, HZ7.out]) HE.out
        · have HZ6 := hid z6
          have t6a : decide ((n6 : Int) < 2) = false := decide_eq_false (by omega)
          have t6b : ((n6 : Int) < 2) = False := eq_false (by omega)
          have t6na : decide (n6 < 2) = false := decide_eq_false (by omega)
          have t6nb : (n6 < 2) = False := eq_false (by omega)
          clear z6
          go_wp2_with fail
          go_ret
          exact Ret.mk (by rw [HF.out]; simp [HZ6.out]) HE.out
      · have HZ1 := hid z1
        have t1a : (((n1 : Int)) == (1)) = false := by rw [beq_eq_false_iff_ne]; omega
        have t1b : (((n1 : Int)) = (1)) = False := eq_false (by omega)
        have t1c : (((n1 : Int)) != (1)) = true := by rw [bne_iff_ne]; omega
        have t1na : ((n1) == (1)) = false := by rw [beq_eq_false_iff_ne]; omega
        have t1nb : ((n1) = (1)) = False := eq_false (by omega)
        have t1nc : ((n1) != (1)) = true := by rw [bne_iff_ne]; omega
        clear z1
        go_wp2_with fail
        go_ret
        exact Ret.mk (by rw [HF.out]; simp [HZ1.out]) HE.out
end Go.Proofs.YtkeabdfgacicaaaGreat


namespace Go.Proofs.YtkeabdfgacicaaaGreat
open Go.RowKit
set_option linter.unusedVariables false
set_option linter.unusedSimpArgs false

def partsR (p : PV) (bs : Nat → BV) (k : Nat) : Int := if p.right ≠ 0 then p.right else match firstOf (badAt bs) k with | some i => (bs i).right | none => 0
theorem cBuildB_any {b : BV} (h : b.right = 0) (w : World) : Calls Tryz.prog 67 #[b.v] w (Ret (.tuple #[str b.bytes, .int .i64 0]) w) := by
  have hz := BV.right_zero h
  obtain ⟨ty, num, e⟩ := bv_nat h
  obtain ⟨crc, e2⟩ : ∃ c : Nat, b.crc = (c : Int) := ⟨b.crc.toNat, by omega⟩
  obtain ⟨bty, bnum, bfl, bcrc, bdata⟩ := b
  simp only [BV.mk.injEq] at e e2
  obtain ⟨rfl, rfl, -⟩ := e
  subst e2
  simpa [BV.bytes] using Build_any ty num bfl crc bdata h w
set_option maxRecDepth 20000 in
theorem parts_p (p : PV) (bs : Nat → BV) (k c : Nat) (A : Option Addr) (hnl : Hid (p.d.name.length < 4611686018427387904 ∧ p.s.name.length < 4611686018427387904 ∧ p.r.name.length < 4611686018427387904)) (hf : p.fl < 18446744073709551616) (hb : p.right ≠ 0) (w : World) (h : BsL w A k bs) : Calls Tryz.prog 44 #[bunV p A k c] w (Ret (.int .i64 p.right) w) := by
  have KP := hid (fun W => cPriRight_any p hnl hf W)
  have HE := hid ((Mod.refl [] w).alloc (.cells (bunC p A k c) 29))
  have HB0 : Hid (Blk (w.alloc (.cells (bunC p A k c) 29)) w.heap.size 29 (bunC p A k c)) := hid (Blk.new w 29 (bunC p A k c))
  generalize p.right = r at *
  have ra : ((r) == (0)) = false := by rw [beq_eq_false_iff_ne]; exact hb
  have rb : ((r) = (0)) = False := eq_false (by exact hb)
  have rc : ((r) != (0)) = true := by rw [bne_iff_ne]; exact hb
  clear hb hf h
  go_enter Tryz.func44, Tryz.ntmps44
  go_upto_region 1 with fail
  generalize (w.alloc (.cells (bunC p A k c) 29)) = V at *
  have HPR : Hid (∀ e : Later V, e.x.rangeAt w.heap.size 0 p.c.toList) := HB0.out.range 0 19 (by rw [Array.toList_extract]; rfl)
  obtain ⟨e, he⟩ := Later.self V
  rw [he]
  clear he
  go_wp2_with (first | (refine wpList_mid (by rfl) 26 _ rfl _ 0 rfl _ _ (HPR.out _) Tryz.underlying26 rfl (by kernel_rfl) ?_) | (go_at_call 59; refine (Ret.later (KP.out _)).mono ?_; rintro x _ ⟨rfl, e, rfl⟩))
  go_ret
  exact Ret.mk rfl (HE.out.trans e.h)
set_option maxRecDepth 20000 in
set_option maxHeartbeats 1600000 in
theorem parts_ok (p : PV) (bs : Nat → BV) (k c : Nat) (A : Option Addr) (hnl : Hid (p.d.name.length < 4611686018427387904 ∧ p.s.name.length < 4611686018427387904 ∧ p.r.name.length < 4611686018427387904)) (hf : p.fl < 18446744073709551616) (hk : k < 4611686018427387904) (hb : p.right = 0) (w : World) (h : BsL w A k bs) : Calls Tryz.prog 44 #[bunV p A k c] w (Ret (.int .i64 (match firstOf (badAt bs) k with | some i => (bs i).right | none => 0)) w) := by
  generalize hRES : (match firstOf (badAt bs) k with | some i => (bs i).right | none => 0) = RES
  have HRES := hid hRES
  clear hRES
  have KP := hid (fun W => cPriRight_any p hnl hf W)
  rw [hb] at KP
  have HE := hid ((Mod.refl [] w).alloc (.cells (bunC p A k c) 29))
  have HB0 : Hid (Blk (w.alloc (.cells (bunC p A k c) 29)) w.heap.size 29 (bunC p A k c)) := hid (Blk.new w 29 (bunC p A k c))
  have HL := hid (BsL.ext h HE.out)
  have k1 : (k : Int) < 4611686018427387904 := by omega
  clear hb hf hk h
  go_enter Tryz.func44, Tryz.ntmps44
  go_upto_region 1 with fail
  generalize (w.alloc (.cells (bunC p A k c) 29)) = V at *
  have HPR : Hid (∀ e : Later V, e.x.rangeAt w.heap.size 0 p.c.toList) := HB0.out.range 0 19 (by rw [Array.toList_extract]; rfl)
  have b19 : ∀ e : Later V, e.x.cell? ⟨w.heap.size, 19, none⟩ = some (.slice A k c) := HB0.out.cellL 19 rfl
  obtain ⟨e, he⟩ := Later.self V
  rw [he]
  clear he
  go_upto_region 5 with (first | (refine wpList_mid (by rfl) 26 _ rfl _ 0 rfl _ _ (HPR.out _) Tryz.underlying26 rfl (by kernel_rfl) ?_) | (go_at_call 59; refine (Ret.later (KP.out _)).mono ?_; rintro x _ ⟨rfl, e, rfl⟩))
  go_loopw [16] (fun s5 wr => ∃ i : Nat, s5 = .int .i64 (i : Int) ∧ Hid (i ≤ k ∧ ∀ j, j < i → badAt bs j = false) ∧ ∃ e : Later V, wr = e.x) (fun s5 _ => k - (intOf s5).toNat)
  case atStart => exact ⟨0, rfl, (show Hid _ from ⟨Nat.zero_le _, fun j hj => by omega⟩), e, rfl⟩
  case round =>
    clear e
    obtain ⟨i, rfl, hi, e, rfl⟩ := hrel
    have i0 : (0 : Int) ≤ (i : Int) := by omega
    by_cases hlt : i < k
    · obtain ⟨b, o, rfl, hb, q0, q1, q2, q3, q4⟩ := HL.out.cells hlt
      have tc : decide (i < k) = true := by simp [hlt]
      have i1 : (i : Int) < (k : Int) := by omega
      have HLT := hid hlt
      have KX := hid (fun W => cbRight_any (bs i) W)
      clear hlt
      by_cases ht : badAt bs i = true
      · have HR : Hid (RES = (bs i).right) := by unfold Hid; rw [← HRES.out, firstOf_some HLT.out ht hi.out.2]
        have hx : (bs i).right ≠ 0 := by simpa [badAt] using ht
        clear ht
        generalize (bs i).right = r at *
        have ra : ((r) == (0)) = false := by rw [beq_eq_false_iff_ne]; exact hx
        have rb : ((r) = (0)) = False := eq_false (by exact hx)
        have rc : ((r) != (0)) = true := by rw [bne_iff_ne]; exact hx
        clear hx
        go_wp2_with (go_at_call 60; refine (Ret.laterW ((Later.h e).alloc _) (KX.out _)).mono ?_; rintro x _ ⟨rfl, e1, rfl⟩)
        go_ret
        exact Ret.mk (by rw [HR.out]; rfl) (HE.out.trans e1.h)
      · have HN : Hid (badAt bs i = false) := by unfold Hid; simpa using ht
        rw [bad_no HN.out] at KX
        clear ht
        go_wp2_with (go_at_call 60; refine (Ret.laterW ((Later.h e).alloc _) (KX.out _)).mono ?_; rintro x _ ⟨rfl, e1, rfl⟩)
        go_roundw
        case rel => exact ⟨i + 1, by go_num, (show Hid _ from ⟨HLT.out, fun j hj => by
          by_cases hji : j = i
          · subst hji; exact HN.out
          · exact hi.out.2 j (by omega)⟩), e1, rfl⟩
        case measure => have := HLT.out; simp [intOf]; omega
    · obtain rfl : i = k := by have := hi.out.1; omega
      have tc : decide (i < i) = false := by simp
      have HR1 : Hid (RES = 0) := by unfold Hid; rw [← HRES.out, firstOf_none hi.out.2]
      go_wp2_with fail
      go_ret
      exact Ret.mk (by rw [HR1.out]; rfl) (HE.out.trans e.h)
theorem bparts_any (p : PV) (bs : Nat → BV) (k c : Nat) (A : Option Addr) (hnl : Hid (p.d.name.length < 4611686018427387904 ∧ p.s.name.length < 4611686018427387904 ∧ p.r.name.length < 4611686018427387904)) (hf : p.fl < 18446744073709551616) (hk : k < 4611686018427387904) (w : World) (h : BsL w A k bs) : Calls Tryz.prog 44 #[bunV p A k c] w (Ret (.int .i64 (partsR p bs k)) w) := by
  unfold partsR
  by_cases hb : p.right = 0
  · rw [if_neg (by simpa using hb)]; exact parts_ok p bs k c A hnl hf hk hb w h
  · rw [if_pos hb]; exact parts_p p bs k c A hnl hf hb w h
set_option maxRecDepth 20000 in
theorem lasts_0 (bs : Nat → BV) (c : Nat) (A : Option Addr) (w : World) : Calls Tryz.prog 62 #[.slice A 0 c] w (Ret (.bool false) w) := by
  go_enter Tryz.func62, Tryz.ntmps62
  go_wp2_with fail
  go_ret
  exact Ret.mk rfl (Mod.refl _ _)
set_option maxRecDepth 20000 in
theorem lasts_S (bs : Nat → BV) (m c : Nat) (A : Option Addr) (hm : m < 4611686018427387904) (w : World) (h : BsL w A (m + 1) bs) : Calls Tryz.prog 62 #[.slice A (m + 1 : Nat) c] w (Ret (.bool (decide ((bs m).ty = 1))) w) := by
  obtain ⟨b, o, rfl, hb, q0, q1, q2, q3, q4⟩ := h.cells (Nat.lt_succ_self m)
  have m0 : (0 : Int) ≤ (m : Int) := by omega
  have m1 : (m : Int) < 4611686018427387904 := by omega
  have u0 : w.cell? ⟨b, o + m * 5, none⟩ = some (.int .i64 (bs m).ty) := q0 ⟨w, Mod.refl _ _⟩
  have tp : decide ((0 : Int) < ((m + 1 : Nat) : Int)) = true := decide_eq_true (by omega)
  have tq : ((0 : Int) < ((m + 1 : Nat) : Int)) = True := eq_true (by omega)
  have tr : decide ((0 : Int) < (m : Int) + 1) = true := decide_eq_true (by omega)
  have ts : ((0 : Int) < (m : Int) + 1) = True := eq_true (by omega)
  clear q0 q1 q2 q3 q4 h hb hm
  generalize (bs m).ty = ty at *
  by_cases ht : ty = 1
  · have HT := hid ht
    have ta : ((ty) == (1)) = true := by rw [beq_iff_eq]; exact ht
    have tb : ((ty) = (1)) = True := eq_true (by exact ht)
    have tc : ((ty) != (1)) = false := by rw [bne_eq_false_iff_eq]; exact ht
    clear ht
    go_enter Tryz.func62, Tryz.ntmps62
    go_wp2_with fail
    go_ret
    exact Ret.mk (by simp [HT.out]) (Mod.refl _ _)
  · have HT := hid ht
    have ta : ((ty) == (1)) = false := by rw [beq_eq_false_iff_ne]; exact ht
    have tb : ((ty) = (1)) = False := eq_false (by exact ht)
    have tc : ((ty) != (1)) = true := by rw [bne_iff_ne]; exact ht
    clear ht
    go_enter Tryz.func62, Tryz.ntmps62
    go_wp2_with fail
    go_ret
    exact Ret.mk (by simp [HT.out]) (Mod.refl _ _)
set_option maxRecDepth 20000 in
set_option maxHeartbeats 800000 in
theorem fits_S (p : PV) (bs : Nat → BV) (m c : Nat) (A : Option Addr) (hm : m < 4611686018427387904) (hf : p.fl < 18446744073709551616) (po : p.o ≤ 1099511627776) (hd : (bs m).data.length ≤ 100000) (w : World) (h : BsL w A (m + 1) bs) : Calls Tryz.prog 64 #[bunV p A (m + 1) c] w (Ret (.bool (!(has p.fl 1 && decide (p.n < p.o + (bs m).data.length)))) w) := by
  have HE := hid ((Mod.refl [] w).alloc (.cells (bunC p A (m + 1) c) 29))
  have HB0 := hid (Blk.new w 29 (bunC p A (m + 1) c))
  have HL := hid (BsL.ext h HE.out)
  obtain ⟨b, o, rfl, hb, q0, q1, q2, q3, q4⟩ := HL.out.cells (Nat.lt_succ_self m)
  have m0 : (0 : Int) ≤ (m : Int) := by omega
  have m1 : (m : Int) < 4611686018427387904 := by omega
  have ld : ((bs m).data.length : Int) ≤ 100000 := by omega
  have po2 : (p.o : Int) ≤ 1099511627776 := by omega
  have HA := hid (u64_and_powP p.fl 0 hf (by omega))
  clear q0 q1 q2 q3 h hb hm HL hd po
  have HRES : Hid (has p.fl 1 = decide (p.fl % 2 = 1)) := by unfold Hid has; simp
  go_enter Tryz.func64, Tryz.ntmps64
  go_upto_region 1 with fail
  generalize w.alloc (.cells (bunC p (some ⟨b, o, none⟩) (m + 1) c) 29) = V at *
  have b19 : V.cell? ⟨w.heap.size, 19, none⟩ = some (.slice (some ⟨b, o, none⟩) (m + 1) c) := HB0.out.cell 19
  have b0 : V.cell? ⟨w.heap.size, 0, none⟩ = some (.int .u64 (p.fl : Int)) := HB0.out.cell 0
  have b17 : V.cell? ⟨w.heap.size, 17, none⟩ = some (.int .u64 (p.o : Int)) := HB0.out.cell 17
  have b18 : V.cell? ⟨w.heap.size, 18, none⟩ = some (.int .u64 (p.n : Int)) := HB0.out.cell 18
  have u4 : V.cell? ⟨b, o + m * 5 + 4, none⟩ = some (str (bs m).data) := q4 ⟨V, Mod.refl _ _⟩
  clear q4
  generalize (bs m).data = dat at *
  generalize p.o = po at *
  generalize p.n = pn at *
  go_upto_region 2 with fail
  by_cases hh : p.fl % 2 = 1
  · have ha : bits .and .u64 (p.fl : Int) 1 = 1 := by have := HA.out; simpa [hh] using this
    have HR : Hid (has p.fl 1 = true) := by unfold Hid; rw [HRES.out]; simpa using hh
    clear hh HA HRES
    by_cases hv : pn < po + dat.length
    · have HV := hid hv
      have va : decide ((po : Int) + (dat.length : Int) ≤ (pn : Int)) = false := decide_eq_false (by omega)
      have vb : ((po : Int) + (dat.length : Int) ≤ (pn : Int)) = False := eq_false (by omega)
      have vc : decide (po + dat.length ≤ pn) = false := decide_eq_false (by omega)
      clear hv
      go_wp2_with fail
      go_ret
      exact Ret.mk (by rw [HR.out]; simp [HV.out]) HE.out
    · have HV := hid hv
      have va : decide ((po : Int) + (dat.length : Int) ≤ (pn : Int)) = true := decide_eq_true (by omega)
      have vb : ((po : Int) + (dat.length : Int) ≤ (pn : Int)) = True := eq_true (by omega)
      have vc : decide (po + dat.length ≤ pn) = true := decide_eq_true (by omega)
      clear hv
      go_wp2_with fail
      go_ret
      exact Ret.mk (by rw [HR.out]; simp [HV.out]) HE.out
  · have ha : bits .and .u64 (p.fl : Int) 1 = 0 := by have := HA.out; simpa [hh] using this
    have HR : Hid (has p.fl 1 = false) := by unfold Hid; rw [HRES.out]; simpa using hh
    clear hh HA HRES
    go_wp2_with fail
    go_ret
    exact Ret.mk (by rw [HR.out]; simp) HE.out
set_option maxRecDepth 20000 in
set_option maxHeartbeats 1600000 in
theorem bbuild_any (p : PV) (bs : Nat → BV) (k c : Nat) (A : Option Addr) (hnl : Hid (p.d.name.length < 4611686018427387904 ∧ p.s.name.length < 4611686018427387904 ∧ p.r.name.length < 4611686018427387904)) (hf : p.fl < 18446744073709551616) (hk : k ≤ 100000) (hp : p.right = 0) (hbs : ∀ i, i < k → (bs i).right = 0) (w : World) (h : BsL w A k bs) : Calls Tryz.prog 46 #[bunV p A k c] w (Ret (str (bunBytes p bs k)) w) := by
  have HE := hid ((Mod.refl [] w).alloc (.cells (bunC p A k c) 29))
  have HB0 : Hid (Blk (w.alloc (.cells (bunC p A k c) 29)) w.heap.size 29 (bunC p A k c)) := hid (Blk.new w 29 (bunC p A k c))
  have HL := hid (BsL.ext h HE.out)
  have k1 : (k : Int) ≤ 100000 := by omega
  have HK := hid hk
  have HBS := hid hbs
  have KP := hid (fun W => cPriBuild_ok p hnl hf hp W)
  have KO4 : Hid (∀ W, Calls Tryz.prog 66 #[.int .i64 4] W (Ret (str [159]) W)) := fun W => by have := open_yes 4 (by rfl) W; rw [show openL ((4 : Nat) : Int) = [159] from by decide] at this; exact this
  have KO7 : Hid (∀ W, Calls Tryz.prog 66 #[.int .i64 7] W (Ret (str [255]) W)) := fun W => by have := open_yes 7 (by rfl) W; rw [show openL ((7 : Nat) : Int) = [255] from by decide] at this; exact this
  have lP : p.bytes.length ≤ 40000 := PV.bytes_length (PV.right_ranged hp)
  have HRes : Hid (bunBytes p bs k = (159 :: p.bytes) ++ blksB bs k ++ [255]) := rfl
  clear h hk hbs hp hf
  generalize p.bytes = PB at *
  generalize bunBytes p bs k = RES at *
  go_enter Tryz.func46, Tryz.ntmps46
  go_upto_region 1 with fail
  generalize (w.alloc (.cells (bunC p A k c) 29)) = V at *
  have HPR : Hid (∀ e : Later V, e.x.rangeAt w.heap.size 0 p.c.toList) := HB0.out.range 0 19 (by rw [Array.toList_extract]; rfl)
  have b19 : ∀ e : Later V, e.x.cell? ⟨w.heap.size, 19, none⟩ = some (.slice A k c) := HB0.out.cellL 19 rfl
  obtain ⟨e, he⟩ := Later.self V
  rw [he]
  clear he
  go_upto_region 4 with (first | (refine wpList_mid (by rfl) 26 _ rfl _ 0 rfl _ _ (HPR.out _) Tryz.underlying26 rfl (by kernel_rfl) ?_) | (go_at_call 65; refine (Ret.later (KP.out _)).mono ?_; rintro x _ ⟨rfl, e, rfl⟩) | (go_at_call 66; refine (Ret.later (KO4.out _)).mono ?_; rintro x _ ⟨rfl, e, rfl⟩))
  go_loopw [3, 21] (fun s3 s4 wr => ∃ i : Nat, s4 = .int .i64 (i : Int) ∧ s3 = str ((159 :: PB) ++ blksB bs i) ∧ Hid (i ≤ k) ∧ ∃ e : Later V, wr = e.x) (fun _ s4 _ => k - (intOf s4).toNat)
  case atStart => exact ⟨0, rfl, by simp only [blksB, List.append_nil]; exact str_app [159] PB, (show Hid _ from Nat.zero_le _), e, rfl⟩
  case round =>
    clear e
    obtain ⟨i, rfl, rfl, hi, e, rfl⟩ := hrel
    have i0 : (0 : Int) ≤ (i : Int) := by omega
    have lX : ((159 :: PB) ++ blksB bs i).length ≤ 200000000000 := by
      have := blksB_length (bs := bs) (k := i) (fun j hj => HBS.out j (by have := hi.out; omega))
      have := hi.out
      have := HK.out
      rw [List.length_append, List.length_cons]
      omega
    by_cases hlt : i < k
    · obtain ⟨b, o, rfl, hb, q0, q1, q2, q3, q4⟩ := HL.out.cells hlt
      have tc : decide (i < k) = true := by simp [hlt]
      have i1 : (i : Int) < (k : Int) := by omega
      have HLT := hid hlt
      have KB := hid (fun W => cBuildB_any (HBS.out i hlt) W)
      have lB := BV.bytes_length (HBS.out i hlt)
      have HC : Hid ((159 :: PB) ++ blksB bs (i + 1) = ((159 :: PB) ++ blksB bs i) ++ (bs i).bytes) := by unfold Hid; rw [blksB, List.append_assoc]
      clear hlt
      generalize (bs i).bytes = BB at *
      generalize (159 :: PB) ++ blksB bs i = X at *
      go_wp2_with (first | (go_at_call 67; refine (Ret.laterW ((Later.h e).alloc _) (KB.out _)).mono ?_; rintro x _ ⟨rfl, e1, rfl⟩) | (refine wpList_cat (by rfl) _ _ _ _ rfl _ _ rfl rfl (by (try simp only [List.length_append, List.length_cons, List.length_nil]); omega) ?_))
      go_roundw
      case rel => exact ⟨i + 1, by go_num, by (rw [HC.out]) <;> exact str_app _ _, (show Hid _ from HLT.out), e1, rfl⟩
      case measure => have := HLT.out; simp [intOf]; omega
    · obtain rfl : i = k := by have := hi.out; omega
      have tc : decide (i < i) = false := by simp
      generalize (159 :: PB) ++ blksB bs i = X at *
      go_wp2_with (first | (go_at_call 66; refine (Ret.later (KO7.out _)).mono ?_; rintro x _ ⟨rfl, e, rfl⟩) | (refine wpList_cat (by rfl) _ _ X [255] rfl _ _ rfl rfl (by simp only [List.length_cons, List.length_nil]; omega) ?_))
      go_ret
      exact Ret.mk (by rw [HRes.out]; rfl) (HE.out.trans e.h)
end Go.Proofs.YtkeabdfgacicaaaGreat
