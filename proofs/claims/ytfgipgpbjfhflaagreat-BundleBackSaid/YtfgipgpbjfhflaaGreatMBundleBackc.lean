/-
 Primaries: flags; why one is not right, as the reference tells it.
 Primaries: why one is not right, as the code tells it.
 A row of items of the call's own: its form, in a later world; what is appended to it.
 Items in memory, with room for as many as they are.
-/
import Derived.Test.YtfgipgpbjfhflaaGreatMBundleBackb
import Derived.Laws.BitsAllLaws
import Derived.Laws.OwnMore
import Derived.OwnWalk
import Derived.OneCell

namespace Go.Proofs.YtfgipgpbjfhflaaGreat
open Go.RowKit
set_option linter.unusedVariables false
set_option linter.unusedSimpArgs false

theorem quo_remP {f c x : Nat} (hf : f < 18446744073709551616) (h : f / c % 2 = x) : (IntKind.u64.wrap ((f : Int) / (c : Int))).tmod 2 = (x : Int) := by
 have h1 : (f : Int) / (c : Int) = ((f / c : Nat) : Int) := by simp
 have h2 : f / c ≤ f := Nat.div_le_self _ _
 rw [h1]
 generalize f / c = y at *
 rw [IntWalk.u64_in _ (by omega), Int.tmod_eq_emod_of_nonneg (by omega)]
 omega
def has (f c : Nat) : Bool := decide (f / c % 2 = 1)
set_option maxRecDepth 20000 in
theorem Has_any (f c : Nat) (hf : f < 18446744073709551616) (hc : 0 < c) (hc2 : c < 1000000) (w : World) : Calls Tryz.prog 17 #[.int .u64 (f : Int), .int .i64 (c : Int)] w (Ret (.bool (has f c)) w) := by
 have f0 : (0 : Int) ≤ (f : Int) := by omega
 have c0 : (0 : Int) ≤ (c : Int) := by omega
 have c1 : (c : Int) ≤ 1000000 := by omega
 have t1 : IntKind.u64.wrap (c : Int) = (c : Int) := IntWalk.u64_in _ (by omega)
 have z1 : ((c : Int) == 0) = false := by simp; omega
 have z2 : ((c : Int) = 0) = False := by simp; omega
 have z3 : (c = 0) = False := by simp; omega
 have hx : f / c % 2 = 0 ∨ f / c % 2 = 1 := by omega
 rcases hx with hx | hx
 ·
  have a1 := quo_remP hf hx
  have HV : Hid (has f c = false) := by unfold Hid has; simp [hx]
  clear hx hf hc hc2
  go_enter Tryz.func17, Tryz.ntmps17
  go_wp2
  go_ret
  exact Ret.mk (by rw [HV.out]; simp) (Mod.refl _ _)
 ·
  have a1 := quo_remP hf hx
  have HV : Hid (has f c = true) := by unfold Hid has; simp [hx]
  clear hx hf hc hc2
  go_enter Tryz.func17, Tryz.ntmps17
  go_wp2
  go_ret
  exact Ret.mk (by rw [HV.out]; simp) (Mod.refl _ _)
set_option maxRecDepth 20000 in
set_option maxHeartbeats 1600000 in
theorem r11Right_any (p : PV) (hf : p.fl < 18446744073709551616) (w : World) : Calls Tryz.prog 13 #[.agg p.c] w (Ret (.int .i64 p.right) w) := by
 have KD := hid (fun W => r10_any p.d W)
 have KS := hid (fun W => r10_any p.s W)
 have KR := hid (fun W => r10_any p.r W)
 have H1 : Hid (∀ W, Calls Tryz.prog 17 #[.int .u64 (p.fl : Int), .int .i64 1] W (Ret (.bool (has p.fl 1)) W)) := fun W => Has_any p.fl 1 hf (by omega) (by omega) W
 have H2 : Hid (∀ W, Calls Tryz.prog 17 #[.int .u64 (p.fl : Int), .int .i64 2] W (Ret (.bool (has p.fl 2)) W)) := fun W => Has_any p.fl 2 hf (by omega) (by omega) W
 have H4 : Hid (∀ W, Calls Tryz.prog 17 #[.int .u64 (p.fl : Int), .int .i64 4] W (Ret (.bool (has p.fl 4)) W)) := fun W => Has_any p.fl 4 hf (by omega) (by omega) W
 have HH : Hid (∀ W, Calls Tryz.prog 17 #[.int .u64 (p.fl : Int), .int .i64 16384] W (Ret (.bool (has p.fl 16384)) W)) := fun W => Has_any p.fl 16384 hf (by omega) (by omega) W
 have HG : Hid (∀ W, Calls Tryz.prog 17 #[.int .u64 (p.fl : Int), .int .i64 262144] W (Ret (.bool (has p.fl 262144)) W)) := fun W => Has_any p.fl 262144 hf (by omega) (by omega) W
 have HE := hid ((Mod.refl [] w).alloc (.cells p.c 26))
 have HB := hid (Blk.new w 26 p.c)
 have f0 : (0 : Int) ≤ (p.fl : Int) := by omega
 clear hf
 go_enter Tryz.func13, Tryz.ntmps13
 go_upto_region 1 with fail
 generalize w.alloc (.cells p.c 26) = V at *
 have b0 : ∀ e : Later V, e.x.cell? ⟨w.heap.size, 0, none⟩ = some (.int .u64 (p.fl : Int)) := HB.out.cellL 0 rfl
 have b1 : ∀ e : Later V, e.x.cell? ⟨w.heap.size, 1, none⟩ = some (.int .i64 p.crc) := HB.out.cellL 1 rfl
 have b2 : ∀ e : Later V, e.x.cell? ⟨w.heap.size, 2, none⟩ = some (.int .i64 p.d.sch) := HB.out.cellL 2 rfl
 have b3 : ∀ e : Later V, e.x.cell? ⟨w.heap.size, 3, none⟩ = some (str p.d.name) := HB.out.cellL 3 rfl
 have b4 : ∀ e : Later V, e.x.cell? ⟨w.heap.size, 4, none⟩ = some (.int .u64 (p.d.node : Int)) := HB.out.cellL 4 rfl
 have b5 : ∀ e : Later V, e.x.cell? ⟨w.heap.size, 5, none⟩ = some (.int .u64 (p.d.svc : Int)) := HB.out.cellL 5 rfl
 have b6 : ∀ e : Later V, e.x.cell? ⟨w.heap.size, 6, none⟩ = some (.int .i64 p.s.sch) := HB.out.cellL 6 rfl
 have b7 : ∀ e : Later V, e.x.cell? ⟨w.heap.size, 7, none⟩ = some (str p.s.name) := HB.out.cellL 7 rfl
 have b8 : ∀ e : Later V, e.x.cell? ⟨w.heap.size, 8, none⟩ = some (.int .u64 (p.s.node : Int)) := HB.out.cellL 8 rfl
 have b9 : ∀ e : Later V, e.x.cell? ⟨w.heap.size, 9, none⟩ = some (.int .u64 (p.s.svc : Int)) := HB.out.cellL 9 rfl
 have b10 : ∀ e : Later V, e.x.cell? ⟨w.heap.size, 10, none⟩ = some (.int .i64 p.r.sch) := HB.out.cellL 10 rfl
 have b11 : ∀ e : Later V, e.x.cell? ⟨w.heap.size, 11, none⟩ = some (str p.r.name) := HB.out.cellL 11 rfl
 have b12 : ∀ e : Later V, e.x.cell? ⟨w.heap.size, 12, none⟩ = some (.int .u64 (p.r.node : Int)) := HB.out.cellL 12 rfl
 have b13 : ∀ e : Later V, e.x.cell? ⟨w.heap.size, 13, none⟩ = some (.int .u64 (p.r.svc : Int)) := HB.out.cellL 13 rfl
 have b14 : ∀ e : Later V, e.x.cell? ⟨w.heap.size, 14, none⟩ = some (.int .u64 (p.t : Int)) := HB.out.cellL 14 rfl
 have b15 : ∀ e : Later V, e.x.cell? ⟨w.heap.size, 15, none⟩ = some (.int .u64 (p.q : Int)) := HB.out.cellL 15 rfl
 have b16 : ∀ e : Later V, e.x.cell? ⟨w.heap.size, 16, none⟩ = some (.int .u64 (p.l : Int)) := HB.out.cellL 16 rfl
 have b17 : ∀ e : Later V, e.x.cell? ⟨w.heap.size, 17, none⟩ = some (.int .u64 (p.o : Int)) := HB.out.cellL 17 rfl
 have b18 : ∀ e : Later V, e.x.cell? ⟨w.heap.size, 18, none⟩ = some (.int .u64 (p.n : Int)) := HB.out.cellL 18 rfl
 obtain ⟨e, he0⟩ := Later.self V
 rw [he0]
 clear he0
 cases hx : p.d.ok with
 | false =>
  rw [hx] at KD
  have HR : Hid (p.ranged = false) := by unfold Hid PV.ranged; simp [hx]
  clear hx
  have HS : Hid (p.right = 1) := by
   unfold Hid PV.right
   rw [if_pos HR.out]
  go_wp2_with (first | (go_at_call 25; first | ((with_reducible refine (Ret.later (KD.out _)).mono ?_); rintro x _ ⟨rfl, e, rfl⟩) | ((with_reducible refine (Ret.later (KS.out _)).mono ?_); rintro x _ ⟨rfl, e, rfl⟩) | ((with_reducible refine (Ret.later (KR.out _)).mono ?_); rintro x _ ⟨rfl, e, rfl⟩)) | (go_at_call 17; first | ((with_reducible refine (Ret.later (H1.out _)).mono ?_); rintro x _ ⟨rfl, e, rfl⟩) | ((with_reducible refine (Ret.later (H2.out _)).mono ?_); rintro x _ ⟨rfl, e, rfl⟩) | ((with_reducible refine (Ret.later (H4.out _)).mono ?_); rintro x _ ⟨rfl, e, rfl⟩) | ((with_reducible refine (Ret.later (HH.out _)).mono ?_); rintro x _ ⟨rfl, e, rfl⟩) | ((with_reducible refine (Ret.later (HG.out _)).mono ?_); rintro x _ ⟨rfl, e, rfl⟩)))
  go_ret
  exact Ret.mk (by rw [HS.out]; rfl) (HE.out.trans e.h)
 | true =>
  rw [hx] at KD
  have Xd := hid hx
  clear hx
  cases hx : p.s.ok with
  | false =>
   rw [hx] at KS
   have HR : Hid (p.ranged = false) := by unfold Hid PV.ranged; simp [hx]
   clear hx
   have HS : Hid (p.right = 1) := by
    unfold Hid PV.right
    rw [if_pos HR.out]
   go_wp2_with (first | (go_at_call 25; first | ((with_reducible refine (Ret.later (KD.out _)).mono ?_); rintro x _ ⟨rfl, e, rfl⟩) | ((with_reducible refine (Ret.later (KS.out _)).mono ?_); rintro x _ ⟨rfl, e, rfl⟩) | ((with_reducible refine (Ret.later (KR.out _)).mono ?_); rintro x _ ⟨rfl, e, rfl⟩)) | (go_at_call 17; first | ((with_reducible refine (Ret.later (H1.out _)).mono ?_); rintro x _ ⟨rfl, e, rfl⟩) | ((with_reducible refine (Ret.later (H2.out _)).mono ?_); rintro x _ ⟨rfl, e, rfl⟩) | ((with_reducible refine (Ret.later (H4.out _)).mono ?_); rintro x _ ⟨rfl, e, rfl⟩) | ((with_reducible refine (Ret.later (HH.out _)).mono ?_); rintro x _ ⟨rfl, e, rfl⟩) | ((with_reducible refine (Ret.later (HG.out _)).mono ?_); rintro x _ ⟨rfl, e, rfl⟩)))
   go_ret
   exact Ret.mk (by rw [HS.out]; rfl) (HE.out.trans e.h)
  | true =>
   rw [hx] at KS
   have Xs := hid hx
   clear hx
   cases hx : p.r.ok with
   | false =>
    rw [hx] at KR
    have HR : Hid (p.ranged = false) := by unfold Hid PV.ranged; simp [hx]
    clear hx
    have HS : Hid (p.right = 1) := by
     unfold Hid PV.right
     rw [if_pos HR.out]
    go_wp2_with (first | (go_at_call 25; first | ((with_reducible refine (Ret.later (KD.out _)).mono ?_); rintro x _ ⟨rfl, e, rfl⟩) | ((with_reducible refine (Ret.later (KS.out _)).mono ?_); rintro x _ ⟨rfl, e, rfl⟩) | ((with_reducible refine (Ret.later (KR.out _)).mono ?_); rintro x _ ⟨rfl, e, rfl⟩)) | (go_at_call 17; first | ((with_reducible refine (Ret.later (H1.out _)).mono ?_); rintro x _ ⟨rfl, e, rfl⟩) | ((with_reducible refine (Ret.later (H2.out _)).mono ?_); rintro x _ ⟨rfl, e, rfl⟩) | ((with_reducible refine (Ret.later (H4.out _)).mono ?_); rintro x _ ⟨rfl, e, rfl⟩) | ((with_reducible refine (Ret.later (HH.out _)).mono ?_); rintro x _ ⟨rfl, e, rfl⟩) | ((with_reducible refine (Ret.later (HG.out _)).mono ?_); rintro x _ ⟨rfl, e, rfl⟩)))
    go_ret
    exact Ret.mk (by rw [HS.out]; rfl) (HE.out.trans e.h)
   | true =>
    rw [hx] at KR
    have Xr := hid hx
    clear hx
    by_cases hx : p.crc < 0
    ·
     have ua : decide (p.crc < 0) = true := decide_eq_true (by omega)
     have ub : (p.crc < 0) = True := eq_true (by omega)
     have HR : Hid (p.ranged = false) := by unfold Hid PV.ranged; simp; omega
     clear hx
     have HS : Hid (p.right = 1) := by
      unfold Hid PV.right
      rw [if_pos HR.out]
     go_wp2_with (first | (go_at_call 25; first | ((with_reducible refine (Ret.later (KD.out _)).mono ?_); rintro x _ ⟨rfl, e, rfl⟩) | ((with_reducible refine (Ret.later (KS.out _)).mono ?_); rintro x _ ⟨rfl, e, rfl⟩) | ((with_reducible refine (Ret.later (KR.out _)).mono ?_); rintro x _ ⟨rfl, e, rfl⟩)) | (go_at_call 17; first | ((with_reducible refine (Ret.later (H1.out _)).mono ?_); rintro x _ ⟨rfl, e, rfl⟩) | ((with_reducible refine (Ret.later (H2.out _)).mono ?_); rintro x _ ⟨rfl, e, rfl⟩) | ((with_reducible refine (Ret.later (H4.out _)).mono ?_); rintro x _ ⟨rfl, e, rfl⟩) | ((with_reducible refine (Ret.later (HH.out _)).mono ?_); rintro x _ ⟨rfl, e, rfl⟩) | ((with_reducible refine (Ret.later (HG.out _)).mono ?_); rintro x _ ⟨rfl, e, rfl⟩)))
     go_ret
     exact Ret.mk (by rw [HS.out]; rfl) (HE.out.trans e.h)
    have ua : decide (p.crc < 0) = false := decide_eq_false (by omega)
    have ub : (p.crc < 0) = False := eq_false (by omega)
    have X1 := hid hx
    clear hx
    by_cases hx : 2 < p.crc
    ·
     have va : decide (2 < p.crc) = true := decide_eq_true (by omega)
     have vb : (2 < p.crc) = True := eq_true (by omega)
     have HR : Hid (p.ranged = false) := by unfold Hid PV.ranged; simp; omega
     clear hx
     have HS : Hid (p.right = 1) := by
      unfold Hid PV.right
      rw [if_pos HR.out]
     go_wp2_with (first | (go_at_call 25; first | ((with_reducible refine (Ret.later (KD.out _)).mono ?_); rintro x _ ⟨rfl, e, rfl⟩) | ((with_reducible refine (Ret.later (KS.out _)).mono ?_); rintro x _ ⟨rfl, e, rfl⟩) | ((with_reducible refine (Ret.later (KR.out _)).mono ?_); rintro x _ ⟨rfl, e, rfl⟩)) | (go_at_call 17; first | ((with_reducible refine (Ret.later (H1.out _)).mono ?_); rintro x _ ⟨rfl, e, rfl⟩) | ((with_reducible refine (Ret.later (H2.out _)).mono ?_); rintro x _ ⟨rfl, e, rfl⟩) | ((with_reducible refine (Ret.later (H4.out _)).mono ?_); rintro x _ ⟨rfl, e, rfl⟩) | ((with_reducible refine (Ret.later (HH.out _)).mono ?_); rintro x _ ⟨rfl, e, rfl⟩) | ((with_reducible refine (Ret.later (HG.out _)).mono ?_); rintro x _ ⟨rfl, e, rfl⟩)))
     go_ret
     exact Ret.mk (by rw [HS.out]; rfl) (HE.out.trans e.h)
    have va : decide (2 < p.crc) = false := decide_eq_false (by omega)
    have vb : (2 < p.crc) = False := eq_false (by omega)
    have X2 := hid hx
    clear hx
    by_cases hx : 2097152 ≤ p.fl
    ·
     have xa : decide ((2097152 : Int) ≤ (p.fl : Int)) = true := decide_eq_true (by omega)
     have xb : ((2097152 : Int) ≤ (p.fl : Int)) = True := eq_true (by omega)
     have HR : Hid (p.ranged = false) := by unfold Hid PV.ranged; simp; omega
     clear hx
     have HS : Hid (p.right = 1) := by
      unfold Hid PV.right
      rw [if_pos HR.out]
     go_wp2_with (first | (go_at_call 25; first | ((with_reducible refine (Ret.later (KD.out _)).mono ?_); rintro x _ ⟨rfl, e, rfl⟩) | ((with_reducible refine (Ret.later (KS.out _)).mono ?_); rintro x _ ⟨rfl, e, rfl⟩) | ((with_reducible refine (Ret.later (KR.out _)).mono ?_); rintro x _ ⟨rfl, e, rfl⟩)) | (go_at_call 17; first | ((with_reducible refine (Ret.later (H1.out _)).mono ?_); rintro x _ ⟨rfl, e, rfl⟩) | ((with_reducible refine (Ret.later (H2.out _)).mono ?_); rintro x _ ⟨rfl, e, rfl⟩) | ((with_reducible refine (Ret.later (H4.out _)).mono ?_); rintro x _ ⟨rfl, e, rfl⟩) | ((with_reducible refine (Ret.later (HH.out _)).mono ?_); rintro x _ ⟨rfl, e, rfl⟩) | ((with_reducible refine (Ret.later (HG.out _)).mono ?_); rintro x _ ⟨rfl, e, rfl⟩)))
     go_ret
     exact Ret.mk (by rw [HS.out]; rfl) (HE.out.trans e.h)
    have xa : decide ((2097152 : Int) ≤ (p.fl : Int)) = false := decide_eq_false (by omega)
    have xb : ((2097152 : Int) ≤ (p.fl : Int)) = False := eq_false (by omega)
    have X3 := hid hx
    clear hx
    go_upto_region 4 with (first | (go_at_call 25; first | ((with_reducible refine (Ret.later (KD.out _)).mono ?_); rintro x _ ⟨rfl, e, rfl⟩) | ((with_reducible refine (Ret.later (KS.out _)).mono ?_); rintro x _ ⟨rfl, e, rfl⟩) | ((with_reducible refine (Ret.later (KR.out _)).mono ?_); rintro x _ ⟨rfl, e, rfl⟩)) | (go_at_call 17; first | ((with_reducible refine (Ret.later (H1.out _)).mono ?_); rintro x _ ⟨rfl, e, rfl⟩) | ((with_reducible refine (Ret.later (H2.out _)).mono ?_); rintro x _ ⟨rfl, e, rfl⟩) | ((with_reducible refine (Ret.later (H4.out _)).mono ?_); rintro x _ ⟨rfl, e, rfl⟩) | ((with_reducible refine (Ret.later (HH.out _)).mono ?_); rintro x _ ⟨rfl, e, rfl⟩) | ((with_reducible refine (Ret.later (HG.out _)).mono ?_); rintro x _ ⟨rfl, e, rfl⟩)))
    have HA := hid (Blk.new e.x 58 #[.int .u64 (p.t : Int), .int .u64 (p.q : Int), .int .u64 (p.l : Int), .int .u64 (p.o : Int), .int .u64 (p.n : Int)])
    have HB2 := hid ((HB.out.later e).alloc (.cells #[.int .u64 (p.t : Int), .int .u64 (p.q : Int), .int .u64 (p.l : Int), .int .u64 (p.o : Int), .int .u64 (p.n : Int)] 58))
    have HE2 := hid ((HE.out.trans e.h).alloc (.cells #[.int .u64 (p.t : Int), .int .u64 (p.q : Int), .int .u64 (p.l : Int), .int .u64 (p.o : Int), .int .u64 (p.n : Int)] 58))
    clear b0 b1 b2 b3 b4 b5 b6 b7 b8 b9 b10 b11 b12 b13 b14 b15 b16 b17 b18 HB HE ua ub va vb xa xb
    generalize e.x.alloc (.cells #[.int .u64 (p.t : Int), .int .u64 (p.q : Int), .int .u64 (p.l : Int), .int .u64 (p.o : Int), .int .u64 (p.n : Int)] 58) = V2 at *
    generalize e.x.heap.size = G at *
    clear e
    have b0 : ∀ e : Later V2, e.x.cell? ⟨w.heap.size, 0, none⟩ = some (.int .u64 (p.fl : Int)) := HB2.out.cellL 0 rfl
    have b1 : ∀ e : Later V2, e.x.cell? ⟨w.heap.size, 1, none⟩ = some (.int .i64 p.crc) := HB2.out.cellL 1 rfl
    have b2 : ∀ e : Later V2, e.x.cell? ⟨w.heap.size, 2, none⟩ = some (.int .i64 p.d.sch) := HB2.out.cellL 2 rfl
    have b3 : ∀ e : Later V2, e.x.cell? ⟨w.heap.size, 3, none⟩ = some (str p.d.name) := HB2.out.cellL 3 rfl
    have b4 : ∀ e : Later V2, e.x.cell? ⟨w.heap.size, 4, none⟩ = some (.int .u64 (p.d.node : Int)) := HB2.out.cellL 4 rfl
    have b5 : ∀ e : Later V2, e.x.cell? ⟨w.heap.size, 5, none⟩ = some (.int .u64 (p.d.svc : Int)) := HB2.out.cellL 5 rfl
    have b6 : ∀ e : Later V2, e.x.cell? ⟨w.heap.size, 6, none⟩ = some (.int .i64 p.s.sch) := HB2.out.cellL 6 rfl
    have b7 : ∀ e : Later V2, e.x.cell? ⟨w.heap.size, 7, none⟩ = some (str p.s.name) := HB2.out.cellL 7 rfl
    have b8 : ∀ e : Later V2, e.x.cell? ⟨w.heap.size, 8, none⟩ = some (.int .u64 (p.s.node : Int)) := HB2.out.cellL 8 rfl
    have b9 : ∀ e : Later V2, e.x.cell? ⟨w.heap.size, 9, none⟩ = some (.int .u64 (p.s.svc : Int)) := HB2.out.cellL 9 rfl
    have b10 : ∀ e : Later V2, e.x.cell? ⟨w.heap.size, 10, none⟩ = some (.int .i64 p.r.sch) := HB2.out.cellL 10 rfl
    have b11 : ∀ e : Later V2, e.x.cell? ⟨w.heap.size, 11, none⟩ = some (str p.r.name) := HB2.out.cellL 11 rfl
    have b12 : ∀ e : Later V2, e.x.cell? ⟨w.heap.size, 12, none⟩ = some (.int .u64 (p.r.node : Int)) := HB2.out.cellL 12 rfl
    have b13 : ∀ e : Later V2, e.x.cell? ⟨w.heap.size, 13, none⟩ = some (.int .u64 (p.r.svc : Int)) := HB2.out.cellL 13 rfl
    have b14 : ∀ e : Later V2, e.x.cell? ⟨w.heap.size, 14, none⟩ = some (.int .u64 (p.t : Int)) := HB2.out.cellL 14 rfl
    have b15 : ∀ e : Later V2, e.x.cell? ⟨w.heap.size, 15, none⟩ = some (.int .u64 (p.q : Int)) := HB2.out.cellL 15 rfl
    have b16 : ∀ e : Later V2, e.x.cell? ⟨w.heap.size, 16, none⟩ = some (.int .u64 (p.l : Int)) := HB2.out.cellL 16 rfl
    have b17 : ∀ e : Later V2, e.x.cell? ⟨w.heap.size, 17, none⟩ = some (.int .u64 (p.o : Int)) := HB2.out.cellL 17 rfl
    have b18 : ∀ e : Later V2, e.x.cell? ⟨w.heap.size, 18, none⟩ = some (.int .u64 (p.n : Int)) := HB2.out.cellL 18 rfl
    go_wp2_with fail
    obtain ⟨e0, he0⟩ := Later.self V2
    have HAJ : Hid (∀ (e : Later V2) (i : Nat), i < 5 → e.x.cell? ⟨G, i, none⟩ = some (.int .u64 ((([p.t, p.q, p.l, p.o, p.n][i]?).getD 0 : Nat) : Int))) := fun e i hi => by
     rw [(HA.out.later e).cell i]
     match i, hi with
     | 0, _ => rfl
     | 1, _ => rfl
     | 2, _ => rfl
     | 3, _ => rfl
     | 4, _ => rfl
    go_loopw [4] (fun s4 wr => ∃ i : Nat, s4 = .int .i64 (i : Int) ∧ Hid (i ≤ 5 ∧ ∀ j, j < i → ([p.t, p.q, p.l, p.o, p.n][j]?).getD 0 ≤ 1099511627776) ∧ ∃ e : Later V2, wr = e.x) (fun s4 _ => 5 - (intOf s4).toNat)
    case atStart => exact ⟨0, rfl, (show Hid _ from ⟨by omega, fun j hj => by omega⟩), e0, he0⟩
    case round =>
     clear he0 e0
     obtain ⟨i, rfl, hi, e, rfl⟩ := hrel
     have i0 : (0 : Int) ≤ (i : Int) := by omega
     have i5 : (i : Int) ≤ 5 := by have := hi.out.1; omega
     by_cases hlt : i < 5
     ·
      have tc : decide ((i : Int) < 5) = true := decide_eq_true (by omega)
      have i1 : (i : Int) < 5 := by omega
      have HJ := fun e => HAJ.out e i hlt
      obtain ⟨x, hx⟩ : ∃ x, ([p.t, p.q, p.l, p.o, p.n][i]?).getD 0 = x := ⟨_, rfl⟩
      rw [hx] at HJ
      have HX := hid hx
      have HLT := hid hlt
      clear hx hlt
      by_cases hx : 1099511627776 < x
      ·
       have ya : decide ((1099511627776 : Int) < (x : Int)) = true := decide_eq_true (by omega)
       have yb : ((1099511627776 : Int) < (x : Int)) = True := eq_true (by omega)
       have HR : Hid (p.ranged = false) := by
        unfold Hid PV.ranged
        have h5 := HLT.out
        have hX := HX.out
        match i, h5 with
        | 0, _ => have hX : p.t = x := hX; simp; omega
        | 1, _ => have hX : p.q = x := hX; simp; omega
        | 2, _ => have hX : p.l = x := hX; simp; omega
        | 3, _ => have hX : p.o = x := hX; simp; omega
        | 4, _ => have hX : p.n = x := hX; simp; omega
       clear hx
       have HS : Hid (p.right = 1) := by
        unfold Hid PV.right
        rw [if_pos HR.out]
       go_wp2_with (first | (go_at_call 25; first | ((with_reducible refine (Ret.later (KD.out _)).mono ?_); rintro x _ ⟨rfl, e, rfl⟩) | ((with_reducible refine (Ret.later (KS.out _)).mono ?_); rintro x _ ⟨rfl, e, rfl⟩) | ((with_reducible refine (Ret.later (KR.out _)).mono ?_); rintro x _ ⟨rfl, e, rfl⟩)) | (go_at_call 17; first | ((with_reducible refine (Ret.later (H1.out _)).mono ?_); rintro x _ ⟨rfl, e, rfl⟩) | ((with_reducible refine (Ret.later (H2.out _)).mono ?_); rintro x _ ⟨rfl, e, rfl⟩) | ((with_reducible refine (Ret.later (H4.out _)).mono ?_); rintro x _ ⟨rfl, e, rfl⟩) | ((with_reducible refine (Ret.later (HH.out _)).mono ?_); rintro x _ ⟨rfl, e, rfl⟩) | ((with_reducible refine (Ret.later (HG.out _)).mono ?_); rintro x _ ⟨rfl, e, rfl⟩)))
       go_ret
       exact Ret.mk (by rw [HS.out]; rfl) (HE2.out.trans e.h)
      ·
       have ya : decide ((1099511627776 : Int) < (x : Int)) = false := decide_eq_false (by omega)
       have yb : ((1099511627776 : Int) < (x : Int)) = False := eq_false (by omega)
       have HN := hid hx
       clear hx
       go_wp2_with fail
       go_roundw
       case rel => exact ⟨i + 1, by go_num, (show Hid _ from ⟨HLT.out, fun j hj => by
        by_cases hji : j = i
        · subst hji; rw [HX.out]; have := HN.out; omega
        · exact hi.out.2 j (by omega)⟩), e, rfl⟩
       case measure => have := HLT.out; simp [intOf]; omega
     ·
      obtain rfl : i = 5 := by have := hi.out.1; omega
      have HR : Hid (p.ranged = true) := by
       have h := hi.out.2
       have a0 : p.t ≤ _ := h 0 (by omega)
       have a1 : p.q ≤ _ := h 1 (by omega)
       have a2 : p.l ≤ _ := h 2 (by omega)
       have a3 : p.o ≤ _ := h 3 (by omega)
       have a4 : p.n ≤ _ := h 4 (by omega)
       have := X1.out; have := X2.out; have := X3.out
       unfold Hid PV.ranged
       rw [Xd.out, Xs.out, Xr.out]
       simp; omega
      have HE := HE2
      clear hlt HAJ i0 i5 hi
      have HTB : Hid ((has p.fl 16384 || has p.fl 262144) = true ↔ (p.fl / 16384 % 2 = 1 ∨ p.fl / 262144 % 2 = 1)) := by unfold Hid has; simp
      cases hx1 : has p.fl 1 with
      | true =>
       rw [hx1] at H1
       have F1 : Hid (p.fl % 2 = 1) := by unfold has at hx1; unfold Hid; simpa using hx1
       clear hx1
       go_upto_region 10 with (first | (go_at_call 25; first | ((with_reducible refine (Ret.later (KD.out _)).mono ?_); rintro x _ ⟨rfl, e, rfl⟩) | ((with_reducible refine (Ret.later (KS.out _)).mono ?_); rintro x _ ⟨rfl, e, rfl⟩) | ((with_reducible refine (Ret.later (KR.out _)).mono ?_); rintro x _ ⟨rfl, e, rfl⟩)) | (go_at_call 17; first | ((with_reducible refine (Ret.later (H1.out _)).mono ?_); rintro x _ ⟨rfl, e, rfl⟩) | ((with_reducible refine (Ret.later (H2.out _)).mono ?_); rintro x _ ⟨rfl, e, rfl⟩) | ((with_reducible refine (Ret.later (H4.out _)).mono ?_); rintro x _ ⟨rfl, e, rfl⟩) | ((with_reducible refine (Ret.later (HH.out _)).mono ?_); rintro x _ ⟨rfl, e, rfl⟩) | ((with_reducible refine (Ret.later (HG.out _)).mono ?_); rintro x _ ⟨rfl, e, rfl⟩)))
       go_cut [6] (fun s6 wx => s6 = .bool (has p.fl 16384 || has p.fl 262144) ∧ ∃ e : Later V2, wx = e.x)
       case first =>
        cases h1 : has p.fl 16384
        all_goals rw [h1] at HH
        all_goals cases h2 : has p.fl 262144
        all_goals rw [h2] at HG
        all_goals have Q1 := hid h1
        all_goals have Q2 := hid h2
        all_goals clear h1 h2
        all_goals go_wp2_with (first | (go_at_call 25; first | ((with_reducible refine (Ret.later (KD.out _)).mono ?_); rintro x _ ⟨rfl, e, rfl⟩) | ((with_reducible refine (Ret.later (KS.out _)).mono ?_); rintro x _ ⟨rfl, e, rfl⟩) | ((with_reducible refine (Ret.later (KR.out _)).mono ?_); rintro x _ ⟨rfl, e, rfl⟩)) | (go_at_call 17; first | ((with_reducible refine (Ret.later (H1.out _)).mono ?_); rintro x _ ⟨rfl, e, rfl⟩) | ((with_reducible refine (Ret.later (H2.out _)).mono ?_); rintro x _ ⟨rfl, e, rfl⟩) | ((with_reducible refine (Ret.later (H4.out _)).mono ?_); rintro x _ ⟨rfl, e, rfl⟩) | ((with_reducible refine (Ret.later (HH.out _)).mono ?_); rintro x _ ⟨rfl, e, rfl⟩) | ((with_reducible refine (Ret.later (HG.out _)).mono ?_); rintro x _ ⟨rfl, e, rfl⟩)))
        all_goals go_meet
        all_goals exact ⟨by rw [Q1.out, Q2.out]; rfl, e, rfl⟩
       obtain ⟨rfl, e, rfl⟩ := hcut
       generalize (has p.fl 16384 || has p.fl 262144) = TB at *
       by_cases hx : p.fl / 4 % 2 = 1
       ·
        rw [show has p.fl 4 = true by unfold has; simp [hx]] at H4
        have X4 := hid hx
        clear hx
        have HS : Hid (p.right = 8) := by
         unfold Hid PV.right
         rw [if_neg (by rw [HR.out]; decide), if_pos (.inl ⟨F1.out, .inl X4.out⟩)]
        go_wp2_with (first | (go_at_call 25; first | ((with_reducible refine (Ret.later (KD.out _)).mono ?_); rintro x _ ⟨rfl, e, rfl⟩) | ((with_reducible refine (Ret.later (KS.out _)).mono ?_); rintro x _ ⟨rfl, e, rfl⟩) | ((with_reducible refine (Ret.later (KR.out _)).mono ?_); rintro x _ ⟨rfl, e, rfl⟩)) | (go_at_call 17; first | ((with_reducible refine (Ret.later (H1.out _)).mono ?_); rintro x _ ⟨rfl, e, rfl⟩) | ((with_reducible refine (Ret.later (H2.out _)).mono ?_); rintro x _ ⟨rfl, e, rfl⟩) | ((with_reducible refine (Ret.later (H4.out _)).mono ?_); rintro x _ ⟨rfl, e, rfl⟩) | ((with_reducible refine (Ret.later (HH.out _)).mono ?_); rintro x _ ⟨rfl, e, rfl⟩) | ((with_reducible refine (Ret.later (HG.out _)).mono ?_); rintro x _ ⟨rfl, e, rfl⟩)))
        go_ret
        exact Ret.mk (by rw [HS.out]; rfl) (HE.out.trans e.h)
       rw [show has p.fl 4 = false by unfold has; simp; omega] at H4
       have X4 := hid hx
       clear hx
       by_cases hy : p.n ≤ p.o
       ·
        have za : decide (p.n ≤ p.o) = true := decide_eq_true (by omega)
        have zb : (p.n ≤ p.o) = True := eq_true (by omega)
        have Y := hid hy
        clear hy
        have HS : Hid (p.right = 8) := by
         unfold Hid PV.right
         rw [if_neg (by rw [HR.out]; decide), if_pos (.inl ⟨F1.out, .inr Y.out⟩)]
        go_wp2_with (first | (go_at_call 25; first | ((with_reducible refine (Ret.later (KD.out _)).mono ?_); rintro x _ ⟨rfl, e, rfl⟩) | ((with_reducible refine (Ret.later (KS.out _)).mono ?_); rintro x _ ⟨rfl, e, rfl⟩) | ((with_reducible refine (Ret.later (KR.out _)).mono ?_); rintro x _ ⟨rfl, e, rfl⟩)) | (go_at_call 17; first | ((with_reducible refine (Ret.later (H1.out _)).mono ?_); rintro x _ ⟨rfl, e, rfl⟩) | ((with_reducible refine (Ret.later (H2.out _)).mono ?_); rintro x _ ⟨rfl, e, rfl⟩) | ((with_reducible refine (Ret.later (H4.out _)).mono ?_); rintro x _ ⟨rfl, e, rfl⟩) | ((with_reducible refine (Ret.later (HH.out _)).mono ?_); rintro x _ ⟨rfl, e, rfl⟩) | ((with_reducible refine (Ret.later (HG.out _)).mono ?_); rintro x _ ⟨rfl, e, rfl⟩)))
        go_ret
        exact Ret.mk (by rw [HS.out]; rfl) (HE.out.trans e.h)
       have za : decide (p.n ≤ p.o) = false := decide_eq_false (by omega)
       have zb : (p.n ≤ p.o) = False := eq_false (by omega)
       have G0 : Hid (¬ ((p.fl % 2 = 1 ∧ (p.fl / 4 % 2 = 1 ∨ p.n ≤ p.o)) ∨ (¬ p.fl % 2 = 1 ∧ (0 < p.o ∨ 0 < p.n)))) := by have := F1.out; have := X4.out; unfold Hid; omega
       clear hy
       by_cases hN : p.none
       ·
        have n1 : p.s.sch = 1 := hN.1
        have n2 : p.s.name = [110, 111, 110, 101] := hN.2
        rw [n1] at b6
        rw [n2] at b7
        clear n1 n2
        have HN := hid hN
        clear hN
        cases hT : TB with
        | true =>
         have XT : Hid (p.fl / 16384 % 2 = 1 ∨ p.fl / 262144 % 2 = 1) := HTB.out.1 hT
         subst hT
         have HS : Hid (p.right = 8) := by
          unfold Hid PV.right
          rw [if_neg (by rw [HR.out]; decide), if_neg (by have := G0.out; omega), if_pos (.inl ⟨XT.out, .inl HN.out⟩)]
         go_wp2_with (first | (go_at_call 25; first | ((with_reducible refine (Ret.later (KD.out _)).mono ?_); rintro x _ ⟨rfl, e, rfl⟩) | ((with_reducible refine (Ret.later (KS.out _)).mono ?_); rintro x _ ⟨rfl, e, rfl⟩) | ((with_reducible refine (Ret.later (KR.out _)).mono ?_); rintro x _ ⟨rfl, e, rfl⟩)) | (go_at_call 17; first | ((with_reducible refine (Ret.later (H1.out _)).mono ?_); rintro x _ ⟨rfl, e, rfl⟩) | ((with_reducible refine (Ret.later (H2.out _)).mono ?_); rintro x _ ⟨rfl, e, rfl⟩) | ((with_reducible refine (Ret.later (H4.out _)).mono ?_); rintro x _ ⟨rfl, e, rfl⟩) | ((with_reducible refine (Ret.later (HH.out _)).mono ?_); rintro x _ ⟨rfl, e, rfl⟩) | ((with_reducible refine (Ret.later (HG.out _)).mono ?_); rintro x _ ⟨rfl, e, rfl⟩)))
         go_ret
         exact Ret.mk (by rw [HS.out]; rfl) (HE.out.trans e.h)
        | false =>
         have XT : Hid (¬ (p.fl / 16384 % 2 = 1 ∨ p.fl / 262144 % 2 = 1)) := fun h => by have := HTB.out.2 h; rw [hT] at this; cases this
         subst hT
         have HS : Hid (p.right = 8) := by
          unfold Hid PV.right
          rw [if_neg (by rw [HR.out]; decide), if_neg (by have := G0.out; omega), if_pos (.inr ⟨HN.out, X4.out⟩)]
         go_wp2_with (first | (go_at_call 25; first | ((with_reducible refine (Ret.later (KD.out _)).mono ?_); rintro x _ ⟨rfl, e, rfl⟩) | ((with_reducible refine (Ret.later (KS.out _)).mono ?_); rintro x _ ⟨rfl, e, rfl⟩) | ((with_reducible refine (Ret.later (KR.out _)).mono ?_); rintro x _ ⟨rfl, e, rfl⟩)) | (go_at_call 17; first | ((with_reducible refine (Ret.later (H1.out _)).mono ?_); rintro x _ ⟨rfl, e, rfl⟩) | ((with_reducible refine (Ret.later (H2.out _)).mono ?_); rintro x _ ⟨rfl, e, rfl⟩) | ((with_reducible refine (Ret.later (H4.out _)).mono ?_); rintro x _ ⟨rfl, e, rfl⟩) | ((with_reducible refine (Ret.later (HH.out _)).mono ?_); rintro x _ ⟨rfl, e, rfl⟩) | ((with_reducible refine (Ret.later (HG.out _)).mono ?_); rintro x _ ⟨rfl, e, rfl⟩)))
         go_ret
         exact Ret.mk (by rw [HS.out]; rfl) (HE.out.trans e.h)
       ·
        have HN := hid hN
        by_cases hS : p.s.sch = 1
        ·
         have hM : ¬ p.s.name = [110, 111, 110, 101] := fun h => hN ⟨hS, h⟩
         rw [hS] at b6
         have ma : ((p.s.name) == ([110, 111, 110, 101])) = false := by rw [beq_eq_false_iff_ne]; exact hM
         have mb : ((p.s.name) = ([110, 111, 110, 101])) = False := eq_false (by exact hM)
         have mc : ((p.s.name) != ([110, 111, 110, 101])) = true := by rw [bne_iff_ne]; exact hM
         clear hM hS hN
         cases hT : TB with
         | true =>
          have XT : Hid (p.fl / 16384 % 2 = 1 ∨ p.fl / 262144 % 2 = 1) := HTB.out.1 hT
          subst hT
          by_cases hx : p.fl / 2 % 2 = 1
          ·
           rw [show has p.fl 2 = true by unfold has; simp [hx]] at H2
           have X2 := hid hx
           clear hx
           have HS : Hid (p.right = 8) := by
            unfold Hid PV.right
            rw [if_neg (by rw [HR.out]; decide), if_neg (by have := G0.out; omega), if_pos (.inl ⟨XT.out, .inr X2.out⟩)]
           go_wp2_with (first | (go_at_call 25; first | ((with_reducible refine (Ret.later (KD.out _)).mono ?_); rintro x _ ⟨rfl, e, rfl⟩) | ((with_reducible refine (Ret.later (KS.out _)).mono ?_); rintro x _ ⟨rfl, e, rfl⟩) | ((with_reducible refine (Ret.later (KR.out _)).mono ?_); rintro x _ ⟨rfl, e, rfl⟩)) | (go_at_call 17; first | ((with_reducible refine (Ret.later (H1.out _)).mono ?_); rintro x _ ⟨rfl, e, rfl⟩) | ((with_reducible refine (Ret.later (H2.out _)).mono ?_); rintro x _ ⟨rfl, e, rfl⟩) | ((with_reducible refine (Ret.later (H4.out _)).mono ?_); rintro x _ ⟨rfl, e, rfl⟩) | ((with_reducible refine (Ret.later (HH.out _)).mono ?_); rintro x _ ⟨rfl, e, rfl⟩) | ((with_reducible refine (Ret.later (HG.out _)).mono ?_); rintro x _ ⟨rfl, e, rfl⟩)))
           go_ret
           exact Ret.mk (by rw [HS.out]; rfl) (HE.out.trans e.h)
          ·
           rw [show has p.fl 2 = false by unfold has; simp; omega] at H2
           have X2 := hid hx
           clear hx
           have HS : Hid (p.right = 0) := by
            unfold Hid PV.right
            rw [if_neg (by rw [HR.out]; decide), if_neg (by have := G0.out; omega), if_neg (fun h => h.elim (fun h => h.2.elim HN.out X2.out) (fun h => HN.out h.1))]
           go_wp2_with (first | (go_at_call 25; first | ((with_reducible refine (Ret.later (KD.out _)).mono ?_); rintro x _ ⟨rfl, e, rfl⟩) | ((with_reducible refine (Ret.later (KS.out _)).mono ?_); rintro x _ ⟨rfl, e, rfl⟩) | ((with_reducible refine (Ret.later (KR.out _)).mono ?_); rintro x _ ⟨rfl, e, rfl⟩)) | (go_at_call 17; first | ((with_reducible refine (Ret.later (H1.out _)).mono ?_); rintro x _ ⟨rfl, e, rfl⟩) | ((with_reducible refine (Ret.later (H2.out _)).mono ?_); rintro x _ ⟨rfl, e, rfl⟩) | ((with_reducible refine (Ret.later (H4.out _)).mono ?_); rintro x _ ⟨rfl, e, rfl⟩) | ((with_reducible refine (Ret.later (HH.out _)).mono ?_); rintro x _ ⟨rfl, e, rfl⟩) | ((with_reducible refine (Ret.later (HG.out _)).mono ?_); rintro x _ ⟨rfl, e, rfl⟩)))
           go_ret
           exact Ret.mk (by rw [HS.out]; rfl) (HE.out.trans e.h)
         | false =>
          have XT : Hid (¬ (p.fl / 16384 % 2 = 1 ∨ p.fl / 262144 % 2 = 1)) := fun h => by have := HTB.out.2 h; rw [hT] at this; cases this
          subst hT
          have HS : Hid (p.right = 0) := by
           unfold Hid PV.right
           rw [if_neg (by rw [HR.out]; decide), if_neg (by have := G0.out; omega), if_neg (fun h => h.elim (fun h => XT.out h.1) (fun h => HN.out h.1))]
          go_wp2_with (first | (go_at_call 25; first | ((with_reducible refine (Ret.later (KD.out _)).mono ?_); rintro x _ ⟨rfl, e, rfl⟩) | ((with_reducible refine (Ret.later (KS.out _)).mono ?_); rintro x _ ⟨rfl, e, rfl⟩) | ((with_reducible refine (Ret.later (KR.out _)).mono ?_); rintro x _ ⟨rfl, e, rfl⟩)) | (go_at_call 17; first | ((with_reducible refine (Ret.later (H1.out _)).mono ?_); rintro x _ ⟨rfl, e, rfl⟩) | ((with_reducible refine (Ret.later (H2.out _)).mono ?_); rintro x _ ⟨rfl, e, rfl⟩) | ((with_reducible refine (Ret.later (H4.out _)).mono ?_); rintro x _ ⟨rfl, e, rfl⟩) | ((with_reducible refine (Ret.later (HH.out _)).mono ?_); rintro x _ ⟨rfl, e, rfl⟩) | ((with_reducible refine (Ret.later (HG.out _)).mono ?_); rintro x _ ⟨rfl, e, rfl⟩)))
          go_ret
          exact Ret.mk (by rw [HS.out]; rfl) (HE.out.trans e.h)
        ·
         have ma : ((p.s.sch) == (1)) = false := by rw [beq_eq_false_iff_ne]; omega
         have mb : ((p.s.sch) = (1)) = False := eq_false (by omega)
         have mc : ((p.s.sch) != (1)) = true := by rw [bne_iff_ne]; omega
         clear hS hN
         cases hT : TB with
         | true =>
          have XT : Hid (p.fl / 16384 % 2 = 1 ∨ p.fl / 262144 % 2 = 1) := HTB.out.1 hT
          subst hT
          by_cases hx : p.fl / 2 % 2 = 1
          ·
           rw [show has p.fl 2 = true by unfold has; simp [hx]] at H2
           have X2 := hid hx
           clear hx
           have HS : Hid (p.right = 8) := by
            unfold Hid PV.right
            rw [if_neg (by rw [HR.out]; decide), if_neg (by have := G0.out; omega), if_pos (.inl ⟨XT.out, .inr X2.out⟩)]
           go_wp2_with (first | (go_at_call 25; first | ((with_reducible refine (Ret.later (KD.out _)).mono ?_); rintro x _ ⟨rfl, e, rfl⟩) | ((with_reducible refine (Ret.later (KS.out _)).mono ?_); rintro x _ ⟨rfl, e, rfl⟩) | ((with_reducible refine (Ret.later (KR.out _)).mono ?_); rintro x _ ⟨rfl, e, rfl⟩)) | (go_at_call 17; first | ((with_reducible refine (Ret.later (H1.out _)).mono ?_); rintro x _ ⟨rfl, e, rfl⟩) | ((with_reducible refine (Ret.later (H2.out _)).mono ?_); rintro x _ ⟨rfl, e, rfl⟩) | ((with_reducible refine (Ret.later (H4.out _)).mono ?_); rintro x _ ⟨rfl, e, rfl⟩) | ((with_reducible refine (Ret.later (HH.out _)).mono ?_); rintro x _ ⟨rfl, e, rfl⟩) | ((with_reducible refine (Ret.later (HG.out _)).mono ?_); rintro x _ ⟨rfl, e, rfl⟩)))
           go_ret
           exact Ret.mk (by rw [HS.out]; rfl) (HE.out.trans e.h)
          ·
           rw [show has p.fl 2 = false by unfold has; simp; omega] at H2
           have X2 := hid hx
           clear hx
           have HS : Hid (p.right = 0) := by
            unfold Hid PV.right
            rw [if_neg (by rw [HR.out]; decide), if_neg (by have := G0.out; omega), if_neg (fun h => h.elim (fun h => h.2.elim HN.out X2.out) (fun h => HN.out h.1))]
           go_wp2_with (first | (go_at_call 25; first | ((with_reducible refine (Ret.later (KD.out _)).mono ?_); rintro x _ ⟨rfl, e, rfl⟩) | ((with_reducible refine (Ret.later (KS.out _)).mono ?_); rintro x _ ⟨rfl, e, rfl⟩) | ((with_reducible refine (Ret.later (KR.out _)).mono ?_); rintro x _ ⟨rfl, e, rfl⟩)) | (go_at_call 17; first | ((with_reducible refine (Ret.later (H1.out _)).mono ?_); rintro x _ ⟨rfl, e, rfl⟩) | ((with_reducible refine (Ret.later (H2.out _)).mono ?_); rintro x _ ⟨rfl, e, rfl⟩) | ((with_reducible refine (Ret.later (H4.out _)).mono ?_); rintro x _ ⟨rfl, e, rfl⟩) | ((with_reducible refine (Ret.later (HH.out _)).mono ?_); rintro x _ ⟨rfl, e, rfl⟩) | ((with_reducible refine (Ret.later (HG.out _)).mono ?_); rintro x _ ⟨rfl, e, rfl⟩)))
           go_ret
           exact Ret.mk (by rw [HS.out]; rfl) (HE.out.trans e.h)
         | false =>
          have XT : Hid (¬ (p.fl / 16384 % 2 = 1 ∨ p.fl / 262144 % 2 = 1)) := fun h => by have := HTB.out.2 h; rw [hT] at this; cases this
          subst hT
          have HS : Hid (p.right = 0) := by
           unfold Hid PV.right
           rw [if_neg (by rw [HR.out]; decide), if_neg (by have := G0.out; omega), if_neg (fun h => h.elim (fun h => XT.out h.1) (fun h => HN.out h.1))]
          go_wp2_with (first | (go_at_call 25; first | ((with_reducible refine (Ret.later (KD.out _)).mono ?_); rintro x _ ⟨rfl, e, rfl⟩) | ((with_reducible refine (Ret.later (KS.out _)).mono ?_); rintro x _ ⟨rfl, e, rfl⟩) | ((with_reducible refine (Ret.later (KR.out _)).mono ?_); rintro x _ ⟨rfl, e, rfl⟩)) | (go_at_call 17; first | ((with_reducible refine (Ret.later (H1.out _)).mono ?_); rintro x _ ⟨rfl, e, rfl⟩) | ((with_reducible refine (Ret.later (H2.out _)).mono ?_); rintro x _ ⟨rfl, e, rfl⟩) | ((with_reducible refine (Ret.later (H4.out _)).mono ?_); rintro x _ ⟨rfl, e, rfl⟩) | ((with_reducible refine (Ret.later (HH.out _)).mono ?_); rintro x _ ⟨rfl, e, rfl⟩) | ((with_reducible refine (Ret.later (HG.out _)).mono ?_); rintro x _ ⟨rfl, e, rfl⟩)))
          go_ret
          exact Ret.mk (by rw [HS.out]; rfl) (HE.out.trans e.h)
      | false =>
       rw [hx1] at H1
       have F1 : Hid (¬ p.fl % 2 = 1) := by unfold has at hx1; unfold Hid; simpa using hx1
       clear hx1
       go_upto_region 10 with (first | (go_at_call 25; first | ((with_reducible refine (Ret.later (KD.out _)).mono ?_); rintro x _ ⟨rfl, e, rfl⟩) | ((with_reducible refine (Ret.later (KS.out _)).mono ?_); rintro x _ ⟨rfl, e, rfl⟩) | ((with_reducible refine (Ret.later (KR.out _)).mono ?_); rintro x _ ⟨rfl, e, rfl⟩)) | (go_at_call 17; first | ((with_reducible refine (Ret.later (H1.out _)).mono ?_); rintro x _ ⟨rfl, e, rfl⟩) | ((with_reducible refine (Ret.later (H2.out _)).mono ?_); rintro x _ ⟨rfl, e, rfl⟩) | ((with_reducible refine (Ret.later (H4.out _)).mono ?_); rintro x _ ⟨rfl, e, rfl⟩) | ((with_reducible refine (Ret.later (HH.out _)).mono ?_); rintro x _ ⟨rfl, e, rfl⟩) | ((with_reducible refine (Ret.later (HG.out _)).mono ?_); rintro x _ ⟨rfl, e, rfl⟩)))
       go_cut [6] (fun s6 wx => s6 = .bool (has p.fl 16384 || has p.fl 262144) ∧ ∃ e : Later V2, wx = e.x)
       case first =>
        cases h1 : has p.fl 16384
        all_goals rw [h1] at HH
        all_goals cases h2 : has p.fl 262144
        all_goals rw [h2] at HG
        all_goals have Q1 := hid h1
        all_goals have Q2 := hid h2
        all_goals clear h1 h2
        all_goals go_wp2_with (first | (go_at_call 25; first | ((with_reducible refine (Ret.later (KD.out _)).mono ?_); rintro x _ ⟨rfl, e, rfl⟩) | ((with_reducible refine (Ret.later (KS.out _)).mono ?_); rintro x _ ⟨rfl, e, rfl⟩) | ((with_reducible refine (Ret.later (KR.out _)).mono ?_); rintro x _ ⟨rfl, e, rfl⟩)) | (go_at_call 17; first | ((with_reducible refine (Ret.later (H1.out _)).mono ?_); rintro x _ ⟨rfl, e, rfl⟩) | ((with_reducible refine (Ret.later (H2.out _)).mono ?_); rintro x _ ⟨rfl, e, rfl⟩) | ((with_reducible refine (Ret.later (H4.out _)).mono ?_); rintro x _ ⟨rfl, e, rfl⟩) | ((with_reducible refine (Ret.later (HH.out _)).mono ?_); rintro x _ ⟨rfl, e, rfl⟩) | ((with_reducible refine (Ret.later (HG.out _)).mono ?_); rintro x _ ⟨rfl, e, rfl⟩)))
        all_goals go_meet
        all_goals exact ⟨by rw [Q1.out, Q2.out]; rfl, e, rfl⟩
       obtain ⟨rfl, e, rfl⟩ := hcut
       generalize (has p.fl 16384 || has p.fl 262144) = TB at *
       by_cases hx : 0 < p.o
       ·
        have za : decide ((0 : Int) < (p.o : Int)) = true := decide_eq_true (by omega)
        have zb : ((0 : Int) < (p.o : Int)) = True := eq_true (by omega)
        have ka : decide (0 < p.o) = true := decide_eq_true (by omega)
        have kb : (0 < p.o) = True := eq_true (by omega)
        have Y := hid hx
        clear hx
        have HS : Hid (p.right = 8) := by
         unfold Hid PV.right
         rw [if_neg (by rw [HR.out]; decide), if_pos (.inr ⟨F1.out, .inl Y.out⟩)]
        go_wp2_with (first | (go_at_call 25; first | ((with_reducible refine (Ret.later (KD.out _)).mono ?_); rintro x _ ⟨rfl, e, rfl⟩) | ((with_reducible refine (Ret.later (KS.out _)).mono ?_); rintro x _ ⟨rfl, e, rfl⟩) | ((with_reducible refine (Ret.later (KR.out _)).mono ?_); rintro x _ ⟨rfl, e, rfl⟩)) | (go_at_call 17; first | ((with_reducible refine (Ret.later (H1.out _)).mono ?_); rintro x _ ⟨rfl, e, rfl⟩) | ((with_reducible refine (Ret.later (H2.out _)).mono ?_); rintro x _ ⟨rfl, e, rfl⟩) | ((with_reducible refine (Ret.later (H4.out _)).mono ?_); rintro x _ ⟨rfl, e, rfl⟩) | ((with_reducible refine (Ret.later (HH.out _)).mono ?_); rintro x _ ⟨rfl, e, rfl⟩) | ((with_reducible refine (Ret.later (HG.out _)).mono ?_); rintro x _ ⟨rfl, e, rfl⟩)))
        go_ret
        exact Ret.mk (by rw [HS.out]; rfl) (HE.out.trans e.h)
       by_cases hy : 0 < p.n
       ·
        have za : decide ((0 : Int) < (p.o : Int)) = false := decide_eq_false (by omega)
        have zb : ((0 : Int) < (p.o : Int)) = False := eq_false (by omega)
        have ka : decide (0 < p.o) = false := decide_eq_false (by omega)
        have kb : (0 < p.o) = False := eq_false (by omega)
        have sa : decide ((0 : Int) < (p.n : Int)) = true := decide_eq_true (by omega)
        have sb : ((0 : Int) < (p.n : Int)) = True := eq_true (by omega)
        have ga : decide (0 < p.n) = true := decide_eq_true (by omega)
        have gb : (0 < p.n) = True := eq_true (by omega)
        have Y := hid hy
        clear hy hx
        have HS : Hid (p.right = 8) := by
         unfold Hid PV.right
         rw [if_neg (by rw [HR.out]; decide), if_pos (.inr ⟨F1.out, .inr Y.out⟩)]
        go_wp2_with (first | (go_at_call 25; first | ((with_reducible refine (Ret.later (KD.out _)).mono ?_); rintro x _ ⟨rfl, e, rfl⟩) | ((with_reducible refine (Ret.later (KS.out _)).mono ?_); rintro x _ ⟨rfl, e, rfl⟩) | ((with_reducible refine (Ret.later (KR.out _)).mono ?_); rintro x _ ⟨rfl, e, rfl⟩)) | (go_at_call 17; first | ((with_reducible refine (Ret.later (H1.out _)).mono ?_); rintro x _ ⟨rfl, e, rfl⟩) | ((with_reducible refine (Ret.later (H2.out _)).mono ?_); rintro x _ ⟨rfl, e, rfl⟩) | ((with_reducible refine (Ret.later (H4.out _)).mono ?_); rintro x _ ⟨rfl, e, rfl⟩) | ((with_reducible refine (Ret.later (HH.out _)).mono ?_); rintro x _ ⟨rfl, e, rfl⟩) | ((with_reducible refine (Ret.later (HG.out _)).mono ?_); rintro x _ ⟨rfl, e, rfl⟩)))
        go_ret
        exact Ret.mk (by rw [HS.out]; rfl) (HE.out.trans e.h)
       have G0 : Hid (¬ ((p.fl % 2 = 1 ∧ (p.fl / 4 % 2 = 1 ∨ p.n ≤ p.o)) ∨ (¬ p.fl % 2 = 1 ∧ (0 < p.o ∨ 0 < p.n)))) := by have := F1.out; unfold Hid; omega
       have ho : p.o = 0 := by omega
       have hn : p.n = 0 := by omega
       rw [ho] at b17
       rw [hn] at b18
       clear hx hy ho hn
       by_cases hN : p.none
       ·
        have n1 : p.s.sch = 1 := hN.1
        have n2 : p.s.name = [110, 111, 110, 101] := hN.2
        rw [n1] at b6
        rw [n2] at b7
        clear n1 n2
        have HN := hid hN
        clear hN
        cases hT : TB with
        | true =>
         have XT : Hid (p.fl / 16384 % 2 = 1 ∨ p.fl / 262144 % 2 = 1) := HTB.out.1 hT
         subst hT
         have HS : Hid (p.right = 8) := by
          unfold Hid PV.right
          rw [if_neg (by rw [HR.out]; decide), if_neg (by have := G0.out; omega), if_pos (.inl ⟨XT.out, .inl HN.out⟩)]
         go_wp2_with (first | (go_at_call 25; first | ((with_reducible refine (Ret.later (KD.out _)).mono ?_); rintro x _ ⟨rfl, e, rfl⟩) | ((with_reducible refine (Ret.later (KS.out _)).mono ?_); rintro x _ ⟨rfl, e, rfl⟩) | ((with_reducible refine (Ret.later (KR.out _)).mono ?_); rintro x _ ⟨rfl, e, rfl⟩)) | (go_at_call 17; first | ((with_reducible refine (Ret.later (H1.out _)).mono ?_); rintro x _ ⟨rfl, e, rfl⟩) | ((with_reducible refine (Ret.later (H2.out _)).mono ?_); rintro x _ ⟨rfl, e, rfl⟩) | ((with_reducible refine (Ret.later (H4.out _)).mono ?_); rintro x _ ⟨rfl, e, rfl⟩) | ((with_reducible refine (Ret.later (HH.out _)).mono ?_); rintro x _ ⟨rfl, e, rfl⟩) | ((with_reducible refine (Ret.later (HG.out _)).mono ?_); rintro x _ ⟨rfl, e, rfl⟩)))
         go_ret
         exact Ret.mk (by rw [HS.out]; rfl) (HE.out.trans e.h)
        | false =>
         have XT : Hid (¬ (p.fl / 16384 % 2 = 1 ∨ p.fl / 262144 % 2 = 1)) := fun h => by have := HTB.out.2 h; rw [hT] at this; cases this
         subst hT
         by_cases hx : p.fl / 4 % 2 = 1
         ·
          rw [show has p.fl 4 = true by unfold has; simp [hx]] at H4
          have X4 := hid hx
          clear hx
          have HS : Hid (p.right = 0) := by
           unfold Hid PV.right
           rw [if_neg (by rw [HR.out]; decide), if_neg (by have := G0.out; omega), if_neg (fun h => h.elim (fun h => XT.out h.1) (fun h => h.2 X4.out))]
          go_wp2_with (first | (go_at_call 25; first | ((with_reducible refine (Ret.later (KD.out _)).mono ?_); rintro x _ ⟨rfl, e, rfl⟩) | ((with_reducible refine (Ret.later (KS.out _)).mono ?_); rintro x _ ⟨rfl, e, rfl⟩) | ((with_reducible refine (Ret.later (KR.out _)).mono ?_); rintro x _ ⟨rfl, e, rfl⟩)) | (go_at_call 17; first | ((with_reducible refine (Ret.later (H1.out _)).mono ?_); rintro x _ ⟨rfl, e, rfl⟩) | ((with_reducible refine (Ret.later (H2.out _)).mono ?_); rintro x _ ⟨rfl, e, rfl⟩) | ((with_reducible refine (Ret.later (H4.out _)).mono ?_); rintro x _ ⟨rfl, e, rfl⟩) | ((with_reducible refine (Ret.later (HH.out _)).mono ?_); rintro x _ ⟨rfl, e, rfl⟩) | ((with_reducible refine (Ret.later (HG.out _)).mono ?_); rintro x _ ⟨rfl, e, rfl⟩)))
          go_ret
          exact Ret.mk (by rw [HS.out]; rfl) (HE.out.trans e.h)
         ·
          rw [show has p.fl 4 = false by unfold has; simp; omega] at H4
          have X4 := hid hx
          clear hx
          have HS : Hid (p.right = 8) := by
           unfold Hid PV.right
           rw [if_neg (by rw [HR.out]; decide), if_neg (by have := G0.out; omega), if_pos (.inr ⟨HN.out, X4.out⟩)]
          go_wp2_with (first | (go_at_call 25; first | ((with_reducible refine (Ret.later (KD.out _)).mono ?_); rintro x _ ⟨rfl, e, rfl⟩) | ((with_reducible refine (Ret.later (KS.out _)).mono ?_); rintro x _ ⟨rfl, e, rfl⟩) | ((with_reducible refine (Ret.later (KR.out _)).mono ?_); rintro x _ ⟨rfl, e, rfl⟩)) | (go_at_call 17; first | ((with_reducible refine (Ret.later (H1.out _)).mono ?_); rintro x _ ⟨rfl, e, rfl⟩) | ((with_reducible refine (Ret.later (H2.out _)).mono ?_); rintro x _ ⟨rfl, e, rfl⟩) | ((with_reducible refine (Ret.later (H4.out _)).mono ?_); rintro x _ ⟨rfl, e, rfl⟩) | ((with_reducible refine (Ret.later (HH.out _)).mono ?_); rintro x _ ⟨rfl, e, rfl⟩) | ((with_reducible refine (Ret.later (HG.out _)).mono ?_); rintro x _ ⟨rfl, e, rfl⟩)))
          go_ret
          exact Ret.mk (by rw [HS.out]; rfl) (HE.out.trans e.h)
       ·
        have HN := hid hN
        by_cases hS : p.s.sch = 1
        ·
         have hM : ¬ p.s.name = [110, 111, 110, 101] := fun h => hN ⟨hS, h⟩
         rw [hS] at b6
         have ma : ((p.s.name) == ([110, 111, 110, 101])) = false := by rw [beq_eq_false_iff_ne]; exact hM
         have mb : ((p.s.name) = ([110, 111, 110, 101])) = False := eq_false (by exact hM)
         have mc : ((p.s.name) != ([110, 111, 110, 101])) = true := by rw [bne_iff_ne]; exact hM
         clear hM hS hN
         cases hT : TB with
         | true =>
          have XT : Hid (p.fl / 16384 % 2 = 1 ∨ p.fl / 262144 % 2 = 1) := HTB.out.1 hT
          subst hT
          by_cases hx : p.fl / 2 % 2 = 1
          ·
           rw [show has p.fl 2 = true by unfold has; simp [hx]] at H2
           have X2 := hid hx
           clear hx
           have HS : Hid (p.right = 8) := by
            unfold Hid PV.right
            rw [if_neg (by rw [HR.out]; decide), if_neg (by have := G0.out; omega), if_pos (.inl ⟨XT.out, .inr X2.out⟩)]
           go_wp2_with (first | (go_at_call 25; first | ((with_reducible refine (Ret.later (KD.out _)).mono ?_); rintro x _ ⟨rfl, e, rfl⟩) | ((with_reducible refine (Ret.later (KS.out _)).mono ?_); rintro x _ ⟨rfl, e, rfl⟩) | ((with_reducible refine (Ret.later (KR.out _)).mono ?_); rintro x _ ⟨rfl, e, rfl⟩)) | (go_at_call 17; first | ((with_reducible refine (Ret.later (H1.out _)).mono ?_); rintro x _ ⟨rfl, e, rfl⟩) | ((with_reducible refine (Ret.later (H2.out _)).mono ?_); rintro x _ ⟨rfl, e, rfl⟩) | ((with_reducible refine (Ret.later (H4.out _)).mono ?_); rintro x _ ⟨rfl, e, rfl⟩) | ((with_reducible refine (Ret.later (HH.out _)).mono ?_); rintro x _ ⟨rfl, e, rfl⟩) | ((with_reducible refine (Ret.later (HG.out _)).mono ?_); rintro x _ ⟨rfl, e, rfl⟩)))
           go_ret
           exact Ret.mk (by rw [HS.out]; rfl) (HE.out.trans e.h)
          ·
           rw [show has p.fl 2 = false by unfold has; simp; omega] at H2
           have X2 := hid hx
           clear hx
           have HS : Hid (p.right = 0) := by
            unfold Hid PV.right
            rw [if_neg (by rw [HR.out]; decide), if_neg (by have := G0.out; omega), if_neg (fun h => h.elim (fun h => h.2.elim HN.out X2.out) (fun h => HN.out h.1))]
           go_wp2_with (first | (go_at_call 25; first | ((with_reducible refine (Ret.later (KD.out _)).mono ?_); rintro x _ ⟨rfl, e, rfl⟩) | ((with_reducible refine (Ret.later (KS.out _)).mono ?_); rintro x _ ⟨rfl, e, rfl⟩) | ((with_reducible refine (Ret.later (KR.out _)).mono ?_); rintro x _ ⟨rfl, e, rfl⟩)) | (go_at_call 17; first | ((with_reducible refine (Ret.later (H1.out _)).mono ?_); rintro x _ ⟨rfl, e, rfl⟩) | ((with_reducible refine (Ret.later (H2.out _)).mono ?_); rintro x _ ⟨rfl, e, rfl⟩) | ((with_reducible refine (Ret.later (H4.out _)).mono ?_); rintro x _ ⟨rfl, e, rfl⟩) | ((with_reducible refine (Ret.later (HH.out _)).mono ?_); rintro x _ ⟨rfl, e, rfl⟩) | ((with_reducible refine (Ret.later (HG.out _)).mono ?_); rintro x _ ⟨rfl, e, rfl⟩)))
           go_ret
           exact Ret.mk (by rw [HS.out]; rfl) (HE.out.trans e.h)
         | false =>
          have XT : Hid (¬ (p.fl / 16384 % 2 = 1 ∨ p.fl / 262144 % 2 = 1)) := fun h => by have := HTB.out.2 h; rw [hT] at this; cases this
          subst hT
          have HS : Hid (p.right = 0) := by
           unfold Hid PV.right
           rw [if_neg (by rw [HR.out]; decide), if_neg (by have := G0.out; omega), if_neg (fun h => h.elim (fun h => XT.out h.1) (fun h => HN.out h.1))]
          go_wp2_with (first | (go_at_call 25; first | ((with_reducible refine (Ret.later (KD.out _)).mono ?_); rintro x _ ⟨rfl, e, rfl⟩) | ((with_reducible refine (Ret.later (KS.out _)).mono ?_); rintro x _ ⟨rfl, e, rfl⟩) | ((with_reducible refine (Ret.later (KR.out _)).mono ?_); rintro x _ ⟨rfl, e, rfl⟩)) | (go_at_call 17; first | ((with_reducible refine (Ret.later (H1.out _)).mono ?_); rintro x _ ⟨rfl, e, rfl⟩) | ((with_reducible refine (Ret.later (H2.out _)).mono ?_); rintro x _ ⟨rfl, e, rfl⟩) | ((with_reducible refine (Ret.later (H4.out _)).mono ?_); rintro x _ ⟨rfl, e, rfl⟩) | ((with_reducible refine (Ret.later (HH.out _)).mono ?_); rintro x _ ⟨rfl, e, rfl⟩) | ((with_reducible refine (Ret.later (HG.out _)).mono ?_); rintro x _ ⟨rfl, e, rfl⟩)))
          go_ret
          exact Ret.mk (by rw [HS.out]; rfl) (HE.out.trans e.h)
        ·
         have ma : ((p.s.sch) == (1)) = false := by rw [beq_eq_false_iff_ne]; omega
         have mb : ((p.s.sch) = (1)) = False := eq_false (by omega)
         have mc : ((p.s.sch) != (1)) = true := by rw [bne_iff_ne]; omega
         clear hS hN
         cases hT : TB with
         | true =>
          have XT : Hid (p.fl / 16384 % 2 = 1 ∨ p.fl / 262144 % 2 = 1) := HTB.out.1 hT
          subst hT
          by_cases hx : p.fl / 2 % 2 = 1
          ·
           rw [show has p.fl 2 = true by unfold has; simp [hx]] at H2
           have X2 := hid hx
           clear hx
           have HS : Hid (p.right = 8) := by
            unfold Hid PV.right
            rw [if_neg (by rw [HR.out]; decide), if_neg (by have := G0.out; omega), if_pos (.inl ⟨XT.out, .inr X2.out⟩)]
           go_wp2_with (first | (go_at_call 25; first | ((with_reducible refine (Ret.later (KD.out _)).mono ?_); rintro x _ ⟨rfl, e, rfl⟩) | ((with_reducible refine (Ret.later (KS.out _)).mono ?_); rintro x _ ⟨rfl, e, rfl⟩) | ((with_reducible refine (Ret.later (KR.out _)).mono ?_); rintro x _ ⟨rfl, e, rfl⟩)) | (go_at_call 17; first | ((with_reducible refine (Ret.later (H1.out _)).mono ?_); rintro x _ ⟨rfl, e, rfl⟩) | ((with_reducible refine (Ret.later (H2.out _)).mono ?_); rintro x _ ⟨rfl, e, rfl⟩) | ((with_reducible refine (Ret.later (H4.out _)).mono ?_); rintro x _ ⟨rfl, e, rfl⟩) | ((with_reducible refine (Ret.later (HH.out _)).mono ?_); rintro x _ ⟨rfl, e, rfl⟩) | ((with_reducible refine (Ret.later (HG.out _)).mono ?_); rintro x _ ⟨rfl, e, rfl⟩)))
           go_ret
           exact Ret.mk (by rw [HS.out]; rfl) (HE.out.trans e.h)
          ·
           rw [show has p.fl 2 = false by unfold has; simp; omega] at H2
           have X2 := hid hx
           clear hx
           have HS : Hid (p.right = 0) := by
            unfold Hid PV.right
            rw [if_neg (by rw [HR.out]; decide), if_neg (by have := G0.out; omega), if_neg (fun h => h.elim (fun h => h.2.elim HN.out X2.out) (fun h => HN.out h.1))]
           go_wp2_with (first | (go_at_call 25; first | ((with_reducible refine (Ret.later (KD.out _)).mono ?_); rintro x _ ⟨rfl, e, rfl⟩) | ((with_reducible refine (Ret.later (KS.out _)).mono ?_); rintro x _ ⟨rfl, e, rfl⟩) | ((with_reducible refine (Ret.later (KR.out _)).mono ?_); rintro x _ ⟨rfl, e, rfl⟩)) | (go_at_call 17; first | ((with_reducible refine (Ret.later (H1.out _)).mono ?_); rintro x _ ⟨rfl, e, rfl⟩) | ((with_reducible refine (Ret.later (H2.out _)).mono ?_); rintro x _ ⟨rfl, e, rfl⟩) | ((with_reducible refine (Ret.later (H4.out _)).mono ?_); rintro x _ ⟨rfl, e, rfl⟩) | ((with_reducible refine (Ret.later (HH.out _)).mono ?_); rintro x _ ⟨rfl, e, rfl⟩) | ((with_reducible refine (Ret.later (HG.out _)).mono ?_); rintro x _ ⟨rfl, e, rfl⟩)))
           go_ret
           exact Ret.mk (by rw [HS.out]; rfl) (HE.out.trans e.h)
         | false =>
          have XT : Hid (¬ (p.fl / 16384 % 2 = 1 ∨ p.fl / 262144 % 2 = 1)) := fun h => by have := HTB.out.2 h; rw [hT] at this; cases this
          subst hT
          have HS : Hid (p.right = 0) := by
           unfold Hid PV.right
           rw [if_neg (by rw [HR.out]; decide), if_neg (by have := G0.out; omega), if_neg (fun h => h.elim (fun h => XT.out h.1) (fun h => HN.out h.1))]
          go_wp2_with (first | (go_at_call 25; first | ((with_reducible refine (Ret.later (KD.out _)).mono ?_); rintro x _ ⟨rfl, e, rfl⟩) | ((with_reducible refine (Ret.later (KS.out _)).mono ?_); rintro x _ ⟨rfl, e, rfl⟩) | ((with_reducible refine (Ret.later (KR.out _)).mono ?_); rintro x _ ⟨rfl, e, rfl⟩)) | (go_at_call 17; first | ((with_reducible refine (Ret.later (H1.out _)).mono ?_); rintro x _ ⟨rfl, e, rfl⟩) | ((with_reducible refine (Ret.later (H2.out _)).mono ?_); rintro x _ ⟨rfl, e, rfl⟩) | ((with_reducible refine (Ret.later (H4.out _)).mono ?_); rintro x _ ⟨rfl, e, rfl⟩) | ((with_reducible refine (Ret.later (HH.out _)).mono ?_); rintro x _ ⟨rfl, e, rfl⟩) | ((with_reducible refine (Ret.later (HG.out _)).mono ?_); rintro x _ ⟨rfl, e, rfl⟩)))
          go_ret
          exact Ret.mk (by rw [HS.out]; rfl) (HE.out.trans e.h)
end Go.Proofs.YtfgipgpbjfhflaaGreat


namespace Go.Proofs.YtfgipgpbjfhflaaGreat
open Go.RowKit
set_option linter.unusedVariables false
set_option linter.unusedSimpArgs false

set_option maxRecDepth 20000 in
theorem eidNoneP_any (w : World) : Calls Tryz.prog 79 #[] w (Ret (.agg #[.int .i64 1, str [110, 111, 110, 101], .int .u64 0, .int .u64 0]) w) := by
 go_enter Tryz.func79, Tryz.ntmps79
 go_wp2
 refine bodyPost_ret (v := .agg #[.int .i64 1, str [110, 111, 110, 101], .int .u64 0, .int .u64 0]) ?_ rfl (Ret.mk rfl ((Mod.refl _ _).alloc _))
 simp [results, Tryz.results79, go_sem]
theorem and_powP (f k : Nat) : f &&& 2 ^ k = if f.testBit k = true then 2 ^ k else 0 := by
 apply Nat.eq_of_testBit_eq
 intro i
 rw [Nat.testBit_and, Nat.testBit_two_pow]
 by_cases h : k = i
 ·
  subst h
  cases f.testBit k <;> simp
 · cases f.testBit k <;> simp [h]
theorem u64_and_powP (f k : Nat) (hf : f < 18446744073709551616) (hk : k < 64) : bits .and .u64 (f : Int) ((2 ^ k : Nat) : Int) = if f / 2 ^ k % 2 = 1 then ((2 ^ k : Nat) : Int) else 0 := by
 have h2 : 2 ^ k < 18446744073709551616 := by
  have : 2 ^ k < 2 ^ 64 := Nat.pow_lt_pow_right (by omega) hk
  omega
 have h1 : bits .and .u64 (f : Int) ((2 ^ k : Nat) : Int) = ((f &&& 2 ^ k : Nat) : Int) := u64_and_nat f (2 ^ k) hf h2
 rw [h1, and_powP, Nat.testBit_eq_decide_div_mod_eq]
 by_cases h : f / 2 ^ k % 2 = 1 <;> simp [h]
theorem andP_no {f k : Nat} (hf : f < 18446744073709551616) (hk : k < 64) (h : f / 2 ^ k % 2 = 0) : bits .and .u64 (f : Int) ((2 ^ k : Nat) : Int) = 0 := by rw [u64_and_powP f k hf hk, if_neg (by omega)]
theorem andP_yes {f k : Nat} (hf : f < 18446744073709551616) (hk : k < 64) (h : f / 2 ^ k % 2 = 1) : bits .and .u64 (f : Int) ((2 ^ k : Nat) : Int) = ((2 ^ k : Nat) : Int) := by rw [u64_and_powP f k hf hk, if_pos h]
/-- Either of the two flags that ask for reports. -/
theorem and_tells {f : Nat} (hf : f < 18446744073709551616) : ∃ r : Int, bits .and .u64 (f : Int) 278528 = r ∧ (r = 0 ↔ ¬ (f / 16384 % 2 = 1 ∨ f / 262144 % 2 = 1)) := by
 refine ⟨_, rfl, ?_⟩
 have h := u64_and_nat f 278528 hf (by omega)
 have e : f &&& 278528 = (f &&& 2 ^ 14) ||| (f &&& 2 ^ 18) := by rw [← Nat.and_or_distrib_left]; rfl
 rw [e, and_powP, and_powP, Nat.testBit_eq_decide_div_mod_eq, Nat.testBit_eq_decide_div_mod_eq] at h
 have h2 : bits .and .u64 (f : Int) 278528 = bits .and .u64 (f : Int) ((278528 : Nat) : Int) := rfl
 rw [h2, h]
 by_cases a : f / 16384 % 2 = 1 <;> by_cases b : f / 262144 % 2 = 1 <;> simp [a, b]
set_option maxRecDepth 20000 in
set_option maxHeartbeats 1600000 in
theorem ranged_any (p : PV) (hnl : Hid (p.d.name.length < 4611686018427387904 ∧ p.s.name.length < 4611686018427387904 ∧ p.r.name.length < 4611686018427387904)) (w : World) : Calls Tryz.prog 78 #[.agg p.c] w (Ret (.bool p.ranged) w) := by
 have KD := hid (fun W => eidRight_any p.d hnl.out.1 W)
 have KS := hid (fun W => eidRight_any p.s hnl.out.2.1 W)
 have KR := hid (fun W => eidRight_any p.r hnl.out.2.2 W)
 have HE := hid ((Mod.refl [] w).alloc (.cells p.c 26))
 have HB := hid (Blk.new w 26 p.c)
 go_enter Tryz.func78, Tryz.ntmps78
 go_upto_region 1 with fail
 have HA := hid (Blk.new (w.alloc (.cells p.c 26)) 22 #[.int .u64 (p.t : Int), .int .u64 (p.q : Int), .int .u64 (p.l : Int), .int .u64 (p.o : Int), .int .u64 (p.n : Int)])
 go_wp2_with fail
 have HB2 := hid (HB.out.alloc (.cells #[.int .u64 (p.t : Int), .int .u64 (p.q : Int), .int .u64 (p.l : Int), .int .u64 (p.o : Int), .int .u64 (p.n : Int)] 22))
 have HE2 := hid (HE.out.alloc (.cells #[.int .u64 (p.t : Int), .int .u64 (p.q : Int), .int .u64 (p.l : Int), .int .u64 (p.o : Int), .int .u64 (p.n : Int)] 22))
 have HG : Hid ((w.alloc (.cells p.c 26)).heap.size = w.heap.size + 1) := hid (by simp)
 rw [HG.out] at HA
 generalize (w.alloc (.cells p.c 26)).alloc (.cells #[.int .u64 (p.t : Int), .int .u64 (p.q : Int), .int .u64 (p.l : Int), .int .u64 (p.o : Int), .int .u64 (p.n : Int)] 22) = V2 at *
 clear HB HE HG
 have b0 : ∀ e : Later V2, e.x.cell? ⟨w.heap.size, 0, none⟩ = some (.int .u64 (p.fl : Int)) := HB2.out.cellL 0 rfl
 have b1 : ∀ e : Later V2, e.x.cell? ⟨w.heap.size, 1, none⟩ = some (.int .i64 p.crc) := HB2.out.cellL 1 rfl
 have b2 : ∀ e : Later V2, e.x.cell? ⟨w.heap.size, 2, none⟩ = some (.int .i64 p.d.sch) := HB2.out.cellL 2 rfl
 have b3 : ∀ e : Later V2, e.x.cell? ⟨w.heap.size, 3, none⟩ = some (str p.d.name) := HB2.out.cellL 3 rfl
 have b4 : ∀ e : Later V2, e.x.cell? ⟨w.heap.size, 4, none⟩ = some (.int .u64 (p.d.node : Int)) := HB2.out.cellL 4 rfl
 have b5 : ∀ e : Later V2, e.x.cell? ⟨w.heap.size, 5, none⟩ = some (.int .u64 (p.d.svc : Int)) := HB2.out.cellL 5 rfl
 have b6 : ∀ e : Later V2, e.x.cell? ⟨w.heap.size, 6, none⟩ = some (.int .i64 p.s.sch) := HB2.out.cellL 6 rfl
 have b7 : ∀ e : Later V2, e.x.cell? ⟨w.heap.size, 7, none⟩ = some (str p.s.name) := HB2.out.cellL 7 rfl
 have b8 : ∀ e : Later V2, e.x.cell? ⟨w.heap.size, 8, none⟩ = some (.int .u64 (p.s.node : Int)) := HB2.out.cellL 8 rfl
 have b9 : ∀ e : Later V2, e.x.cell? ⟨w.heap.size, 9, none⟩ = some (.int .u64 (p.s.svc : Int)) := HB2.out.cellL 9 rfl
 have b10 : ∀ e : Later V2, e.x.cell? ⟨w.heap.size, 10, none⟩ = some (.int .i64 p.r.sch) := HB2.out.cellL 10 rfl
 have b11 : ∀ e : Later V2, e.x.cell? ⟨w.heap.size, 11, none⟩ = some (str p.r.name) := HB2.out.cellL 11 rfl
 have b12 : ∀ e : Later V2, e.x.cell? ⟨w.heap.size, 12, none⟩ = some (.int .u64 (p.r.node : Int)) := HB2.out.cellL 12 rfl
 have b13 : ∀ e : Later V2, e.x.cell? ⟨w.heap.size, 13, none⟩ = some (.int .u64 (p.r.svc : Int)) := HB2.out.cellL 13 rfl
 have b14 : ∀ e : Later V2, e.x.cell? ⟨w.heap.size, 14, none⟩ = some (.int .u64 (p.t : Int)) := HB2.out.cellL 14 rfl
 have b15 : ∀ e : Later V2, e.x.cell? ⟨w.heap.size, 15, none⟩ = some (.int .u64 (p.q : Int)) := HB2.out.cellL 15 rfl
 have b16 : ∀ e : Later V2, e.x.cell? ⟨w.heap.size, 16, none⟩ = some (.int .u64 (p.l : Int)) := HB2.out.cellL 16 rfl
 have b17 : ∀ e : Later V2, e.x.cell? ⟨w.heap.size, 17, none⟩ = some (.int .u64 (p.o : Int)) := HB2.out.cellL 17 rfl
 have b18 : ∀ e : Later V2, e.x.cell? ⟨w.heap.size, 18, none⟩ = some (.int .u64 (p.n : Int)) := HB2.out.cellL 18 rfl
 obtain ⟨e0, he0⟩ := Later.self V2
 have HAJ : Hid (∀ (e : Later V2) (i : Nat), i < 5 → e.x.cell? ⟨w.heap.size + 1, i, none⟩ = some (.int .u64 ((([p.t, p.q, p.l, p.o, p.n][i]?).getD 0 : Nat) : Int))) := fun e i hi => by
  rw [(HA.out.later e).cell i]
  match i, hi with
  | 0, _ => rfl
  | 1, _ => rfl
  | 2, _ => rfl
  | 3, _ => rfl
  | 4, _ => rfl
 go_loopw [17] (fun s17 wr => ∃ i : Nat, s17 = .int .i64 (i : Int) ∧ Hid (i ≤ 5 ∧ ∀ j, j < i → ([p.t, p.q, p.l, p.o, p.n][j]?).getD 0 ≤ 1099511627776) ∧ ∃ e : Later V2, wr = e.x) (fun s17 _ => 5 - (intOf s17).toNat)
 case atStart => exact ⟨0, rfl, (show Hid _ from ⟨by omega, fun j hj => by omega⟩), e0, he0⟩
 case round =>
  clear he0 e0
  obtain ⟨i, rfl, hi, e, rfl⟩ := hrel
  have HE := HE2
  have i0 : (0 : Int) ≤ (i : Int) := by omega
  have i5 : (i : Int) ≤ 5 := by have := hi.out.1; omega
  by_cases hlt : i < 5
  ·
   have tc : decide ((i : Int) < 5) = true := decide_eq_true (by omega)
   have i1 : (i : Int) < 5 := by omega
   have HJ := fun e => HAJ.out e i hlt
   obtain ⟨x, hx⟩ : ∃ x, ([p.t, p.q, p.l, p.o, p.n][i]?).getD 0 = x := ⟨_, rfl⟩
   rw [hx] at HJ
   have HX := hid hx
   have HLT := hid hlt
   clear hx hlt
   by_cases hx : 1099511627776 < x
   ·
    have ya : decide ((1099511627776 : Int) < (x : Int)) = true := decide_eq_true (by omega)
    have yb : ((1099511627776 : Int) < (x : Int)) = True := eq_true (by omega)
    have HR : Hid (p.ranged = false) := by
     unfold Hid PV.ranged
     have h5 := HLT.out
     have hX := HX.out
     match i, h5 with
     | 0, _ => have hX : p.t = x := hX; simp; omega
     | 1, _ => have hX : p.q = x := hX; simp; omega
     | 2, _ => have hX : p.l = x := hX; simp; omega
     | 3, _ => have hX : p.o = x := hX; simp; omega
     | 4, _ => have hX : p.n = x := hX; simp; omega
    clear hx
    go_wp2_with fail
    go_ret
    exact Ret.mk (by rw [HR.out]; rfl) (HE.out.trans e.h)
   ·
    have ya : decide ((1099511627776 : Int) < (x : Int)) = false := decide_eq_false (by omega)
    have yb : ((1099511627776 : Int) < (x : Int)) = False := eq_false (by omega)
    have HN := hid hx
    clear hx
    go_wp2_with fail
    go_roundw
    case rel => exact ⟨i + 1, by go_num, (show Hid _ from ⟨HLT.out, fun j hj => by
     by_cases hji : j = i
     · subst hji; rw [HX.out]; have := HN.out; omega
     · exact hi.out.2 j (by omega)⟩), e, rfl⟩
    case measure => have := HLT.out; simp [intOf]; omega
  ·
   obtain rfl : i = 5 := by have := hi.out.1; omega
   have HL : Hid (p.t ≤ 1099511627776 ∧ p.q ≤ 1099511627776 ∧ p.l ≤ 1099511627776 ∧ p.o ≤ 1099511627776 ∧ p.n ≤ 1099511627776) := by
    have h := hi.out.2
    have a0 : p.t ≤ _ := h 0 (by omega)
    have a1 : p.q ≤ _ := h 1 (by omega)
    have a2 : p.l ≤ _ := h 2 (by omega)
    have a3 : p.o ≤ _ := h 3 (by omega)
    have a4 : p.n ≤ _ := h 4 (by omega)
    exact ⟨a0, a1, a2, a3, a4⟩
   clear hlt HAJ i0 i5 hi
   go_upto_region 7 with fail
   cases hx : p.d.ok with
   | false =>
    rw [hx] at KD
    have HX := hid hx
    clear hx
    have HS : Hid (p.ranged = false) := by
     unfold Hid PV.ranged
     rw [HX.out]; simp
    go_wp2_with (go_at_call 114; first | ((with_reducible refine (Ret.later (KD.out _)).mono ?_); rintro x _ ⟨rfl, e, rfl⟩) | ((with_reducible refine (Ret.later (KS.out _)).mono ?_); rintro x _ ⟨rfl, e, rfl⟩) | ((with_reducible refine (Ret.later (KR.out _)).mono ?_); rintro x _ ⟨rfl, e, rfl⟩))
    go_ret
    exact Ret.mk (by rw [HS.out]; rfl) (HE.out.trans e.h)
   | true =>
    rw [hx] at KD
    have Xd := hid hx
    clear hx
    cases hx : p.s.ok with
    | false =>
     rw [hx] at KS
     have HX := hid hx
     clear hx
     have HS : Hid (p.ranged = false) := by
      unfold Hid PV.ranged
      rw [HX.out]; simp
     go_wp2_with (go_at_call 114; first | ((with_reducible refine (Ret.later (KD.out _)).mono ?_); rintro x _ ⟨rfl, e, rfl⟩) | ((with_reducible refine (Ret.later (KS.out _)).mono ?_); rintro x _ ⟨rfl, e, rfl⟩) | ((with_reducible refine (Ret.later (KR.out _)).mono ?_); rintro x _ ⟨rfl, e, rfl⟩))
     go_ret
     exact Ret.mk (by rw [HS.out]; rfl) (HE.out.trans e.h)
    | true =>
     rw [hx] at KS
     have Xs := hid hx
     clear hx
     cases hx : p.r.ok with
     | false =>
      rw [hx] at KR
      have HX := hid hx
      clear hx
      have HS : Hid (p.ranged = false) := by
       unfold Hid PV.ranged
       rw [HX.out]; simp
      go_wp2_with (go_at_call 114; first | ((with_reducible refine (Ret.later (KD.out _)).mono ?_); rintro x _ ⟨rfl, e, rfl⟩) | ((with_reducible refine (Ret.later (KS.out _)).mono ?_); rintro x _ ⟨rfl, e, rfl⟩) | ((with_reducible refine (Ret.later (KR.out _)).mono ?_); rintro x _ ⟨rfl, e, rfl⟩))
      go_ret
      exact Ret.mk (by rw [HS.out]; rfl) (HE.out.trans e.h)
     | true =>
      rw [hx] at KR
      have Xr := hid hx
      clear hx
      by_cases hx : p.crc < 0
      ·
       have ua : decide (0 ≤ p.crc) = false := decide_eq_false (by omega)
       have ub : (0 ≤ p.crc) = False := eq_false (by omega)
       have HX := hid hx
       clear hx
       have HS : Hid (p.ranged = false) := by
        unfold Hid PV.ranged
        have := HX.out; simp; omega
       go_wp2_with (go_at_call 114; first | ((with_reducible refine (Ret.later (KD.out _)).mono ?_); rintro x _ ⟨rfl, e, rfl⟩) | ((with_reducible refine (Ret.later (KS.out _)).mono ?_); rintro x _ ⟨rfl, e, rfl⟩) | ((with_reducible refine (Ret.later (KR.out _)).mono ?_); rintro x _ ⟨rfl, e, rfl⟩))
       go_ret
       exact Ret.mk (by rw [HS.out]; rfl) (HE.out.trans e.h)
      have ua : decide (0 ≤ p.crc) = true := decide_eq_true (by omega)
      have ub : (0 ≤ p.crc) = True := eq_true (by omega)
      have X1 := hid hx
      clear hx
      by_cases hx : 2 < p.crc
      ·
       have va : decide (p.crc ≤ 2) = false := decide_eq_false (by omega)
       have vb : (p.crc ≤ 2) = False := eq_false (by omega)
       have HX := hid hx
       clear hx
       have HS : Hid (p.ranged = false) := by
        unfold Hid PV.ranged
        have := HX.out; simp; omega
       go_wp2_with (go_at_call 114; first | ((with_reducible refine (Ret.later (KD.out _)).mono ?_); rintro x _ ⟨rfl, e, rfl⟩) | ((with_reducible refine (Ret.later (KS.out _)).mono ?_); rintro x _ ⟨rfl, e, rfl⟩) | ((with_reducible refine (Ret.later (KR.out _)).mono ?_); rintro x _ ⟨rfl, e, rfl⟩))
       go_ret
       exact Ret.mk (by rw [HS.out]; rfl) (HE.out.trans e.h)
      have va : decide (p.crc ≤ 2) = true := decide_eq_true (by omega)
      have vb : (p.crc ≤ 2) = True := eq_true (by omega)
      have X2 := hid hx
      clear hx
      by_cases hx : 2097152 ≤ p.fl
      ·
       have xa : decide ((p.fl : Int) < 2097152) = false := decide_eq_false (by omega)
       have xb : ((p.fl : Int) < 2097152) = False := eq_false (by omega)
       have HX := hid hx
       clear hx
       have HS : Hid (p.ranged = false) := by
        unfold Hid PV.ranged
        have := HX.out; simp; omega
       go_wp2_with (go_at_call 114; first | ((with_reducible refine (Ret.later (KD.out _)).mono ?_); rintro x _ ⟨rfl, e, rfl⟩) | ((with_reducible refine (Ret.later (KS.out _)).mono ?_); rintro x _ ⟨rfl, e, rfl⟩) | ((with_reducible refine (Ret.later (KR.out _)).mono ?_); rintro x _ ⟨rfl, e, rfl⟩))
       go_ret
       exact Ret.mk (by rw [HS.out]; rfl) (HE.out.trans e.h)
      have xa : decide ((p.fl : Int) < 2097152) = true := decide_eq_true (by omega)
      have xb : ((p.fl : Int) < 2097152) = True := eq_true (by omega)
      have X3 := hid hx
      clear hx
      have HS : Hid (p.ranged = true) := by
       unfold Hid PV.ranged
       rw [Xd.out, Xs.out, Xr.out]; have := X1.out; have := X2.out; have := X3.out; have := HL.out; simp; omega
      go_wp2_with (go_at_call 114; first | ((with_reducible refine (Ret.later (KD.out _)).mono ?_); rintro x _ ⟨rfl, e, rfl⟩) | ((with_reducible refine (Ret.later (KS.out _)).mono ?_); rintro x _ ⟨rfl, e, rfl⟩) | ((with_reducible refine (Ret.later (KR.out _)).mono ?_); rintro x _ ⟨rfl, e, rfl⟩))
      go_ret
      exact Ret.mk (by rw [HS.out]; rfl) (HE.out.trans e.h)
set_option maxRecDepth 20000 in
set_option maxHeartbeats 1600000 in
theorem cPriRight_any (p : PV) (hnl : Hid (p.d.name.length < 4611686018427387904 ∧ p.s.name.length < 4611686018427387904 ∧ p.r.name.length < 4611686018427387904)) (hf : p.fl < 18446744073709551616) (w : World) : Calls Tryz.prog 44 #[.agg p.c] w (Ret (.int .i64 p.right) w) := by
 have KR := hid (fun W => ranged_any p hnl W)
 have hfl := hid hf
 have HNZ : Hid (p.ranged = true → p.none → p.s.node = 0 ∧ p.s.svc = 0) := fun hr hn => by
  have ho := (PV.ranged_spec hr).2.1
  unfold EV.ok at ho
  rw [if_pos hn.1] at ho
  simp only [Bool.and_eq_true, decide_eq_true_eq] at ho
  exact ⟨ho.1.1, ho.1.2⟩
 have HE := hid ((Mod.refl [] w).alloc (.cells p.c 26))
 have HB := hid (Blk.new w 26 p.c)
 have f0 : (0 : Int) ≤ (p.fl : Int) := by omega
 clear hf
 go_enter Tryz.func44, Tryz.ntmps44
 go_upto_region 1 with fail
 generalize w.alloc (.cells p.c 26) = V at *
 have b0 : ∀ e : Later V, e.x.cell? ⟨w.heap.size, 0, none⟩ = some (.int .u64 (p.fl : Int)) := HB.out.cellL 0 rfl
 have b1 : ∀ e : Later V, e.x.cell? ⟨w.heap.size, 1, none⟩ = some (.int .i64 p.crc) := HB.out.cellL 1 rfl
 have b2 : ∀ e : Later V, e.x.cell? ⟨w.heap.size, 2, none⟩ = some (.int .i64 p.d.sch) := HB.out.cellL 2 rfl
 have b3 : ∀ e : Later V, e.x.cell? ⟨w.heap.size, 3, none⟩ = some (str p.d.name) := HB.out.cellL 3 rfl
 have b4 : ∀ e : Later V, e.x.cell? ⟨w.heap.size, 4, none⟩ = some (.int .u64 (p.d.node : Int)) := HB.out.cellL 4 rfl
 have b5 : ∀ e : Later V, e.x.cell? ⟨w.heap.size, 5, none⟩ = some (.int .u64 (p.d.svc : Int)) := HB.out.cellL 5 rfl
 have b6 : ∀ e : Later V, e.x.cell? ⟨w.heap.size, 6, none⟩ = some (.int .i64 p.s.sch) := HB.out.cellL 6 rfl
 have b7 : ∀ e : Later V, e.x.cell? ⟨w.heap.size, 7, none⟩ = some (str p.s.name) := HB.out.cellL 7 rfl
 have b8 : ∀ e : Later V, e.x.cell? ⟨w.heap.size, 8, none⟩ = some (.int .u64 (p.s.node : Int)) := HB.out.cellL 8 rfl
 have b9 : ∀ e : Later V, e.x.cell? ⟨w.heap.size, 9, none⟩ = some (.int .u64 (p.s.svc : Int)) := HB.out.cellL 9 rfl
 have b10 : ∀ e : Later V, e.x.cell? ⟨w.heap.size, 10, none⟩ = some (.int .i64 p.r.sch) := HB.out.cellL 10 rfl
 have b11 : ∀ e : Later V, e.x.cell? ⟨w.heap.size, 11, none⟩ = some (str p.r.name) := HB.out.cellL 11 rfl
 have b12 : ∀ e : Later V, e.x.cell? ⟨w.heap.size, 12, none⟩ = some (.int .u64 (p.r.node : Int)) := HB.out.cellL 12 rfl
 have b13 : ∀ e : Later V, e.x.cell? ⟨w.heap.size, 13, none⟩ = some (.int .u64 (p.r.svc : Int)) := HB.out.cellL 13 rfl
 have b14 : ∀ e : Later V, e.x.cell? ⟨w.heap.size, 14, none⟩ = some (.int .u64 (p.t : Int)) := HB.out.cellL 14 rfl
 have b15 : ∀ e : Later V, e.x.cell? ⟨w.heap.size, 15, none⟩ = some (.int .u64 (p.q : Int)) := HB.out.cellL 15 rfl
 have b16 : ∀ e : Later V, e.x.cell? ⟨w.heap.size, 16, none⟩ = some (.int .u64 (p.l : Int)) := HB.out.cellL 16 rfl
 have b17 : ∀ e : Later V, e.x.cell? ⟨w.heap.size, 17, none⟩ = some (.int .u64 (p.o : Int)) := HB.out.cellL 17 rfl
 have b18 : ∀ e : Later V, e.x.cell? ⟨w.heap.size, 18, none⟩ = some (.int .u64 (p.n : Int)) := HB.out.cellL 18 rfl
 have HBL : Hid (∀ e : Later V, Blk e.x w.heap.size 26 p.c) := fun e => HB.out.later e
 obtain ⟨e, he0⟩ := Later.self V
 rw [he0]
 clear he0
 obtain ⟨r, hr, hrT⟩ := and_tells hfl.out
 have HTB : Hid ((r != 0) = true ↔ (p.fl / 16384 % 2 = 1 ∨ p.fl / 262144 % 2 = 1)) := by unfold Hid; rw [bne_iff_ne, Ne, hrT, Classical.not_not]
 clear hrT
 by_cases hx : p.fl % 2 = 1
 all_goals first | (have a1 : bits .and .u64 (p.fl : Int) 1 = 1 := by (have h := andP_yes (k := 0) hfl.out (by omega) (by simpa using hx); simpa using h)) | (have a1 : bits .and .u64 (p.fl : Int) 1 = 0 := by (have h := andP_no (k := 0) hfl.out (by omega) (by have : p.fl % 2 = 0 := (by omega); simpa using this); simpa using h))
 all_goals have F1 := hid hx
 all_goals clear hx
 all_goals refine wp_region_later (by kernel_rfl) (by kernel_rfl) ?_
 all_goals repeat (go_big_quiet_step (fail))
 all_goals refine wpQuiet_nil ?_
 all_goals rintro _ ⟨e, rfl⟩
 all_goals generalize (r != 0) = TB at *
 all_goals clear hr
 all_goals cases hR : p.ranged
 all_goals rw [hR] at KR
 all_goals have HR := hid hR
 all_goals clear hR
 all_goals go_upto_if 13 with (first | (refine wpList_row (by rfl) 26 _ rfl _ rfl (HBL.out _) Tryz.underlying26 rfl (by kernel_rfl) ?_) | (go_at_call 78; (with_reducible refine (Ret.later (KR.out _)).mono ?_); rintro x _ ⟨rfl, e, rfl⟩))
 ·
  have HS : Hid (p.right = 1) := by
   unfold Hid PV.right
   rw [if_pos HR.out]
  go_wp2_with fail
  go_ret
  exact Ret.mk (by rw [HS.out]; rfl) (HE.out.trans e.h)
 ·
  have HNZ := hid (HNZ.out HR.out)
  by_cases hx : p.fl / 4 % 2 = 1
  ·
   have a4 : bits .and .u64 (p.fl : Int) 4 = 4 := by have h := andP_yes (k := 2) hfl.out (by omega) (by simpa using hx); simpa using h
   have X4 := hid hx
   clear hx
   have HS : Hid (p.right = 8) := by
    unfold Hid PV.right
    rw [if_neg (by rw [HR.out]; decide), if_pos (.inl ⟨F1.out, .inl X4.out⟩)]
   go_wp2_with fail
   go_ret
   exact Ret.mk (by rw [HS.out]; rfl) (HE.out.trans e.h)
  have a4 : bits .and .u64 (p.fl : Int) 4 = 0 := by have h := andP_no (k := 2) hfl.out (by omega) (by have : p.fl / 4 % 2 = 0 := (by omega); simpa using this); simpa using h
  have X4 := hid hx
  clear hx
  by_cases hy : p.n ≤ p.o
  ·
   have za : decide (p.n ≤ p.o) = true := decide_eq_true (by omega)
   have zb : (p.n ≤ p.o) = True := eq_true (by omega)
   have Y := hid hy
   clear hy
   have HS : Hid (p.right = 8) := by
    unfold Hid PV.right
    rw [if_neg (by rw [HR.out]; decide), if_pos (.inl ⟨F1.out, .inr Y.out⟩)]
   go_wp2_with fail
   go_ret
   exact Ret.mk (by rw [HS.out]; rfl) (HE.out.trans e.h)
  have za : decide (p.n ≤ p.o) = false := decide_eq_false (by omega)
  have zb : (p.n ≤ p.o) = False := eq_false (by omega)
  have G0 : Hid (¬ ((p.fl % 2 = 1 ∧ (p.fl / 4 % 2 = 1 ∨ p.n ≤ p.o)) ∨ (¬ p.fl % 2 = 1 ∧ (0 < p.o ∨ 0 < p.n)))) := by have := F1.out; have := X4.out; unfold Hid; omega
  clear hy
  go_upto_region 9 with fail
  by_cases hN : p.none
  ·
   have n1 : p.s.sch = 1 := hN.1
   have n2 : p.s.name = [110, 111, 110, 101] := hN.2
   obtain ⟨n3, n4⟩ := HNZ.out hN
   rw [n1] at b6
   rw [n2] at b7
   rw [n3] at b8
   rw [n4] at b9
   clear n1 n2 n3 n4
   have HN := hid hN
   clear hN
   cases hT : TB with
   | true =>
    have XT : Hid (p.fl / 16384 % 2 = 1 ∨ p.fl / 262144 % 2 = 1) := HTB.out.1 hT
    subst hT
    refine wp_region_later (by kernel_rfl) (by kernel_rfl) ?_
    repeat (go_big_quiet_step ((go_at_call 79; exact Ret.later (eidNoneP_any _))))
    refine wpQuiet_nil ?_
    rintro _ ⟨e, rfl⟩
    have HS : Hid (p.right = 8) := by
     unfold Hid PV.right
     rw [if_neg (by rw [HR.out]; decide), if_neg (by have := G0.out; omega), if_pos (.inl ⟨XT.out, .inl HN.out⟩)]
    go_wp2_with fail
    go_ret
    exact Ret.mk (by rw [HS.out]; rfl) (HE.out.trans e.h)
   | false =>
    have XT : Hid (¬ (p.fl / 16384 % 2 = 1 ∨ p.fl / 262144 % 2 = 1)) := fun h => by have := HTB.out.2 h; rw [hT] at this; cases this
    subst hT
    refine wp_region_later (by kernel_rfl) (by kernel_rfl) ?_
    repeat (go_big_quiet_step ((go_at_call 79; exact Ret.later (eidNoneP_any _))))
    refine wpQuiet_nil ?_
    rintro _ ⟨e, rfl⟩
    have HS : Hid (p.right = 8) := by
     unfold Hid PV.right
     rw [if_neg (by rw [HR.out]; decide), if_neg (by have := G0.out; omega), if_pos (.inr ⟨HN.out, X4.out⟩)]
    go_wp2_with fail
    go_ret
    exact Ret.mk (by rw [HS.out]; rfl) (HE.out.trans e.h)
  ·
   have HN := hid hN
   by_cases hS : p.s.sch = 1
   ·
    have hM : ¬ p.s.name = [110, 111, 110, 101] := fun h => hN ⟨hS, h⟩
    rw [hS] at b6
    have ma : ((p.s.name) == ([110, 111, 110, 101])) = false := by rw [beq_eq_false_iff_ne]; exact hM
    have mb : ((p.s.name) = ([110, 111, 110, 101])) = False := eq_false (by exact hM)
    have mc : ((p.s.name) != ([110, 111, 110, 101])) = true := by rw [bne_iff_ne]; exact hM
    clear hM hS hN
    refine wp_region_later (by kernel_rfl) (by kernel_rfl) ?_
    repeat (go_big_quiet_step ((go_at_call 79; exact Ret.later (eidNoneP_any _))))
    refine wpQuiet_nil ?_
    rintro _ ⟨e, rfl⟩
    cases hT : TB with
    | true =>
     have XT : Hid (p.fl / 16384 % 2 = 1 ∨ p.fl / 262144 % 2 = 1) := HTB.out.1 hT
     subst hT
     by_cases hx : p.fl / 2 % 2 = 1
     ·
      have a2 : bits .and .u64 (p.fl : Int) 2 = 2 := by have h := andP_yes (k := 1) hfl.out (by omega) (by simpa using hx); simpa using h
      have X2 := hid hx
      clear hx
      have HS : Hid (p.right = 8) := by
       unfold Hid PV.right
       rw [if_neg (by rw [HR.out]; decide), if_neg (by have := G0.out; omega), if_pos (.inl ⟨XT.out, .inr X2.out⟩)]
      go_wp2_with fail
      go_ret
      exact Ret.mk (by rw [HS.out]; rfl) (HE.out.trans e.h)
     ·
      have a2 : bits .and .u64 (p.fl : Int) 2 = 0 := by have h := andP_no (k := 1) hfl.out (by omega) (by have : p.fl / 2 % 2 = 0 := (by omega); simpa using this); simpa using h
      have X2 := hid hx
      clear hx
      have HS : Hid (p.right = 0) := by
       unfold Hid PV.right
       rw [if_neg (by rw [HR.out]; decide), if_neg (by have := G0.out; omega), if_neg (fun h => h.elim (fun h => h.2.elim HN.out X2.out) (fun h => HN.out h.1))]
      go_wp2_with fail
      go_ret
      exact Ret.mk (by rw [HS.out]; rfl) (HE.out.trans e.h)
    | false =>
     have XT : Hid (¬ (p.fl / 16384 % 2 = 1 ∨ p.fl / 262144 % 2 = 1)) := fun h => by have := HTB.out.2 h; rw [hT] at this; cases this
     subst hT
     have HS : Hid (p.right = 0) := by
      unfold Hid PV.right
      rw [if_neg (by rw [HR.out]; decide), if_neg (by have := G0.out; omega), if_neg (fun h => h.elim (fun h => XT.out h.1) (fun h => HN.out h.1))]
     go_wp2_with fail
     go_ret
     exact Ret.mk (by rw [HS.out]; rfl) (HE.out.trans e.h)
   ·
    have ma : ((p.s.sch) == (1)) = false := by rw [beq_eq_false_iff_ne]; omega
    have mb : ((p.s.sch) = (1)) = False := eq_false (by omega)
    have mc : ((p.s.sch) != (1)) = true := by rw [bne_iff_ne]; omega
    clear hS hN
    refine wp_region_later (by kernel_rfl) (by kernel_rfl) ?_
    repeat (go_big_quiet_step ((go_at_call 79; exact Ret.later (eidNoneP_any _))))
    refine wpQuiet_nil ?_
    rintro _ ⟨e, rfl⟩
    cases hT : TB with
    | true =>
     have XT : Hid (p.fl / 16384 % 2 = 1 ∨ p.fl / 262144 % 2 = 1) := HTB.out.1 hT
     subst hT
     by_cases hx : p.fl / 2 % 2 = 1
     ·
      have a2 : bits .and .u64 (p.fl : Int) 2 = 2 := by have h := andP_yes (k := 1) hfl.out (by omega) (by simpa using hx); simpa using h
      have X2 := hid hx
      clear hx
      have HS : Hid (p.right = 8) := by
       unfold Hid PV.right
       rw [if_neg (by rw [HR.out]; decide), if_neg (by have := G0.out; omega), if_pos (.inl ⟨XT.out, .inr X2.out⟩)]
      go_wp2_with fail
      go_ret
      exact Ret.mk (by rw [HS.out]; rfl) (HE.out.trans e.h)
     ·
      have a2 : bits .and .u64 (p.fl : Int) 2 = 0 := by have h := andP_no (k := 1) hfl.out (by omega) (by have : p.fl / 2 % 2 = 0 := (by omega); simpa using this); simpa using h
      have X2 := hid hx
      clear hx
      have HS : Hid (p.right = 0) := by
       unfold Hid PV.right
       rw [if_neg (by rw [HR.out]; decide), if_neg (by have := G0.out; omega), if_neg (fun h => h.elim (fun h => h.2.elim HN.out X2.out) (fun h => HN.out h.1))]
      go_wp2_with fail
      go_ret
      exact Ret.mk (by rw [HS.out]; rfl) (HE.out.trans e.h)
    | false =>
     have XT : Hid (¬ (p.fl / 16384 % 2 = 1 ∨ p.fl / 262144 % 2 = 1)) := fun h => by have := HTB.out.2 h; rw [hT] at this; cases this
     subst hT
     have HS : Hid (p.right = 0) := by
      unfold Hid PV.right
      rw [if_neg (by rw [HR.out]; decide), if_neg (by have := G0.out; omega), if_neg (fun h => h.elim (fun h => XT.out h.1) (fun h => HN.out h.1))]
     go_wp2_with fail
     go_ret
     exact Ret.mk (by rw [HS.out]; rfl) (HE.out.trans e.h)
 ·
  have HS : Hid (p.right = 1) := by
   unfold Hid PV.right
   rw [if_pos HR.out]
  go_wp2_with fail
  go_ret
  exact Ret.mk (by rw [HS.out]; rfl) (HE.out.trans e.h)
 ·
  have HNZ := hid (HNZ.out HR.out)
  by_cases hx : p.o = 0
  ·
   by_cases hy : p.n = 0
   ·
    have G0 : Hid (¬ ((p.fl % 2 = 1 ∧ (p.fl / 4 % 2 = 1 ∨ p.n ≤ p.o)) ∨ (¬ p.fl % 2 = 1 ∧ (0 < p.o ∨ 0 < p.n)))) := by have := F1.out; unfold Hid; omega
    rw [hx] at b17
    rw [hy] at b18
    clear hx hy
    go_upto_region 9 with fail
    by_cases hN : p.none
    ·
     have n1 : p.s.sch = 1 := hN.1
     have n2 : p.s.name = [110, 111, 110, 101] := hN.2
     obtain ⟨n3, n4⟩ := HNZ.out hN
     rw [n1] at b6
     rw [n2] at b7
     rw [n3] at b8
     rw [n4] at b9
     clear n1 n2 n3 n4
     have HN := hid hN
     clear hN
     cases hT : TB with
     | true =>
      have XT : Hid (p.fl / 16384 % 2 = 1 ∨ p.fl / 262144 % 2 = 1) := HTB.out.1 hT
      subst hT
      refine wp_region_later (by kernel_rfl) (by kernel_rfl) ?_
      repeat (go_big_quiet_step ((go_at_call 79; exact Ret.later (eidNoneP_any _))))
      refine wpQuiet_nil ?_
      rintro _ ⟨e, rfl⟩
      have HS : Hid (p.right = 8) := by
       unfold Hid PV.right
       rw [if_neg (by rw [HR.out]; decide), if_neg (by have := G0.out; omega), if_pos (.inl ⟨XT.out, .inl HN.out⟩)]
      go_wp2_with fail
      go_ret
      exact Ret.mk (by rw [HS.out]; rfl) (HE.out.trans e.h)
     | false =>
      have XT : Hid (¬ (p.fl / 16384 % 2 = 1 ∨ p.fl / 262144 % 2 = 1)) := fun h => by have := HTB.out.2 h; rw [hT] at this; cases this
      subst hT
      by_cases hx : p.fl / 4 % 2 = 1
      ·
       have a4 : bits .and .u64 (p.fl : Int) 4 = 4 := by have h := andP_yes (k := 2) hfl.out (by omega) (by simpa using hx); simpa using h
       have X4 := hid hx
       clear hx
       refine wp_region_later (by kernel_rfl) (by kernel_rfl) ?_
       repeat (go_big_quiet_step ((go_at_call 79; exact Ret.later (eidNoneP_any _))))
       refine wpQuiet_nil ?_
       rintro _ ⟨e, rfl⟩
       have HS : Hid (p.right = 0) := by
        unfold Hid PV.right
        rw [if_neg (by rw [HR.out]; decide), if_neg (by have := G0.out; omega), if_neg (fun h => h.elim (fun h => XT.out h.1) (fun h => h.2 X4.out))]
       go_wp2_with fail
       go_ret
       exact Ret.mk (by rw [HS.out]; rfl) (HE.out.trans e.h)
      ·
       have a4 : bits .and .u64 (p.fl : Int) 4 = 0 := by have h := andP_no (k := 2) hfl.out (by omega) (by have : p.fl / 4 % 2 = 0 := (by omega); simpa using this); simpa using h
       have X4 := hid hx
       clear hx
       refine wp_region_later (by kernel_rfl) (by kernel_rfl) ?_
       repeat (go_big_quiet_step ((go_at_call 79; exact Ret.later (eidNoneP_any _))))
       refine wpQuiet_nil ?_
       rintro _ ⟨e, rfl⟩
       have HS : Hid (p.right = 8) := by
        unfold Hid PV.right
        rw [if_neg (by rw [HR.out]; decide), if_neg (by have := G0.out; omega), if_pos (.inr ⟨HN.out, X4.out⟩)]
       go_wp2_with fail
       go_ret
       exact Ret.mk (by rw [HS.out]; rfl) (HE.out.trans e.h)
    ·
     have HN := hid hN
     by_cases hS : p.s.sch = 1
     ·
      have hM : ¬ p.s.name = [110, 111, 110, 101] := fun h => hN ⟨hS, h⟩
      rw [hS] at b6
      have ma : ((p.s.name) == ([110, 111, 110, 101])) = false := by rw [beq_eq_false_iff_ne]; exact hM
      have mb : ((p.s.name) = ([110, 111, 110, 101])) = False := eq_false (by exact hM)
      have mc : ((p.s.name) != ([110, 111, 110, 101])) = true := by rw [bne_iff_ne]; exact hM
      clear hM hS hN
      refine wp_region_later (by kernel_rfl) (by kernel_rfl) ?_
      repeat (go_big_quiet_step ((go_at_call 79; exact Ret.later (eidNoneP_any _))))
      refine wpQuiet_nil ?_
      rintro _ ⟨e, rfl⟩
      cases hT : TB with
      | true =>
       have XT : Hid (p.fl / 16384 % 2 = 1 ∨ p.fl / 262144 % 2 = 1) := HTB.out.1 hT
       subst hT
       by_cases hx : p.fl / 2 % 2 = 1
       ·
        have a2 : bits .and .u64 (p.fl : Int) 2 = 2 := by have h := andP_yes (k := 1) hfl.out (by omega) (by simpa using hx); simpa using h
        have X2 := hid hx
        clear hx
        have HS : Hid (p.right = 8) := by
         unfold Hid PV.right
         rw [if_neg (by rw [HR.out]; decide), if_neg (by have := G0.out; omega), if_pos (.inl ⟨XT.out, .inr X2.out⟩)]
        go_wp2_with fail
        go_ret
        exact Ret.mk (by rw [HS.out]; rfl) (HE.out.trans e.h)
       ·
        have a2 : bits .and .u64 (p.fl : Int) 2 = 0 := by have h := andP_no (k := 1) hfl.out (by omega) (by have : p.fl / 2 % 2 = 0 := (by omega); simpa using this); simpa using h
        have X2 := hid hx
        clear hx
        have HS : Hid (p.right = 0) := by
         unfold Hid PV.right
         rw [if_neg (by rw [HR.out]; decide), if_neg (by have := G0.out; omega), if_neg (fun h => h.elim (fun h => h.2.elim HN.out X2.out) (fun h => HN.out h.1))]
        go_wp2_with fail
        go_ret
        exact Ret.mk (by rw [HS.out]; rfl) (HE.out.trans e.h)
      | false =>
       have XT : Hid (¬ (p.fl / 16384 % 2 = 1 ∨ p.fl / 262144 % 2 = 1)) := fun h => by have := HTB.out.2 h; rw [hT] at this; cases this
       subst hT
       have HS : Hid (p.right = 0) := by
        unfold Hid PV.right
        rw [if_neg (by rw [HR.out]; decide), if_neg (by have := G0.out; omega), if_neg (fun h => h.elim (fun h => XT.out h.1) (fun h => HN.out h.1))]
       go_wp2_with fail
       go_ret
       exact Ret.mk (by rw [HS.out]; rfl) (HE.out.trans e.h)
     ·
      have ma : ((p.s.sch) == (1)) = false := by rw [beq_eq_false_iff_ne]; omega
      have mb : ((p.s.sch) = (1)) = False := eq_false (by omega)
      have mc : ((p.s.sch) != (1)) = true := by rw [bne_iff_ne]; omega
      clear hS hN
      refine wp_region_later (by kernel_rfl) (by kernel_rfl) ?_
      repeat (go_big_quiet_step ((go_at_call 79; exact Ret.later (eidNoneP_any _))))
      refine wpQuiet_nil ?_
      rintro _ ⟨e, rfl⟩
      cases hT : TB with
      | true =>
       have XT : Hid (p.fl / 16384 % 2 = 1 ∨ p.fl / 262144 % 2 = 1) := HTB.out.1 hT
       subst hT
       by_cases hx : p.fl / 2 % 2 = 1
       ·
        have a2 : bits .and .u64 (p.fl : Int) 2 = 2 := by have h := andP_yes (k := 1) hfl.out (by omega) (by simpa using hx); simpa using h
        have X2 := hid hx
        clear hx
        have HS : Hid (p.right = 8) := by
         unfold Hid PV.right
         rw [if_neg (by rw [HR.out]; decide), if_neg (by have := G0.out; omega), if_pos (.inl ⟨XT.out, .inr X2.out⟩)]
        go_wp2_with fail
        go_ret
        exact Ret.mk (by rw [HS.out]; rfl) (HE.out.trans e.h)
       ·
        have a2 : bits .and .u64 (p.fl : Int) 2 = 0 := by have h := andP_no (k := 1) hfl.out (by omega) (by have : p.fl / 2 % 2 = 0 := (by omega); simpa using this); simpa using h
        have X2 := hid hx
        clear hx
        have HS : Hid (p.right = 0) := by
         unfold Hid PV.right
         rw [if_neg (by rw [HR.out]; decide), if_neg (by have := G0.out; omega), if_neg (fun h => h.elim (fun h => h.2.elim HN.out X2.out) (fun h => HN.out h.1))]
        go_wp2_with fail
        go_ret
        exact Ret.mk (by rw [HS.out]; rfl) (HE.out.trans e.h)
      | false =>
       have XT : Hid (¬ (p.fl / 16384 % 2 = 1 ∨ p.fl / 262144 % 2 = 1)) := fun h => by have := HTB.out.2 h; rw [hT] at this; cases this
       subst hT
       have HS : Hid (p.right = 0) := by
        unfold Hid PV.right
        rw [if_neg (by rw [HR.out]; decide), if_neg (by have := G0.out; omega), if_neg (fun h => h.elim (fun h => XT.out h.1) (fun h => HN.out h.1))]
       go_wp2_with fail
       go_ret
       exact Ret.mk (by rw [HS.out]; rfl) (HE.out.trans e.h)
   ·
    have Y := hid hy
    rw [hx] at b17
    have ga : (((p.n : Int)) == (0)) = false := by rw [beq_eq_false_iff_ne]; omega
    have gb : (((p.n : Int)) = (0)) = False := eq_false (by omega)
    have gc : (((p.n : Int)) != (0)) = true := by rw [bne_iff_ne]; omega
    have ha : decide (p.n = 0) = false := decide_eq_false (by omega)
    have hb : (p.n = 0) = False := eq_false (by omega)
    clear hx hy
    have HS : Hid (p.right = 8) := by
     unfold Hid PV.right
     rw [if_neg (by rw [HR.out]; decide), if_pos (.inr ⟨F1.out, by have := Y.out; omega⟩)]
    go_wp2_with fail
    go_ret
    exact Ret.mk (by rw [HS.out]; rfl) (HE.out.trans e.h)
  ·
   have Y := hid hx
   have ga : (((p.o : Int)) == (0)) = false := by rw [beq_eq_false_iff_ne]; omega
   have gb : (((p.o : Int)) = (0)) = False := eq_false (by omega)
   have gc : (((p.o : Int)) != (0)) = true := by rw [bne_iff_ne]; omega
   have ha : decide (p.o = 0) = false := decide_eq_false (by omega)
   have hb : (p.o = 0) = False := eq_false (by omega)
   clear hx
   have HS : Hid (p.right = 8) := by
    unfold Hid PV.right
    rw [if_neg (by rw [HR.out]; decide), if_pos (.inr ⟨F1.out, by have := Y.out; omega⟩)]
   go_wp2_with fail
   go_ret
   exact Ret.mk (by rw [HS.out]; rfl) (HE.out.trans e.h)
end Go.Proofs.YtfgipgpbjfhflaaGreat


namespace Go.Proofs.YtfgipgpbjfhflaaGreat
open Go.RowKit
set_option linter.unusedVariables false
set_option linter.unusedSimpArgs false

theorem infoItem : (Tryz.prog.info? 52).map (fun i => (i.zero, i.size, i.bytes)) = some (some (.agg #[.int .i64 0, .int .u64 0, .string ⟨#[]⟩, .slice none 0 0, .bool false]), 5, 64) := by kernel_rfl

theorem ownsRow_mod {w w' : World} {S : List Nat} {base : Nat} {e : TypeId} {size : Nat} {v : Value} {n : Nat} {xs : List Value} (h : w.ownsRow base e size v n xs) (hm : Mod S w w') (hs : ∀ k, v.ownBlock = some k → k ∉ S) : w'.ownsRow base e size v n xs := by
 refine ⟨h.1, ?_⟩
 have hlt := h.lt
 rcases h.2 with h0 | ⟨g, cap, cur, rfl, hbg, hg, hnc, hcm, hcs, htake⟩
 · exact .inl h0
 · exact .inr ⟨g, cap, cur, rfl, hbg, (hm.block g (hlt g rfl).2 (hs g rfl)).trans hg, hnc, hcm, hcs, htake⟩

theorem own_form {w : World} {base : Nat} {e : TypeId} {size : Nat} {v : Value} {n : Nat} {xs : List Value} (h : w.ownsRow base e size v (n + 1) xs) : ∃ g c, v = .slice (some ⟨g, 0, none⟩) (n + 1) c ∧ base ≤ g ∧ g < w.heap.size := by
 have hlt := h.lt
 rcases h.2 with ⟨_, h0⟩ | ⟨g, cap, cur, rfl, hbg, hg, _⟩
 · cases h0
 · exact ⟨g, cap, rfl, hbg, (hlt g rfl).2⟩
theorem news5 (W : World) (t : T) (A : Option Addr) (c : Nat) : ∀ j u, [Value.int .i64 t.kind, .int .u64 (t.n : Int), str t.s, .slice A t.k c, .bool t.op][j]? = some u →
  (W.alloc (.cells (itemC t A c) 52)).cell? ((⟨W.heap.size, 0, none⟩ : Addr).add j) = some u := by
 intro j u hj
 rw [addr_add, Nat.zero_add]
 rw [(Blk.new W 52 (itemC t A c)).cell j]
 simpa using hj
theorem one5 (t : T) (A : Option Addr) (c : Nat) : ∀ u ∈ [Value.int .i64 t.kind, .int .u64 (t.n : Int), str t.s, .slice A t.k c, .bool t.op], u.oneCell' = true := by
 intro u hu
 simp at hu
 rcases hu with rfl | rfl | rfl | rfl | rfl <;> rfl

theorem own_of_blk {w : World} {g base n size : Nat} {e : TypeId} {cs : Array Value} (h : Blk w g e cs) (hb : base ≤ g) (hn : n ≤ maxLen) (hs : cs.size = n * size) : w.ownsRow base e size (.slice (some ⟨g, 0, none⟩) n n) n cs.toList :=
 ⟨by simpa using hs, .inr ⟨g, n, cs, rfl, hb, h, Nat.le_refl _, hn, hs, by rw [← hs]; exact List.take_of_length_le (by simp)⟩⟩
theorem own_cells {w : World} {g base n c size : Nat} {e : TypeId} {xs : List Value} (h : w.ownsRow base e size (.slice (some ⟨g, 0, none⟩) n c) n xs) {j : Nat} {u : Value} (hj : xs[j]? = some u) : w.cell? ⟨g, j, none⟩ = some u := by
 have := h.cells (g := g) rfl j u hj
 rw [addr_add, Nat.zero_add] at this
 exact this
/-- The row's cells: the first i items'. -/
def flatC (ch : Nat → T) (ac : Nat → Option Addr × Nat) : Nat → List Value
 | 0 => []
 | i + 1 => flatC ch ac i ++ [.int .i64 (ch i).kind, .int .u64 ((ch i).n : Int), str (ch i).s, .slice (ac i).1 (ch i).k (ac i).2, .bool (ch i).op]
theorem flatC_length (ch : Nat → T) (ac : Nat → Option Addr × Nat) (i : Nat) : (flatC ch ac i).length = i * 5 := by
 induction i with
 | zero => rfl
 | succ i ih => rw [flatC, List.length_append, ih]; simp; omega
theorem flatC_congr {ch ch' : Nat → T} {ac ac' : Nat → Option Addr × Nat} {i : Nat} (h : ∀ j, j < i → ch j = ch' j ∧ ac j = ac' j) : flatC ch ac i = flatC ch' ac' i := by
 induction i with
 | zero => rfl
 | succ i ih => rw [flatC, flatC, ih (fun j hj => h j (by omega)), (h i (by omega)).1, (h i (by omega)).2]
theorem flatC_get (ch : Nat → T) (ac : Nat → Option Addr × Nat) (i : Nat) : ∀ j, j < i → (flatC ch ac i)[j * 5]? = some (.int .i64 (ch j).kind) ∧ (flatC ch ac i)[j * 5 + 1]? = some (.int .u64 ((ch j).n : Int)) ∧ (flatC ch ac i)[j * 5 + 2]? = some (str (ch j).s) ∧
  (flatC ch ac i)[j * 5 + 3]? = some (.slice (ac j).1 (ch j).k (ac j).2) ∧ (flatC ch ac i)[j * 5 + 4]? = some (.bool (ch j).op) := by
 induction i with
 | zero => intro j hj; omega
 | succ i ih =>
  intro j hj
  have hl := flatC_length ch ac i
  rw [flatC]
  by_cases e : j = i
  ·
   subst e
   refine ⟨?_, ?_, ?_, ?_, ?_⟩ <;> (rw [List.getElem?_append_right (by omega), hl]; simp)
  ·
   have := ih j (by omega)
   refine ⟨?_, ?_, ?_, ?_, ?_⟩ <;> rw [List.getElem?_append_left (by omega)]
   · exact this.1
   · exact this.2.1
   · exact this.2.2.1
   · exact this.2.2.2.1
   · exact this.2.2.2.2

theorem flatC_idx (ch : Nat → T) (ac : Nat → Option Addr × Nat) (k : Nat) {j : Nat} {u : Value} (h : (flatC ch ac k)[j]? = some u) : ∃ i r, i < k ∧ r < 5 ∧ j = i * 5 + r := by
 have := (List.getElem?_eq_some_iff.1 h).1
 rw [flatC_length] at this
 exact ⟨j / 5, j % 5, by omega, by omega, by omega⟩
theorem flatC_news {W : World} {b o : Nat} {ch : Nat → T} {ac : Nat → Option Addr × Nat} {k : Nat} (h : ∀ i, i < k → At5 W b (o + i * 5) (ch i) (ac i).1 (ac i).2) : ∀ j u, (flatC ch ac k)[j]? = some u → W.cell? ((⟨b, o, none⟩ : Addr).add j) = some u := by
 intro j u hj
 obtain ⟨i, r, hi, hr, rfl⟩ := flatC_idx ch ac k hj
 obtain ⟨g0, g1, g2, g3, g4⟩ := flatC_get ch ac k i hi
 obtain ⟨a0, a1, a2, a3, a4⟩ := h i hi
 rw [addr_add, ← Nat.add_assoc]
 have h5 : r = 0 ∨ r = 1 ∨ r = 2 ∨ r = 3 ∨ r = 4 := by omega
 rcases h5 with rfl | rfl | rfl | rfl | rfl
 · rw [← hj, Nat.add_zero, Nat.add_zero, g0]; exact a0
 · rw [← hj, g1]; exact a1
 · rw [← hj, g2]; exact a2
 · rw [← hj, g3]; exact a3
 · rw [← hj, g4]; exact a4
theorem flatC_one (ch : Nat → T) (ac : Nat → Option Addr × Nat) (k : Nat) : ∀ u ∈ flatC ch ac k, u.oneCell' = true := by
 intro u hu
 obtain ⟨j, hj⟩ := List.getElem?_of_mem hu
 obtain ⟨i, r, hi, hr, rfl⟩ := flatC_idx ch ac k hj
 obtain ⟨g0, g1, g2, g3, g4⟩ := flatC_get ch ac k i hi
 have h5 : r = 0 ∨ r = 1 ∨ r = 2 ∨ r = 3 ∨ r = 4 := by omega
 rcases h5 with rfl | rfl | rfl | rfl | rfl
 · rw [Nat.add_zero, g0] at hj; cases hj; rfl
 · rw [g1] at hj; cases hj; rfl
 · rw [g2] at hj; cases hj; rfl
 · rw [g3] at hj; cases hj; rfl
 · rw [g4] at hj; cases hj; rfl
theorem IsL.rows {W : World} {Q : Nat → Prop} {kind : Int} {n : Nat} {s : List UInt8} {op : Bool} {k : Nat} {ch : Nat → T} {A : Option Addr} (h : IsL W Q (T.mk kind n s op k ch) A) (hk : 0 < k) :
  ∃ (b o : Nat) (ac : Nat → Option Addr × Nat), A = some ⟨b, o, none⟩ ∧ b < W.heap.size ∧ Q b ∧ ∀ i, i < k → At5 W b (o + i * 5) (ch i) (ac i).1 (ac i).2 ∧ IsL W Q (ch i) (ac i).1 := by
 obtain ⟨b, o, hA, hb, hq, hc⟩ := h hk
 have hex : ∀ i, ∃ p : Option Addr × Nat, i < k → At5 W b (o + i * 5) (ch i) p.1 p.2 ∧ IsL W Q (ch i) p.1 := fun i => by
  by_cases hi : i < k
  ·
   obtain ⟨Ai, ci, h1, h2⟩ := hc i hi
   exact ⟨(Ai, ci), fun _ => ⟨h1, h2⟩⟩
  · exact ⟨(none, 0), fun h => absurd h hi⟩
 exact ⟨b, o, fun i => (hex i).choose, hA, hb, hq, fun i hi => (hex i).choose_spec hi⟩
theorem own_IsL {W : World} {Q : Nat → Prop} {base g c k : Nat} {ch : Nat → T} {ac : Nat → Option Addr × Nat} (hlt : g < W.heap.size) (q : Q g) (h : W.ownsRow base 52 5 (.slice (some ⟨g, 0, none⟩) k c) k (flatC ch ac k)) (hI : ∀ i, i < k → IsL W Q (ch i) (ac i).1) : IsL W Q (T.mk 4 0 [] false k ch) (some ⟨g, 0, none⟩) := fun _ => ⟨g, 0, rfl, hlt, q, fun i hi => by
 obtain ⟨g0, g1, g2, g3, g4⟩ := flatC_get ch ac k i hi
 refine ⟨(ac i).1, (ac i).2, ⟨?_, ?_, ?_, ?_, ?_⟩, hI i hi⟩
 · rw [Nat.zero_add]; exact own_cells h g0
 · rw [Nat.zero_add]; exact own_cells h g1
 · rw [Nat.zero_add]; exact own_cells h g2
 · rw [Nat.zero_add]; exact own_cells h g3
 · rw [Nat.zero_add]; exact own_cells h g4⟩
/-- The last item's five cells, stored anew. -/
theorem own_last {W : World} {base g c n : Nat} {ch : Nat → T} {ac : Nat → Option Addr × Nat} (t : T) (A : Option Addr) (ca : Nat) (h : W.ownsRow base 52 5 (.slice (some ⟨g, 0, none⟩) (n + 1) c) (n + 1) (flatC ch ac (n + 1))) :
  (((((W.setCell ⟨g, n * 5, none⟩ (.int .i64 t.kind)).setCell ⟨g, n * 5 + 1, none⟩ (.int .u64 (t.n : Int))).setCell ⟨g, n * 5 + 2, none⟩ (str t.s)).setCell ⟨g, n * 5 + 3, none⟩ (.slice A t.k ca)).setCell ⟨g, n * 5 + 4, none⟩ (.bool t.op)).ownsRow base 52 5 (.slice (some ⟨g, 0, none⟩) (n + 1) c) (n + 1)
   (flatC (fun i => if i = n then t else ch i) (fun i => if i = n then (A, ca) else ac i) (n + 1)) := by
 have h5 := ((((h.stored (n * 5) (.int .i64 t.kind)).1.stored (n * 5 + 1) (.int .u64 (t.n : Int))).1.stored (n * 5 + 2) (str t.s)).1.stored (n * 5 + 3) (.slice A t.k ca)).1.stored (n * 5 + 4) (.bool t.op)
 have hl := flatC_length ch ac n
 have e : (((((flatC ch ac (n + 1)).set (n * 5) (.int .i64 t.kind)).set (n * 5 + 1) (.int .u64 (t.n : Int))).set (n * 5 + 2) (str t.s)).set (n * 5 + 3) (.slice A t.k ca)).set (n * 5 + 4) (.bool t.op) = flatC (fun i => if i = n then t else ch i) (fun i => if i = n then (A, ca) else ac i) (n + 1) := by
  have hc : flatC (fun i => if i = n then t else ch i) (fun i => if i = n then (A, ca) else ac i) n = flatC ch ac n := flatC_congr fun j hj => by
   have : ¬ j = n := by omega
   simp [this]
  rw [flatC, flatC, hc, ← hl]
  simp
 rw [e] at h5
 exact h5.1
end Go.Proofs.YtfgipgpbjfhflaaGreat


namespace Go.Proofs.YtfgipgpbjfhflaaGreat
open Go.RowKit
set_option linter.unusedVariables false
set_option linter.unusedSimpArgs false

/-- An item's items lie in memory, in blocks of Q alone; no slice is longer than its room. -/
def IsC (w : World) (Q : Nat → Prop) : T → Option Addr → Nat → Prop
 | T.nil, A, c => False
 | T.mk _ _ _ _ k ch, A, c => k ≤ c ∧ (0 < k → ∃ b o, A = some ⟨b, o, none⟩ ∧ b < w.heap.size ∧ Q b ∧ ∀ i, i < k → ∃ Ai ci, At5 w b (o + i * 5) (ch i) Ai ci ∧ IsC w Q (ch i) Ai ci)
theorem IsC.mod {w w' : World} {Q : Nat → Prop} {S : List Nat} (hm : Mod S w w') (hs : ∀ k, Q k → k < w.heap.size → k ∉ S) (t : T) : ∀ {A : Option Addr} {c : Nat}, IsC w Q t A c → IsC w' Q t A c := by
 induction t with
 | nil => intro A c h; cases h
 | mk kind n s op k ch ih =>
  rintro A c ⟨hc0, h⟩
  refine ⟨hc0, fun h0 => ?_⟩
  obtain ⟨b, o, hA, hb, hq, hc⟩ := h h0
  refine ⟨b, o, hA, Nat.lt_of_lt_of_le hb hm.size, hq, fun i hi => ?_⟩
  obtain ⟨Ai, ci, h1, h2⟩ := hc i hi
  exact ⟨Ai, ci, h1.mod hm hb (hs b hq hb), ih i h2⟩
theorem IsC.ext {w w' : World} {Q : Nat → Prop} {t : T} {A : Option Addr} {c : Nat} (h : IsC w Q t A c) (hm : Ext w w') : IsC w' Q t A c := IsC.mod hm (by simp) t h
theorem IsC.weak {w : World} {Q R : Nat → Prop} (hq : ∀ k, k < w.heap.size → Q k → R k) (t : T) : ∀ {A : Option Addr} {c : Nat}, IsC w Q t A c → IsC w R t A c := by
 induction t with
 | nil => intro A c h; cases h
 | mk kind n s op k ch ih =>
  rintro A c ⟨hc0, h⟩
  refine ⟨hc0, fun h0 => ?_⟩
  obtain ⟨b, o, hA, hb, hq', hc⟩ := h h0
  refine ⟨b, o, hA, hb, hq b hb hq', fun i hi => ?_⟩
  obtain ⟨Ai, ci, h1, h2⟩ := hc i hi
  exact ⟨Ai, ci, h1, ih i h2⟩
theorem IsC.leaf {w : World} {Q : Nat → Prop} {kind : Int} {n : Nat} {s : List UInt8} {op : Bool} {ch : Nat → T} {A : Option Addr} {c : Nat} : IsC w Q (.mk kind n s op 0 ch) A c := ⟨Nat.zero_le _, fun h => by omega⟩
theorem IsC.isL {w : World} {Q : Nat → Prop} (t : T) : ∀ {A : Option Addr} {c : Nat}, IsC w Q t A c → IsL w Q t A := by
 induction t with
 | nil => intro A c h; cases h
 | mk kind n s op k ch ih =>
  rintro A c ⟨hc0, h⟩ h0
  obtain ⟨b, o, hA, hb, hq, hc⟩ := h h0
  refine ⟨b, o, hA, hb, hq, fun i hi => ?_⟩
  obtain ⟨Ai, ci, h1, h2⟩ := hc i hi
  exact ⟨Ai, ci, h1, ih i h2⟩
theorem IsC.cap {w : World} {Q : Nat → Prop} {t : T} {A : Option Addr} {c : Nat} (h : IsC w Q t A c) : t.k ≤ c := by
 cases t with
 | nil => exact absurd h id
 | mk kind n s op k ch => exact h.1
theorem room_cap {w : World} {base : Nat} {e : TypeId} {size : Nat} {A : Option Addr} {k c : Nat} {xs : List Value} (h : w.ownsRow base e size (.slice A k c) k xs) : k ≤ c := by
 rcases h.2 with ⟨_, h0⟩ | ⟨g, cap, cs, e1, _, _, h1, _⟩
 · omega
 ·
  simp only [Value.slice.injEq] at e1
  omega
end Go.Proofs.YtfgipgpbjfhflaaGreat
