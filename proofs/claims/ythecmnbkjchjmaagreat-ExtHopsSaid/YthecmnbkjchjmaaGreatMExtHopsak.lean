/-
 Primaries: flags; why one is not right, as the reference tells it.
-/
import Derived.Test.YthecmnbkjchjmaaGreatMExtHopsaj
import Derived.Laws.BitsAllLaws
namespace Go.Proofs.YthecmnbkjchjmaaGreat
open Go.RowKit
set_option linter.unusedVariables false
set_option linter.unusedSimpArgs false
theorem quo_remP {f c x : Nat} (hf : f < 18446744073709551616) (h : f / c % 2 = x) : (IntKind.u64.wrap ((f : Int) / (c : Int))).tmod 2 = (x : Int) := by
 have h1 : (f : Int) / (c : Int) = ((f / c : Nat) : Int) := by simp
 have h2 : f / c <= f := Nat.div_le_self _ _
 rw [h1]
 generalize f / c = y at *
 rw [IntWalk.u64_in _ (by omega), Int.tmod_eq_emod_of_nonneg (by omega)]
 omega
def has (f c : Nat) : Bool := decide (f / c % 2 = 1)
set_option maxRecDepth 20000 in
theorem Has_any (f c : Nat) (hf : f < 18446744073709551616) (hc : 0 < c) (hc2 : c < 1000000) (w : World) : Calls Tryz.prog 22 #[.int .u64 (f : Int), .int .i64 (c : Int)] w (Ret (.bool (has f c)) w) := by
 have f0 : (0 : Int) <= (f : Int) := by omega
 have c0 : (0 : Int) <= (c : Int) := by omega
 have c1 : (c : Int) <= 1000000 := by omega
 have t1 : IntKind.u64.wrap (c : Int) = (c : Int) := IntWalk.u64_in _ (by omega)
 have z1 : ((c : Int) == 0) = false := by simp; omega
 have z2 : ((c : Int) = 0) = False := by simp; omega
 have z3 : (c = 0) = False := by simp; omega
 have hx : f / c % 2 = 0 \/ f / c % 2 = 1 := by omega
 rcases hx with hx | hx
 .
  have a1 := quo_remP hf hx
  have HV : Hid (has f c = false) := by unfold Hid has; simp [hx]
  clear hx hf hc hc2
  go_enter Tryz.func22, Tryz.ntmps22
  go_wp2
  go_ret
  exact Ret.mk (by rw [HV.out]; simp) (Mod.refl _ _)
 .
  have a1 := quo_remP hf hx
  have HV : Hid (has f c = true) := by unfold Hid has; simp [hx]
  clear hx hf hc hc2
  go_enter Tryz.func22, Tryz.ntmps22
  go_wp2
  go_ret
  exact Ret.mk (by rw [HV.out]; simp) (Mod.refl _ _)
set_option maxRecDepth 20000 in
set_option maxHeartbeats 1600000 in
theorem r11Right_any (p : PV) (hf : p.fl < 18446744073709551616) (w : World) : Calls Tryz.prog 18 #[.agg p.c] w (Ret (.int .i64 p.right) w) := by
 have KD := hid (fun W => r10_any p.d W)
 have KS := hid (fun W => r10_any p.s W)
 have KR := hid (fun W => r10_any p.r W)
 have H1 : Hid (∀ W, Calls Tryz.prog 22 #[.int .u64 (p.fl : Int), .int .i64 1] W (Ret (.bool (has p.fl 1)) W)) := fun W => Has_any p.fl 1 hf (by omega) (by omega) W
 have H2 : Hid (∀ W, Calls Tryz.prog 22 #[.int .u64 (p.fl : Int), .int .i64 2] W (Ret (.bool (has p.fl 2)) W)) := fun W => Has_any p.fl 2 hf (by omega) (by omega) W
 have H4 : Hid (∀ W, Calls Tryz.prog 22 #[.int .u64 (p.fl : Int), .int .i64 4] W (Ret (.bool (has p.fl 4)) W)) := fun W => Has_any p.fl 4 hf (by omega) (by omega) W
 have HH : Hid (∀ W, Calls Tryz.prog 22 #[.int .u64 (p.fl : Int), .int .i64 16384] W (Ret (.bool (has p.fl 16384)) W)) := fun W => Has_any p.fl 16384 hf (by omega) (by omega) W
 have HG : Hid (∀ W, Calls Tryz.prog 22 #[.int .u64 (p.fl : Int), .int .i64 262144] W (Ret (.bool (has p.fl 262144)) W)) := fun W => Has_any p.fl 262144 hf (by omega) (by omega) W
 have HE := hid ((Mod.refl [] w).alloc (.cells p.c 26))
 have HB := hid (Blk.new w 26 p.c)
 have f0 : (0 : Int) <= (p.fl : Int) := by omega
 clear hf
 go_enter Tryz.func18, Tryz.ntmps18
 go_upto_region 1 with fail
 generalize w.alloc (.cells p.c 26) = V at *
 have b0 : ∀ e : Later V, e.x.cell? ⟨w.heap.size, 0, none⟩ = some (.int .u64 (p.fl : Int)) := HB.out.cellL 0 rfl
 have b1 : ∀ e : Later V, e.x.cell? ⟨w.heap.size, 1, none⟩ = some (.int .i64 p.crc) := HB.out.cellL 1 rfl
 have b2 : ∀ e : Later V, e.x.cell? ⟨w.heap.size, 2, none⟩ = some (.int .i64 p.d.sch) := HB.out.cellL 2 rfl
 have b3 : ∀ e : Later V, e.x.cell? ⟨w.heap.size, 3, none⟩ = some (str p.d.name) := HB.out.cellL 3 rfl
 have b4 : ∀ e : Later V, e.x.cell? ⟨w.heap.size, 4, none⟩ = some (.int .u64 (p.d.node : Int)) := HB.out.cellL 4 rfl
 have b5 : ∀ e : Later V, e.x.cell? ⟨w.heap.size, 5, none⟩ = some (.int .u64 (p.d.svc : Int)) := HB.out.cellL 5 rfl
 have b6 : ∀ e : Later V, e.x.cell? ⟨w.heap.size, 6, none⟩ = some (.int .i64 p.s.sch) := HB.out.cellL 6 rfl
 have b7 : ∀ e : Later V, e.x.cell? ⟨w.heap.size, 7, none⟩ = some (str p.s.name) := HB.out.cellL 7 rfl
 have b8 : ∀ e : Later V, e.x.cell? ⟨w.heap.size, 8, none⟩ = some (.int .u64 (p.s.node : Int)) := HB.out.cellL 8 rfl
 have b9 : ∀ e : Later V, e.x.cell? ⟨w.heap.size, 9, none⟩ = some (.int .u64 (p.s.svc : Int)) := HB.out.cellL 9 rfl
 have b10 : ∀ e : Later V, e.x.cell? ⟨w.heap.size, 10, none⟩ = some (.int .i64 p.r.sch) := HB.out.cellL 10 rfl
 have b11 : ∀ e : Later V, e.x.cell? ⟨w.heap.size, 11, none⟩ = some (str p.r.name) := HB.out.cellL 11 rfl
 have b12 : ∀ e : Later V, e.x.cell? ⟨w.heap.size, 12, none⟩ = some (.int .u64 (p.r.node : Int)) := HB.out.cellL 12 rfl
 have b13 : ∀ e : Later V, e.x.cell? ⟨w.heap.size, 13, none⟩ = some (.int .u64 (p.r.svc : Int)) := HB.out.cellL 13 rfl
 have b14 : ∀ e : Later V, e.x.cell? ⟨w.heap.size, 14, none⟩ = some (.int .u64 (p.t : Int)) := HB.out.cellL 14 rfl
 have b15 : ∀ e : Later V, e.x.cell? ⟨w.heap.size, 15, none⟩ = some (.int .u64 (p.q : Int)) := HB.out.cellL 15 rfl
 have b16 : ∀ e : Later V, e.x.cell? ⟨w.heap.size, 16, none⟩ = some (.int .u64 (p.l : Int)) := HB.out.cellL 16 rfl
 have b17 : ∀ e : Later V, e.x.cell? ⟨w.heap.size, 17, none⟩ = some (.int .u64 (p.o : Int)) := HB.out.cellL 17 rfl
 have b18 : ∀ e : Later V, e.x.cell? ⟨w.heap.size, 18, none⟩ = some (.int .u64 (p.n : Int)) := HB.out.cellL 18 rfl
 obtain ⟨e, he0⟩ := Later.self V
 rw [he0]
 clear he0
 cases hx : p.d.ok with
 | false =>
  rw [hx] at KD
  have HR : Hid (p.ranged = false) := by unfold Hid PV.ranged; simp [hx]
  clear hx
  have HS : Hid (p.right = 1) := by
   unfold Hid PV.right
   rw [if_pos HR.out]
  go_wp2_with (first | (go_at_call 13; first | ((with_reducible refine (Ret.later (KD.out _)).mono ?_); rintro x _ ⟨rfl, e, rfl⟩) | ((with_reducible refine (Ret.later (KS.out _)).mono ?_); rintro x _ ⟨rfl, e, rfl⟩) | ((with_reducible refine (Ret.later (KR.out _)).mono ?_); rintro x _ ⟨rfl, e, rfl⟩)) | (go_at_call 22; first | ((with_reducible refine (Ret.later (H1.out _)).mono ?_); rintro x _ ⟨rfl, e, rfl⟩) | ((with_reducible refine (Ret.later (H2.out _)).mono ?_); rintro x _ ⟨rfl, e, rfl⟩) | ((with_reducible refine (Ret.later (H4.out _)).mono ?_); rintro x _ ⟨rfl, e, rfl⟩) | ((with_reducible refine (Ret.later (HH.out _)).mono ?_); rintro x _ ⟨rfl, e, rfl⟩) | ((with_reducible refine (Ret.later (HG.out _)).mono ?_); rintro x _ ⟨rfl, e, rfl⟩)))
  go_ret
  exact Ret.mk (by rw [HS.out]; rfl) (HE.out.trans e.h)
 | true =>
  rw [hx] at KD
  have Xd := hid hx
  clear hx
  cases hx : p.s.ok with
  | false =>
   rw [hx] at KS
   have HR : Hid (p.ranged = false) := by unfold Hid PV.ranged; simp [hx]
   clear hx
   have HS : Hid (p.right = 1) := by
    unfold Hid PV.right
    rw [if_pos HR.out]
   go_wp2_with (first | (go_at_call 13; first | ((with_reducible refine (Ret.later (KD.out _)).mono ?_); rintro x _ ⟨rfl, e, rfl⟩) | ((with_reducible refine (Ret.later (KS.out _)).mono ?_); rintro x _ ⟨rfl, e, rfl⟩) | ((with_reducible refine (Ret.later (KR.out _)).mono ?_); rintro x _ ⟨rfl, e, rfl⟩)) | (go_at_call 22; first | ((with_reducible refine (Ret.later (H1.out _)).mono ?_); rintro x _ ⟨rfl, e, rfl⟩) | ((with_reducible refine (Ret.later (H2.out _)).mono ?_); rintro x _ ⟨rfl, e, rfl⟩) | ((with_reducible refine (Ret.later (H4.out _)).mono ?_); rintro x _ ⟨rfl, e, rfl⟩) | ((with_reducible refine (Ret.later (HH.out _)).mono ?_); rintro x _ ⟨rfl, e, rfl⟩) | ((with_reducible refine (Ret.later (HG.out _)).mono ?_); rintro x _ ⟨rfl, e, rfl⟩)))
   go_ret
   exact Ret.mk (by rw [HS.out]; rfl) (HE.out.trans e.h)
  | true =>
   rw [hx] at KS
   have Xs := hid hx
   clear hx
   cases hx : p.r.ok with
   | false =>
    rw [hx] at KR
    have HR : Hid (p.ranged = false) := by unfold Hid PV.ranged; simp [hx]
    clear hx
    have HS : Hid (p.right = 1) := by
     unfold Hid PV.right
     rw [if_pos HR.out]
    go_wp2_with (first | (go_at_call 13; first | ((with_reducible refine (Ret.later (KD.out _)).mono ?_); rintro x _ ⟨rfl, e, rfl⟩) | ((with_reducible refine (Ret.later (KS.out _)).mono ?_); rintro x _ ⟨rfl, e, rfl⟩) | ((with_reducible refine (Ret.later (KR.out _)).mono ?_); rintro x _ ⟨rfl, e, rfl⟩)) | (go_at_call 22; first | ((with_reducible refine (Ret.later (H1.out _)).mono ?_); rintro x _ ⟨rfl, e, rfl⟩) | ((with_reducible refine (Ret.later (H2.out _)).mono ?_); rintro x _ ⟨rfl, e, rfl⟩) | ((with_reducible refine (Ret.later (H4.out _)).mono ?_); rintro x _ ⟨rfl, e, rfl⟩) | ((with_reducible refine (Ret.later (HH.out _)).mono ?_); rintro x _ ⟨rfl, e, rfl⟩) | ((with_reducible refine (Ret.later (HG.out _)).mono ?_); rintro x _ ⟨rfl, e, rfl⟩)))
    go_ret
    exact Ret.mk (by rw [HS.out]; rfl) (HE.out.trans e.h)
   | true =>
    rw [hx] at KR
    have Xr := hid hx
    clear hx
    by_cases hx : p.crc < 0
    .
     have ua : decide (p.crc < 0) = true := decide_eq_true (by omega)
     have ub : (p.crc < 0) = True := eq_true (by omega)
     have HR : Hid (p.ranged = false) := by unfold Hid PV.ranged; simp; omega
     clear hx
     have HS : Hid (p.right = 1) := by
      unfold Hid PV.right
      rw [if_pos HR.out]
     go_wp2_with (first | (go_at_call 13; first | ((with_reducible refine (Ret.later (KD.out _)).mono ?_); rintro x _ ⟨rfl, e, rfl⟩) | ((with_reducible refine (Ret.later (KS.out _)).mono ?_); rintro x _ ⟨rfl, e, rfl⟩) | ((with_reducible refine (Ret.later (KR.out _)).mono ?_); rintro x _ ⟨rfl, e, rfl⟩)) | (go_at_call 22; first | ((with_reducible refine (Ret.later (H1.out _)).mono ?_); rintro x _ ⟨rfl, e, rfl⟩) | ((with_reducible refine (Ret.later (H2.out _)).mono ?_); rintro x _ ⟨rfl, e, rfl⟩) | ((with_reducible refine (Ret.later (H4.out _)).mono ?_); rintro x _ ⟨rfl, e, rfl⟩) | ((with_reducible refine (Ret.later (HH.out _)).mono ?_); rintro x _ ⟨rfl, e, rfl⟩) | ((with_reducible refine (Ret.later (HG.out _)).mono ?_); rintro x _ ⟨rfl, e, rfl⟩)))
     go_ret
     exact Ret.mk (by rw [HS.out]; rfl) (HE.out.trans e.h)
    have ua : decide (p.crc < 0) = false := decide_eq_false (by omega)
    have ub : (p.crc < 0) = False := eq_false (by omega)
    have X1 := hid hx
    clear hx
    by_cases hx : 2 < p.crc
    .
     have va : decide (2 < p.crc) = true := decide_eq_true (by omega)
     have vb : (2 < p.crc) = True := eq_true (by omega)
     have HR : Hid (p.ranged = false) := by unfold Hid PV.ranged; simp; omega
     clear hx
     have HS : Hid (p.right = 1) := by
      unfold Hid PV.right
      rw [if_pos HR.out]
     go_wp2_with (first | (go_at_call 13; first | ((with_reducible refine (Ret.later (KD.out _)).mono ?_); rintro x _ ⟨rfl, e, rfl⟩) | ((with_reducible refine (Ret.later (KS.out _)).mono ?_); rintro x _ ⟨rfl, e, rfl⟩) | ((with_reducible refine (Ret.later (KR.out _)).mono ?_); rintro x _ ⟨rfl, e, rfl⟩)) | (go_at_call 22; first | ((with_reducible refine (Ret.later (H1.out _)).mono ?_); rintro x _ ⟨rfl, e, rfl⟩) | ((with_reducible refine (Ret.later (H2.out _)).mono ?_); rintro x _ ⟨rfl, e, rfl⟩) | ((with_reducible refine (Ret.later (H4.out _)).mono ?_); rintro x _ ⟨rfl, e, rfl⟩) | ((with_reducible refine (Ret.later (HH.out _)).mono ?_); rintro x _ ⟨rfl, e, rfl⟩) | ((with_reducible refine (Ret.later (HG.out _)).mono ?_); rintro x _ ⟨rfl, e, rfl⟩)))
     go_ret
     exact Ret.mk (by rw [HS.out]; rfl) (HE.out.trans e.h)
    have va : decide (2 < p.crc) = false := decide_eq_false (by omega)
    have vb : (2 < p.crc) = False := eq_false (by omega)
    have X2 := hid hx
    clear hx
    by_cases hx : 2097152 <= p.fl
    .
     have xa : decide ((2097152 : Int) <= (p.fl : Int)) = true := decide_eq_true (by omega)
     have xb : ((2097152 : Int) <= (p.fl : Int)) = True := eq_true (by omega)
     have HR : Hid (p.ranged = false) := by unfold Hid PV.ranged; simp; omega
     clear hx
     have HS : Hid (p.right = 1) := by
      unfold Hid PV.right
      rw [if_pos HR.out]
     go_wp2_with (first | (go_at_call 13; first | ((with_reducible refine (Ret.later (KD.out _)).mono ?_); rintro x _ ⟨rfl, e, rfl⟩) | ((with_reducible refine (Ret.later (KS.out _)).mono ?_); rintro x _ ⟨rfl, e, rfl⟩) | ((with_reducible refine (Ret.later (KR.out _)).mono ?_); rintro x _ ⟨rfl, e, rfl⟩)) | (go_at_call 22; first | ((with_reducible refine (Ret.later (H1.out _)).mono ?_); rintro x _ ⟨rfl, e, rfl⟩) | ((with_reducible refine (Ret.later (H2.out _)).mono ?_); rintro x _ ⟨rfl, e, rfl⟩) | ((with_reducible refine (Ret.later (H4.out _)).mono ?_); rintro x _ ⟨rfl, e, rfl⟩) | ((with_reducible refine (Ret.later (HH.out _)).mono ?_); rintro x _ ⟨rfl, e, rfl⟩) | ((with_reducible refine (Ret.later (HG.out _)).mono ?_); rintro x _ ⟨rfl, e, rfl⟩)))
     go_ret
     exact Ret.mk (by rw [HS.out]; rfl) (HE.out.trans e.h)
    have xa : decide ((2097152 : Int) <= (p.fl : Int)) = false := decide_eq_false (by omega)
    have xb : ((2097152 : Int) <= (p.fl : Int)) = False := eq_false (by omega)
    have X3 := hid hx
    clear hx
    go_upto_region 4 with (first | (go_at_call 13; first | ((with_reducible refine (Ret.later (KD.out _)).mono ?_); rintro x _ ⟨rfl, e, rfl⟩) | ((with_reducible refine (Ret.later (KS.out _)).mono ?_); rintro x _ ⟨rfl, e, rfl⟩) | ((with_reducible refine (Ret.later (KR.out _)).mono ?_); rintro x _ ⟨rfl, e, rfl⟩)) | (go_at_call 22; first | ((with_reducible refine (Ret.later (H1.out _)).mono ?_); rintro x _ ⟨rfl, e, rfl⟩) | ((with_reducible refine (Ret.later (H2.out _)).mono ?_); rintro x _ ⟨rfl, e, rfl⟩) | ((with_reducible refine (Ret.later (H4.out _)).mono ?_); rintro x _ ⟨rfl, e, rfl⟩) | ((with_reducible refine (Ret.later (HH.out _)).mono ?_); rintro x _ ⟨rfl, e, rfl⟩) | ((with_reducible refine (Ret.later (HG.out _)).mono ?_); rintro x _ ⟨rfl, e, rfl⟩)))
    have HA := hid (Blk.new e.x 89 #[.int .u64 (p.t : Int), .int .u64 (p.q : Int), .int .u64 (p.l : Int), .int .u64 (p.o : Int), .int .u64 (p.n : Int)])
    have HB2 := hid ((HB.out.later e).alloc (.cells #[.int .u64 (p.t : Int), .int .u64 (p.q : Int), .int .u64 (p.l : Int), .int .u64 (p.o : Int), .int .u64 (p.n : Int)] 89))
    have HE2 := hid ((HE.out.trans e.h).alloc (.cells #[.int .u64 (p.t : Int), .int .u64 (p.q : Int), .int .u64 (p.l : Int), .int .u64 (p.o : Int), .int .u64 (p.n : Int)] 89))
    clear b0 b1 b2 b3 b4 b5 b6 b7 b8 b9 b10 b11 b12 b13 b14 b15 b16 b17 b18 HB HE ua ub va vb xa xb
    generalize e.x.alloc (.cells #[.int .u64 (p.t : Int), .int .u64 (p.q : Int), .int .u64 (p.l : Int), .int .u64 (p.o : Int), .int .u64 (p.n : Int)] 89) = V2 at *
    generalize e.x.heap.size = G at *
    clear e
    have b0 : ∀ e : Later V2, e.x.cell? ⟨w.heap.size, 0, none⟩ = some (.int .u64 (p.fl : Int)) := HB2.out.cellL 0 rfl
    have b1 : ∀ e : Later V2, e.x.cell? ⟨w.heap.size, 1, none⟩ = some (.int .i64 p.crc) := HB2.out.cellL 1 rfl
    have b2 : ∀ e : Later V2, e.x.cell? ⟨w.heap.size, 2, none⟩ = some (.int .i64 p.d.sch) := HB2.out.cellL 2 rfl
    have b3 : ∀ e : Later V2, e.x.cell? ⟨w.heap.size, 3, none⟩ = some (str p.d.name) := HB2.out.cellL 3 rfl
    have b4 : ∀ e : Later V2, e.x.cell? ⟨w.heap.size, 4, none⟩ = some (.int .u64 (p.d.node : Int)) := HB2.out.cellL 4 rfl
    have b5 : ∀ e : Later V2, e.x.cell? ⟨w.heap.size, 5, none⟩ = some (.int .u64 (p.d.svc : Int)) := HB2.out.cellL 5 rfl
    have b6 : ∀ e : Later V2, e.x.cell? ⟨w.heap.size, 6, none⟩ = some (.int .i64 p.s.sch) := HB2.out.cellL 6 rfl
    have b7 : ∀ e : Later V2, e.x.cell? ⟨w.heap.size, 7, none⟩ = some (str p.s.name) := HB2.out.cellL 7 rfl
    have b8 : ∀ e : Later V2, e.x.cell? ⟨w.heap.size, 8, none⟩ = some (.int .u64 (p.s.node : Int)) := HB2.out.cellL 8 rfl
    have b9 : ∀ e : Later V2, e.x.cell? ⟨w.heap.size, 9, none⟩ = some (.int .u64 (p.s.svc : Int)) := HB2.out.cellL 9 rfl
    have b10 : ∀ e : Later V2, e.x.cell? ⟨w.heap.size, 10, none⟩ = some (.int .i64 p.r.sch) := HB2.out.cellL 10 rfl
    have b11 : ∀ e : Later V2, e.x.cell? ⟨w.heap.size, 11, none⟩ = some (str p.r.name) := HB2.out.cellL 11 rfl
    have b12 : ∀ e : Later V2, e.x.cell? ⟨w.heap.size, 12, none⟩ = some (.int .u64 (p.r.node : Int)) := HB2.out.cellL 12 rfl
    have b13 : ∀ e : Later V2, e.x.cell? ⟨w.heap.size, 13, none⟩ = some (.int .u64 (p.r.svc : Int)) := HB2.out.cellL 13 rfl
    have b14 : ∀ e : Later V2, e.x.cell? ⟨w.heap.size, 14, none⟩ = some (.int .u64 (p.t : Int)) := HB2.out.cellL 14 rfl
    have b15 : ∀ e : Later V2, e.x.cell? ⟨w.heap.size, 15, none⟩ = some (.int .u64 (p.q : Int)) := HB2.out.cellL 15 rfl
    have b16 : ∀ e : Later V2, e.x.cell? ⟨w.heap.size, 16, none⟩ = some (.int .u64 (p.l : Int)) := HB2.out.cellL 16 rfl
    have b17 : ∀ e : Later V2, e.x.cell? ⟨w.heap.size, 17, none⟩ = some (.int .u64 (p.o : Int)) := HB2.out.cellL 17 rfl
    have b18 : ∀ e : Later V2, e.x.cell? ⟨w.heap.size, 18, none⟩ = some (.int .u64 (p.n : Int)) := HB2.out.cellL 18 rfl
    go_wp2_with fail
    obtain ⟨e0, he0⟩ := Later.self V2
    have HAJ : Hid (∀ (e : Later V2) (i : Nat), i < 5 -> e.x.cell? ⟨G, i, none⟩ = some (.int .u64 ((([p.t, p.q, p.l, p.o, p.n][i]?).getD 0 : Nat) : Int))) := fun e i hi => by
     rw [(HA.out.later e).cell i]
     match i, hi with
     | 0, _ => rfl
     | 1, _ => rfl
     | 2, _ => rfl
     | 3, _ => rfl
     | 4, _ => rfl
    go_loopw [4] (fun s4 wr => ∃ i : Nat, s4 = .int .i64 (i : Int) /\ Hid (i <= 5 /\ ∀ j, j < i -> ([p.t, p.q, p.l, p.o, p.n][j]?).getD 0 <= 1099511627776) /\ ∃ e : Later V2, wr = e.x) (fun s4 _ => 5 - (intOf s4).toNat)
    case atStart => exact ⟨0, rfl, (show Hid _ from ⟨by omega, fun j hj => by omega⟩), e0, he0⟩
    case round =>
     clear he0 e0
     obtain ⟨i, rfl, hi, e, rfl⟩ := hrel
     have i0 : (0 : Int) <= (i : Int) := by omega
     have i5 : (i : Int) <= 5 := by have := hi.out.1; omega
     by_cases hlt : i < 5
     .
      have tc : decide ((i : Int) < 5) = true := decide_eq_true (by omega)
      have i1 : (i : Int) < 5 := by omega
      have HJ := fun e => HAJ.out e i hlt
      obtain ⟨x, hx⟩ : ∃ x, ([p.t, p.q, p.l, p.o, p.n][i]?).getD 0 = x := ⟨_, rfl⟩
      rw [hx] at HJ
      have HX := hid hx
      have HLT := hid hlt
      clear hx hlt
      by_cases hx : 1099511627776 < x
      .
       have ya : decide ((1099511627776 : Int) < (x : Int)) = true := decide_eq_true (by omega)
       have yb : ((1099511627776 : Int) < (x : Int)) = True := eq_true (by omega)
       have HR : Hid (p.ranged = false) := by
        unfold Hid PV.ranged
        have h5 := HLT.out
        have hX := HX.out
        match i, h5 with
        | 0, _ => have hX : p.t = x := hX; simp; omega
        | 1, _ => have hX : p.q = x := hX; simp; omega
        | 2, _ => have hX : p.l = x := hX; simp; omega
        | 3, _ => have hX : p.o = x := hX; simp; omega
        | 4, _ => have hX : p.n = x := hX; simp; omega
       clear hx
       have HS : Hid (p.right = 1) := by
        unfold Hid PV.right
        rw [if_pos HR.out]
       go_wp2_with (first | (go_at_call 13; first | ((with_reducible refine (Ret.later (KD.out _)).mono ?_); rintro x _ ⟨rfl, e, rfl⟩) | ((with_reducible refine (Ret.later (KS.out _)).mono ?_); rintro x _ ⟨rfl, e, rfl⟩) | ((with_reducible refine (Ret.later (KR.out _)).mono ?_); rintro x _ ⟨rfl, e, rfl⟩)) | (go_at_call 22; first | ((with_reducible refine (Ret.later (H1.out _)).mono ?_); rintro x _ ⟨rfl, e, rfl⟩) | ((with_reducible refine (Ret.later (H2.out _)).mono ?_); rintro x _ ⟨rfl, e, rfl⟩) | ((with_reducible refine (Ret.later (H4.out _)).mono ?_); rintro x _ ⟨rfl, e, rfl⟩) | ((with_reducible refine (Ret.later (HH.out _)).mono ?_); rintro x _ ⟨rfl, e, rfl⟩) | ((with_reducible refine (Ret.later (HG.out _)).mono ?_); rintro x _ ⟨rfl, e, rfl⟩)))
       go_ret
       exact Ret.mk (by rw [HS.out]; rfl) (HE2.out.trans e.h)
      .
       have ya : decide ((1099511627776 : Int) < (x : Int)) = false := decide_eq_false (by omega)
       have yb : ((1099511627776 : Int) < (x : Int)) = False := eq_false (by omega)
       have HN := hid hx
       clear hx
       go_wp2_with fail
       go_roundw
       case rel => exact ⟨i + 1, by go_num, (show Hid _ from ⟨HLT.out, fun j hj => by
        by_cases hji : j = i
        . subst hji; rw [HX.out]; have := HN.out; omega
        . exact hi.out.2 j (by omega)⟩), e, rfl⟩
       case measure => have := HLT.out; simp [intOf]; omega
     .
      obtain rfl : i = 5 := by have := hi.out.1; omega
      have HR : Hid (p.ranged = true) := by
       have h := hi.out.2
       have a0 : p.t <= _ := h 0 (by omega)
       have a1 : p.q <= _ := h 1 (by omega)
       have a2 : p.l <= _ := h 2 (by omega)
       have a3 : p.o <= _ := h 3 (by omega)
       have a4 : p.n <= _ := h 4 (by omega)
       have := X1.out; have := X2.out; have := X3.out
       unfold Hid PV.ranged
       rw [Xd.out, Xs.out, Xr.out]
       simp; omega
      have HE := HE2
      clear hlt HAJ i0 i5 hi
      have HTB : Hid ((has p.fl 16384 || has p.fl 262144) = true ↔ (p.fl / 16384 % 2 = 1 \/ p.fl / 262144 % 2 = 1)) := by unfold Hid has; simp
      cases hx1 : has p.fl 1 with
      | true =>
       rw [hx1] at H1
       have F1 : Hid (p.fl % 2 = 1) := by unfold has at hx1; unfold Hid; simpa using hx1
       clear hx1
       go_upto_region 10 with (first | (go_at_call 13; first | ((with_reducible refine (Ret.later (KD.out _)).mono ?_); rintro x _ ⟨rfl, e, rfl⟩) | ((with_reducible refine (Ret.later (KS.out _)).mono ?_); rintro x _ ⟨rfl, e, rfl⟩) | ((with_reducible refine (Ret.later (KR.out _)).mono ?_); rintro x _ ⟨rfl, e, rfl⟩)) | (go_at_call 22; first | ((with_reducible refine (Ret.later (H1.out _)).mono ?_); rintro x _ ⟨rfl, e, rfl⟩) | ((with_reducible refine (Ret.later (H2.out _)).mono ?_); rintro x _ ⟨rfl, e, rfl⟩) | ((with_reducible refine (Ret.later (H4.out _)).mono ?_); rintro x _ ⟨rfl, e, rfl⟩) | ((with_reducible refine (Ret.later (HH.out _)).mono ?_); rintro x _ ⟨rfl, e, rfl⟩) | ((with_reducible refine (Ret.later (HG.out _)).mono ?_); rintro x _ ⟨rfl, e, rfl⟩)))
       go_cut [6] (fun s6 wx => s6 = .bool (has p.fl 16384 || has p.fl 262144) /\ ∃ e : Later V2, wx = e.x)
       case first =>
        cases h1 : has p.fl 16384
        all_goals rw [h1] at HH
        all_goals cases h2 : has p.fl 262144
        all_goals rw [h2] at HG
        all_goals have Q1 := hid h1
        all_goals have Q2 := hid h2
        all_goals clear h1 h2
        all_goals go_wp2_with (first | (go_at_call 13; first | ((with_reducible refine (Ret.later (KD.out _)).mono ?_); rintro x _ ⟨rfl, e, rfl⟩) | ((with_reducible refine (Ret.later (KS.out _)).mono ?_); rintro x _ ⟨rfl, e, rfl⟩) | ((with_reducible refine (Ret.later (KR.out _)).mono ?_); rintro x _ ⟨rfl, e, rfl⟩)) | (go_at_call 22; first | ((with_reducible refine (Ret.later (H1.out _)).mono ?_); rintro x _ ⟨rfl, e, rfl⟩) | ((with_reducible refine (Ret.later (H2.out _)).mono ?_); rintro x _ ⟨rfl, e, rfl⟩) | ((with_reducible refine (Ret.later (H4.out _)).mono ?_); rintro x _ ⟨rfl, e, rfl⟩) | ((with_reducible refine (Ret.later (HH.out _)).mono ?_); rintro x _ ⟨rfl, e, rfl⟩) | ((with_reducible refine (Ret.later (HG.out _)).mono ?_); rintro x _ ⟨rfl, e, rfl⟩)))
        all_goals go_meet
        all_goals exact ⟨by rw [Q1.out, Q2.out]; rfl, e, rfl⟩
       obtain ⟨rfl, e, rfl⟩ := hcut
       generalize (has p.fl 16384 || has p.fl 262144) = TB at *
       by_cases hx : p.fl / 4 % 2 = 1
       .
        rw [show has p.fl 4 = true by unfold has; simp [hx]] at H4
        have X4 := hid hx
        clear hx
        have HS : Hid (p.right = 8) := by
         unfold Hid PV.right
         rw [if_neg (by rw [HR.out]; decide), if_pos (.inl ⟨F1.out, .inl X4.out⟩)]
        go_wp2_with (first | (go_at_call 13; first | ((with_reducible refine (Ret.later (KD.out _)).mono ?_); rintro x _ ⟨rfl, e, rfl⟩) | ((with_reducible refine (Ret.later (KS.out _)).mono ?_); rintro x _ ⟨rfl, e, rfl⟩) | ((with_reducible refine (Ret.later (KR.out _)).mono ?_); rintro x _ ⟨rfl, e, rfl⟩)) | (go_at_call 22; first | ((with_reducible refine (Ret.later (H1.out _)).mono ?_); rintro x _ ⟨rfl, e, rfl⟩) | ((with_reducible refine (Ret.later (H2.out _)).mono ?_); rintro x _ ⟨rfl, e, rfl⟩) | ((with_reducible refine (Ret.later (H4.out _)).mono ?_); rintro x _ ⟨rfl, e, rfl⟩) | ((with_reducible refine (Ret.later (HH.out _)).mono ?_); rintro x _ ⟨rfl, e, rfl⟩) | ((with_reducible refine (Ret.later (HG.out _)).mono ?_); rintro x _ ⟨rfl, e, rfl⟩)))
        go_ret
        exact Ret.mk (by rw [HS.out]; rfl) (HE.out.trans e.h)
       rw [show has p.fl 4 = false by unfold has; simp; omega] at H4
       have X4 := hid hx
       clear hx
       by_cases hy : p.n <= p.o
       .
        have za : decide (p.n <= p.o) = true := decide_eq_true (by omega)
        have zb : (p.n <= p.o) = True := eq_true (by omega)
        have Y := hid hy
        clear hy
        have HS : Hid (p.right = 8) := by
         unfold Hid PV.right
         rw [if_neg (by rw [HR.out]; decide), if_pos (.inl ⟨F1.out, .inr Y.out⟩)]
        go_wp2_with (first | (go_at_call 13; first | ((with_reducible refine (Ret.later (KD.out _)).mono ?_); rintro x _ ⟨rfl, e, rfl⟩) | ((with_reducible refine (Ret.later (KS.out _)).mono ?_); rintro x _ ⟨rfl, e, rfl⟩) | ((with_reducible refine (Ret.later (KR.out _)).mono ?_); rintro x _ ⟨rfl, e, rfl⟩)) | (go_at_call 22; first | ((with_reducible refine (Ret.later (H1.out _)).mono ?_); rintro x _ ⟨rfl, e, rfl⟩) | ((with_reducible refine (Ret.later (H2.out _)).mono ?_); rintro x _ ⟨rfl, e, rfl⟩) | ((with_reducible refine (Ret.later (H4.out _)).mono ?_); rintro x _ ⟨rfl, e, rfl⟩) | ((with_reducible refine (Ret.later (HH.out _)).mono ?_); rintro x _ ⟨rfl, e, rfl⟩) | ((with_reducible refine (Ret.later (HG.out _)).mono ?_); rintro x _ ⟨rfl, e, rfl⟩)))
        go_ret
        exact Ret.mk (by rw [HS.out]; rfl) (HE.out.trans e.h)
       have za : decide (p.n <= p.o) = false := decide_eq_false (by omega)
       have zb : (p.n <= p.o) = False := eq_false (by omega)
       have G0 : Hid (¬ ((p.fl % 2 = 1 /\ (p.fl / 4 % 2 = 1 \/ p.n <= p.o)) \/ (¬ p.fl % 2 = 1 /\ (0 < p.o \/ 0 < p.n)))) := by have := F1.out; have := X4.out; unfold Hid; omega
       clear hy
       by_cases hN : p.none
       .
        have n1 : p.s.sch = 1 := hN.1
        have n2 : p.s.name = [110, 111, 110, 101] := hN.2
        rw [n1] at b6
        rw [n2] at b7
        clear n1 n2
        have HN := hid hN
        clear hN
        cases hT : TB with
        | true =>
         have XT : Hid (p.fl / 16384 % 2 = 1 \/ p.fl / 262144 % 2 = 1) := HTB.out.1 hT
         subst hT
         have HS : Hid (p.right = 8) := by
          unfold Hid PV.right
          rw [if_neg (by rw [HR.out]; decide), if_neg (by have := G0.out; omega), if_pos (.inl ⟨XT.out, .inl HN.out⟩)]
         go_wp2_with (first | (go_at_call 13; first | ((with_reducible refine (Ret.later (KD.out _)).mono ?_); rintro x _ ⟨rfl, e, rfl⟩) | ((with_reducible refine (Ret.later (KS.out _)).mono ?_); rintro x _ ⟨rfl, e, rfl⟩) | ((with_reducible refine (Ret.later (KR.out _)).mono ?_); rintro x _ ⟨rfl, e, rfl⟩)) | (go_at_call 22; first | ((with_reducible refine (Ret.later (H1.out _)).mono ?_); rintro x _ ⟨rfl, e, rfl⟩) | ((with_reducible refine (Ret.later (H2.out _)).mono ?_); rintro x _ ⟨rfl, e, rfl⟩) | ((with_reducible refine (Ret.later (H4.out _)).mono ?_); rintro x _ ⟨rfl, e, rfl⟩) | ((with_reducible refine (Ret.later (HH.out _)).mono ?_); rintro x _ ⟨rfl, e, rfl⟩) | ((with_reducible refine (Ret.later (HG.out _)).mono ?_); rintro x _ ⟨rfl, e, rfl⟩)))
         go_ret
         exact Ret.mk (by rw [HS.out]; rfl) (HE.out.trans e.h)
        | false =>
         have XT : Hid (¬ (p.fl / 16384 % 2 = 1 \/ p.fl / 262144 % 2 = 1)) := fun h => by have := HTB.out.2 h; rw [hT] at this; cases this
         subst hT
         have HS : Hid (p.right = 8) := by
          unfold Hid PV.right
          rw [if_neg (by rw [HR.out]; decide), if_neg (by have := G0.out; omega), if_pos (.inr ⟨HN.out, X4.out⟩)]
         go_wp2_with (first | (go_at_call 13; first | ((with_reducible refine (Ret.later (KD.out _)).mono ?_); rintro x _ ⟨rfl, e, rfl⟩) | ((with_reducible refine (Ret.later (KS.out _)).mono ?_); rintro x _ ⟨rfl, e, rfl⟩) | ((with_reducible refine (Ret.later (KR.out _)).mono ?_); rintro x _ ⟨rfl, e, rfl⟩)) | (go_at_call 22; first | ((with_reducible refine (Ret.later (H1.out _)).mono ?_); rintro x _ ⟨rfl, e, rfl⟩) | ((with_reducible refine (Ret.later (H2.out _)).mono ?_); rintro x _ ⟨rfl, e, rfl⟩) | ((with_reducible refine (Ret.later (H4.out _)).mono ?_); rintro x _ ⟨rfl, e, rfl⟩) | ((with_reducible refine (Ret.later (HH.out _)).mono ?_); rintro x _ ⟨rfl, e, rfl⟩) | ((with_reducible refine (Ret.later (HG.out _)).mono ?_); rintro x _ ⟨rfl, e, rfl⟩)))
         go_ret
         exact Ret.mk (by rw [HS.out]; rfl) (HE.out.trans e.h)
       .
        have HN := hid hN
        by_cases hS : p.s.sch = 1
        .
         have hM : ¬ p.s.name = [110, 111, 110, 101] := fun h => hN ⟨hS, h⟩
         rw [hS] at b6
         have ma : ((p.s.name) == ([110, 111, 110, 101])) = false := by rw [beq_eq_false_iff_ne]; exact hM
         have mb : ((p.s.name) = ([110, 111, 110, 101])) = False := eq_false (by exact hM)
         have mc : ((p.s.name) != ([110, 111, 110, 101])) = true := by rw [bne_iff_ne]; exact hM
         clear hM hS hN
         cases hT : TB with
         | true =>
          have XT : Hid (p.fl / 16384 % 2 = 1 \/ p.fl / 262144 % 2 = 1) := HTB.out.1 hT
          subst hT
          by_cases hx : p.fl / 2 % 2 = 1
          .
           rw [show has p.fl 2 = true by unfold has; simp [hx]] at H2
           have X2 := hid hx
           clear hx
           have HS : Hid (p.right = 8) := by
            unfold Hid PV.right
            rw [if_neg (by rw [HR.out]; decide), if_neg (by have := G0.out; omega), if_pos (.inl ⟨XT.out, .inr X2.out⟩)]
           go_wp2_with (first | (go_at_call 13; first | ((with_reducible refine (Ret.later (KD.out _)).mono ?_); rintro x _ ⟨rfl, e, rfl⟩) | ((with_reducible refine (Ret.later (KS.out _)).mono ?_); rintro x _ ⟨rfl, e, rfl⟩) | ((with_reducible refine (Ret.later (KR.out _)).mono ?_); rintro x _ ⟨rfl, e, rfl⟩)) | (go_at_call 22; first | ((with_reducible refine (Ret.later (H1.out _)).mono ?_); rintro x _ ⟨rfl, e, rfl⟩) | ((with_reducible refine (Ret.later (H2.out _)).mono ?_); rintro x _ ⟨rfl, e, rfl⟩) | ((with_reducible refine (Ret.later (H4.out _)).mono ?_); rintro x _ ⟨rfl, e, rfl⟩) | ((with_reducible refine (Ret.later (HH.out _)).mono ?_); rintro x _ ⟨rfl, e, rfl⟩) | ((with_reducible refine (Ret.later (HG.out _)).mono ?_); rintro x _ ⟨rfl, e, rfl⟩)))
           go_ret
           exact Ret.mk (by rw [HS.out]; rfl) (HE.out.trans e.h)
          .
           rw [show has p.fl 2 = false by unfold has; simp; omega] at H2
           have X2 := hid hx
           clear hx
           have HS : Hid (p.right = 0) := by
            unfold Hid PV.right
            rw [if_neg (by rw [HR.out]; decide), if_neg (by have := G0.out; omega), if_neg (fun h => h.elim (fun h => h.2.elim HN.out X2.out) (fun h => HN.out h.1))]
           go_wp2_with (first | (go_at_call 13; first | ((with_reducible refine (Ret.later (KD.out _)).mono ?_); rintro x _ ⟨rfl, e, rfl⟩) | ((with_reducible refine (Ret.later (KS.out _)).mono ?_); rintro x _ ⟨rfl, e, rfl⟩) | ((with_reducible refine (Ret.later (KR.out _)).mono ?_); rintro x _ ⟨rfl, e, rfl⟩)) | (go_at_call 22; first | ((with_reducible refine (Ret.later (H1.out _)).mono ?_); rintro x _ ⟨rfl, e, rfl⟩) | ((with_reducible refine (Ret.later (H2.out _)).mono ?_); rintro x _ ⟨rfl, e, rfl⟩) | ((with_reducible refine (Ret.later (H4.out _)).mono ?_); rintro x _ ⟨rfl, e, rfl⟩) | ((with_reducible refine (Ret.later (HH.out _)).mono ?_); rintro x _ ⟨rfl, e, rfl⟩) | ((with_reducible refine (Ret.later (HG.out _)).mono ?_); rintro x _ ⟨rfl, e, rfl⟩)))
           go_ret
           exact Ret.mk (by rw [HS.out]; rfl) (HE.out.trans e.h)
         | false =>
          have XT : Hid (¬ (p.fl / 16384 % 2 = 1 \/ p.fl / 262144 % 2 = 1)) := fun h => by have := HTB.out.2 h; rw [hT] at this; cases this
          subst hT
          have HS : Hid (p.right = 0) := by
           unfold Hid PV.right
           rw [if_neg (by rw [HR.out]; decide), if_neg (by have := G0.out; omega), if_neg (fun h => h.elim (fun h => XT.out h.1) (fun h => HN.out h.1))]
          go_wp2_with (first | (go_at_call 13; first | ((with_reducible refine (Ret.later (KD.out _)).mono ?_); rintro x _ ⟨rfl, e, rfl⟩) | ((with_reducible refine (Ret.later (KS.out _)).mono ?_); rintro x _ ⟨rfl, e, rfl⟩) | ((with_reducible refine (Ret.later (KR.out _)).mono ?_); rintro x _ ⟨rfl, e, rfl⟩)) | (go_at_call 22; first | ((with_reducible refine (Ret.later (H1.out _)).mono ?_); rintro x _ ⟨rfl, e, rfl⟩) | ((with_reducible refine (Ret.later (H2.out _)).mono ?_); rintro x _ ⟨rfl, e, rfl⟩) | ((with_reducible refine (Ret.later (H4.out _)).mono ?_); rintro x _ ⟨rfl, e, rfl⟩) | ((with_reducible refine (Ret.later (HH.out _)).mono ?_); rintro x _ ⟨rfl, e, rfl⟩) | ((with_reducible refine (Ret.later (HG.out _)).mono ?_); rintro x _ ⟨rfl, e, rfl⟩)))
          go_ret
          exact Ret.mk (by rw [HS.out]; rfl) (HE.out.trans e.h)
        .
         have ma : ((p.s.sch) == (1)) = false := by rw [beq_eq_false_iff_ne]; omega
         have mb : ((p.s.sch) = (1)) = False := eq_false (by omega)
         have mc : ((p.s.sch) != (1)) = true := by rw [bne_iff_ne]; omega
         clear hS hN
         cases hT : TB with
         | true =>
          have XT : Hid (p.fl / 16384 % 2 = 1 \/ p.fl / 262144 % 2 = 1) := HTB.out.1 hT
          subst hT
          by_cases hx : p.fl / 2 % 2 = 1
          .
           rw [show has p.fl 2 = true by unfold has; simp [hx]] at H2
           have X2 := hid hx
           clear hx
           have HS : Hid (p.right = 8) := by
            unfold Hid PV.right
            rw [if_neg (by rw [HR.out]; decide), if_neg (by have := G0.out; omega), if_pos (.inl ⟨XT.out, .inr X2.out⟩)]
           go_wp2_with (first | (go_at_call 13; first | ((with_reducible refine (Ret.later (KD.out _)).mono ?_); rintro x _ ⟨rfl, e, rfl⟩) | ((with_reducible refine (Ret.later (KS.out _)).mono ?_); rintro x _ ⟨rfl, e, rfl⟩) | ((with_reducible refine (Ret.later (KR.out _)).mono ?_); rintro x _ ⟨rfl, e, rfl⟩)) | (go_at_call 22; first | ((with_reducible refine (Ret.later (H1.out _)).mono ?_); rintro x _ ⟨rfl, e, rfl⟩) | ((with_reducible refine (Ret.later (H2.out _)).mono ?_); rintro x _ ⟨rfl, e, rfl⟩) | ((with_reducible refine (Ret.later (H4.out _)).mono ?_); rintro x _ ⟨rfl, e, rfl⟩) | ((with_reducible refine (Ret.later (HH.out _)).mono ?_); rintro x _ ⟨rfl, e, rfl⟩) | ((with_reducible refine (Ret.later (HG.out _)).mono ?_); rintro x _ ⟨rfl, e, rfl⟩)))
           go_ret
           exact Ret.mk (by rw [HS.out]; rfl) (HE.out.trans e.h)
          .
           rw [show has p.fl 2 = false by unfold has; simp; omega] at H2
           have X2 := hid hx
           clear hx
           have HS : Hid (p.right = 0) := by
            unfold Hid PV.right
            rw [if_neg (by rw [HR.out]; decide), if_neg (by have := G0.out; omega), if_neg (fun h => h.elim (fun h => h.2.elim HN.out X2.out) (fun h => HN.out h.1))]
           go_wp2_with (first | (go_at_call 13; first | ((with_reducible refine (Ret.later (KD.out _)).mono ?_); rintro x _ ⟨rfl, e, rfl⟩) | ((with_reducible refine (Ret.later (KS.out _)).mono ?_); rintro x _ ⟨rfl, e, rfl⟩) | ((with_reducible refine (Ret.later (KR.out _)).mono ?_); rintro x _ ⟨rfl, e, rfl⟩)) | (go_at_call 22; first | ((with_reducible refine (Ret.later (H1.out _)).mono ?_); rintro x _ ⟨rfl, e, rfl⟩) | ((with_reducible refine (Ret.later (H2.out _)).mono ?_); rintro x _ ⟨rfl, e, rfl⟩) | ((with_reducible refine (Ret.later (H4.out _)).mono ?_); rintro x _ ⟨rfl, e, rfl⟩) | ((with_reducible refine (Ret.later (HH.out _)).mono ?_); rintro x _ ⟨rfl, e, rfl⟩) | ((with_reducible refine (Ret.later (HG.out _)).mono ?_); rintro x _ ⟨rfl, e, rfl⟩)))
           go_ret
           exact Ret.mk (by rw [HS.out]; rfl) (HE.out.trans e.h)
         | false =>
          have XT : Hid (¬ (p.fl / 16384 % 2 = 1 \/ p.fl / 262144 % 2 = 1)) := fun h => by have := HTB.out.2 h; rw [hT] at this; cases this
          subst hT
          have HS : Hid (p.right = 0) := by
           unfold Hid PV.right
           rw [if_neg (by rw [HR.out]; decide), if_neg (by have := G0.out; omega), if_neg (fun h => h.elim (fun h => XT.out h.1) (fun h => HN.out h.1))]
          go_wp2_with (first | (go_at_call 13; first | ((with_reducible refine (Ret.later (KD.out _)).mono ?_); rintro x _ ⟨rfl, e, rfl⟩) | ((with_reducible refine (Ret.later (KS.out _)).mono ?_); rintro x _ ⟨rfl, e, rfl⟩) | ((with_reducible refine (Ret.later (KR.out _)).mono ?_); rintro x _ ⟨rfl, e, rfl⟩)) | (go_at_call 22; first | ((with_reducible refine (Ret.later (H1.out _)).mono ?_); rintro x _ ⟨rfl, e, rfl⟩) | ((with_reducible refine (Ret.later (H2.out _)).mono ?_); rintro x _ ⟨rfl, e, rfl⟩) | ((with_reducible refine (Ret.later (H4.out _)).mono ?_); rintro x _ ⟨rfl, e, rfl⟩) | ((with_reducible refine (Ret.later (HH.out _)).mono ?_); rintro x _ ⟨rfl, e, rfl⟩) | ((with_reducible refine (Ret.later (HG.out _)).mono ?_); rintro x _ ⟨rfl, e, rfl⟩)))
          go_ret
          exact Ret.mk (by rw [HS.out]; rfl) (HE.out.trans e.h)
      | false =>
       rw [hx1] at H1
       have F1 : Hid (¬ p.fl % 2 = 1) := by unfold has at hx1; unfold Hid; simpa using hx1
       clear hx1
       go_upto_region 10 with (first | (go_at_call 13; first | ((with_reducible refine (Ret.later (KD.out _)).mono ?_); rintro x _ ⟨rfl, e, rfl⟩) | ((with_reducible refine (Ret.later (KS.out _)).mono ?_); rintro x _ ⟨rfl, e, rfl⟩) | ((with_reducible refine (Ret.later (KR.out _)).mono ?_); rintro x _ ⟨rfl, e, rfl⟩)) | (go_at_call 22; first | ((with_reducible refine (Ret.later (H1.out _)).mono ?_); rintro x _ ⟨rfl, e, rfl⟩) | ((with_reducible refine (Ret.later (H2.out _)).mono ?_); rintro x _ ⟨rfl, e, rfl⟩) | ((with_reducible refine (Ret.later (H4.out _)).mono ?_); rintro x _ ⟨rfl, e, rfl⟩) | ((with_reducible refine (Ret.later (HH.out _)).mono ?_); rintro x _ ⟨rfl, e, rfl⟩) | ((with_reducible refine (Ret.later (HG.out _)).mono ?_); rintro x _ ⟨rfl, e, rfl⟩)))
       go_cut [6] (fun s6 wx => s6 = .bool (has p.fl 16384 || has p.fl 262144) /\ ∃ e : Later V2, wx = e.x)
       case first =>
        cases h1 : has p.fl 16384
        all_goals rw [h1] at HH
        all_goals cases h2 : has p.fl 262144
        all_goals rw [h2] at HG
        all_goals have Q1 := hid h1
        all_goals have Q2 := hid h2
        all_goals clear h1 h2
        all_goals go_wp2_with (first | (go_at_call 13; first | ((with_reducible refine (Ret.later (KD.out _)).mono ?_); rintro x _ ⟨rfl, e, rfl⟩) | ((with_reducible refine (Ret.later (KS.out _)).mono ?_); rintro x _ ⟨rfl, e, rfl⟩) | ((with_reducible refine (Ret.later (KR.out _)).mono ?_); rintro x _ ⟨rfl, e, rfl⟩)) | (go_at_call 22; first | ((with_reducible refine (Ret.later (H1.out _)).mono ?_); rintro x _ ⟨rfl, e, rfl⟩) | ((with_reducible refine (Ret.later (H2.out _)).mono ?_); rintro x _ ⟨rfl, e, rfl⟩) | ((with_reducible refine (Ret.later (H4.out _)).mono ?_); rintro x _ ⟨rfl, e, rfl⟩) | ((with_reducible refine (Ret.later (HH.out _)).mono ?_); rintro x _ ⟨rfl, e, rfl⟩) | ((with_reducible refine (Ret.later (HG.out _)).mono ?_); rintro x _ ⟨rfl, e, rfl⟩)))
        all_goals go_meet
        all_goals exact ⟨by rw [Q1.out, Q2.out]; rfl, e, rfl⟩
       obtain ⟨rfl, e, rfl⟩ := hcut
       generalize (has p.fl 16384 || has p.fl 262144) = TB at *
       by_cases hx : 0 < p.o
       .
        have za : decide ((0 : Int) < (p.o : Int)) = true := decide_eq_true (by omega)
        have zb : ((0 : Int) < (p.o : Int)) = True := eq_true (by omega)
        have ka : decide (0 < p.o) = true := decide_eq_true (by omega)
        have kb : (0 < p.o) = True := eq_true (by omega)
        have Y := hid hx
        clear hx
        have HS : Hid (p.right = 8) := by
         unfold Hid PV.right
         rw [if_neg (by rw [HR.out]; decide), if_pos (.inr ⟨F1.out, .inl Y.out⟩)]
        go_wp2_with (first | (go_at_call 13; first | ((with_reducible refine (Ret.later (KD.out _)).mono ?_); rintro x _ ⟨rfl, e, rfl⟩) | ((with_reducible refine (Ret.later (KS.out _)).mono ?_); rintro x _ ⟨rfl, e, rfl⟩) | ((with_reducible refine (Ret.later (KR.out _)).mono ?_); rintro x _ ⟨rfl, e, rfl⟩)) | (go_at_call 22; first | ((with_reducible refine (Ret.later (H1.out _)).mono ?_); rintro x _ ⟨rfl, e, rfl⟩) | ((with_reducible refine (Ret.later (H2.out _)).mono ?_); rintro x _ ⟨rfl, e, rfl⟩) | ((with_reducible refine (Ret.later (H4.out _)).mono ?_); rintro x _ ⟨rfl, e, rfl⟩) | ((with_reducible refine (Ret.later (HH.out _)).mono ?_); rintro x _ ⟨rfl, e, rfl⟩) | ((with_reducible refine (Ret.later (HG.out _)).mono ?_); rintro x _ ⟨rfl, e, rfl⟩)))
        go_ret
        exact Ret.mk (by rw [HS.out]; rfl) (HE.out.trans e.h)
       by_cases hy : 0 < p.n
       .
        have za : decide ((0 : Int) < (p.o : Int)) = false := decide_eq_false (by omega)
        have zb : ((0 : Int) < (p.o : Int)) = False := eq_false (by omega)
        have ka : decide (0 < p.o) = false := decide_eq_false (by omega)
        have kb : (0 < p.o) = False := eq_false (by omega)
        have sa : decide ((0 : Int) < (p.n : Int)) = true := decide_eq_true (by omega)
        have sb : ((0 : Int) < (p.n : Int)) = True := eq_true (by omega)
        have ga : decide (0 < p.n) = true := decide_eq_true (by omega)
        have gb : (0 < p.n) = True := eq_true (by omega)
        have Y := hid hy
        clear hy hx
        have HS : Hid (p.right = 8) := by
         unfold Hid PV.right
         rw [if_neg (by rw [HR.out]; decide), if_pos (.inr ⟨F1.out, .inr Y.out⟩)]
        go_wp2_with (first | (go_at_call 13; first | ((with_reducible refine (Ret.later (KD.out _)).mono ?_); rintro x _ ⟨rfl, e, rfl⟩) | ((with_reducible refine (Ret.later (KS.out _)).mono ?_); rintro x _ ⟨rfl, e, rfl⟩) | ((with_reducible refine (Ret.later (KR.out _)).mono ?_); rintro x _ ⟨rfl, e, rfl⟩)) | (go_at_call 22; first | ((with_reducible refine (Ret.later (H1.out _)).mono ?_); rintro x _ ⟨rfl, e, rfl⟩) | ((with_reducible refine (Ret.later (H2.out _)).mono ?_); rintro x _ ⟨rfl, e, rfl⟩) | ((with_reducible refine (Ret.later (H4.out _)).mono ?_); rintro x _ ⟨rfl, e, rfl⟩) | ((with_reducible refine (Ret.later (HH.out _)).mono ?_); rintro x _ ⟨rfl, e, rfl⟩) | ((with_reducible refine (Ret.later (HG.out _)).mono ?_); rintro x _ ⟨rfl, e, rfl⟩)))
        go_ret
        exact Ret.mk (by rw [HS.out]; rfl) (HE.out.trans e.h)
       have G0 : Hid (¬ ((p.fl % 2 = 1 /\ (p.fl / 4 % 2 = 1 \/ p.n <= p.o)) \/ (¬ p.fl % 2 = 1 /\ (0 < p.o \/ 0 < p.n)))) := by have := F1.out; unfold Hid; omega
       have ho : p.o = 0 := by omega
       have hn : p.n = 0 := by omega
       rw [ho] at b17
       rw [hn] at b18
       clear hx hy ho hn
       by_cases hN : p.none
       .
        have n1 : p.s.sch = 1 := hN.1
        have n2 : p.s.name = [110, 111, 110, 101] := hN.2
        rw [n1] at b6
        rw [n2] at b7
        clear n1 n2
        have HN := hid hN
        clear hN
        cases hT : TB with
        | true =>
         have XT : Hid (p.fl / 16384 % 2 = 1 \/ p.fl / 262144 % 2 = 1) := HTB.out.1 hT
         subst hT
         have HS : Hid (p.right = 8) := by
          unfold Hid PV.right
          rw [if_neg (by rw [HR.out]; decide), if_neg (by have := G0.out; omega), if_pos (.inl ⟨XT.out, .inl HN.out⟩)]
         go_wp2_with (first | (go_at_call 13; first | ((with_reducible refine (Ret.later (KD.out _)).mono ?_); rintro x _ ⟨rfl, e, rfl⟩) | ((with_reducible refine (Ret.later (KS.out _)).mono ?_); rintro x _ ⟨rfl, e, rfl⟩) | ((with_reducible refine (Ret.later (KR.out _)).mono ?_); rintro x _ ⟨rfl, e, rfl⟩)) | (go_at_call 22; first | ((with_reducible refine (Ret.later (H1.out _)).mono ?_); rintro x _ ⟨rfl, e, rfl⟩) | ((with_reducible refine (Ret.later (H2.out _)).mono ?_); rintro x _ ⟨rfl, e, rfl⟩) | ((with_reducible refine (Ret.later (H4.out _)).mono ?_); rintro x _ ⟨rfl, e, rfl⟩) | ((with_reducible refine (Ret.later (HH.out _)).mono ?_); rintro x _ ⟨rfl, e, rfl⟩) | ((with_reducible refine (Ret.later (HG.out _)).mono ?_); rintro x _ ⟨rfl, e, rfl⟩)))
         go_ret
         exact Ret.mk (by rw [HS.out]; rfl) (HE.out.trans e.h)
        | false =>
         have XT : Hid (¬ (p.fl / 16384 % 2 = 1 \/ p.fl / 262144 % 2 = 1)) := fun h => by have := HTB.out.2 h; rw [hT] at this; cases this
         subst hT
         by_cases hx : p.fl / 4 % 2 = 1
         .
          rw [show has p.fl 4 = true by unfold has; simp [hx]] at H4
          have X4 := hid hx
          clear hx
          have HS : Hid (p.right = 0) := by
           unfold Hid PV.right
           rw [if_neg (by rw [HR.out]; decide), if_neg (by have := G0.out; omega), if_neg (fun h => h.elim (fun h => XT.out h.1) (fun h => h.2 X4.out))]
          go_wp2_with (first | (go_at_call 13; first | ((with_reducible refine (Ret.later (KD.out _)).mono ?_); rintro x _ ⟨rfl, e, rfl⟩) | ((with_reducible refine (Ret.later (KS.out _)).mono ?_); rintro x _ ⟨rfl, e, rfl⟩) | ((with_reducible refine (Ret.later (KR.out _)).mono ?_); rintro x _ ⟨rfl, e, rfl⟩)) | (go_at_call 22; first | ((with_reducible refine (Ret.later (H1.out _)).mono ?_); rintro x _ ⟨rfl, e, rfl⟩) | ((with_reducible refine (Ret.later (H2.out _)).mono ?_); rintro x _ ⟨rfl, e, rfl⟩) | ((with_reducible refine (Ret.later (H4.out _)).mono ?_); rintro x _ ⟨rfl, e, rfl⟩) | ((with_reducible refine (Ret.later (HH.out _)).mono ?_); rintro x _ ⟨rfl, e, rfl⟩) | ((with_reducible refine (Ret.later (HG.out _)).mono ?_); rintro x _ ⟨rfl, e, rfl⟩)))
          go_ret
          exact Ret.mk (by rw [HS.out]; rfl) (HE.out.trans e.h)
         .
          rw [show has p.fl 4 = false by unfold has; simp; omega] at H4
          have X4 := hid hx
          clear hx
          have HS : Hid (p.right = 8) := by
           unfold Hid PV.right
           rw [if_neg (by rw [HR.out]; decide), if_neg (by have := G0.out; omega), if_pos (.inr ⟨HN.out, X4.out⟩)]
          go_wp2_with (first | (go_at_call 13; first | ((with_reducible refine (Ret.later (KD.out _)).mono ?_); rintro x _ ⟨rfl, e, rfl⟩) | ((with_reducible refine (Ret.later (KS.out _)).mono ?_); rintro x _ ⟨rfl, e, rfl⟩) | ((with_reducible refine (Ret.later (KR.out _)).mono ?_); rintro x _ ⟨rfl, e, rfl⟩)) | (go_at_call 22; first | ((with_reducible refine (Ret.later (H1.out _)).mono ?_); rintro x _ ⟨rfl, e, rfl⟩) | ((with_reducible refine (Ret.later (H2.out _)).mono ?_); rintro x _ ⟨rfl, e, rfl⟩) | ((with_reducible refine (Ret.later (H4.out _)).mono ?_); rintro x _ ⟨rfl, e, rfl⟩) | ((with_reducible refine (Ret.later (HH.out _)).mono ?_); rintro x _ ⟨rfl, e, rfl⟩) | ((with_reducible refine (Ret.later (HG.out _)).mono ?_); rintro x _ ⟨rfl, e, rfl⟩)))
          go_ret
          exact Ret.mk (by rw [HS.out]; rfl) (HE.out.trans e.h)
       .
        have HN := hid hN
        by_cases hS : p.s.sch = 1
        .
         have hM : ¬ p.s.name = [110, 111, 110, 101] := fun h => hN ⟨hS, h⟩
         rw [hS] at b6
         have ma : ((p.s.name) == ([110, 111, 110, 101])) = false := by rw [beq_eq_false_iff_ne]; exact hM
         have mb : ((p.s.name) = ([110, 111, 110, 101])) = False := eq_false (by exact hM)
         have mc : ((p.s.name) != ([110, 111, 110, 101])) = true := by rw [bne_iff_ne]; exact hM
         clear hM hS hN
         cases hT : TB with
         | true =>
          have XT : Hid (p.fl / 16384 % 2 = 1 \/ p.fl / 262144 % 2 = 1) := HTB.out.1 hT
          subst hT
          by_cases hx : p.fl / 2 % 2 = 1
          .
           rw [show has p.fl 2 = true by unfold has; simp [hx]] at H2
           have X2 := hid hx
           clear hx
           have HS : Hid (p.right = 8) := by
            unfold Hid PV.right
            rw [if_neg (by rw [HR.out]; decide), if_neg (by have := G0.out; omega), if_pos (.inl ⟨XT.out, .inr X2.out⟩)]
           go_wp2_with (first | (go_at_call 13; first | ((with_reducible refine (Ret.later (KD.out _)).mono ?_); rintro x _ ⟨rfl, e, rfl⟩) | ((with_reducible refine (Ret.later (KS.out _)).mono ?_); rintro x _ ⟨rfl, e, rfl⟩) | ((with_reducible refine (Ret.later (KR.out _)).mono ?_); rintro x _ ⟨rfl, e, rfl⟩)) | (go_at_call 22; first | ((with_reducible refine (Ret.later (H1.out _)).mono ?_); rintro x _ ⟨rfl, e, rfl⟩) | ((with_reducible refine (Ret.later (H2.out _)).mono ?_); rintro x _ ⟨rfl, e, rfl⟩) | ((with_reducible refine (Ret.later (H4.out _)).mono ?_); rintro x _ ⟨rfl, e, rfl⟩) | ((with_reducible refine (Ret.later (HH.out _)).mono ?_); rintro x _ ⟨rfl, e, rfl⟩) | ((with_reducible refine (Ret.later (HG.out _)).mono ?_); rintro x _ ⟨rfl, e, rfl⟩)))
           go_ret
           exact Ret.mk (by rw [HS.out]; rfl) (HE.out.trans e.h)
          .
           rw [show has p.fl 2 = false by unfold has; simp; omega] at H2
           have X2 := hid hx
           clear hx
           have HS : Hid (p.right = 0) := by
            unfold Hid PV.right
            rw [if_neg (by rw [HR.out]; decide), if_neg (by have := G0.out; omega), if_neg (fun h => h.elim (fun h => h.2.elim HN.out X2.out) (fun h => HN.out h.1))]
           go_wp2_with (first | (go_at_call 13; first | ((with_reducible refine (Ret.later (KD.out _)).mono ?_); rintro x _ ⟨rfl, e, rfl⟩) | ((with_reducible refine (Ret.later (KS.out _)).mono ?_); rintro x _ ⟨rfl, e, rfl⟩) | ((with_reducible refine (Ret.later (KR.out _)).mono ?_); rintro x _ ⟨rfl, e, rfl⟩)) | (go_at_call 22; first | ((with_reducible refine (Ret.later (H1.out _)).mono ?_); rintro x _ ⟨rfl, e, rfl⟩) | ((with_reducible refine (Ret.later (H2.out _)).mono ?_); rintro x _ ⟨rfl, e, rfl⟩) | ((with_reducible refine (Ret.later (H4.out _)).mono ?_); rintro x _ ⟨rfl, e, rfl⟩) | ((with_reducible refine (Ret.later (HH.out _)).mono ?_); rintro x _ ⟨rfl, e, rfl⟩) | ((with_reducible refine (Ret.later (HG.out _)).mono ?_); rintro x _ ⟨rfl, e, rfl⟩)))
           go_ret
           exact Ret.mk (by rw [HS.out]; rfl) (HE.out.trans e.h)
         | false =>
          have XT : Hid (¬ (p.fl / 16384 % 2 = 1 \/ p.fl / 262144 % 2 = 1)) := fun h => by have := HTB.out.2 h; rw [hT] at this; cases this
          subst hT
          have HS : Hid (p.right = 0) := by
           unfold Hid PV.right
           rw [if_neg (by rw [HR.out]; decide), if_neg (by have := G0.out; omega), if_neg (fun h => h.elim (fun h => XT.out h.1) (fun h => HN.out h.1))]
          go_wp2_with (first | (go_at_call 13; first | ((with_reducible refine (Ret.later (KD.out _)).mono ?_); rintro x _ ⟨rfl, e, rfl⟩) | ((with_reducible refine (Ret.later (KS.out _)).mono ?_); rintro x _ ⟨rfl, e, rfl⟩) | ((with_reducible refine (Ret.later (KR.out _)).mono ?_); rintro x _ ⟨rfl, e, rfl⟩)) | (go_at_call 22; first | ((with_reducible refine (Ret.later (H1.out _)).mono ?_); rintro x _ ⟨rfl, e, rfl⟩) | ((with_reducible refine (Ret.later (H2.out _)).mono ?_); rintro x _ ⟨rfl, e, rfl⟩) | ((with_reducible refine (Ret.later (H4.out _)).mono ?_); rintro x _ ⟨rfl, e, rfl⟩) | ((with_reducible refine (Ret.later (HH.out _)).mono ?_); rintro x _ ⟨rfl, e, rfl⟩) | ((with_reducible refine (Ret.later (HG.out _)).mono ?_); rintro x _ ⟨rfl, e, rfl⟩)))
          go_ret
          exact Ret.mk (by rw [HS.out]; rfl) (HE.out.trans e.h)
        .
         have ma : ((p.s.sch) == (1)) = false := by rw [beq_eq_false_iff_ne]; omega
         have mb : ((p.s.sch) = (1)) = False := eq_false (by omega)
         have mc : ((p.s.sch) != (1)) = true := by rw [bne_iff_ne]; omega
         clear hS hN
         cases hT : TB with
         | true =>
          have XT : Hid (p.fl / 16384 % 2 = 1 \/ p.fl / 262144 % 2 = 1) := HTB.out.1 hT
          subst hT
          by_cases hx : p.fl / 2 % 2 = 1
          .
           rw [show has p.fl 2 = true by unfold has; simp [hx]] at H2
           have X2 := hid hx
           clear hx
           have HS : Hid (p.right = 8) := by
            unfold Hid PV.right
            rw [if_neg (by rw [HR.out]; decide), if_neg (by have := G0.out; omega), if_pos (.inl ⟨XT.out, .inr X2.out⟩)]
           go_wp2_with (first | (go_at_call 13; first | ((with_reducible refine (Ret.later (KD.out _)).mono ?_); rintro x _ ⟨rfl, e, rfl⟩) | ((with_reducible refine (Ret.later (KS.out _)).mono ?_); rintro x _ ⟨rfl, e, rfl⟩) | ((with_reducible refine (Ret.later (KR.out _)).mono ?_); rintro x _ ⟨rfl, e, rfl⟩)) | (go_at_call 22; first | ((with_reducible refine (Ret.later (H1.out _)).mono ?_); rintro x _ ⟨rfl, e, rfl⟩) | ((with_reducible refine (Ret.later (H2.out _)).mono ?_); rintro x _ ⟨rfl, e, rfl⟩) | ((with_reducible refine (Ret.later (H4.out _)).mono ?_); rintro x _ ⟨rfl, e, rfl⟩) | ((with_reducible refine (Ret.later (HH.out _)).mono ?_); rintro x _ ⟨rfl, e, rfl⟩) | ((with_reducible refine (Ret.later (HG.out _)).mono ?_); rintro x _ ⟨rfl, e, rfl⟩)))
           go_ret
           exact Ret.mk (by rw [HS.out]; rfl) (HE.out.trans e.h)
          .
           rw [show has p.fl 2 = false by unfold has; simp; omega] at H2
           have X2 := hid hx
           clear hx
           have HS : Hid (p.right = 0) := by
            unfold Hid PV.right
            rw [if_neg (by rw [HR.out]; decide), if_neg (by have := G0.out; omega), if_neg (fun h => h.elim (fun h => h.2.elim HN.out X2.out) (fun h => HN.out h.1))]
           go_wp2_with (first | (go_at_call 13; first | ((with_reducible refine (Ret.later (KD.out _)).mono ?_); rintro x _ ⟨rfl, e, rfl⟩) | ((with_reducible refine (Ret.later (KS.out _)).mono ?_); rintro x _ ⟨rfl, e, rfl⟩) | ((with_reducible refine (Ret.later (KR.out _)).mono ?_); rintro x _ ⟨rfl, e, rfl⟩)) | (go_at_call 22; first | ((with_reducible refine (Ret.later (H1.out _)).mono ?_); rintro x _ ⟨rfl, e, rfl⟩) | ((with_reducible refine (Ret.later (H2.out _)).mono ?_); rintro x _ ⟨rfl, e, rfl⟩) | ((with_reducible refine (Ret.later (H4.out _)).mono ?_); rintro x _ ⟨rfl, e, rfl⟩) | ((with_reducible refine (Ret.later (HH.out _)).mono ?_); rintro x _ ⟨rfl, e, rfl⟩) | ((with_reducible refine (Ret.later (HG.out _)).mono ?_); rintro x _ ⟨rfl, e, rfl⟩)))
           go_ret
           exact Ret.mk (by rw [HS.out]; rfl) (HE.out.trans e.h)
         | false =>
          have XT : Hid (¬ (p.fl / 16384 % 2 = 1 \/ p.fl / 262144 % 2 = 1)) := fun h => by have := HTB.out.2 h; rw [hT] at this; cases this
          subst hT
          have HS : Hid (p.right = 0) := by
           unfold Hid PV.right
           rw [if_neg (by rw [HR.out]; decide), if_neg (by have := G0.out; omega), if_neg (fun h => h.elim (fun h => XT.out h.1) (fun h => HN.out h.1))]
          go_wp2_with (first | (go_at_call 13; first | ((with_reducible refine (Ret.later (KD.out _)).mono ?_); rintro x _ ⟨rfl, e, rfl⟩) | ((with_reducible refine (Ret.later (KS.out _)).mono ?_); rintro x _ ⟨rfl, e, rfl⟩) | ((with_reducible refine (Ret.later (KR.out _)).mono ?_); rintro x _ ⟨rfl, e, rfl⟩)) | (go_at_call 22; first | ((with_reducible refine (Ret.later (H1.out _)).mono ?_); rintro x _ ⟨rfl, e, rfl⟩) | ((with_reducible refine (Ret.later (H2.out _)).mono ?_); rintro x _ ⟨rfl, e, rfl⟩) | ((with_reducible refine (Ret.later (H4.out _)).mono ?_); rintro x _ ⟨rfl, e, rfl⟩) | ((with_reducible refine (Ret.later (HH.out _)).mono ?_); rintro x _ ⟨rfl, e, rfl⟩) | ((with_reducible refine (Ret.later (HG.out _)).mono ?_); rintro x _ ⟨rfl, e, rfl⟩)))
          go_ret
          exact Ret.mk (by rw [HS.out]; rfl) (HE.out.trans e.h)
set_option maxRecDepth 20000 in
theorem eidNoneP_any (w : World) : Calls Tryz.prog 134 #[] w (Ret (.agg #[.int .i64 1, str [110, 111, 110, 101], .int .u64 0, .int .u64 0]) w) := by
 go_enter Tryz.func134, Tryz.ntmps134
 go_wp2
 refine bodyPost_ret (v := .agg #[.int .i64 1, str [110, 111, 110, 101], .int .u64 0, .int .u64 0]) ?_ rfl (Ret.mk rfl ((Mod.refl _ _).alloc _))
 simp [results, Tryz.results134, go_sem]
theorem and_powP (f k : Nat) : f &&& 2 ^ k = if f.testBit k = true then 2 ^ k else 0 := by
 apply Nat.eq_of_testBit_eq
 intro i
 rw [Nat.testBit_and, Nat.testBit_two_pow]
 by_cases h : k = i
 .
  subst h
  cases f.testBit k <;> simp
 . cases f.testBit k <;> simp [h]
theorem u64_and_powP (f k : Nat) (hf : f < 18446744073709551616) (hk : k < 64) : bits .and .u64 (f : Int) ((2 ^ k : Nat) : Int) = if f / 2 ^ k % 2 = 1 then ((2 ^ k : Nat) : Int) else 0 := by
 have h2 : 2 ^ k < 18446744073709551616 := by
  have : 2 ^ k < 2 ^ 64 := Nat.pow_lt_pow_right (by omega) hk
  omega
 have h1 : bits .and .u64 (f : Int) ((2 ^ k : Nat) : Int) = ((f &&& 2 ^ k : Nat) : Int) := u64_and_nat f (2 ^ k) hf h2
 rw [h1, and_powP, Nat.testBit_eq_decide_div_mod_eq]
 by_cases h : f / 2 ^ k % 2 = 1 <;> simp [h]
theorem andP_no {f k : Nat} (hf : f < 18446744073709551616) (hk : k < 64) (h : f / 2 ^ k % 2 = 0) : bits .and .u64 (f : Int) ((2 ^ k : Nat) : Int) = 0 := by rw [u64_and_powP f k hf hk, if_neg (by omega)]
theorem andP_yes {f k : Nat} (hf : f < 18446744073709551616) (hk : k < 64) (h : f / 2 ^ k % 2 = 1) : bits .and .u64 (f : Int) ((2 ^ k : Nat) : Int) = ((2 ^ k : Nat) : Int) := by rw [u64_and_powP f k hf hk, if_pos h]
theorem and_tells {f : Nat} (hf : f < 18446744073709551616) : ∃ r : Int, bits .and .u64 (f : Int) 278528 = r /\ (r = 0 ↔ ¬ (f / 16384 % 2 = 1 \/ f / 262144 % 2 = 1)) := by
 refine ⟨_, rfl, ?_⟩
 have h := u64_and_nat f 278528 hf (by omega)
 have e : f &&& 278528 = (f &&& 2 ^ 14) ||| (f &&& 2 ^ 18) := by rw [<- Nat.and_or_distrib_left]; rfl
 rw [e, and_powP, and_powP, Nat.testBit_eq_decide_div_mod_eq, Nat.testBit_eq_decide_div_mod_eq] at h
 have h2 : bits .and .u64 (f : Int) 278528 = bits .and .u64 (f : Int) ((278528 : Nat) : Int) := rfl
 rw [h2, h]
 by_cases a : f / 16384 % 2 = 1 <;> by_cases b : f / 262144 % 2 = 1 <;> simp [a, b]
set_option maxRecDepth 20000 in
set_option maxHeartbeats 1600000 in
theorem ranged_any (p : PV) (hnl : Hid (p.d.name.length < 4611686018427387904 /\ p.s.name.length < 4611686018427387904 /\ p.r.name.length < 4611686018427387904)) (w : World) : Calls Tryz.prog 133 #[.agg p.c] w (Ret (.bool p.ranged) w) := by
 have KD := hid (fun W => eidRight_any p.d hnl.out.1 W)
 have KS := hid (fun W => eidRight_any p.s hnl.out.2.1 W)
 have KR := hid (fun W => eidRight_any p.r hnl.out.2.2 W)
 have HE := hid ((Mod.refl [] w).alloc (.cells p.c 26))
 have HB := hid (Blk.new w 26 p.c)
 go_enter Tryz.func133, Tryz.ntmps133
 go_upto_region 1 with fail
 have HA := hid (Blk.new (w.alloc (.cells p.c 26)) 22 #[.int .u64 (p.t : Int), .int .u64 (p.q : Int), .int .u64 (p.l : Int), .int .u64 (p.o : Int), .int .u64 (p.n : Int)])
 go_wp2_with fail
 have HB2 := hid (HB.out.alloc (.cells #[.int .u64 (p.t : Int), .int .u64 (p.q : Int), .int .u64 (p.l : Int), .int .u64 (p.o : Int), .int .u64 (p.n : Int)] 22))
 have HE2 := hid (HE.out.alloc (.cells #[.int .u64 (p.t : Int), .int .u64 (p.q : Int), .int .u64 (p.l : Int), .int .u64 (p.o : Int), .int .u64 (p.n : Int)] 22))
 have HG : Hid ((w.alloc (.cells p.c 26)).heap.size = w.heap.size + 1) := hid (by simp)
 rw [HG.out] at HA
 generalize (w.alloc (.cells p.c 26)).alloc (.cells #[.int .u64 (p.t : Int), .int .u64 (p.q : Int), .int .u64 (p.l : Int), .int .u64 (p.o : Int), .int .u64 (p.n : Int)] 22) = V2 at *
 clear HB HE HG
 have b0 : ∀ e : Later V2, e.x.cell? ⟨w.heap.size, 0, none⟩ = some (.int .u64 (p.fl : Int)) := HB2.out.cellL 0 rfl
 have b1 : ∀ e : Later V2, e.x.cell? ⟨w.heap.size, 1, none⟩ = some (.int .i64 p.crc) := HB2.out.cellL 1 rfl
 have b2 : ∀ e : Later V2, e.x.cell? ⟨w.heap.size, 2, none⟩ = some (.int .i64 p.d.sch) := HB2.out.cellL 2 rfl
 have b3 : ∀ e : Later V2, e.x.cell? ⟨w.heap.size, 3, none⟩ = some (str p.d.name) := HB2.out.cellL 3 rfl
 have b4 : ∀ e : Later V2, e.x.cell? ⟨w.heap.size, 4, none⟩ = some (.int .u64 (p.d.node : Int)) := HB2.out.cellL 4 rfl
 have b5 : ∀ e : Later V2, e.x.cell? ⟨w.heap.size, 5, none⟩ = some (.int .u64 (p.d.svc : Int)) := HB2.out.cellL 5 rfl
 have b6 : ∀ e : Later V2, e.x.cell? ⟨w.heap.size, 6, none⟩ = some (.int .i64 p.s.sch) := HB2.out.cellL 6 rfl
 have b7 : ∀ e : Later V2, e.x.cell? ⟨w.heap.size, 7, none⟩ = some (str p.s.name) := HB2.out.cellL 7 rfl
 have b8 : ∀ e : Later V2, e.x.cell? ⟨w.heap.size, 8, none⟩ = some (.int .u64 (p.s.node : Int)) := HB2.out.cellL 8 rfl
 have b9 : ∀ e : Later V2, e.x.cell? ⟨w.heap.size, 9, none⟩ = some (.int .u64 (p.s.svc : Int)) := HB2.out.cellL 9 rfl
 have b10 : ∀ e : Later V2, e.x.cell? ⟨w.heap.size, 10, none⟩ = some (.int .i64 p.r.sch) := HB2.out.cellL 10 rfl
 have b11 : ∀ e : Later V2, e.x.cell? ⟨w.heap.size, 11, none⟩ = some (str p.r.name) := HB2.out.cellL 11 rfl
 have b12 : ∀ e : Later V2, e.x.cell? ⟨w.heap.size, 12, none⟩ = some (.int .u64 (p.r.node : Int)) := HB2.out.cellL 12 rfl
 have b13 : ∀ e : Later V2, e.x.cell? ⟨w.heap.size, 13, none⟩ = some (.int .u64 (p.r.svc : Int)) := HB2.out.cellL 13 rfl
 have b14 : ∀ e : Later V2, e.x.cell? ⟨w.heap.size, 14, none⟩ = some (.int .u64 (p.t : Int)) := HB2.out.cellL 14 rfl
 have b15 : ∀ e : Later V2, e.x.cell? ⟨w.heap.size, 15, none⟩ = some (.int .u64 (p.q : Int)) := HB2.out.cellL 15 rfl
 have b16 : ∀ e : Later V2, e.x.cell? ⟨w.heap.size, 16, none⟩ = some (.int .u64 (p.l : Int)) := HB2.out.cellL 16 rfl
 have b17 : ∀ e : Later V2, e.x.cell? ⟨w.heap.size, 17, none⟩ = some (.int .u64 (p.o : Int)) := HB2.out.cellL 17 rfl
 have b18 : ∀ e : Later V2, e.x.cell? ⟨w.heap.size, 18, none⟩ = some (.int .u64 (p.n : Int)) := HB2.out.cellL 18 rfl
 obtain ⟨e0, he0⟩ := Later.self V2
 have HAJ : Hid (∀ (e : Later V2) (i : Nat), i < 5 -> e.x.cell? ⟨w.heap.size + 1, i, none⟩ = some (.int .u64 ((([p.t, p.q, p.l, p.o, p.n][i]?).getD 0 : Nat) : Int))) := fun e i hi => by
  rw [(HA.out.later e).cell i]
  match i, hi with
  | 0, _ => rfl
  | 1, _ => rfl
  | 2, _ => rfl
  | 3, _ => rfl
  | 4, _ => rfl
 go_loopw [17] (fun s17 wr => ∃ i : Nat, s17 = .int .i64 (i : Int) /\ Hid (i <= 5 /\ ∀ j, j < i -> ([p.t, p.q, p.l, p.o, p.n][j]?).getD 0 <= 1099511627776) /\ ∃ e : Later V2, wr = e.x) (fun s17 _ => 5 - (intOf s17).toNat)
 case atStart => exact ⟨0, rfl, (show Hid _ from ⟨by omega, fun j hj => by omega⟩), e0, he0⟩
 case round =>
  clear he0 e0
  obtain ⟨i, rfl, hi, e, rfl⟩ := hrel
  have HE := HE2
  have i0 : (0 : Int) <= (i : Int) := by omega
  have i5 : (i : Int) <= 5 := by have := hi.out.1; omega
  by_cases hlt : i < 5
  .
   have tc : decide ((i : Int) < 5) = true := decide_eq_true (by omega)
   have i1 : (i : Int) < 5 := by omega
   have HJ := fun e => HAJ.out e i hlt
   obtain ⟨x, hx⟩ : ∃ x, ([p.t, p.q, p.l, p.o, p.n][i]?).getD 0 = x := ⟨_, rfl⟩
   rw [hx] at HJ
   have HX := hid hx
   have HLT := hid hlt
   clear hx hlt
   by_cases hx : 1099511627776 < x
   .
    have ya : decide ((1099511627776 : Int) < (x : Int)) = true := decide_eq_true (by omega)
    have yb : ((1099511627776 : Int) < (x : Int)) = True := eq_true (by omega)
    have HR : Hid (p.ranged = false) := by
     unfold Hid PV.ranged
     have h5 := HLT.out
     have hX := HX.out
     match i, h5 with
     | 0, _ => have hX : p.t = x := hX; simp; omega
     | 1, _ => have hX : p.q = x := hX; simp; omega
     | 2, _ => have hX : p.l = x := hX; simp; omega
     | 3, _ => have hX : p.o = x := hX; simp; omega
     | 4, _ => have hX : p.n = x := hX; simp; omega
    clear hx
    go_wp2_with fail
    go_ret
    exact Ret.mk (by rw [HR.out]; rfl) (HE.out.trans e.h)
   .
    have ya : decide ((1099511627776 : Int) < (x : Int)) = false := decide_eq_false (by omega)
    have yb : ((1099511627776 : Int) < (x : Int)) = False := eq_false (by omega)
    have HN := hid hx
    clear hx
    go_wp2_with fail
    go_roundw
    case rel => exact ⟨i + 1, by go_num, (show Hid _ from ⟨HLT.out, fun j hj => by
     by_cases hji : j = i
     . subst hji; rw [HX.out]; have := HN.out; omega
     . exact hi.out.2 j (by omega)⟩), e, rfl⟩
    case measure => have := HLT.out; simp [intOf]; omega
  .
   obtain rfl : i = 5 := by have := hi.out.1; omega
   have HL : Hid (p.t <= 1099511627776 /\ p.q <= 1099511627776 /\ p.l <= 1099511627776 /\ p.o <= 1099511627776 /\ p.n <= 1099511627776) := by
    have h := hi.out.2
    have a0 : p.t <= _ := h 0 (by omega)
    have a1 : p.q <= _ := h 1 (by omega)
    have a2 : p.l <= _ := h 2 (by omega)
    have a3 : p.o <= _ := h 3 (by omega)
    have a4 : p.n <= _ := h 4 (by omega)
    exact ⟨a0, a1, a2, a3, a4⟩
   clear hlt HAJ i0 i5 hi
   go_upto_region 7 with fail
   cases hx : p.d.ok with
   | false =>
    rw [hx] at KD
    have HX := hid hx
    clear hx
    have HS : Hid (p.ranged = false) := by
     unfold Hid PV.ranged
     rw [HX.out]; simp
    go_wp2_with (go_at_call 77; first | ((with_reducible refine (Ret.later (KD.out _)).mono ?_); rintro x _ ⟨rfl, e, rfl⟩) | ((with_reducible refine (Ret.later (KS.out _)).mono ?_); rintro x _ ⟨rfl, e, rfl⟩) | ((with_reducible refine (Ret.later (KR.out _)).mono ?_); rintro x _ ⟨rfl, e, rfl⟩))
    go_ret
    exact Ret.mk (by rw [HS.out]; rfl) (HE.out.trans e.h)
   | true =>
    rw [hx] at KD
    have Xd := hid hx
    clear hx
    cases hx : p.s.ok with
    | false =>
     rw [hx] at KS
     have HX := hid hx
     clear hx
     have HS : Hid (p.ranged = false) := by
      unfold Hid PV.ranged
      rw [HX.out]; simp
     go_wp2_with (go_at_call 77; first | ((with_reducible refine (Ret.later (KD.out _)).mono ?_); rintro x _ ⟨rfl, e, rfl⟩) | ((with_reducible refine (Ret.later (KS.out _)).mono ?_); rintro x _ ⟨rfl, e, rfl⟩) | ((with_reducible refine (Ret.later (KR.out _)).mono ?_); rintro x _ ⟨rfl, e, rfl⟩))
     go_ret
     exact Ret.mk (by rw [HS.out]; rfl) (HE.out.trans e.h)
    | true =>
     rw [hx] at KS
     have Xs := hid hx
     clear hx
     cases hx : p.r.ok with
     | false =>
      rw [hx] at KR
      have HX := hid hx
      clear hx
      have HS : Hid (p.ranged = false) := by
       unfold Hid PV.ranged
       rw [HX.out]; simp
      go_wp2_with (go_at_call 77; first | ((with_reducible refine (Ret.later (KD.out _)).mono ?_); rintro x _ ⟨rfl, e, rfl⟩) | ((with_reducible refine (Ret.later (KS.out _)).mono ?_); rintro x _ ⟨rfl, e, rfl⟩) | ((with_reducible refine (Ret.later (KR.out _)).mono ?_); rintro x _ ⟨rfl, e, rfl⟩))
      go_ret
      exact Ret.mk (by rw [HS.out]; rfl) (HE.out.trans e.h)
     | true =>
      rw [hx] at KR
      have Xr := hid hx
      clear hx
      by_cases hx : p.crc < 0
      .
       have ua : decide (0 <= p.crc) = false := decide_eq_false (by omega)
       have ub : (0 <= p.crc) = False := eq_false (by omega)
       have HX := hid hx
       clear hx
       have HS : Hid (p.ranged = false) := by
        unfold Hid PV.ranged
        have := HX.out; simp; omega
       go_wp2_with (go_at_call 77; first | ((with_reducible refine (Ret.later (KD.out _)).mono ?_); rintro x _ ⟨rfl, e, rfl⟩) | ((with_reducible refine (Ret.later (KS.out _)).mono ?_); rintro x _ ⟨rfl, e, rfl⟩) | ((with_reducible refine (Ret.later (KR.out _)).mono ?_); rintro x _ ⟨rfl, e, rfl⟩))
       go_ret
       exact Ret.mk (by rw [HS.out]; rfl) (HE.out.trans e.h)
      have ua : decide (0 <= p.crc) = true := decide_eq_true (by omega)
      have ub : (0 <= p.crc) = True := eq_true (by omega)
      have X1 := hid hx
      clear hx
      by_cases hx : 2 < p.crc
      .
       have va : decide (p.crc <= 2) = false := decide_eq_false (by omega)
       have vb : (p.crc <= 2) = False := eq_false (by omega)
       have HX := hid hx
       clear hx
       have HS : Hid (p.ranged = false) := by
        unfold Hid PV.ranged
        have := HX.out; simp; omega
       go_wp2_with (go_at_call 77; first | ((with_reducible refine (Ret.later (KD.out _)).mono ?_); rintro x _ ⟨rfl, e, rfl⟩) | ((with_reducible refine (Ret.later (KS.out _)).mono ?_); rintro x _ ⟨rfl, e, rfl⟩) | ((with_reducible refine (Ret.later (KR.out _)).mono ?_); rintro x _ ⟨rfl, e, rfl⟩))
       go_ret
       exact Ret.mk (by rw [HS.out]; rfl) (HE.out.trans e.h)
      have va : decide (p.crc <= 2) = true := decide_eq_true (by omega)
      have vb : (p.crc <= 2) = True := eq_true (by omega)
      have X2 := hid hx
      clear hx
      by_cases hx : 2097152 <= p.fl
      .
       have xa : decide ((p.fl : Int) < 2097152) = false := decide_eq_false (by omega)
       have xb : ((p.fl : Int) < 2097152) = False := eq_false (by omega)
       have HX := hid hx
       clear hx
       have HS : Hid (p.ranged = false) := by
        unfold Hid PV.ranged
        have := HX.out; simp; omega
       go_wp2_with (go_at_call 77; first | ((with_reducible refine (Ret.later (KD.out _)).mono ?_); rintro x _ ⟨rfl, e, rfl⟩) | ((with_reducible refine (Ret.later (KS.out _)).mono ?_); rintro x _ ⟨rfl, e, rfl⟩) | ((with_reducible refine (Ret.later (KR.out _)).mono ?_); rintro x _ ⟨rfl, e, rfl⟩))
       go_ret
       exact Ret.mk (by rw [HS.out]; rfl) (HE.out.trans e.h)
      have xa : decide ((p.fl : Int) < 2097152) = true := decide_eq_true (by omega)
      have xb : ((p.fl : Int) < 2097152) = True := eq_true (by omega)
      have X3 := hid hx
      clear hx
      have HS : Hid (p.ranged = true) := by
       unfold Hid PV.ranged
       rw [Xd.out, Xs.out, Xr.out]; have := X1.out; have := X2.out; have := X3.out; have := HL.out; simp; omega
      go_wp2_with (go_at_call 77; first | ((with_reducible refine (Ret.later (KD.out _)).mono ?_); rintro x _ ⟨rfl, e, rfl⟩) | ((with_reducible refine (Ret.later (KS.out _)).mono ?_); rintro x _ ⟨rfl, e, rfl⟩) | ((with_reducible refine (Ret.later (KR.out _)).mono ?_); rintro x _ ⟨rfl, e, rfl⟩))
      go_ret
      exact Ret.mk (by rw [HS.out]; rfl) (HE.out.trans e.h)
set_option maxRecDepth 20000 in
set_option maxHeartbeats 1600000 in
theorem cPriRight_any (p : PV) (hnl : Hid (p.d.name.length < 4611686018427387904 /\ p.s.name.length < 4611686018427387904 /\ p.r.name.length < 4611686018427387904)) (hf : p.fl < 18446744073709551616) (w : World) : Calls Tryz.prog 108 #[.agg p.c] w (Ret (.int .i64 p.right) w) := by
 have KR := hid (fun W => ranged_any p hnl W)
 have hfl := hid hf
 have HNZ : Hid (p.ranged = true -> p.none -> p.s.node = 0 /\ p.s.svc = 0) := fun hr hn => by
  have ho := (PV.ranged_spec hr).2.1
  unfold EV.ok at ho
  rw [if_pos hn.1] at ho
  simp only [Bool.and_eq_true, decide_eq_true_eq] at ho
  exact ⟨ho.1.1, ho.1.2⟩
 have HE := hid ((Mod.refl [] w).alloc (.cells p.c 26))
 have HB := hid (Blk.new w 26 p.c)
 have f0 : (0 : Int) <= (p.fl : Int) := by omega
 clear hf
 go_enter Tryz.func108, Tryz.ntmps108
 go_upto_region 1 with fail
 generalize w.alloc (.cells p.c 26) = V at *
 have b0 : ∀ e : Later V, e.x.cell? ⟨w.heap.size, 0, none⟩ = some (.int .u64 (p.fl : Int)) := HB.out.cellL 0 rfl
 have b1 : ∀ e : Later V, e.x.cell? ⟨w.heap.size, 1, none⟩ = some (.int .i64 p.crc) := HB.out.cellL 1 rfl
 have b2 : ∀ e : Later V, e.x.cell? ⟨w.heap.size, 2, none⟩ = some (.int .i64 p.d.sch) := HB.out.cellL 2 rfl
 have b3 : ∀ e : Later V, e.x.cell? ⟨w.heap.size, 3, none⟩ = some (str p.d.name) := HB.out.cellL 3 rfl
 have b4 : ∀ e : Later V, e.x.cell? ⟨w.heap.size, 4, none⟩ = some (.int .u64 (p.d.node : Int)) := HB.out.cellL 4 rfl
 have b5 : ∀ e : Later V, e.x.cell? ⟨w.heap.size, 5, none⟩ = some (.int .u64 (p.d.svc : Int)) := HB.out.cellL 5 rfl
 have b6 : ∀ e : Later V, e.x.cell? ⟨w.heap.size, 6, none⟩ = some (.int .i64 p.s.sch) := HB.out.cellL 6 rfl
 have b7 : ∀ e : Later V, e.x.cell? ⟨w.heap.size, 7, none⟩ = some (str p.s.name) := HB.out.cellL 7 rfl
 have b8 : ∀ e : Later V, e.x.cell? ⟨w.heap.size, 8, none⟩ = some (.int .u64 (p.s.node : Int)) := HB.out.cellL 8 rfl
 have b9 : ∀ e : Later V, e.x.cell? ⟨w.heap.size, 9, none⟩ = some (.int .u64 (p.s.svc : Int)) := HB.out.cellL 9 rfl
 have b10 : ∀ e : Later V, e.x.cell? ⟨w.heap.size, 10, none⟩ = some (.int .i64 p.r.sch) := HB.out.cellL 10 rfl
 have b11 : ∀ e : Later V, e.x.cell? ⟨w.heap.size, 11, none⟩ = some (str p.r.name) := HB.out.cellL 11 rfl
 have b12 : ∀ e : Later V, e.x.cell? ⟨w.heap.size, 12, none⟩ = some (.int .u64 (p.r.node : Int)) := HB.out.cellL 12 rfl
 have b13 : ∀ e : Later V, e.x.cell? ⟨w.heap.size, 13, none⟩ = some (.int .u64 (p.r.svc : Int)) := HB.out.cellL 13 rfl
 have b14 : ∀ e : Later V, e.x.cell? ⟨w.heap.size, 14, none⟩ = some (.int .u64 (p.t : Int)) := HB.out.cellL 14 rfl
 have b15 : ∀ e : Later V, e.x.cell? ⟨w.heap.size, 15, none⟩ = some (.int .u64 (p.q : Int)) := HB.out.cellL 15 rfl
 have b16 : ∀ e : Later V, e.x.cell? ⟨w.heap.size, 16, none⟩ = some (.int .u64 (p.l : Int)) := HB.out.cellL 16 rfl
 have b17 : ∀ e : Later V, e.x.cell? ⟨w.heap.size, 17, none⟩ = some (.int .u64 (p.o : Int)) := HB.out.cellL 17 rfl
 have b18 : ∀ e : Later V, e.x.cell? ⟨w.heap.size, 18, none⟩ = some (.int .u64 (p.n : Int)) := HB.out.cellL 18 rfl
 have HBL : Hid (∀ e : Later V, Blk e.x w.heap.size 26 p.c) := fun e => HB.out.later e
 obtain ⟨e, he0⟩ := Later.self V
 rw [he0]
 clear he0
 obtain ⟨r, hr, hrT⟩ := and_tells hfl.out
 have HTB : Hid ((r != 0) = true ↔ (p.fl / 16384 % 2 = 1 \/ p.fl / 262144 % 2 = 1)) := by unfold Hid; rw [bne_iff_ne, Ne, hrT, Classical.not_not]
 clear hrT
 by_cases hx : p.fl % 2 = 1
 all_goals first | (have a1 : bits .and .u64 (p.fl : Int) 1 = 1 := by (have h := andP_yes (k := 0) hfl.out (by omega) (by simpa using hx); simpa using h)) | (have a1 : bits .and .u64 (p.fl : Int) 1 = 0 := by (have h := andP_no (k := 0) hfl.out (by omega) (by have : p.fl % 2 = 0 := (by omega); simpa using this); simpa using h))
 all_goals have F1 := hid hx
 all_goals clear hx
 all_goals refine wp_region_later (by kernel_rfl) (by kernel_rfl) ?_
 all_goals repeat (go_big_quiet_step (fail))
 all_goals refine wpQuiet_nil ?_
 all_goals rintro _ ⟨e, rfl⟩
 all_goals generalize (r != 0) = TB at *
 all_goals clear hr
 all_goals cases hR : p.ranged
 all_goals rw [hR] at KR
 all_goals have HR := hid hR
 all_goals clear hR
 all_goals go_upto_if 13 with (first | (refine wpList_row (by rfl) 26 _ rfl _ rfl (HBL.out _) vqC rfl (by kernel_rfl) ?_) | (go_at_call 133; (with_reducible refine (Ret.later (KR.out _)).mono ?_); rintro x _ ⟨rfl, e, rfl⟩))
 .
  have HS : Hid (p.right = 1) := by
   unfold Hid PV.right
   rw [if_pos HR.out]
  go_wp2_with fail
  go_ret
  exact Ret.mk (by rw [HS.out]; rfl) (HE.out.trans e.h)
 .
  have HNZ := hid (HNZ.out HR.out)
  by_cases hx : p.fl / 4 % 2 = 1
  .
   have a4 : bits .and .u64 (p.fl : Int) 4 = 4 := by have h := andP_yes (k := 2) hfl.out (by omega) (by simpa using hx); simpa using h
   have X4 := hid hx
   clear hx
   have HS : Hid (p.right = 8) := by
    unfold Hid PV.right
    rw [if_neg (by rw [HR.out]; decide), if_pos (.inl ⟨F1.out, .inl X4.out⟩)]
   go_wp2_with fail
   go_ret
   exact Ret.mk (by rw [HS.out]; rfl) (HE.out.trans e.h)
  have a4 : bits .and .u64 (p.fl : Int) 4 = 0 := by have h := andP_no (k := 2) hfl.out (by omega) (by have : p.fl / 4 % 2 = 0 := (by omega); simpa using this); simpa using h
  have X4 := hid hx
  clear hx
  by_cases hy : p.n <= p.o
  .
   have za : decide (p.n <= p.o) = true := decide_eq_true (by omega)
   have zb : (p.n <= p.o) = True := eq_true (by omega)
   have Y := hid hy
   clear hy
   have HS : Hid (p.right = 8) := by
    unfold Hid PV.right
    rw [if_neg (by rw [HR.out]; decide), if_pos (.inl ⟨F1.out, .inr Y.out⟩)]
   go_wp2_with fail
   go_ret
   exact Ret.mk (by rw [HS.out]; rfl) (HE.out.trans e.h)
  have za : decide (p.n <= p.o) = false := decide_eq_false (by omega)
  have zb : (p.n <= p.o) = False := eq_false (by omega)
  have G0 : Hid (¬ ((p.fl % 2 = 1 /\ (p.fl / 4 % 2 = 1 \/ p.n <= p.o)) \/ (¬ p.fl % 2 = 1 /\ (0 < p.o \/ 0 < p.n)))) := by have := F1.out; have := X4.out; unfold Hid; omega
  clear hy
  go_upto_region 9 with fail
  by_cases hN : p.none
  .
   have n1 : p.s.sch = 1 := hN.1
   have n2 : p.s.name = [110, 111, 110, 101] := hN.2
   obtain ⟨n3, n4⟩ := HNZ.out hN
   rw [n1] at b6
   rw [n2] at b7
   rw [n3] at b8
   rw [n4] at b9
   clear n1 n2 n3 n4
   have HN := hid hN
   clear hN
   cases hT : TB with
   | true =>
    have XT : Hid (p.fl / 16384 % 2 = 1 \/ p.fl / 262144 % 2 = 1) := HTB.out.1 hT
    subst hT
    refine wp_region_later (by kernel_rfl) (by kernel_rfl) ?_
    repeat (go_big_quiet_step ((go_at_call 134; exact Ret.later (eidNoneP_any _))))
    refine wpQuiet_nil ?_
    rintro _ ⟨e, rfl⟩
    have HS : Hid (p.right = 8) := by
     unfold Hid PV.right
     rw [if_neg (by rw [HR.out]; decide), if_neg (by have := G0.out; omega), if_pos (.inl ⟨XT.out, .inl HN.out⟩)]
    go_wp2_with fail
    go_ret
    exact Ret.mk (by rw [HS.out]; rfl) (HE.out.trans e.h)
   | false =>
    have XT : Hid (¬ (p.fl / 16384 % 2 = 1 \/ p.fl / 262144 % 2 = 1)) := fun h => by have := HTB.out.2 h; rw [hT] at this; cases this
    subst hT
    refine wp_region_later (by kernel_rfl) (by kernel_rfl) ?_
    repeat (go_big_quiet_step ((go_at_call 134; exact Ret.later (eidNoneP_any _))))
    refine wpQuiet_nil ?_
    rintro _ ⟨e, rfl⟩
    have HS : Hid (p.right = 8) := by
     unfold Hid PV.right
     rw [if_neg (by rw [HR.out]; decide), if_neg (by have := G0.out; omega), if_pos (.inr ⟨HN.out, X4.out⟩)]
    go_wp2_with fail
    go_ret
    exact Ret.mk (by rw [HS.out]; rfl) (HE.out.trans e.h)
  .
   have HN := hid hN
   by_cases hS : p.s.sch = 1
   .
    have hM : ¬ p.s.name = [110, 111, 110, 101] := fun h => hN ⟨hS, h⟩
    rw [hS] at b6
    have ma : ((p.s.name) == ([110, 111, 110, 101])) = false := by rw [beq_eq_false_iff_ne]; exact hM
    have mb : ((p.s.name) = ([110, 111, 110, 101])) = False := eq_false (by exact hM)
    have mc : ((p.s.name) != ([110, 111, 110, 101])) = true := by rw [bne_iff_ne]; exact hM
    clear hM hS hN
    refine wp_region_later (by kernel_rfl) (by kernel_rfl) ?_
    repeat (go_big_quiet_step ((go_at_call 134; exact Ret.later (eidNoneP_any _))))
    refine wpQuiet_nil ?_
    rintro _ ⟨e, rfl⟩
    cases hT : TB with
    | true =>
     have XT : Hid (p.fl / 16384 % 2 = 1 \/ p.fl / 262144 % 2 = 1) := HTB.out.1 hT
     subst hT
     by_cases hx : p.fl / 2 % 2 = 1
     .
      have a2 : bits .and .u64 (p.fl : Int) 2 = 2 := by have h := andP_yes (k := 1) hfl.out (by omega) (by simpa using hx); simpa using h
      have X2 := hid hx
      clear hx
      have HS : Hid (p.right = 8) := by
       unfold Hid PV.right
       rw [if_neg (by rw [HR.out]; decide), if_neg (by have := G0.out; omega), if_pos (.inl ⟨XT.out, .inr X2.out⟩)]
      go_wp2_with fail
      go_ret
      exact Ret.mk (by rw [HS.out]; rfl) (HE.out.trans e.h)
     .
      have a2 : bits .and .u64 (p.fl : Int) 2 = 0 := by have h := andP_no (k := 1) hfl.out (by omega) (by have : p.fl / 2 % 2 = 0 := (by omega); simpa using this); simpa using h
      have X2 := hid hx
      clear hx
      have HS : Hid (p.right = 0) := by
       unfold Hid PV.right
       rw [if_neg (by rw [HR.out]; decide), if_neg (by have := G0.out; omega), if_neg (fun h => h.elim (fun h => h.2.elim HN.out X2.out) (fun h => HN.out h.1))]
      go_wp2_with fail
      go_ret
      exact Ret.mk (by rw [HS.out]; rfl) (HE.out.trans e.h)
    | false =>
     have XT : Hid (¬ (p.fl / 16384 % 2 = 1 \/ p.fl / 262144 % 2 = 1)) := fun h => by have := HTB.out.2 h; rw [hT] at this; cases this
     subst hT
     have HS : Hid (p.right = 0) := by
      unfold Hid PV.right
      rw [if_neg (by rw [HR.out]; decide), if_neg (by have := G0.out; omega), if_neg (fun h => h.elim (fun h => XT.out h.1) (fun h => HN.out h.1))]
     go_wp2_with fail
     go_ret
     exact Ret.mk (by rw [HS.out]; rfl) (HE.out.trans e.h)
   .
    have ma : ((p.s.sch) == (1)) = false := by rw [beq_eq_false_iff_ne]; omega
    have mb : ((p.s.sch) = (1)) = False := eq_false (by omega)
    have mc : ((p.s.sch) != (1)) = true := by rw [bne_iff_ne]; omega
    clear hS hN
    refine wp_region_later (by kernel_rfl) (by kernel_rfl) ?_
    repeat (go_big_quiet_step ((go_at_call 134; exact Ret.later (eidNoneP_any _))))
    refine wpQuiet_nil ?_
    rintro _ ⟨e, rfl⟩
    cases hT : TB with
    | true =>
     have XT : Hid (p.fl / 16384 % 2 = 1 \/ p.fl / 262144 % 2 = 1) := HTB.out.1 hT
     subst hT
     by_cases hx : p.fl / 2 % 2 = 1
     .
      have a2 : bits .and .u64 (p.fl : Int) 2 = 2 := by have h := andP_yes (k := 1) hfl.out (by omega) (by simpa using hx); simpa using h
      have X2 := hid hx
      clear hx
      have HS : Hid (p.right = 8) := by
       unfold Hid PV.right
       rw [if_neg (by rw [HR.out]; decide), if_neg (by have := G0.out; omega), if_pos (.inl ⟨XT.out, .inr X2.out⟩)]
      go_wp2_with fail
      go_ret
      exact Ret.mk (by rw [HS.out]; rfl) (HE.out.trans e.h)
     .
      have a2 : bits .and .u64 (p.fl : Int) 2 = 0 := by have h := andP_no (k := 1) hfl.out (by omega) (by have : p.fl / 2 % 2 = 0 := (by omega); simpa using this); simpa using h
      have X2 := hid hx
      clear hx
      have HS : Hid (p.right = 0) := by
       unfold Hid PV.right
       rw [if_neg (by rw [HR.out]; decide), if_neg (by have := G0.out; omega), if_neg (fun h => h.elim (fun h => h.2.elim HN.out X2.out) (fun h => HN.out h.1))]
      go_wp2_with fail
      go_ret
      exact Ret.mk (by rw [HS.out]; rfl) (HE.out.trans e.h)
    | false =>
     have XT : Hid (¬ (p.fl / 16384 % 2 = 1 \/ p.fl / 262144 % 2 = 1)) := fun h => by have := HTB.out.2 h; rw [hT] at this; cases this
     subst hT
     have HS : Hid (p.right = 0) := by
      unfold Hid PV.right
      rw [if_neg (by rw [HR.out]; decide), if_neg (by have := G0.out; omega), if_neg (fun h => h.elim (fun h => XT.out h.1) (fun h => HN.out h.1))]
     go_wp2_with fail
     go_ret
     exact Ret.mk (by rw [HS.out]; rfl) (HE.out.trans e.h)
 .
  have HS : Hid (p.right = 1) := by
   unfold Hid PV.right
   rw [if_pos HR.out]
  go_wp2_with fail
  go_ret
  exact Ret.mk (by rw [HS.out]; rfl) (HE.out.trans e.h)
 .
  have HNZ := hid (HNZ.out HR.out)
  by_cases hx : p.o = 0
  .
   by_cases hy : p.n = 0
   .
    have G0 : Hid (¬ ((p.fl % 2 = 1 /\ (p.fl / 4 % 2 = 1 \/ p.n <= p.o)) \/ (¬ p.fl % 2 = 1 /\ (0 < p.o \/ 0 < p.n)))) := by have := F1.out; unfold Hid; omega
    rw [hx] at b17
    rw [hy] at b18
    clear hx hy
    go_upto_region 9 with fail
    by_cases hN : p.none
    .
     have n1 : p.s.sch = 1 := hN.1
     have n2 : p.s.name = [110, 111, 110, 101] := hN.2
     obtain ⟨n3, n4⟩ := HNZ.out hN
     rw [n1] at b6
     rw [n2] at b7
     rw [n3] at b8
     rw [n4] at b9
     clear n1 n2 n3 n4
     have HN := hid hN
     clear hN
     cases hT : TB with
     | true =>
      have XT : Hid (p.fl / 16384 % 2 = 1 \/ p.fl / 262144 % 2 = 1) := HTB.out.1 hT
      subst hT
      refine wp_region_later (by kernel_rfl) (by kernel_rfl) ?_
      repeat (go_big_quiet_step ((go_at_call 134; exact Ret.later (eidNoneP_any _))))
      refine wpQuiet_nil ?_
      rintro _ ⟨e, rfl⟩
      have HS : Hid (p.right = 8) := by
       unfold Hid PV.right
       rw [if_neg (by rw [HR.out]; decide), if_neg (by have := G0.out; omega), if_pos (.inl ⟨XT.out, .inl HN.out⟩)]
      go_wp2_with fail
      go_ret
      exact Ret.mk (by rw [HS.out]; rfl) (HE.out.trans e.h)
     | false =>
      have XT : Hid (¬ (p.fl / 16384 % 2 = 1 \/ p.fl / 262144 % 2 = 1)) := fun h => by have := HTB.out.2 h; rw [hT] at this; cases this
      subst hT
      by_cases hx : p.fl / 4 % 2 = 1
      .
       have a4 : bits .and .u64 (p.fl : Int) 4 = 4 := by have h := andP_yes (k := 2) hfl.out (by omega) (by simpa using hx); simpa using h
       have X4 := hid hx
       clear hx
       refine wp_region_later (by kernel_rfl) (by kernel_rfl) ?_
       repeat (go_big_quiet_step ((go_at_call 134; exact Ret.later (eidNoneP_any _))))
       refine wpQuiet_nil ?_
       rintro _ ⟨e, rfl⟩
       have HS : Hid (p.right = 0) := by
        unfold Hid PV.right
        rw [if_neg (by rw [HR.out]; decide), if_neg (by have := G0.out; omega), if_neg (fun h => h.elim (fun h => XT.out h.1) (fun h => h.2 X4.out))]
       go_wp2_with fail
       go_ret
       exact Ret.mk (by rw [HS.out]; rfl) (HE.out.trans e.h)
      .
       have a4 : bits .and .u64 (p.fl : Int) 4 = 0 := by have h := andP_no (k := 2) hfl.out (by omega) (by have : p.fl / 4 % 2 = 0 := (by omega); simpa using this); simpa using h
       have X4 := hid hx
       clear hx
       refine wp_region_later (by kernel_rfl) (by kernel_rfl) ?_
       repeat (go_big_quiet_step ((go_at_call 134; exact Ret.later (eidNoneP_any _))))
       refine wpQuiet_nil ?_
       rintro _ ⟨e, rfl⟩
       have HS : Hid (p.right = 8) := by
        unfold Hid PV.right
        rw [if_neg (by rw [HR.out]; decide), if_neg (by have := G0.out; omega), if_pos (.inr ⟨HN.out, X4.out⟩)]
       go_wp2_with fail
       go_ret
       exact Ret.mk (by rw [HS.out]; rfl) (HE.out.trans e.h)
    .
     have HN := hid hN
     by_cases hS : p.s.sch = 1
     .
      have hM : ¬ p.s.name = [110, 111, 110, 101] := fun h => hN ⟨hS, h⟩
      rw [hS] at b6
      have ma : ((p.s.name) == ([110, 111, 110, 101])) = false := by rw [beq_eq_false_iff_ne]; exact hM
      have mb : ((p.s.name) = ([110, 111, 110, 101])) = False := eq_false (by exact hM)
      have mc : ((p.s.name) != ([110, 111, 110, 101])) = true := by rw [bne_iff_ne]; exact hM
      clear hM hS hN
      refine wp_region_later (by kernel_rfl) (by kernel_rfl) ?_
      repeat (go_big_quiet_step ((go_at_call 134; exact Ret.later (eidNoneP_any _))))
      refine wpQuiet_nil ?_
      rintro _ ⟨e, rfl⟩
      cases hT : TB with
      | true =>
       have XT : Hid (p.fl / 16384 % 2 = 1 \/ p.fl / 262144 % 2 = 1) := HTB.out.1 hT
       subst hT
       by_cases hx : p.fl / 2 % 2 = 1
       .
        have a2 : bits .and .u64 (p.fl : Int) 2 = 2 := by have h := andP_yes (k := 1) hfl.out (by omega) (by simpa using hx); simpa using h
        have X2 := hid hx
        clear hx
        have HS : Hid (p.right = 8) := by
         unfold Hid PV.right
         rw [if_neg (by rw [HR.out]; decide), if_neg (by have := G0.out; omega), if_pos (.inl ⟨XT.out, .inr X2.out⟩)]
        go_wp2_with fail
        go_ret
        exact Ret.mk (by rw [HS.out]; rfl) (HE.out.trans e.h)
       .
        have a2 : bits .and .u64 (p.fl : Int) 2 = 0 := by have h := andP_no (k := 1) hfl.out (by omega) (by have : p.fl / 2 % 2 = 0 := (by omega); simpa using this); simpa using h
        have X2 := hid hx
        clear hx
        have HS : Hid (p.right = 0) := by
         unfold Hid PV.right
         rw [if_neg (by rw [HR.out]; decide), if_neg (by have := G0.out; omega), if_neg (fun h => h.elim (fun h => h.2.elim HN.out X2.out) (fun h => HN.out h.1))]
        go_wp2_with fail
        go_ret
        exact Ret.mk (by rw [HS.out]; rfl) (HE.out.trans e.h)
      | false =>
       have XT : Hid (¬ (p.fl / 16384 % 2 = 1 \/ p.fl / 262144 % 2 = 1)) := fun h => by have := HTB.out.2 h; rw [hT] at this; cases this
       subst hT
       have HS : Hid (p.right = 0) := by
        unfold Hid PV.right
        rw [if_neg (by rw [HR.out]; decide), if_neg (by have := G0.out; omega), if_neg (fun h => h.elim (fun h => XT.out h.1) (fun h => HN.out h.1))]
       go_wp2_with fail
       go_ret
       exact Ret.mk (by rw [HS.out]; rfl) (HE.out.trans e.h)
     .
      have ma : ((p.s.sch) == (1)) = false := by rw [beq_eq_false_iff_ne]; omega
      have mb : ((p.s.sch) = (1)) = False := eq_false (by omega)
      have mc : ((p.s.sch) != (1)) = true := by rw [bne_iff_ne]; omega
      clear hS hN
      refine wp_region_later (by kernel_rfl) (by kernel_rfl) ?_
      repeat (go_big_quiet_step ((go_at_call 134; exact Ret.later (eidNoneP_any _))))
      refine wpQuiet_nil ?_
      rintro _ ⟨e, rfl⟩
      cases hT : TB with
      | true =>
       have XT : Hid (p.fl / 16384 % 2 = 1 \/ p.fl / 262144 % 2 = 1) := HTB.out.1 hT
       subst hT
       by_cases hx : p.fl / 2 % 2 = 1
       .
        have a2 : bits .and .u64 (p.fl : Int) 2 = 2 := by have h := andP_yes (k := 1) hfl.out (by omega) (by simpa using hx); simpa using h
        have X2 := hid hx
        clear hx
        have HS : Hid (p.right = 8) := by
         unfold Hid PV.right
         rw [if_neg (by rw [HR.out]; decide), if_neg (by have := G0.out; omega), if_pos (.inl ⟨XT.out, .inr X2.out⟩)]
        go_wp2_with fail
        go_ret
        exact Ret.mk (by rw [HS.out]; rfl) (HE.out.trans e.h)
       .
        have a2 : bits .and .u64 (p.fl : Int) 2 = 0 := by have h := andP_no (k := 1) hfl.out (by omega) (by have : p.fl / 2 % 2 = 0 := (by omega); simpa using this); simpa using h
        have X2 := hid hx
        clear hx
        have HS : Hid (p.right = 0) := by
         unfold Hid PV.right
         rw [if_neg (by rw [HR.out]; decide), if_neg (by have := G0.out; omega), if_neg (fun h => h.elim (fun h => h.2.elim HN.out X2.out) (fun h => HN.out h.1))]
        go_wp2_with fail
        go_ret
        exact Ret.mk (by rw [HS.out]; rfl) (HE.out.trans e.h)
      | false =>
       have XT : Hid (¬ (p.fl / 16384 % 2 = 1 \/ p.fl / 262144 % 2 = 1)) := fun h => by have := HTB.out.2 h; rw [hT] at this; cases this
       subst hT
       have HS : Hid (p.right = 0) := by
        unfold Hid PV.right
        rw [if_neg (by rw [HR.out]; decide), if_neg (by have := G0.out; omega), if_neg (fun h => h.elim (fun h => XT.out h.1) (fun h => HN.out h.1))]
       go_wp2_with fail
       go_ret
       exact Ret.mk (by rw [HS.out]; rfl) (HE.out.trans e.h)
   .
    have Y := hid hy
    rw [hx] at b17
    have ga : (((p.n : Int)) == (0)) = false := by rw [beq_eq_false_iff_ne]; omega
    have gb : (((p.n : Int)) = (0)) = False := eq_false (by omega)
    have gc : (((p.n : Int)) != (0)) = true := by rw [bne_iff_ne]; omega
    have ha : decide (p.n = 0) = false := decide_eq_false (by omega)
    have hb : (p.n = 0) = False := eq_false (by omega)
    clear hx hy
    have HS : Hid (p.right = 8) := by
     unfold Hid PV.right
     rw [if_neg (by rw [HR.out]; decide), if_pos (.inr ⟨F1.out, by have := Y.out; omega⟩)]
    go_wp2_with fail
    go_ret
    exact Ret.mk (by rw [HS.out]; rfl) (HE.out.trans e.h)
  .
   have Y := hid hx
   have ga : (((p.o : Int)) == (0)) = false := by rw [beq_eq_false_iff_ne]; omega
   have gb : (((p.o : Int)) = (0)) = False := eq_false (by omega)
   have gc : (((p.o : Int)) != (0)) = true := by rw [bne_iff_ne]; omega
   have ha : decide (p.o = 0) = false := decide_eq_false (by omega)
   have hb : (p.o = 0) = False := eq_false (by omega)
   clear hx
   have HS : Hid (p.right = 8) := by
    unfold Hid PV.right
    rw [if_neg (by rw [HR.out]; decide), if_pos (.inr ⟨F1.out, by have := Y.out; omega⟩)]
   go_wp2_with fail
   go_ret
   exact Ret.mk (by rw [HS.out]; rfl) (HE.out.trans e.h)
end Go.Proofs.YthecmnbkjchjmaaGreat
