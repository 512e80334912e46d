/-
 Primaries: why one is not right, as the code tells it.
-/
import Derived.Test.YtmckfdmdkljomaaGreatDoorMMixLessCardaf
import Derived.Laws.BitsAllLaws
import Derived.Deep.AppendLies
import Derived.Deep.RegionLaw
namespace Go.Proofs.YtmckfdmdkljomaaGreatDoor
open Go.RowKit
set_option linter.unusedVariables false
set_option linter.unusedSimpArgs false
set_option maxRecDepth 20000 in
theorem eidNoneP_any (w : World) : Calls Tryz.prog 132 #[] w (Ret (.agg #[.int .i64 1, str [110, 111, 110, 101], .int .u64 0, .int .u64 0]) w) := by
 go_enter Tryz.func132, Tryz.ntmps132
 go_wp2
 refine bodyPost_ret (v := .agg #[.int .i64 1, str [110, 111, 110, 101], .int .u64 0, .int .u64 0]) ?_ rfl (Ret.mk rfl ((Mod.refl _ _).alloc _))
 simp [results, Tryz.results132, go_sem]
theorem and_powP (f k : Nat) : f &&& 2 ^ k = if f.testBit k = true then 2 ^ k else 0 := by
 apply Nat.eq_of_testBit_eq
 intro i
 rw [Nat.testBit_and, Nat.testBit_two_pow]
 by_cases h : k = i
 .
  subst h
  cases f.testBit k <;> simp
 . cases f.testBit k <;> simp [h]
theorem u64_and_powP (f k : Nat) (hf : f < 18446744073709551616) (hk : k < 64) : bits .and .u64 (f : Int) ((2 ^ k : Nat) : Int) = if f / 2 ^ k % 2 = 1 then ((2 ^ k : Nat) : Int) else 0 := by
 have h2 : 2 ^ k < 18446744073709551616 := by
  have : 2 ^ k < 2 ^ 64 := Nat.pow_lt_pow_right (by omega) hk
  omega
 have h1 : bits .and .u64 (f : Int) ((2 ^ k : Nat) : Int) = ((f &&& 2 ^ k : Nat) : Int) := u64_and_nat f (2 ^ k) hf h2
 rw [h1, and_powP, Nat.testBit_eq_decide_div_mod_eq]
 by_cases h : f / 2 ^ k % 2 = 1 <;> simp [h]
theorem andP_no {f k : Nat} (hf : f < 18446744073709551616) (hk : k < 64) (h : f / 2 ^ k % 2 = 0) : bits .and .u64 (f : Int) ((2 ^ k : Nat) : Int) = 0 := by rw [u64_and_powP f k hf hk, if_neg (by omega)]
theorem andP_yes {f k : Nat} (hf : f < 18446744073709551616) (hk : k < 64) (h : f / 2 ^ k % 2 = 1) : bits .and .u64 (f : Int) ((2 ^ k : Nat) : Int) = ((2 ^ k : Nat) : Int) := by rw [u64_and_powP f k hf hk, if_pos h]
theorem and_tells {f : Nat} (hf : f < 18446744073709551616) : ∃ r : Int, bits .and .u64 (f : Int) 278528 = r /\ (r = 0 ↔ ¬ (f / 16384 % 2 = 1 \/ f / 262144 % 2 = 1)) := by
 refine ⟨_, rfl, ?_⟩
 have h := u64_and_nat f 278528 hf (by omega)
 have e : f &&& 278528 = (f &&& 2 ^ 14) ||| (f &&& 2 ^ 18) := by rw [<- Nat.and_or_distrib_left]; rfl
 rw [e, and_powP, and_powP, Nat.testBit_eq_decide_div_mod_eq, Nat.testBit_eq_decide_div_mod_eq] at h
 have h2 : bits .and .u64 (f : Int) 278528 = bits .and .u64 (f : Int) ((278528 : Nat) : Int) := rfl
 rw [h2, h]
 by_cases a : f / 16384 % 2 = 1 <;> by_cases b : f / 262144 % 2 = 1 <;> simp [a, b]
set_option maxRecDepth 20000 in
set_option maxHeartbeats 1600000 in
theorem ranged_any (p : PV) (hnl : Hid (p.d.name.length < 4611686018427387904 /\ p.s.name.length < 4611686018427387904 /\ p.r.name.length < 4611686018427387904)) (w : World) : Calls Tryz.prog 131 #[.agg p.c] w (Ret (.bool p.ranged) w) := by
 have KD := hid (fun W => eidRight_any p.d hnl.out.1 W)
 have KS := hid (fun W => eidRight_any p.s hnl.out.2.1 W)
 have KR := hid (fun W => eidRight_any p.r hnl.out.2.2 W)
 have HE := hid ((Mod.refl [] w).alloc (.cells p.c 26))
 have HB := hid (Blk.new w 26 p.c)
 go_enter Tryz.func131, Tryz.ntmps131
 go_upto_region 1 with fail
 have HA := hid (Blk.new (w.alloc (.cells p.c 26)) 22 #[.int .u64 (p.t : Int), .int .u64 (p.q : Int), .int .u64 (p.l : Int), .int .u64 (p.o : Int), .int .u64 (p.n : Int)])
 go_wp2_with fail
 have HB2 := hid (HB.out.alloc (.cells #[.int .u64 (p.t : Int), .int .u64 (p.q : Int), .int .u64 (p.l : Int), .int .u64 (p.o : Int), .int .u64 (p.n : Int)] 22))
 have HE2 := hid (HE.out.alloc (.cells #[.int .u64 (p.t : Int), .int .u64 (p.q : Int), .int .u64 (p.l : Int), .int .u64 (p.o : Int), .int .u64 (p.n : Int)] 22))
 have HG : Hid ((w.alloc (.cells p.c 26)).heap.size = w.heap.size + 1) := hid (by simp)
 rw [HG.out] at HA
 generalize (w.alloc (.cells p.c 26)).alloc (.cells #[.int .u64 (p.t : Int), .int .u64 (p.q : Int), .int .u64 (p.l : Int), .int .u64 (p.o : Int), .int .u64 (p.n : Int)] 22) = V2 at *
 clear HB HE HG
 have b0 : ∀ e : Later V2, e.x.cell? ⟨w.heap.size, 0, none⟩ = some (.int .u64 (p.fl : Int)) := HB2.out.cellL 0 rfl
 have b1 : ∀ e : Later V2, e.x.cell? ⟨w.heap.size, 1, none⟩ = some (.int .i64 p.crc) := HB2.out.cellL 1 rfl
 have b2 : ∀ e : Later V2, e.x.cell? ⟨w.heap.size, 2, none⟩ = some (.int .i64 p.d.sch) := HB2.out.cellL 2 rfl
 have b3 : ∀ e : Later V2, e.x.cell? ⟨w.heap.size, 3, none⟩ = some (str p.d.name) := HB2.out.cellL 3 rfl
 have b4 : ∀ e : Later V2, e.x.cell? ⟨w.heap.size, 4, none⟩ = some (.int .u64 (p.d.node : Int)) := HB2.out.cellL 4 rfl
 have b5 : ∀ e : Later V2, e.x.cell? ⟨w.heap.size, 5, none⟩ = some (.int .u64 (p.d.svc : Int)) := HB2.out.cellL 5 rfl
 have b6 : ∀ e : Later V2, e.x.cell? ⟨w.heap.size, 6, none⟩ = some (.int .i64 p.s.sch) := HB2.out.cellL 6 rfl
 have b7 : ∀ e : Later V2, e.x.cell? ⟨w.heap.size, 7, none⟩ = some (str p.s.name) := HB2.out.cellL 7 rfl
 have b8 : ∀ e : Later V2, e.x.cell? ⟨w.heap.size, 8, none⟩ = some (.int .u64 (p.s.node : Int)) := HB2.out.cellL 8 rfl
 have b9 : ∀ e : Later V2, e.x.cell? ⟨w.heap.size, 9, none⟩ = some (.int .u64 (p.s.svc : Int)) := HB2.out.cellL 9 rfl
 have b10 : ∀ e : Later V2, e.x.cell? ⟨w.heap.size, 10, none⟩ = some (.int .i64 p.r.sch) := HB2.out.cellL 10 rfl
 have b11 : ∀ e : Later V2, e.x.cell? ⟨w.heap.size, 11, none⟩ = some (str p.r.name) := HB2.out.cellL 11 rfl
 have b12 : ∀ e : Later V2, e.x.cell? ⟨w.heap.size, 12, none⟩ = some (.int .u64 (p.r.node : Int)) := HB2.out.cellL 12 rfl
 have b13 : ∀ e : Later V2, e.x.cell? ⟨w.heap.size, 13, none⟩ = some (.int .u64 (p.r.svc : Int)) := HB2.out.cellL 13 rfl
 have b14 : ∀ e : Later V2, e.x.cell? ⟨w.heap.size, 14, none⟩ = some (.int .u64 (p.t : Int)) := HB2.out.cellL 14 rfl
 have b15 : ∀ e : Later V2, e.x.cell? ⟨w.heap.size, 15, none⟩ = some (.int .u64 (p.q : Int)) := HB2.out.cellL 15 rfl
 have b16 : ∀ e : Later V2, e.x.cell? ⟨w.heap.size, 16, none⟩ = some (.int .u64 (p.l : Int)) := HB2.out.cellL 16 rfl
 have b17 : ∀ e : Later V2, e.x.cell? ⟨w.heap.size, 17, none⟩ = some (.int .u64 (p.o : Int)) := HB2.out.cellL 17 rfl
 have b18 : ∀ e : Later V2, e.x.cell? ⟨w.heap.size, 18, none⟩ = some (.int .u64 (p.n : Int)) := HB2.out.cellL 18 rfl
 obtain ⟨e0, he0⟩ := Later.self V2
 have HAJ : Hid (∀ (e : Later V2) (i : Nat), i < 5 -> e.x.cell? ⟨w.heap.size + 1, i, none⟩ = some (.int .u64 ((([p.t, p.q, p.l, p.o, p.n][i]?).getD 0 : Nat) : Int))) := fun e i hi => by
  rw [(HA.out.later e).cell i]
  match i, hi with
  | 0, _ => rfl
  | 1, _ => rfl
  | 2, _ => rfl
  | 3, _ => rfl
  | 4, _ => rfl
 go_loopw [17] (fun s17 wr => ∃ i : Nat, s17 = .int .i64 (i : Int) /\ Hid (i <= 5 /\ ∀ j, j < i -> ([p.t, p.q, p.l, p.o, p.n][j]?).getD 0 <= 1099511627776) /\ ∃ e : Later V2, wr = e.x) (fun s17 _ => 5 - (intOf s17).toNat)
 case atStart => exact ⟨0, rfl, (show Hid _ from ⟨by omega, fun j hj => by omega⟩), e0, he0⟩
 case round =>
  clear he0 e0
  obtain ⟨i, rfl, hi, e, rfl⟩ := hrel
  have HE := HE2
  have i0 : (0 : Int) <= (i : Int) := by omega
  have i5 : (i : Int) <= 5 := by have := hi.out.1; omega
  by_cases hlt : i < 5
  .
   have tc : decide ((i : Int) < 5) = true := decide_eq_true (by omega)
   have i1 : (i : Int) < 5 := by omega
   have HJ := fun e => HAJ.out e i hlt
   obtain ⟨x, hx⟩ : ∃ x, ([p.t, p.q, p.l, p.o, p.n][i]?).getD 0 = x := ⟨_, rfl⟩
   rw [hx] at HJ
   have HX := hid hx
   have HLT := hid hlt
   clear hx hlt
   by_cases hx : 1099511627776 < x
   .
    have ya : decide ((1099511627776 : Int) < (x : Int)) = true := decide_eq_true (by omega)
    have yb : ((1099511627776 : Int) < (x : Int)) = True := eq_true (by omega)
    have HR : Hid (p.ranged = false) := by
     unfold Hid PV.ranged
     have h5 := HLT.out
     have hX := HX.out
     match i, h5 with
     | 0, _ => have hX : p.t = x := hX; simp; omega
     | 1, _ => have hX : p.q = x := hX; simp; omega
     | 2, _ => have hX : p.l = x := hX; simp; omega
     | 3, _ => have hX : p.o = x := hX; simp; omega
     | 4, _ => have hX : p.n = x := hX; simp; omega
    clear hx
    go_wp2_with fail
    go_ret
    exact Ret.mk (by rw [HR.out]; rfl) (HE.out.trans e.h)
   .
    have ya : decide ((1099511627776 : Int) < (x : Int)) = false := decide_eq_false (by omega)
    have yb : ((1099511627776 : Int) < (x : Int)) = False := eq_false (by omega)
    have HN := hid hx
    clear hx
    go_wp2_with fail
    go_roundw
    case rel => exact ⟨i + 1, by go_num, (show Hid _ from ⟨HLT.out, fun j hj => by
     by_cases hji : j = i
     . subst hji; rw [HX.out]; have := HN.out; omega
     . exact hi.out.2 j (by omega)⟩), e, rfl⟩
    case measure => have := HLT.out; simp [intOf]; omega
  .
   obtain rfl : i = 5 := by have := hi.out.1; omega
   have HL : Hid (p.t <= 1099511627776 /\ p.q <= 1099511627776 /\ p.l <= 1099511627776 /\ p.o <= 1099511627776 /\ p.n <= 1099511627776) := by
    have h := hi.out.2
    have a0 : p.t <= _ := h 0 (by omega)
    have a1 : p.q <= _ := h 1 (by omega)
    have a2 : p.l <= _ := h 2 (by omega)
    have a3 : p.o <= _ := h 3 (by omega)
    have a4 : p.n <= _ := h 4 (by omega)
    exact ⟨a0, a1, a2, a3, a4⟩
   clear hlt HAJ i0 i5 hi
   go_upto_region 7 with fail
   cases hx : p.d.ok with
   | false =>
    rw [hx] at KD
    have HX := hid hx
    clear hx
    have HS : Hid (p.ranged = false) := by
     unfold Hid PV.ranged
     rw [HX.out]; simp
    go_wp2_with (go_at_call 153; first | ((with_reducible refine (Ret.later (KD.out _)).mono ?_); rintro x _ ⟨rfl, e, rfl⟩) | ((with_reducible refine (Ret.later (KS.out _)).mono ?_); rintro x _ ⟨rfl, e, rfl⟩) | ((with_reducible refine (Ret.later (KR.out _)).mono ?_); rintro x _ ⟨rfl, e, rfl⟩))
    go_ret
    exact Ret.mk (by rw [HS.out]; rfl) (HE.out.trans e.h)
   | true =>
    rw [hx] at KD
    have Xd := hid hx
    clear hx
    cases hx : p.s.ok with
    | false =>
     rw [hx] at KS
     have HX := hid hx
     clear hx
     have HS : Hid (p.ranged = false) := by
      unfold Hid PV.ranged
      rw [HX.out]; simp
     go_wp2_with (go_at_call 153; first | ((with_reducible refine (Ret.later (KD.out _)).mono ?_); rintro x _ ⟨rfl, e, rfl⟩) | ((with_reducible refine (Ret.later (KS.out _)).mono ?_); rintro x _ ⟨rfl, e, rfl⟩) | ((with_reducible refine (Ret.later (KR.out _)).mono ?_); rintro x _ ⟨rfl, e, rfl⟩))
     go_ret
     exact Ret.mk (by rw [HS.out]; rfl) (HE.out.trans e.h)
    | true =>
     rw [hx] at KS
     have Xs := hid hx
     clear hx
     cases hx : p.r.ok with
     | false =>
      rw [hx] at KR
      have HX := hid hx
      clear hx
      have HS : Hid (p.ranged = false) := by
       unfold Hid PV.ranged
       rw [HX.out]; simp
      go_wp2_with (go_at_call 153; first | ((with_reducible refine (Ret.later (KD.out _)).mono ?_); rintro x _ ⟨rfl, e, rfl⟩) | ((with_reducible refine (Ret.later (KS.out _)).mono ?_); rintro x _ ⟨rfl, e, rfl⟩) | ((with_reducible refine (Ret.later (KR.out _)).mono ?_); rintro x _ ⟨rfl, e, rfl⟩))
      go_ret
      exact Ret.mk (by rw [HS.out]; rfl) (HE.out.trans e.h)
     | true =>
      rw [hx] at KR
      have Xr := hid hx
      clear hx
      by_cases hx : p.crc < 0
      .
       have ua : decide (0 <= p.crc) = false := decide_eq_false (by omega)
       have ub : (0 <= p.crc) = False := eq_false (by omega)
       have HX := hid hx
       clear hx
       have HS : Hid (p.ranged = false) := by
        unfold Hid PV.ranged
        have := HX.out; simp; omega
       go_wp2_with (go_at_call 153; first | ((with_reducible refine (Ret.later (KD.out _)).mono ?_); rintro x _ ⟨rfl, e, rfl⟩) | ((with_reducible refine (Ret.later (KS.out _)).mono ?_); rintro x _ ⟨rfl, e, rfl⟩) | ((with_reducible refine (Ret.later (KR.out _)).mono ?_); rintro x _ ⟨rfl, e, rfl⟩))
       go_ret
       exact Ret.mk (by rw [HS.out]; rfl) (HE.out.trans e.h)
      have ua : decide (0 <= p.crc) = true := decide_eq_true (by omega)
      have ub : (0 <= p.crc) = True := eq_true (by omega)
      have X1 := hid hx
      clear hx
      by_cases hx : 2 < p.crc
      .
       have va : decide (p.crc <= 2) = false := decide_eq_false (by omega)
       have vb : (p.crc <= 2) = False := eq_false (by omega)
       have HX := hid hx
       clear hx
       have HS : Hid (p.ranged = false) := by
        unfold Hid PV.ranged
        have := HX.out; simp; omega
       go_wp2_with (go_at_call 153; first | ((with_reducible refine (Ret.later (KD.out _)).mono ?_); rintro x _ ⟨rfl, e, rfl⟩) | ((with_reducible refine (Ret.later (KS.out _)).mono ?_); rintro x _ ⟨rfl, e, rfl⟩) | ((with_reducible refine (Ret.later (KR.out _)).mono ?_); rintro x _ ⟨rfl, e, rfl⟩))
       go_ret
       exact Ret.mk (by rw [HS.out]; rfl) (HE.out.trans e.h)
      have va : decide (p.crc <= 2) = true := decide_eq_true (by omega)
      have vb : (p.crc <= 2) = True := eq_true (by omega)
      have X2 := hid hx
      clear hx
      by_cases hx : 2097152 <= p.fl
      .
       have xa : decide ((p.fl : Int) < 2097152) = false := decide_eq_false (by omega)
       have xb : ((p.fl : Int) < 2097152) = False := eq_false (by omega)
       have HX := hid hx
       clear hx
       have HS : Hid (p.ranged = false) := by
        unfold Hid PV.ranged
        have := HX.out; simp; omega
       go_wp2_with (go_at_call 153; first | ((with_reducible refine (Ret.later (KD.out _)).mono ?_); rintro x _ ⟨rfl, e, rfl⟩) | ((with_reducible refine (Ret.later (KS.out _)).mono ?_); rintro x _ ⟨rfl, e, rfl⟩) | ((with_reducible refine (Ret.later (KR.out _)).mono ?_); rintro x _ ⟨rfl, e, rfl⟩))
       go_ret
       exact Ret.mk (by rw [HS.out]; rfl) (HE.out.trans e.h)
      have xa : decide ((p.fl : Int) < 2097152) = true := decide_eq_true (by omega)
      have xb : ((p.fl : Int) < 2097152) = True := eq_true (by omega)
      have X3 := hid hx
      clear hx
      have HS : Hid (p.ranged = true) := by
       unfold Hid PV.ranged
       rw [Xd.out, Xs.out, Xr.out]; have := X1.out; have := X2.out; have := X3.out; have := HL.out; simp; omega
      go_wp2_with (go_at_call 153; first | ((with_reducible refine (Ret.later (KD.out _)).mono ?_); rintro x _ ⟨rfl, e, rfl⟩) | ((with_reducible refine (Ret.later (KS.out _)).mono ?_); rintro x _ ⟨rfl, e, rfl⟩) | ((with_reducible refine (Ret.later (KR.out _)).mono ?_); rintro x _ ⟨rfl, e, rfl⟩))
      go_ret
      exact Ret.mk (by rw [HS.out]; rfl) (HE.out.trans e.h)
set_option maxRecDepth 20000 in
set_option maxHeartbeats 1600000 in
theorem cPriRight_any (p : PV) (hnl : Hid (p.d.name.length < 4611686018427387904 /\ p.s.name.length < 4611686018427387904 /\ p.r.name.length < 4611686018427387904)) (hf : p.fl < 18446744073709551616) (w : World) : Calls Tryz.prog 105 #[.agg p.c] w (Ret (.int .i64 p.right) w) := by
 have KR := hid (fun W => ranged_any p hnl W)
 have hfl := hid hf
 have HNZ : Hid (p.ranged = true -> p.none -> p.s.node = 0 /\ p.s.svc = 0) := fun hr hn => by
  have ho := (PV.ranged_spec hr).2.1
  unfold EV.ok at ho
  rw [if_pos hn.1] at ho
  simp only [Bool.and_eq_true, decide_eq_true_eq] at ho
  exact ⟨ho.1.1, ho.1.2⟩
 have HE := hid ((Mod.refl [] w).alloc (.cells p.c 26))
 have HB := hid (Blk.new w 26 p.c)
 have f0 : (0 : Int) <= (p.fl : Int) := by omega
 clear hf
 go_enter Tryz.func105, Tryz.ntmps105
 go_upto_region 1 with fail
 generalize w.alloc (.cells p.c 26) = V at *
 have b0 : ∀ e : Later V, e.x.cell? ⟨w.heap.size, 0, none⟩ = some (.int .u64 (p.fl : Int)) := HB.out.cellL 0 rfl
 have b1 : ∀ e : Later V, e.x.cell? ⟨w.heap.size, 1, none⟩ = some (.int .i64 p.crc) := HB.out.cellL 1 rfl
 have b2 : ∀ e : Later V, e.x.cell? ⟨w.heap.size, 2, none⟩ = some (.int .i64 p.d.sch) := HB.out.cellL 2 rfl
 have b3 : ∀ e : Later V, e.x.cell? ⟨w.heap.size, 3, none⟩ = some (str p.d.name) := HB.out.cellL 3 rfl
 have b4 : ∀ e : Later V, e.x.cell? ⟨w.heap.size, 4, none⟩ = some (.int .u64 (p.d.node : Int)) := HB.out.cellL 4 rfl
 have b5 : ∀ e : Later V, e.x.cell? ⟨w.heap.size, 5, none⟩ = some (.int .u64 (p.d.svc : Int)) := HB.out.cellL 5 rfl
 have b6 : ∀ e : Later V, e.x.cell? ⟨w.heap.size, 6, none⟩ = some (.int .i64 p.s.sch) := HB.out.cellL 6 rfl
 have b7 : ∀ e : Later V, e.x.cell? ⟨w.heap.size, 7, none⟩ = some (str p.s.name) := HB.out.cellL 7 rfl
 have b8 : ∀ e : Later V, e.x.cell? ⟨w.heap.size, 8, none⟩ = some (.int .u64 (p.s.node : Int)) := HB.out.cellL 8 rfl
 have b9 : ∀ e : Later V, e.x.cell? ⟨w.heap.size, 9, none⟩ = some (.int .u64 (p.s.svc : Int)) := HB.out.cellL 9 rfl
 have b10 : ∀ e : Later V, e.x.cell? ⟨w.heap.size, 10, none⟩ = some (.int .i64 p.r.sch) := HB.out.cellL 10 rfl
 have b11 : ∀ e : Later V, e.x.cell? ⟨w.heap.size, 11, none⟩ = some (str p.r.name) := HB.out.cellL 11 rfl
 have b12 : ∀ e : Later V, e.x.cell? ⟨w.heap.size, 12, none⟩ = some (.int .u64 (p.r.node : Int)) := HB.out.cellL 12 rfl
 have b13 : ∀ e : Later V, e.x.cell? ⟨w.heap.size, 13, none⟩ = some (.int .u64 (p.r.svc : Int)) := HB.out.cellL 13 rfl
 have b14 : ∀ e : Later V, e.x.cell? ⟨w.heap.size, 14, none⟩ = some (.int .u64 (p.t : Int)) := HB.out.cellL 14 rfl
 have b15 : ∀ e : Later V, e.x.cell? ⟨w.heap.size, 15, none⟩ = some (.int .u64 (p.q : Int)) := HB.out.cellL 15 rfl
 have b16 : ∀ e : Later V, e.x.cell? ⟨w.heap.size, 16, none⟩ = some (.int .u64 (p.l : Int)) := HB.out.cellL 16 rfl
 have b17 : ∀ e : Later V, e.x.cell? ⟨w.heap.size, 17, none⟩ = some (.int .u64 (p.o : Int)) := HB.out.cellL 17 rfl
 have b18 : ∀ e : Later V, e.x.cell? ⟨w.heap.size, 18, none⟩ = some (.int .u64 (p.n : Int)) := HB.out.cellL 18 rfl
 have HBL : Hid (∀ e : Later V, Blk e.x w.heap.size 26 p.c) := fun e => HB.out.later e
 obtain ⟨e, he0⟩ := Later.self V
 rw [he0]
 clear he0
 obtain ⟨r, hr, hrT⟩ := and_tells hfl.out
 have HTB : Hid ((r != 0) = true ↔ (p.fl / 16384 % 2 = 1 \/ p.fl / 262144 % 2 = 1)) := by unfold Hid; rw [bne_iff_ne, Ne, hrT, Classical.not_not]
 clear hrT
 by_cases hx : p.fl % 2 = 1
 all_goals first | (have a1 : bits .and .u64 (p.fl : Int) 1 = 1 := by (have h := andP_yes (k := 0) hfl.out (by omega) (by simpa using hx); simpa using h)) | (have a1 : bits .and .u64 (p.fl : Int) 1 = 0 := by (have h := andP_no (k := 0) hfl.out (by omega) (by have : p.fl % 2 = 0 := (by omega); simpa using this); simpa using h))
 all_goals have F1 := hid hx
 all_goals clear hx
 all_goals refine wp_region_later (by kernel_rfl) (by kernel_rfl) ?_
 all_goals repeat (go_big_quiet_step (fail))
 all_goals refine wpQuiet_nil ?_
 all_goals rintro _ ⟨e, rfl⟩
 all_goals generalize (r != 0) = TB at *
 all_goals clear hr
 all_goals cases hR : p.ranged
 all_goals rw [hR] at KR
 all_goals have HR := hid hR
 all_goals clear hR
 all_goals go_upto_if 13 with (first | (refine wpList_row (by rfl) 26 _ rfl _ rfl (HBL.out _) vqJ rfl (by kernel_rfl) ?_) | (go_at_call 131; (with_reducible refine (Ret.later (KR.out _)).mono ?_); rintro x _ ⟨rfl, e, rfl⟩))
 .
  have HS : Hid (p.right = 1) := by
   unfold Hid PV.right
   rw [if_pos HR.out]
  go_wp2_with fail
  go_ret
  exact Ret.mk (by rw [HS.out]; rfl) (HE.out.trans e.h)
 .
  have HNZ := hid (HNZ.out HR.out)
  by_cases hx : p.fl / 4 % 2 = 1
  .
   have a4 : bits .and .u64 (p.fl : Int) 4 = 4 := by have h := andP_yes (k := 2) hfl.out (by omega) (by simpa using hx); simpa using h
   have X4 := hid hx
   clear hx
   have HS : Hid (p.right = 8) := by
    unfold Hid PV.right
    rw [if_neg (by rw [HR.out]; decide), if_pos (.inl ⟨F1.out, .inl X4.out⟩)]
   go_wp2_with fail
   go_ret
   exact Ret.mk (by rw [HS.out]; rfl) (HE.out.trans e.h)
  have a4 : bits .and .u64 (p.fl : Int) 4 = 0 := by have h := andP_no (k := 2) hfl.out (by omega) (by have : p.fl / 4 % 2 = 0 := (by omega); simpa using this); simpa using h
  have X4 := hid hx
  clear hx
  by_cases hy : p.n <= p.o
  .
   have za : decide (p.n <= p.o) = true := decide_eq_true (by omega)
   have zb : (p.n <= p.o) = True := eq_true (by omega)
   have Y := hid hy
   clear hy
   have HS : Hid (p.right = 8) := by
    unfold Hid PV.right
    rw [if_neg (by rw [HR.out]; decide), if_pos (.inl ⟨F1.out, .inr Y.out⟩)]
   go_wp2_with fail
   go_ret
   exact Ret.mk (by rw [HS.out]; rfl) (HE.out.trans e.h)
  have za : decide (p.n <= p.o) = false := decide_eq_false (by omega)
  have zb : (p.n <= p.o) = False := eq_false (by omega)
  have G0 : Hid (¬ ((p.fl % 2 = 1 /\ (p.fl / 4 % 2 = 1 \/ p.n <= p.o)) \/ (¬ p.fl % 2 = 1 /\ (0 < p.o \/ 0 < p.n)))) := by have := F1.out; have := X4.out; unfold Hid; omega
  clear hy
  go_upto_region 9 with fail
  by_cases hN : p.none
  .
   have n1 : p.s.sch = 1 := hN.1
   have n2 : p.s.name = [110, 111, 110, 101] := hN.2
   obtain ⟨n3, n4⟩ := HNZ.out hN
   rw [n1] at b6
   rw [n2] at b7
   rw [n3] at b8
   rw [n4] at b9
   clear n1 n2 n3 n4
   have HN := hid hN
   clear hN
   cases hT : TB with
   | true =>
    have XT : Hid (p.fl / 16384 % 2 = 1 \/ p.fl / 262144 % 2 = 1) := HTB.out.1 hT
    subst hT
    refine wp_region_later (by kernel_rfl) (by kernel_rfl) ?_
    repeat (go_big_quiet_step ((go_at_call 132; exact Ret.later (eidNoneP_any _))))
    refine wpQuiet_nil ?_
    rintro _ ⟨e, rfl⟩
    have HS : Hid (p.right = 8) := by
     unfold Hid PV.right
     rw [if_neg (by rw [HR.out]; decide), if_neg (by have := G0.out; omega), if_pos (.inl ⟨XT.out, .inl HN.out⟩)]
    go_wp2_with fail
    go_ret
    exact Ret.mk (by rw [HS.out]; rfl) (HE.out.trans e.h)
   | false =>
    have XT : Hid (¬ (p.fl / 16384 % 2 = 1 \/ p.fl / 262144 % 2 = 1)) := fun h => by have := HTB.out.2 h; rw [hT] at this; cases this
    subst hT
    refine wp_region_later (by kernel_rfl) (by kernel_rfl) ?_
    repeat (go_big_quiet_step ((go_at_call 132; exact Ret.later (eidNoneP_any _))))
    refine wpQuiet_nil ?_
    rintro _ ⟨e, rfl⟩
    have HS : Hid (p.right = 8) := by
     unfold Hid PV.right
     rw [if_neg (by rw [HR.out]; decide), if_neg (by have := G0.out; omega), if_pos (.inr ⟨HN.out, X4.out⟩)]
    go_wp2_with fail
    go_ret
    exact Ret.mk (by rw [HS.out]; rfl) (HE.out.trans e.h)
  .
   have HN := hid hN
   by_cases hS : p.s.sch = 1
   .
    have hM : ¬ p.s.name = [110, 111, 110, 101] := fun h => hN ⟨hS, h⟩
    rw [hS] at b6
    have ma : ((p.s.name) == ([110, 111, 110, 101])) = false := by rw [beq_eq_false_iff_ne]; exact hM
    have mb : ((p.s.name) = ([110, 111, 110, 101])) = False := eq_false (by exact hM)
    have mc : ((p.s.name) != ([110, 111, 110, 101])) = true := by rw [bne_iff_ne]; exact hM
    clear hM hS hN
    refine wp_region_later (by kernel_rfl) (by kernel_rfl) ?_
    repeat (go_big_quiet_step ((go_at_call 132; exact Ret.later (eidNoneP_any _))))
    refine wpQuiet_nil ?_
    rintro _ ⟨e, rfl⟩
    cases hT : TB with
    | true =>
     have XT : Hid (p.fl / 16384 % 2 = 1 \/ p.fl / 262144 % 2 = 1) := HTB.out.1 hT
     subst hT
     by_cases hx : p.fl / 2 % 2 = 1
     .
      have a2 : bits .and .u64 (p.fl : Int) 2 = 2 := by have h := andP_yes (k := 1) hfl.out (by omega) (by simpa using hx); simpa using h
      have X2 := hid hx
      clear hx
      have HS : Hid (p.right = 8) := by
       unfold Hid PV.right
       rw [if_neg (by rw [HR.out]; decide), if_neg (by have := G0.out; omega), if_pos (.inl ⟨XT.out, .inr X2.out⟩)]
      go_wp2_with fail
      go_ret
      exact Ret.mk (by rw [HS.out]; rfl) (HE.out.trans e.h)
     .
      have a2 : bits .and .u64 (p.fl : Int) 2 = 0 := by have h := andP_no (k := 1) hfl.out (by omega) (by have : p.fl / 2 % 2 = 0 := (by omega); simpa using this); simpa using h
      have X2 := hid hx
      clear hx
      have HS : Hid (p.right = 0) := by
       unfold Hid PV.right
       rw [if_neg (by rw [HR.out]; decide), if_neg (by have := G0.out; omega), if_neg (fun h => h.elim (fun h => h.2.elim HN.out X2.out) (fun h => HN.out h.1))]
      go_wp2_with fail
      go_ret
      exact Ret.mk (by rw [HS.out]; rfl) (HE.out.trans e.h)
    | false =>
     have XT : Hid (¬ (p.fl / 16384 % 2 = 1 \/ p.fl / 262144 % 2 = 1)) := fun h => by have := HTB.out.2 h; rw [hT] at this; cases this
     subst hT
     have HS : Hid (p.right = 0) := by
      unfold Hid PV.right
      rw [if_neg (by rw [HR.out]; decide), if_neg (by have := G0.out; omega), if_neg (fun h => h.elim (fun h => XT.out h.1) (fun h => HN.out h.1))]
     go_wp2_with fail
     go_ret
     exact Ret.mk (by rw [HS.out]; rfl) (HE.out.trans e.h)
   .
    have ma : ((p.s.sch) == (1)) = false := by rw [beq_eq_false_iff_ne]; omega
    have mb : ((p.s.sch) = (1)) = False := eq_false (by omega)
    have mc : ((p.s.sch) != (1)) = true := by rw [bne_iff_ne]; omega
    clear hS hN
    refine wp_region_later (by kernel_rfl) (by kernel_rfl) ?_
    repeat (go_big_quiet_step ((go_at_call 132; exact Ret.later (eidNoneP_any _))))
    refine wpQuiet_nil ?_
    rintro _ ⟨e, rfl⟩
    cases hT : TB with
    | true =>
     have XT : Hid (p.fl / 16384 % 2 = 1 \/ p.fl / 262144 % 2 = 1) := HTB.out.1 hT
     subst hT
     by_cases hx : p.fl / 2 % 2 = 1
     .
      have a2 : bits .and .u64 (p.fl : Int) 2 = 2 := by have h := andP_yes (k := 1) hfl.out (by omega) (by simpa using hx); simpa using h
      have X2 := hid hx
      clear hx
      have HS : Hid (p.right = 8) := by
       unfold Hid PV.right
       rw [if_neg (by rw [HR.out]; decide), if_neg (by have := G0.out; omega), if_pos (.inl ⟨XT.out, .inr X2.out⟩)]
      go_wp2_with fail
      go_ret
      exact Ret.mk (by rw [HS.out]; rfl) (HE.out.trans e.h)
     .
      have a2 : bits .and .u64 (p.fl : Int) 2 = 0 := by have h := andP_no (k := 1) hfl.out (by omega) (by have : p.fl / 2 % 2 = 0 := (by omega); simpa using this); simpa using h
      have X2 := hid hx
      clear hx
      have HS : Hid (p.right = 0) := by
       unfold Hid PV.right
       rw [if_neg (by rw [HR.out]; decide), if_neg (by have := G0.out; omega), if_neg (fun h => h.elim (fun h => h.2.elim HN.out X2.out) (fun h => HN.out h.1))]
      go_wp2_with fail
      go_ret
      exact Ret.mk (by rw [HS.out]; rfl) (HE.out.trans e.h)
    | false =>
     have XT : Hid (¬ (p.fl / 16384 % 2 = 1 \/ p.fl / 262144 % 2 = 1)) := fun h => by have := HTB.out.2 h; rw [hT] at this; cases this
     subst hT
     have HS : Hid (p.right = 0) := by
      unfold Hid PV.right
      rw [if_neg (by rw [HR.out]; decide), if_neg (by have := G0.out; omega), if_neg (fun h => h.elim (fun h => XT.out h.1) (fun h => HN.out h.1))]
     go_wp2_with fail
     go_ret
     exact Ret.mk (by rw [HS.out]; rfl) (HE.out.trans e.h)
 .
  have HS : Hid (p.right = 1) := by
   unfold Hid PV.right
   rw [if_pos HR.out]
  go_wp2_with fail
  go_ret
  exact Ret.mk (by rw [HS.out]; rfl) (HE.out.trans e.h)
 .
  have HNZ := hid (HNZ.out HR.out)
  by_cases hx : p.o = 0
  .
   by_cases hy : p.n = 0
   .
    have G0 : Hid (¬ ((p.fl % 2 = 1 /\ (p.fl / 4 % 2 = 1 \/ p.n <= p.o)) \/ (¬ p.fl % 2 = 1 /\ (0 < p.o \/ 0 < p.n)))) := by have := F1.out; unfold Hid; omega
    rw [hx] at b17
    rw [hy] at b18
    clear hx hy
    go_upto_region 9 with fail
    by_cases hN : p.none
    .
     have n1 : p.s.sch = 1 := hN.1
     have n2 : p.s.name = [110, 111, 110, 101] := hN.2
     obtain ⟨n3, n4⟩ := HNZ.out hN
     rw [n1] at b6
     rw [n2] at b7
     rw [n3] at b8
     rw [n4] at b9
     clear n1 n2 n3 n4
     have HN := hid hN
     clear hN
     cases hT : TB with
     | true =>
      have XT : Hid (p.fl / 16384 % 2 = 1 \/ p.fl / 262144 % 2 = 1) := HTB.out.1 hT
      subst hT
      refine wp_region_later (by kernel_rfl) (by kernel_rfl) ?_
      repeat (go_big_quiet_step ((go_at_call 132; exact Ret.later (eidNoneP_any _))))
      refine wpQuiet_nil ?_
      rintro _ ⟨e, rfl⟩
      have HS : Hid (p.right = 8) := by
       unfold Hid PV.right
       rw [if_neg (by rw [HR.out]; decide), if_neg (by have := G0.out; omega), if_pos (.inl ⟨XT.out, .inl HN.out⟩)]
      go_wp2_with fail
      go_ret
      exact Ret.mk (by rw [HS.out]; rfl) (HE.out.trans e.h)
     | false =>
      have XT : Hid (¬ (p.fl / 16384 % 2 = 1 \/ p.fl / 262144 % 2 = 1)) := fun h => by have := HTB.out.2 h; rw [hT] at this; cases this
      subst hT
      by_cases hx : p.fl / 4 % 2 = 1
      .
       have a4 : bits .and .u64 (p.fl : Int) 4 = 4 := by have h := andP_yes (k := 2) hfl.out (by omega) (by simpa using hx); simpa using h
       have X4 := hid hx
       clear hx
       refine wp_region_later (by kernel_rfl) (by kernel_rfl) ?_
       repeat (go_big_quiet_step ((go_at_call 132; exact Ret.later (eidNoneP_any _))))
       refine wpQuiet_nil ?_
       rintro _ ⟨e, rfl⟩
       have HS : Hid (p.right = 0) := by
        unfold Hid PV.right
        rw [if_neg (by rw [HR.out]; decide), if_neg (by have := G0.out; omega), if_neg (fun h => h.elim (fun h => XT.out h.1) (fun h => h.2 X4.out))]
       go_wp2_with fail
       go_ret
       exact Ret.mk (by rw [HS.out]; rfl) (HE.out.trans e.h)
      .
       have a4 : bits .and .u64 (p.fl : Int) 4 = 0 := by have h := andP_no (k := 2) hfl.out (by omega) (by have : p.fl / 4 % 2 = 0 := (by omega); simpa using this); simpa using h
       have X4 := hid hx
       clear hx
       refine wp_region_later (by kernel_rfl) (by kernel_rfl) ?_
       repeat (go_big_quiet_step ((go_at_call 132; exact Ret.later (eidNoneP_any _))))
       refine wpQuiet_nil ?_
       rintro _ ⟨e, rfl⟩
       have HS : Hid (p.right = 8) := by
        unfold Hid PV.right
        rw [if_neg (by rw [HR.out]; decide), if_neg (by have := G0.out; omega), if_pos (.inr ⟨HN.out, X4.out⟩)]
       go_wp2_with fail
       go_ret
       exact Ret.mk (by rw [HS.out]; rfl) (HE.out.trans e.h)
    .
     have HN := hid hN
     by_cases hS : p.s.sch = 1
     .
      have hM : ¬ p.s.name = [110, 111, 110, 101] := fun h => hN ⟨hS, h⟩
      rw [hS] at b6
      have ma : ((p.s.name) == ([110, 111, 110, 101])) = false := by rw [beq_eq_false_iff_ne]; exact hM
      have mb : ((p.s.name) = ([110, 111, 110, 101])) = False := eq_false (by exact hM)
      have mc : ((p.s.name) != ([110, 111, 110, 101])) = true := by rw [bne_iff_ne]; exact hM
      clear hM hS hN
      refine wp_region_later (by kernel_rfl) (by kernel_rfl) ?_
      repeat (go_big_quiet_step ((go_at_call 132; exact Ret.later (eidNoneP_any _))))
      refine wpQuiet_nil ?_
      rintro _ ⟨e, rfl⟩
      cases hT : TB with
      | true =>
       have XT : Hid (p.fl / 16384 % 2 = 1 \/ p.fl / 262144 % 2 = 1) := HTB.out.1 hT
       subst hT
       by_cases hx : p.fl / 2 % 2 = 1
       .
        have a2 : bits .and .u64 (p.fl : Int) 2 = 2 := by have h := andP_yes (k := 1) hfl.out (by omega) (by simpa using hx); simpa using h
        have X2 := hid hx
        clear hx
        have HS : Hid (p.right = 8) := by
         unfold Hid PV.right
         rw [if_neg (by rw [HR.out]; decide), if_neg (by have := G0.out; omega), if_pos (.inl ⟨XT.out, .inr X2.out⟩)]
        go_wp2_with fail
        go_ret
        exact Ret.mk (by rw [HS.out]; rfl) (HE.out.trans e.h)
       .
        have a2 : bits .and .u64 (p.fl : Int) 2 = 0 := by have h := andP_no (k := 1) hfl.out (by omega) (by have : p.fl / 2 % 2 = 0 := (by omega); simpa using this); simpa using h
        have X2 := hid hx
        clear hx
        have HS : Hid (p.right = 0) := by
         unfold Hid PV.right
         rw [if_neg (by rw [HR.out]; decide), if_neg (by have := G0.out; omega), if_neg (fun h => h.elim (fun h => h.2.elim HN.out X2.out) (fun h => HN.out h.1))]
        go_wp2_with fail
        go_ret
        exact Ret.mk (by rw [HS.out]; rfl) (HE.out.trans e.h)
      | false =>
       have XT : Hid (¬ (p.fl / 16384 % 2 = 1 \/ p.fl / 262144 % 2 = 1)) := fun h => by have := HTB.out.2 h; rw [hT] at this; cases this
       subst hT
       have HS : Hid (p.right = 0) := by
        unfold Hid PV.right
        rw [if_neg (by rw [HR.out]; decide), if_neg (by have := G0.out; omega), if_neg (fun h => h.elim (fun h => XT.out h.1) (fun h => HN.out h.1))]
       go_wp2_with fail
       go_ret
       exact Ret.mk (by rw [HS.out]; rfl) (HE.out.trans e.h)
     .
      have ma : ((p.s.sch) == (1)) = false := by rw [beq_eq_false_iff_ne]; omega
      have mb : ((p.s.sch) = (1)) = False := eq_false (by omega)
      have mc : ((p.s.sch) != (1)) = true := by rw [bne_iff_ne]; omega
      clear hS hN
      refine wp_region_later (by kernel_rfl) (by kernel_rfl) ?_
      repeat (go_big_quiet_step ((go_at_call 132; exact Ret.later (eidNoneP_any _))))
      refine wpQuiet_nil ?_
      rintro _ ⟨e, rfl⟩
      cases hT : TB with
      | true =>
       have XT : Hid (p.fl / 16384 % 2 = 1 \/ p.fl / 262144 % 2 = 1) := HTB.out.1 hT
       subst hT
       by_cases hx : p.fl / 2 % 2 = 1
       .
        have a2 : bits .and .u64 (p.fl : Int) 2 = 2 := by have h := andP_yes (k := 1) hfl.out (by omega) (by simpa using hx); simpa using h
        have X2 := hid hx
        clear hx
        have HS : Hid (p.right = 8) := by
         unfold Hid PV.right
         rw [if_neg (by rw [HR.out]; decide), if_neg (by have := G0.out; omega), if_pos (.inl ⟨XT.out, .inr X2.out⟩)]
        go_wp2_with fail
        go_ret
        exact Ret.mk (by rw [HS.out]; rfl) (HE.out.trans e.h)
       .
        have a2 : bits .and .u64 (p.fl : Int) 2 = 0 := by have h := andP_no (k := 1) hfl.out (by omega) (by have : p.fl / 2 % 2 = 0 := (by omega); simpa using this); simpa using h
        have X2 := hid hx
        clear hx
        have HS : Hid (p.right = 0) := by
         unfold Hid PV.right
         rw [if_neg (by rw [HR.out]; decide), if_neg (by have := G0.out; omega), if_neg (fun h => h.elim (fun h => h.2.elim HN.out X2.out) (fun h => HN.out h.1))]
        go_wp2_with fail
        go_ret
        exact Ret.mk (by rw [HS.out]; rfl) (HE.out.trans e.h)
      | false =>
       have XT : Hid (¬ (p.fl / 16384 % 2 = 1 \/ p.fl / 262144 % 2 = 1)) := fun h => by have := HTB.out.2 h; rw [hT] at this; cases this
       subst hT
       have HS : Hid (p.right = 0) := by
        unfold Hid PV.right
        rw [if_neg (by rw [HR.out]; decide), if_neg (by have := G0.out; omega), if_neg (fun h => h.elim (fun h => XT.out h.1) (fun h => HN.out h.1))]
       go_wp2_with fail
       go_ret
       exact Ret.mk (by rw [HS.out]; rfl) (HE.out.trans e.h)
   .
    have Y := hid hy
    rw [hx] at b17
    have ga : (((p.n : Int)) == (0)) = false := by rw [beq_eq_false_iff_ne]; omega
    have gb : (((p.n : Int)) = (0)) = False := eq_false (by omega)
    have gc : (((p.n : Int)) != (0)) = true := by rw [bne_iff_ne]; omega
    have ha : decide (p.n = 0) = false := decide_eq_false (by omega)
    have hb : (p.n = 0) = False := eq_false (by omega)
    clear hx hy
    have HS : Hid (p.right = 8) := by
     unfold Hid PV.right
     rw [if_neg (by rw [HR.out]; decide), if_pos (.inr ⟨F1.out, by have := Y.out; omega⟩)]
    go_wp2_with fail
    go_ret
    exact Ret.mk (by rw [HS.out]; rfl) (HE.out.trans e.h)
  .
   have Y := hid hx
   have ga : (((p.o : Int)) == (0)) = false := by rw [beq_eq_false_iff_ne]; omega
   have gb : (((p.o : Int)) = (0)) = False := eq_false (by omega)
   have gc : (((p.o : Int)) != (0)) = true := by rw [bne_iff_ne]; omega
   have ha : decide (p.o = 0) = false := decide_eq_false (by omega)
   have hb : (p.o = 0) = False := eq_false (by omega)
   clear hx
   have HS : Hid (p.right = 8) := by
    unfold Hid PV.right
    rw [if_neg (by rw [HR.out]; decide), if_pos (.inr ⟨F1.out, by have := Y.out; omega⟩)]
   go_wp2_with fail
   go_ret
   exact Ret.mk (by rw [HS.out]; rfl) (HE.out.trans e.h)
def chL (L : List T) (i : Nat) : T := (L[i]?).getD T.nil
def acL (a : List (Option Addr × Nat)) (i : Nat) : Option Addr × Nat := (a[i]?).getD (none, 0)
theorem list_IsL {W : World} {Q : Nat -> Prop} {base g c : Nat} {L : List T} {a : List (Option Addr × Nat)} (hlt : g < W.heap.size) (q : Q g) (h : W.ownsRow base 68 5 (.slice (some ⟨g, 0, none⟩) L.length c) L.length (flatC (chL L) (acL a) L.length)) (hI : ∀ i, i < L.length -> IsL W Q (chL L i) (acL a i).1) : IsL W Q (listT L) (some ⟨g, 0, none⟩) := own_IsL hlt q h hI
theorem num_IsL {W : World} {Q : Nat -> Prop} {n : Nat} {A : Option Addr} : IsL W Q (numT n) A := IsL.leaf
theorem str_IsL {W : World} {Q : Nat -> Prop} {s : List UInt8} {A : Option Addr} : IsL W Q (strT s) A := IsL.leaf
set_option maxRecDepth 20000 in
set_option maxHeartbeats 3200000 in
theorem parts_cap (p : PV) (k : Nat) (hc : p.crc = (k : Int)) (hk : k <= 2) (hr : p.ranged = true) (sum : List UInt8) (w : World) : Calls Tryz.prog 162 #[.agg p.c, str sum] w (fun e w' => ∃ A c, e = .returned (itemV (priT p k sum) A c) /\ Ext w w' /\ IsL w' (fun b => w.heap.size <= b) (priT p k sum) A /\ (priT p k sum).k <= c) := by
 obtain ⟨h1, h2, h3, _, _, hfl, ht, hq, hl, ho, hn⟩ := PV.ranged_spec hr
 have KD := hid (fun W => eidItem_ok p.d h1 W)
 have KS := hid (fun W => eidItem_ok p.s h2 W)
 have KR := hid (fun W => eidItem_ok p.r h3 W)
 have HE := hid (((Mod.refl [] w).alloc (.cells p.c 26)).alloc (.cells #[.int .i64 0, .int .u64 0, .string ⟨#[]⟩, .slice none 0 0, .bool false] 68))
 have HB := hid ((Blk.new w 26 p.c).alloc (.cells #[.int .i64 0, .int .u64 0, .string ⟨#[]⟩, .slice none 0 0, .bool false] 68))
 have HR : Hid (Blk ((w.alloc (.cells p.c 26)).alloc (.cells #[.int .i64 0, .int .u64 0, .string ⟨#[]⟩, .slice none 0 0, .bool false] 68)) (w.heap.size + 1) 68 (itemC (numT 0) none 0)) := Blk.newL _ _ _ (by simp)
 have f0 : (0 : Int) <= (p.fl : Int) := by omega
 have HFL : Hid (p.fl < 18446744073709551616) := by unfold Hid; omega
 have t1 : IntKind.u64.wrap (k : Int) = (k : Int) := IntWalk.u64_in _ (by omega)
 have HK := hid hk
 have HC := hid hc
 clear h1 h2 h3 hfl ht hq hl ho hn hr hc hk
 go_enter Tryz.func162, Tryz.ntmps162
 go_upto_region 1 with fail
 generalize (w.alloc (.cells p.c 26)).alloc (.cells #[.int .i64 0, .int .u64 0, .string ⟨#[]⟩, .slice none 0 0, .bool false] 68) = V at *
 have HV : Hid (w.heap.size + 2 <= V.heap.size) := Nat.succ_le_of_lt HR.out.lt
 have c0 : V.cell? ⟨w.heap.size, 2, none⟩ = some (.int .i64 p.d.sch) := HB.out.cell 2
 have c1 : V.cell? ⟨w.heap.size, 3, none⟩ = some (str p.d.name) := HB.out.cell 3
 have c2 : V.cell? ⟨w.heap.size, 4, none⟩ = some (.int .u64 (p.d.node : Int)) := HB.out.cell 4
 have c3 : V.cell? ⟨w.heap.size, 5, none⟩ = some (.int .u64 (p.d.svc : Int)) := HB.out.cell 5
 go_upto_region 2 with (go_at_call 147; refine (KD.out _).mono ?_; rintro x wd ⟨Ad, rfl, hb, hl⟩)
 clear c0 c1 c2 c3
 have HE := hid ((HE.out.trans hb).alloc (.cells (itemC (eidT p.d) Ad 2) 68))
 have HB := hid ((HB.out.ext hb).alloc (.cells (itemC (eidT p.d) Ad 2) 68))
 have HR := hid ((HR.out.ext hb).alloc (.cells (itemC (eidT p.d) Ad 2) 68))
 have Dd := hid (Blk.new wd 68 (itemC (eidT p.d) Ad 2))
 have Nd : Hid (V.heap.size <= wd.heap.size) := hb.size
 have hl := IsL.weak (R := fun b => w.heap.size + 2 <= b /\ b < wd.heap.size) (fun b h1 h2 => ⟨by have := HV.out; have h2 : V.heap.size <= b := h2; omega, h1⟩) _ hl
 have Ld := hid (IsL.ext hl ((Mod.refl [] wd).alloc (.cells (itemC (eidT p.d) Ad 2) 68)))
 clear hb hl
 generalize hGd : wd.alloc (.cells (itemC (eidT p.d) Ad 2) 68) = Vd at *
 have hSd : Hid (wd.heap.size < Vd.heap.size) := hid (by rw [<- hGd]; simp)
 clear hGd
 have c0 : Vd.cell? ⟨w.heap.size, 6, none⟩ = some (.int .i64 p.s.sch) := HB.out.cell 6
 have c1 : Vd.cell? ⟨w.heap.size, 7, none⟩ = some (str p.s.name) := HB.out.cell 7
 have c2 : Vd.cell? ⟨w.heap.size, 8, none⟩ = some (.int .u64 (p.s.node : Int)) := HB.out.cell 8
 have c3 : Vd.cell? ⟨w.heap.size, 9, none⟩ = some (.int .u64 (p.s.svc : Int)) := HB.out.cell 9
 go_upto_region 3 with (go_at_call 147; refine (KS.out _).mono ?_; rintro x ws ⟨As, rfl, hb, hl⟩)
 clear c0 c1 c2 c3
 have HE := hid ((HE.out.trans hb).alloc (.cells (itemC (eidT p.s) As 2) 68))
 have HB := hid ((HB.out.ext hb).alloc (.cells (itemC (eidT p.s) As 2) 68))
 have HR := hid ((HR.out.ext hb).alloc (.cells (itemC (eidT p.s) As 2) 68))
 have Ds := hid (Blk.new ws 68 (itemC (eidT p.s) As 2))
 have Ns : Hid (Vd.heap.size <= ws.heap.size) := hb.size
 have hl := IsL.weak (R := fun b => w.heap.size + 2 <= b /\ b < ws.heap.size) (fun b h1 h2 => ⟨by have := HV.out; have h2 : Vd.heap.size <= b := h2; have := hSd.out; have := Nd.out; omega, h1⟩) _ hl
 have Ls := hid (IsL.ext hl ((Mod.refl [] ws).alloc (.cells (itemC (eidT p.s) As 2) 68)))
 have Dd := hid ((Dd.out.ext hb).alloc (.cells (itemC (eidT p.s) As 2) 68))
 have Ld := hid (IsL.ext (Ld.out.ext hb) ((Mod.refl [] ws).alloc (.cells (itemC (eidT p.s) As 2) 68)))
 clear hb hl
 generalize hGs : ws.alloc (.cells (itemC (eidT p.s) As 2) 68) = Vs at *
 have hSs : Hid (ws.heap.size < Vs.heap.size) := hid (by rw [<- hGs]; simp)
 clear hGs
 have c0 : Vs.cell? ⟨w.heap.size, 10, none⟩ = some (.int .i64 p.r.sch) := HB.out.cell 10
 have c1 : Vs.cell? ⟨w.heap.size, 11, none⟩ = some (str p.r.name) := HB.out.cell 11
 have c2 : Vs.cell? ⟨w.heap.size, 12, none⟩ = some (.int .u64 (p.r.node : Int)) := HB.out.cell 12
 have c3 : Vs.cell? ⟨w.heap.size, 13, none⟩ = some (.int .u64 (p.r.svc : Int)) := HB.out.cell 13
 go_upto_region 4 with (go_at_call 147; refine (KR.out _).mono ?_; rintro x wr ⟨Ar, rfl, hb, hl⟩)
 clear c0 c1 c2 c3
 have HE := hid ((HE.out.trans hb).alloc (.cells (itemC (eidT p.r) Ar 2) 68))
 have HB := hid ((HB.out.ext hb).alloc (.cells (itemC (eidT p.r) Ar 2) 68))
 have HR := hid ((HR.out.ext hb).alloc (.cells (itemC (eidT p.r) Ar 2) 68))
 have Dr := hid (Blk.new wr 68 (itemC (eidT p.r) Ar 2))
 have Nr : Hid (Vs.heap.size <= wr.heap.size) := hb.size
 have hl := IsL.weak (R := fun b => w.heap.size + 2 <= b /\ b < wr.heap.size) (fun b h1 h2 => ⟨by have := HV.out; have h2 : Vs.heap.size <= b := h2; have := hSd.out; have := Nd.out; have := hSs.out; have := Ns.out; omega, h1⟩) _ hl
 have Lr := hid (IsL.ext hl ((Mod.refl [] wr).alloc (.cells (itemC (eidT p.r) Ar 2) 68)))
 have Dd := hid ((Dd.out.ext hb).alloc (.cells (itemC (eidT p.r) Ar 2) 68))
 have Ld := hid (IsL.ext (Ld.out.ext hb) ((Mod.refl [] wr).alloc (.cells (itemC (eidT p.r) Ar 2) 68)))
 have Ds := hid ((Ds.out.ext hb).alloc (.cells (itemC (eidT p.r) Ar 2) 68))
 have Ls := hid (IsL.ext (Ls.out.ext hb) ((Mod.refl [] wr).alloc (.cells (itemC (eidT p.r) Ar 2) 68)))
 clear hb hl
 generalize hGr : wr.alloc (.cells (itemC (eidT p.r) Ar 2) 68) = Vr at *
 have hSr : Hid (wr.heap.size < Vr.heap.size) := hid (by rw [<- hGr]; simp)
 clear hGr
 have xf : ∀ e : Later Vr, e.x.cell? ⟨w.heap.size, 0, none⟩ = some (.int .u64 (p.fl : Int)) := HB.out.cellL 0 rfl
 have xg : ∀ e : Later Vr, e.x.cell? ⟨w.heap.size, 1, none⟩ = some (.int .i64 (k : Int)) := HB.out.cellL 1 (by show some (Value.int .i64 p.crc) = _; rw [HC.out])
 have xt : ∀ e : Later Vr, e.x.cell? ⟨w.heap.size, 14, none⟩ = some (.int .u64 (p.t : Int)) := HB.out.cellL 14 rfl
 have xq : ∀ e : Later Vr, e.x.cell? ⟨w.heap.size, 15, none⟩ = some (.int .u64 (p.q : Int)) := HB.out.cellL 15 rfl
 have xl : ∀ e : Later Vr, e.x.cell? ⟨w.heap.size, 16, none⟩ = some (.int .u64 (p.l : Int)) := HB.out.cellL 16 rfl
 have xd0 : ∀ e : Later Vr, e.x.cell? ⟨wd.heap.size, 0, none⟩ = some (.int .i64 (eidT p.d).kind) := Dd.out.cellL 0 rfl
 have xd1 : ∀ e : Later Vr, e.x.cell? ⟨wd.heap.size, 1, none⟩ = some (.int .u64 ((eidT p.d).n : Int)) := Dd.out.cellL 1 rfl
 have xd2 : ∀ e : Later Vr, e.x.cell? ⟨wd.heap.size, 2, none⟩ = some (str (eidT p.d).s) := Dd.out.cellL 2 rfl
 have xd3 : ∀ e : Later Vr, e.x.cell? ⟨wd.heap.size, 3, none⟩ = some (.slice Ad (eidT p.d).k 2) := Dd.out.cellL 3 rfl
 have xd4 : ∀ e : Later Vr, e.x.cell? ⟨wd.heap.size, 4, none⟩ = some (.bool (eidT p.d).op) := Dd.out.cellL 4 rfl
 have xs0 : ∀ e : Later Vr, e.x.cell? ⟨ws.heap.size, 0, none⟩ = some (.int .i64 (eidT p.s).kind) := Ds.out.cellL 0 rfl
 have xs1 : ∀ e : Later Vr, e.x.cell? ⟨ws.heap.size, 1, none⟩ = some (.int .u64 ((eidT p.s).n : Int)) := Ds.out.cellL 1 rfl
 have xs2 : ∀ e : Later Vr, e.x.cell? ⟨ws.heap.size, 2, none⟩ = some (str (eidT p.s).s) := Ds.out.cellL 2 rfl
 have xs3 : ∀ e : Later Vr, e.x.cell? ⟨ws.heap.size, 3, none⟩ = some (.slice As (eidT p.s).k 2) := Ds.out.cellL 3 rfl
 have xs4 : ∀ e : Later Vr, e.x.cell? ⟨ws.heap.size, 4, none⟩ = some (.bool (eidT p.s).op) := Ds.out.cellL 4 rfl
 have xr0 : ∀ e : Later Vr, e.x.cell? ⟨wr.heap.size, 0, none⟩ = some (.int .i64 (eidT p.r).kind) := Dr.out.cellL 0 rfl
 have xr1 : ∀ e : Later Vr, e.x.cell? ⟨wr.heap.size, 1, none⟩ = some (.int .u64 ((eidT p.r).n : Int)) := Dr.out.cellL 1 rfl
 have xr2 : ∀ e : Later Vr, e.x.cell? ⟨wr.heap.size, 2, none⟩ = some (str (eidT p.r).s) := Dr.out.cellL 2 rfl
 have xr3 : ∀ e : Later Vr, e.x.cell? ⟨wr.heap.size, 3, none⟩ = some (.slice Ar (eidT p.r).k 2) := Dr.out.cellL 3 rfl
 have xr4 : ∀ e : Later Vr, e.x.cell? ⟨wr.heap.size, 4, none⟩ = some (.bool (eidT p.r).op) := Dr.out.cellL 4 rfl
 obtain ⟨e, he⟩ := Later.self Vr
 have HTC : Hid (∀ L : List T, (listT L).k = L.length) := fun L => rfl
 rw [he]
 clear he
 go_region_held3 (fun w' => w'.cell? ⟨w.heap.size, 0, none⟩ = some (.int .u64 (p.fl : Int)) /\ w'.cell? ⟨w.heap.size, 1, none⟩ = some (.int .i64 (k : Int)) /\ w'.cell? ⟨w.heap.size, 14, none⟩ = some (.int .u64 (p.t : Int)) /\ w'.cell? ⟨w.heap.size, 15, none⟩ = some (.int .u64 (p.q : Int)) /\ w'.cell? ⟨w.heap.size, 16, none⟩ = some (.int .u64 (p.l : Int)) /\ w'.cell? ⟨wd.heap.size, 0, none⟩ = some (.int .i64 (eidT p.d).kind) /\ w'.cell? ⟨wd.heap.size, 1, none⟩ = some (.int .u64 ((eidT p.d).n : Int)) /\ w'.cell? ⟨wd.heap.size, 2, none⟩ = some (str (eidT p.d).s) /\ w'.cell? ⟨wd.heap.size, 3, none⟩ = some (.slice Ad (eidT p.d).k 2) /\ w'.cell? ⟨wd.heap.size, 4, none⟩ = some (.bool (eidT p.d).op) /\ w'.cell? ⟨ws.heap.size, 0, none⟩ = some (.int .i64 (eidT p.s).kind) /\ w'.cell? ⟨ws.heap.size, 1, none⟩ = some (.int .u64 ((eidT p.s).n : Int)) /\ w'.cell? ⟨ws.heap.size, 2, none⟩ = some (str (eidT p.s).s) /\ w'.cell? ⟨ws.heap.size, 3, none⟩ = some (.slice As (eidT p.s).k 2) /\ w'.cell? ⟨ws.heap.size, 4, none⟩ = some (.bool (eidT p.s).op) /\ w'.cell? ⟨wr.heap.size, 0, none⟩ = some (.int .i64 (eidT p.r).kind) /\ w'.cell? ⟨wr.heap.size, 1, none⟩ = some (.int .u64 ((eidT p.r).n : Int)) /\ w'.cell? ⟨wr.heap.size, 2, none⟩ = some (str (eidT p.r).s) /\ w'.cell? ⟨wr.heap.size, 3, none⟩ = some (.slice Ar (eidT p.r).k 2) /\ w'.cell? ⟨wr.heap.size, 4, none⟩ = some (.bool (eidT p.r).op)) (go_keep)
  (first
   | (go_at_call 142; (try rw [t1]); refine (NumI_any _ _).mono ?_; rintro x w3 ⟨rfl, hb3⟩; (try have HP := hid (Blk.ext HP.out hb3)); obtain ⟨e, rfl⟩ : ∃ e' : Later Vr, w3 = e'.x := ⟨⟨w3, Mod.trans (by first | exact Later.h _ | exact (Later.h _).drew | exact (Later.h _).alloc _) hb3⟩, rfl⟩)
   | (go_at_call 158; have HP := hid (Blk.new e.x 68 #[.int .i64 0, .int .u64 (p.t : Int), str [], .slice none 0 0, .bool false, .int .i64 0, .int .u64 (p.q : Int), str [], .slice none 0 0, .bool false]); have HG2 : Hid (w.heap.size + 2 <= e.x.heap.size) := Nat.le_trans (Nat.succ_le_of_lt HR.out.lt) e.h.size; generalize e.x.heap.size = g2 at *; refine (ListV_any _ _ _ _).mono ?_; rintro x w3 ⟨rfl, hb3⟩; have HP := hid (Blk.ext HP.out hb3); obtain ⟨e, rfl⟩ : ∃ e' : Later Vr, w3 = e'.x := ⟨⟨w3, Mod.trans (by first | exact Later.h _ | exact (Later.h _).drew | exact (Later.h _).alloc _) hb3⟩, rfl⟩))
 go_upto_region 5 with fail
 clear xf xg xt xq xl xd0 xd1 xd2 xd3 xd4 xs0 xs1 xs2 xs3 xs4 xr0 xr1 xr2 xr3 xr4
 generalize hV8 : World.alloc e.x _ = V8
 have HE : Hid (Ext w V8) := hid (by rw [<- hV8]; exact (HE.out.trans e.h).alloc _)
 have HB : Hid (Blk V8 w.heap.size 26 p.c) := hid (by rw [<- hV8]; exact (HB.out.later e).alloc _)
 have HR : Hid (Blk V8 (w.heap.size + 1) 68 (itemC (numT 0) none 0)) := hid (by rw [<- hV8]; exact (HR.out.later e).alloc _)
 have H8 : Hid (Blk V8 e.x.heap.size 68 #[.int .i64 0, .int .u64 7, str [], .slice none 0 0, .bool false, .int .i64 0, .int .u64 (p.fl : Int), str [], .slice none 0 0, .bool false, .int .i64 0, .int .u64 (k : Int), str [], .slice none 0 0, .bool false, .int .i64 (eidT p.d).kind, .int .u64 ((eidT p.d).n : Int), str (eidT p.d).s, .slice Ad (eidT p.d).k 2, .bool (eidT p.d).op, .int .i64 (eidT p.s).kind, .int .u64 ((eidT p.s).n : Int), str (eidT p.s).s, .slice As (eidT p.s).k 2, .bool (eidT p.s).op, .int .i64 (eidT p.r).kind, .int .u64 ((eidT p.r).n : Int), str (eidT p.r).s, .slice Ar (eidT p.r).k 2, .bool (eidT p.r).op, .int .i64 4, .int .u64 0, str [], .slice (some ⟨g2, 0, none⟩) 2 2, .bool false, .int .i64 0, .int .u64 (p.l : Int), str [], .slice none 0 0, .bool false]) := hid (by rw [<- hV8]; exact Blk.new _ _ _)
 have HPG := hid HP.out.lt
 have HP : Hid (Blk V8 g2 68 #[.int .i64 0, .int .u64 (p.t : Int), str [], .slice none 0 0, .bool false, .int .i64 0, .int .u64 (p.q : Int), str [], .slice none 0 0, .bool false]) := hid (by rw [<- hV8]; exact HP.out.alloc _)
 have Ld : Hid (IsL V8 (fun b => w.heap.size + 2 <= b /\ b < wd.heap.size) (eidT p.d) Ad) := hid (by rw [<- hV8]; exact IsL.ext (Ld.out.ext e.h) ((Mod.refl [] e.x).alloc _))
 have Ls : Hid (IsL V8 (fun b => w.heap.size + 2 <= b /\ b < ws.heap.size) (eidT p.s) As) := hid (by rw [<- hV8]; exact IsL.ext (Ls.out.ext e.h) ((Mod.refl [] e.x).alloc _))
 have Lr : Hid (IsL V8 (fun b => w.heap.size + 2 <= b /\ b < wr.heap.size) (eidT p.r) Ar) := hid (by rw [<- hV8]; exact IsL.ext (Lr.out.ext e.h) ((Mod.refl [] e.x).alloc _))
 have HG8 : Hid (Vr.heap.size <= e.x.heap.size) := e.h.size
 clear hV8 hb3
 generalize e.x.heap.size = g8 at *
 have HO : Hid (V8.ownsRow (w.heap.size + 2) 68 5 (.slice (some ⟨g8, 0, none⟩) 8 8) 8 (flatC (chL [numT 7, numT p.fl, numT k, eidT p.d, eidT p.s, eidT p.r, listT [numT p.t, numT p.q], numT p.l]) (acL [(none, 0), (none, 0), (none, 0), (Ad, 2), (As, 2), (Ar, 2), (some ⟨g2, 0, none⟩, 2), (none, 0)]) 8)) := own_of_blk H8.out (by have := HG8.out; have := hSr.out; have := Nr.out; have := hSs.out; have := Ns.out; have := hSd.out; have := Nd.out; have := HV.out; omega) (by decide) rfl
 have HGG : Hid (g8 <= g8) := Nat.le_refl _
 have HG8b : Hid (w.heap.size + 2 <= g8) := by have := HG8.out; have := hSr.out; have := Nr.out; have := hSs.out; have := Ns.out; have := hSd.out; have := Nd.out; have := HV.out; unfold Hid; omega
 have HLT8 := hid H8.out.lt
 have CH : Hid (∀ i, i < 8 -> IsL V8 (fun b => w.heap.size + 2 <= b /\ b < g8) (chL [numT 7, numT p.fl, numT k, eidT p.d, eidT p.s, eidT p.r, listT [numT p.t, numT p.q], numT p.l] i) (acL [(none, 0), (none, 0), (none, 0), (Ad, 2), (As, 2), (Ar, 2), (some ⟨g2, 0, none⟩, 2), (none, 0)] i).1) := fun i hi => by
  have q1 := HG8.out; have q2 := hSr.out; have q3 := Nr.out; have q4 := hSs.out; have q5 := Ns.out; have q6 := hSd.out; have q7 := Nd.out; have q8 := HV.out
  match i, hi with
  | 0, _ => exact num_IsL
  | 1, _ => exact num_IsL
  | 2, _ => exact num_IsL
  | 3, _ => exact IsL.weak (fun b _ h => ⟨h.1, by have := h.2; omega⟩) (eidT p.d) Ld.out
  | 4, _ => exact IsL.weak (fun b _ h => ⟨h.1, by have := h.2; omega⟩) (eidT p.s) Ls.out
  | 5, _ => exact IsL.weak (fun b _ h => ⟨h.1, by have := h.2; omega⟩) (eidT p.r) Lr.out
  | 6, _ => exact fun _ => ⟨g2, 0, rfl, HP.out.lt, ⟨HG2.out, HPG.out⟩, fun j hj => by
    have hj : j = 0 \/ j = 1 := by have : j < 2 := hj; omega
    rcases hj with rfl | rfl
    . exact ⟨none, 0, ⟨HP.out.cell 0, HP.out.cell 1, HP.out.cell 2, HP.out.cell 3, HP.out.cell 4⟩, num_IsL⟩
    . exact ⟨none, 0, ⟨HP.out.cell 5, HP.out.cell 6, HP.out.cell 7, HP.out.cell 8, HP.out.cell 9⟩, num_IsL⟩⟩
  | 7, _ => exact num_IsL
 clear H8 HP Ld Ls Lr HG8 HPG hSr Nr hSs Ns hSd Nd KD KS KR Dd Ds Dr HG2
 have HW8 : Hid (w.heap.size + 2 <= g8) := by have := HG8b.out; unfold Hid; omega
 obtain ⟨i0, hi, hz0, hz1, hz2⟩ := info_parts infoItem
 have HINF := hid (And.intro hi (And.intro hz0 (And.intro hz1 hz2)))
 clear hi hz0 hz1 hz2
 have HLG := HLT8
 have y0 : ∀ e : Later V8, e.x.cell? ⟨w.heap.size, 0, none⟩ = some (.int .u64 (p.fl : Int)) := HB.out.cellL 0 rfl
 obtain ⟨e, he⟩ := Later.self V8
 rw [he]
 clear he
 by_cases hx : p.fl % 2 = 1
 .
  have a1 : bits .and .u64 (p.fl : Int) 1 = 1 := by have h := andP_yes (k := 0) HFL.out (by omega) (by simpa using hx); simpa using h
  have HX := hid hx
  clear hx
  have y17 : ∀ e : Later V8, e.x.cell? ⟨w.heap.size, 17, none⟩ = some (.int .u64 (p.o : Int)) := HB.out.cellL 17 rfl
  have y18 : ∀ e : Later V8, e.x.cell? ⟨w.heap.size, 18, none⟩ = some (.int .u64 (p.n : Int)) := HB.out.cellL 18 rfl
  have y18a : ∀ (e : Later V8) (ob : Obj), (e.x.alloc ob).cell? ⟨w.heap.size, 18, none⟩ = some (.int .u64 (p.n : Int)) := fun e ob => ((HB.out.later e).alloc ob).cell 18
  have y17a : ∀ (e : Later V8) (ob : Obj), (e.x.alloc ob).cell? ⟨w.heap.size, 17, none⟩ = some (.int .u64 (p.o : Int)) := fun e ob => ((HB.out.later e).alloc ob).cell 17
  have HOE : Hid (∀ e : Later V8, e.x.ownsRow (w.heap.size + 2) 68 5 (.slice (some ⟨g8, 0, none⟩) 8 8) 8 (flatC (chL [numT 7, numT p.fl, numT k, eidT p.d, eidT p.s, eidT p.r, listT [numT p.t, numT p.q], numT p.l]) (acL [(none, 0), (none, 0), (none, 0), (Ad, 2), (As, 2), (Ar, 2), (some ⟨g2, 0, none⟩, 2), (none, 0)]) 8)) := fun e => ownsRow_mod HO.out e.h (fun _ _ => by simp)
  obtain ⟨hi, hz0, hz1, hz2⟩ := HINF.out
  go_upto_region 6 with fail
  go_region_held3 (fun w' => w'.cell? ⟨w.heap.size, 17, none⟩ = some (.int .u64 (p.o : Int)) /\ w'.cell? ⟨w.heap.size, 18, none⟩ = some (.int .u64 (p.n : Int))) (go_keep)
   (first
    | (go_at_call 142; refine (NumI_any _ _).mono ?_; rintro x w3 ⟨rfl, hb3⟩; obtain ⟨e, rfl⟩ : ∃ e' : Later V8, w3 = e'.x := ⟨⟨w3, Mod.trans (by first | exact Later.h _ | exact (Later.h _).drew | exact (Later.h _).alloc _) hb3⟩, rfl⟩)
    | (refine step_append_lies _ (by rfl) _ _ 66 (by rfl) (w.heap.size + 2) 68 i0 _ 5 64 vqF hi hz0 hz1 hz2 (by rfl) (by decide) _ 8 _ (by rfl) ((HOE.out e).alloc _) ⟨e.x.heap.size, 0, none⟩ 2 2 [.int .i64 0, .int .u64 (p.o : Int), str [], .slice none 0 0, .bool false, .int .i64 0, .int .u64 (p.n : Int), str [], .slice none 0 0, .bool false] (by rfl) (by rfl) (World.news_of_block (heap_alloc_new _ _)) (fun u hu => by simp only [List.mem_cons, List.not_mem_nil, or_false] at hu; rcases hu with h | h | h | h | h | h | h | h | h | h <;> (subst h; rfl)) (by decide) (by decide) (by decide) (by have := HW8.out; have := HLT8.out; have := e.h.size; simp; omega) (e.x.heap.size + 1) (by simp) ?_; intro g9 c9 w9 hown hgrow hat hlt; have z17 : w9.cell? ⟨w.heap.size, 17, none⟩ = some (.int .u64 (p.o : Int)) := (hgrow.cell_far _ (by have := HW8.out; have := HLT8.out; have := e.h.size; simp; omega) (by simp [Value.ownBlock]; have := HW8.out; omega)).trans (y17a e _); have z18 : w9.cell? ⟨w.heap.size, 18, none⟩ = some (.int .u64 (p.n : Int)) := (hgrow.cell_far _ (by have := HW8.out; have := HLT8.out; have := e.h.size; simp; omega) (by simp [Value.ownBlock]; have := HW8.out; omega)).trans (y18a e _)))
  go_upto_region 7 with fail
  clear y17 y18 y17a y18a z17 z18 hi hz0 hz1 hz2 HOE y0
  have hm : Mod [g8] V8 w9 := Mod.grown (by first | exact (Mod.of_ext e.h).alloc _ | exact ((Mod.of_ext e.h).alloc _).drew | exact ((Mod.of_ext e.h).drew).alloc _) hgrow (fun b hb => by simp [Value.ownBlock] at hb; subst hb; exact .inl (by simp))
  have HGE : Hid (g8 <= g9) := by
   have h1 := HGG.out
   have h2 := HLT8.out
   have h3 := e.h.size
   rcases hat with h | h
   . simp [Value.ownBlock] at h; unfold Hid; omega
   . unfold Hid; omega
  have HO : Hid (w9.ownsRow (w.heap.size + 2) 68 5 (.slice (some ⟨g9, 0, none⟩) 10 c9) 10 (flatC (chL [numT 7, numT p.fl, numT k, eidT p.d, eidT p.s, eidT p.r, listT [numT p.t, numT p.q], numT p.l, numT p.o, numT p.n]) (acL [(none, 0), (none, 0), (none, 0), (Ad, 2), (As, 2), (Ar, 2), (some ⟨g2, 0, none⟩, 2), (none, 0), (none, 0), (none, 0)]) 10)) := hown
  have HE : Hid (Ext w w9) := (HE.out.of_ext.trans hm).new (fun b hb => .inr (by rw [List.mem_singleton] at hb; subst hb; have := HGG.out; have := HW8.out; omega))
  have HB : Hid (Blk w9 w.heap.size 26 p.c) := HB.out.mod hm (by have := HGG.out; have := HW8.out; simp; omega)
  have HR : Hid (Blk w9 (w.heap.size + 1) 68 (itemC (numT 0) none 0)) := HR.out.mod hm (by have := HGG.out; have := HW8.out; simp; omega)
  have CH : Hid (∀ i, i < 10 -> IsL w9 (fun b => w.heap.size + 2 <= b /\ b < g8) (chL [numT 7, numT p.fl, numT k, eidT p.d, eidT p.s, eidT p.r, listT [numT p.t, numT p.q], numT p.l, numT p.o, numT p.n] i) (acL [(none, 0), (none, 0), (none, 0), (Ad, 2), (As, 2), (Ar, 2), (some ⟨g2, 0, none⟩, 2), (none, 0), (none, 0), (none, 0)] i).1) := fun i hi => by
   by_cases h : i < 8
   .
    have q := IsL.mod hm (fun b hb _ hs => by rw [List.mem_singleton] at hs; subst hs; have := HGG.out; have := hb.2; omega) _ (CH.out i h)
    match i, h with
    | 0, _ => exact q
    | 1, _ => exact q
    | 2, _ => exact q
    | 3, _ => exact q
    | 4, _ => exact q
    | 5, _ => exact q
    | 6, _ => exact q
    | 7, _ => exact q
   .
    obtain ⟨j, rfl⟩ : ∃ j, i = 8 + j := ⟨i - 8, by omega⟩
    match j, hi with
    | 0, _ => exact num_IsL
    | 1, _ => exact num_IsL
    | j + 2, h => exact absurd h (by omega)
  have HLT8 : Hid (g8 < w9.heap.size) := by have := hm.size; have := HLT8.out; unfold Hid; omega
  have HLG := hid hlt
  clear hown hgrow hat hlt hm HGG
  have HGG := HGE
  clear HGE
  obtain ⟨e, he⟩ := Later.self w9
  rw [he]
  clear he
  have y1 : ∀ e : Later w9, e.x.cell? ⟨w.heap.size, 1, none⟩ = some (.int .i64 (k : Int)) := HB.out.cellL 1 (by show some (Value.int .i64 p.crc) = _; rw [HC.out])
  by_cases hk0 : k = 0
  .
   have kka : (((k : Int)) == (0)) = true := by rw [beq_iff_eq]; omega
   have kkb : (((k : Int)) = (0)) = True := eq_true (by omega)
   have kkc : (((k : Int)) != (0)) = false := by rw [bne_eq_false_iff_eq]; omega
   have kza : decide (k = 0) = true := decide_eq_true (by omega)
   have kzb : (k = 0) = True := eq_true (by omega)
   have HK0 := hid hk0
   clear hk0
   go_upto_region 9 with fail
   have HLL : Hid (priT p k sum = listT [numT 7, numT p.fl, numT k, eidT p.d, eidT p.s, eidT p.r, listT [numT p.t, numT p.q], numT p.l, numT p.o, numT p.n]) := by unfold Hid priT priL; rw [if_pos HX.out, if_pos HK0.out]; rfl
   go_wp2_with (go_at_call 158; refine (ListV_any _ _ _ _).mono ?_; rintro x w3 ⟨rfl, hb3⟩; obtain ⟨e, rfl⟩ : ∃ e' : Later w9, w3 = e'.x := ⟨⟨w3, Mod.trans (by first | exact Later.h _ | exact (Later.h _).drew | exact (Later.h _).alloc _) hb3⟩, rfl⟩; obtain ⟨c0, c1, c2, c3, c4⟩ := cells5 (HR.out.later e); have f0 := (HR.out.later e).frozen 0; have f1 := (HR.out.later e).frozen 1; have f2 := (HR.out.later e).frozen 2; have f3 := (HR.out.later e).frozen 3; have f4 := (HR.out.later e).frozen 4)
   obtain ⟨d0, d1, d2, d3, d4⟩ := cells5 (set5_blk (t := listT [numT 7, numT p.fl, numT k, eidT p.d, eidT p.s, eidT p.r, listT [numT p.t, numT p.q], numT p.l, numT p.o, numT p.n]) (A := some ⟨g9, 0, none⟩) (c := c9) (HR.out.later e))
   clear c0 c1 c2 c3 c4 f0 f1 f2 f3 f4
   show bodyPost _ _ _ _ _ (set5 e.x (w.heap.size + 1) (listT [numT 7, numT p.fl, numT k, eidT p.d, eidT p.s, eidT p.r, listT [numT p.t, numT p.q], numT p.l, numT p.o, numT p.n]) (some ⟨g9, 0, none⟩) c9)
   refine bodyPost_ret (v := itemV (listT [numT 7, numT p.fl, numT k, eidT p.d, eidT p.s, eidT p.r, listT [numT p.t, numT p.q], numT p.l, numT p.o, numT p.n]) (some ⟨g9, 0, none⟩) c9) (by simp [results, Tryz.results162, go_sem, d0, d1, d2, d3, d4]) rfl ⟨some ⟨g9, 0, none⟩, c9, by rw [HLL.out], set5_mod (HE.out.trans e.h) (by omega), ?_⟩
   rw [HLL.out]
   refine ⟨?_, room_cap HO.out⟩
   refine IsL.weak (fun _ _ h => by have : w.heap.size + 2 <= _ := h; omega) _ (IsL.mod (Q := fun b => w.heap.size + 2 <= b) set5_modb (fun b hb _ hs => by rw [List.mem_singleton] at hs; have : w.heap.size + 2 <= b := hb; omega) _ ?_)
   exact list_IsL (base := w.heap.size + 2) (c := c9) (by have := HLG.out; have := e.h.size; omega) (by have := HGG.out; have := HW8.out; omega) (ownsRow_mod HO.out e.h (fun _ _ => by simp)) (fun i hi => IsL.weak (fun b _ h => h.1) _ ((CH.out i hi).ext e.h))
  .
   have kka : (((k : Int)) == (0)) = false := by rw [beq_eq_false_iff_ne]; omega
   have kkb : (((k : Int)) = (0)) = False := eq_false (by omega)
   have kkc : (((k : Int)) != (0)) = true := by rw [bne_iff_ne]; omega
   have kza : decide (k = 0) = false := decide_eq_false (by omega)
   have kzb : (k = 0) = False := eq_false (by omega)
   have HK0 := hid hk0
   clear hk0
   have HOE : Hid (∀ e : Later w9, e.x.ownsRow (w.heap.size + 2) 68 5 (.slice (some ⟨g9, 0, none⟩) 10 c9) 10 (flatC (chL [numT 7, numT p.fl, numT k, eidT p.d, eidT p.s, eidT p.r, listT [numT p.t, numT p.q], numT p.l, numT p.o, numT p.n]) (acL [(none, 0), (none, 0), (none, 0), (Ad, 2), (As, 2), (Ar, 2), (some ⟨g2, 0, none⟩, 2), (none, 0), (none, 0), (none, 0)]) 10)) := fun e => ownsRow_mod HO.out e.h (fun _ _ => by simp)
   obtain ⟨hi, hz0, hz1, hz2⟩ := HINF.out
   go_upto_region 9 with (first | (go_at_call 181; refine (StrV_any _ _).mono ?_; rintro x w3 ⟨rfl, hb3⟩; obtain ⟨e, rfl⟩ : ∃ e' : Later w9, w3 = e'.x := ⟨⟨w3, Mod.trans (by first | exact Later.h _ | exact (Later.h _).drew | exact (Later.h _).alloc _) hb3⟩, rfl⟩) | (at_builtin; refine wpList_append_lies _ rfl _ _ 66 (by rfl) (w.heap.size + 2) 68 i0 _ 5 64 vqF hi hz0 hz1 hz2 (by rfl) (by decide) _ 10 _ (by rfl) ((HOE.out e).alloc _) ⟨e.x.heap.size, 0, none⟩ 1 1 [.int .i64 (strT sum).kind, .int .u64 ((strT sum).n : Int), str (strT sum).s, .slice none (strT sum).k 0, .bool (strT sum).op] (by rfl) (by rfl) (World.news_of_block (heap_alloc_new _ _)) (fun u hu => by simp only [List.mem_cons, List.not_mem_nil, or_false] at hu; rcases hu with h | h | h | h | h <;> (subst h; rfl)) (by decide) (by decide) (by decide) (by have := HW8.out; have := HLT8.out; have := e.h.size; simp; omega) (e.x.heap.size + 1) (by simp) ?_; intro g' c' w' hown hgrow hat hlt))
   clear hi hz0 hz1 hz2 HOE y1
   have hm : Mod [g9] w9 w' := Mod.grown (by first | exact (Mod.of_ext e.h).alloc _ | exact ((Mod.of_ext e.h).alloc _).drew | exact ((Mod.of_ext e.h).drew).alloc _) hgrow (fun b hb => by simp [Value.ownBlock] at hb; subst hb; exact .inl (by simp))
   have HGE : Hid (g8 <= g') := by
    have h1 := HGG.out
    have h2 := HLT8.out
    have h3 := e.h.size
    rcases hat with h | h
    . simp [Value.ownBlock] at h; unfold Hid; omega
    . unfold Hid; omega
   have HO : Hid (w'.ownsRow (w.heap.size + 2) 68 5 (.slice (some ⟨g', 0, none⟩) 11 c') 11 (flatC (chL [numT 7, numT p.fl, numT k, eidT p.d, eidT p.s, eidT p.r, listT [numT p.t, numT p.q], numT p.l, numT p.o, numT p.n, strT sum]) (acL [(none, 0), (none, 0), (none, 0), (Ad, 2), (As, 2), (Ar, 2), (some ⟨g2, 0, none⟩, 2), (none, 0), (none, 0), (none, 0), (none, 0)]) 11)) := hown
   have HE : Hid (Ext w w') := (HE.out.of_ext.trans hm).new (fun b hb => .inr (by rw [List.mem_singleton] at hb; subst hb; have := HGG.out; have := HW8.out; omega))
   have HB : Hid (Blk w' w.heap.size 26 p.c) := HB.out.mod hm (by have := HGG.out; have := HW8.out; simp; omega)
   have HR : Hid (Blk w' (w.heap.size + 1) 68 (itemC (numT 0) none 0)) := HR.out.mod hm (by have := HGG.out; have := HW8.out; simp; omega)
   have CH : Hid (∀ i, i < 11 -> IsL w' (fun b => w.heap.size + 2 <= b /\ b < g8) (chL [numT 7, numT p.fl, numT k, eidT p.d, eidT p.s, eidT p.r, listT [numT p.t, numT p.q], numT p.l, numT p.o, numT p.n, strT sum] i) (acL [(none, 0), (none, 0), (none, 0), (Ad, 2), (As, 2), (Ar, 2), (some ⟨g2, 0, none⟩, 2), (none, 0), (none, 0), (none, 0), (none, 0)] i).1) := fun i hi => by
    by_cases h : i < 10
    .
     have q := IsL.mod hm (fun b hb _ hs => by rw [List.mem_singleton] at hs; subst hs; have := HGG.out; have := hb.2; omega) _ (CH.out i h)
     match i, h with
     | 0, _ => exact q
     | 1, _ => exact q
     | 2, _ => exact q
     | 3, _ => exact q
     | 4, _ => exact q
     | 5, _ => exact q
     | 6, _ => exact q
     | 7, _ => exact q
     | 8, _ => exact q
     | 9, _ => exact q
    .
     obtain ⟨j, rfl⟩ : ∃ j, i = 10 + j := ⟨i - 10, by omega⟩
     match j, hi with
     | 0, _ => exact str_IsL
     | j + 1, h => exact absurd h (by omega)
   have HLT8 : Hid (g8 < w'.heap.size) := by have := hm.size; have := HLT8.out; unfold Hid; omega
   have HLG := hid hlt
   clear hown hgrow hat hlt hm HGG
   have HGG := HGE
   clear HGE
   obtain ⟨e, he⟩ := Later.self w'
   rw [he]
   clear he
   have HLL : Hid (priT p k sum = listT [numT 7, numT p.fl, numT k, eidT p.d, eidT p.s, eidT p.r, listT [numT p.t, numT p.q], numT p.l, numT p.o, numT p.n, strT sum]) := by unfold Hid priT priL; rw [if_pos HX.out, if_neg HK0.out]; rfl
   go_wp2_with (go_at_call 158; refine (ListV_any _ _ _ _).mono ?_; rintro x w3 ⟨rfl, hb3⟩; obtain ⟨e, rfl⟩ : ∃ e' : Later w', w3 = e'.x := ⟨⟨w3, Mod.trans (by first | exact Later.h _ | exact (Later.h _).drew | exact (Later.h _).alloc _) hb3⟩, rfl⟩; obtain ⟨c0, c1, c2, c3, c4⟩ := cells5 (HR.out.later e); have f0 := (HR.out.later e).frozen 0; have f1 := (HR.out.later e).frozen 1; have f2 := (HR.out.later e).frozen 2; have f3 := (HR.out.later e).frozen 3; have f4 := (HR.out.later e).frozen 4)
   obtain ⟨d0, d1, d2, d3, d4⟩ := cells5 (set5_blk (t := listT [numT 7, numT p.fl, numT k, eidT p.d, eidT p.s, eidT p.r, listT [numT p.t, numT p.q], numT p.l, numT p.o, numT p.n, strT sum]) (A := some ⟨g', 0, none⟩) (c := c') (HR.out.later e))
   clear c0 c1 c2 c3 c4 f0 f1 f2 f3 f4
   show bodyPost _ _ _ _ _ (set5 e.x (w.heap.size + 1) (listT [numT 7, numT p.fl, numT k, eidT p.d, eidT p.s, eidT p.r, listT [numT p.t, numT p.q], numT p.l, numT p.o, numT p.n, strT sum]) (some ⟨g', 0, none⟩) c')
   refine bodyPost_ret (v := itemV (listT [numT 7, numT p.fl, numT k, eidT p.d, eidT p.s, eidT p.r, listT [numT p.t, numT p.q], numT p.l, numT p.o, numT p.n, strT sum]) (some ⟨g', 0, none⟩) c') (by simp [results, Tryz.results162, go_sem, d0, d1, d2, d3, d4]) rfl ⟨some ⟨g', 0, none⟩, c', by rw [HLL.out], set5_mod (HE.out.trans e.h) (by omega), ?_⟩
   rw [HLL.out]
   refine ⟨?_, room_cap HO.out⟩
   refine IsL.weak (fun _ _ h => by have : w.heap.size + 2 <= _ := h; omega) _ (IsL.mod (Q := fun b => w.heap.size + 2 <= b) set5_modb (fun b hb _ hs => by rw [List.mem_singleton] at hs; have : w.heap.size + 2 <= b := hb; omega) _ ?_)
   exact list_IsL (base := w.heap.size + 2) (c := c') (by have := HLG.out; have := e.h.size; omega) (by have := HGG.out; have := HW8.out; omega) (ownsRow_mod HO.out e.h (fun _ _ => by simp)) (fun i hi => IsL.weak (fun b _ h => h.1) _ ((CH.out i hi).ext e.h))
 .
  have a1 : bits .and .u64 (p.fl : Int) 1 = 0 := by have h := andP_no (k := 0) HFL.out (by omega) (by have : p.fl % 2 = 0 := (by omega); simpa using this); simpa using h
  have HX := hid hx
  clear hx
  go_upto_region 7 with fail
  have y1 : ∀ e : Later V8, e.x.cell? ⟨w.heap.size, 1, none⟩ = some (.int .i64 (k : Int)) := HB.out.cellL 1 (by show some (Value.int .i64 p.crc) = _; rw [HC.out])
  by_cases hk0 : k = 0
  .
   have kka : (((k : Int)) == (0)) = true := by rw [beq_iff_eq]; omega
   have kkb : (((k : Int)) = (0)) = True := eq_true (by omega)
   have kkc : (((k : Int)) != (0)) = false := by rw [bne_eq_false_iff_eq]; omega
   have kza : decide (k = 0) = true := decide_eq_true (by omega)
   have kzb : (k = 0) = True := eq_true (by omega)
   have HK0 := hid hk0
   clear hk0
   go_upto_region 9 with fail
   have HLL : Hid (priT p k sum = listT [numT 7, numT p.fl, numT k, eidT p.d, eidT p.s, eidT p.r, listT [numT p.t, numT p.q], numT p.l]) := by unfold Hid priT priL; rw [if_neg HX.out, if_pos HK0.out]; rfl
   go_wp2_with (go_at_call 158; refine (ListV_any _ _ _ _).mono ?_; rintro x w3 ⟨rfl, hb3⟩; obtain ⟨e, rfl⟩ : ∃ e' : Later V8, w3 = e'.x := ⟨⟨w3, Mod.trans (by first | exact Later.h _ | exact (Later.h _).drew | exact (Later.h _).alloc _) hb3⟩, rfl⟩; obtain ⟨c0, c1, c2, c3, c4⟩ := cells5 (HR.out.later e); have f0 := (HR.out.later e).frozen 0; have f1 := (HR.out.later e).frozen 1; have f2 := (HR.out.later e).frozen 2; have f3 := (HR.out.later e).frozen 3; have f4 := (HR.out.later e).frozen 4)
   obtain ⟨d0, d1, d2, d3, d4⟩ := cells5 (set5_blk (t := listT [numT 7, numT p.fl, numT k, eidT p.d, eidT p.s, eidT p.r, listT [numT p.t, numT p.q], numT p.l]) (A := some ⟨g8, 0, none⟩) (c := 8) (HR.out.later e))
   clear c0 c1 c2 c3 c4 f0 f1 f2 f3 f4
   show bodyPost _ _ _ _ _ (set5 e.x (w.heap.size + 1) (listT [numT 7, numT p.fl, numT k, eidT p.d, eidT p.s, eidT p.r, listT [numT p.t, numT p.q], numT p.l]) (some ⟨g8, 0, none⟩) 8)
   refine bodyPost_ret (v := itemV (listT [numT 7, numT p.fl, numT k, eidT p.d, eidT p.s, eidT p.r, listT [numT p.t, numT p.q], numT p.l]) (some ⟨g8, 0, none⟩) 8) (by simp [results, Tryz.results162, go_sem, d0, d1, d2, d3, d4]) rfl ⟨some ⟨g8, 0, none⟩, 8, by rw [HLL.out], set5_mod (HE.out.trans e.h) (by omega), ?_⟩
   rw [HLL.out]
   refine ⟨?_, room_cap HO.out⟩
   refine IsL.weak (fun _ _ h => by have : w.heap.size + 2 <= _ := h; omega) _ (IsL.mod (Q := fun b => w.heap.size + 2 <= b) set5_modb (fun b hb _ hs => by rw [List.mem_singleton] at hs; have : w.heap.size + 2 <= b := hb; omega) _ ?_)
   exact list_IsL (base := w.heap.size + 2) (c := 8) (by have := HLG.out; have := e.h.size; omega) (by have := HGG.out; have := HW8.out; omega) (ownsRow_mod HO.out e.h (fun _ _ => by simp)) (fun i hi => IsL.weak (fun b _ h => h.1) _ ((CH.out i hi).ext e.h))
  .
   have kka : (((k : Int)) == (0)) = false := by rw [beq_eq_false_iff_ne]; omega
   have kkb : (((k : Int)) = (0)) = False := eq_false (by omega)
   have kkc : (((k : Int)) != (0)) = true := by rw [bne_iff_ne]; omega
   have kza : decide (k = 0) = false := decide_eq_false (by omega)
   have kzb : (k = 0) = False := eq_false (by omega)
   have HK0 := hid hk0
   clear hk0
   have HOE : Hid (∀ e : Later V8, e.x.ownsRow (w.heap.size + 2) 68 5 (.slice (some ⟨g8, 0, none⟩) 8 8) 8 (flatC (chL [numT 7, numT p.fl, numT k, eidT p.d, eidT p.s, eidT p.r, listT [numT p.t, numT p.q], numT p.l]) (acL [(none, 0), (none, 0), (none, 0), (Ad, 2), (As, 2), (Ar, 2), (some ⟨g2, 0, none⟩, 2), (none, 0)]) 8)) := fun e => ownsRow_mod HO.out e.h (fun _ _ => by simp)
   obtain ⟨hi, hz0, hz1, hz2⟩ := HINF.out
   go_upto_region 9 with (first | (go_at_call 181; refine (StrV_any _ _).mono ?_; rintro x w3 ⟨rfl, hb3⟩; obtain ⟨e, rfl⟩ : ∃ e' : Later V8, w3 = e'.x := ⟨⟨w3, Mod.trans (by first | exact Later.h _ | exact (Later.h _).drew | exact (Later.h _).alloc _) hb3⟩, rfl⟩) | (at_builtin; refine wpList_append_lies _ rfl _ _ 66 (by rfl) (w.heap.size + 2) 68 i0 _ 5 64 vqF hi hz0 hz1 hz2 (by rfl) (by decide) _ 8 _ (by rfl) ((HOE.out e).alloc _) ⟨e.x.heap.size, 0, none⟩ 1 1 [.int .i64 (strT sum).kind, .int .u64 ((strT sum).n : Int), str (strT sum).s, .slice none (strT sum).k 0, .bool (strT sum).op] (by rfl) (by rfl) (World.news_of_block (heap_alloc_new _ _)) (fun u hu => by simp only [List.mem_cons, List.not_mem_nil, or_false] at hu; rcases hu with h | h | h | h | h <;> (subst h; rfl)) (by decide) (by decide) (by decide) (by have := HW8.out; have := HLT8.out; have := e.h.size; simp; omega) (e.x.heap.size + 1) (by simp) ?_; intro g' c' w' hown hgrow hat hlt))
   clear hi hz0 hz1 hz2 HOE y1
   have hm : Mod [g8] V8 w' := Mod.grown (by first | exact (Mod.of_ext e.h).alloc _ | exact ((Mod.of_ext e.h).alloc _).drew | exact ((Mod.of_ext e.h).drew).alloc _) hgrow (fun b hb => by simp [Value.ownBlock] at hb; subst hb; exact .inl (by simp))
   have HGE : Hid (g8 <= g') := by
    have h1 := HGG.out
    have h2 := HLT8.out
    have h3 := e.h.size
    rcases hat with h | h
    . simp [Value.ownBlock] at h; unfold Hid; omega
    . unfold Hid; omega
   have HO : Hid (w'.ownsRow (w.heap.size + 2) 68 5 (.slice (some ⟨g', 0, none⟩) 9 c') 9 (flatC (chL [numT 7, numT p.fl, numT k, eidT p.d, eidT p.s, eidT p.r, listT [numT p.t, numT p.q], numT p.l, strT sum]) (acL [(none, 0), (none, 0), (none, 0), (Ad, 2), (As, 2), (Ar, 2), (some ⟨g2, 0, none⟩, 2), (none, 0), (none, 0)]) 9)) := hown
   have HE : Hid (Ext w w') := (HE.out.of_ext.trans hm).new (fun b hb => .inr (by rw [List.mem_singleton] at hb; subst hb; have := HGG.out; have := HW8.out; omega))
   have HB : Hid (Blk w' w.heap.size 26 p.c) := HB.out.mod hm (by have := HGG.out; have := HW8.out; simp; omega)
   have HR : Hid (Blk w' (w.heap.size + 1) 68 (itemC (numT 0) none 0)) := HR.out.mod hm (by have := HGG.out; have := HW8.out; simp; omega)
   have CH : Hid (∀ i, i < 9 -> IsL w' (fun b => w.heap.size + 2 <= b /\ b < g8) (chL [numT 7, numT p.fl, numT k, eidT p.d, eidT p.s, eidT p.r, listT [numT p.t, numT p.q], numT p.l, strT sum] i) (acL [(none, 0), (none, 0), (none, 0), (Ad, 2), (As, 2), (Ar, 2), (some ⟨g2, 0, none⟩, 2), (none, 0), (none, 0)] i).1) := fun i hi => by
    by_cases h : i < 8
    .
     have q := IsL.mod hm (fun b hb _ hs => by rw [List.mem_singleton] at hs; subst hs; have := HGG.out; have := hb.2; omega) _ (CH.out i h)
     match i, h with
     | 0, _ => exact q
     | 1, _ => exact q
     | 2, _ => exact q
     | 3, _ => exact q
     | 4, _ => exact q
     | 5, _ => exact q
     | 6, _ => exact q
     | 7, _ => exact q
    .
     obtain ⟨j, rfl⟩ : ∃ j, i = 8 + j := ⟨i - 8, by omega⟩
     match j, hi with
     | 0, _ => exact str_IsL
     | j + 1, h => exact absurd h (by omega)
   have HLT8 : Hid (g8 < w'.heap.size) := by have := hm.size; have := HLT8.out; unfold Hid; omega
   have HLG := hid hlt
   clear hown hgrow hat hlt hm HGG
   have HGG := HGE
   clear HGE
   obtain ⟨e, he⟩ := Later.self w'
   rw [he]
   clear he
   have HLL : Hid (priT p k sum = listT [numT 7, numT p.fl, numT k, eidT p.d, eidT p.s, eidT p.r, listT [numT p.t, numT p.q], numT p.l, strT sum]) := by unfold Hid priT priL; rw [if_neg HX.out, if_neg HK0.out]; rfl
   go_wp2_with (go_at_call 158; refine (ListV_any _ _ _ _).mono ?_; rintro x w3 ⟨rfl, hb3⟩; obtain ⟨e, rfl⟩ : ∃ e' : Later w', w3 = e'.x := ⟨⟨w3, Mod.trans (by first | exact Later.h _ | exact (Later.h _).drew | exact (Later.h _).alloc _) hb3⟩, rfl⟩; obtain ⟨c0, c1, c2, c3, c4⟩ := cells5 (HR.out.later e); have f0 := (HR.out.later e).frozen 0; have f1 := (HR.out.later e).frozen 1; have f2 := (HR.out.later e).frozen 2; have f3 := (HR.out.later e).frozen 3; have f4 := (HR.out.later e).frozen 4)
   obtain ⟨d0, d1, d2, d3, d4⟩ := cells5 (set5_blk (t := listT [numT 7, numT p.fl, numT k, eidT p.d, eidT p.s, eidT p.r, listT [numT p.t, numT p.q], numT p.l, strT sum]) (A := some ⟨g', 0, none⟩) (c := c') (HR.out.later e))
   clear c0 c1 c2 c3 c4 f0 f1 f2 f3 f4
   show bodyPost _ _ _ _ _ (set5 e.x (w.heap.size + 1) (listT [numT 7, numT p.fl, numT k, eidT p.d, eidT p.s, eidT p.r, listT [numT p.t, numT p.q], numT p.l, strT sum]) (some ⟨g', 0, none⟩) c')
   refine bodyPost_ret (v := itemV (listT [numT 7, numT p.fl, numT k, eidT p.d, eidT p.s, eidT p.r, listT [numT p.t, numT p.q], numT p.l, strT sum]) (some ⟨g', 0, none⟩) c') (by simp [results, Tryz.results162, go_sem, d0, d1, d2, d3, d4]) rfl ⟨some ⟨g', 0, none⟩, c', by rw [HLL.out], set5_mod (HE.out.trans e.h) (by omega), ?_⟩
   rw [HLL.out]
   refine ⟨?_, room_cap HO.out⟩
   refine IsL.weak (fun _ _ h => by have : w.heap.size + 2 <= _ := h; omega) _ (IsL.mod (Q := fun b => w.heap.size + 2 <= b) set5_modb (fun b hb _ hs => by rw [List.mem_singleton] at hs; have : w.heap.size + 2 <= b := hb; omega) _ ?_)
   exact list_IsL (base := w.heap.size + 2) (c := c') (by have := HLG.out; have := e.h.size; omega) (by have := HGG.out; have := HW8.out; omega) (ownsRow_mod HO.out e.h (fun _ _ => by simp)) (fun i hi => IsL.weak (fun b _ h => h.1) _ ((CH.out i hi).ext e.h))
end Go.Proofs.YtmckfdmdkljomaaGreatDoor
