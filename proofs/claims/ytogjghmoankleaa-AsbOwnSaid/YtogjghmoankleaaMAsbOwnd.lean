/-
  Primaries: why one is not right, as the code tells it.
  Bundles: the first block of a type, as the code finds it.
  Rows of blocks of the call's own: their cells; what is appended to them.
  A struct in the midst of a block, loaded in a region whose operations are held.
  Security texts, plainly: what is right; their items.
  Rows of elements of a fixed number of cells, plainly.
  Security texts: rows of numbers and of pairs in memory; numbers that are coded, and unlike.
  Security texts: numbers that are unlike; pairs that may be.
  Security texts: lists of pairs that may be.
  A row of items of the call's own that grows; what hangs on its items lies elsewhere.
  A row of elements of the call's own that grows, whatever the elements; what hangs on them lies elsewhere.
  Security texts: rows of pairs, of rows of pairs, of numbers, that grow.
  Security texts: items, and pairs, of their own.
  Security texts: pairs of their own.
  slices.Clone and Delete of numbers.
  Security texts that are right but for their length.
-/
import Derived.Test.YtogjghmoankleaaMAsbOwnc
import Derived.Laws.BitsAllLaws
import Derived.Deep.AppendLies
import Derived.Deep.RegionLaw
import Derived.Laws.OwnMore
import Derived.OwnWalk
import Derived.OneCell
import Derived.Lib.SliceRun
import Derived.Shelf.Spec.SlicesInsert
import Derived.Shelf.Abstract

namespace Go.Proofs.Ytogjghmoankleaa
open Go.RowKit
set_option linter.unusedVariables false
set_option linter.unusedSimpArgs false

set_option maxRecDepth 20000 in
theorem eidNoneP_any (w : World) : Calls Try.prog 97 #[] w (Ret (.agg #[.int .i64 1, str [110, 111, 110, 101], .int .u64 0, .int .u64 0]) w) := by
  go_enter Try.func97, Try.ntmps97
  go_wp2
  refine bodyPost_ret (v := .agg #[.int .i64 1, str [110, 111, 110, 101], .int .u64 0, .int .u64 0]) ?_ rfl (Ret.mk rfl ((Mod.refl _ _).alloc _))
  simp [results, Try.results97, go_sem]
theorem and_powP (f k : Nat) : f &&& 2 ^ k = if f.testBit k = true then 2 ^ k else 0 := by
  apply Nat.eq_of_testBit_eq
  intro i
  rw [Nat.testBit_and, Nat.testBit_two_pow]
  by_cases h : k = i
  · subst h
    cases f.testBit k <;> simp
  · cases f.testBit k <;> simp [h]
theorem u64_and_powP (f k : Nat) (hf : f < 18446744073709551616) (hk : k < 64) : bits .and .u64 (f : Int) ((2 ^ k : Nat) : Int) = if f / 2 ^ k % 2 = 1 then ((2 ^ k : Nat) : Int) else 0 := by
  have h2 : 2 ^ k < 18446744073709551616 := by
    have : 2 ^ k < 2 ^ 64 := Nat.pow_lt_pow_right (by omega) hk
    omega
  have h1 : bits .and .u64 (f : Int) ((2 ^ k : Nat) : Int) = ((f &&& 2 ^ k : Nat) : Int) := u64_and_nat f (2 ^ k) hf h2
  rw [h1, and_powP, Nat.testBit_eq_decide_div_mod_eq]
  by_cases h : f / 2 ^ k % 2 = 1 <;> simp [h]
theorem andP_no {f k : Nat} (hf : f < 18446744073709551616) (hk : k < 64) (h : f / 2 ^ k % 2 = 0) : bits .and .u64 (f : Int) ((2 ^ k : Nat) : Int) = 0 := by rw [u64_and_powP f k hf hk, if_neg (by omega)]
theorem andP_yes {f k : Nat} (hf : f < 18446744073709551616) (hk : k < 64) (h : f / 2 ^ k % 2 = 1) : bits .and .u64 (f : Int) ((2 ^ k : Nat) : Int) = ((2 ^ k : Nat) : Int) := by rw [u64_and_powP f k hf hk, if_pos h]
/-- Either of the two flags that ask for reports. -/
theorem and_tells {f : Nat} (hf : f < 18446744073709551616) : ∃ r : Int, bits .and .u64 (f : Int) 278528 = r ∧ (r = 0 ↔ ¬ (f / 16384 % 2 = 1 ∨ f / 262144 % 2 = 1)) := by
  refine ⟨_, rfl, ?_⟩
  have h := u64_and_nat f 278528 hf (by omega)
  have e : f &&& 278528 = (f &&& 2 ^ 14) ||| (f &&& 2 ^ 18) := by rw [← Nat.and_or_distrib_left]; rfl
  rw [e, and_powP, and_powP, Nat.testBit_eq_decide_div_mod_eq, Nat.testBit_eq_decide_div_mod_eq] at h
  have h2 : bits .and .u64 (f : Int) 278528 = bits .and .u64 (f : Int) ((278528 : Nat) : Int) := rfl
  rw [h2, h]
  by_cases a : f / 16384 % 2 = 1 <;> by_cases b : f / 262144 % 2 = 1 <;> simp [a, b]
set_option maxRecDepth 20000 in
set_option maxHeartbeats 1600000 in
theorem ranged_any (p : PV) (hnl : Hid (p.d.name.length < 4611686018427387904 ∧ p.s.name.length < 4611686018427387904 ∧ p.r.name.length < 4611686018427387904)) (w : World) : Calls Try.prog 96 #[.agg p.c] w (Ret (.bool p.ranged) w) := by
  have KD := hid (fun W => eidRight_any p.d hnl.out.1 W)
  have KS := hid (fun W => eidRight_any p.s hnl.out.2.1 W)
  have KR := hid (fun W => eidRight_any p.r hnl.out.2.2 W)
  have HE := hid ((Mod.refl [] w).alloc (.cells p.c 68))
  have HB := hid (Blk.new w 68 p.c)
  go_enter Try.func96, Try.ntmps96
  go_upto_region 1 with fail
  have HA := hid (Blk.new (w.alloc (.cells p.c 68)) 24 #[.int .u64 (p.t : Int), .int .u64 (p.q : Int), .int .u64 (p.l : Int), .int .u64 (p.o : Int), .int .u64 (p.n : Int)])
  go_wp2_with fail
  have HB2 := hid (HB.out.alloc (.cells #[.int .u64 (p.t : Int), .int .u64 (p.q : Int), .int .u64 (p.l : Int), .int .u64 (p.o : Int), .int .u64 (p.n : Int)] 24))
  have HE2 := hid (HE.out.alloc (.cells #[.int .u64 (p.t : Int), .int .u64 (p.q : Int), .int .u64 (p.l : Int), .int .u64 (p.o : Int), .int .u64 (p.n : Int)] 24))
  have HG : Hid ((w.alloc (.cells p.c 68)).heap.size = w.heap.size + 1) := hid (by simp)
  rw [HG.out] at HA
  generalize (w.alloc (.cells p.c 68)).alloc (.cells #[.int .u64 (p.t : Int), .int .u64 (p.q : Int), .int .u64 (p.l : Int), .int .u64 (p.o : Int), .int .u64 (p.n : Int)] 24) = V2 at *
  clear HB HE HG
  have b0 : ∀ e : Later V2, e.x.cell? ⟨w.heap.size, 0, none⟩ = some (.int .u64 (p.fl : Int)) := HB2.out.cellL 0 rfl
  have b1 : ∀ e : Later V2, e.x.cell? ⟨w.heap.size, 1, none⟩ = some (.int .i64 p.crc) := HB2.out.cellL 1 rfl
  have b2 : ∀ e : Later V2, e.x.cell? ⟨w.heap.size, 2, none⟩ = some (.int .i64 p.d.sch) := HB2.out.cellL 2 rfl
  have b3 : ∀ e : Later V2, e.x.cell? ⟨w.heap.size, 3, none⟩ = some (str p.d.name) := HB2.out.cellL 3 rfl
  have b4 : ∀ e : Later V2, e.x.cell? ⟨w.heap.size, 4, none⟩ = some (.int .u64 (p.d.node : Int)) := HB2.out.cellL 4 rfl
  have b5 : ∀ e : Later V2, e.x.cell? ⟨w.heap.size, 5, none⟩ = some (.int .u64 (p.d.svc : Int)) := HB2.out.cellL 5 rfl
  have b6 : ∀ e : Later V2, e.x.cell? ⟨w.heap.size, 6, none⟩ = some (.int .i64 p.s.sch) := HB2.out.cellL 6 rfl
  have b7 : ∀ e : Later V2, e.x.cell? ⟨w.heap.size, 7, none⟩ = some (str p.s.name) := HB2.out.cellL 7 rfl
  have b8 : ∀ e : Later V2, e.x.cell? ⟨w.heap.size, 8, none⟩ = some (.int .u64 (p.s.node : Int)) := HB2.out.cellL 8 rfl
  have b9 : ∀ e : Later V2, e.x.cell? ⟨w.heap.size, 9, none⟩ = some (.int .u64 (p.s.svc : Int)) := HB2.out.cellL 9 rfl
  have b10 : ∀ e : Later V2, e.x.cell? ⟨w.heap.size, 10, none⟩ = some (.int .i64 p.r.sch) := HB2.out.cellL 10 rfl
  have b11 : ∀ e : Later V2, e.x.cell? ⟨w.heap.size, 11, none⟩ = some (str p.r.name) := HB2.out.cellL 11 rfl
  have b12 : ∀ e : Later V2, e.x.cell? ⟨w.heap.size, 12, none⟩ = some (.int .u64 (p.r.node : Int)) := HB2.out.cellL 12 rfl
  have b13 : ∀ e : Later V2, e.x.cell? ⟨w.heap.size, 13, none⟩ = some (.int .u64 (p.r.svc : Int)) := HB2.out.cellL 13 rfl
  have b14 : ∀ e : Later V2, e.x.cell? ⟨w.heap.size, 14, none⟩ = some (.int .u64 (p.t : Int)) := HB2.out.cellL 14 rfl
  have b15 : ∀ e : Later V2, e.x.cell? ⟨w.heap.size, 15, none⟩ = some (.int .u64 (p.q : Int)) := HB2.out.cellL 15 rfl
  have b16 : ∀ e : Later V2, e.x.cell? ⟨w.heap.size, 16, none⟩ = some (.int .u64 (p.l : Int)) := HB2.out.cellL 16 rfl
  have b17 : ∀ e : Later V2, e.x.cell? ⟨w.heap.size, 17, none⟩ = some (.int .u64 (p.o : Int)) := HB2.out.cellL 17 rfl
  have b18 : ∀ e : Later V2, e.x.cell? ⟨w.heap.size, 18, none⟩ = some (.int .u64 (p.n : Int)) := HB2.out.cellL 18 rfl
  obtain ⟨e0, he0⟩ := Later.self V2
  have HAJ : Hid (∀ (e : Later V2) (i : Nat), i < 5 → e.x.cell? ⟨w.heap.size + 1, i, none⟩ = some (.int .u64 ((([p.t, p.q, p.l, p.o, p.n][i]?).getD 0 : Nat) : Int))) := fun e i hi => by
    rw [(HA.out.later e).cell i]
    match i, hi with
    | 0, _ => rfl
    | 1, _ => rfl
    | 2, _ => rfl
    | 3, _ => rfl
    | 4, _ => rfl
  go_loopw [17] (fun s17 wr => ∃ i : Nat, s17 = .int .i64 (i : Int) ∧ Hid (i ≤ 5 ∧ ∀ j, j < i → ([p.t, p.q, p.l, p.o, p.n][j]?).getD 0 ≤ 1099511627776) ∧ ∃ e : Later V2, wr = e.x) (fun s17 _ => 5 - (intOf s17).toNat)
  case atStart => exact ⟨0, rfl, (show Hid _ from ⟨by omega, fun j hj => by omega⟩), e0, he0⟩
  case round =>
    clear he0 e0
    obtain ⟨i, rfl, hi, e, rfl⟩ := hrel
    have HE := HE2
    have i0 : (0 : Int) ≤ (i : Int) := by omega
    have i5 : (i : Int) ≤ 5 := by have := hi.out.1; omega
    by_cases hlt : i < 5
    · have tc : decide ((i : Int) < 5) = true := decide_eq_true (by omega)
      have i1 : (i : Int) < 5 := by omega
      have HJ := fun e => HAJ.out e i hlt
      obtain ⟨x, hx⟩ : ∃ x, ([p.t, p.q, p.l, p.o, p.n][i]?).getD 0 = x := ⟨_, rfl⟩
      rw [hx] at HJ
      have HX := hid hx
      have HLT := hid hlt
      clear hx hlt
      by_cases hx : 1099511627776 < x
      · have ya : decide ((1099511627776 : Int) < (x : Int)) = true := decide_eq_true (by omega)
        have yb : ((1099511627776 : Int) < (x : Int)) = True := eq_true (by omega)
        have HR : Hid (p.ranged = false) := by
          unfold Hid PV.ranged
          have h5 := HLT.out
          have hX := HX.out
          match i, h5 with
          | 0, _ => have hX : p.t = x := hX; simp; omega
          | 1, _ => have hX : p.q = x := hX; simp; omega
          | 2, _ => have hX : p.l = x := hX; simp; omega
          | 3, _ => have hX : p.o = x := hX; simp; omega
          | 4, _ => have hX : p.n = x := hX; simp; omega
        clear hx
        go_wp2_with fail
        go_ret
        exact Ret.mk (by rw [HR.out]; rfl) (HE.out.trans e.h)
      · have ya : decide ((1099511627776 : Int) < (x : Int)) = false := decide_eq_false (by omega)
        have yb : ((1099511627776 : Int) < (x : Int)) = False := eq_false (by omega)
        have HN := hid hx
        clear hx
        go_wp2_with fail
        go_roundw
        case rel => exact ⟨i + 1, by go_num, (show Hid _ from ⟨HLT.out, fun j hj => by
          by_cases hji : j = i
          · subst hji; rw [HX.out]; have := HN.out; omega
          · exact hi.out.2 j (by omega)⟩), e, rfl⟩
        case measure => have := HLT.out; simp [intOf]; omega
    · obtain rfl : i = 5 := by have := hi.out.1; omega
      have HL : Hid (p.t ≤ 1099511627776 ∧ p.q ≤ 1099511627776 ∧ p.l ≤ 1099511627776 ∧ p.o ≤ 1099511627776 ∧ p.n ≤ 1099511627776) := by
        have h := hi.out.2
        have a0 : p.t ≤ _ := h 0 (by omega)
        have a1 : p.q ≤ _ := h 1 (by omega)
        have a2 : p.l ≤ _ := h 2 (by omega)
        have a3 : p.o ≤ _ := h 3 (by omega)
        have a4 : p.n ≤ _ := h 4 (by omega)
        exact ⟨a0, a1, a2, a3, a4⟩
      clear hlt HAJ i0 i5 hi
      go_upto_region 7 with fail
      cases hx : p.d.ok with
      | false =>
        rw [hx] at KD
        have HX := hid hx
        clear hx
        have HS : Hid (p.ranged = false) := by
          unfold Hid PV.ranged
          rw [HX.out]; simp
        go_wp2_with (go_at_call 90; first | ((with_reducible refine (Ret.later (KD.out _)).mono ?_); rintro x _ ⟨rfl, e, rfl⟩) | ((with_reducible refine (Ret.later (KS.out _)).mono ?_); rintro x _ ⟨rfl, e, rfl⟩) | ((with_reducible refine (Ret.later (KR.out _)).mono ?_); rintro x _ ⟨rfl, e, rfl⟩))
        go_ret
        exact Ret.mk (by rw [HS.out]; rfl) (HE.out.trans e.h)
      | true =>
        rw [hx] at KD
        have Xd := hid hx
        clear hx
        cases hx : p.s.ok with
        | false =>
          rw [hx] at KS
          have HX := hid hx
          clear hx
          have HS : Hid (p.ranged = false) := by
            unfold Hid PV.ranged
            rw [HX.out]; simp
          go_wp2_with (go_at_call 90; first | ((with_reducible refine (Ret.later (KD.out _)).mono ?_); rintro x _ ⟨rfl, e, rfl⟩) | ((with_reducible refine (Ret.later (KS.out _)).mono ?_); rintro x _ ⟨rfl, e, rfl⟩) | ((with_reducible refine (Ret.later (KR.out _)).mono ?_); rintro x _ ⟨rfl, e, rfl⟩))
          go_ret
          exact Ret.mk (by rw [HS.out]; rfl) (HE.out.trans e.h)
        | true =>
          rw [hx] at KS
          have Xs := hid hx
          clear hx
          cases hx : p.r.ok with
          | false =>
            rw [hx] at KR
            have HX := hid hx
            clear hx
            have HS : Hid (p.ranged = false) := by
              unfold Hid PV.ranged
              rw [HX.out]; simp
            go_wp2_with (go_at_call 90; first | ((with_reducible refine (Ret.later (KD.out _)).mono ?_); rintro x _ ⟨rfl, e, rfl⟩) | ((with_reducible refine (Ret.later (KS.out _)).mono ?_); rintro x _ ⟨rfl, e, rfl⟩) | ((with_reducible refine (Ret.later (KR.out _)).mono ?_); rintro x _ ⟨rfl, e, rfl⟩))
            go_ret
            exact Ret.mk (by rw [HS.out]; rfl) (HE.out.trans e.h)
          | true =>
            rw [hx] at KR
            have Xr := hid hx
            clear hx
            by_cases hx : p.crc < 0
            · have ua : decide (0 ≤ p.crc) = false := decide_eq_false (by omega)
              have ub : (0 ≤ p.crc) = False := eq_false (by omega)
              have HX := hid hx
              clear hx
              have HS : Hid (p.ranged = false) := by
                unfold Hid PV.ranged
                have := HX.out; simp; omega
              go_wp2_with (go_at_call 90; first | ((with_reducible refine (Ret.later (KD.out _)).mono ?_); rintro x _ ⟨rfl, e, rfl⟩) | ((with_reducible refine (Ret.later (KS.out _)).mono ?_); rintro x _ ⟨rfl, e, rfl⟩) | ((with_reducible refine (Ret.later (KR.out _)).mono ?_); rintro x _ ⟨rfl, e, rfl⟩))
              go_ret
              exact Ret.mk (by rw [HS.out]; rfl) (HE.out.trans e.h)
            have ua : decide (0 ≤ p.crc) = true := decide_eq_true (by omega)
            have ub : (0 ≤ p.crc) = True := eq_true (by omega)
            have X1 := hid hx
            clear hx
            by_cases hx : 2 < p.crc
            · have va : decide (p.crc ≤ 2) = false := decide_eq_false (by omega)
              have vb : (p.crc ≤ 2) = False := eq_false (by omega)
              have HX := hid hx
              clear hx
              have HS : Hid (p.ranged = false) := by
                unfold Hid PV.ranged
                have := HX.out; simp; omega
              go_wp2_with (go_at_call 90; first | ((with_reducible refine (Ret.later (KD.out _)).mono ?_); rintro x _ ⟨rfl, e, rfl⟩) | ((with_reducible refine (Ret.later (KS.out _)).mono ?_); rintro x _ ⟨rfl, e, rfl⟩) | ((with_reducible refine (Ret.later (KR.out _)).mono ?_); rintro x _ ⟨rfl, e, rfl⟩))
              go_ret
              exact Ret.mk (by rw [HS.out]; rfl) (HE.out.trans e.h)
            have va : decide (p.crc ≤ 2) = true := decide_eq_true (by omega)
            have vb : (p.crc ≤ 2) = True := eq_true (by omega)
            have X2 := hid hx
            clear hx
            by_cases hx : 2097152 ≤ p.fl
            · have xa : decide ((p.fl : Int) < 2097152) = false := decide_eq_false (by omega)
              have xb : ((p.fl : Int) < 2097152) = False := eq_false (by omega)
              have HX := hid hx
              clear hx
              have HS : Hid (p.ranged = false) := by
                unfold Hid PV.ranged
                have := HX.out; simp; omega
              go_wp2_with (go_at_call 90; first | ((with_reducible refine (Ret.later (KD.out _)).mono ?_); rintro x _ ⟨rfl, e, rfl⟩) | ((with_reducible refine (Ret.later (KS.out _)).mono ?_); rintro x _ ⟨rfl, e, rfl⟩) | ((with_reducible refine (Ret.later (KR.out _)).mono ?_); rintro x _ ⟨rfl, e, rfl⟩))
              go_ret
              exact Ret.mk (by rw [HS.out]; rfl) (HE.out.trans e.h)
            have xa : decide ((p.fl : Int) < 2097152) = true := decide_eq_true (by omega)
            have xb : ((p.fl : Int) < 2097152) = True := eq_true (by omega)
            have X3 := hid hx
            clear hx
            have HS : Hid (p.ranged = true) := by
              unfold Hid PV.ranged
              rw [Xd.out, Xs.out, Xr.out]; have := X1.out; have := X2.out; have := X3.out; have := HL.out; simp; omega
            go_wp2_with (go_at_call 90; first | ((with_reducible refine (Ret.later (KD.out _)).mono ?_); rintro x _ ⟨rfl, e, rfl⟩) | ((with_reducible refine (Ret.later (KS.out _)).mono ?_); rintro x _ ⟨rfl, e, rfl⟩) | ((with_reducible refine (Ret.later (KR.out _)).mono ?_); rintro x _ ⟨rfl, e, rfl⟩))
            go_ret
            exact Ret.mk (by rw [HS.out]; rfl) (HE.out.trans e.h)
set_option maxRecDepth 20000 in
set_option maxHeartbeats 1600000 in
theorem cPriRight_any (p : PV) (hnl : Hid (p.d.name.length < 4611686018427387904 ∧ p.s.name.length < 4611686018427387904 ∧ p.r.name.length < 4611686018427387904)) (hf : p.fl < 18446744073709551616) (w : World) : Calls Try.prog 64 #[.agg p.c] w (Ret (.int .i64 p.right) w) := by
  have KR := hid (fun W => ranged_any p hnl W)
  have hfl := hid hf
  have HNZ : Hid (p.ranged = true → p.none → p.s.node = 0 ∧ p.s.svc = 0) := fun hr hn => by
    have ho := (PV.ranged_spec hr).2.1
    unfold EV.ok at ho
    rw [if_pos hn.1] at ho
    simp only [Bool.and_eq_true, decide_eq_true_eq] at ho
    exact ⟨ho.1.1, ho.1.2⟩
  have HE := hid ((Mod.refl [] w).alloc (.cells p.c 68))
  have HB := hid (Blk.new w 68 p.c)
  have f0 : (0 : Int) ≤ (p.fl : Int) := by omega
  clear hf
  go_enter Try.func64, Try.ntmps64
  go_upto_region 1 with fail
  generalize w.alloc (.cells p.c 68) = V at *
  have b0 : ∀ e : Later V, e.x.cell? ⟨w.heap.size, 0, none⟩ = some (.int .u64 (p.fl : Int)) := HB.out.cellL 0 rfl
  have b1 : ∀ e : Later V, e.x.cell? ⟨w.heap.size, 1, none⟩ = some (.int .i64 p.crc) := HB.out.cellL 1 rfl
  have b2 : ∀ e : Later V, e.x.cell? ⟨w.heap.size, 2, none⟩ = some (.int .i64 p.d.sch) := HB.out.cellL 2 rfl
  have b3 : ∀ e : Later V, e.x.cell? ⟨w.heap.size, 3, none⟩ = some (str p.d.name) := HB.out.cellL 3 rfl
  have b4 : ∀ e : Later V, e.x.cell? ⟨w.heap.size, 4, none⟩ = some (.int .u64 (p.d.node : Int)) := HB.out.cellL 4 rfl
  have b5 : ∀ e : Later V, e.x.cell? ⟨w.heap.size, 5, none⟩ = some (.int .u64 (p.d.svc : Int)) := HB.out.cellL 5 rfl
  have b6 : ∀ e : Later V, e.x.cell? ⟨w.heap.size, 6, none⟩ = some (.int .i64 p.s.sch) := HB.out.cellL 6 rfl
  have b7 : ∀ e : Later V, e.x.cell? ⟨w.heap.size, 7, none⟩ = some (str p.s.name) := HB.out.cellL 7 rfl
  have b8 : ∀ e : Later V, e.x.cell? ⟨w.heap.size, 8, none⟩ = some (.int .u64 (p.s.node : Int)) := HB.out.cellL 8 rfl
  have b9 : ∀ e : Later V, e.x.cell? ⟨w.heap.size, 9, none⟩ = some (.int .u64 (p.s.svc : Int)) := HB.out.cellL 9 rfl
  have b10 : ∀ e : Later V, e.x.cell? ⟨w.heap.size, 10, none⟩ = some (.int .i64 p.r.sch) := HB.out.cellL 10 rfl
  have b11 : ∀ e : Later V, e.x.cell? ⟨w.heap.size, 11, none⟩ = some (str p.r.name) := HB.out.cellL 11 rfl
  have b12 : ∀ e : Later V, e.x.cell? ⟨w.heap.size, 12, none⟩ = some (.int .u64 (p.r.node : Int)) := HB.out.cellL 12 rfl
  have b13 : ∀ e : Later V, e.x.cell? ⟨w.heap.size, 13, none⟩ = some (.int .u64 (p.r.svc : Int)) := HB.out.cellL 13 rfl
  have b14 : ∀ e : Later V, e.x.cell? ⟨w.heap.size, 14, none⟩ = some (.int .u64 (p.t : Int)) := HB.out.cellL 14 rfl
  have b15 : ∀ e : Later V, e.x.cell? ⟨w.heap.size, 15, none⟩ = some (.int .u64 (p.q : Int)) := HB.out.cellL 15 rfl
  have b16 : ∀ e : Later V, e.x.cell? ⟨w.heap.size, 16, none⟩ = some (.int .u64 (p.l : Int)) := HB.out.cellL 16 rfl
  have b17 : ∀ e : Later V, e.x.cell? ⟨w.heap.size, 17, none⟩ = some (.int .u64 (p.o : Int)) := HB.out.cellL 17 rfl
  have b18 : ∀ e : Later V, e.x.cell? ⟨w.heap.size, 18, none⟩ = some (.int .u64 (p.n : Int)) := HB.out.cellL 18 rfl
  have HBL : Hid (∀ e : Later V, Blk e.x w.heap.size 68 p.c) := fun e => HB.out.later e
  obtain ⟨e, he0⟩ := Later.self V
  rw [he0]
  clear he0
  obtain ⟨r, hr, hrT⟩ := and_tells hfl.out
  have HTB : Hid ((r != 0) = true ↔ (p.fl / 16384 % 2 = 1 ∨ p.fl / 262144 % 2 = 1)) := by unfold Hid; rw [bne_iff_ne, Ne, hrT, Classical.not_not]
  clear hrT
  by_cases hx : p.fl % 2 = 1
  all_goals first | (have a1 : bits .and .u64 (p.fl : Int) 1 = 1 := by (have h := andP_yes (k := 0) hfl.out (by omega) (by simpa using hx); simpa using h)) | (have a1 : bits .and .u64 (p.fl : Int) 1 = 0 := by (have h := andP_no (k := 0) hfl.out (by omega) (by have : p.fl % 2 = 0 := (by omega); simpa using this); simpa using h))
  all_goals have F1 := hid hx
  all_goals clear hx
  all_goals refine wp_region_later (by kernel_rfl) (by kernel_rfl) ?_
  all_goals repeat (go_big_quiet_step (fail))
  all_goals refine wpQuiet_nil ?_
  all_goals rintro _ ⟨e, rfl⟩
  all_goals generalize (r != 0) = TB at *
  all_goals clear hr
  all_goals cases hR : p.ranged
  all_goals rw [hR] at KR
  all_goals have HR := hid hR
  all_goals clear hR
  all_goals go_upto_if 13 with (first | (refine wpList_row (by rfl) 68 _ rfl _ rfl (HBL.out _) Try.underlying68 rfl (by kernel_rfl) ?_) | (go_at_call 96; (with_reducible refine (Ret.later (KR.out _)).mono ?_); rintro x _ ⟨rfl, e, rfl⟩))
  · have HS : Hid (p.right = 1) := by
      unfold Hid PV.right
      rw [if_pos HR.out]
    go_wp2_with fail
    go_ret
    exact Ret.mk (by rw [HS.out]; rfl) (HE.out.trans e.h)
  · have HNZ := hid (HNZ.out HR.out)
    by_cases hx : p.fl / 4 % 2 = 1
    · have a4 : bits .and .u64 (p.fl : Int) 4 = 4 := by have h := andP_yes (k := 2) hfl.out (by omega) (by simpa using hx); simpa using h
      have X4 := hid hx
      clear hx
      have HS : Hid (p.right = 8) := by
        unfold Hid PV.right
        rw [if_neg (by rw [HR.out]; decide), if_pos (.inl ⟨F1.out, .inl X4.out⟩)]
      go_wp2_with fail
      go_ret
      exact Ret.mk (by rw [HS.out]; rfl) (HE.out.trans e.h)
    have a4 : bits .and .u64 (p.fl : Int) 4 = 0 := by have h := andP_no (k := 2) hfl.out (by omega) (by have : p.fl / 4 % 2 = 0 := (by omega); simpa using this); simpa using h
    have X4 := hid hx
    clear hx
    by_cases hy : p.n ≤ p.o
    · have za : decide (p.n ≤ p.o) = true := decide_eq_true (by omega)
      have zb : (p.n ≤ p.o) = True := eq_true (by omega)
      have Y := hid hy
      clear hy
      have HS : Hid (p.right = 8) := by
        unfold Hid PV.right
        rw [if_neg (by rw [HR.out]; decide), if_pos (.inl ⟨F1.out, .inr Y.out⟩)]
      go_wp2_with fail
      go_ret
      exact Ret.mk (by rw [HS.out]; rfl) (HE.out.trans e.h)
    have za : decide (p.n ≤ p.o) = false := decide_eq_false (by omega)
    have zb : (p.n ≤ p.o) = False := eq_false (by omega)
    have G0 : Hid (¬ ((p.fl % 2 = 1 ∧ (p.fl / 4 % 2 = 1 ∨ p.n ≤ p.o)) ∨ (¬ p.fl % 2 = 1 ∧ (0 < p.o ∨ 0 < p.n)))) := by have := F1.out; have := X4.out; unfold Hid; omega
    clear hy
    go_upto_region 9 with fail
    by_cases hN : p.none
    · have n1 : p.s.sch = 1 := hN.1
      have n2 : p.s.name = [110, 111, 110, 101] := hN.2
      obtain ⟨n3, n4⟩ := HNZ.out hN
      rw [n1] at b6
      rw [n2] at b7
      rw [n3] at b8
      rw [n4] at b9
      clear n1 n2 n3 n4
      have HN := hid hN
      clear hN
      cases hT : TB with
      | true =>
        have XT : Hid (p.fl / 16384 % 2 = 1 ∨ p.fl / 262144 % 2 = 1) := HTB.out.1 hT
        subst hT
        refine wp_region_later (by kernel_rfl) (by kernel_rfl) ?_
        repeat (go_big_quiet_step ((go_at_call 97; exact Ret.later (eidNoneP_any _))))
        refine wpQuiet_nil ?_
        rintro _ ⟨e, rfl⟩
        have HS : Hid (p.right = 8) := by
          unfold Hid PV.right
          rw [if_neg (by rw [HR.out]; decide), if_neg (by have := G0.out; omega), if_pos (.inl ⟨XT.out, .inl HN.out⟩)]
        go_wp2_with fail
        go_ret
        exact Ret.mk (by rw [HS.out]; rfl) (HE.out.trans e.h)
      | false =>
        have XT : Hid (¬ (p.fl / 16384 % 2 = 1 ∨ p.fl / 262144 % 2 = 1)) := fun h => by have := HTB.out.2 h; rw [hT] at this; cases this
        subst hT
        refine wp_region_later (by kernel_rfl) (by kernel_rfl) ?_
        repeat (go_big_quiet_step ((go_at_call 97; exact Ret.later (eidNoneP_any _))))
        refine wpQuiet_nil ?_
        rintro _ ⟨e, rfl⟩
        have HS : Hid (p.right = 8) := by
          unfold Hid PV.right
          rw [if_neg (by rw [HR.out]; decide), if_neg (by have := G0.out; omega), if_pos (.inr ⟨HN.out, X4.out⟩)]
        go_wp2_with fail
        go_ret
        exact Ret.mk (by rw [HS.out]; rfl) (HE.out.trans e.h)
    · have HN := hid hN
      by_cases hS : p.s.sch = 1
      · have hM : ¬ p.s.name = [110, 111, 110, 101] := fun h => hN ⟨hS, h⟩
        rw [hS] at b6
        have ma : ((p.s.name) == ([110, 111, 110, 101])) = false := by rw [beq_eq_false_iff_ne]; exact hM
        have mb : ((p.s.name) = ([110, 111, 110, 101])) = False := eq_false (by exact hM)
        have mc : ((p.s.name) != ([110, 111, 110, 101])) = true := by rw [bne_iff_ne]; exact hM
        clear hM hS hN
        refine wp_region_later (by kernel_rfl) (by kernel_rfl) ?_
        repeat (go_big_quiet_step ((go_at_call 97; exact Ret.later (eidNoneP_any _))))
        refine wpQuiet_nil ?_
        rintro _ ⟨e, rfl⟩
        cases hT : TB with
        | true =>
          have XT : Hid (p.fl / 16384 % 2 = 1 ∨ p.fl / 262144 % 2 = 1) := HTB.out.1 hT
          subst hT
          by_cases hx : p.fl / 2 % 2 = 1
          · have a2 : bits .and .u64 (p.fl : Int) 2 = 2 := by have h := andP_yes (k := 1) hfl.out (by omega) (by simpa using hx); simpa using h
            have X2 := hid hx
            clear hx
            have HS : Hid (p.right = 8) := by
              unfold Hid PV.right
              rw [if_neg (by rw [HR.out]; decide), if_neg (by have := G0.out; omega), if_pos (.inl ⟨XT.out, .inr X2.out⟩)]
            go_wp2_with fail
            go_ret
            exact Ret.mk (by rw [HS.out]; rfl) (HE.out.trans e.h)
          · have a2 : bits .and .u64 (p.fl : Int) 2 = 0 := by have h := andP_no (k := 1) hfl.out (by omega) (by have : p.fl / 2 % 2 = 0 := (by omega); simpa using this); simpa using h
            have X2 := hid hx
            clear hx
            have HS : Hid (p.right = 0) := by
              unfold Hid PV.right
              rw [if_neg (by rw [HR.out]; decide), if_neg (by have := G0.out; omega), if_neg (fun h => h.elim (fun h => h.2.elim HN.out X2.out) (fun h => HN.out h.1))]
            go_wp2_with fail
            go_ret
            exact Ret.mk (by rw [HS.out]; rfl) (HE.out.trans e.h)
        | false =>
          have XT : Hid (¬ (p.fl / 16384 % 2 = 1 ∨ p.fl / 262144 % 2 = 1)) := fun h => by have := HTB.out.2 h; rw [hT] at this; cases this
          subst hT
          have HS : Hid (p.right = 0) := by
            unfold Hid PV.right
            rw [if_neg (by rw [HR.out]; decide), if_neg (by have := G0.out; omega), if_neg (fun h => h.elim (fun h => XT.out h.1) (fun h => HN.out h.1))]
          go_wp2_with fail
          go_ret
          exact Ret.mk (by rw [HS.out]; rfl) (HE.out.trans e.h)
      · have ma : ((p.s.sch) == (1)) = false := by rw [beq_eq_false_iff_ne]; omega
        have mb : ((p.s.sch) = (1)) = False := eq_false (by omega)
        have mc : ((p.s.sch) != (1)) = true := by rw [bne_iff_ne]; omega
        clear hS hN
        refine wp_region_later (by kernel_rfl) (by kernel_rfl) ?_
        repeat (go_big_quiet_step ((go_at_call 97; exact Ret.later (eidNoneP_any _))))
        refine wpQuiet_nil ?_
        rintro _ ⟨e, rfl⟩
        cases hT : TB with
        | true =>
          have XT : Hid (p.fl / 16384 % 2 = 1 ∨ p.fl / 262144 % 2 = 1) := HTB.out.1 hT
          subst hT
          by_cases hx : p.fl / 2 % 2 = 1
          · have a2 : bits .and .u64 (p.fl : Int) 2 = 2 := by have h := andP_yes (k := 1) hfl.out (by omega) (by simpa using hx); simpa using h
            have X2 := hid hx
            clear hx
            have HS : Hid (p.right = 8) := by
              unfold Hid PV.right
              rw [if_neg (by rw [HR.out]; decide), if_neg (by have := G0.out; omega), if_pos (.inl ⟨XT.out, .inr X2.out⟩)]
            go_wp2_with fail
            go_ret
            exact Ret.mk (by rw [HS.out]; rfl) (HE.out.trans e.h)
          · have a2 : bits .and .u64 (p.fl : Int) 2 = 0 := by have h := andP_no (k := 1) hfl.out (by omega) (by have : p.fl / 2 % 2 = 0 := (by omega); simpa using this); simpa using h
            have X2 := hid hx
            clear hx
            have HS : Hid (p.right = 0) := by
              unfold Hid PV.right
              rw [if_neg (by rw [HR.out]; decide), if_neg (by have := G0.out; omega), if_neg (fun h => h.elim (fun h => h.2.elim HN.out X2.out) (fun h => HN.out h.1))]
            go_wp2_with fail
            go_ret
            exact Ret.mk (by rw [HS.out]; rfl) (HE.out.trans e.h)
        | false =>
          have XT : Hid (¬ (p.fl / 16384 % 2 = 1 ∨ p.fl / 262144 % 2 = 1)) := fun h => by have := HTB.out.2 h; rw [hT] at this; cases this
          subst hT
          have HS : Hid (p.right = 0) := by
            unfold Hid PV.right
            rw [if_neg (by rw [HR.out]; decide), if_neg (by have := G0.out; omega), if_neg (fun h => h.elim (fun h => XT.out h.1) (fun h => HN.out h.1))]
          go_wp2_with fail
          go_ret
          exact Ret.mk (by rw [HS.out]; rfl) (HE.out.trans e.h)
  · have HS : Hid (p.right = 1) := by
      unfold Hid PV.right
      rw [if_pos HR.out]
    go_wp2_with fail
    go_ret
    exact Ret.mk (by rw [HS.out]; rfl) (HE.out.trans e.h)
  · have HNZ := hid (HNZ.out HR.out)
    by_cases hx : p.o = 0
    · by_cases hy : p.n = 0
      · have G0 : Hid (¬ ((p.fl % 2 = 1 ∧ (p.fl / 4 % 2 = 1 ∨ p.n ≤ p.o)) ∨ (¬ p.fl % 2 = 1 ∧ (0 < p.o ∨ 0 < p.n)))) := by have := F1.out; unfold Hid; omega
        rw [hx] at b17
        rw [hy] at b18
        clear hx hy
        go_upto_region 9 with fail
        by_cases hN : p.none
        · have n1 : p.s.sch = 1 := hN.1
          have n2 : p.s.name = [110, 111, 110, 101] := hN.2
          obtain ⟨n3, n4⟩ := HNZ.out hN
          rw [n1] at b6
          rw [n2] at b7
          rw [n3] at b8
          rw [n4] at b9
          clear n1 n2 n3 n4
          have HN := hid hN
          clear hN
          cases hT : TB with
          | true =>
            have XT : Hid (p.fl / 16384 % 2 = 1 ∨ p.fl / 262144 % 2 = 1) := HTB.out.1 hT
            subst hT
            refine wp_region_later (by kernel_rfl) (by kernel_rfl) ?_
            repeat (go_big_quiet_step ((go_at_call 97; exact Ret.later (eidNoneP_any _))))
            refine wpQuiet_nil ?_
            rintro _ ⟨e, rfl⟩
            have HS : Hid (p.right = 8) := by
              unfold Hid PV.right
              rw [if_neg (by rw [HR.out]; decide), if_neg (by have := G0.out; omega), if_pos (.inl ⟨XT.out, .inl HN.out⟩)]
            go_wp2_with fail
            go_ret
            exact Ret.mk (by rw [HS.out]; rfl) (HE.out.trans e.h)
          | false =>
            have XT : Hid (¬ (p.fl / 16384 % 2 = 1 ∨ p.fl / 262144 % 2 = 1)) := fun h => by have := HTB.out.2 h; rw [hT] at this; cases this
            subst hT
            by_cases hx : p.fl / 4 % 2 = 1
            · have a4 : bits .and .u64 (p.fl : Int) 4 = 4 := by have h := andP_yes (k := 2) hfl.out (by omega) (by simpa using hx); simpa using h
              have X4 := hid hx
              clear hx
              refine wp_region_later (by kernel_rfl) (by kernel_rfl) ?_
              repeat (go_big_quiet_step ((go_at_call 97; exact Ret.later (eidNoneP_any _))))
              refine wpQuiet_nil ?_
              rintro _ ⟨e, rfl⟩
              have HS : Hid (p.right = 0) := by
                unfold Hid PV.right
                rw [if_neg (by rw [HR.out]; decide), if_neg (by have := G0.out; omega), if_neg (fun h => h.elim (fun h => XT.out h.1) (fun h => h.2 X4.out))]
              go_wp2_with fail
              go_ret
              exact Ret.mk (by rw [HS.out]; rfl) (HE.out.trans e.h)
            · have a4 : bits .and .u64 (p.fl : Int) 4 = 0 := by have h := andP_no (k := 2) hfl.out (by omega) (by have : p.fl / 4 % 2 = 0 := (by omega); simpa using this); simpa using h
              have X4 := hid hx
              clear hx
              refine wp_region_later (by kernel_rfl) (by kernel_rfl) ?_
              repeat (go_big_quiet_step ((go_at_call 97; exact Ret.later (eidNoneP_any _))))
              refine wpQuiet_nil ?_
              rintro _ ⟨e, rfl⟩
              have HS : Hid (p.right = 8) := by
                unfold Hid PV.right
                rw [if_neg (by rw [HR.out]; decide), if_neg (by have := G0.out; omega), if_pos (.inr ⟨HN.out, X4.out⟩)]
              go_wp2_with fail
              go_ret
              exact Ret.mk (by rw [HS.out]; rfl) (HE.out.trans e.h)
        · have HN := hid hN
          by_cases hS : p.s.sch = 1
          · have hM : ¬ p.s.name = [110, 111, 110, 101] := fun h => hN ⟨hS, h⟩
            rw [hS] at b6
            have ma : ((p.s.name) == ([110, 111, 110, 101])) = false := by rw [beq_eq_false_iff_ne]; exact hM
            have mb : ((p.s.name) = ([110, 111, 110, 101])) = False := eq_false (by exact hM)
            have mc : ((p.s.name) != ([110, 111, 110, 101])) = true := by rw [bne_iff_ne]; exact hM
            clear hM hS hN
            refine wp_region_later (by kernel_rfl) (by kernel_rfl) ?_
            repeat (go_big_quiet_step ((go_at_call 97; exact Ret.later (eidNoneP_any _))))
            refine wpQuiet_nil ?_
            rintro _ ⟨e, rfl⟩
            cases hT : TB with
            | true =>
              have XT : Hid (p.fl / 16384 % 2 = 1 ∨ p.fl / 262144 % 2 = 1) := HTB.out.1 hT
              subst hT
              by_cases hx : p.fl / 2 % 2 = 1
              · have a2 : bits .and .u64 (p.fl : Int) 2 = 2 := by have h := andP_yes (k := 1) hfl.out (by omega) (by simpa using hx); simpa using h
                have X2 := hid hx
                clear hx
                have HS : Hid (p.right = 8) := by
                  unfold Hid PV.right
                  rw [if_neg (by rw [HR.out]; decide), if_neg (by have := G0.out; omega), if_pos (.inl ⟨XT.out, .inr X2.out⟩)]
                go_wp2_with fail
                go_ret
                exact Ret.mk (by rw [HS.out]; rfl) (HE.out.trans e.h)
              · have a2 : bits .and .u64 (p.fl : Int) 2 = 0 := by have h := andP_no (k := 1) hfl.out (by omega) (by have : p.fl / 2 % 2 = 0 := (by omega); simpa using this); simpa using h
                have X2 := hid hx
                clear hx
                have HS : Hid (p.right = 0) := by
                  unfold Hid PV.right
                  rw [if_neg (by rw [HR.out]; decide), if_neg (by have := G0.out; omega), if_neg (fun h => h.elim (fun h => h.2.elim HN.out X2.out) (fun h => HN.out h.1))]
                go_wp2_with fail
                go_ret
                exact Ret.mk (by rw [HS.out]; rfl) (HE.out.trans e.h)
            | false =>
              have XT : Hid (¬ (p.fl / 16384 % 2 = 1 ∨ p.fl / 262144 % 2 = 1)) := fun h => by have := HTB.out.2 h; rw [hT] at this; cases this
              subst hT
              have HS : Hid (p.right = 0) := by
                unfold Hid PV.right
                rw [if_neg (by rw [HR.out]; decide), if_neg (by have := G0.out; omega), if_neg (fun h => h.elim (fun h => XT.out h.1) (fun h => HN.out h.1))]
              go_wp2_with fail
              go_ret
              exact Ret.mk (by rw [HS.out]; rfl) (HE.out.trans e.h)
          · have ma : ((p.s.sch) == (1)) = false := by rw [beq_eq_false_iff_ne]; omega
            have mb : ((p.s.sch) = (1)) = False := eq_false (by omega)
            have mc : ((p.s.sch) != (1)) = true := by rw [bne_iff_ne]; omega
            clear hS hN
            refine wp_region_later (by kernel_rfl) (by kernel_rfl) ?_
            repeat (go_big_quiet_step ((go_at_call 97; exact Ret.later (eidNoneP_any _))))
            refine wpQuiet_nil ?_
            rintro _ ⟨e, rfl⟩
            cases hT : TB with
            | true =>
              have XT : Hid (p.fl / 16384 % 2 = 1 ∨ p.fl / 262144 % 2 = 1) := HTB.out.1 hT
              subst hT
              by_cases hx : p.fl / 2 % 2 = 1
              · have a2 : bits .and .u64 (p.fl : Int) 2 = 2 := by have h := andP_yes (k := 1) hfl.out (by omega) (by simpa using hx); simpa using h
                have X2 := hid hx
                clear hx
                have HS : Hid (p.right = 8) := by
                  unfold Hid PV.right
                  rw [if_neg (by rw [HR.out]; decide), if_neg (by have := G0.out; omega), if_pos (.inl ⟨XT.out, .inr X2.out⟩)]
                go_wp2_with fail
                go_ret
                exact Ret.mk (by rw [HS.out]; rfl) (HE.out.trans e.h)
              · have a2 : bits .and .u64 (p.fl : Int) 2 = 0 := by have h := andP_no (k := 1) hfl.out (by omega) (by have : p.fl / 2 % 2 = 0 := (by omega); simpa using this); simpa using h
                have X2 := hid hx
                clear hx
                have HS : Hid (p.right = 0) := by
                  unfold Hid PV.right
                  rw [if_neg (by rw [HR.out]; decide), if_neg (by have := G0.out; omega), if_neg (fun h => h.elim (fun h => h.2.elim HN.out X2.out) (fun h => HN.out h.1))]
                go_wp2_with fail
                go_ret
                exact Ret.mk (by rw [HS.out]; rfl) (HE.out.trans e.h)
            | false =>
              have XT : Hid (¬ (p.fl / 16384 % 2 = 1 ∨ p.fl / 262144 % 2 = 1)) := fun h => by have := HTB.out.2 h; rw [hT] at this; cases this
              subst hT
              have HS : Hid (p.right = 0) := by
                unfold Hid PV.right
                rw [if_neg (by rw [HR.out]; decide), if_neg (by have := G0.out; omega), if_neg (fun h => h.elim (fun h => XT.out h.1) (fun h => HN.out h.1))]
              go_wp2_with fail
              go_ret
              exact Ret.mk (by rw [HS.out]; rfl) (HE.out.trans e.h)
      · have Y := hid hy
        rw [hx] at b17
        have ga : (((p.n : Int)) == (0)) = false := by rw [beq_eq_false_iff_ne]; omega
        have gb : (((p.n : Int)) = (0)) = False := eq_false (by omega)
        have gc : (((p.n : Int)) != (0)) = true := by rw [bne_iff_ne]; omega
        have ha : decide (p.n = 0) = false := decide_eq_false (by omega)
        have hb : (p.n = 0) = False := eq_false (by omega)
        clear hx hy
        have HS : Hid (p.right = 8) := by
          unfold Hid PV.right
          rw [if_neg (by rw [HR.out]; decide), if_pos (.inr ⟨F1.out, by have := Y.out; omega⟩)]
        go_wp2_with fail
        go_ret
        exact Ret.mk (by rw [HS.out]; rfl) (HE.out.trans e.h)
    · have Y := hid hx
      have ga : (((p.o : Int)) == (0)) = false := by rw [beq_eq_false_iff_ne]; omega
      have gb : (((p.o : Int)) = (0)) = False := eq_false (by omega)
      have gc : (((p.o : Int)) != (0)) = true := by rw [bne_iff_ne]; omega
      have ha : decide (p.o = 0) = false := decide_eq_false (by omega)
      have hb : (p.o = 0) = False := eq_false (by omega)
      clear hx
      have HS : Hid (p.right = 8) := by
        unfold Hid PV.right
        rw [if_neg (by rw [HR.out]; decide), if_pos (.inr ⟨F1.out, by have := Y.out; omega⟩)]
      go_wp2_with fail
      go_ret
      exact Ret.mk (by rw [HS.out]; rfl) (HE.out.trans e.h)
end Go.Proofs.Ytogjghmoankleaa


namespace Go.Proofs.Ytogjghmoankleaa
open Go.RowKit
set_option linter.unusedVariables false
set_option linter.unusedSimpArgs false

def tyB (bs : Nat → BV) (typ : Int) (i : Nat) : Bool := decide ((bs i).ty = typ)
theorem tyB_no {bs : Nat → BV} {typ : Int} {i : Nat} (h : (bs i).ty ≠ typ) : tyB bs typ i = false := by unfold tyB; simp [h]
theorem tyB_yes {bs : Nat → BV} {typ : Int} {i : Nat} (h : (bs i).ty = typ) : tyB bs typ i = true := by unfold tyB; simp [h]
/-- A block's five cells, stored anew. -/
def setB (W : World) (g : Nat) (b : BV) : World := ((((W.setCell ⟨g, 0, none⟩ (.int .i64 b.ty)).setCell ⟨g, 1, none⟩ (.int .i64 b.num)).setCell ⟨g, 2, none⟩ (.int .u64 (b.fl : Int))).setCell ⟨g, 3, none⟩ (.int .i64 b.crc)).setCell ⟨g, 4, none⟩ (str b.data)
section
variable {W : World} {g : Nat} {b0 b : BV}
theorem setB_mod {w : World} {S : List Nat} (h : Mod S w W) (hb : w.heap.size ≤ g) : Mod S w (setB W g b) :=
  ((((h.setCell (.inr hb) _).setCell (.inr hb) _).setCell (.inr hb) _).setCell (.inr hb) _).setCell (.inr hb) _
end
/-- What Find hands back. -/
def findV (bs : Nat → BV) (typ : Int) (k : Nat) : Value := match firstOf (tyB bs typ) k with | some i => .tuple #[(bs i).v, .bool true] | none => .tuple #[zeroB.v, .bool false]
end Go.Proofs.Ytogjghmoankleaa


namespace Go.Proofs.Ytogjghmoankleaa
open Go.RowKit
set_option linter.unusedVariables false
set_option linter.unusedSimpArgs false

/-- The row's cells: the first i blocks'. -/
def flatB (bs : Nat → BV) : Nat → List Value
  | 0 => []
  | i + 1 => flatB bs i ++ [.int .i64 (bs i).ty, .int .i64 (bs i).num, .int .u64 ((bs i).fl : Int), .int .i64 (bs i).crc, str (bs i).data]
theorem flatB_length (bs : Nat → BV) (i : Nat) : (flatB bs i).length = i * 5 := by
  induction i with
  | zero => rfl
  | succ i ih => rw [flatB, List.length_append, ih]; simp; omega
theorem flatB_congr {bs bs' : Nat → BV} {i : Nat} (h : ∀ j, j < i → bs j = bs' j) : flatB bs i = flatB bs' i := by
  induction i with
  | zero => rfl
  | succ i ih => rw [flatB, flatB, ih (fun j hj => h j (by omega)), h i (by omega)]
theorem flatB_get (bs : Nat → BV) (i : Nat) : ∀ j, j < i → (flatB bs i)[j * 5]? = some (.int .i64 (bs j).ty) ∧ (flatB bs i)[j * 5 + 1]? = some (.int .i64 (bs j).num) ∧ (flatB bs i)[j * 5 + 2]? = some (.int .u64 ((bs j).fl : Int)) ∧
    (flatB bs i)[j * 5 + 3]? = some (.int .i64 (bs j).crc) ∧ (flatB bs i)[j * 5 + 4]? = some (str (bs j).data) := by
  induction i with
  | zero => intro j hj; omega
  | succ i ih =>
    intro j hj
    have hl := flatB_length bs i
    rw [flatB]
    by_cases e : j = i
    · subst e
      refine ⟨?_, ?_, ?_, ?_, ?_⟩ <;> (rw [List.getElem?_append_right (by omega), hl]; simp)
    · have := ih j (by omega)
      refine ⟨?_, ?_, ?_, ?_, ?_⟩ <;> rw [List.getElem?_append_left (by omega)]
      · exact this.1
      · exact this.2.1
      · exact this.2.2.1
      · exact this.2.2.2.1
      · exact this.2.2.2.2
theorem flatB_idx (bs : Nat → BV) (k : Nat) {j : Nat} {u : Value} (h : (flatB bs k)[j]? = some u) : ∃ i r, i < k ∧ r < 5 ∧ j = i * 5 + r := by
  have := (List.getElem?_eq_some_iff.1 h).1
  rw [flatB_length] at this
  exact ⟨j / 5, j % 5, by omega, by omega, by omega⟩
theorem flatB_news {W : World} {b o : Nat} {bs : Nat → BV} {k : Nat} (h : ∀ i, i < k → BAt W b (o + i * 5) (bs i)) : ∀ j u, (flatB bs k)[j]? = some u → W.cell? ((⟨b, o, none⟩ : Addr).add j) = some u := by
  intro j u hj
  obtain ⟨i, r, hi, hr, rfl⟩ := flatB_idx bs k hj
  obtain ⟨g0, g1, g2, g3, g4⟩ := flatB_get bs k i hi
  obtain ⟨a0, a1, a2, a3, a4⟩ := h i hi
  rw [addr_add, ← Nat.add_assoc]
  have h5 : r = 0 ∨ r = 1 ∨ r = 2 ∨ r = 3 ∨ r = 4 := by omega
  rcases h5 with rfl | rfl | rfl | rfl | rfl
  · rw [← hj, Nat.add_zero, Nat.add_zero, g0]; exact a0
  · rw [← hj, g1]; exact a1
  · rw [← hj, g2]; exact a2
  · rw [← hj, g3]; exact a3
  · rw [← hj, g4]; exact a4
theorem flatB_one (bs : Nat → BV) (k : Nat) : ∀ u ∈ flatB bs k, u.oneCell' = true := by
  intro u hu
  obtain ⟨j, hj⟩ := List.getElem?_of_mem hu
  obtain ⟨i, r, hi, hr, rfl⟩ := flatB_idx bs k hj
  obtain ⟨g0, g1, g2, g3, g4⟩ := flatB_get bs k i hi
  have h5 : r = 0 ∨ r = 1 ∨ r = 2 ∨ r = 3 ∨ r = 4 := by omega
  rcases h5 with rfl | rfl | rfl | rfl | rfl
  · rw [Nat.add_zero, g0] at hj; cases hj; rfl
  · rw [g1] at hj; cases hj; rfl
  · rw [g2] at hj; cases hj; rfl
  · rw [g3] at hj; cases hj; rfl
  · rw [g4] at hj; cases hj; rfl
theorem oneB (b : BV) : ∀ u ∈ [Value.int .i64 b.ty, .int .i64 b.num, .int .u64 (b.fl : Int), .int .i64 b.crc, str b.data], u.oneCell' = true := by
  intro u hu
  simp at hu
  rcases hu with rfl | rfl | rfl | rfl | rfl <;> rfl
/-- Which blocks an append turns: the row's own. -/
theorem own_turned {w2 w4 : World} {base n size : Nat} {e : TypeId} {v : Value} {xs : List Value} (h : w2.ownsRow base e size v n xs) {w : World} {S : List Nat} (hw : Mod S w w2) (hgr : w2.grownBy w4 v.ownBlock) (hb : w.heap.size ≤ base) : Mod S w w4 :=
  hw.grown hgr (fun k hk => .inr (Nat.le_trans hb (h.lt k hk).1))
theorem own_far {w2 w4 : World} {base n size : Nat} {e : TypeId} {v : Value} {xs : List Value} (h : w2.ownsRow base e size v n xs) (hgr : w2.grownBy w4 v.ownBlock) {b : Nat} {ty : TypeId} {cs : Array Value} (hB : Blk w2 b ty cs) (hbN : b < base) : Blk w4 b ty cs :=
  (hgr.block b hB.lt (fun e => by have := (h.lt b e.symm).1; omega)).trans hB
end Go.Proofs.Ytogjghmoankleaa


namespace Go.Proofs.Ytogjghmoankleaa
open Go.RowKit
set_option linter.unusedVariables false
set_option linter.unusedSimpArgs false

theorem yieldsIf_mid {P : Program} {ops : Array Oper} {S : World → Prop} {op : Oper} {a : Act} (hw : Region.wanted op (yielded ops a.tmps) = true) (ty : TypeId) (x : Operand) (ho : op.op = .load ty x) (b o : Nat) (hx : a.eval x = .pointer (some ⟨b, o, none⟩))
    (cs : List Value) {d : TypeDesc} (hS : ∀ w, S w → w.rangeAt b o cs) (hu : P.underlying ty = some d) (hd : d.isRow = true)
    (hi : (P.info? ty).map (·.size) = some cs.length) : YieldsIf P ops S op (.agg cs.toArray) a :=
  .inl ⟨hw, fun w hw' => by
    unfold execOp
    simp only [ho, hx, Instr.loadAt, Instr.sureAddr, Sem.run_bind, Sem.run_pure, Result.andThen_ok, run_loadVar_mid w b o ty cs d (hS w hw') hu hd hi]⟩
theorem Blk.rangeE {w W : World} {g : Nat} {t : TypeId} {cs : Array Value} (h : Blk w g t cs) (hW : Ext w W) (o n : Nat) {l : List Value} (hl : (cs.extract o (o + n)).toList = l) : W.rangeAt g o l := hl ▸ World.rangeAt_of_block (h.ext hW) o n
end Go.Proofs.Ytogjghmoankleaa


namespace Go.Proofs.Ytogjghmoankleaa
set_option linter.unusedVariables false
set_option linter.unusedSimpArgs false

/-- An ID and a value; a list of them; a security text. -/
structure PR where
  id : Int
  t : T
structure PL where
  k : Nat
  a : Nat → PR
structure AV where
  tk : Nat
  tg : Nat → Int
  ctx : Int
  src : EV
  ps : PL
  rk : Nat
  rs : Nat → PL
def codedB (n : Int) : Bool := decide (0 ≤ n) && decide (n ≤ 65535)
def unlikeB (f : Nat → Int) (k : Nat) : Bool := T.all (fun i => codedB (f i) && T.all (fun j => decide (f j ≠ f i)) i) k
def valB (t : T) : Bool := (decide (t.kind = 0) || decide (t.kind = 2)) && t.right 8
def pairsB (p : PL) : Bool := T.all (fun i => valB (p.a i).t) p.k && unlikeB (fun i => (p.a i).id) p.k
def resB (p : PL) : Bool := decide (1 ≤ p.k) && decide (p.k ≤ 4) && pairsB p
def AV.shaped (a : AV) : Bool := (decide (1 ≤ a.tk) && decide (a.tk ≤ 16) && unlikeB a.tg a.tk && codedB a.ctx && a.src.ok) && (decide (a.ps.k ≤ 8) && pairsB a.ps && decide (a.rk = a.tk)) && T.all (fun i => resB (a.rs i)) a.rk
/-- The items. -/
def pairT (p : PR) : T := listT [numT p.id.toNat, p.t]
def plT (p : PL) : T := .mk 4 0 [] false p.k fun i => pairT (p.a i)
def tgT (k : Nat) (f : Nat → Int) : T := .mk 4 0 [] false k fun i => numT (f i).toNat
def rsT (k : Nat) (f : Nat → PL) : T := .mk 4 0 [] false k fun i => plT (f i)
def AV.items (a : AV) : List T := if a.ps.k = 0 then [tgT a.tk a.tg, numT a.ctx.toNat, numT 0, eidT a.src, rsT a.rk a.rs] else [tgT a.tk a.tg, numT a.ctx.toNat, numT 1, eidT a.src, plT a.ps, rsT a.rk a.rs]
def AV.bytes (a : AV) : List UInt8 := (a.items.map T.bytes).flatten
def AV.right (a : AV) : Bool := a.shaped && decide (a.bytes.length ≤ 4000)
/-- Numbers are a machine's; texts are not too long. -/
def PL.wf (p : PL) : Prop := p.k < 4611686018427387904 ∧ ∀ i, i < p.k → (p.a i).t.ok ∧ (-9223372036854775808 ≤ (p.a i).id ∧ (p.a i).id ≤ 9223372036854775807)
def AV.wf (a : AV) : Prop := (a.tk < 4611686018427387904 ∧ ∀ i, i < a.tk → -9223372036854775808 ≤ a.tg i ∧ a.tg i ≤ 9223372036854775807) ∧ (-9223372036854775808 ≤ a.ctx ∧ a.ctx ≤ 9223372036854775807) ∧ a.src.name.length < 4611686018427387904 ∧ a.ps.wf ∧ a.rk < 4611686018427387904 ∧ ∀ i, i < a.rk → (a.rs i).wf
def AV.small (a : AV) : Prop := (plT a.ps).size ≤ 100000 ∧ (rsT a.rk a.rs).size ≤ 100000

theorem codedB_iff {n : Int} : codedB n = true ↔ 0 ≤ n ∧ n ≤ 65535 := by simp [codedB]
theorem unlikeB_coded {f : Nat → Int} {k : Nat} (h : unlikeB f k = true) : ∀ i, i < k → 0 ≤ f i ∧ f i ≤ 65535 := fun i hi => by
  have := T.all_iff.1 h i hi
  rw [Bool.and_eq_true] at this
  exact codedB_iff.1 this.1
theorem valB_right {t : T} (h : valB t = true) : t.right 8 = true := by
  unfold valB at h
  rw [Bool.and_eq_true] at h
  exact h.2
/-- A right value has no items: it is right at any depth. -/
theorem valB_deep {t : T} (h : valB t = true) : ∀ d, 1 ≤ d → t.right d = true := by
  intro d hd
  unfold valB at h
  cases t with
  | nil => simp [T.right] at h
  | mk kind n s op k ch =>
    rw [Bool.and_eq_true, Bool.or_eq_true] at h
    obtain ⟨h1, h2⟩ := h
    have h1 : kind = 0 ∨ kind = 2 := h1.elim (fun h => .inl (of_decide_eq_true h)) (fun h => .inr (of_decide_eq_true h))
    unfold T.right at h2 ⊢
    rw [if_neg (by omega), Bool.and_eq_true] at h2
    rw [if_neg (by omega), Bool.and_eq_true]
    refine ⟨h2.1, ?_⟩
    have hk : k = 0 := by
      have h3 := h2.1
      unfold T.node at h3
      rcases h1 with rfl | rfl
      · simp at h3; omega
      · simp at h3; omega
    subst hk
    rfl
theorem pair_right {p : PR} {d : Nat} (hd : 2 ≤ d) (hi : 0 ≤ p.id ∧ p.id ≤ 65535) (h : valB p.t = true) : (pairT p).right d = true := by
  refine listT_right (by omega) (by simp) fun t ht => ?_
  simp only [List.mem_cons, List.not_mem_nil, or_false] at ht
  rcases ht with rfl | rfl
  · exact (numT_all _ (by omega)).2.1 _ (by omega)
  · exact valB_deep h _ (by omega)
theorem pair_ok {p : PR} (hi : 0 ≤ p.id ∧ p.id ≤ 65535) (h : p.t.ok) : (pairT p).ok := by
  refine listT_ok (by simp) fun t ht => ?_
  simp only [List.mem_cons, List.not_mem_nil, or_false] at ht
  rcases ht with rfl | rfl
  · exact num_ok (by omega)
  · exact h
theorem pairsB_iff {p : PL} : pairsB p = true ↔ (∀ i, i < p.k → valB (p.a i).t = true) ∧ unlikeB (fun i => (p.a i).id) p.k = true := by
  unfold pairsB
  rw [Bool.and_eq_true, T.all_iff]
theorem pl_right {p : PL} {d : Nat} (hd : 3 ≤ d) (hk : p.k ≤ 1000) (h : pairsB p = true) : (plT p).right d = true := by
  obtain ⟨h1, h2⟩ := pairsB_iff.1 h
  unfold plT T.right
  rw [if_neg (by omega), Bool.and_eq_true, T.all_iff]
  exact ⟨by simp [T.node, hk], fun i hi => pair_right (by omega) (unlikeB_coded h2 i hi) (h1 i hi)⟩
theorem pl_ok {p : PL} (hw : p.wf) (h : pairsB p = true) : (plT p).ok := by
  obtain ⟨h1, h2⟩ := pairsB_iff.1 h
  unfold plT T.ok
  exact ⟨by omega, by omega, by simp, hw.1, fun i hi => pair_ok (unlikeB_coded h2 i hi) (hw.2 i hi).1⟩
theorem tg_right {k : Nat} {f : Nat → Int} {d : Nat} (hd : 2 ≤ d) (hk : k ≤ 1000) (h : unlikeB f k = true) : (tgT k f).right d = true := by
  unfold tgT T.right
  rw [if_neg (by omega), Bool.and_eq_true, T.all_iff]
  exact ⟨by simp [T.node, hk], fun i hi => (numT_all _ (by have := unlikeB_coded h i hi; omega)).2.1 _ (by omega)⟩
theorem tg_ok {k : Nat} {f : Nat → Int} (hk : k ≤ 1000) (h : unlikeB f k = true) : (tgT k f).ok := by
  unfold tgT T.ok
  exact ⟨by omega, by omega, by simp, by omega, fun i hi => num_ok (by have := unlikeB_coded h i hi; omega)⟩
theorem tg_size {k : Nat} {f : Nat → Int} (hk : k ≤ 1000) : (tgT k f).size ≤ 2001 := by
  unfold tgT T.size
  have := sum_le_each (f := fun i => (numT (f i).toNat).size) (B := 1) (k := k) (fun i _ => by simp [numT, T.size, T.sum])
  simp; omega
theorem resB_iff {p : PL} : resB p = true ↔ (1 ≤ p.k ∧ p.k ≤ 4) ∧ pairsB p = true := by
  unfold resB; simp [and_assoc]
theorem rs_right {k : Nat} {f : Nat → PL} {d : Nat} (hd : 4 ≤ d) (hk : k ≤ 1000) (h : T.all (fun i => resB (f i)) k = true) : (rsT k f).right d = true := by
  unfold rsT T.right
  rw [if_neg (by omega), Bool.and_eq_true, T.all_iff]
  exact ⟨by simp [T.node, hk], fun i hi => by
    obtain ⟨h1, h2⟩ := resB_iff.1 (T.all_iff.1 h i hi)
    exact pl_right (by omega) (by omega) h2⟩
theorem rs_ok {k : Nat} {f : Nat → PL} (hk : k ≤ 1000) (hw : ∀ i, i < k → (f i).wf) (h : T.all (fun i => resB (f i)) k = true) : (rsT k f).ok := by
  unfold rsT T.ok
  exact ⟨by omega, by omega, by simp, by omega, fun i hi => pl_ok (hw i hi) (resB_iff.1 (T.all_iff.1 h i hi)).2⟩
theorem AV.shaped_iff {a : AV} : a.shaped = true ↔ (1 ≤ a.tk ∧ a.tk ≤ 16) ∧ unlikeB a.tg a.tk = true ∧ codedB a.ctx = true ∧ a.src.ok = true ∧ a.ps.k ≤ 8 ∧ pairsB a.ps = true ∧ a.rk = a.tk ∧ T.all (fun i => resB (a.rs i)) a.rk = true := by
  unfold AV.shaped
  simp only [Bool.and_eq_true, decide_eq_true_eq]
  constructor
  · rintro ⟨⟨⟨⟨⟨⟨h1, h2⟩, h3⟩, h4⟩, h5⟩, ⟨⟨h6, h7⟩, h8⟩⟩, h9⟩
    exact ⟨⟨h1, h2⟩, h3, h4, h5, h6, h7, h8, h9⟩
  · rintro ⟨⟨h1, h2⟩, h3, h4, h5, h6, h7, h8, h9⟩
    exact ⟨⟨⟨⟨⟨⟨h1, h2⟩, h3⟩, h4⟩, h5⟩, ⟨⟨h6, h7⟩, h8⟩⟩, h9⟩
/-- The items of one that is shaped may all be built. -/
theorem AV.items_all {a : AV} (hw : a.wf) (hs : a.small) (h : a.shaped = true) : ∀ t ∈ a.items, t.ok ∧ t.right 8 = true ∧ t.size ≤ 100000 := by
  obtain ⟨⟨h1, h2⟩, h3, h4, h5, h6, h7, h8, h9⟩ := AV.shaped_iff.1 h
  obtain ⟨w1, w2, w3, w4, w5, w6⟩ := hw
  have c := codedB_iff.1 h4
  have ntg : (tgT a.tk a.tg).ok ∧ (tgT a.tk a.tg).right 8 = true ∧ (tgT a.tk a.tg).size ≤ 100000 := ⟨tg_ok (by omega) h3, tg_right (by omega) (by omega) h3, by have := tg_size (k := a.tk) (f := a.tg) (by omega); omega⟩
  have nn : ∀ n, n ≤ 65535 → (numT n).ok ∧ (numT n).right 8 = true ∧ (numT n).size ≤ 100000 := fun n hn => by
    have := numT_all n (by omega)
    exact ⟨this.1, this.2.1 8 (by omega), by have := this.2.2.1; omega⟩
  have ne : (eidT a.src).ok ∧ (eidT a.src).right 8 = true ∧ (eidT a.src).size ≤ 100000 := by
    have := eidT_ok h5
    exact ⟨this.1, this.2.1 8 (by omega), this.2.2.2⟩
  have np : (plT a.ps).ok ∧ (plT a.ps).right 8 = true ∧ (plT a.ps).size ≤ 100000 := ⟨pl_ok w4 h7, pl_right (by omega) (by omega) h7, hs.1⟩
  have nr : (rsT a.rk a.rs).ok ∧ (rsT a.rk a.rs).right 8 = true ∧ (rsT a.rk a.rs).size ≤ 100000 := ⟨rs_ok (by omega) w6 h9, rs_right (by omega) (by omega) h9, hs.2⟩
  intro t ht
  unfold AV.items at ht
  split at ht
  · simp only [List.mem_cons, List.not_mem_nil, or_false] at ht
    rcases ht with rfl | rfl | rfl | rfl | rfl
    · exact ntg
    · exact nn _ (by omega)
    · exact nn _ (by omega)
    · exact ne
    · exact nr
  · simp only [List.mem_cons, List.not_mem_nil, or_false] at ht
    rcases ht with rfl | rfl | rfl | rfl | rfl | rfl
    · exact ntg
    · exact nn _ (by omega)
    · exact nn _ (by omega)
    · exact ne
    · exact np
    · exact nr
end Go.Proofs.Ytogjghmoankleaa


namespace Go.Proofs.Ytogjghmoankleaa
open Go.RowKit
set_option linter.unusedVariables false
set_option linter.unusedSimpArgs false

/-- The row's cells: the first i elements'. -/
def flatG (f : Nat → List Value) : Nat → List Value
  | 0 => []
  | i + 1 => flatG f i ++ f i
section
variable {f g : Nat → List Value} {z : Nat}
theorem flatG_length (hf : ∀ i, (f i).length = z) (i : Nat) : (flatG f i).length = i * z := by
  induction i with
  | zero => simp [flatG]
  | succ i ih => rw [flatG, List.length_append, ih, hf, Nat.succ_mul]
theorem flatG_congr {i : Nat} (h : ∀ j, j < i → f j = g j) : flatG f i = flatG g i := by
  induction i with
  | zero => rfl
  | succ i ih => rw [flatG, flatG, ih (fun j hj => h j (by omega)), h i (by omega)]
theorem flatG_get (hf : ∀ i, (f i).length = z) (k : Nat) : ∀ j, j < k → ∀ r, r < z → (flatG f k)[j * z + r]? = (f j)[r]? := by
  induction k with
  | zero => intro j hj; omega
  | succ k ih =>
    intro j hj r hr
    have hl := flatG_length hf k
    rw [flatG]
    by_cases e : j = k
    · subst e
      rw [List.getElem?_append_right (by omega), hl]
      congr 1; omega
    · have h1 : (j + 1) * z ≤ k * z := Nat.mul_le_mul_right z (by omega)
      rw [Nat.succ_mul] at h1
      rw [List.getElem?_append_left (by omega), ih j (by omega) r hr]
theorem flatG_idx (hz : 0 < z) (hf : ∀ i, (f i).length = z) (k : Nat) {j : Nat} {u : Value} (h : (flatG f k)[j]? = some u) : ∃ i r, i < k ∧ r < z ∧ j = i * z + r ∧ (f i)[r]? = some u := by
  have h1 := (List.getElem?_eq_some_iff.1 h).1
  rw [flatG_length hf] at h1
  have hi : j / z < k := Nat.div_lt_of_lt_mul (by rw [Nat.mul_comm]; exact h1)
  have hr : j % z < z := Nat.mod_lt _ hz
  have he : j = j / z * z + j % z := by have := Nat.div_add_mod j z; rw [Nat.mul_comm] at this; omega
  refine ⟨j / z, j % z, hi, hr, he, ?_⟩
  rw [← flatG_get hf k _ hi _ hr, ← he]; exact h
theorem flatG_one (hz : 0 < z) (hf : ∀ i, (f i).length = z) (h1 : ∀ i, ∀ u ∈ f i, u.oneCell' = true) (k : Nat) : ∀ u ∈ flatG f k, u.oneCell' = true := by
  intro u hu
  obtain ⟨j, hj⟩ := List.getElem?_of_mem hu
  obtain ⟨i, r, _, _, _, h⟩ := flatG_idx hz hf k hj
  exact h1 i u (List.mem_of_getElem? h)
theorem flatG_news (hz : 0 < z) (hf : ∀ i, (f i).length = z) {W : World} {b o k : Nat} (h : ∀ i, i < k → ∀ r u, (f i)[r]? = some u → W.cell? ⟨b, o + i * z + r, none⟩ = some u) : ∀ j u, (flatG f k)[j]? = some u → W.cell? ((⟨b, o, none⟩ : Addr).add j) = some u := by
  intro j u hj
  obtain ⟨i, r, hi, hr, rfl, hu⟩ := flatG_idx hz hf k hj
  rw [addr_add, ← Nat.add_assoc]
  exact h i hi r u hu
theorem flatG_own {W : World} {base b c k : Nat} {e : TypeId} (hf : ∀ i, (f i).length = z) (h : W.ownsRow base e z (.slice (some ⟨b, 0, none⟩) k c) k (flatG f k)) {i : Nat} (hi : i < k) {r : Nat} (hr : r < z) {u : Value} (hu : (f i)[r]? = some u) : W.cell? ⟨b, i * z + r, none⟩ = some u := by
  have := h.cells (g := b) rfl (i * z + r) u (by rw [flatG_get hf k i hi r hr]; exact hu)
  rw [addr_add, Nat.zero_add] at this
  exact this
end
theorem own_cap {w : World} {base size n c : Nat} {e : TypeId} {A : Option Addr} {xs : List Value} (h : w.ownsRow base e size (.slice A n c) n xs) : n ≤ c := by
  rcases h.2 with ⟨h1, h2⟩ | ⟨g, cap, cur, hv, hbg, hg, hnc, hcm, hcs, htake⟩
  · simp only [Value.slice.injEq] at h1; omega
  · simp only [Value.slice.injEq] at hv; omega
end Go.Proofs.Ytogjghmoankleaa


namespace Go.Proofs.Ytogjghmoankleaa
open Go.RowKit
set_option linter.unusedVariables false
set_option linter.unusedSimpArgs false

/-- A row of numbers in memory. -/
def NsL (w : World) (A : Option Addr) (k : Nat) (f : Nat → Int) : Prop := 0 < k → ∃ b o, A = some ⟨b, o, none⟩ ∧ b < w.heap.size ∧ ∀ i, i < k → w.cell? ⟨b, o + i, none⟩ = some (.int .i64 (f i))
/-- A pair's six cells; a row of pairs. -/
def At6 (w : World) (b o : Nat) (p : PR) (A : Option Addr) (c : Nat) : Prop := w.cell? ⟨b, o, none⟩ = some (.int .i64 p.id) ∧ w.cell? ⟨b, o + 1, none⟩ = some (.int .i64 p.t.kind) ∧ w.cell? ⟨b, o + 2, none⟩ = some (.int .u64 (p.t.n : Int)) ∧ w.cell? ⟨b, o + 3, none⟩ = some (str p.t.s) ∧ w.cell? ⟨b, o + 4, none⟩ = some (.slice A p.t.k c) ∧ w.cell? ⟨b, o + 5, none⟩ = some (.bool p.t.op)
theorem At6.five {w : World} {b o : Nat} {p : PR} {A : Option Addr} {c : Nat} (h : At6 w b o p A c) : At5 w b (o + 1) p.t A c := ⟨h.2.1, h.2.2.1, h.2.2.2.1, h.2.2.2.2.1, h.2.2.2.2.2⟩
def PsL (w : World) (Q : Nat → Prop) (A : Option Addr) (p : PL) : Prop := 0 < p.k → ∃ b o, A = some ⟨b, o, none⟩ ∧ b < w.heap.size ∧ Q b ∧ ∀ i, i < p.k → ∃ Ai ci, At6 w b (o + i * 6) (p.a i) Ai ci ∧ IsL w Q (p.a i).t Ai
/-- A row of rows of pairs. -/
def RsL (w : World) (Q : Nat → Prop) (A : Option Addr) (k : Nat) (f : Nat → PL) : Prop := 0 < k → ∃ b o, A = some ⟨b, o, none⟩ ∧ b < w.heap.size ∧ Q b ∧ ∀ i, i < k → ∃ Ai ci, w.cell? ⟨b, o + i, none⟩ = some (.slice Ai (f i).k ci) ∧ (f i).k ≤ ci ∧ PsL w Q Ai (f i)
abbrev anyQ : Nat → Prop := fun _ => True
theorem NsL.mod {S : List Nat} {w w' : World} {A : Option Addr} {k : Nat} {f : Nat → Int} (h : NsL w A k f) (hm : Mod S w w') (hs : ∀ b o, A = some ⟨b, o, none⟩ → b < w.heap.size → b ∉ S) : NsL w' A k f := fun h0 => by
  obtain ⟨b, o, hA, hb, hc⟩ := h h0
  exact ⟨b, o, hA, Nat.lt_of_lt_of_le hb hm.size, fun i hi => (hm.cell hb (hs b o hA hb)).trans (hc i hi)⟩
theorem NsL.ext {w w' : World} {A : Option Addr} {k : Nat} {f : Nat → Int} (h : NsL w A k f) (hm : Ext w w') : NsL w' A k f := h.mod hm (by simp)
theorem At6.mod {S : List Nat} {w w' : World} {b o : Nat} {p : PR} {A : Option Addr} {c : Nat} (h : At6 w b o p A c) (hm : Mod S w w') (hb : b < w.heap.size) (hs : b ∉ S) : At6 w' b o p A c := by
  obtain ⟨h0, h1, h2, h3, h4, h5⟩ := h
  exact ⟨(hm.cell hb hs).trans h0, (hm.cell hb hs).trans h1, (hm.cell hb hs).trans h2, (hm.cell hb hs).trans h3, (hm.cell hb hs).trans h4, (hm.cell hb hs).trans h5⟩
theorem PsL.mod {S : List Nat} {Q : Nat → Prop} {w w' : World} {A : Option Addr} {p : PL} (h : PsL w Q A p) (hm : Mod S w w') (hs : ∀ k, Q k → k < w.heap.size → k ∉ S) : PsL w' Q A p := fun h0 => by
  obtain ⟨b, o, hA, hb, hq, hc⟩ := h h0
  refine ⟨b, o, hA, Nat.lt_of_lt_of_le hb hm.size, hq, fun i hi => ?_⟩
  obtain ⟨Ai, ci, h1, h2⟩ := hc i hi
  exact ⟨Ai, ci, h1.mod hm hb (hs b hq hb), IsL.mod hm hs _ h2⟩
theorem PsL.ext {Q : Nat → Prop} {w w' : World} {A : Option Addr} {p : PL} (h : PsL w Q A p) (hm : Ext w w') : PsL w' Q A p := h.mod hm (by simp)
theorem PsL.weak {Q R : Nat → Prop} {w : World} {A : Option Addr} {p : PL} (h : PsL w Q A p) (hq : ∀ k, k < w.heap.size → Q k → R k) : PsL w R A p := fun h0 => by
  obtain ⟨b, o, hA, hb, hqb, hc⟩ := h h0
  refine ⟨b, o, hA, hb, hq b hb hqb, fun i hi => ?_⟩
  obtain ⟨Ai, ci, h1, h2⟩ := hc i hi
  exact ⟨Ai, ci, h1, IsL.weak hq _ h2⟩
theorem RsL.mod {S : List Nat} {Q : Nat → Prop} {w w' : World} {A : Option Addr} {k : Nat} {f : Nat → PL} (h : RsL w Q A k f) (hm : Mod S w w') (hs : ∀ k, Q k → k < w.heap.size → k ∉ S) : RsL w' Q A k f := fun h0 => by
  obtain ⟨b, o, hA, hb, hq, hc⟩ := h h0
  refine ⟨b, o, hA, Nat.lt_of_lt_of_le hb hm.size, hq, fun i hi => ?_⟩
  obtain ⟨Ai, ci, h1, hkc, h2⟩ := hc i hi
  exact ⟨Ai, ci, (hm.cell hb (hs b hq hb)).trans h1, hkc, h2.mod hm hs⟩
theorem RsL.ext {Q : Nat → Prop} {w w' : World} {A : Option Addr} {k : Nat} {f : Nat → PL} (h : RsL w Q A k f) (hm : Ext w w') : RsL w' Q A k f := h.mod hm (by simp)
theorem RsL.weak {Q R : Nat → Prop} {w : World} {A : Option Addr} {k : Nat} {f : Nat → PL} (h : RsL w Q A k f) (hq : ∀ k, k < w.heap.size → Q k → R k) : RsL w R A k f := fun h0 => by
  obtain ⟨b, o, hA, hb, hqb, hc⟩ := h h0
  refine ⟨b, o, hA, hb, hq b hb hqb, fun i hi => ?_⟩
  obtain ⟨Ai, ci, h1, hkc, h2⟩ := hc i hi
  exact ⟨Ai, ci, h1, hkc, h2.weak hq⟩
/-- A pair's cells, as values. -/
abbrev prC (p : PR) (A : Option Addr) (c : Nat) : Array Value := #[.int .i64 p.id, .int .i64 p.t.kind, .int .u64 (p.t.n : Int), str p.t.s, .slice A p.t.k c, .bool p.t.op]
/-- A security text's cells. -/
structure AA where
  t : Option Addr
  tc : Nat
  p : Option Addr
  pc : Nat
  r : Option Addr
  rc : Nat
abbrev asbC (a : AV) (m : AA) : Array Value := #[.slice m.t a.tk m.tc, .int .i64 a.ctx, .int .i64 a.src.sch, str a.src.name, .int .u64 (a.src.node : Int), .int .u64 (a.src.svc : Int), .slice m.p a.ps.k m.pc, .slice m.r a.rk m.rc]
abbrev asbV (a : AV) (m : AA) : Value := .agg (asbC a m)
/-- It lies in memory, in blocks of Q alone. -/
structure AsL (w : World) (Q : Nat → Prop) (a : AV) (m : AA) : Prop where
  t : NsL w m.t a.tk a.tg
  tq : ∀ b o, m.t = some ⟨b, o, none⟩ → 0 < a.tk → Q b
  p : PsL w Q m.p a.ps
  r : RsL w Q m.r a.rk a.rs
theorem AsL.mod {S : List Nat} {Q : Nat → Prop} {w w' : World} {a : AV} {m : AA} (h : AsL w Q a m) (hm : Mod S w w') (hs : ∀ k, Q k → k < w.heap.size → k ∉ S) : AsL w' Q a m :=
  ⟨fun h0 => by
    obtain ⟨b, o, hA, hb, hc⟩ := h.t h0
    exact ⟨b, o, hA, Nat.lt_of_lt_of_le hb hm.size, fun i hi => (hm.cell hb (hs b (h.tq b o hA h0) hb)).trans (hc i hi)⟩, h.tq, h.p.mod hm hs, h.r.mod hm hs⟩
theorem AsL.ext {Q : Nat → Prop} {w w' : World} {a : AV} {m : AA} (h : AsL w Q a m) (hm : Ext w w') : AsL w' Q a m := h.mod hm (by simp)

theorem coded_any (n : Int) (w : World) : Calls Try.prog 121 #[.int .i64 n] w (fun e w' => e = .returned (.bool (codedB n)) ∧ w' = w) := by
  go_enter Try.func121, Try.ntmps121
  go_wp2
  all_goals go_ret
  all_goals exact ⟨ret_bool (by unfold codedB; rw [Bool.eq_iff_iff]; simp [*]; try omega), rfl⟩
/-- Where a number is. -/
def isN (f : Nat → Int) (x : Int) (i : Nat) : Bool := x == f i
set_option maxHeartbeats 800000 in
theorem IndexN_any (A : Option Addr) (f : Nat → Int) (k c : Nat) (x : Int) (hk : k < 4611686018427387904) (w : World) (h : NsL w A k f) :
    Calls Try.prog 41 #[.slice A k c, .int .i64 x] w (Ret (.int .i64 (firstI (isN f x) k)) w) := by
  have H := hid h; have HK := hid hk
  clear h hk
  have k1 : (k : Int) < 4611686018427387904 := by have := HK.out; omega
  go_enter Try.func41, Try.ntmps41
  go_upto_region 2 with fail
  go_loopw [8] (fun s8 wr => ∃ j : Nat, j ≤ k ∧ s8 = .int .i64 (j : Int) ∧ wr = w ∧ Hid (∀ i, i < j → isN f x i = false)) (fun s8 _ => k - (intOf s8).toNat)
  case atStart => exact ⟨0, Nat.zero_le _, rfl, rfl, fun i h => absurd h (Nat.not_lt_zero _)⟩
  case round =>
    obtain ⟨j, hj, rfl, rfl, hno⟩ := hrel
    have j0 : (0 : Int) ≤ (j : Int) := by omega
    by_cases hlt : j < k
    · obtain ⟨b, o, rfl, hb, hc⟩ := H.out (by omega)
      have c0 := hc j hlt
      have j1 : (j : Int) < (k : Int) := by omega
      have tc : decide (j < k) = true := by simp [hlt]
      clear hc
      cases hq : isN f x j with
      | true =>
        have HQ := hid hq
        have tq : (x == f j) = true := hq
        have tq2 : (x = f j) = True := by rw [beq_iff_eq] at tq; exact eq_true tq
        clear hq
        go_wp2_with fail
        go_ret
        refine Ret.mk ?_ (Mod.refl _ _)
        unfold firstI
        rw [firstOf_some hlt HQ.out hno.out]; rfl
      | false =>
        have HQ := hid hq
        have tq : (x == f j) = false := hq
        have tq2 : (x = f j) = False := by rw [beq_eq_false_iff_ne] at tq; exact eq_false tq
        clear hq
        go_wp2_with fail
        go_roundw
        case rel =>
          refine ⟨j + 1, by omega, by go_num, by trivial, (show Hid _ from fun i hi => ?_)⟩
          by_cases e : i = j
          · subst e; exact HQ.out
          · exact hno.out i (by omega)
        case measure => simp [intOf]; omega
    · obtain rfl : j = k := by omega
      have tc : decide (j < j) = false := by simp
      go_wp2_with fail
      go_ret
      refine Ret.mk ?_ (Mod.refl _ _)
      unfold firstI
      rw [firstOf_none hno.out]; rfl
theorem firstI_is {p : Nat → Bool} {k : Nat} : decide (0 ≤ firstI p k) = (firstOf p k).isSome := by
  unfold firstI
  cases firstOf p k <;> simp
set_option maxHeartbeats 800000 in
theorem ContainsN_any (A : Option Addr) (f : Nat → Int) (k c : Nat) (x : Int) (hk : k < 4611686018427387904) (w : World) (h : NsL w A k f) :
    Calls Try.prog 147 #[.slice A k c, .int .i64 x] w (Ret (.bool (firstOf (isN f x) k).isSome) w) := by
  have K := hid (IndexN_any A f k c x hk w h)
  have hX := hid (firstI_is (p := isN f x) (k := k))
  generalize firstI (isN f x) k = X at *
  generalize (firstOf (isN f x) k).isSome = B at *
  clear h
  go_enter Try.func147, Try.ntmps147
  go_wp2_with (go_at_call 41; refine K.out.mono ?_; rintro e w' ⟨rfl, hb'⟩)
  go_ret
  exact Ret.mk (congrArg Value.bool hX.out) hb'
theorem contains_all {f : Nat → Int} {x : Int} {k : Nat} : (firstOf (isN f x) k).isSome = !(T.all (fun j => decide (f j ≠ x)) k) := by
  cases h : firstOf (isN f x) k with
  | none =>
    have := firstOf_no h
    have h2 : T.all (fun j => decide (f j ≠ x)) k = true := T.all_iff.2 fun i hi => by
      have := this i hi
      unfold isN at this
      rw [beq_eq_false_iff_ne] at this
      simpa using fun e => this e.symm
    rw [h2]; rfl
  | some i =>
    obtain ⟨h1, h2, _⟩ := firstOf_spec h
    have h3 : T.all (fun j => decide (f j ≠ x)) k = false := by
      cases hh : T.all (fun j => decide (f j ≠ x)) k with
      | false => rfl
      | true =>
        have := T.all_iff.1 hh i h1
        unfold isN at h2
        rw [beq_iff_eq] at h2
        simp [h2] at this
    rw [h3]; rfl
end Go.Proofs.Ytogjghmoankleaa


namespace Go.Proofs.Ytogjghmoankleaa
open Go.RowKit
set_option linter.unusedVariables false
set_option linter.unusedSimpArgs false

def fitB (f : Nat → Int) (i : Nat) : Bool := codedB (f i) && !(firstOf (isN f (f i)) i).isSome
theorem unlike_fit (f : Nat → Int) (k : Nat) : unlikeB f k = T.all (fitB f) k := by
  unfold unlikeB fitB
  congr 1
  funext i
  rw [contains_all, Bool.not_not]
theorem all_no {f : Nat → Bool} {k i : Nat} (hi : i < k) (h : f i = false) : T.all f k = false := by
  cases hh : T.all f k with
  | false => rfl
  | true => have := T.all_iff.1 hh i hi; rw [h] at this; cases this
theorem NsL.take {w : World} {A : Option Addr} {k : Nat} {f : Nat → Int} (h : NsL w A k f) {i : Nat} (hi : i ≤ k) : NsL w A i f := fun h0 => by
  obtain ⟨b, o, hA, hb, hc⟩ := h (by omega)
  exact ⟨b, o, hA, hb, fun j hj => hc j (by omega)⟩
set_option maxHeartbeats 1600000 in
set_option maxRecDepth 20000 in
theorem unlike_any (A : Option Addr) (f : Nat → Int) (k c : Nat) (hk : k < 4611686018427387904) (hkc : k ≤ c) (w : World) (h : NsL w A k f) :
    Calls Try.prog 120 #[.slice A k c] w (Ret (.bool (unlikeB f k)) w) := by
  rw [unlike_fit]
  have HL := hid h
  have HK := hid hk
  have HKC := hid hkc
  have k1 : (k : Int) < 4611686018427387904 := by omega
  clear h hk hkc
  obtain ⟨e0, he0⟩ := Later.self w
  go_enter Try.func120, Try.ntmps120
  go_wp2_with fail
  go_loopw [7] (fun s7 wr => ∃ i : Nat, s7 = .int .i64 (i : Int) ∧ Hid (i ≤ k ∧ T.all (fitB f) i = true) ∧ ∃ e : Later w, wr = e.x) (fun s7 _ => k - (intOf s7).toNat)
  case atStart => exact ⟨0, rfl, (show Hid _ from ⟨Nat.zero_le _, rfl⟩), e0, (by first | exact he0 | rfl)⟩
  case round =>
    clear he0 e0
    obtain ⟨i, rfl, hi, e, rfl⟩ := hrel
    have i0 : (0 : Int) ≤ (i : Int) := by omega
    by_cases hlt : i < k
    · obtain ⟨b, o, rfl, hb, hc⟩ := HL.out (by omega)
      have c0 : e.x.cell? ⟨b, o + i, none⟩ = some (.int .i64 (f i)) := (e.h.cell hb (by simp)).trans (hc i hlt)
      have tc : decide (i < k) = true := by simp [hlt]
      have i1 : (i : Int) < (k : Int) := by omega
      have i2 : (i : Int) ≤ (c : Int) := by have := HKC.out; omega
      have i3 : i ≤ c := by have := HKC.out; omega
      have HLT := hid hlt
      have KC := hid (fun W => coded_any (f i) W)
      have KN := hid (fun e : Later w => ContainsN_any (some ⟨b, o, none⟩) f i c (f i) (by have := HK.out; omega) e.x ((HL.out.ext e.h).take (by omega)))
      clear hlt hc hb
      cases hcd : codedB (f i) with
      | false =>
        rw [hcd] at KC
        have HN := hid (all_no HLT.out (show fitB f i = false by unfold fitB; rw [hcd]; rfl))
        clear hcd KN
        go_wp2_with (go_at_call 121; refine (KC.out _).mono ?_; rintro e' w' ⟨rfl, rfl⟩)
        go_ret
        exact Ret.mk (by rw [HN.out]; rfl) e.h
      | true =>
        rw [hcd] at KC
        have HCD := hid hcd
        clear hcd
        cases hf : (firstOf (isN f (f i)) i).isSome with
        | true =>
          rw [hf] at KN
          have HN := hid (all_no HLT.out (show fitB f i = false by unfold fitB; rw [hf, Bool.and_comm]; rfl))
          clear hf
          go_wp2_with (first | (go_at_call 121; refine (KC.out _).mono ?_; rintro e' w' ⟨rfl, rfl⟩) | (go_at_call 147; refine (Ret.later (KN.out _)).mono ?_; rintro x _ ⟨rfl, e, rfl⟩))
          go_ret
          exact Ret.mk (by rw [HN.out]; rfl) e.h
        | false =>
          rw [hf] at KN
          have HN : Hid (fitB f i = true) := hid (by unfold fitB; rw [hf, HCD.out]; rfl)
          clear hf
          go_wp2_with (first | (go_at_call 121; refine (KC.out _).mono ?_; rintro e' w' ⟨rfl, rfl⟩) | (go_at_call 147; refine (Ret.later (KN.out _)).mono ?_; rintro x _ ⟨rfl, e, rfl⟩))
          go_roundw
          case rel => exact ⟨i + 1, by go_num, (show Hid _ from ⟨HLT.out, by rw [T.all, hi.out.2, HN.out]; rfl⟩), e, rfl⟩
          case measure => have := HLT.out; simp [intOf]; omega
    · obtain rfl : i = k := by have := hi.out.1; omega
      have tc : decide (i < i) = false := by simp
      go_wp2_with fail
      go_ret
      exact Ret.mk (by rw [hi.out.2]; rfl) e.h
theorem infoInt : (Try.prog.info? 3).map (fun i => (i.zero, i.size, i.bytes)) = some (some (.int .i64 0), 1, 8) := by kernel_rfl
/-- Numbers, as a row's cells. -/
abbrev numsF (f : Nat → Int) (i : Nat) : List Value := [.int .i64 (f i)]
theorem numsF_len (f : Nat → Int) (i : Nat) : (numsF f i).length = 1 := rfl
theorem own_NsL {W : World} {base k c : Nat} {A : Option Addr} {f : Nat → Int} (h : W.ownsRow base 3 1 (.slice A k c) k (flatG (numsF f) k)) : NsL W A k f := by
  intro h0
  obtain ⟨k', rfl⟩ : ∃ k', k = k' + 1 := ⟨k - 1, by omega⟩
  obtain ⟨g, c', hv, hb, hlt⟩ := own_form h
  simp only [Value.slice.injEq] at hv
  obtain ⟨rfl, _, rfl⟩ := hv
  refine ⟨g, 0, rfl, hlt, fun i hi => ?_⟩
  have := flatG_own (z := 1) (numsF_len f) h hi (r := 0) (by omega) (u := .int .i64 (f i)) rfl
  rw [Nat.mul_one, Nat.add_zero] at this
  rw [Nat.zero_add]; exact this
end Go.Proofs.Ytogjghmoankleaa


namespace Go.Proofs.Ytogjghmoankleaa
open Go.RowKit
set_option linter.unusedVariables false
set_option linter.unusedSimpArgs false

def ppB (p : PL) (i : Nat) : Bool := valB (p.a i).t
theorem PsL.at {w W : World} {Q : Nat → Prop} {A : Option Addr} {p : PL} (h : PsL w Q A p) (hW : Ext w W) {i : Nat} (hi : i < p.k) : ∃ b o Ai ci, A = some ⟨b, o, none⟩ ∧ b < w.heap.size ∧ At6 W b (o + i * 6) (p.a i) Ai ci ∧ IsL W Q (p.a i).t Ai := by
  obtain ⟨b, o, hA, hb, hq, hc⟩ := h (by omega)
  obtain ⟨Ai, ci, h1, h2⟩ := hc i hi
  exact ⟨b, o, Ai, ci, hA, hb, h1.mod hW hb (by simp), h2.ext hW⟩
set_option maxRecDepth 20000 in
set_option maxHeartbeats 4000000 in
theorem pairs_any (p : PL) (hk : p.k ≤ 100000) (hok : ∀ i, i < p.k → (p.a i).t.ok) (A : Option Addr) (c : Nat) (w : World) (h : PsL w anyQ A p) : Calls Try.prog 122 #[.slice A p.k c] w (Ret (.bool (pairsB p)) w) := by
  have HL := hid h
  have HK := hid hk
  have HOK := hid hok
  have k0 : (p.k : Int) ≤ 100000 := by omega
  have HW0 := hid (Mod.refl [] w)
  generalize hkk : p.k = k at *
  have HKK := hid hkk
  clear hok hk h hkk
  go_enter Try.func122, Try.ntmps122
  go_wp2_with fail
  go_loopw [3, 8] (fun s3 s8 wr => ∃ (i : Nat) (A' : Option Addr) (c' : Nat), s8 = .int .i64 (i : Int) ∧ s3 = .slice A' i c' ∧ Hid (i ≤ k ∧ Ext w wr ∧ wr.ownsRow w.heap.size 3 1 (.slice A' i c') i (flatG (numsF (fun j => (p.a j).id)) i) ∧ T.all (ppB p) i = true)) (fun _ s8 _ => k - (intOf s8).toNat)
  case atStart => exact ⟨0, none, 0, rfl, rfl, (show Hid _ from ⟨Nat.zero_le _, HW0.out, World.ownsRow_nil _ _ _ _, rfl⟩)⟩
  case round =>
    clear HW0
    obtain ⟨i, A', c', rfl, rfl, hS⟩ := hrel
    rename World => wr
    have i0 : (0 : Int) ≤ (i : Int) := by omega
    by_cases hlt : i < k
    · obtain ⟨b, o, Ai, ci, rfl, hb, ⟨q0, q1, q2, q3, q4, q5⟩, hI⟩ := HL.out.at hS.out.2.1 (i := i) (by have := HKK.out; omega)
      have tc : decide (i < k) = true := by simp [hlt]
      have i1 : (i : Int) < (k : Int) := by omega
      have HLT := hid hlt
      have HI := hid hI
      have HOi := hid (HOK.out i hlt)
      clear hlt hI hb
      go_upto_region 5 with fail
      generalize hW1 : World.alloc wr _ = W1
      have HG1 : Hid (Blk W1 wr.heap.size 40 (prC (p.a i) Ai ci)) := hid (by rw [← hW1]; exact Blk.new _ _ _)
      have hS1 : Hid (i ≤ k ∧ Ext w W1 ∧ W1.ownsRow w.heap.size 3 1 (.slice A' i c') i (flatG (numsF (fun j => (p.a j).id)) i) ∧ T.all (ppB p) i = true) := hid (by
        have h := hS.out
        rw [← hW1]; exact ⟨h.1, h.2.1.alloc _, h.2.2.1.alloc _, h.2.2.2⟩)
      have HI1 : Hid (IsL W1 anyQ (p.a i).t Ai) := hid (by rw [← hW1]; exact HI.out.ext ((Mod.refl [] wr).alloc _))
      have HSZ : Hid (w.heap.size ≤ wr.heap.size) := hid hS.out.2.1.size
      clear hW1 hS q0 q1 q2 q3 q4 q5 HI
      generalize wr.heap.size = G at *
      have g0 : ∀ e : Later W1, e.x.cell? ⟨G, 0, none⟩ = some (.int .i64 (p.a i).id) := HG1.out.cellL 0 rfl
      have g1 : ∀ e : Later W1, e.x.cell? ⟨G, 1, none⟩ = some (.int .i64 (p.a i).t.kind) := HG1.out.cellL 1 rfl
      have HRG : Hid (∀ e : Later W1, e.x.rangeAt G 1 [.int .i64 (p.a i).t.kind, .int .u64 ((p.a i).t.n : Int), str (p.a i).t.s, .slice Ai (p.a i).t.k ci, .bool (p.a i).t.op]) := HG1.out.range 1 5 (by rfl)
      have KR := hid (fun e : Later W1 => iRight_any (p.a i).t HOi.out Ai ci e.x (HI1.out.ext e.h))
      obtain ⟨e, he⟩ := Later.self W1
      rw [he]
      clear he
      by_cases hk0 : (p.a i).t.kind = 0 ∨ (p.a i).t.kind = 2
      case neg =>
        have HN := hid (all_no HLT.out (show ppB p i = false by
          unfold ppB valB
          rw [decide_eq_false (fun h => hk0 (.inl h)), decide_eq_false (fun h => hk0 (.inr h))]; rfl))
        have ta : (((p.a i).t.kind) == (0)) = false := by rw [beq_eq_false_iff_ne]; omega
        have tb : (((p.a i).t.kind) = (0)) = False := eq_false (by omega)
        have td : (((p.a i).t.kind) != (0)) = true := by rw [bne_iff_ne]; omega
        have ua : (((p.a i).t.kind) == (2)) = false := by rw [beq_eq_false_iff_ne]; omega
        have ub : (((p.a i).t.kind) = (2)) = False := eq_false (by omega)
        have ud : (((p.a i).t.kind) != (2)) = true := by rw [bne_iff_ne]; omega
        have HFIN : Hid (pairsB p = false) := hid (by unfold pairsB; rw [show T.all (fun i => valB (p.a i).t) p.k = false by rw [HKK.out]; exact HN.out]; rfl)
        clear hk0
        go_wp2_with fail
        go_ret
        exact Ret.mk (by rw [HFIN.out]; rfl) (hS1.out.2.1.trans e.h)
      have HKIND := hid hk0
      have hd1 : (decide ((p.a i).t.kind = 0) || decide ((p.a i).t.kind = 2)) = true := by
        rcases hk0 with h | h <;> simp [h]
      have HD1 := hid hd1
      clear hd1
      cases hr : (p.a i).t.right 8 with
      | false =>
        rw [hr] at KR
        have HN := hid (all_no HLT.out (show ppB p i = false by unfold ppB valB; rw [hr, Bool.and_comm]; rfl))
        have HFIN : Hid (pairsB p = false) := hid (by unfold pairsB; rw [show T.all (fun i => valB (p.a i).t) p.k = false by rw [HKK.out]; exact HN.out]; rfl)
        clear hr
        rcases hk0 with hk0 | hk0
        · have ta : (((p.a i).t.kind) == (0)) = true := by rw [beq_iff_eq]; omega
          have tb : (((p.a i).t.kind) = (0)) = True := eq_true (by omega)
          have td : (((p.a i).t.kind) != (0)) = false := by rw [bne_eq_false_iff_eq]; omega
          clear hk0
          go_wp2_with (first | (refine wpList_mid (by rfl) 38 _ rfl _ 1 rfl _ _ (HRG.out _) Try.underlying38 rfl (by kernel_rfl) ?_) | (go_at_call 85; refine (Ret.later (KR.out _)).mono ?_; rintro x _ ⟨rfl, e, rfl⟩))
          go_ret
          exact Ret.mk (by rw [HFIN.out]; rfl) (hS1.out.2.1.trans e.h)
        · have ta : (((p.a i).t.kind) == (0)) = false := by rw [beq_eq_false_iff_ne]; omega
          have tb : (((p.a i).t.kind) = (0)) = False := eq_false (by omega)
          have td : (((p.a i).t.kind) != (0)) = true := by rw [bne_iff_ne]; omega
          have ua : (((p.a i).t.kind) == (2)) = true := by rw [beq_iff_eq]; omega
          have ub : (((p.a i).t.kind) = (2)) = True := eq_true (by omega)
          have ud : (((p.a i).t.kind) != (2)) = false := by rw [bne_eq_false_iff_eq]; omega
          clear hk0
          go_wp2_with (first | (refine wpList_mid (by rfl) 38 _ rfl _ 1 rfl _ _ (HRG.out _) Try.underlying38 rfl (by kernel_rfl) ?_) | (go_at_call 85; refine (Ret.later (KR.out _)).mono ?_; rintro x _ ⟨rfl, e, rfl⟩))
          go_ret
          exact Ret.mk (by rw [HFIN.out]; rfl) (hS1.out.2.1.trans e.h)
      | true =>
        rw [hr] at KR
        have HY : Hid (ppB p i = true) := hid (by unfold ppB valB; rw [HD1.out, hr]; rfl)
        obtain ⟨ib, hi, hz0, hz1, hz2⟩ := info_parts infoInt
        have HOWN : Hid (∀ e : Later W1, e.x.ownsRow w.heap.size 3 1 (.slice A' i c') i (flatG (numsF (fun j => (p.a j).id)) i)) := hid (fun e => ownsRow_mod hS1.out.2.2.1 e.h (fun _ _ => by simp))
        have HSZ1 : Hid (w.heap.size ≤ W1.heap.size) := hid hS1.out.2.1.size
        clear hr
        rcases hk0 with hk0 | hk0
        · have ta : (((p.a i).t.kind) == (0)) = true := by rw [beq_iff_eq]; omega
          have tb : (((p.a i).t.kind) = (0)) = True := eq_true (by omega)
          have td : (((p.a i).t.kind) != (0)) = false := by rw [bne_eq_false_iff_eq]; omega
          clear hk0
          go_wp2_with (first | (refine wpList_mid (by rfl) 38 _ rfl _ 1 rfl _ _ (HRG.out _) Try.underlying38 rfl (by kernel_rfl) ?_) | (go_at_call 85; refine (Ret.later (KR.out _)).mono ?_; rintro x _ ⟨rfl, e, rfl⟩) | (at_builtin; refine wpList_append_own _ rfl _ _ 23 rfl w.heap.size 3 ib _ 1 8 Try.underlying23 hi hz0 hz1 hz2 rfl (by decide) _ _ _ rfl ((HOWN.out e).alloc _) ⟨e.x.heap.size, 0, none⟩ 1 1 [.int .i64 (p.a i).id] rfl rfl (fun j u hu => by (match j, hu with | 0, hu => (simp at hu; subst hu; rw [addr_add]; exact (Blk.new _ _ _).cell 0))) (by simp [Value.oneCell']) (by have := HLT.out; have := HK.out; simp [maxLen]; omega) (by have := HLT.out; have := HK.out; omega) (by have := HSZ1.out; have := e.h.size; simp; omega) ?_; intro v' w4 hown' hgrow _; obtain ⟨g', c4, rfl, hg', hlt'⟩ := own_form hown'; have hE4 := own_turned ((HOWN.out e).alloc _) ((hS1.out.2.1.trans e.h).alloc _) hgrow (Nat.le_refl _); have HO4 := hid hown'; have HE4 := hid hE4; clear hown' hgrow hE4 hg' hlt'))
          go_roundw
          case rel => exact ⟨i + 1, some ⟨g', 0, none⟩, c4, by go_num, rfl, (show Hid _ from ⟨HLT.out, HE4.out, by simpa [flatG] using HO4.out, by rw [T.all, hS1.out.2.2.2, HY.out]; rfl⟩)⟩
          case measure => have := HLT.out; simp [intOf]; omega
        · have ta : (((p.a i).t.kind) == (0)) = false := by rw [beq_eq_false_iff_ne]; omega
          have tb : (((p.a i).t.kind) = (0)) = False := eq_false (by omega)
          have td : (((p.a i).t.kind) != (0)) = true := by rw [bne_iff_ne]; omega
          have ua : (((p.a i).t.kind) == (2)) = true := by rw [beq_iff_eq]; omega
          have ub : (((p.a i).t.kind) = (2)) = True := eq_true (by omega)
          have ud : (((p.a i).t.kind) != (2)) = false := by rw [bne_eq_false_iff_eq]; omega
          clear hk0
          go_wp2_with (first | (refine wpList_mid (by rfl) 38 _ rfl _ 1 rfl _ _ (HRG.out _) Try.underlying38 rfl (by kernel_rfl) ?_) | (go_at_call 85; refine (Ret.later (KR.out _)).mono ?_; rintro x _ ⟨rfl, e, rfl⟩) | (at_builtin; refine wpList_append_own _ rfl _ _ 23 rfl w.heap.size 3 ib _ 1 8 Try.underlying23 hi hz0 hz1 hz2 rfl (by decide) _ _ _ rfl ((HOWN.out e).alloc _) ⟨e.x.heap.size, 0, none⟩ 1 1 [.int .i64 (p.a i).id] rfl rfl (fun j u hu => by (match j, hu with | 0, hu => (simp at hu; subst hu; rw [addr_add]; exact (Blk.new _ _ _).cell 0))) (by simp [Value.oneCell']) (by have := HLT.out; have := HK.out; simp [maxLen]; omega) (by have := HLT.out; have := HK.out; omega) (by have := HSZ1.out; have := e.h.size; simp; omega) ?_; intro v' w4 hown' hgrow _; obtain ⟨g', c4, rfl, hg', hlt'⟩ := own_form hown'; have hE4 := own_turned ((HOWN.out e).alloc _) ((hS1.out.2.1.trans e.h).alloc _) hgrow (Nat.le_refl _); have HO4 := hid hown'; have HE4 := hid hE4; clear hown' hgrow hE4 hg' hlt'))
          go_roundw
          case rel => exact ⟨i + 1, some ⟨g', 0, none⟩, c4, by go_num, rfl, (show Hid _ from ⟨HLT.out, HE4.out, by simpa [flatG] using HO4.out, by rw [T.all, hS1.out.2.2.2, HY.out]; rfl⟩)⟩
          case measure => have := HLT.out; simp [intOf]; omega
    · obtain rfl : i = k := by have := hS.out.1; omega
      have tc : decide (i < i) = false := by simp
      have KU := hid (fun W (hW : Ext wr W) => unlike_any A' (fun j => (p.a j).id) i c' (by have := HK.out; omega) (own_cap hS.out.2.2.1) W ((own_NsL hS.out.2.2.1).ext hW))
      have HFIN : Hid (pairsB p = unlikeB (fun j => (p.a j).id) i) := hid (by unfold pairsB; rw [HKK.out, show T.all (fun i => valB (p.a i).t) i = true from hS.out.2.2.2]; rfl)
      have HE1 := hid hS.out.2.1
      clear hS
      generalize unlikeB (fun j => (p.a j).id) i = B at *
      go_wp2_with (go_at_call 120; refine (KU.out _ (Mod.refl _ _)).mono ?_; rintro e' w' ⟨rfl, hb'⟩)
      go_ret
      exact Ret.mk (by rw [HFIN.out]; rfl) (HE1.out.trans hb')
end Go.Proofs.Ytogjghmoankleaa


namespace Go.Proofs.Ytogjghmoankleaa
open Go.RowKit
set_option linter.unusedVariables false
set_option linter.unusedSimpArgs false

abbrev offA (A : Option Addr) : Nat → Prop := fun b => ∀ g, A = some g → b ≠ g.block
def obs : Option Addr → List Nat
  | some g => [g.block]
  | none => []
theorem offA_obs {A : Option Addr} {b : Nat} (h : offA A b) : b ∉ obs A := by
  cases A with
  | none => simp [obs]
  | some g => have := h g rfl; simp [obs, this]
structure Rw (W : World) (Q : Nat → Prop) (base : Nat) (A : Option Addr) (c n : Nat) (ch : Nat → T) (ac : Nat → Option Addr × Nat) : Prop where
  own : W.ownsRow base 38 5 (.slice A n c) n (flatC ch ac n)
  kid : ∀ j, j < n → IsL W (fun b => Q b ∧ offA A b) (ch j) (ac j).1
section
variable {W W' : World} {Q : Nat → Prop} {base c n : Nat} {A : Option Addr} {ch : Nat → T} {ac : Nat → Option Addr × Nat}
theorem Rw.nil : Rw W Q base none 0 0 ch ac := ⟨World.ownsRow_nil _ _ _ _, fun j hj => by omega⟩
theorem Rw.mod {S : List Nat} (h : Rw W Q base A c n ch ac) (hm : Mod S W W') (hs : ∀ k, k < W.heap.size → k ∉ S) : Rw W' Q base A c n ch ac :=
  ⟨ownsRow_mod h.own hm (fun k hk => hs k ((h.own.lt k hk).2)), fun j hj => IsL.mod hm (fun k _ hk => hs k hk) _ (h.kid j hj)⟩
theorem Rw.ext (h : Rw W Q base A c n ch ac) (hm : Ext W W') : Rw W' Q base A c n ch ac := h.mod hm (by simp)
/-- Where other blocks turn: its own block, and what hangs on its items, in Q. -/
theorem Rw.isL (h : Rw W Q base A c n ch ac) (hq : ∀ b, base ≤ b → Q b) : IsL W Q (T.mk 4 0 [] false n ch) A := fun h0 => by
  obtain ⟨m, rfl⟩ : ∃ m, n = m + 1 := ⟨n - 1, by omega⟩
  obtain ⟨g, c', hv, hb, hlt⟩ := own_form h.own
  simp only [Value.slice.injEq] at hv
  obtain ⟨rfl, _, rfl⟩ := hv
  exact own_IsL hlt (hq _ hb) h.own (fun i hi => IsL.weak (fun _ _ h => h.1) _ (h.kid i hi)) (by omega)
theorem obs_own : (Value.slice A n c).ownBlock = A.map (·.block) := by cases A <;> rfl
theorem grown_obs (hgr : W.grownBy W' (Value.slice A n c).ownBlock) : Mod (obs A) W W' := by
  refine (Mod.refl _ _).grown hgr (fun k hk => .inl ?_)
  cases A with
  | none => cases hk
  | some g =>
    have : g.block = k := by simpa [Value.ownBlock] using hk
    simp [obs, this]
theorem Rw.append (h : Rw W Q base A c n ch ac) {t : T} {At : Option Addr} {ct : Nat} (hI : IsL W (fun b => Q b ∧ offA A b) t At) (ht : ch n = t) {g cap : Nat}
    (hown : W'.ownsRow base 38 5 (.slice (some ⟨g, 0, none⟩) (n + 1) cap) (n + 1) (flatC ch ac n ++ [.int .i64 t.kind, .int .u64 (t.n : Int), str t.s, .slice At t.k ct, .bool t.op]))
    (hgr : W.grownBy W' (Value.slice A n c).ownBlock) (hat : (Value.slice A n c).ownBlock = some g ∨ g = W.heap.size) : ∃ ac', Rw W' Q base (some ⟨g, 0, none⟩) cap (n + 1) ch ac' := by
  subst ht
  have hm : Mod (obs A) W W' := grown_obs hgr
  have key : ∀ {x : T} {Ax : Option Addr}, IsL W (fun b => Q b ∧ offA A b) x Ax → IsL W' (fun b => Q b ∧ offA (some ⟨g, 0, none⟩) b) x Ax := by
    intro x Ax hx
    have h1 := IsL.weak (R := fun b => (Q b ∧ offA A b) ∧ b ≠ g) (fun b hb hq => ⟨hq, by
      rcases hat with hat | hat
      · cases A with
        | none => cases hat
        | some a =>
          have : a.block = g := by simpa [Value.ownBlock] using hat
          rw [← this]; exact hq.2 a rfl
      · omega⟩) _ hx
    have h2 := IsL.mod hm (fun k hk _ => offA_obs hk.1.2) _ h1
    exact IsL.weak (fun b _ hq => ⟨hq.1.1, fun g' hg' => by cases hg'; exact hq.2⟩) _ h2
  refine ⟨fun j => if j = n then (At, ct) else ac j, ?_, fun j hj => ?_⟩
  · rw [flatC, flatC_congr (ch' := ch) (ac' := ac) (fun j hj => ⟨rfl, by rw [if_neg (by omega)]⟩)]
    simpa using hown
  · by_cases e : j = n
    · subst e
      simpa using key hI
    · simpa [e] using key (h.kid j (by omega))
theorem Rw.weak {R : Nat → Prop} (h : Rw W Q base A c n ch ac) (hq : ∀ k, k < W.heap.size → Q k → R k) : Rw W R base A c n ch ac :=
  ⟨h.own, fun j hj => IsL.weak (fun b hb hh => ⟨hq b hb hh.1, hh.2⟩) _ (h.kid j hj)⟩
theorem Rw.modQ {S : List Nat} (h : Rw W Q base A c n ch ac) (hm : Mod S W W') (ho : ∀ g, A = some g → g.block ∉ S) (hs : ∀ k, Q k → k < W.heap.size → k ∉ S) : Rw W' Q base A c n ch ac :=
  ⟨ownsRow_mod h.own hm (fun k hk => by
    cases A with
    | none => cases hk
    | some g =>
      have : g.block = k := by simpa [Value.ownBlock] using hk
      rw [← this]; exact ho g rfl), fun j hj => IsL.mod hm (fun k hk hlt => hs k hk.1 hlt) _ (h.kid j hj)⟩
/-- Two rows: the first grows. -/
theorem two_first {A1 : Option Addr} {n1 c1 g1 : Nat} (h : Rw W (offA A1) base A c n ch ac) (hap : ∀ g, A = some g → offA A1 g.block)
    (hgr : W.grownBy W' (Value.slice A1 n1 c1).ownBlock) (hat : (Value.slice A1 n1 c1).ownBlock = some g1 ∨ g1 = W.heap.size) :
    Rw W' (offA (some ⟨g1, 0, none⟩)) base A c n ch ac ∧ ∀ g, A = some g → offA (some ⟨g1, 0, none⟩) g.block := by
  have key : ∀ b, b < W.heap.size → offA A1 b → offA A1 b ∧ b ≠ g1 := fun b hb hq => ⟨hq, by
    rcases hat with hat | hat
    · cases A1 with
      | none => cases hat
      | some a =>
        have : a.block = g1 := by simpa [Value.ownBlock] using hat
        rw [← this]; exact hq a rfl
    · omega⟩
  have hlt : ∀ g, A = some g → g.block < W.heap.size := fun g hg => (h.own.lt g.block (by subst hg; rfl)).2
  refine ⟨?_, fun g hg g' hg' => by cases hg'; exact (key g.block (hlt g hg) (hap g hg)).2⟩
  refine Rw.weak ((h.weak key).modQ (grown_obs hgr) (fun g hg => offA_obs (hap g hg)) (fun k hk _ => offA_obs hk.1)) fun k _ hk g' hg' => ?_
  cases hg'; exact hk.2
/-- Two rows: the second grows. -/
theorem two_second {A1 : Option Addr} {n1 c1 g2 : Nat} {xs : List Value} (h1 : W.ownsRow base 38 5 (.slice A1 n1 c1) n1 xs) (hap : ∀ g, A = some g → offA A1 g.block)
    (hgr : W.grownBy W' (Value.slice A n c).ownBlock) (hat : (Value.slice A n c).ownBlock = some g2 ∨ g2 = W.heap.size) :
    W'.ownsRow base 38 5 (.slice A1 n1 c1) n1 xs ∧ ∀ g, (some ⟨g2, 0, none⟩ : Option Addr) = some g → offA A1 g.block := by
  constructor
  · refine ownsRow_mod h1 (grown_obs hgr) (fun k hk => ?_)
    cases A1 with
    | none => cases hk
    | some a =>
      have e : a.block = k := by simpa [Value.ownBlock] using hk
      rw [← e]
      cases A with
      | none => simp [obs]
      | some g =>
        have := hap g rfl a rfl
        simp [obs]; omega
  · intro g hg a ha
    cases hg
    have hlt := (h1.lt a.block (by subst ha; rfl)).2
    rcases hat with hat | hat
    · cases A with
      | none => cases hat
      | some g =>
        have e : g.block = g2 := by simpa [Value.ownBlock] using hat
        have := hap g rfl a ha
        show g2 ≠ a.block
        omega
    · show g2 ≠ a.block
      omega
end
end Go.Proofs.Ytogjghmoankleaa


namespace Go.Proofs.Ytogjghmoankleaa
open Go.RowKit
set_option linter.unusedVariables false
set_option linter.unusedSimpArgs false

/-- Elements: their cells, and what hangs on them. -/
structure Hng where
  X : Type
  z : Nat
  hz : 0 < z
  cells : X → Option Addr × Nat → List Value
  len : ∀ x a, (cells x a).length = z
  hang : World → (Nat → Prop) → X → Option Addr × Nat → Prop
  mod : ∀ {S : List Nat} {W W' : World} {Q : Nat → Prop} {x : X} {a : Option Addr × Nat}, Mod S W W' → (∀ k, Q k → k < W.heap.size → k ∉ S) → hang W Q x a → hang W' Q x a
  weak : ∀ {W : World} {Q R : Nat → Prop} {x : X} {a : Option Addr × Nat}, (∀ k, k < W.heap.size → Q k → R k) → hang W Q x a → hang W R x a
structure RwG (h : Hng) (e : TypeId) (W : World) (Q : Nat → Prop) (base : Nat) (A : Option Addr) (c n : Nat) (f : Nat → h.X) (ac : Nat → Option Addr × Nat) : Prop where
  own : W.ownsRow base e h.z (.slice A n c) n (flatG (fun j => h.cells (f j) (ac j)) n)
  kid : ∀ j, j < n → h.hang W (fun b => Q b ∧ offA A b) (f j) (ac j)
section
variable {h : Hng} {e : TypeId} {W W' : World} {Q : Nat → Prop} {base c n : Nat} {A : Option Addr} {f : Nat → h.X} {ac : Nat → Option Addr × Nat}
theorem RwG.nil : RwG h e W Q base none 0 0 f ac := ⟨World.ownsRow_nil _ _ _ _, fun j hj => by omega⟩
theorem RwG.modQ {S : List Nat} (r : RwG h e W Q base A c n f ac) (hm : Mod S W W') (ho : ∀ g, A = some g → g.block ∉ S) (hs : ∀ k, Q k → k < W.heap.size → k ∉ S) : RwG h e W' Q base A c n f ac :=
  ⟨ownsRow_mod r.own hm (fun k hk => by
    cases A with
    | none => cases hk
    | some g =>
      have : g.block = k := by simpa [Value.ownBlock] using hk
      rw [← this]; exact ho g rfl), fun j hj => h.mod hm (fun k hk hlt => hs k hk.1 hlt) (r.kid j hj)⟩
theorem RwG.ext (r : RwG h e W Q base A c n f ac) (hm : Ext W W') : RwG h e W' Q base A c n f ac := r.modQ hm (by simp) (by simp)
theorem RwG.weak {R : Nat → Prop} (r : RwG h e W Q base A c n f ac) (hq : ∀ k, k < W.heap.size → Q k → R k) : RwG h e W R base A c n f ac :=
  ⟨r.own, fun j hj => h.weak (fun b hb hh => ⟨hq b hb hh.1, hh.2⟩) (r.kid j hj)⟩
theorem RwG.off (r : RwG h e W Q base A c n f ac) : ∀ g, A = some g → base ≤ g.block ∧ g.block < W.heap.size := fun g hg => r.own.lt g.block (by subst hg; rfl)
theorem RwG.cap (r : RwG h e W Q base A c n f ac) : n ≤ c := own_cap r.own
theorem RwG.append (r : RwG h e W Q base A c n f ac) {t : h.X} {at_ : Option Addr × Nat} (hI : h.hang W (fun b => Q b ∧ offA A b) t at_) (ht : f n = t) {g cap : Nat}
    (hown : W'.ownsRow base e h.z (.slice (some ⟨g, 0, none⟩) (n + 1) cap) (n + 1) (flatG (fun j => h.cells (f j) (ac j)) n ++ h.cells t at_))
    (hgr : W.grownBy W' (Value.slice A n c).ownBlock) (hat : (Value.slice A n c).ownBlock = some g ∨ g = W.heap.size) : ∃ ac', RwG h e W' Q base (some ⟨g, 0, none⟩) cap (n + 1) f ac' := by
  subst ht
  have hm : Mod (obs A) W W' := grown_obs hgr
  have key : ∀ {x : h.X} {a : Option Addr × Nat}, h.hang W (fun b => Q b ∧ offA A b) x a → h.hang W' (fun b => Q b ∧ offA (some ⟨g, 0, none⟩) b) x a := by
    intro x a hx
    have h1 := h.weak (R := fun b => (Q b ∧ offA A b) ∧ b ≠ g) (fun b hb hq => ⟨hq, by
      rcases hat with hat | hat
      · cases A with
        | none => cases hat
        | some a =>
          have : a.block = g := by simpa [Value.ownBlock] using hat
          rw [← this]; exact hq.2 a rfl
      · omega⟩) hx
    have h2 := h.mod hm (fun k hk _ => offA_obs hk.1.2) h1
    exact h.weak (fun b _ hq => ⟨hq.1.1, fun g' hg' => by cases hg'; exact hq.2⟩) h2
  refine ⟨fun j => if j = n then at_ else ac j, ?_, fun j hj => ?_⟩
  · rw [flatG, flatG_congr (g := fun j => h.cells (f j) (ac j)) (fun j hj => by show h.cells (f j) (if j = n then at_ else ac j) = _; rw [if_neg (by omega)])]
    simpa using hown
  · by_cases e : j = n
    · subst e
      simpa using key hI
    · simpa [e] using key (r.kid j (by omega))
/-- Its cells. -/
theorem RwG.rows (r : RwG h e W Q base A c n f ac) (h0 : 0 < n) : ∃ g, A = some ⟨g, 0, none⟩ ∧ base ≤ g ∧ g < W.heap.size ∧ ∀ i, i < n → ∀ k u, (h.cells (f i) (ac i))[k]? = some u → W.cell? ⟨g, 0 + i * h.z + k, none⟩ = some u := by
  obtain ⟨m, rfl⟩ : ∃ m, n = m + 1 := ⟨n - 1, by omega⟩
  obtain ⟨g, c', hv, hb, hlt⟩ := own_form r.own
  simp only [Value.slice.injEq] at hv
  obtain ⟨rfl, _, rfl⟩ := hv
  refine ⟨g, rfl, hb, hlt, fun i hi k u hk => ?_⟩
  have hkz : k < h.z := by have := (List.getElem?_eq_some_iff.1 hk).1; rw [h.len] at this; exact this
  have := flatG_own (fun j => h.len (f j) (ac j)) r.own hi hkz hk
  rw [Nat.zero_add]; exact this
end
end Go.Proofs.Ytogjghmoankleaa


namespace Go.Proofs.Ytogjghmoankleaa
open Go.RowKit
set_option linter.unusedVariables false
set_option linter.unusedSimpArgs false

def pairH : Hng := { X := PR, z := 6, hz := by decide, cells := fun p a => [.int .i64 p.id, .int .i64 p.t.kind, .int .u64 (p.t.n : Int), str p.t.s, .slice a.1 p.t.k a.2, .bool p.t.op], len := fun _ _ => rfl, hang := fun W Q p a => IsL W Q p.t a.1, mod := fun hm hs h => IsL.mod hm hs _ h, weak := fun hq h => IsL.weak hq _ h }
def resH : Hng := { X := PL, z := 1, hz := by decide, cells := fun p a => [.slice a.1 p.k a.2], len := fun _ _ => rfl, hang := fun W Q p a => PsL W Q a.1 p ∧ p.k ≤ a.2, mod := fun hm hs h => ⟨h.1.mod hm hs, h.2⟩, weak := fun hq h => ⟨h.1.weak hq, h.2⟩ }
def intH : Hng := { X := Int, z := 1, hz := by decide, cells := fun n _ => [.int .i64 n], len := fun _ _ => rfl, hang := fun _ _ _ _ => True, mod := fun _ _ h => h, weak := fun _ h => h }
def itemH : Hng := { X := T, z := 5, hz := by decide, cells := fun t a => [.int .i64 t.kind, .int .u64 (t.n : Int), str t.s, .slice a.1 t.k a.2, .bool t.op], len := fun _ _ => rfl, hang := fun W Q t a => IsL W Q t a.1, mod := fun hm hs h => IsL.mod hm hs _ h, weak := fun hq h => IsL.weak hq _ h }
/-- No cell of the block is a string's. -/
def softB (w : World) (b : Nat) : Prop := ∀ j, w.frozen? ⟨b, j, none⟩ = false
theorem softB.mod {S : List Nat} {w w' : World} {b : Nat} (h : softB w b) (hm : Mod S w w') (hb : b < w.heap.size) (hs : b ∉ S) : softB w' b := fun j => (hm.frozen hb hs).trans (h j)
/-- Where a row lies, its cells are no string's. -/
def softA (w : World) (Q : Nat → Prop) (A : Option Addr) : Prop := ∀ g, A = some g → Q g.block ∧ g.block < w.heap.size ∧ softB w g.block
theorem softA.mod {S : List Nat} {w w' : World} {Q : Nat → Prop} {A : Option Addr} (h : softA w Q A) (hm : Mod S w w') (hs : ∀ k, Q k → k < w.heap.size → k ∉ S) : softA w' Q A := fun g hg => by
  obtain ⟨h1, h2, h3⟩ := h g hg
  exact ⟨h1, Nat.lt_of_lt_of_le h2 hm.size, h3.mod hm h2 (hs _ h1 h2)⟩
theorem softA.weak {w : World} {Q R : Nat → Prop} {A : Option Addr} (h : softA w Q A) (hq : ∀ k, k < w.heap.size → Q k → R k) : softA w R A := fun g hg => by
  obtain ⟨h1, h2, h3⟩ := h g hg
  exact ⟨hq _ h2 h1, h2, h3⟩
theorem own_soft {w : World} {base n c size : Nat} {e : TypeId} {A : Option Addr} {xs : List Value} (h : w.ownsRow base e size (.slice A n c) n xs) : softA w (fun b => base ≤ b) A := fun g hg => by
  subst hg
  have hlt := h.lt g.block rfl
  refine ⟨hlt.1, hlt.2, fun j => ?_⟩
  rcases h.2 with ⟨h1, _⟩ | ⟨q, cap, cur, hv, hbg, hq, _⟩
  · cases h1
  · simp only [Value.slice.injEq, Option.some.injEq] at hv
    obtain ⟨rfl, _, _⟩ := hv
    exact Blk.frozen (w := w) (g := q) (t := e) (cs := cur) hq j
def resS : Hng := { X := PL, z := 1, hz := by decide, cells := fun p a => [.slice a.1 p.k a.2], len := fun _ _ => rfl, hang := fun W Q p a => (PsL W Q a.1 p ∧ p.k ≤ a.2) ∧ softA W Q a.1, mod := fun hm hs h => ⟨⟨h.1.1.mod hm hs, h.1.2⟩, h.2.mod hm hs⟩, weak := fun hq h => ⟨⟨h.1.1.weak hq, h.1.2⟩, h.2.weak hq⟩ }
/-- A row of rows of pairs that may be written. -/
def RsS (w : World) (Q : Nat → Prop) (A : Option Addr) (k : Nat) (f : Nat → PL) : Prop := 0 < k → ∃ b o, A = some ⟨b, o, none⟩ ∧ b < w.heap.size ∧ Q b ∧ ∀ i, i < k → ∃ Ai ci, w.cell? ⟨b, o + i, none⟩ = some (.slice Ai (f i).k ci) ∧ (f i).k ≤ ci ∧ PsL w Q Ai (f i) ∧ softA w Q Ai ∧ ∀ g, Ai = some g → g.block ≠ b
theorem RsS.rs {w : World} {Q : Nat → Prop} {A : Option Addr} {k : Nat} {f : Nat → PL} (h : RsS w Q A k f) : RsL w Q A k f := fun h0 => by
  obtain ⟨b, o, hA, hb, hq, hc⟩ := h h0
  refine ⟨b, o, hA, hb, hq, fun i hi => ?_⟩
  obtain ⟨Ai, ci, h1, h2, h3, _⟩ := hc i hi
  exact ⟨Ai, ci, h1, h2, h3⟩
theorem RsS.mod {S : List Nat} {Q : Nat → Prop} {w w' : World} {A : Option Addr} {k : Nat} {f : Nat → PL} (h : RsS w Q A k f) (hm : Mod S w w') (hs : ∀ k, Q k → k < w.heap.size → k ∉ S) : RsS w' Q A k f := fun h0 => by
  obtain ⟨b, o, hA, hb, hq, hc⟩ := h h0
  refine ⟨b, o, hA, Nat.lt_of_lt_of_le hb hm.size, hq, fun i hi => ?_⟩
  obtain ⟨Ai, ci, h1, h2, h3, h4, h5⟩ := hc i hi
  exact ⟨Ai, ci, (hm.cell hb (hs b hq hb)).trans h1, h2, h3.mod hm hs, h4.mod hm hs, h5⟩
theorem RsS.weak {Q R : Nat → Prop} {w : World} {A : Option Addr} {k : Nat} {f : Nat → PL} (h : RsS w Q A k f) (hq : ∀ k, k < w.heap.size → Q k → R k) : RsS w R A k f := fun h0 => by
  obtain ⟨b, o, hA, hb, hqb, hc⟩ := h h0
  refine ⟨b, o, hA, hb, hq b hb hqb, fun i hi => ?_⟩
  obtain ⟨Ai, ci, h1, h2, h3, h4, h5⟩ := hc i hi
  exact ⟨Ai, ci, h1, h2, h3.weak hq, h4.weak hq, h5⟩
section
variable {W : World} {Q : Nat → Prop} {base c n : Nat} {A : Option Addr} {ac : Nat → Option Addr × Nat}
theorem RwG.ps {f : Nat → PR} (r : RwG pairH 40 W Q base A c n f ac) (hq : ∀ b, base ≤ b → Q b) : PsL W Q A ⟨n, f⟩ := fun h0 => by
  obtain ⟨g, rfl, hb, hlt, hc⟩ := r.rows h0
  refine ⟨g, 0, rfl, hlt, hq g hb, fun i hi => ⟨(ac i).1, (ac i).2, ?_, IsL.weak (fun _ _ h => h.1) _ (r.kid i hi)⟩⟩
  exact ⟨hc i hi 0 _ rfl, hc i hi 1 _ rfl, hc i hi 2 _ rfl, hc i hi 3 _ rfl, hc i hi 4 _ rfl, hc i hi 5 _ rfl⟩
theorem RwG.rs {f : Nat → PL} (r : RwG resH 22 W Q base A c n f ac) (hq : ∀ b, base ≤ b → Q b) : RsL W Q A n f := fun h0 => by
  obtain ⟨g, rfl, hb, hlt, hc⟩ := r.rows h0
  refine ⟨g, 0, rfl, hlt, hq g hb, fun i hi => ⟨(ac i).1, (ac i).2, ?_, (r.kid i hi).2, (r.kid i hi).1.weak (fun _ _ h => h.1)⟩⟩
  have := hc i hi 0 _ rfl
  rw [show resH.z = 1 from rfl, Nat.mul_one, Nat.add_zero] at this
  exact this
theorem RwG.rss {f : Nat → PL} (r : RwG resS 22 W Q base A c n f ac) (hq : ∀ b, base ≤ b → Q b) : RsS W Q A n f := fun h0 => by
  obtain ⟨g, rfl, hb, hlt, hc⟩ := r.rows h0
  refine ⟨g, 0, rfl, hlt, hq g hb, fun i hi => ⟨(ac i).1, (ac i).2, ?_, (r.kid i hi).1.2, (r.kid i hi).1.1.weak (fun _ _ h => h.1), (r.kid i hi).2.weak (fun _ _ h => h.1), fun g' hg' => ((r.kid i hi).2 g' hg').1.2 _ rfl⟩⟩
  have := hc i hi 0 _ rfl
  rw [show resS.z = 1 from rfl, Nat.mul_one, Nat.add_zero] at this
  exact this
theorem RwG.ns {f : Nat → Int} (r : RwG intH 3 W Q base A c n f ac) : NsL W A n f ∧ ∀ b o, A = some ⟨b, o, none⟩ → base ≤ b := by
  refine ⟨fun h0 => ?_, fun b o h => (r.off _ h).1⟩
  obtain ⟨g, rfl, hb, hlt, hc⟩ := r.rows h0
  refine ⟨g, 0, rfl, hlt, fun i hi => ?_⟩
  have := hc i hi 0 _ rfl
  rw [show intH.z = 1 from rfl, Nat.mul_one, Nat.add_zero] at this
  exact this
theorem RwG.ts {f : Nat → T} (r : RwG itemH 38 W Q base A c n f ac) (hq : ∀ b, base ≤ b → Q b) (kind : Int) (m : Nat) (s : List UInt8) (op : Bool) : IsL W Q (T.mk kind m s op n f) A := fun h0 => by
  obtain ⟨g, rfl, hb, hlt, hc⟩ := r.rows h0
  refine ⟨g, 0, rfl, hlt, hq g hb, fun i hi => ⟨(ac i).1, (ac i).2, ?_, IsL.weak (fun _ _ h => h.1) _ (r.kid i hi)⟩⟩
  exact ⟨hc i hi 0 _ rfl, hc i hi 1 _ rfl, hc i hi 2 _ rfl, hc i hi 3 _ rfl, hc i hi 4 _ rfl⟩
end
end Go.Proofs.Ytogjghmoankleaa


namespace Go.Proofs.Ytogjghmoankleaa
open Go.RowKit
set_option linter.unusedVariables false
set_option linter.unusedSimpArgs false

theorem T.k_size {t : T} (h : t.ok) : t.k ≤ t.size := by
  cases t with
  | nil => cases h
  | mk kind n s op k ch =>
    unfold T.ok at h
    show k ≤ 1 + s.length + T.sum (fun i => (ch i).size) k
    have : ∀ j, j ≤ k → j ≤ T.sum (fun i => (ch i).size) j := by
      intro j
      induction j with
      | zero => intro _; exact Nat.zero_le _
      | succ j ih =>
        intro hj
        have h1 := ih (by omega)
        have h2 : 1 ≤ (ch j).size := by
          have := h.2.2.2.2 j (by omega)
          cases hc : ch j with
          | nil => rw [hc] at this; cases this
          | mk a b d e f g => show 1 ≤ 1 + d.length + _; omega
        rw [T.sum]; omega
    have := this k (Nat.le_refl _)
    omega
set_option maxRecDepth 20000 in
set_option maxHeartbeats 8000000 in
theorem copied_any (t : T) : t.ok → t.size ≤ 100000 → ∀ A c w, IsL w anyQ t A → Calls Try.prog 78 #[itemV t A c] w (fun e w' => ∃ A' c', e = .returned (itemV t A' c') ∧ Ext w w' ∧ IsL w' (fun b => w.heap.size ≤ b) t A') := by
  induction t with
  | nil => intro h; cases h
  | mk kind n s op k ch ih =>
    intro hok hsz A c w h
    have HK : Hid (k ≤ 100000) := hid (by have := T.k_size hok; have h2 : (T.mk kind n s op k ch).k = k := rfl; omega)
    have HOK := hid (fun i (hi : i < k) => (by unfold T.ok at hok; exact hok.2.2.2.2 i hi : (ch i).ok))
    have HSZ := hid (fun i (hi : i < k) => (Nat.le_trans (T.size_ch hi) hsz : (ch i).size ≤ 100000))
    have HI := hid ih
    have HE := hid (((Mod.refl [] w).alloc (.cells (itemC (T.mk kind n s op k ch) A c) 38)).alloc (.cells #[.int .i64 0, .int .u64 0, .string ⟨#[]⟩, .slice none 0 0, .bool false] 38))
    have HB0 := hid ((Blk.new w 38 (itemC (T.mk kind n s op k ch) A c)).alloc (.cells #[.int .i64 0, .int .u64 0, .string ⟨#[]⟩, .slice none 0 0, .bool false] 38))
    have HB1 : Hid (Blk ((w.alloc (.cells (itemC (T.mk kind n s op k ch) A c) 38)).alloc (.cells #[.int .i64 0, .int .u64 0, .string ⟨#[]⟩, .slice none 0 0, .bool false] 38)) (w.heap.size + 1) 38 (itemC (numT 0) none 0)) := Blk.newL _ _ _ (by simp)
    have HL := hid (h.ext HE.out)
    have k0 : (k : Int) ≤ 100000 := by have := HK.out; omega
    clear hok hsz h ih
    go_enter Try.func78, Try.ntmps78
    go_upto_region 1 with fail
    show Code.wp _ _ _ _ ((w.alloc (.cells (itemC (T.mk kind n s op k ch) A c) 38)).alloc (.cells #[.int .i64 0, .int .u64 0, .string ⟨#[]⟩, .slice none 0 0, .bool false] 38))
    have HVS : Hid (w.heap.size + 2 = ((w.alloc (.cells (itemC (T.mk kind n s op k ch) A c) 38)).alloc (.cells #[.int .i64 0, .int .u64 0, .string ⟨#[]⟩, .slice none 0 0, .bool false] 38)).heap.size) := hid (by simp)
    generalize (w.alloc (.cells (itemC (T.mk kind n s op k ch) A c) 38)).alloc (.cells #[.int .i64 0, .int .u64 0, .string ⟨#[]⟩, .slice none 0 0, .bool false] 38) = V at *
    have b3 : V.cell? ⟨w.heap.size, 3, none⟩ = some (.slice A k c) := HB0.out.cell 3
    go_upto_region 3 with fail
    clear b3
    go_loopw [3, 9] (fun s3 s9 wr => ∃ (i : Nat) (A' : Option Addr) (c' : Nat) (ac : Nat → Option Addr × Nat), s9 = .int .i64 (i : Int) ∧ s3 = .slice A' i c' ∧ Hid (i ≤ k ∧ Ext V wr ∧ RwG itemH 38 wr (fun b => V.heap.size ≤ b) V.heap.size A' c' i ch ac)) (fun _ s9 _ => k - (intOf s9).toNat)
    case atStart => exact ⟨0, none, 0, fun _ => (none, 0), rfl, rfl, (show Hid _ from ⟨Nat.zero_le _, Mod.refl _ _, RwG.nil⟩)⟩
    case round =>
      obtain ⟨i, A', c', ac, rfl, rfl, hS⟩ := hrel
      rename World => wr
      have i0 : (0 : Int) ≤ (i : Int) := by omega
      by_cases hlt : i < k
      · obtain ⟨b, o, Ai, ci, rfl, hb, ⟨q0, q1, q2, q3, q4⟩, hI⟩ := IsL.cells (W := wr) (i := i) HL.out hS.out.2.1 hlt
        have tc : decide (i < k) = true := by simp [hlt]
        have i1 : (i : Int) < (k : Int) := by omega
        have HLT := hid hlt
        go_upto_region 5 with fail
        generalize hW1 : World.alloc wr _ = W1
        have HG1 : Hid (Blk W1 wr.heap.size 38 (itemC (ch i) Ai ci)) := hid (by rw [← hW1]; exact Blk.new _ _ _)
        have HX1 : Hid (Ext wr W1) := hid (by rw [← hW1]; exact (Mod.refl [] _).alloc _)
        have HR1 := hid (hS.out.2.2.ext HX1.out)
        have HV1 := hid (hS.out.2.1.trans HX1.out)
        have HSZ1 : Hid (V.heap.size ≤ W1.heap.size) := hid HV1.out.size
        have KC := hid (HI.out i (HOK.out i hlt) (HSZ.out i hlt) Ai ci W1 (hI.ext HX1.out))
        clear hW1 q0 q1 q2 q3 q4 hS hI hb hlt HX1
        obtain ⟨ib, hi, hz0, hz1, hz2⟩ := info_parts infoItem
        go_wp2_with (first | (refine wpList_row (by rfl) 38 _ rfl _ rfl HG1.out Try.underlying38 rfl (by kernel_rfl) ?_) | (go_at_call 78; refine KC.out.mono ?_; rintro x w5 ⟨A5, c5, rfl, hb5, hi5⟩; have H5 := hid hb5; have HI5 := hid hi5; clear hb5 hi5) | (at_builtin; refine wpList_append_lies _ rfl _ _ 36 rfl V.heap.size 38 ib _ 5 64 Try.underlying36 hi hz0 hz1 hz2 rfl (by decide) _ i _ rfl ((HR1.out.ext H5.out).own.alloc _) ⟨w5.heap.size, 0, none⟩ 1 1 [.int .i64 (ch i).kind, .int .u64 ((ch i).n : Int), str (ch i).s, .slice A5 (ch i).k c5, .bool (ch i).op] rfl rfl (fun j u hu => by rw [addr_add, Nat.zero_add, (Blk.new _ _ _).cell j]; simpa using hu) (fun u hu => by simp only [List.mem_cons, List.not_mem_nil, or_false] at hu; rcases hu with h | h | h | h | h <;> (subst h; rfl)) (by decide) (by have := HLT.out; have := HK.out; unfold maxLen; omega) (by have := HLT.out; have := HK.out; omega) (by have := HSZ1.out; have := H5.out.size; simp; omega) _ rfl ?_; intro g2 d2 w6 hown' hgr' hat' hlt'; have HO2 := hid hown'; have HG2 := hid hgr'; have HA2 := hid hat'; have HL2 := hid hlt'; clear hown' hgr' hat' hlt'))
        obtain ⟨ac', hR6⟩ := (HR1.out.ext (H5.out.alloc _)).append (t := ch i) (at_ := (A5, c5)) (IsL.weak (fun b _ hb => ⟨by have := HSZ1.out; show V.heap.size ≤ b; omega, fun g hg => by have := (HR1.out.off g hg).2; omega⟩) _ (HI5.out.ext ((Mod.refl [] w5).alloc _))) rfl HO2.out HG2.out HA2.out
        have hM6 := grown_obs HG2.out
        have hV6 : Ext V w6 := ((Mod.of_ext (S := obs A') (HV1.out.trans (H5.out.alloc _))).trans hM6).new (fun k hk => .inr (by
          cases A' with
          | none => cases hk
          | some g => have := (HR1.out.off g rfl).1; simp [obs] at hk; omega))
        go_roundw
        case rel => exact ⟨i + 1, some ⟨g2, 0, none⟩, d2, ac', by go_num, rfl, (show Hid _ from ⟨HLT.out, hV6, hR6⟩)⟩
        case measure => have := HLT.out; simp [intOf]; omega
      · obtain rfl : i = k := by have := hS.out.1; omega
        have tc : decide (i < i) = false := by simp
        have HBA := hid (HB0.out.ext hS.out.2.1)
        have HBB := hid (HB1.out.ext hS.out.2.1)
        have HVR := hid hS.out.2.1
        have HRR := hid hS.out.2.2
        clear hS
        have c3 : wr.cell? ⟨w.heap.size, 3, none⟩ = some (.slice A i c) := HBA.out.cell 3
        have f3 := HBA.out.frozen 3
        go_upto_region 8 with fail
        generalize hZ : World.setCell wr _ _ = Z
        have HBZ : Hid (Blk Z w.heap.size 38 (itemC (T.mk kind n s op i ch) A' c')) := hid (by rw [← hZ]; exact HBA.out.set_ 3 (.slice A' i c'))
        have HBY : Hid (Blk Z (w.heap.size + 1) 38 (itemC (numT 0) none 0)) := hid (by rw [← hZ]; exact HBB.out.far (by show w.heap.size + 1 ≠ w.heap.size; omega) _)
        have HMZ : Hid (Mod [w.heap.size] wr Z) := hid (by rw [← hZ]; exact (Mod.refl _ _).setCell (.inl (by simp)) _)
        clear hZ c3 f3
        go_wp2_with (first | (refine wpList_row (by rfl) 38 _ rfl _ rfl HBZ.out Try.underlying38 rfl (by kernel_rfl) ?_) | (refine wpList_store_mid rfl 38 _ _ rfl (w.heap.size + 1) 0 (itemC (T.mk kind n s op i ch) A' c') (by rfl) (by rfl) (HBY.out.there (Nat.le_refl 5)) (by kernel_rfl) (by simp [Value.oneCell']) ?_))
        have hY := setCells_all (ds := itemC (T.mk kind n s op i ch) A' c') HBY.out rfl
        have hM2 := setCells_mod (b := w.heap.size + 1) (itemC (T.mk kind n s op i ch) A' c').toList 0 (Mod.refl [w.heap.size + 1] Z) (.inl (by simp))
        generalize hZ2 : World.setCells Z _ 0 _ = Z2 at *
        refine bodyPost_ret (results_cell rfl _ (by rfl) hY Try.underlying38 rfl (by kernel_rfl)) rfl ⟨A', c', rfl, ?_, ?_⟩
        · have h1 : Mod [w.heap.size, w.heap.size + 1] w Z2 := ((Mod.of_ext (HE.out.trans HVR.out)).trans (HMZ.out.mono (by simp))).trans (hM2.mono (by simp))
          exact h1.new (fun k hk => .inr (by simp at hk; omega))
        · refine IsL.weak (fun b _ hb => by have := HVS.out; have hb : V.heap.size ≤ b := hb; show w.heap.size ≤ b; omega) _ (IsL.mod (Q := fun b => V.heap.size ≤ b) hM2 (fun k hk _ => by have := HVS.out; simp; omega) _ (IsL.mod HMZ.out (fun k hk _ => by have := HVS.out; simp; omega) _ (HRR.out.ts (fun b hb => hb) kind n s op)))
end Go.Proofs.Ytogjghmoankleaa


namespace Go.Proofs.Ytogjghmoankleaa
open Go.RowKit
set_option linter.unusedVariables false
set_option linter.unusedSimpArgs false

theorem infoPair : (Try.prog.info? 40).map (fun i => (i.zero, i.size, i.bytes)) = some (some (.agg #[.int .i64 0, .int .i64 0, .int .u64 0, .string ⟨#[]⟩, .slice none 0 0, .bool false]), 6, 72) := by kernel_rfl
set_option maxRecDepth 20000 in
set_option maxHeartbeats 8000000 in
theorem clone_any (p : PL) (hk : p.k ≤ 100000) (hok : ∀ i, i < p.k → (p.a i).t.ok) (hsz : ∀ i, i < p.k → (p.a i).t.size ≤ 100000) (A : Option Addr) (c : Nat) (w : World) (h : PsL w anyQ A p) : Calls Try.prog 42 #[.slice A p.k c] w (fun e w' => ∃ A' c', e = .returned (.slice A' p.k c') ∧ Ext w w' ∧ PsL w' (fun b => w.heap.size ≤ b) A' p ∧ p.k ≤ c' ∧ softA w' (fun b => w.heap.size ≤ b) A') := by
  have HK := hid hk
  have HOK := hid hok
  have HSI := hid hsz
  have HL := hid h
  have k0 : (p.k : Int) ≤ 100000 := by omega
  have HPE : Hid (p = ⟨p.k, p.a⟩) := rfl
  generalize hkk : p.k = k at *
  have HKK := hid hkk
  clear hk hok hsz h hkk
  obtain ⟨V, hV⟩ : ∃ V, V = w := ⟨_, rfl⟩
  have HV : Hid (V = w) := hV
  rw [← hV]
  clear hV
  go_enter Try.func42, Try.ntmps42
  go_upto_region 3 with fail
  go_loopw [3, 8] (fun s3 s8 wr => ∃ (i : Nat) (A' : Option Addr) (c' : Nat) (ac : Nat → Option Addr × Nat), s8 = .int .i64 (i : Int) ∧ s3 = .slice A' i c' ∧ Hid (i ≤ k ∧ Ext V wr ∧ RwG pairH 40 wr (fun b => V.heap.size ≤ b) V.heap.size A' c' i p.a ac)) (fun _ s8 _ => k - (intOf s8).toNat)
  case atStart => exact ⟨0, none, 0, fun _ => (none, 0), rfl, rfl, (show Hid _ from ⟨Nat.zero_le _, Mod.refl _ _, RwG.nil⟩)⟩
  case round =>
    obtain ⟨i, A', c', ac, rfl, rfl, hS⟩ := hrel
    rename World => wr
    have i0 : (0 : Int) ≤ (i : Int) := by omega
    by_cases hlt : i < k
    · obtain ⟨b, o, Ai, ci, rfl, hb, ⟨q0, q1, q2, q3, q4, q5⟩, hI⟩ := HL.out.at (HV.out ▸ hS.out.2.1) (i := i) (by have := HKK.out; omega)
      have tc : decide (i < k) = true := by simp [hlt]
      have i1 : (i : Int) < (k : Int) := by omega
      have HLT := hid hlt
      have HI := hid hI
      have HOKi := hid (HOK.out i hlt)
      have HSZi := hid (HSI.out i hlt)
      clear hlt hI hb
      go_upto_region 5 with fail
      generalize hW1 : World.alloc wr _ = W1
      have HG1 : Hid (Blk W1 wr.heap.size 40 (prC (p.a i) Ai ci)) := hid (by rw [← hW1]; exact Blk.new _ _ _)
      have HR := hid (hS.out.2.2.ext (W' := W1) (by rw [← hW1]; exact (Mod.refl [] wr).alloc _))
      have HE1 : Hid (Ext V W1) := hid (by rw [← hW1]; exact hS.out.2.1.alloc _)
      have HI1 : Hid (IsL W1 anyQ (p.a i).t Ai) := hid (by rw [← hW1]; exact HI.out.ext ((Mod.refl [] wr).alloc _))
      have HSZ : Hid (V.heap.size ≤ W1.heap.size) := hid HE1.out.size
      have HOB : Hid (∀ g, A' = some g → V.heap.size ≤ g.block ∧ g.block < W1.heap.size) := hid (fun g hg => HR.out.off g hg)
      have HGA : Hid (wr.heap.size ∉ obs A') := hid (offA_obs (fun g hg => by have := (hS.out.2.2.off g hg).2; omega))
      clear hW1 hS q0 q1 q2 q3 q4 q5 HI
      generalize wr.heap.size = G at *
      have HG0 : Hid (∀ W, Mod (obs A') W1 W → W.cell? ⟨G, 0, none⟩ = some (.int .i64 (p.a i).id)) := hid (fun W hW => (HG1.out.mod hW HGA.out).cell 0)
      have HGM : Hid (∀ W, Mod (obs A') W1 W → W.rangeAt G 1 [.int .i64 (p.a i).t.kind, .int .u64 ((p.a i).t.n : Int), str (p.a i).t.s, .slice Ai (p.a i).t.k ci, .bool (p.a i).t.op]) := hid (fun W hW => (HG1.out.mod hW HGA.out).rangeE (Mod.refl _ _) 1 5 (by rfl))
      refine wp_region_held_drew (S := fun w' => Mod (obs A') W1 w') (by kernel_rfl) (Mod.refl _ _).drew (fun hHeld => ?_)
      have hR1 := HR.out.ext ((Mod.refl [] W1).drew)
      have HI2 : IsL W1.drew anyQ (p.a i).t Ai := HI1.out.ext ((Mod.refl [] _).drew)
      have KC0 := hid (copied_any (p.a i).t HOKi.out HSZi.out Ai ci W1.drew HI2)
      generalize W1.drew = u0 at *
      refine' wpAnyH_take (i := 0) (v := _) rfl (by kernel_rfl) (by kernel_rfl) (by kernel_rfl) (fun _ _ _ h => h) (Or.inl ⟨by rfl, ?hy1⟩) hHeld ?rest1
      case hy1 => (rintro W hM; go_simp; (try with_reducible rfl))
      case rest1 =>
      (try simp only [Act.put, List.getElem_toArray, List.getElem_cons_zero, List.getElem_cons_succ, List.setIfInBounds_toArray, List.set_cons_zero, List.set_cons_succ])
      refine' wpAnyH_take (i := 1) (v := _) rfl (by kernel_rfl) (by kernel_rfl) (by kernel_rfl) (fun _ _ _ h => h) (Or.inl ⟨by rfl, ?hy2⟩) hHeld ?rest2
      case hy2 => (rintro W hM; go_simp; (try with_reducible rfl))
      case rest2 =>
      (try simp only [Act.put, List.getElem_toArray, List.getElem_cons_zero, List.getElem_cons_succ, List.setIfInBounds_toArray, List.set_cons_zero, List.set_cons_succ])
      refine' wpAnyH_take (i := 2) (v := _) rfl (by kernel_rfl) (by kernel_rfl) (by kernel_rfl) (fun _ _ _ h => h) (Or.inl ⟨by rfl, ?hy3⟩) hHeld ?rest3
      case hy3 => (rintro W hM; have g0 := HG0.out W hM; go_simp; (try with_reducible rfl))
      case rest3 =>
      (try simp only [Act.put, List.getElem_toArray, List.getElem_cons_zero, List.getElem_cons_succ, List.setIfInBounds_toArray, List.set_cons_zero, List.set_cons_succ])
      refine' wpAnyH_take (i := 3) (v := _) rfl (by kernel_rfl) (by kernel_rfl) (by kernel_rfl) (fun _ _ _ h => h) (Or.inl ⟨by rfl, ?hy4⟩) hHeld ?rest4
      case hy4 => (rintro W hM; go_simp; (try with_reducible rfl))
      case rest4 =>
      (try simp only [Act.put, List.getElem_toArray, List.getElem_cons_zero, List.getElem_cons_succ, List.setIfInBounds_toArray, List.set_cons_zero, List.set_cons_succ])
      refine wpAnyH_take (i := 4) rfl (by kernel_rfl) (by kernel_rfl) (by kernel_rfl) (fun _ _ _ h => h) (yieldsIf_mid (by rfl) 38 _ rfl G 1 rfl [.int .i64 (p.a i).t.kind, .int .u64 ((p.a i).t.n : Int), str (p.a i).t.s, .slice Ai (p.a i).t.k ci, .bool (p.a i).t.op] HGM.out Try.underlying38 rfl (by kernel_rfl)) hHeld ?_
      (try simp only [Act.put, List.getElem_toArray, List.getElem_cons_zero, List.getElem_cons_succ, List.setIfInBounds_toArray, List.set_cons_zero, List.set_cons_succ])
      refine wpAnyH_ready (rs := [5]) (by kernel_rfl) (by simp) ?_
      refine AllReadyH.cons rfl (fun K hK => ?_) AllReadyH.nil
      go_simp
      go_at_call 78
      refine KC0.out.mono ?_
      rintro x u1 ⟨A5, c5, rfl, hb, hi5⟩
      have hR1 := hR1.ext hb
      have hsz0 : W1.heap.size ≤ u0.heap.size := hHeld.size
      refine hK.out _ _ (hHeld.trans (hb.mono (by simp))) (fun hHeld => ?_)
      clear hK K
      (try simp only [Act.put, List.getElem_toArray, List.getElem_cons_zero, List.getElem_cons_succ, List.setIfInBounds_toArray, List.set_cons_zero, List.set_cons_succ])
      refine' wpAnyH_take (i := 6) (v := _) rfl (by kernel_rfl) (by kernel_rfl) (by kernel_rfl) (fun _ _ _ h => h) (Or.inl ⟨by rfl, ?hy5⟩) hHeld ?rest5
      case hy5 => (rintro W hM; go_simp; (try with_reducible rfl))
      case rest5 =>
      (try simp only [Act.put, List.getElem_toArray, List.getElem_cons_zero, List.getElem_cons_succ, List.setIfInBounds_toArray, List.set_cons_zero, List.set_cons_succ])
      refine wpAnyH_ready (rs := [7]) (by kernel_rfl) (by simp) ?_
      refine AllReadyH.cons rfl (fun K hK => ?_) AllReadyH.nil
      go_simp
      have HQ2 : Blk (World.alloc u1 (.cells #[.int .i64 (p.a i).id, .int .i64 (p.a i).t.kind, .int .u64 ((p.a i).t.n : Int), str (p.a i).t.s, .slice A5 (p.a i).t.k c5, .bool (p.a i).t.op] 40)) u1.heap.size 40 #[.int .i64 (p.a i).id, .int .i64 (p.a i).t.kind, .int .u64 ((p.a i).t.n : Int), str (p.a i).t.s, .slice A5 (p.a i).t.k c5, .bool (p.a i).t.op] := Blk.new _ _ _
      have hXX : Ext u1 (World.alloc u1 (.cells #[.int .i64 (p.a i).id, .int .i64 (p.a i).t.kind, .int .u64 ((p.a i).t.n : Int), str (p.a i).t.s, .slice A5 (p.a i).t.k c5, .bool (p.a i).t.op] 40)) := (Mod.refl [] _).alloc _
      generalize World.alloc u1 (.cells #[.int .i64 (p.a i).id, .int .i64 (p.a i).t.kind, .int .u64 ((p.a i).t.n : Int), str (p.a i).t.s, .slice A5 (p.a i).t.k c5, .bool (p.a i).t.op] 40) = u4 at *
      have hR1 := hR1.ext hXX
      have HI5 := IsL.ext hi5 hXX
      refine hK.out _ _ (hHeld.trans (hXX.mono (by simp))) (fun hHeld => ?_)
      clear hK K hXX
      (try simp only [Act.put, List.getElem_toArray, List.getElem_cons_zero, List.getElem_cons_succ, List.setIfInBounds_toArray, List.set_cons_zero, List.set_cons_succ])
      generalize hgq : u1.heap.size = gq at *
      refine wpAnyH_ready (rs := [8]) (by kernel_rfl) (by simp) ?_
      refine AllReadyH.cons rfl (fun K hK => ?_) AllReadyH.nil
      have hI : pairH.hang u4 (fun b => V.heap.size ≤ b ∧ offA A' b) (p.a i) (A5, c5) := IsL.weak (fun b _ hb => ⟨by have := HSZ.out; show V.heap.size ≤ b; omega, fun g hg => by have := (HOB.out g hg).2; omega⟩) _ HI5
      obtain ⟨ib, hi, hz0, hz1, hz2⟩ := info_parts infoPair
      refine wp_append_lies _ _ _ 22 (by rfl) V.heap.size 40 ib _ 6 72 Try.underlying22 hi hz0 hz1 hz2 (by rfl) (by decide) _ i _ (by rfl) hR1.own ⟨gq, 0, none⟩ 1 1 [.int .i64 (p.a i).id, .int .i64 (p.a i).t.kind, .int .u64 ((p.a i).t.n : Int), str (p.a i).t.s, .slice A5 (p.a i).t.k c5, .bool (p.a i).t.op] (by rfl) (by rfl) ?gnew ?gone (by decide) ?gm ?gb ?gbase (u4.heap.size) rfl ?gk
      case gnew =>
        intro j u hu
        rw [addr_add, Nat.zero_add, HQ2.cell j]
        simpa using hu
      case gone => intro u hu; simp at hu; rcases hu with rfl | rfl | rfl | rfl | rfl | rfl <;> rfl
      case gm => have := HLT.out; have := HK.out; unfold maxLen; omega
      case gb => have := HLT.out; have := HK.out; omega
      case gbase => have := HSZ.out; have := hHeld.size; omega
      intro g' cp' u5 hown' hgr' hat' hlt'
      obtain ⟨ac', hR5⟩ := hR1.append hI rfl hown' hgr' hat'
      refine hK.out _ _ (hHeld.trans (grown_obs hgr')) (fun hHeld => ?_)
      clear hK K
      (try simp only [Act.put, List.getElem_toArray, List.getElem_cons_zero, List.getElem_cons_succ, List.setIfInBounds_toArray, List.set_cons_zero, List.set_cons_succ])
      refine' wpAnyH_take (i := 9) (v := _) rfl (by kernel_rfl) (by kernel_rfl) (by kernel_rfl) (fun _ _ _ h => h) (Or.inl ⟨by rfl, ?hy6⟩) hHeld ?rest6
      case hy6 => (rintro W hM; go_simp; (try with_reducible rfl))
      case rest6 =>
      (try simp only [Act.put, List.getElem_toArray, List.getElem_cons_zero, List.getElem_cons_succ, List.setIfInBounds_toArray, List.set_cons_zero, List.set_cons_succ])
      refine wpAnyH_done (by kernel_rfl) ?_ _
      go_wp2_with fail
      go_roundw
      case rel => exact ⟨i + 1, some ⟨g', 0, none⟩, cp', ac', by go_num, rfl, (show Hid _ from ⟨HLT.out, (HE1.out.of_ext (S := obs A')).trans hHeld |>.new (fun k hk => .inr (by
        cases A' with
        | none => cases hk
        | some g => have := HOB.out g rfl; simp [obs] at hk; omega)), hR5⟩)⟩
      case measure => have := HLT.out; simp [intOf]; omega
    · obtain rfl : i = k := by have := hS.out.1; omega
      have tc : decide (i < i) = false := by simp
      go_wp2_with fail
      go_ret
      refine ⟨A', c', rfl, hS.out.2.1, ?_, hS.out.2.2.cap, own_soft hS.out.2.2.own⟩
      have := hS.out.2.2.ps (fun b hb => hb)
      rw [HPE.out]
      exact this
end Go.Proofs.Ytogjghmoankleaa


namespace Go.Proofs.Ytogjghmoankleaa
open Go.RowKit
set_option linter.unusedVariables false
set_option linter.unusedSimpArgs false

theorem NsL.news {w : World} {b o k : Nat} {f : Nat → Int} (h : ∀ i, i < k → w.cell? ⟨b, o + i, none⟩ = some (.int .i64 (f i))) : ∀ j u, (flatG (numsF f) k)[j]? = some u → w.cell? ((⟨b, o, none⟩ : Addr).add j) = some u :=
  flatG_news (z := 1) (by decide) (numsF_len f) fun i hi r u hu => by
    match r, hu with
    | 0, hu =>
      simp at hu
      subst hu
      rw [Nat.mul_one, Nat.add_zero]; exact h i hi
theorem numsF_one (f : Nat → Int) (k : Nat) : ∀ u ∈ flatG (numsF f) k, u.oneCell' = true := flatG_one (z := 1) (by decide) (numsF_len f) (fun i u hu => by simp at hu; subst hu; rfl) k
set_option maxHeartbeats 800000 in
theorem CloneN_any (f : Nat → Int) (k : Nat) (hk : Hid (0 < k ∧ k ≤ 100000)) (A : Option Addr) (c : Nat) (w : World) (h : NsL w A k f) :
    Calls Try.prog 44 #[.slice A k c] w (fun e w' => ∃ (g c' : Nat), e = .returned (.slice (some ⟨g, 0, none⟩) k c') ∧ Ext w w' ∧ w'.ownsRow w.heap.size 3 1 (.slice (some ⟨g, 0, none⟩) k c') k (flatG (numsF f) k)) := by
  have he := Lib.run_eql_slice_nil (P := Try.prog)
  obtain ⟨i0, hi, hz0, hz1, hz2⟩ := info_parts infoInt
  obtain ⟨b, o, rfl, hb, hc⟩ := h hk.out.1
  have hl := World.ownsRow_lit (base := w.heap.size) (e := 3) (size := 1) w #[] 0 (Nat.le_refl _) (Nat.zero_le _) rfl
  have hnews : Hid (∀ j u, (flatG (numsF f) k)[j]? = some u → (w.alloc (.cells #[] 3)).cell? ((⟨b, o, none⟩ : Addr).add j) = some u) := hid (NsL.news fun i hi => (((Mod.refl [] w).alloc (.cells #[] 3)).cell hb (by simp)).trans (hc i hi))
  have hfl := hid (flatG_length (numsF_len f) k)
  have hfc := hid (numsF_one f k)
  clear hc h
  go_enter Try.func44, Try.ntmps44
  go_wp2_with (at_builtin; refine wpList_append_own _ rfl _ _ 23 rfl w.heap.size 3 i0 _ 1 8 Try.underlying23 hi hz0 hz1 hz2 rfl (by decide) _ _ _ rfl hl ⟨b, o, none⟩ k c (flatG (numsF f) k) rfl hfl.out hnews.out hfc.out (by have := hk.out; unfold maxLen; omega) (by have := hk.out; omega) (by simp) ?_; intro v' w1 hown' hgrow hnil)
  have hg2 : (w.alloc (.cells #[] 3)).grownBy w1 (some w.heap.size) := hgrow
  have hm : Ext w w1 := ((Mod.refl [] w).alloc (.cells #[] 3)).grown hg2 (fun k hk => .inr (by cases hk; exact Nat.le_refl _))
  have hown2 : w1.ownsRow w.heap.size 3 1 v' k (flatG (numsF f) k) := by simpa using hown'
  obtain ⟨m, rfl⟩ : ∃ m, k = m + 1 := ⟨k - 1, by have := hk.out.1; omega⟩
  obtain ⟨g, c', rfl, hg, hlt⟩ := own_form hown2
  go_wp2
  go_ret
  exact ⟨g, c', rfl, hm, hown2⟩
set_option maxHeartbeats 4000000 in
set_option maxRecDepth 100000 in
theorem DelN_walk (g k c i j : Nat) (cs : List Value) (w : World) (hij : i < j) (hj : j ≤ k) (hkc : k ≤ c) (hm : c ≤ 9223372036854775807) (hcl : cs.length = k)
    (hcs : ∀ j v, cs[j]? = some v → w.cell? ⟨g, j, none⟩ = some v) (hfz : ∀ j, w.frozen? ⟨g, j, none⟩ = false) (h1c : ∀ v ∈ cs, v.oneCell' = true) :
    Calls Try.prog 43 #[.slice (some ⟨g, 0, none⟩) k c, .int .i64 i, .int .i64 j] w fun e w' =>
      e = .returned (.slice (some ⟨g, 0, none⟩) (i + (k - j)) c) ∧ w' = (w.drew.setCells g i (cs.drop j)).setCells g (i + (k - j)) (List.replicate (k - (i + (k - j))) (.int .i64 0)) := by
  obtain ⟨i0, hi0, hz0, hz1, hz2⟩ := info_parts infoInt
  obtain ⟨news, hnews⟩ : ∃ news, news = cs.drop j := ⟨_, rfl⟩
  have hlen : news.length = (k - j) := by rw [hnews, List.length_drop, hcl]
  obtain ⟨A, hA, hsrc⟩ : ∃ A : Addr, (if c = j then some (⟨g, 0, none⟩ : Addr) else some ⟨g, j, none⟩) = some A ∧ Hid (∀ t u, news[t]? = some u → w.drew.cell? (A.add t) = some u) := by
    by_cases h : c = j
    · refine ⟨⟨g, 0, none⟩, by simp [h], fun t u hu => ?_⟩
      have h0 : news.length = 0 := by rw [hlen]; omega
      rw [List.length_eq_zero_iff.1 h0] at hu
      simp at hu
    · refine ⟨⟨g, j, none⟩, by simp [h], fun t u hu => ?_⟩
      rw [addr_add]
      rw [hnews, List.getElem?_drop] at hu
      exact hcs _ u hu
  have s1 : Hid (news.length = (k - j) * 1) := hid (by rw [hlen, Nat.mul_one])
  have s2 : Hid (∀ u ∈ news, u.oneCell' = true) := fun u hu => h1c u (List.mem_of_mem_drop (by rw [← hnews]; exact hu))
  have hsome : ∀ t, t < k → (w.cell? ⟨g, t, none⟩).isSome = true := fun t ht => by rw [hcs t _ (List.getElem?_eq_getElem (by omega))]; rfl
  have s3 : Hid (∀ t, t < news.length → (w.drew.cell? ⟨g, 0 + i * 1 + t, none⟩).isSome = true ∧ w.drew.frozen? ⟨g, 0 + i * 1 + t, none⟩ = false) := by
    intro t ht
    rw [hlen] at ht
    exact ⟨hsome _ (by omega), hfz _⟩
  obtain ⟨W1, hW1⟩ : ∃ W1, W1 = w.drew.setCells g i news := ⟨_, rfl⟩
  have hcl2 : ∀ ty, (Builtin.clear_ #[23] ty #[.slice (some ⟨g, i + (k - j), none⟩) (k - (i + (k - j))) (c - (i + (k - j)))]).run Try.prog W1 = .ok (.tuple #[]) (W1.setCells g (i + (k - j)) (List.replicate (k - (i + (k - j))) (.int .i64 0))) :=
    fun ty => Lib.run_clear_slice W1 _ _ ty (.int .i64 0) Try.underlying23 (fun w => by kernel_rfl) rfl rfl g _ _ _ (by omega)
      (fun t ht => by
        rw [hW1]
        exact isSome_setCells g news i w.drew (fun t ht => hsome _ (by rw [hlen] at ht; omega)) _ (hsome _ (by omega)))
      (fun t ht => by rw [hW1, World.frozen?_setCells]; exact hfz _)
  obtain ⟨ZC, hZC⟩ : ∃ l, l = List.replicate (k - (i + (k - j))) (Value.int .i64 0) := ⟨_, rfl⟩
  rw [← hZC] at hcl2 ⊢
  clear hZC
  have hW : Hid (W1 = w.drew.setCells g i news) := hW1
  have hN := hid hnews
  have hic : i ≤ c := by omega
  have hjc : j ≤ c := by omega
  have hik : i ≤ k := by omega
  have hne : ¬ (i = j) := by omega
  have hnb : ((i : Int) == (j : Int)) = false := by rw [beq_eq_false_iff_ne]; omega
  have hneI : ¬ ((i : Int) = (j : Int)) := by omega
  have mixed : Try.prog.follows Departure.mixedOrders = true := by kernel_rfl
  clear hW1 hcs hfz h1c hsome hnews hlen
  go_enter Try.func43, Try.ntmps43
  go_wp2_with fail
  go_region_law_o (refine step_append_room rfl (.tmp 22) (.tmp 25) 23 rfl 3 i0 1 Try.underlying23 hi0 hz1 g 0 i c (by simp [Act.eval, Act.put]) A (k - j) (c - j) news (by simp [Act.eval, Act.put]) s1.out hsrc.out s2.out (by omega) s3.out ?_; rw [show 0 + i * 1 = i by omega]; rw [← hW.out])
  go_wp2
  go_ret
  exact ⟨rfl, by rw [hW.out, hN.out]⟩
def delN (f : Nat → Int) (i j : Nat) : Int := if j < i then f j else f (j + 1)
theorem DelN_any (f : Nat → Int) (base g k c i : Nat) (hi : i < k) (hk : k ≤ 100000) (w : World) (hown : w.ownsRow base 3 1 (.slice (some ⟨g, 0, none⟩) k c) k (flatG (numsF f) k)) :
    Calls Try.prog 43 #[.slice (some ⟨g, 0, none⟩) k c, .int .i64 i, .int .i64 ((i : Int) + 1)] w (fun e w' => e = .returned (.slice (some ⟨g, 0, none⟩) (k - 1) c) ∧ Mod [g] w w' ∧ base ≤ g ∧ NsL w' (some ⟨g, 0, none⟩) (k - 1) (delN f i) ∧ ∀ j, w'.frozen? ⟨g, j, none⟩ = false) := by
  have hfl : (flatG (numsF f) k).length = k := by rw [flatG_length (numsF_len f), Nat.mul_one]
  have hat : ∀ j, j < k → (flatG (numsF f) k)[j]? = some (.int .i64 (f j)) := fun j hj => by
    have := flatG_get (z := 1) (numsF_len f) k j hj 0 (by decide)
    rw [Nat.mul_one, Nat.add_zero] at this
    rw [this]; rfl
  have hcs0 : ∀ j v, (flatG (numsF f) k)[j]? = some v → w.cell? ⟨g, j, none⟩ = some v := fun j v hj => own_cells hown hj
  have hlt := hown.lt g rfl
  rcases hown.2 with ⟨h, _⟩ | ⟨q, cap, cur, h, hbg, hg, hnc, hcm, hcz, htk⟩
  · cases h
  · simp only [Value.slice.injEq, Option.some.injEq, Addr.mk.injEq, and_true, true_and] at h
    obtain ⟨rfl, rfl⟩ := h
    have hB : Blk w g 3 cur := hg
    have hm63 : c ≤ 9223372036854775807 := by unfold maxLen at hcm; omega
    have hw := DelN_walk g k c i (i + 1) (flatG (numsF f) k) w (by omega) (by omega) hnc hm63 hfl hcs0 (fun j => hB.frozen j) (numsF_one f k)
    rw [show ((i + 1 : Nat) : Int) = (i : Int) + 1 by omega, show i + (k - (i + 1)) = k - 1 by omega] at hw
    refine hw.mono ?_
    rintro e w' ⟨rfl, rfl⟩
    have hd : ((flatG (numsF f) k).drop (i + 1)).length = k - 1 - i := by rw [List.length_drop, hfl]; omega
    have hB1 := setRow_blk ((flatG (numsF f) k).drop (i + 1)) w.drew i cur hB.drew
    have hB2 := setRow_blk (List.replicate (k - (k - 1)) (Value.int .i64 0)) _ (k - 1) _ hB1
    rw [setRow_eq, setRow_eq] at hB2
    refine ⟨rfl, ?_, hbg, fun h0 => ⟨g, 0, rfl, hB2.lt, fun j hj => ?_⟩, fun j => hB2.frozen j⟩
    · exact setCells_mod _ _ (setCells_mod _ _ (Mod.drew (Mod.refl _ _)) (.inl (by simp))) (.inl (by simp))
    · rw [Nat.zero_add, hB2.cell j, writeFrom_get _ _ _ _ (by rw [writeFrom_size]; simp; omega), if_neg (by omega), writeFrom_get _ _ _ _ (by rw [hd]; omega)]
      unfold delN
      by_cases c0 : j < i
      · rw [if_neg (by omega), if_pos c0]
        have := hcs0 j _ (hat j (by omega))
        rw [hB.cell j] at this
        exact this
      · rw [if_pos (by rw [hd]; omega), if_neg c0, List.getElem?_drop, show i + 1 + (j - i) = j + 1 by omega, hat _ (by omega)]
end Go.Proofs.Ytogjghmoankleaa


namespace Go.Proofs.Ytogjghmoankleaa
open Go.RowKit Go.Shelf
set_option linter.unusedVariables false
set_option linter.unusedSimpArgs false

theorem RsL.at {w W : World} {Q : Nat → Prop} {A : Option Addr} {k : Nat} {f : Nat → PL} (h : RsL w Q A k f) (hW : Ext w W) {i : Nat} (hi : i < k) : ∃ b o Ai ci, A = some ⟨b, o, none⟩ ∧ b < w.heap.size ∧ W.cell? ⟨b, o + i, none⟩ = some (.slice Ai (f i).k ci) ∧ (f i).k ≤ ci ∧ PsL W Q Ai (f i) := by
  obtain ⟨b, o, hA, hb, hq, hc⟩ := h (by omega)
  obtain ⟨Ai, ci, h1, hkc, h2⟩ := hc i hi
  exact ⟨b, o, Ai, ci, hA, hb, (hW.cell hb (by simp)).trans h1, hkc, h2.ext hW⟩
/-- The closure in shaped: are these pairs no results? -/
theorem shaped1_any (p : PL) (hk : p.k < 4611686018427387904) (hok : ∀ i, i < p.k → (p.a i).t.ok) (A : Option Addr) (c : Nat) (w : World) (h : PsL w anyQ A p) : Calls Try.prog 124 #[.slice A p.k c] w (Ret (.bool (!resB p)) w) := by
  have HK := hid hk
  have k0 : (p.k : Int) < 4611686018427387904 := by omega
  have KP := hid (fun (h4 : p.k ≤ 100000) W (hW : Ext w W) => pairs_any p h4 hok A c W (h.ext hW))
  have HR : Hid (resB p = (decide (1 ≤ p.k) && decide (p.k ≤ 4) && pairsB p)) := rfl
  generalize pairsB p = B at *
  generalize resB p = R at *
  generalize p.k = k at *
  clear hk hok h
  by_cases h1 : k < 1
  · have t1 : decide (k < 1) = true := decide_eq_true h1
    have t2 : decide ((k : Int) < 1) = true := decide_eq_true (by omega)
    have t3 : ((k : Int) < 1) = True := eq_true (by omega)
    have HX : Hid (R = false) := hid (by rw [HR.out, decide_eq_false (show ¬ 1 ≤ k by omega)]; rfl)
    clear h1
    go_enter Try.func124, Try.ntmps124
    go_wp2_with fail
    go_ret
    exact Ret.mk (by rw [HX.out]; rfl) (Mod.refl _ _)
  have t1 : decide (k < 1) = false := decide_eq_false h1
  have t2 : decide ((k : Int) < 1) = false := decide_eq_false (by omega)
  have t3 : ((k : Int) < 1) = False := eq_false (by omega)
  have H1 := hid h1
  clear h1
  by_cases h4 : 4 < k
  · have u1 : decide (4 < k) = true := decide_eq_true h4
    have u2 : decide ((4 : Int) < k) = true := decide_eq_true (by omega)
    have u3 : ((4 : Int) < (k : Int)) = True := eq_true (by omega)
    have HX : Hid (R = false) := hid (by rw [HR.out, decide_eq_false (show ¬ k ≤ 4 by omega), Bool.and_false]; rfl)
    clear h4
    go_enter Try.func124, Try.ntmps124
    go_wp2_with fail
    go_ret
    exact Ret.mk (by rw [HX.out]; rfl) (Mod.refl _ _)
  have u1 : decide (4 < k) = false := decide_eq_false h4
  have u2 : decide ((4 : Int) < k) = false := decide_eq_false (by omega)
  have u3 : ((4 : Int) < (k : Int)) = False := eq_false (by omega)
  have HX : Hid (R = B) := hid (by rw [HR.out, decide_eq_true (show k ≤ 4 by omega), decide_eq_true (show 1 ≤ k by have := H1.out; omega)]; rfl)
  have K := hid (KP.out (by omega) w (Mod.refl _ _))
  clear h4 KP
  go_enter Try.func124, Try.ntmps124
  go_wp2_with (go_at_call 122; refine K.out.mono ?_; rintro e' w' ⟨rfl, hb'⟩)
  go_ret
  exact Ret.mk (by rw [HX.out]; rfl) hb'
theorem entersS1 : ∀ args w, (callFunc 124 args).run Try.prog w = .ok (.enter 124 args) w := enters_of Try.func124 (by kernel_rfl) rfl
def noRes (f : Nat → PL) (i : Nat) : Bool := !resB (f i)
set_option maxHeartbeats 1600000 in
theorem IndexR_any (A : Option Addr) (f : Nat → PL) (k c : Nat) (hk : k < 4611686018427387904) (hw : ∀ i, i < k → (f i).wf) (w : World) (h : RsL w anyQ A k f) :
    Calls Try.prog 148 #[.slice A k c, .func (.func 124) #[] #[]] w (Ret (.int .i64 (firstI (noRes f) k)) w) := by
  have H := hid h; have HK := hid hk; have HW := hid hw
  clear h hk hw
  have eg := entersS1
  have k1 : (k : Int) < 4611686018427387904 := by have := HK.out; omega
  obtain ⟨e0, he0⟩ := Later.self w
  go_enter Try.func148, Try.ntmps148
  go_upto_region 2 with fail
  go_loopw [8] (fun s8 wr => ∃ j : Nat, j ≤ k ∧ s8 = .int .i64 (j : Int) ∧ Hid (∀ i, i < j → noRes f i = false) ∧ ∃ e : Later w, wr = e.x) (fun s8 _ => k - (intOf s8).toNat)
  case atStart => exact ⟨0, Nat.zero_le _, rfl, fun i h => absurd h (Nat.not_lt_zero _), e0, (by first | exact he0 | rfl)⟩
  case round =>
    clear he0 e0
    obtain ⟨j, hj, rfl, hno, e, rfl⟩ := hrel
    have j0 : (0 : Int) ≤ (j : Int) := by omega
    by_cases hlt : j < k
    · obtain ⟨b, o, Ai, ci, rfl, hb, c0, hkc, hP⟩ := H.out.at e.h hlt
      have j1 : (j : Int) < (k : Int) := by omega
      have tc : decide (j < k) = true := by simp [hlt]
      have hcall : Calls Try.prog 124 (#[.slice Ai (f j).k ci] ++ #[]) e.x (Ret (.bool (noRes f j)) e.x) := shaped1_any (f j) (HW.out j hlt).1 (fun i hi => ((HW.out j hlt).2 i hi).1) Ai ci e.x hP
      have HLT := hid hlt
      clear hlt hP hkc hb
      cases hq : noRes f j with
      | true =>
        rw [hq] at hcall
        have HQ := hid hq
        clear hq
        go_wp2_with (go_at_fn 124; refine (Ret.later hcall).mono ?_; rintro x _ ⟨rfl, e, rfl⟩)
        go_ret
        refine Ret.mk ?_ e.h
        unfold firstI
        rw [firstOf_some HLT.out HQ.out hno.out]; rfl
      | false =>
        rw [hq] at hcall
        have HQ := hid hq
        clear hq
        go_wp2_with (go_at_fn 124; refine (Ret.later hcall).mono ?_; rintro x _ ⟨rfl, e, rfl⟩)
        go_roundw
        case rel =>
          refine ⟨j + 1, by have := HLT.out; omega, by go_num, (show Hid _ from fun i hi => ?_), e, rfl⟩
          by_cases e : i = j
          · subst e; exact HQ.out
          · exact hno.out i (by omega)
        case measure => have := HLT.out; simp [intOf]; omega
    · obtain rfl : j = k := by omega
      have tc : decide (j < j) = false := by simp
      go_wp2_with fail
      go_ret
      refine Ret.mk ?_ e.h
      unfold firstI
      rw [firstOf_none hno.out]; rfl
theorem noRes_all {f : Nat → PL} {k : Nat} : (firstOf (noRes f) k).isSome = !(T.all (fun i => resB (f i)) k) := by
  cases h : firstOf (noRes f) k with
  | none =>
    have := firstOf_no h
    have h2 : T.all (fun i => resB (f i)) k = true := T.all_iff.2 fun i hi => by
      have := this i hi
      unfold noRes at this
      simpa using this
    rw [h2]; rfl
  | some i =>
    obtain ⟨h1, h2, _⟩ := firstOf_spec h
    rw [all_no h1 (by unfold noRes at h2; simpa using h2)]; rfl
theorem ContainsR_any (A : Option Addr) (f : Nat → PL) (k c : Nat) (hk : k < 4611686018427387904) (hw : ∀ i, i < k → (f i).wf) (w : World) (h : RsL w anyQ A k f) :
    Calls Try.prog 123 #[.slice A k c, .func (.func 124) #[] #[]] w (Ret (.bool (!(T.all (fun i => resB (f i)) k))) w) := by
  have K := hid (IndexR_any A f k c hk hw w h)
  have hX := hid (firstI_is (p := noRes f) (k := k))
  rw [noRes_all] at hX
  generalize firstI (noRes f) k = X at *
  generalize T.all (fun i => resB (f i)) k = B at *
  clear h
  go_enter Try.func123, Try.ntmps123
  go_wp2_with (go_at_call 148; refine K.out.mono ?_; rintro e w' ⟨rfl, hb'⟩)
  go_ret
  exact Ret.mk (congrArg Value.bool hX.out) hb'
/-- What is asked first, of targets, context and source. -/
def AV.one (a : AV) : Bool := decide (1 ≤ a.tk) && decide (a.tk ≤ 16) && unlikeB a.tg a.tk && codedB a.ctx && a.src.ok
def AV.two (a : AV) : Bool := decide (a.ps.k ≤ 8) && pairsB a.ps && decide (a.rk = a.tk)
theorem AV.shaped_eq (a : AV) : a.shaped = (a.one && a.two && T.all (fun i => resB (a.rs i)) a.rk) := rfl
end Go.Proofs.Ytogjghmoankleaa
