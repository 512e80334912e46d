/-
  Primaries: why one is not right, as the code tells it.
  The reader of a primary: check, count.
  Rows of blocks of the call's own: their cells; what is appended to them.
  The numbers of items (primary.nums).
  A struct in the midst of a block, loaded in a region whose operations are held.
  Three names, read into the reader.
-/
import Derived.Test.YtogjghmoankleaaMPrimaryBitse
import Derived.Laws.BitsAllLaws
import Derived.Deep.AppendLies
import Derived.Deep.RegionLaw

namespace Go.Proofs.Ytogjghmoankleaa
open Go.RowKit
set_option linter.unusedVariables false
set_option linter.unusedSimpArgs false

set_option maxRecDepth 20000 in
theorem eidNoneP_any (w : World) : Calls Try.prog 97 #[] w (Ret (.agg #[.int .i64 1, str [110, 111, 110, 101], .int .u64 0, .int .u64 0]) w) := by
  go_enter Try.func97, Try.ntmps97
  go_wp2
  refine bodyPost_ret (v := .agg #[.int .i64 1, str [110, 111, 110, 101], .int .u64 0, .int .u64 0]) ?_ rfl (Ret.mk rfl ((Mod.refl _ _).alloc _))
  simp [results, Try.results97, go_sem]
theorem and_powP (f k : Nat) : f &&& 2 ^ k = if f.testBit k = true then 2 ^ k else 0 := by
  apply Nat.eq_of_testBit_eq
  intro i
  rw [Nat.testBit_and, Nat.testBit_two_pow]
  by_cases h : k = i
  · subst h
    cases f.testBit k <;> simp
  · cases f.testBit k <;> simp [h]
theorem u64_and_powP (f k : Nat) (hf : f < 18446744073709551616) (hk : k < 64) : bits .and .u64 (f : Int) ((2 ^ k : Nat) : Int) = if f / 2 ^ k % 2 = 1 then ((2 ^ k : Nat) : Int) else 0 := by
  have h2 : 2 ^ k < 18446744073709551616 := by
    have : 2 ^ k < 2 ^ 64 := Nat.pow_lt_pow_right (by omega) hk
    omega
  have h1 : bits .and .u64 (f : Int) ((2 ^ k : Nat) : Int) = ((f &&& 2 ^ k : Nat) : Int) := u64_and_nat f (2 ^ k) hf h2
  rw [h1, and_powP, Nat.testBit_eq_decide_div_mod_eq]
  by_cases h : f / 2 ^ k % 2 = 1 <;> simp [h]
theorem andP_no {f k : Nat} (hf : f < 18446744073709551616) (hk : k < 64) (h : f / 2 ^ k % 2 = 0) : bits .and .u64 (f : Int) ((2 ^ k : Nat) : Int) = 0 := by rw [u64_and_powP f k hf hk, if_neg (by omega)]
theorem andP_yes {f k : Nat} (hf : f < 18446744073709551616) (hk : k < 64) (h : f / 2 ^ k % 2 = 1) : bits .and .u64 (f : Int) ((2 ^ k : Nat) : Int) = ((2 ^ k : Nat) : Int) := by rw [u64_and_powP f k hf hk, if_pos h]
/-- Either of the two flags that ask for reports. -/
theorem and_tells {f : Nat} (hf : f < 18446744073709551616) : ∃ r : Int, bits .and .u64 (f : Int) 278528 = r ∧ (r = 0 ↔ ¬ (f / 16384 % 2 = 1 ∨ f / 262144 % 2 = 1)) := by
  refine ⟨_, rfl, ?_⟩
  have h := u64_and_nat f 278528 hf (by omega)
  have e : f &&& 278528 = (f &&& 2 ^ 14) ||| (f &&& 2 ^ 18) := by rw [← Nat.and_or_distrib_left]; rfl
  rw [e, and_powP, and_powP, Nat.testBit_eq_decide_div_mod_eq, Nat.testBit_eq_decide_div_mod_eq] at h
  have h2 : bits .and .u64 (f : Int) 278528 = bits .and .u64 (f : Int) ((278528 : Nat) : Int) := rfl
  rw [h2, h]
  by_cases a : f / 16384 % 2 = 1 <;> by_cases b : f / 262144 % 2 = 1 <;> simp [a, b]
set_option maxRecDepth 20000 in
set_option maxHeartbeats 1600000 in
theorem ranged_any (p : PV) (hnl : Hid (p.d.name.length < 4611686018427387904 ∧ p.s.name.length < 4611686018427387904 ∧ p.r.name.length < 4611686018427387904)) (w : World) : Calls Try.prog 96 #[.agg p.c] w (Ret (.bool p.ranged) w) := by
  have KD := hid (fun W => eidRight_any p.d hnl.out.1 W)
  have KS := hid (fun W => eidRight_any p.s hnl.out.2.1 W)
  have KR := hid (fun W => eidRight_any p.r hnl.out.2.2 W)
  have HE := hid ((Mod.refl [] w).alloc (.cells p.c 68))
  have HB := hid (Blk.new w 68 p.c)
  go_enter Try.func96, Try.ntmps96
  go_upto_region 1 with fail
  have HA := hid (Blk.new (w.alloc (.cells p.c 68)) 24 #[.int .u64 (p.t : Int), .int .u64 (p.q : Int), .int .u64 (p.l : Int), .int .u64 (p.o : Int), .int .u64 (p.n : Int)])
  go_wp2_with fail
  have HB2 := hid (HB.out.alloc (.cells #[.int .u64 (p.t : Int), .int .u64 (p.q : Int), .int .u64 (p.l : Int), .int .u64 (p.o : Int), .int .u64 (p.n : Int)] 24))
  have HE2 := hid (HE.out.alloc (.cells #[.int .u64 (p.t : Int), .int .u64 (p.q : Int), .int .u64 (p.l : Int), .int .u64 (p.o : Int), .int .u64 (p.n : Int)] 24))
  have HG : Hid ((w.alloc (.cells p.c 68)).heap.size = w.heap.size + 1) := hid (by simp)
  rw [HG.out] at HA
  generalize (w.alloc (.cells p.c 68)).alloc (.cells #[.int .u64 (p.t : Int), .int .u64 (p.q : Int), .int .u64 (p.l : Int), .int .u64 (p.o : Int), .int .u64 (p.n : Int)] 24) = V2 at *
  clear HB HE HG
  have b0 : ∀ e : Later V2, e.x.cell? ⟨w.heap.size, 0, none⟩ = some (.int .u64 (p.fl : Int)) := HB2.out.cellL 0 rfl
  have b1 : ∀ e : Later V2, e.x.cell? ⟨w.heap.size, 1, none⟩ = some (.int .i64 p.crc) := HB2.out.cellL 1 rfl
  have b2 : ∀ e : Later V2, e.x.cell? ⟨w.heap.size, 2, none⟩ = some (.int .i64 p.d.sch) := HB2.out.cellL 2 rfl
  have b3 : ∀ e : Later V2, e.x.cell? ⟨w.heap.size, 3, none⟩ = some (str p.d.name) := HB2.out.cellL 3 rfl
  have b4 : ∀ e : Later V2, e.x.cell? ⟨w.heap.size, 4, none⟩ = some (.int .u64 (p.d.node : Int)) := HB2.out.cellL 4 rfl
  have b5 : ∀ e : Later V2, e.x.cell? ⟨w.heap.size, 5, none⟩ = some (.int .u64 (p.d.svc : Int)) := HB2.out.cellL 5 rfl
  have b6 : ∀ e : Later V2, e.x.cell? ⟨w.heap.size, 6, none⟩ = some (.int .i64 p.s.sch) := HB2.out.cellL 6 rfl
  have b7 : ∀ e : Later V2, e.x.cell? ⟨w.heap.size, 7, none⟩ = some (str p.s.name) := HB2.out.cellL 7 rfl
  have b8 : ∀ e : Later V2, e.x.cell? ⟨w.heap.size, 8, none⟩ = some (.int .u64 (p.s.node : Int)) := HB2.out.cellL 8 rfl
  have b9 : ∀ e : Later V2, e.x.cell? ⟨w.heap.size, 9, none⟩ = some (.int .u64 (p.s.svc : Int)) := HB2.out.cellL 9 rfl
  have b10 : ∀ e : Later V2, e.x.cell? ⟨w.heap.size, 10, none⟩ = some (.int .i64 p.r.sch) := HB2.out.cellL 10 rfl
  have b11 : ∀ e : Later V2, e.x.cell? ⟨w.heap.size, 11, none⟩ = some (str p.r.name) := HB2.out.cellL 11 rfl
  have b12 : ∀ e : Later V2, e.x.cell? ⟨w.heap.size, 12, none⟩ = some (.int .u64 (p.r.node : Int)) := HB2.out.cellL 12 rfl
  have b13 : ∀ e : Later V2, e.x.cell? ⟨w.heap.size, 13, none⟩ = some (.int .u64 (p.r.svc : Int)) := HB2.out.cellL 13 rfl
  have b14 : ∀ e : Later V2, e.x.cell? ⟨w.heap.size, 14, none⟩ = some (.int .u64 (p.t : Int)) := HB2.out.cellL 14 rfl
  have b15 : ∀ e : Later V2, e.x.cell? ⟨w.heap.size, 15, none⟩ = some (.int .u64 (p.q : Int)) := HB2.out.cellL 15 rfl
  have b16 : ∀ e : Later V2, e.x.cell? ⟨w.heap.size, 16, none⟩ = some (.int .u64 (p.l : Int)) := HB2.out.cellL 16 rfl
  have b17 : ∀ e : Later V2, e.x.cell? ⟨w.heap.size, 17, none⟩ = some (.int .u64 (p.o : Int)) := HB2.out.cellL 17 rfl
  have b18 : ∀ e : Later V2, e.x.cell? ⟨w.heap.size, 18, none⟩ = some (.int .u64 (p.n : Int)) := HB2.out.cellL 18 rfl
  obtain ⟨e0, he0⟩ := Later.self V2
  have HAJ : Hid (∀ (e : Later V2) (i : Nat), i < 5 → e.x.cell? ⟨w.heap.size + 1, i, none⟩ = some (.int .u64 ((([p.t, p.q, p.l, p.o, p.n][i]?).getD 0 : Nat) : Int))) := fun e i hi => by
    rw [(HA.out.later e).cell i]
    match i, hi with
    | 0, _ => rfl
    | 1, _ => rfl
    | 2, _ => rfl
    | 3, _ => rfl
    | 4, _ => rfl
  go_loopw [17] (fun s17 wr => ∃ i : Nat, s17 = .int .i64 (i : Int) ∧ Hid (i ≤ 5 ∧ ∀ j, j < i → ([p.t, p.q, p.l, p.o, p.n][j]?).getD 0 ≤ 1099511627776) ∧ ∃ e : Later V2, wr = e.x) (fun s17 _ => 5 - (intOf s17).toNat)
  case atStart => exact ⟨0, rfl, (show Hid _ from ⟨by omega, fun j hj => by omega⟩), e0, he0⟩
  case round =>
    clear he0 e0
    obtain ⟨i, rfl, hi, e, rfl⟩ := hrel
    have HE := HE2
    have i0 : (0 : Int) ≤ (i : Int) := by omega
    have i5 : (i : Int) ≤ 5 := by have := hi.out.1; omega
    by_cases hlt : i < 5
    · have tc : decide ((i : Int) < 5) = true := decide_eq_true (by omega)
      have i1 : (i : Int) < 5 := by omega
      have HJ := fun e => HAJ.out e i hlt
      obtain ⟨x, hx⟩ : ∃ x, ([p.t, p.q, p.l, p.o, p.n][i]?).getD 0 = x := ⟨_, rfl⟩
      rw [hx] at HJ
      have HX := hid hx
      have HLT := hid hlt
      clear hx hlt
      by_cases hx : 1099511627776 < x
      · have ya : decide ((1099511627776 : Int) < (x : Int)) = true := decide_eq_true (by omega)
        have yb : ((1099511627776 : Int) < (x : Int)) = True := eq_true (by omega)
        have HR : Hid (p.ranged = false) := by
          unfold Hid PV.ranged
          have h5 := HLT.out
          have hX := HX.out
          match i, h5 with
          | 0, _ => have hX : p.t = x := hX; simp; omega
          | 1, _ => have hX : p.q = x := hX; simp; omega
          | 2, _ => have hX : p.l = x := hX; simp; omega
          | 3, _ => have hX : p.o = x := hX; simp; omega
          | 4, _ => have hX : p.n = x := hX; simp; omega
        clear hx
        go_wp2_with fail
        go_ret
        exact Ret.mk (by rw [HR.out]; rfl) (HE.out.trans e.h)
      · have ya : decide ((1099511627776 : Int) < (x : Int)) = false := decide_eq_false (by omega)
        have yb : ((1099511627776 : Int) < (x : Int)) = False := eq_false (by omega)
        have HN := hid hx
        clear hx
        go_wp2_with fail
        go_roundw
        case rel => exact ⟨i + 1, by go_num, (show Hid _ from ⟨HLT.out, fun j hj => by
          by_cases hji : j = i
          · subst hji; rw [HX.out]; have := HN.out; omega
          · exact hi.out.2 j (by omega)⟩), e, rfl⟩
        case measure => have := HLT.out; simp [intOf]; omega
    · obtain rfl : i = 5 := by have := hi.out.1; omega
      have HL : Hid (p.t ≤ 1099511627776 ∧ p.q ≤ 1099511627776 ∧ p.l ≤ 1099511627776 ∧ p.o ≤ 1099511627776 ∧ p.n ≤ 1099511627776) := by
        have h := hi.out.2
        have a0 : p.t ≤ _ := h 0 (by omega)
        have a1 : p.q ≤ _ := h 1 (by omega)
        have a2 : p.l ≤ _ := h 2 (by omega)
        have a3 : p.o ≤ _ := h 3 (by omega)
        have a4 : p.n ≤ _ := h 4 (by omega)
        exact ⟨a0, a1, a2, a3, a4⟩
      clear hlt HAJ i0 i5 hi
      go_upto_region 7 with fail
      cases hx : p.d.ok with
      | false =>
        rw [hx] at KD
        have HX := hid hx
        clear hx
        have HS : Hid (p.ranged = false) := by
          unfold Hid PV.ranged
          rw [HX.out]; simp
        go_wp2_with (go_at_call 90; first | ((with_reducible refine (Ret.later (KD.out _)).mono ?_); rintro x _ ⟨rfl, e, rfl⟩) | ((with_reducible refine (Ret.later (KS.out _)).mono ?_); rintro x _ ⟨rfl, e, rfl⟩) | ((with_reducible refine (Ret.later (KR.out _)).mono ?_); rintro x _ ⟨rfl, e, rfl⟩))
        go_ret
        exact Ret.mk (by rw [HS.out]; rfl) (HE.out.trans e.h)
      | true =>
        rw [hx] at KD
        have Xd := hid hx
        clear hx
        cases hx : p.s.ok with
        | false =>
          rw [hx] at KS
          have HX := hid hx
          clear hx
          have HS : Hid (p.ranged = false) := by
            unfold Hid PV.ranged
            rw [HX.out]; simp
          go_wp2_with (go_at_call 90; first | ((with_reducible refine (Ret.later (KD.out _)).mono ?_); rintro x _ ⟨rfl, e, rfl⟩) | ((with_reducible refine (Ret.later (KS.out _)).mono ?_); rintro x _ ⟨rfl, e, rfl⟩) | ((with_reducible refine (Ret.later (KR.out _)).mono ?_); rintro x _ ⟨rfl, e, rfl⟩))
          go_ret
          exact Ret.mk (by rw [HS.out]; rfl) (HE.out.trans e.h)
        | true =>
          rw [hx] at KS
          have Xs := hid hx
          clear hx
          cases hx : p.r.ok with
          | false =>
            rw [hx] at KR
            have HX := hid hx
            clear hx
            have HS : Hid (p.ranged = false) := by
              unfold Hid PV.ranged
              rw [HX.out]; simp
            go_wp2_with (go_at_call 90; first | ((with_reducible refine (Ret.later (KD.out _)).mono ?_); rintro x _ ⟨rfl, e, rfl⟩) | ((with_reducible refine (Ret.later (KS.out _)).mono ?_); rintro x _ ⟨rfl, e, rfl⟩) | ((with_reducible refine (Ret.later (KR.out _)).mono ?_); rintro x _ ⟨rfl, e, rfl⟩))
            go_ret
            exact Ret.mk (by rw [HS.out]; rfl) (HE.out.trans e.h)
          | true =>
            rw [hx] at KR
            have Xr := hid hx
            clear hx
            by_cases hx : p.crc < 0
            · have ua : decide (0 ≤ p.crc) = false := decide_eq_false (by omega)
              have ub : (0 ≤ p.crc) = False := eq_false (by omega)
              have HX := hid hx
              clear hx
              have HS : Hid (p.ranged = false) := by
                unfold Hid PV.ranged
                have := HX.out; simp; omega
              go_wp2_with (go_at_call 90; first | ((with_reducible refine (Ret.later (KD.out _)).mono ?_); rintro x _ ⟨rfl, e, rfl⟩) | ((with_reducible refine (Ret.later (KS.out _)).mono ?_); rintro x _ ⟨rfl, e, rfl⟩) | ((with_reducible refine (Ret.later (KR.out _)).mono ?_); rintro x _ ⟨rfl, e, rfl⟩))
              go_ret
              exact Ret.mk (by rw [HS.out]; rfl) (HE.out.trans e.h)
            have ua : decide (0 ≤ p.crc) = true := decide_eq_true (by omega)
            have ub : (0 ≤ p.crc) = True := eq_true (by omega)
            have X1 := hid hx
            clear hx
            by_cases hx : 2 < p.crc
            · have va : decide (p.crc ≤ 2) = false := decide_eq_false (by omega)
              have vb : (p.crc ≤ 2) = False := eq_false (by omega)
              have HX := hid hx
              clear hx
              have HS : Hid (p.ranged = false) := by
                unfold Hid PV.ranged
                have := HX.out; simp; omega
              go_wp2_with (go_at_call 90; first | ((with_reducible refine (Ret.later (KD.out _)).mono ?_); rintro x _ ⟨rfl, e, rfl⟩) | ((with_reducible refine (Ret.later (KS.out _)).mono ?_); rintro x _ ⟨rfl, e, rfl⟩) | ((with_reducible refine (Ret.later (KR.out _)).mono ?_); rintro x _ ⟨rfl, e, rfl⟩))
              go_ret
              exact Ret.mk (by rw [HS.out]; rfl) (HE.out.trans e.h)
            have va : decide (p.crc ≤ 2) = true := decide_eq_true (by omega)
            have vb : (p.crc ≤ 2) = True := eq_true (by omega)
            have X2 := hid hx
            clear hx
            by_cases hx : 2097152 ≤ p.fl
            · have xa : decide ((p.fl : Int) < 2097152) = false := decide_eq_false (by omega)
              have xb : ((p.fl : Int) < 2097152) = False := eq_false (by omega)
              have HX := hid hx
              clear hx
              have HS : Hid (p.ranged = false) := by
                unfold Hid PV.ranged
                have := HX.out; simp; omega
              go_wp2_with (go_at_call 90; first | ((with_reducible refine (Ret.later (KD.out _)).mono ?_); rintro x _ ⟨rfl, e, rfl⟩) | ((with_reducible refine (Ret.later (KS.out _)).mono ?_); rintro x _ ⟨rfl, e, rfl⟩) | ((with_reducible refine (Ret.later (KR.out _)).mono ?_); rintro x _ ⟨rfl, e, rfl⟩))
              go_ret
              exact Ret.mk (by rw [HS.out]; rfl) (HE.out.trans e.h)
            have xa : decide ((p.fl : Int) < 2097152) = true := decide_eq_true (by omega)
            have xb : ((p.fl : Int) < 2097152) = True := eq_true (by omega)
            have X3 := hid hx
            clear hx
            have HS : Hid (p.ranged = true) := by
              unfold Hid PV.ranged
              rw [Xd.out, Xs.out, Xr.out]; have := X1.out; have := X2.out; have := X3.out; have := HL.out; simp; omega
            go_wp2_with (go_at_call 90; first | ((with_reducible refine (Ret.later (KD.out _)).mono ?_); rintro x _ ⟨rfl, e, rfl⟩) | ((with_reducible refine (Ret.later (KS.out _)).mono ?_); rintro x _ ⟨rfl, e, rfl⟩) | ((with_reducible refine (Ret.later (KR.out _)).mono ?_); rintro x _ ⟨rfl, e, rfl⟩))
            go_ret
            exact Ret.mk (by rw [HS.out]; rfl) (HE.out.trans e.h)
set_option maxRecDepth 20000 in
set_option maxHeartbeats 1600000 in
theorem cPriRight_any (p : PV) (hnl : Hid (p.d.name.length < 4611686018427387904 ∧ p.s.name.length < 4611686018427387904 ∧ p.r.name.length < 4611686018427387904)) (hf : p.fl < 18446744073709551616) (w : World) : Calls Try.prog 64 #[.agg p.c] w (Ret (.int .i64 p.right) w) := by
  have KR := hid (fun W => ranged_any p hnl W)
  have hfl := hid hf
  have HNZ : Hid (p.ranged = true → p.none → p.s.node = 0 ∧ p.s.svc = 0) := fun hr hn => by
    have ho := (PV.ranged_spec hr).2.1
    unfold EV.ok at ho
    rw [if_pos hn.1] at ho
    simp only [Bool.and_eq_true, decide_eq_true_eq] at ho
    exact ⟨ho.1.1, ho.1.2⟩
  have HE := hid ((Mod.refl [] w).alloc (.cells p.c 68))
  have HB := hid (Blk.new w 68 p.c)
  have f0 : (0 : Int) ≤ (p.fl : Int) := by omega
  clear hf
  go_enter Try.func64, Try.ntmps64
  go_upto_region 1 with fail
  generalize w.alloc (.cells p.c 68) = V at *
  have b0 : ∀ e : Later V, e.x.cell? ⟨w.heap.size, 0, none⟩ = some (.int .u64 (p.fl : Int)) := HB.out.cellL 0 rfl
  have b1 : ∀ e : Later V, e.x.cell? ⟨w.heap.size, 1, none⟩ = some (.int .i64 p.crc) := HB.out.cellL 1 rfl
  have b2 : ∀ e : Later V, e.x.cell? ⟨w.heap.size, 2, none⟩ = some (.int .i64 p.d.sch) := HB.out.cellL 2 rfl
  have b3 : ∀ e : Later V, e.x.cell? ⟨w.heap.size, 3, none⟩ = some (str p.d.name) := HB.out.cellL 3 rfl
  have b4 : ∀ e : Later V, e.x.cell? ⟨w.heap.size, 4, none⟩ = some (.int .u64 (p.d.node : Int)) := HB.out.cellL 4 rfl
  have b5 : ∀ e : Later V, e.x.cell? ⟨w.heap.size, 5, none⟩ = some (.int .u64 (p.d.svc : Int)) := HB.out.cellL 5 rfl
  have b6 : ∀ e : Later V, e.x.cell? ⟨w.heap.size, 6, none⟩ = some (.int .i64 p.s.sch) := HB.out.cellL 6 rfl
  have b7 : ∀ e : Later V, e.x.cell? ⟨w.heap.size, 7, none⟩ = some (str p.s.name) := HB.out.cellL 7 rfl
  have b8 : ∀ e : Later V, e.x.cell? ⟨w.heap.size, 8, none⟩ = some (.int .u64 (p.s.node : Int)) := HB.out.cellL 8 rfl
  have b9 : ∀ e : Later V, e.x.cell? ⟨w.heap.size, 9, none⟩ = some (.int .u64 (p.s.svc : Int)) := HB.out.cellL 9 rfl
  have b10 : ∀ e : Later V, e.x.cell? ⟨w.heap.size, 10, none⟩ = some (.int .i64 p.r.sch) := HB.out.cellL 10 rfl
  have b11 : ∀ e : Later V, e.x.cell? ⟨w.heap.size, 11, none⟩ = some (str p.r.name) := HB.out.cellL 11 rfl
  have b12 : ∀ e : Later V, e.x.cell? ⟨w.heap.size, 12, none⟩ = some (.int .u64 (p.r.node : Int)) := HB.out.cellL 12 rfl
  have b13 : ∀ e : Later V, e.x.cell? ⟨w.heap.size, 13, none⟩ = some (.int .u64 (p.r.svc : Int)) := HB.out.cellL 13 rfl
  have b14 : ∀ e : Later V, e.x.cell? ⟨w.heap.size, 14, none⟩ = some (.int .u64 (p.t : Int)) := HB.out.cellL 14 rfl
  have b15 : ∀ e : Later V, e.x.cell? ⟨w.heap.size, 15, none⟩ = some (.int .u64 (p.q : Int)) := HB.out.cellL 15 rfl
  have b16 : ∀ e : Later V, e.x.cell? ⟨w.heap.size, 16, none⟩ = some (.int .u64 (p.l : Int)) := HB.out.cellL 16 rfl
  have b17 : ∀ e : Later V, e.x.cell? ⟨w.heap.size, 17, none⟩ = some (.int .u64 (p.o : Int)) := HB.out.cellL 17 rfl
  have b18 : ∀ e : Later V, e.x.cell? ⟨w.heap.size, 18, none⟩ = some (.int .u64 (p.n : Int)) := HB.out.cellL 18 rfl
  have HBL : Hid (∀ e : Later V, Blk e.x w.heap.size 68 p.c) := fun e => HB.out.later e
  obtain ⟨e, he0⟩ := Later.self V
  rw [he0]
  clear he0
  obtain ⟨r, hr, hrT⟩ := and_tells hfl.out
  have HTB : Hid ((r != 0) = true ↔ (p.fl / 16384 % 2 = 1 ∨ p.fl / 262144 % 2 = 1)) := by unfold Hid; rw [bne_iff_ne, Ne, hrT, Classical.not_not]
  clear hrT
  by_cases hx : p.fl % 2 = 1
  all_goals first | (have a1 : bits .and .u64 (p.fl : Int) 1 = 1 := by (have h := andP_yes (k := 0) hfl.out (by omega) (by simpa using hx); simpa using h)) | (have a1 : bits .and .u64 (p.fl : Int) 1 = 0 := by (have h := andP_no (k := 0) hfl.out (by omega) (by have : p.fl % 2 = 0 := (by omega); simpa using this); simpa using h))
  all_goals have F1 := hid hx
  all_goals clear hx
  all_goals refine wp_region_later (by kernel_rfl) (by kernel_rfl) ?_
  all_goals repeat (go_big_quiet_step (fail))
  all_goals refine wpQuiet_nil ?_
  all_goals rintro _ ⟨e, rfl⟩
  all_goals generalize (r != 0) = TB at *
  all_goals clear hr
  all_goals cases hR : p.ranged
  all_goals rw [hR] at KR
  all_goals have HR := hid hR
  all_goals clear hR
  all_goals go_upto_if 13 with (first | (refine wpList_row (by rfl) 68 _ rfl _ rfl (HBL.out _) Try.underlying68 rfl (by kernel_rfl) ?_) | (go_at_call 96; (with_reducible refine (Ret.later (KR.out _)).mono ?_); rintro x _ ⟨rfl, e, rfl⟩))
  · have HS : Hid (p.right = 1) := by
      unfold Hid PV.right
      rw [if_pos HR.out]
    go_wp2_with fail
    go_ret
    exact Ret.mk (by rw [HS.out]; rfl) (HE.out.trans e.h)
  · have HNZ := hid (HNZ.out HR.out)
    by_cases hx : p.fl / 4 % 2 = 1
    · have a4 : bits .and .u64 (p.fl : Int) 4 = 4 := by have h := andP_yes (k := 2) hfl.out (by omega) (by simpa using hx); simpa using h
      have X4 := hid hx
      clear hx
      have HS : Hid (p.right = 8) := by
        unfold Hid PV.right
        rw [if_neg (by rw [HR.out]; decide), if_pos (.inl ⟨F1.out, .inl X4.out⟩)]
      go_wp2_with fail
      go_ret
      exact Ret.mk (by rw [HS.out]; rfl) (HE.out.trans e.h)
    have a4 : bits .and .u64 (p.fl : Int) 4 = 0 := by have h := andP_no (k := 2) hfl.out (by omega) (by have : p.fl / 4 % 2 = 0 := (by omega); simpa using this); simpa using h
    have X4 := hid hx
    clear hx
    by_cases hy : p.n ≤ p.o
    · have za : decide (p.n ≤ p.o) = true := decide_eq_true (by omega)
      have zb : (p.n ≤ p.o) = True := eq_true (by omega)
      have Y := hid hy
      clear hy
      have HS : Hid (p.right = 8) := by
        unfold Hid PV.right
        rw [if_neg (by rw [HR.out]; decide), if_pos (.inl ⟨F1.out, .inr Y.out⟩)]
      go_wp2_with fail
      go_ret
      exact Ret.mk (by rw [HS.out]; rfl) (HE.out.trans e.h)
    have za : decide (p.n ≤ p.o) = false := decide_eq_false (by omega)
    have zb : (p.n ≤ p.o) = False := eq_false (by omega)
    have G0 : Hid (¬ ((p.fl % 2 = 1 ∧ (p.fl / 4 % 2 = 1 ∨ p.n ≤ p.o)) ∨ (¬ p.fl % 2 = 1 ∧ (0 < p.o ∨ 0 < p.n)))) := by have := F1.out; have := X4.out; unfold Hid; omega
    clear hy
    go_upto_region 9 with fail
    by_cases hN : p.none
    · have n1 : p.s.sch = 1 := hN.1
      have n2 : p.s.name = [110, 111, 110, 101] := hN.2
      obtain ⟨n3, n4⟩ := HNZ.out hN
      rw [n1] at b6
      rw [n2] at b7
      rw [n3] at b8
      rw [n4] at b9
      clear n1 n2 n3 n4
      have HN := hid hN
      clear hN
      cases hT : TB with
      | true =>
        have XT : Hid (p.fl / 16384 % 2 = 1 ∨ p.fl / 262144 % 2 = 1) := HTB.out.1 hT
        subst hT
        refine wp_region_later (by kernel_rfl) (by kernel_rfl) ?_
        repeat (go_big_quiet_step ((go_at_call 97; exact Ret.later (eidNoneP_any _))))
        refine wpQuiet_nil ?_
        rintro _ ⟨e, rfl⟩
        have HS : Hid (p.right = 8) := by
          unfold Hid PV.right
          rw [if_neg (by rw [HR.out]; decide), if_neg (by have := G0.out; omega), if_pos (.inl ⟨XT.out, .inl HN.out⟩)]
        go_wp2_with fail
        go_ret
        exact Ret.mk (by rw [HS.out]; rfl) (HE.out.trans e.h)
      | false =>
        have XT : Hid (¬ (p.fl / 16384 % 2 = 1 ∨ p.fl / 262144 % 2 = 1)) := fun h => by have := HTB.out.2 h; rw [hT] at this; cases this
        subst hT
        refine wp_region_later (by kernel_rfl) (by kernel_rfl) ?_
        repeat (go_big_quiet_step ((go_at_call 97; exact Ret.later (eidNoneP_any _))))
        refine wpQuiet_nil ?_
        rintro _ ⟨e, rfl⟩
        have HS : Hid (p.right = 8) := by
          unfold Hid PV.right
          rw [if_neg (by rw [HR.out]; decide), if_neg (by have := G0.out; omega), if_pos (.inr ⟨HN.out, X4.out⟩)]
        go_wp2_with fail
        go_ret
        exact Ret.mk (by rw [HS.out]; rfl) (HE.out.trans e.h)
    · have HN := hid hN
      by_cases hS : p.s.sch = 1
      · have hM : ¬ p.s.name = [110, 111, 110, 101] := fun h => hN ⟨hS, h⟩
        rw [hS] at b6
        have ma : ((p.s.name) == ([110, 111, 110, 101])) = false := by rw [beq_eq_false_iff_ne]; exact hM
        have mb : ((p.s.name) = ([110, 111, 110, 101])) = False := eq_false (by exact hM)
        have mc : ((p.s.name) != ([110, 111, 110, 101])) = true := by rw [bne_iff_ne]; exact hM
        clear hM hS hN
        refine wp_region_later (by kernel_rfl) (by kernel_rfl) ?_
        repeat (go_big_quiet_step ((go_at_call 97; exact Ret.later (eidNoneP_any _))))
        refine wpQuiet_nil ?_
        rintro _ ⟨e, rfl⟩
        cases hT : TB with
        | true =>
          have XT : Hid (p.fl / 16384 % 2 = 1 ∨ p.fl / 262144 % 2 = 1) := HTB.out.1 hT
          subst hT
          by_cases hx : p.fl / 2 % 2 = 1
          · have a2 : bits .and .u64 (p.fl : Int) 2 = 2 := by have h := andP_yes (k := 1) hfl.out (by omega) (by simpa using hx); simpa using h
            have X2 := hid hx
            clear hx
            have HS : Hid (p.right = 8) := by
              unfold Hid PV.right
              rw [if_neg (by rw [HR.out]; decide), if_neg (by have := G0.out; omega), if_pos (.inl ⟨XT.out, .inr X2.out⟩)]
            go_wp2_with fail
            go_ret
            exact Ret.mk (by rw [HS.out]; rfl) (HE.out.trans e.h)
          · have a2 : bits .and .u64 (p.fl : Int) 2 = 0 := by have h := andP_no (k := 1) hfl.out (by omega) (by have : p.fl / 2 % 2 = 0 := (by omega); simpa using this); simpa using h
            have X2 := hid hx
            clear hx
            have HS : Hid (p.right = 0) := by
              unfold Hid PV.right
              rw [if_neg (by rw [HR.out]; decide), if_neg (by have := G0.out; omega), if_neg (fun h => h.elim (fun h => h.2.elim HN.out X2.out) (fun h => HN.out h.1))]
            go_wp2_with fail
            go_ret
            exact Ret.mk (by rw [HS.out]; rfl) (HE.out.trans e.h)
        | false =>
          have XT : Hid (¬ (p.fl / 16384 % 2 = 1 ∨ p.fl / 262144 % 2 = 1)) := fun h => by have := HTB.out.2 h; rw [hT] at this; cases this
          subst hT
          have HS : Hid (p.right = 0) := by
            unfold Hid PV.right
            rw [if_neg (by rw [HR.out]; decide), if_neg (by have := G0.out; omega), if_neg (fun h => h.elim (fun h => XT.out h.1) (fun h => HN.out h.1))]
          go_wp2_with fail
          go_ret
          exact Ret.mk (by rw [HS.out]; rfl) (HE.out.trans e.h)
      · have ma : ((p.s.sch) == (1)) = false := by rw [beq_eq_false_iff_ne]; omega
        have mb : ((p.s.sch) = (1)) = False := eq_false (by omega)
        have mc : ((p.s.sch) != (1)) = true := by rw [bne_iff_ne]; omega
        clear hS hN
        refine wp_region_later (by kernel_rfl) (by kernel_rfl) ?_
        repeat (go_big_quiet_step ((go_at_call 97; exact Ret.later (eidNoneP_any _))))
        refine wpQuiet_nil ?_
        rintro _ ⟨e, rfl⟩
        cases hT : TB with
        | true =>
          have XT : Hid (p.fl / 16384 % 2 = 1 ∨ p.fl / 262144 % 2 = 1) := HTB.out.1 hT
          subst hT
          by_cases hx : p.fl / 2 % 2 = 1
          · have a2 : bits .and .u64 (p.fl : Int) 2 = 2 := by have h := andP_yes (k := 1) hfl.out (by omega) (by simpa using hx); simpa using h
            have X2 := hid hx
            clear hx
            have HS : Hid (p.right = 8) := by
              unfold Hid PV.right
              rw [if_neg (by rw [HR.out]; decide), if_neg (by have := G0.out; omega), if_pos (.inl ⟨XT.out, .inr X2.out⟩)]
            go_wp2_with fail
            go_ret
            exact Ret.mk (by rw [HS.out]; rfl) (HE.out.trans e.h)
          · have a2 : bits .and .u64 (p.fl : Int) 2 = 0 := by have h := andP_no (k := 1) hfl.out (by omega) (by have : p.fl / 2 % 2 = 0 := (by omega); simpa using this); simpa using h
            have X2 := hid hx
            clear hx
            have HS : Hid (p.right = 0) := by
              unfold Hid PV.right
              rw [if_neg (by rw [HR.out]; decide), if_neg (by have := G0.out; omega), if_neg (fun h => h.elim (fun h => h.2.elim HN.out X2.out) (fun h => HN.out h.1))]
            go_wp2_with fail
            go_ret
            exact Ret.mk (by rw [HS.out]; rfl) (HE.out.trans e.h)
        | false =>
          have XT : Hid (¬ (p.fl / 16384 % 2 = 1 ∨ p.fl / 262144 % 2 = 1)) := fun h => by have := HTB.out.2 h; rw [hT] at this; cases this
          subst hT
          have HS : Hid (p.right = 0) := by
            unfold Hid PV.right
            rw [if_neg (by rw [HR.out]; decide), if_neg (by have := G0.out; omega), if_neg (fun h => h.elim (fun h => XT.out h.1) (fun h => HN.out h.1))]
          go_wp2_with fail
          go_ret
          exact Ret.mk (by rw [HS.out]; rfl) (HE.out.trans e.h)
  · have HS : Hid (p.right = 1) := by
      unfold Hid PV.right
      rw [if_pos HR.out]
    go_wp2_with fail
    go_ret
    exact Ret.mk (by rw [HS.out]; rfl) (HE.out.trans e.h)
  · have HNZ := hid (HNZ.out HR.out)
    by_cases hx : p.o = 0
    · by_cases hy : p.n = 0
      · have G0 : Hid (¬ ((p.fl % 2 = 1 ∧ (p.fl / 4 % 2 = 1 ∨ p.n ≤ p.o)) ∨ (¬ p.fl % 2 = 1 ∧ (0 < p.o ∨ 0 < p.n)))) := by have := F1.out; unfold Hid; omega
        rw [hx] at b17
        rw [hy] at b18
        clear hx hy
        go_upto_region 9 with fail
        by_cases hN : p.none
        · have n1 : p.s.sch = 1 := hN.1
          have n2 : p.s.name = [110, 111, 110, 101] := hN.2
          obtain ⟨n3, n4⟩ := HNZ.out hN
          rw [n1] at b6
          rw [n2] at b7
          rw [n3] at b8
          rw [n4] at b9
          clear n1 n2 n3 n4
          have HN := hid hN
          clear hN
          cases hT : TB with
          | true =>
            have XT : Hid (p.fl / 16384 % 2 = 1 ∨ p.fl / 262144 % 2 = 1) := HTB.out.1 hT
            subst hT
            refine wp_region_later (by kernel_rfl) (by kernel_rfl) ?_
            repeat (go_big_quiet_step ((go_at_call 97; exact Ret.later (eidNoneP_any _))))
            refine wpQuiet_nil ?_
            rintro _ ⟨e, rfl⟩
            have HS : Hid (p.right = 8) := by
              unfold Hid PV.right
              rw [if_neg (by rw [HR.out]; decide), if_neg (by have := G0.out; omega), if_pos (.inl ⟨XT.out, .inl HN.out⟩)]
            go_wp2_with fail
            go_ret
            exact Ret.mk (by rw [HS.out]; rfl) (HE.out.trans e.h)
          | false =>
            have XT : Hid (¬ (p.fl / 16384 % 2 = 1 ∨ p.fl / 262144 % 2 = 1)) := fun h => by have := HTB.out.2 h; rw [hT] at this; cases this
            subst hT
            by_cases hx : p.fl / 4 % 2 = 1
            · have a4 : bits .and .u64 (p.fl : Int) 4 = 4 := by have h := andP_yes (k := 2) hfl.out (by omega) (by simpa using hx); simpa using h
              have X4 := hid hx
              clear hx
              refine wp_region_later (by kernel_rfl) (by kernel_rfl) ?_
              repeat (go_big_quiet_step ((go_at_call 97; exact Ret.later (eidNoneP_any _))))
              refine wpQuiet_nil ?_
              rintro _ ⟨e, rfl⟩
              have HS : Hid (p.right = 0) := by
                unfold Hid PV.right
                rw [if_neg (by rw [HR.out]; decide), if_neg (by have := G0.out; omega), if_neg (fun h => h.elim (fun h => XT.out h.1) (fun h => h.2 X4.out))]
              go_wp2_with fail
              go_ret
              exact Ret.mk (by rw [HS.out]; rfl) (HE.out.trans e.h)
            · have a4 : bits .and .u64 (p.fl : Int) 4 = 0 := by have h := andP_no (k := 2) hfl.out (by omega) (by have : p.fl / 4 % 2 = 0 := (by omega); simpa using this); simpa using h
              have X4 := hid hx
              clear hx
              refine wp_region_later (by kernel_rfl) (by kernel_rfl) ?_
              repeat (go_big_quiet_step ((go_at_call 97; exact Ret.later (eidNoneP_any _))))
              refine wpQuiet_nil ?_
              rintro _ ⟨e, rfl⟩
              have HS : Hid (p.right = 8) := by
                unfold Hid PV.right
                rw [if_neg (by rw [HR.out]; decide), if_neg (by have := G0.out; omega), if_pos (.inr ⟨HN.out, X4.out⟩)]
              go_wp2_with fail
              go_ret
              exact Ret.mk (by rw [HS.out]; rfl) (HE.out.trans e.h)
        · have HN := hid hN
          by_cases hS : p.s.sch = 1
          · have hM : ¬ p.s.name = [110, 111, 110, 101] := fun h => hN ⟨hS, h⟩
            rw [hS] at b6
            have ma : ((p.s.name) == ([110, 111, 110, 101])) = false := by rw [beq_eq_false_iff_ne]; exact hM
            have mb : ((p.s.name) = ([110, 111, 110, 101])) = False := eq_false (by exact hM)
            have mc : ((p.s.name) != ([110, 111, 110, 101])) = true := by rw [bne_iff_ne]; exact hM
            clear hM hS hN
            refine wp_region_later (by kernel_rfl) (by kernel_rfl) ?_
            repeat (go_big_quiet_step ((go_at_call 97; exact Ret.later (eidNoneP_any _))))
            refine wpQuiet_nil ?_
            rintro _ ⟨e, rfl⟩
            cases hT : TB with
            | true =>
              have XT : Hid (p.fl / 16384 % 2 = 1 ∨ p.fl / 262144 % 2 = 1) := HTB.out.1 hT
              subst hT
              by_cases hx : p.fl / 2 % 2 = 1
              · have a2 : bits .and .u64 (p.fl : Int) 2 = 2 := by have h := andP_yes (k := 1) hfl.out (by omega) (by simpa using hx); simpa using h
                have X2 := hid hx
                clear hx
                have HS : Hid (p.right = 8) := by
                  unfold Hid PV.right
                  rw [if_neg (by rw [HR.out]; decide), if_neg (by have := G0.out; omega), if_pos (.inl ⟨XT.out, .inr X2.out⟩)]
                go_wp2_with fail
                go_ret
                exact Ret.mk (by rw [HS.out]; rfl) (HE.out.trans e.h)
              · have a2 : bits .and .u64 (p.fl : Int) 2 = 0 := by have h := andP_no (k := 1) hfl.out (by omega) (by have : p.fl / 2 % 2 = 0 := (by omega); simpa using this); simpa using h
                have X2 := hid hx
                clear hx
                have HS : Hid (p.right = 0) := by
                  unfold Hid PV.right
                  rw [if_neg (by rw [HR.out]; decide), if_neg (by have := G0.out; omega), if_neg (fun h => h.elim (fun h => h.2.elim HN.out X2.out) (fun h => HN.out h.1))]
                go_wp2_with fail
                go_ret
                exact Ret.mk (by rw [HS.out]; rfl) (HE.out.trans e.h)
            | false =>
              have XT : Hid (¬ (p.fl / 16384 % 2 = 1 ∨ p.fl / 262144 % 2 = 1)) := fun h => by have := HTB.out.2 h; rw [hT] at this; cases this
              subst hT
              have HS : Hid (p.right = 0) := by
                unfold Hid PV.right
                rw [if_neg (by rw [HR.out]; decide), if_neg (by have := G0.out; omega), if_neg (fun h => h.elim (fun h => XT.out h.1) (fun h => HN.out h.1))]
              go_wp2_with fail
              go_ret
              exact Ret.mk (by rw [HS.out]; rfl) (HE.out.trans e.h)
          · have ma : ((p.s.sch) == (1)) = false := by rw [beq_eq_false_iff_ne]; omega
            have mb : ((p.s.sch) = (1)) = False := eq_false (by omega)
            have mc : ((p.s.sch) != (1)) = true := by rw [bne_iff_ne]; omega
            clear hS hN
            refine wp_region_later (by kernel_rfl) (by kernel_rfl) ?_
            repeat (go_big_quiet_step ((go_at_call 97; exact Ret.later (eidNoneP_any _))))
            refine wpQuiet_nil ?_
            rintro _ ⟨e, rfl⟩
            cases hT : TB with
            | true =>
              have XT : Hid (p.fl / 16384 % 2 = 1 ∨ p.fl / 262144 % 2 = 1) := HTB.out.1 hT
              subst hT
              by_cases hx : p.fl / 2 % 2 = 1
              · have a2 : bits .and .u64 (p.fl : Int) 2 = 2 := by have h := andP_yes (k := 1) hfl.out (by omega) (by simpa using hx); simpa using h
                have X2 := hid hx
                clear hx
                have HS : Hid (p.right = 8) := by
                  unfold Hid PV.right
                  rw [if_neg (by rw [HR.out]; decide), if_neg (by have := G0.out; omega), if_pos (.inl ⟨XT.out, .inr X2.out⟩)]
                go_wp2_with fail
                go_ret
                exact Ret.mk (by rw [HS.out]; rfl) (HE.out.trans e.h)
              · have a2 : bits .and .u64 (p.fl : Int) 2 = 0 := by have h := andP_no (k := 1) hfl.out (by omega) (by have : p.fl / 2 % 2 = 0 := (by omega); simpa using this); simpa using h
                have X2 := hid hx
                clear hx
                have HS : Hid (p.right = 0) := by
                  unfold Hid PV.right
                  rw [if_neg (by rw [HR.out]; decide), if_neg (by have := G0.out; omega), if_neg (fun h => h.elim (fun h => h.2.elim HN.out X2.out) (fun h => HN.out h.1))]
                go_wp2_with fail
                go_ret
                exact Ret.mk (by rw [HS.out]; rfl) (HE.out.trans e.h)
            | false =>
              have XT : Hid (¬ (p.fl / 16384 % 2 = 1 ∨ p.fl / 262144 % 2 = 1)) := fun h => by have := HTB.out.2 h; rw [hT] at this; cases this
              subst hT
              have HS : Hid (p.right = 0) := by
                unfold Hid PV.right
                rw [if_neg (by rw [HR.out]; decide), if_neg (by have := G0.out; omega), if_neg (fun h => h.elim (fun h => XT.out h.1) (fun h => HN.out h.1))]
              go_wp2_with fail
              go_ret
              exact Ret.mk (by rw [HS.out]; rfl) (HE.out.trans e.h)
      · have Y := hid hy
        rw [hx] at b17
        have ga : (((p.n : Int)) == (0)) = false := by rw [beq_eq_false_iff_ne]; omega
        have gb : (((p.n : Int)) = (0)) = False := eq_false (by omega)
        have gc : (((p.n : Int)) != (0)) = true := by rw [bne_iff_ne]; omega
        have ha : decide (p.n = 0) = false := decide_eq_false (by omega)
        have hb : (p.n = 0) = False := eq_false (by omega)
        clear hx hy
        have HS : Hid (p.right = 8) := by
          unfold Hid PV.right
          rw [if_neg (by rw [HR.out]; decide), if_pos (.inr ⟨F1.out, by have := Y.out; omega⟩)]
        go_wp2_with fail
        go_ret
        exact Ret.mk (by rw [HS.out]; rfl) (HE.out.trans e.h)
    · have Y := hid hx
      have ga : (((p.o : Int)) == (0)) = false := by rw [beq_eq_false_iff_ne]; omega
      have gb : (((p.o : Int)) = (0)) = False := eq_false (by omega)
      have gc : (((p.o : Int)) != (0)) = true := by rw [bne_iff_ne]; omega
      have ha : decide (p.o = 0) = false := decide_eq_false (by omega)
      have hb : (p.o = 0) = False := eq_false (by omega)
      clear hx
      have HS : Hid (p.right = 8) := by
        unfold Hid PV.right
        rw [if_neg (by rw [HR.out]; decide), if_pos (.inr ⟨F1.out, by have := Y.out; omega⟩)]
      go_wp2_with fail
      go_ret
      exact Ret.mk (by rw [HS.out]; rfl) (HE.out.trans e.h)
end Go.Proofs.Ytogjghmoankleaa


namespace Go.Proofs.Ytogjghmoankleaa
open Go.RowKit
set_option linter.unusedVariables false
set_option linter.unusedSimpArgs false

/-- A reader's cells. -/
abbrev rdC (p : PV) (s : List UInt8) (bad : Bool) : Array Value := #[.int .u64 (p.fl : Int), .int .i64 p.crc, .int .i64 p.d.sch, str p.d.name, .int .u64 (p.d.node : Int), .int .u64 (p.d.svc : Int), .int .i64 p.s.sch, str p.s.name, .int .u64 (p.s.node : Int), .int .u64 (p.s.svc : Int), .int .i64 p.r.sch, str p.r.name, .int .u64 (p.r.node : Int), .int .u64 (p.r.svc : Int), .int .u64 (p.t : Int), .int .u64 (p.q : Int), .int .u64 (p.l : Int), .int .u64 (p.o : Int), .int .u64 (p.n : Int), str s, .bool bad]
/-- The call turns the reader alone. -/
def Chk (R : Nat) (p : PV) (s : List UInt8) (bad : Bool) (w : World) (e : Ending) (w' : World) : Prop := e = .returned (.tuple #[]) ∧ Mod [R] w w' ∧ Blk w' R 116 (rdC p s bad)
set_option maxRecDepth 20000 in
theorem pchk_false_false (R : Nat) (p : PV) (s : List UInt8) (w : World) (h : Blk w R 116 (rdC p s false)) : Calls Try.prog 105 #[.pointer (some ⟨R, 0, none⟩), .bool false] w (Chk R p s true w) := by
  have c0 : w.cell? ⟨R, 20, none⟩ = some (.bool false) := h.cell 20
  have c1 : w.frozen? ⟨R, 20, none⟩ = false := h.frozen 20
  have HB : Hid (Blk (w.setCell ⟨R, 20, none⟩ (.bool true)) R 116 (rdC p s true)) := hid (h.set_ 20 (.bool true))
  have HM : Hid (Mod [R] w (w.setCell ⟨R, 20, none⟩ (.bool true))) := hid ((Mod.refl _ _).setCell (.inl (by simp)) _)
  clear h
  go_enter Try.func105, Try.ntmps105
  go_wp2_with fail
  refine bodyPost_ret (results_none rfl _ _ _) rfl ?_
  exact ⟨rfl, HM.out, HB.out⟩
set_option maxRecDepth 20000 in
theorem pchk_false_true (R : Nat) (p : PV) (s : List UInt8) (w : World) (h : Blk w R 116 (rdC p s false)) : Calls Try.prog 105 #[.pointer (some ⟨R, 0, none⟩), .bool true] w (Chk R p s false w) := by
  have c0 : w.cell? ⟨R, 20, none⟩ = some (.bool false) := h.cell 20
  have c1 : w.frozen? ⟨R, 20, none⟩ = false := h.frozen 20
  have HB : Hid (Blk (w.setCell ⟨R, 20, none⟩ (.bool false)) R 116 (rdC p s false)) := hid (h.set_ 20 (.bool false))
  have HM : Hid (Mod [R] w (w.setCell ⟨R, 20, none⟩ (.bool false))) := hid ((Mod.refl _ _).setCell (.inl (by simp)) _)
  clear h
  go_enter Try.func105, Try.ntmps105
  go_wp2_with fail
  refine bodyPost_ret (results_none rfl _ _ _) rfl ?_
  exact ⟨rfl, HM.out, HB.out⟩
set_option maxRecDepth 20000 in
theorem pchk_true_false (R : Nat) (p : PV) (s : List UInt8) (w : World) (h : Blk w R 116 (rdC p s true)) : Calls Try.prog 105 #[.pointer (some ⟨R, 0, none⟩), .bool false] w (Chk R p s true w) := by
  have c0 : w.cell? ⟨R, 20, none⟩ = some (.bool true) := h.cell 20
  have c1 : w.frozen? ⟨R, 20, none⟩ = false := h.frozen 20
  have HB : Hid (Blk (w.setCell ⟨R, 20, none⟩ (.bool true)) R 116 (rdC p s true)) := hid (h.set_ 20 (.bool true))
  have HM : Hid (Mod [R] w (w.setCell ⟨R, 20, none⟩ (.bool true))) := hid ((Mod.refl _ _).setCell (.inl (by simp)) _)
  clear h
  go_enter Try.func105, Try.ntmps105
  go_wp2_with fail
  refine bodyPost_ret (results_none rfl _ _ _) rfl ?_
  exact ⟨rfl, HM.out, HB.out⟩
set_option maxRecDepth 20000 in
theorem pchk_true_true (R : Nat) (p : PV) (s : List UInt8) (w : World) (h : Blk w R 116 (rdC p s true)) : Calls Try.prog 105 #[.pointer (some ⟨R, 0, none⟩), .bool true] w (Chk R p s true w) := by
  have c0 : w.cell? ⟨R, 20, none⟩ = some (.bool true) := h.cell 20
  have c1 : w.frozen? ⟨R, 20, none⟩ = false := h.frozen 20
  have HB : Hid (Blk (w.setCell ⟨R, 20, none⟩ (.bool true)) R 116 (rdC p s true)) := hid (h.set_ 20 (.bool true))
  have HM : Hid (Mod [R] w (w.setCell ⟨R, 20, none⟩ (.bool true))) := hid ((Mod.refl _ _).setCell (.inl (by simp)) _)
  clear h
  go_enter Try.func105, Try.ntmps105
  go_wp2_with fail
  refine bodyPost_ret (results_none rfl _ _ _) rfl ?_
  exact ⟨rfl, HM.out, HB.out⟩
theorem pchk (R : Nat) (p : PV) (s : List UInt8) (bad ok : Bool) (w : World) (h : Blk w R 116 (rdC p s bad)) : Calls Try.prog 105 #[.pointer (some ⟨R, 0, none⟩), .bool ok] w (Chk R p s (bad || !ok) w) := by
  cases bad <;> cases ok
  · exact pchk_false_false R p s w h
  · exact pchk_false_true R p s w h
  · exact pchk_true_false R p s w h
  · exact pchk_true_true R p s w h
def cntN (fl k : Nat) : Nat := 8 + ((if fl % 2 = 1 then 2 else 0) + (if k = 1 ∨ k = 2 then 1 else 0))
set_option maxRecDepth 20000 in
set_option maxHeartbeats 800000 in
theorem pcount (fl k : Nat) (hf : fl < 18446744073709551616) (hk : k < 18446744073709551616) (w : World) : Calls Try.prog 107 #[.int .u64 (fl : Int), .int .u64 (k : Int)] w (Ret (.int .i64 (cntN fl k : Nat)) w) := by
  have hb' : bits .and .u64 (fl : Int) 1 = if fl % 2 = 1 then 1 else 0 := by
    have hb := u64_and_powP fl 0 hf (by decide)
    rw [Nat.pow_zero, Nat.div_one] at hb
    exact hb
  have k0 : (0 : Int) ≤ (k : Int) := by omega
  by_cases h1 : fl % 2 = 1
  case pos =>
    have ha : bits .and .u64 (fl : Int) 1 = 1 := by rw [hb', if_pos h1]
    by_cases k1 : k = 1
    case pos =>
      have HC : Hid (cntN fl k = 11) := hid (by unfold cntN; rw [if_pos h1, if_pos (by omega)])
      have t1a : (((k : Int)) == (1)) = true := by rw [beq_iff_eq]; omega
      have t1b : (((k : Int)) = (1)) = True := eq_true (by omega)
      have t1c : (((k : Int)) != (1)) = false := by rw [bne_eq_false_iff_eq]; omega
      have s1a : ((k) == (1)) = true := by rw [beq_iff_eq]; omega
      have s1b : ((k) = (1)) = True := eq_true (by omega)
      have s1c : ((k) != (1)) = false := by rw [bne_eq_false_iff_eq]; omega
      have t2a : (((k : Int)) == (2)) = false := by rw [beq_eq_false_iff_ne]; omega
      have t2b : (((k : Int)) = (2)) = False := eq_false (by omega)
      have t2c : (((k : Int)) != (2)) = true := by rw [bne_iff_ne]; omega
      have s2a : ((k) == (2)) = false := by rw [beq_eq_false_iff_ne]; omega
      have s2b : ((k) = (2)) = False := eq_false (by omega)
      have s2c : ((k) != (2)) = true := by rw [bne_iff_ne]; omega
      clear hb' h1 hf hk k1
      go_enter Try.func107, Try.ntmps107
      go_wp2_with fail
      go_ret
      exact Ret.mk (by rw [HC.out]; rfl) (Mod.refl [] w)
    by_cases k2 : k = 2
    case pos =>
      have HC : Hid (cntN fl k = 11) := hid (by unfold cntN; rw [if_pos h1, if_pos (by omega)])
      have t1a : (((k : Int)) == (1)) = false := by rw [beq_eq_false_iff_ne]; omega
      have t1b : (((k : Int)) = (1)) = False := eq_false (by omega)
      have t1c : (((k : Int)) != (1)) = true := by rw [bne_iff_ne]; omega
      have s1a : ((k) == (1)) = false := by rw [beq_eq_false_iff_ne]; omega
      have s1b : ((k) = (1)) = False := eq_false (by omega)
      have s1c : ((k) != (1)) = true := by rw [bne_iff_ne]; omega
      have t2a : (((k : Int)) == (2)) = true := by rw [beq_iff_eq]; omega
      have t2b : (((k : Int)) = (2)) = True := eq_true (by omega)
      have t2c : (((k : Int)) != (2)) = false := by rw [bne_eq_false_iff_eq]; omega
      have s2a : ((k) == (2)) = true := by rw [beq_iff_eq]; omega
      have s2b : ((k) = (2)) = True := eq_true (by omega)
      have s2c : ((k) != (2)) = false := by rw [bne_eq_false_iff_eq]; omega
      clear hb' h1 hf hk k2 k1
      go_enter Try.func107, Try.ntmps107
      go_wp2_with fail
      go_ret
      exact Ret.mk (by rw [HC.out]; rfl) (Mod.refl [] w)
    have HC : Hid (cntN fl k = 10) := hid (by unfold cntN; rw [if_pos h1, if_neg (by omega)])
    have t1a : (((k : Int)) == (1)) = false := by rw [beq_eq_false_iff_ne]; omega
    have t1b : (((k : Int)) = (1)) = False := eq_false (by omega)
    have t1c : (((k : Int)) != (1)) = true := by rw [bne_iff_ne]; omega
    have s1a : ((k) == (1)) = false := by rw [beq_eq_false_iff_ne]; omega
    have s1b : ((k) = (1)) = False := eq_false (by omega)
    have s1c : ((k) != (1)) = true := by rw [bne_iff_ne]; omega
    have t2a : (((k : Int)) == (2)) = false := by rw [beq_eq_false_iff_ne]; omega
    have t2b : (((k : Int)) = (2)) = False := eq_false (by omega)
    have t2c : (((k : Int)) != (2)) = true := by rw [bne_iff_ne]; omega
    have s2a : ((k) == (2)) = false := by rw [beq_eq_false_iff_ne]; omega
    have s2b : ((k) = (2)) = False := eq_false (by omega)
    have s2c : ((k) != (2)) = true := by rw [bne_iff_ne]; omega
    clear hb' h1 hf hk k1 k2
    go_enter Try.func107, Try.ntmps107
    go_wp2_with fail
    go_ret
    exact Ret.mk (by rw [HC.out]; rfl) (Mod.refl [] w)
  have ha : bits .and .u64 (fl : Int) 1 = 0 := by rw [hb', if_neg h1]
  by_cases k1 : k = 1
  case pos =>
    have HC : Hid (cntN fl k = 9) := hid (by unfold cntN; rw [if_neg h1, if_pos (by omega)])
    have t1a : (((k : Int)) == (1)) = true := by rw [beq_iff_eq]; omega
    have t1b : (((k : Int)) = (1)) = True := eq_true (by omega)
    have t1c : (((k : Int)) != (1)) = false := by rw [bne_eq_false_iff_eq]; omega
    have s1a : ((k) == (1)) = true := by rw [beq_iff_eq]; omega
    have s1b : ((k) = (1)) = True := eq_true (by omega)
    have s1c : ((k) != (1)) = false := by rw [bne_eq_false_iff_eq]; omega
    have t2a : (((k : Int)) == (2)) = false := by rw [beq_eq_false_iff_ne]; omega
    have t2b : (((k : Int)) = (2)) = False := eq_false (by omega)
    have t2c : (((k : Int)) != (2)) = true := by rw [bne_iff_ne]; omega
    have s2a : ((k) == (2)) = false := by rw [beq_eq_false_iff_ne]; omega
    have s2b : ((k) = (2)) = False := eq_false (by omega)
    have s2c : ((k) != (2)) = true := by rw [bne_iff_ne]; omega
    clear hb' h1 hf hk k1
    go_enter Try.func107, Try.ntmps107
    go_wp2_with fail
    go_ret
    exact Ret.mk (by rw [HC.out]; rfl) (Mod.refl [] w)
  by_cases k2 : k = 2
  case pos =>
    have HC : Hid (cntN fl k = 9) := hid (by unfold cntN; rw [if_neg h1, if_pos (by omega)])
    have t1a : (((k : Int)) == (1)) = false := by rw [beq_eq_false_iff_ne]; omega
    have t1b : (((k : Int)) = (1)) = False := eq_false (by omega)
    have t1c : (((k : Int)) != (1)) = true := by rw [bne_iff_ne]; omega
    have s1a : ((k) == (1)) = false := by rw [beq_eq_false_iff_ne]; omega
    have s1b : ((k) = (1)) = False := eq_false (by omega)
    have s1c : ((k) != (1)) = true := by rw [bne_iff_ne]; omega
    have t2a : (((k : Int)) == (2)) = true := by rw [beq_iff_eq]; omega
    have t2b : (((k : Int)) = (2)) = True := eq_true (by omega)
    have t2c : (((k : Int)) != (2)) = false := by rw [bne_eq_false_iff_eq]; omega
    have s2a : ((k) == (2)) = true := by rw [beq_iff_eq]; omega
    have s2b : ((k) = (2)) = True := eq_true (by omega)
    have s2c : ((k) != (2)) = false := by rw [bne_eq_false_iff_eq]; omega
    clear hb' h1 hf hk k2 k1
    go_enter Try.func107, Try.ntmps107
    go_wp2_with fail
    go_ret
    exact Ret.mk (by rw [HC.out]; rfl) (Mod.refl [] w)
  have HC : Hid (cntN fl k = 8) := hid (by unfold cntN; rw [if_neg h1, if_neg (by omega)])
  have t1a : (((k : Int)) == (1)) = false := by rw [beq_eq_false_iff_ne]; omega
  have t1b : (((k : Int)) = (1)) = False := eq_false (by omega)
  have t1c : (((k : Int)) != (1)) = true := by rw [bne_iff_ne]; omega
  have s1a : ((k) == (1)) = false := by rw [beq_eq_false_iff_ne]; omega
  have s1b : ((k) = (1)) = False := eq_false (by omega)
  have s1c : ((k) != (1)) = true := by rw [bne_iff_ne]; omega
  have t2a : (((k : Int)) == (2)) = false := by rw [beq_eq_false_iff_ne]; omega
  have t2b : (((k : Int)) = (2)) = False := eq_false (by omega)
  have t2c : (((k : Int)) != (2)) = true := by rw [bne_iff_ne]; omega
  have s2a : ((k) == (2)) = false := by rw [beq_eq_false_iff_ne]; omega
  have s2b : ((k) = (2)) = False := eq_false (by omega)
  have s2c : ((k) != (2)) = true := by rw [bne_iff_ne]; omega
  clear hb' h1 hf hk k1 k2
  go_enter Try.func107, Try.ntmps107
  go_wp2_with fail
  go_ret
  exact Ret.mk (by rw [HC.out]; rfl) (Mod.refl [] w)
end Go.Proofs.Ytogjghmoankleaa


namespace Go.Proofs.Ytogjghmoankleaa
open Go.RowKit
set_option linter.unusedVariables false
set_option linter.unusedSimpArgs false

/-- The row's cells: the first i blocks'. -/
def flatB (bs : Nat → BV) : Nat → List Value
  | 0 => []
  | i + 1 => flatB bs i ++ [.int .i64 (bs i).ty, .int .i64 (bs i).num, .int .u64 ((bs i).fl : Int), .int .i64 (bs i).crc, str (bs i).data]
theorem flatB_length (bs : Nat → BV) (i : Nat) : (flatB bs i).length = i * 5 := by
  induction i with
  | zero => rfl
  | succ i ih => rw [flatB, List.length_append, ih]; simp; omega
theorem flatB_congr {bs bs' : Nat → BV} {i : Nat} (h : ∀ j, j < i → bs j = bs' j) : flatB bs i = flatB bs' i := by
  induction i with
  | zero => rfl
  | succ i ih => rw [flatB, flatB, ih (fun j hj => h j (by omega)), h i (by omega)]
theorem flatB_get (bs : Nat → BV) (i : Nat) : ∀ j, j < i → (flatB bs i)[j * 5]? = some (.int .i64 (bs j).ty) ∧ (flatB bs i)[j * 5 + 1]? = some (.int .i64 (bs j).num) ∧ (flatB bs i)[j * 5 + 2]? = some (.int .u64 ((bs j).fl : Int)) ∧
    (flatB bs i)[j * 5 + 3]? = some (.int .i64 (bs j).crc) ∧ (flatB bs i)[j * 5 + 4]? = some (str (bs j).data) := by
  induction i with
  | zero => intro j hj; omega
  | succ i ih =>
    intro j hj
    have hl := flatB_length bs i
    rw [flatB]
    by_cases e : j = i
    · subst e
      refine ⟨?_, ?_, ?_, ?_, ?_⟩ <;> (rw [List.getElem?_append_right (by omega), hl]; simp)
    · have := ih j (by omega)
      refine ⟨?_, ?_, ?_, ?_, ?_⟩ <;> rw [List.getElem?_append_left (by omega)]
      · exact this.1
      · exact this.2.1
      · exact this.2.2.1
      · exact this.2.2.2.1
      · exact this.2.2.2.2
theorem flatB_idx (bs : Nat → BV) (k : Nat) {j : Nat} {u : Value} (h : (flatB bs k)[j]? = some u) : ∃ i r, i < k ∧ r < 5 ∧ j = i * 5 + r := by
  have := (List.getElem?_eq_some_iff.1 h).1
  rw [flatB_length] at this
  exact ⟨j / 5, j % 5, by omega, by omega, by omega⟩
theorem flatB_news {W : World} {b o : Nat} {bs : Nat → BV} {k : Nat} (h : ∀ i, i < k → BAt W b (o + i * 5) (bs i)) : ∀ j u, (flatB bs k)[j]? = some u → W.cell? ((⟨b, o, none⟩ : Addr).add j) = some u := by
  intro j u hj
  obtain ⟨i, r, hi, hr, rfl⟩ := flatB_idx bs k hj
  obtain ⟨g0, g1, g2, g3, g4⟩ := flatB_get bs k i hi
  obtain ⟨a0, a1, a2, a3, a4⟩ := h i hi
  rw [addr_add, ← Nat.add_assoc]
  have h5 : r = 0 ∨ r = 1 ∨ r = 2 ∨ r = 3 ∨ r = 4 := by omega
  rcases h5 with rfl | rfl | rfl | rfl | rfl
  · rw [← hj, Nat.add_zero, Nat.add_zero, g0]; exact a0
  · rw [← hj, g1]; exact a1
  · rw [← hj, g2]; exact a2
  · rw [← hj, g3]; exact a3
  · rw [← hj, g4]; exact a4
theorem flatB_one (bs : Nat → BV) (k : Nat) : ∀ u ∈ flatB bs k, u.oneCell' = true := by
  intro u hu
  obtain ⟨j, hj⟩ := List.getElem?_of_mem hu
  obtain ⟨i, r, hi, hr, rfl⟩ := flatB_idx bs k hj
  obtain ⟨g0, g1, g2, g3, g4⟩ := flatB_get bs k i hi
  have h5 : r = 0 ∨ r = 1 ∨ r = 2 ∨ r = 3 ∨ r = 4 := by omega
  rcases h5 with rfl | rfl | rfl | rfl | rfl
  · rw [Nat.add_zero, g0] at hj; cases hj; rfl
  · rw [g1] at hj; cases hj; rfl
  · rw [g2] at hj; cases hj; rfl
  · rw [g3] at hj; cases hj; rfl
  · rw [g4] at hj; cases hj; rfl
theorem oneB (b : BV) : ∀ u ∈ [Value.int .i64 b.ty, .int .i64 b.num, .int .u64 (b.fl : Int), .int .i64 b.crc, str b.data], u.oneCell' = true := by
  intro u hu
  simp at hu
  rcases hu with rfl | rfl | rfl | rfl | rfl <;> rfl
/-- Which blocks an append turns: the row's own. -/
theorem own_turned {w2 w4 : World} {base n size : Nat} {e : TypeId} {v : Value} {xs : List Value} (h : w2.ownsRow base e size v n xs) {w : World} {S : List Nat} (hw : Mod S w w2) (hgr : w2.grownBy w4 v.ownBlock) (hb : w.heap.size ≤ base) : Mod S w w4 :=
  hw.grown hgr (fun k hk => .inr (Nat.le_trans hb (h.lt k hk).1))
theorem own_far {w2 w4 : World} {base n size : Nat} {e : TypeId} {v : Value} {xs : List Value} (h : w2.ownsRow base e size v n xs) (hgr : w2.grownBy w4 v.ownBlock) {b : Nat} {ty : TypeId} {cs : Array Value} (hB : Blk w2 b ty cs) (hbN : b < base) : Blk w4 b ty cs :=
  (hgr.block b hB.lt (fun e => by have := (h.lt b e.symm).1; omega)).trans hB
end Go.Proofs.Ytogjghmoankleaa


namespace Go.Proofs.Ytogjghmoankleaa
open Go.RowKit
set_option linter.unusedVariables false
set_option linter.unusedSimpArgs false

theorem infoU64 : (Try.prog.info? 24).map (fun i => (i.zero, i.size, i.bytes)) = some (some (.int .u64 0), 1, 8) := by kernel_rfl
/-- The first i numbers, as cells. -/
def flatN (f : Nat → Nat) : Nat → List Value
  | 0 => []
  | i + 1 => flatN f i ++ [.int .u64 (f i : Int)]
theorem flatN_length (f : Nat → Nat) : ∀ i, (flatN f i).length = i
  | 0 => rfl
  | i + 1 => by simp [flatN, flatN_length f i]
theorem flatN_get (f : Nat → Nat) : ∀ (k i : Nat), i < k → (flatN f k)[i]? = some (.int .u64 (f i : Int))
  | k + 1, i, h => by
    unfold flatN
    by_cases e : i < k
    · rw [List.getElem?_append_left (by rw [flatN_length]; exact e)]; exact flatN_get f k i e
    · obtain rfl : i = k := by omega
      rw [List.getElem?_append_right (by rw [flatN_length]; exact Nat.le_refl _), flatN_length]; simp
/-- What nums answers. -/
def NumsPost (ch : Nat → T) (k : Nat) (w : World) (e : Ending) (w' : World) : Prop := Ext w w' ∧
  (((∀ i, i < k → (ch i).kind = 0) ∧ ∃ A c, e = .returned (.tuple #[.slice A k c, .bool true]) ∧ w'.ownsRow w.heap.size 24 1 (.slice A k c) k (flatN (fun i => (ch i).n) k)) ∨
   ((∃ i, i < k ∧ (ch i).kind ≠ 0) ∧ e = .returned (.tuple #[.slice none 0 0, .bool false])))
set_option maxRecDepth 20000 in
set_option maxHeartbeats 4000000 in
theorem pnums (ch : Nat → T) (ac : Nat → Option Addr × Nat) (k c b o : Nat) (hk : k ≤ 1000) (w : World) (hb : b < w.heap.size) (hc : ∀ i, i < k → At5 w b (o + i * 5) (ch i) (ac i).1 (ac i).2) : Calls Try.prog 106 #[.slice (some ⟨b, o, none⟩) k c] w (NumsPost ch k w) := by
  have HC := hid (fun (W : World) (hW : Ext w W) i (hi : i < k) => (hc i hi).mod hW hb (by simp))
  have HK := hid hk
  have k0 : (k : Int) ≤ 1000 := by omega
  have HW0 := hid (Mod.refl [] w)
  clear hc hk hb
  go_enter Try.func106, Try.ntmps106
  go_wp2_with fail
  go_loopw [4, 9] (fun s4 s9 wr => ∃ (i : Nat) (A' : Option Addr) (c' : Nat), s9 = .int .i64 (i : Int) ∧ s4 = .slice A' i c' ∧ Hid (i ≤ k ∧ Ext w wr ∧ wr.ownsRow w.heap.size 24 1 (.slice A' i c') i (flatN (fun j => (ch j).n) i) ∧ ∀ j, j < i → (ch j).kind = 0)) (fun _ s9 _ => k - (intOf s9).toNat)
  case atStart => exact ⟨0, none, 0, rfl, rfl, (show Hid _ from ⟨Nat.zero_le _, HW0.out, World.ownsRow_nil _ _ _ _, fun j hj => by omega⟩)⟩
  case round =>
    clear HW0
    obtain ⟨i, A', c', rfl, rfl, hS⟩ := hrel
    rename World => wr
    have i0 : (0 : Int) ≤ (i : Int) := by omega
    by_cases hlt : i < k
    · obtain ⟨q0, q1, q2, q3, q4⟩ := HC.out wr hS.out.2.1 i hlt
      have tc : decide (i < k) = true := by simp [hlt]
      have i1 : (i : Int) < (k : Int) := by omega
      have HLT := hid hlt
      clear hlt
      go_upto_region 5 with fail
      generalize hW1 : World.alloc wr _ = W1
      have HG1 : Hid (Blk W1 wr.heap.size 38 (itemC (ch i) (ac i).1 (ac i).2)) := hid (by rw [← hW1]; exact Blk.new _ _ _)
      have hS1 : Hid (i ≤ k ∧ Ext w W1 ∧ W1.ownsRow w.heap.size 24 1 (.slice A' i c') i (flatN (fun j => (ch j).n) i) ∧ ∀ j, j < i → (ch j).kind = 0) := hid (by
        have h := hS.out
        rw [← hW1]; exact ⟨h.1, h.2.1.alloc _, h.2.2.1.alloc _, h.2.2.2⟩)
      have HSZ : Hid (w.heap.size ≤ wr.heap.size) := hid hS.out.2.1.size
      clear hW1 hS q0 q1 q2 q3 q4
      generalize wr.heap.size = G at *
      have g0 : W1.cell? ⟨G, 0, none⟩ = some (.int .i64 (ch i).kind) := HG1.out.cell 0
      have g1 : W1.cell? ⟨G, 1, none⟩ = some (.int .u64 ((ch i).n : Int)) := HG1.out.cell 1
      by_cases hk0 : (ch i).kind = 0
      case neg =>
        have HNK := hid hk0
        have tka : (((ch i).kind) == (0)) = false := by rw [beq_eq_false_iff_ne]; exact hk0
        have tkb : (((ch i).kind) = (0)) = False := eq_false (by exact hk0)
        have tkc : (((ch i).kind) != (0)) = true := by rw [bne_iff_ne]; exact hk0
        clear hk0
        go_wp2_with fail
        refine bodyPost_ret (v := .tuple #[.slice none 0 0, .bool false]) (by simp [results, Try.results106, go_sem]) rfl ?_
        exact ⟨hS1.out.2.1, .inr ⟨⟨i, HLT.out, HNK.out⟩, rfl⟩⟩
      have HNK := hid hk0
      have tka : (((ch i).kind) == (0)) = true := by rw [beq_iff_eq]; exact hk0
      have tkb : (((ch i).kind) = (0)) = True := eq_true (by exact hk0)
      have tkc : (((ch i).kind) != (0)) = false := by rw [bne_eq_false_iff_eq]; exact hk0
      clear hk0
      obtain ⟨ib, hi, hz0, hz1, hz2⟩ := info_parts infoU64
      go_wp2_with (at_builtin; refine wpList_append_own _ rfl _ _ 134 rfl w.heap.size 24 ib _ 1 8 Try.underlying134 hi hz0 hz1 hz2 rfl (by decide) _ _ _ rfl (hS1.out.2.2.1.alloc _) ⟨W1.heap.size, 0, none⟩ 1 1 [.int .u64 ((ch i).n : Int)] rfl rfl (fun j u hu => by (match j, hu with | 0, hu => (simp at hu; subst hu; rw [addr_add]; exact (Blk.new _ _ _).cell 0))) (by simp [Value.oneCell']) (by have := HLT.out; have := HK.out; simp [maxLen]; omega) (by have := HLT.out; have := HK.out; omega) (by have := hS1.out.2.1.size; simp; omega) ?_; intro v' w4 hown' hgrow _; obtain ⟨g', c4, rfl, hg', hlt'⟩ := own_form hown'; have hE4 := own_turned (hS1.out.2.2.1.alloc _) (hS1.out.2.1.alloc _) hgrow (Nat.le_refl _); have HO4 := hid hown'; have HE4 := hid hE4; clear hown' hgrow hE4 hg' hlt')
      go_roundw
      case rel => exact ⟨i + 1, some ⟨g', 0, none⟩, c4, by go_num, rfl, (show Hid _ from ⟨HLT.out, HE4.out, by simpa [flatN] using HO4.out, fun j hj => by by_cases e : j = i; (subst e; exact HNK.out); exact hS1.out.2.2.2 j (by omega)⟩)⟩
      case measure => have := HLT.out; simp [intOf]; omega
    · obtain rfl : i = k := by have := hS.out.1; omega
      have tc : decide (i < i) = false := by simp
      go_wp2_with fail
      refine bodyPost_ret (v := .tuple #[.slice A' i c', .bool true]) (by simp [results, Try.results106, go_sem]) rfl ?_
      exact ⟨hS.out.2.1, .inl ⟨hS.out.2.2.2, A', c', rfl, hS.out.2.2.1⟩⟩
end Go.Proofs.Ytogjghmoankleaa


namespace Go.Proofs.Ytogjghmoankleaa
open Go.RowKit
set_option linter.unusedVariables false
set_option linter.unusedSimpArgs false

theorem yieldsIf_mid {P : Program} {ops : Array Oper} {S : World → Prop} {op : Oper} {a : Act} (hw : Region.wanted op (yielded ops a.tmps) = true) (ty : TypeId) (x : Operand) (ho : op.op = .load ty x) (b o : Nat) (hx : a.eval x = .pointer (some ⟨b, o, none⟩))
    (cs : List Value) {d : TypeDesc} (hS : ∀ w, S w → w.rangeAt b o cs) (hu : P.underlying ty = some d) (hd : d.isRow = true)
    (hi : (P.info? ty).map (·.size) = some cs.length) : YieldsIf P ops S op (.agg cs.toArray) a :=
  .inl ⟨hw, fun w hw' => by
    unfold execOp
    simp only [ho, hx, Instr.loadAt, Instr.sureAddr, Sem.run_bind, Sem.run_pure, Result.andThen_ok, run_loadVar_mid w b o ty cs d (hS w hw') hu hd hi]⟩
theorem Blk.rangeE {w W : World} {g : Nat} {t : TypeId} {cs : Array Value} (h : Blk w g t cs) (hW : Ext w W) (o n : Nat) {l : List Value} (hl : (cs.extract o (o + n)).toList = l) : W.rangeAt g o l := hl ▸ World.rangeAt_of_block (h.ext hW) o n
end Go.Proofs.Ytogjghmoankleaa


namespace Go.Proofs.Ytogjghmoankleaa
open Go.RowKit
set_option linter.unusedVariables false
set_option linter.unusedSimpArgs false

theorem Blk.thereAt {W : World} {b : Nat} {t : TypeId} {cs : Array Value} (h : Blk W b t cs) {o n : Nat} (hn : o + n ≤ cs.size) : W.there b o n := fun j hj => by
  refine ⟨?_, h.frozen (o + j)⟩
  rw [h.cell (o + j), Array.getElem?_eq_getElem (by omega)]; rfl
theorem setCells_part {t : TypeId} {b : Nat} {W : World} {cs : Array Value} (h : Blk W b t cs) (i : Nat) (l : List Value) : Blk (W.setCells b i l) b t (writeFrom cs i l) := setRow_eq l W i ▸ setRow_blk l W i cs h
/-- The name that an item may be; zero, where it is none's. -/
def nmE (t : T) : EV := if ofB t then readE t else zeroE
/-- The reader behind i of the names. -/
def nmP (p : PV) (ch : Nat → T) : Nat → PV
  | 0 => p
  | 1 => { p with d := nmE (ch 0) }
  | 2 => { p with d := nmE (ch 0), s := nmE (ch 1) }
  | _ => { p with d := nmE (ch 0), s := nmE (ch 1), r := nmE (ch 2) }
def nmB (bad : Bool) (ch : Nat → T) : Nat → Bool
  | 0 => bad
  | i + 1 => nmB bad ch i || !ofB (ch i)
set_option maxRecDepth 20000 in
set_option maxHeartbeats 8000000 in
theorem pnames (R : Nat) (p : PV) (s : List UInt8) (bad : Bool) (ch : Nat → T) (ac : Nat → Option Addr × Nat) (b o k c : Nat) (hk : k = 3) (w : World) (h : Blk w R 116 (rdC p s bad)) (hok : ∀ i, i < 3 → (ch i).ok) (hb : b < w.heap.size) (hbR : b ≠ R) (hc : ∀ i, i < 3 → At5 w b (o + i * 5) (ch i) (ac i).1 (ac i).2) (hl : ∀ i, i < 3 → IsL w (fun n => n ≠ R) (ch i) (ac i).1) : Calls Try.prog 108 #[.pointer (some ⟨R, 0, none⟩), .slice (some ⟨b, o, none⟩) k c] w (Chk R (nmP p ch 3) s (nmB bad ch 3) w) := by
  subst hk
  have HR := hid h
  have HC := hid (fun (W : World) (hW : Mod [R] w W) i (hi : i < 3) => (hc i hi).mod hW hb (by simpa using hbR))
  have HI := hid (fun (W : World) (hW : Mod [R] w W) i (hi : i < 3) => IsL.weak (R := fun _ => True) (fun _ _ _ => trivial) _ (IsL.mod hW (fun k hk _ => by simpa using hk) _ (hl i hi)))
  have KO : Hid (∀ i, i < 3 → ∀ W, IsL W (fun _ => True) (ch i) (ac i).1 → Calls Try.prog 92 #[itemV (ch i) (ac i).1 (ac i).2] W (Ret (.tuple #[(nmE (ch i)).v, .int .i64 (if ofB (ch i) = true then 0 else 2)]) W)) := hid (fun i hi W hW => eidOf_any (ch i) (hok i hi) (ac i).1 (ac i).2 W hW)
  have HRL := hid h.lt
  clear h hok hb hbR hc hl
  go_enter Try.func108, Try.ntmps108
  go_upto_region 0 with fail
  go_cut [20, 21, 22] (fun s20 s21 s22 wx => ∃ G, s20 = .slice (some ⟨G, 0, none⟩) 3 3 ∧ s21 = .int .i64 3 ∧ s22 = .int .i64 0 ∧ Hid (Ext w wx ∧ w.heap.size ≤ G ∧ Blk wx G 183 #[.pointer (some ⟨R, 2, none⟩), .pointer (some ⟨R, 6, none⟩), .pointer (some ⟨R, 10, none⟩)]))
  case first =>
    refine wp_region_held_drew (S := fun w' => Ext w w') (by kernel_rfl) (Mod.refl _ _).drew (fun hHeld => ?_)
    generalize w.drew = u0 at *
    refine' wpAnyH_take (i := 0) (v := _) rfl (by kernel_rfl) (by kernel_rfl) (by kernel_rfl) (fun _ _ _ h => h) (Or.inl ⟨by rfl, ?hy1⟩) hHeld ?rest1
    case hy1 => (rintro W hM; go_simp; (try with_reducible rfl))
    case rest1 =>
    (try simp only [Act.put, List.getElem_toArray, List.getElem_cons_zero, List.getElem_cons_succ, List.setIfInBounds_toArray, List.set_cons_zero, List.set_cons_succ])
    refine' wpAnyH_take (i := 1) (v := _) rfl (by kernel_rfl) (by kernel_rfl) (by kernel_rfl) (fun _ _ _ h => h) (Or.inl ⟨by rfl, ?hy2⟩) hHeld ?rest2
    case hy2 => (rintro W hM; go_simp; (try with_reducible rfl))
    case rest2 =>
    (try simp only [Act.put, List.getElem_toArray, List.getElem_cons_zero, List.getElem_cons_succ, List.setIfInBounds_toArray, List.set_cons_zero, List.set_cons_succ])
    refine' wpAnyH_take (i := 2) (v := _) rfl (by kernel_rfl) (by kernel_rfl) (by kernel_rfl) (fun _ _ _ h => h) (Or.inl ⟨by rfl, ?hy3⟩) hHeld ?rest3
    case hy3 => (rintro W hM; go_simp; (try with_reducible rfl))
    case rest3 =>
    (try simp only [Act.put, List.getElem_toArray, List.getElem_cons_zero, List.getElem_cons_succ, List.setIfInBounds_toArray, List.set_cons_zero, List.set_cons_succ])
    refine' wpAnyH_take (i := 3) (v := _) rfl (by kernel_rfl) (by kernel_rfl) (by kernel_rfl) (fun _ _ _ h => h) (Or.inl ⟨by rfl, ?hy4⟩) hHeld ?rest4
    case hy4 => (rintro W hM; go_simp; (try with_reducible rfl))
    case rest4 =>
    (try simp only [Act.put, List.getElem_toArray, List.getElem_cons_zero, List.getElem_cons_succ, List.setIfInBounds_toArray, List.set_cons_zero, List.set_cons_succ])
    refine' wpAnyH_take (i := 4) (v := _) rfl (by kernel_rfl) (by kernel_rfl) (by kernel_rfl) (fun _ _ _ h => h) (Or.inl ⟨by rfl, ?hy5⟩) hHeld ?rest5
    case hy5 => (rintro W hM; go_simp; (try with_reducible rfl))
    case rest5 =>
    (try simp only [Act.put, List.getElem_toArray, List.getElem_cons_zero, List.getElem_cons_succ, List.setIfInBounds_toArray, List.set_cons_zero, List.set_cons_succ])
    refine' wpAnyH_take (i := 5) (v := _) rfl (by kernel_rfl) (by kernel_rfl) (by kernel_rfl) (fun _ _ _ h => h) (Or.inl ⟨by rfl, ?hy6⟩) hHeld ?rest6
    case hy6 => (rintro W hM; go_simp; (try with_reducible rfl))
    case rest6 =>
    (try simp only [Act.put, List.getElem_toArray, List.getElem_cons_zero, List.getElem_cons_succ, List.setIfInBounds_toArray, List.set_cons_zero, List.set_cons_succ])
    refine' wpAnyH_take (i := 6) (v := _) rfl (by kernel_rfl) (by kernel_rfl) (by kernel_rfl) (fun _ _ _ h => h) (Or.inl ⟨by rfl, ?hy7⟩) hHeld ?rest7
    case hy7 => (rintro W hM; go_simp; (try with_reducible rfl))
    case rest7 =>
    (try simp only [Act.put, List.getElem_toArray, List.getElem_cons_zero, List.getElem_cons_succ, List.setIfInBounds_toArray, List.set_cons_zero, List.set_cons_succ])
    refine' wpAnyH_take (i := 7) (v := _) rfl (by kernel_rfl) (by kernel_rfl) (by kernel_rfl) (fun _ _ _ h => h) (Or.inl ⟨by rfl, ?hy8⟩) hHeld ?rest8
    case hy8 => (rintro W hM; go_simp; (try with_reducible rfl))
    case rest8 =>
    (try simp only [Act.put, List.getElem_toArray, List.getElem_cons_zero, List.getElem_cons_succ, List.setIfInBounds_toArray, List.set_cons_zero, List.set_cons_succ])
    refine' wpAnyH_take (i := 8) (v := _) rfl (by kernel_rfl) (by kernel_rfl) (by kernel_rfl) (fun _ _ _ h => h) (Or.inl ⟨by rfl, ?hy9⟩) hHeld ?rest9
    case hy9 => (rintro W hM; go_simp; (try with_reducible rfl))
    case rest9 =>
    (try simp only [Act.put, List.getElem_toArray, List.getElem_cons_zero, List.getElem_cons_succ, List.setIfInBounds_toArray, List.set_cons_zero, List.set_cons_succ])
    refine' wpAnyH_take (i := 9) (v := _) rfl (by kernel_rfl) (by kernel_rfl) (by kernel_rfl) (fun _ _ _ h => h) (Or.inl ⟨by rfl, ?hy10⟩) hHeld ?rest10
    case hy10 => (rintro W hM; go_simp; (try with_reducible rfl))
    case rest10 =>
    (try simp only [Act.put, List.getElem_toArray, List.getElem_cons_zero, List.getElem_cons_succ, List.setIfInBounds_toArray, List.set_cons_zero, List.set_cons_succ])
    refine' wpAnyH_take (i := 10) (v := _) rfl (by kernel_rfl) (by kernel_rfl) (by kernel_rfl) (fun _ _ _ h => h) (Or.inl ⟨by rfl, ?hy11⟩) hHeld ?rest11
    case hy11 => (rintro W hM; go_simp; (try with_reducible rfl))
    case rest11 =>
    (try simp only [Act.put, List.getElem_toArray, List.getElem_cons_zero, List.getElem_cons_succ, List.setIfInBounds_toArray, List.set_cons_zero, List.set_cons_succ])
    refine' wpAnyH_take (i := 11) (v := _) rfl (by kernel_rfl) (by kernel_rfl) (by kernel_rfl) (fun _ _ _ h => h) (Or.inl ⟨by rfl, ?hy12⟩) hHeld ?rest12
    case hy12 => (rintro W hM; go_simp; (try with_reducible rfl))
    case rest12 =>
    (try simp only [Act.put, List.getElem_toArray, List.getElem_cons_zero, List.getElem_cons_succ, List.setIfInBounds_toArray, List.set_cons_zero, List.set_cons_succ])
    refine' wpAnyH_take (i := 14) (v := _) rfl (by kernel_rfl) (by kernel_rfl) (by kernel_rfl) (fun _ _ _ h => h) (Or.inl ⟨by rfl, ?hy13⟩) hHeld ?rest13
    case hy13 => (rintro W hM; go_simp; (try with_reducible rfl))
    case rest13 =>
    (try simp only [Act.put, List.getElem_toArray, List.getElem_cons_zero, List.getElem_cons_succ, List.setIfInBounds_toArray, List.set_cons_zero, List.set_cons_succ])
    refine wpAnyH_ready (rs := [12]) (by kernel_rfl) (by simp) ?_
    refine AllReadyH.cons rfl (fun K hK => ?_) AllReadyH.nil
    go_simp
    generalize hV : World.alloc u0 _ = y1
    have hB : Blk y1 u0.heap.size 183 #[.pointer (some ⟨R, 2, none⟩), .pointer (some ⟨R, 6, none⟩), .pointer (some ⟨R, 10, none⟩)] := by rw [← hV]; exact Blk.new _ _ _
    have hX : Ext u0 y1 := by rw [← hV]; exact (Mod.refl [] _).alloc _
    have hN : w.heap.size ≤ u0.heap.size := hHeld.size
    clear hV
    refine hK.out _ _ (hHeld.trans hX) (fun hHeld => ?_)
    clear hK K
    (try simp only [Act.put, List.getElem_toArray, List.getElem_cons_zero, List.getElem_cons_succ, List.setIfInBounds_toArray, List.set_cons_zero, List.set_cons_succ])
    refine' wpAnyH_take (i := 13) (v := _) rfl (by kernel_rfl) (by kernel_rfl) (by kernel_rfl) (fun _ _ _ h => h) (Or.inl ⟨by rfl, ?hy14⟩) hHeld ?rest14
    case hy14 => (rintro W hM; go_simp; (try with_reducible rfl))
    case rest14 =>
    (try simp only [Act.put, List.getElem_toArray, List.getElem_cons_zero, List.getElem_cons_succ, List.setIfInBounds_toArray, List.set_cons_zero, List.set_cons_succ])
    refine wpAnyH_done (by kernel_rfl) ?_ _
    go_wp2_with fail
    go_meet
    exact ⟨_, rfl, rfl, rfl, hHeld, hN, hB⟩
  obtain ⟨G, rfl, rfl, rfl, hG⟩ := hcut
  have hG0 : Hid (Mod [R] w wc ∧ w.heap.size ≤ G ∧ Blk wc G 183 #[.pointer (some ⟨R, 2, none⟩), .pointer (some ⟨R, 6, none⟩), .pointer (some ⟨R, 10, none⟩)] ∧ Blk wc R 116 (rdC p s bad)) := hid ⟨hG.out.1.mono (by simp), hG.out.2.1, hG.out.2.2, HR.out.ext hG.out.1⟩
  have HGR : Hid (G ≠ R) := hid (by have := hG.out.2.1; have := HRL.out; omega)
  clear hG HR
  go_wp2_with fail
  go_loopw [22] (fun s22 wr => ∃ i : Nat, s22 = .int .i64 (i : Int) ∧ Hid (i ≤ 3 ∧ Mod [R] w wr ∧ Blk wr R 116 (rdC (nmP p ch i) s (nmB bad ch i)) ∧ Blk wr G 183 #[.pointer (some ⟨R, 2, none⟩), .pointer (some ⟨R, 6, none⟩), .pointer (some ⟨R, 10, none⟩)])) (fun s22 _ => 3 - (intOf s22).toNat)
  case atStart => exact ⟨0, rfl, hid ⟨Nat.zero_le _, hG0.out.1, hG0.out.2.2.2, hG0.out.2.2.1⟩⟩
  case round =>
    clear hG0
    obtain ⟨i, rfl, hS⟩ := hrel
    rename World => wr
    match i, hS with
    | 0, hS =>
      obtain ⟨q0, q1, q2, q3, q4⟩ := HC.out wr hS.out.2.1 0 (by decide)
      have KI := hid (fun W (hW : Ext wr W) => KO.out 0 (by decide) W (IsL.ext (HI.out wr hS.out.2.1 0 (by decide)) hW))
      have p1 : wr.cell? ⟨G, 0, none⟩ = some (.pointer (some ⟨R, 2, none⟩)) := hS.out.2.2.2.cell 0
      simp only [Nat.zero_mul, Nat.one_mul, Nat.add_zero, Nat.reduceMul] at q0 q1 q2 q3 q4
      go_upto_region 4 with (go_at_call 92; refine (KI.out _ (Mod.refl [] _)).mono ?_; rintro x w1 ⟨rfl, hx⟩; have HX := hid hx; clear hx)
      clear q0 q1 q2 q3 q4 p1 KI
      have hOE : Hid ((((if ofB (ch 0) = true then 0 else 2) : Int) == 0) = ofB (ch 0)) := hid (by cases ofB (ch 0) <;> rfl)
      generalize ((if ofB (ch 0) = true then 0 else 2) : Int) = E at *
      generalize hZ : World.alloc w1 _ = Z
      have BE : Hid (Blk Z w1.heap.size 26 #[.int .i64 (nmE (ch 0)).sch, str (nmE (ch 0)).name, .int .u64 ((nmE (ch 0)).node : Int), .int .u64 ((nmE (ch 0)).svc : Int)]) := hid (by rw [← hZ]; exact Blk.new _ _ _)
      have HZ : Hid (Ext wr Z) := hid (by rw [← hZ]; exact HX.out.alloc _)
      have HNE : Hid (w1.heap.size ≠ R) := hid (by have := HX.out.size; have := hS.out.2.2.1.lt; omega)
      have BR : Hid (Blk Z R 116 (rdC (nmP p ch 0) s (nmB bad ch 0))) := hid (hS.out.2.2.1.ext HZ.out)
      clear hZ HX
      generalize w1.heap.size = NE at *
      go_upto_region 5 with (go_at_call 105; refine (pchk R (nmP p ch 0) s (nmB bad ch 0) _ _ BR.out).mono ?_; rintro x w2 ⟨rfl, hm, hB⟩; have HM := hid hm; have HB := hid hB; clear hm hB)
      rw [hOE.out] at HB
      have BE2 := hid (BE.out.mod HM.out (by simpa using HNE.out))
      have BG2 : Hid (Blk w2 G 183 #[.pointer (some ⟨R, 2, none⟩), .pointer (some ⟨R, 6, none⟩), .pointer (some ⟨R, 10, none⟩)]) := hid ((hS.out.2.2.2.ext HZ.out).mod HM.out (by simpa using HGR.out))
      have HM2 : Hid (Mod [R] w w2) := hid (hS.out.2.1.trans ((HZ.out.mono (by simp)).trans HM.out))
      clear hS BE HZ HM BR HNE hOE
      have z0 := BE2.out.cell 0
      have z1 := BE2.out.cell 1
      have z2 := BE2.out.cell 2
      have z3 := BE2.out.cell 3
      simp only [List.getElem?_toArray, List.getElem?_cons_zero, List.getElem?_cons_succ] at z0 z1 z2 z3
      clear BE2
      go_upto_region 6 with (refine wpList_store_mid rfl 26 _ _ rfl R 2 #[.int .i64 (nmE (ch 0)).sch, str (nmE (ch 0)).name, .int .u64 ((nmE (ch 0)).node : Int), .int .u64 ((nmE (ch 0)).svc : Int)] (by rfl) (by rfl) (HB.out.thereAt (by simp)) (by kernel_rfl) (by simp [Value.oneCell']) ?_)
      have BR3 := hid (setCells_part (b := R) (cs := rdC (nmP p ch 0) s (nmB bad ch 0 || !ofB (ch 0))) HB.out 2 [.int .i64 (nmE (ch 0)).sch, str (nmE (ch 0)).name, .int .u64 ((nmE (ch 0)).node : Int), .int .u64 ((nmE (ch 0)).svc : Int)])
      have HM3 : Hid (Mod [R] w (w2.setCells R 2 [.int .i64 (nmE (ch 0)).sch, str (nmE (ch 0)).name, .int .u64 ((nmE (ch 0)).node : Int), .int .u64 ((nmE (ch 0)).svc : Int)])) := hid (setCells_mod _ _ HM2.out (.inl (by simp)))
      have BG3 : Hid (Blk (w2.setCells R 2 [.int .i64 (nmE (ch 0)).sch, str (nmE (ch 0)).name, .int .u64 ((nmE (ch 0)).node : Int), .int .u64 ((nmE (ch 0)).svc : Int)]) G 183 #[.pointer (some ⟨R, 2, none⟩), .pointer (some ⟨R, 6, none⟩), .pointer (some ⟨R, 10, none⟩)]) := hid (BG2.out.mod (setCells_mod (w := w2) (W := w2) (S := [R]) _ _ (Mod.refl _ _) (.inl (by simp))) (by simpa using HGR.out))
      generalize World.setCells _ R 2 _ = W3 at *
      clear HB HM2 BG2 z0 z1 z2 z3
      go_wp2_with fail
      go_roundw
      case rel => exact ⟨1, rfl, hid ⟨by decide, HM3.out, BR3.out, BG3.out⟩⟩
      case measure => simp [intOf]
    | 1, hS =>
      obtain ⟨q0, q1, q2, q3, q4⟩ := HC.out wr hS.out.2.1 1 (by decide)
      have KI := hid (fun W (hW : Ext wr W) => KO.out 1 (by decide) W (IsL.ext (HI.out wr hS.out.2.1 1 (by decide)) hW))
      have p1 : wr.cell? ⟨G, 1, none⟩ = some (.pointer (some ⟨R, 6, none⟩)) := hS.out.2.2.2.cell 1
      simp only [Nat.zero_mul, Nat.one_mul, Nat.add_zero, Nat.reduceMul] at q0 q1 q2 q3 q4
      go_upto_region 4 with (go_at_call 92; refine (KI.out _ (Mod.refl [] _)).mono ?_; rintro x w1 ⟨rfl, hx⟩; have HX := hid hx; clear hx)
      clear q0 q1 q2 q3 q4 p1 KI
      have hOE : Hid ((((if ofB (ch 1) = true then 0 else 2) : Int) == 0) = ofB (ch 1)) := hid (by cases ofB (ch 1) <;> rfl)
      generalize ((if ofB (ch 1) = true then 0 else 2) : Int) = E at *
      generalize hZ : World.alloc w1 _ = Z
      have BE : Hid (Blk Z w1.heap.size 26 #[.int .i64 (nmE (ch 1)).sch, str (nmE (ch 1)).name, .int .u64 ((nmE (ch 1)).node : Int), .int .u64 ((nmE (ch 1)).svc : Int)]) := hid (by rw [← hZ]; exact Blk.new _ _ _)
      have HZ : Hid (Ext wr Z) := hid (by rw [← hZ]; exact HX.out.alloc _)
      have HNE : Hid (w1.heap.size ≠ R) := hid (by have := HX.out.size; have := hS.out.2.2.1.lt; omega)
      have BR : Hid (Blk Z R 116 (rdC (nmP p ch 1) s (nmB bad ch 1))) := hid (hS.out.2.2.1.ext HZ.out)
      clear hZ HX
      generalize w1.heap.size = NE at *
      go_upto_region 5 with (go_at_call 105; refine (pchk R (nmP p ch 1) s (nmB bad ch 1) _ _ BR.out).mono ?_; rintro x w2 ⟨rfl, hm, hB⟩; have HM := hid hm; have HB := hid hB; clear hm hB)
      rw [hOE.out] at HB
      have BE2 := hid (BE.out.mod HM.out (by simpa using HNE.out))
      have BG2 : Hid (Blk w2 G 183 #[.pointer (some ⟨R, 2, none⟩), .pointer (some ⟨R, 6, none⟩), .pointer (some ⟨R, 10, none⟩)]) := hid ((hS.out.2.2.2.ext HZ.out).mod HM.out (by simpa using HGR.out))
      have HM2 : Hid (Mod [R] w w2) := hid (hS.out.2.1.trans ((HZ.out.mono (by simp)).trans HM.out))
      clear hS BE HZ HM BR HNE hOE
      have z0 := BE2.out.cell 0
      have z1 := BE2.out.cell 1
      have z2 := BE2.out.cell 2
      have z3 := BE2.out.cell 3
      simp only [List.getElem?_toArray, List.getElem?_cons_zero, List.getElem?_cons_succ] at z0 z1 z2 z3
      clear BE2
      go_upto_region 6 with (refine wpList_store_mid rfl 26 _ _ rfl R 6 #[.int .i64 (nmE (ch 1)).sch, str (nmE (ch 1)).name, .int .u64 ((nmE (ch 1)).node : Int), .int .u64 ((nmE (ch 1)).svc : Int)] (by rfl) (by rfl) (HB.out.thereAt (by simp)) (by kernel_rfl) (by simp [Value.oneCell']) ?_)
      have BR3 := hid (setCells_part (b := R) (cs := rdC (nmP p ch 1) s (nmB bad ch 1 || !ofB (ch 1))) HB.out 6 [.int .i64 (nmE (ch 1)).sch, str (nmE (ch 1)).name, .int .u64 ((nmE (ch 1)).node : Int), .int .u64 ((nmE (ch 1)).svc : Int)])
      have HM3 : Hid (Mod [R] w (w2.setCells R 6 [.int .i64 (nmE (ch 1)).sch, str (nmE (ch 1)).name, .int .u64 ((nmE (ch 1)).node : Int), .int .u64 ((nmE (ch 1)).svc : Int)])) := hid (setCells_mod _ _ HM2.out (.inl (by simp)))
      have BG3 : Hid (Blk (w2.setCells R 6 [.int .i64 (nmE (ch 1)).sch, str (nmE (ch 1)).name, .int .u64 ((nmE (ch 1)).node : Int), .int .u64 ((nmE (ch 1)).svc : Int)]) G 183 #[.pointer (some ⟨R, 2, none⟩), .pointer (some ⟨R, 6, none⟩), .pointer (some ⟨R, 10, none⟩)]) := hid (BG2.out.mod (setCells_mod (w := w2) (W := w2) (S := [R]) _ _ (Mod.refl _ _) (.inl (by simp))) (by simpa using HGR.out))
      generalize World.setCells _ R 6 _ = W3 at *
      clear HB HM2 BG2 z0 z1 z2 z3
      go_wp2_with fail
      go_roundw
      case rel => exact ⟨2, rfl, hid ⟨by decide, HM3.out, BR3.out, BG3.out⟩⟩
      case measure => simp [intOf]
    | 2, hS =>
      obtain ⟨q0, q1, q2, q3, q4⟩ := HC.out wr hS.out.2.1 2 (by decide)
      have KI := hid (fun W (hW : Ext wr W) => KO.out 2 (by decide) W (IsL.ext (HI.out wr hS.out.2.1 2 (by decide)) hW))
      have p1 : wr.cell? ⟨G, 2, none⟩ = some (.pointer (some ⟨R, 10, none⟩)) := hS.out.2.2.2.cell 2
      simp only [Nat.zero_mul, Nat.one_mul, Nat.add_zero, Nat.reduceMul] at q0 q1 q2 q3 q4
      go_upto_region 4 with (go_at_call 92; refine (KI.out _ (Mod.refl [] _)).mono ?_; rintro x w1 ⟨rfl, hx⟩; have HX := hid hx; clear hx)
      clear q0 q1 q2 q3 q4 p1 KI
      have hOE : Hid ((((if ofB (ch 2) = true then 0 else 2) : Int) == 0) = ofB (ch 2)) := hid (by cases ofB (ch 2) <;> rfl)
      generalize ((if ofB (ch 2) = true then 0 else 2) : Int) = E at *
      generalize hZ : World.alloc w1 _ = Z
      have BE : Hid (Blk Z w1.heap.size 26 #[.int .i64 (nmE (ch 2)).sch, str (nmE (ch 2)).name, .int .u64 ((nmE (ch 2)).node : Int), .int .u64 ((nmE (ch 2)).svc : Int)]) := hid (by rw [← hZ]; exact Blk.new _ _ _)
      have HZ : Hid (Ext wr Z) := hid (by rw [← hZ]; exact HX.out.alloc _)
      have HNE : Hid (w1.heap.size ≠ R) := hid (by have := HX.out.size; have := hS.out.2.2.1.lt; omega)
      have BR : Hid (Blk Z R 116 (rdC (nmP p ch 2) s (nmB bad ch 2))) := hid (hS.out.2.2.1.ext HZ.out)
      clear hZ HX
      generalize w1.heap.size = NE at *
      go_upto_region 5 with (go_at_call 105; refine (pchk R (nmP p ch 2) s (nmB bad ch 2) _ _ BR.out).mono ?_; rintro x w2 ⟨rfl, hm, hB⟩; have HM := hid hm; have HB := hid hB; clear hm hB)
      rw [hOE.out] at HB
      have BE2 := hid (BE.out.mod HM.out (by simpa using HNE.out))
      have BG2 : Hid (Blk w2 G 183 #[.pointer (some ⟨R, 2, none⟩), .pointer (some ⟨R, 6, none⟩), .pointer (some ⟨R, 10, none⟩)]) := hid ((hS.out.2.2.2.ext HZ.out).mod HM.out (by simpa using HGR.out))
      have HM2 : Hid (Mod [R] w w2) := hid (hS.out.2.1.trans ((HZ.out.mono (by simp)).trans HM.out))
      clear hS BE HZ HM BR HNE hOE
      have z0 := BE2.out.cell 0
      have z1 := BE2.out.cell 1
      have z2 := BE2.out.cell 2
      have z3 := BE2.out.cell 3
      simp only [List.getElem?_toArray, List.getElem?_cons_zero, List.getElem?_cons_succ] at z0 z1 z2 z3
      clear BE2
      go_upto_region 6 with (refine wpList_store_mid rfl 26 _ _ rfl R 10 #[.int .i64 (nmE (ch 2)).sch, str (nmE (ch 2)).name, .int .u64 ((nmE (ch 2)).node : Int), .int .u64 ((nmE (ch 2)).svc : Int)] (by rfl) (by rfl) (HB.out.thereAt (by simp)) (by kernel_rfl) (by simp [Value.oneCell']) ?_)
      have BR3 := hid (setCells_part (b := R) (cs := rdC (nmP p ch 2) s (nmB bad ch 2 || !ofB (ch 2))) HB.out 10 [.int .i64 (nmE (ch 2)).sch, str (nmE (ch 2)).name, .int .u64 ((nmE (ch 2)).node : Int), .int .u64 ((nmE (ch 2)).svc : Int)])
      have HM3 : Hid (Mod [R] w (w2.setCells R 10 [.int .i64 (nmE (ch 2)).sch, str (nmE (ch 2)).name, .int .u64 ((nmE (ch 2)).node : Int), .int .u64 ((nmE (ch 2)).svc : Int)])) := hid (setCells_mod _ _ HM2.out (.inl (by simp)))
      have BG3 : Hid (Blk (w2.setCells R 10 [.int .i64 (nmE (ch 2)).sch, str (nmE (ch 2)).name, .int .u64 ((nmE (ch 2)).node : Int), .int .u64 ((nmE (ch 2)).svc : Int)]) G 183 #[.pointer (some ⟨R, 2, none⟩), .pointer (some ⟨R, 6, none⟩), .pointer (some ⟨R, 10, none⟩)]) := hid (BG2.out.mod (setCells_mod (w := w2) (W := w2) (S := [R]) _ _ (Mod.refl _ _) (.inl (by simp))) (by simpa using HGR.out))
      generalize World.setCells _ R 10 _ = W3 at *
      clear HB HM2 BG2 z0 z1 z2 z3
      go_wp2_with fail
      go_roundw
      case rel => exact ⟨3, rfl, hid ⟨by decide, HM3.out, BR3.out, BG3.out⟩⟩
      case measure => simp [intOf]
    | 3, hS =>
      go_wp2_with fail
      refine bodyPost_ret (results_none rfl _ _ _) rfl ?_
      exact ⟨rfl, hS.out.2.1, hS.out.2.2.1⟩
    | i + 4, hS => exact absurd hS.out.1 (by omega)
end Go.Proofs.Ytogjghmoankleaa
