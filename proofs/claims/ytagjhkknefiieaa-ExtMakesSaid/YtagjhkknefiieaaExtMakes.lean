/-
  The law ExtMakes: its walk.
-/
import Derived.Test.YtagjhkknefiieaaExt3
namespace Go.Proofs.Ytagjhkknefiieaa
open Go.RowKit
set_option linter.unusedVariables false

theorem eidFew_any (e : EV) (w : World) : Calls Try.prog 8 #[e.v] w (Ret (.bool (decide (e.name.length ≤ 100))) w) := by
  go_enter Try.func8, Try.ntmps8
  go_wp2
  go_ret
  refine Ret.mk ?_ ((Mod.refl _ _).alloc _)
  simp
  omega

set_option maxRecDepth 20000 in
set_option maxHeartbeats 16000000 in
theorem extMakes_walk (e : EV) (n : Nat) (hn : Hid (n < 18446744073709551616)) (h0 h1 : Int) (w : World) : Calls Try.prog 3 #[e.v, .int .u64 (n : Int), .agg #[.int .i64 h0, .int .i64 h1]] w (Ret (.bool true) w) := by
  have KF := hid (fun W => eidFew_any e W)
  have KR := hid (fun W => r10_any e W)
  obtain ⟨B, hB⟩ : ∃ B, decide (e.name.length ≤ 100) = B := ⟨_, rfl⟩
  rw [hB] at KF
  have HBB := hid hB; clear hB
  have HE0 := hid (((Mod.refl [] w).alloc (.cells e.c 24)).alloc (.cells #[.int .i64 h0, .int .i64 h1] 25))
  have HB0 := hid ((Blk.new w 24 e.c).alloc (.cells #[.int .i64 h0, .int .i64 h1] 25))
  have HH0 : Hid (Blk ((w.alloc (.cells e.c 24)).alloc (.cells #[.int .i64 h0, .int .i64 h1] 25)) (w.heap.size + 1) 25 #[.int .i64 h0, .int .i64 h1]) := by
    have := Blk.new (w.alloc (.cells e.c 24)) 25 #[.int .i64 h0, .int .i64 h1]
    unfold Hid
    simpa using this
  go_enter Try.func3, Try.ntmps3
  go_wp2_with fail
  refine (awake14_any _).mono ?_
  rintro e1 w1 ⟨rfl, hb1⟩
  have HE1 := hid (HE0.out.trans hb1)
  have HB1 := hid (HB0.out.ext hb1)
  have HH1 := hid (HH0.out.ext hb1)
  clear hb1
  go_wp2_with (refine wpList_row (by rfl) 24 _ rfl _ rfl HB1.out Try.underlying24 rfl (by kernel_rfl) ?_)
  refine (KF.out _).mono ?_
  rintro e1 w2 ⟨rfl, hb2⟩
  have HE2 := hid (HE1.out.trans hb2)
  have HB2 := hid (HB1.out.ext hb2)
  have HH2 := hid (HH1.out.ext hb2)
  clear hb2
  cases B
  · go_wp2_with fail
    refine (awake14_any _).mono ?_
    rintro e1 w3 ⟨rfl, hb3⟩
    go_wp2_with fail
    go_ret
    exact Ret.mk rfl (HE2.out.trans hb3)
  have hl : e.name.length ≤ 100 := by have := HBB.out; simpa using this
  by_cases ho : e.ok = true
  · have KP := hid (fun W => Prev_yes e ho W)
    have KQ := hid (fun W => r14Prev e ho W)
    rw [ho] at KR
    generalize (eidT e).bytes = Z at *
    clear ho hl HBB
    go_wp2_with (refine wpList_row (by rfl) 24 _ rfl _ rfl HB2.out Try.underlying24 rfl (by kernel_rfl) ?_)
    refine (KP.out _).mono ?_
    rintro e1 w3 ⟨rfl, hb3⟩
    have HE3 := hid (HE2.out.trans hb3)
    have HB3 := hid (HB2.out.ext hb3)
    have HH3 := hid (HH2.out.ext hb3)
    clear hb3
    go_wp2_with (refine wpList_row (by rfl) 24 _ rfl _ rfl HB3.out Try.underlying24 rfl (by kernel_rfl) ?_)
    refine (KR.out _).mono ?_
    rintro e1 w4 ⟨rfl, hb4⟩
    have HE4 := hid (HE3.out.trans hb4)
    have HB4 := hid (HB3.out.ext hb4)
    have HH4 := hid (HH3.out.ext hb4)
    clear hb4
    go_wp2_with (refine wpList_row (by rfl) 24 _ rfl _ rfl HB4.out Try.underlying24 rfl (by kernel_rfl) ?_)
    refine (KQ.out _).mono ?_
    rintro e1 w5 ⟨rfl, hb5⟩
    have HE5 := hid (HE4.out.trans hb5)
    have HB5 := hid (HB4.out.ext hb5)
    have HH5 := hid (HH4.out.ext hb5)
    clear hb5
    by_cases h40 : n ≤ 1099511627776
    · have u1 : decide ((n : Int) ≤ 1099511627776) = true := by simp; omega
      have u2 : decide (1099511627776 < (n : Int)) = false := by simp; omega
      have KA := hid (fun W => Age_yes n h40 W)
      have KG2 := hid (fun W => r14Age n hn.out W)
      generalize headL 0 n = Y at *
      clear h40
      go_wp2_with fail
      refine (KA.out _).mono ?_
      rintro e1 w6 ⟨rfl, hb6⟩
      have HE6 := hid (HE5.out.trans hb6)
      have HH6 := hid (HH5.out.ext hb6)
      clear hb6
      go_wp2_with fail
      refine (KG2.out _).mono ?_
      rintro e1 w7 ⟨rfl, hb7⟩
      have HE7 := hid (HE6.out.trans hb7)
      have HH7 := hid (HH6.out.ext hb7)
      clear hb7
      have y0 : w7.cell? ⟨w.heap.size + 1, 0, none⟩ = some (.int .i64 h0) := HH7.out.cell 0
      have y1 : w7.cell? ⟨w.heap.size + 1, 1, none⟩ = some (.int .i64 h1) := HH7.out.cell 1
      by_cases hm : mayB h0 h1 = true
      · have hb : 1 ≤ h0 ∧ h0 ≤ 255 ∧ 0 ≤ h1 ∧ h1 ≤ 255 := by simp [mayB] at hm; omega
        obtain ⟨l, rfl⟩ := Int.eq_ofNat_of_zero_le (show 0 ≤ h0 by omega)
        obtain ⟨c, rfl⟩ := Int.eq_ofNat_of_zero_le (show 0 ≤ h1 by omega)
        have KH := hid (fun W => Hops_yes l c hm W)
        have KG := hid (fun W => r14Hops l c (by omega) (by omega) W)
        have v1 : decide ((l : Int) < 1) = false := by simp; omega
        have v2 : decide (255 < (l : Int)) = false := by simp; omega
        have v3 : decide (255 < (c : Int)) = false := by simp; omega
        generalize (130 : UInt8) :: (headL 0 l ++ headL 0 c) = X at *
        clear hm hb
        go_wp2_with fail
        clear y0 y1
        refine (KH.out _).mono ?_
        rintro e1 w8 ⟨rfl, hb8⟩
        have HE8 := hid (HE7.out.trans hb8)
        have HH8 := hid (HH7.out.ext hb8)
        clear hb8
        have y0 : w8.cell? ⟨w.heap.size + 1, 0, none⟩ = some (.int .i64 (l : Int)) := HH8.out.cell 0
        have y1 : w8.cell? ⟨w.heap.size + 1, 1, none⟩ = some (.int .i64 (c : Int)) := HH8.out.cell 1
        go_wp2_with fail
        clear y0 y1
        refine (KG.out _).mono ?_
        rintro e1 wz ⟨rfl, hbz⟩
        go_wp2_with fail
        go_ret
        exact Ret.mk (by simp) (HE8.out.trans hbz)
      · have hm2 : mayB h0 h1 = false := by simpa using hm
        have KH := hid (fun W => Hops_no h0 h1 hm2 W)
        have hb : h0 < 1 ∨ 255 < h0 ∨ h1 < 0 ∨ 255 < h1 := by simp [mayB] at hm2; omega
        clear hm hm2
        go_wp2_with fail
        clear y0 y1
        refine (KH.out _).mono ?_
        rintro e1 w8 ⟨rfl, hb8⟩
        have HE8 := hid (HE7.out.trans hb8)
        have HH8 := hid (HH7.out.ext hb8)
        clear hb8
        have y0 : w8.cell? ⟨w.heap.size + 1, 0, none⟩ = some (.int .i64 h0) := HH8.out.cell 0
        have y1 : w8.cell? ⟨w.heap.size + 1, 1, none⟩ = some (.int .i64 h1) := HH8.out.cell 1
        by_cases k1 : h0 < 1
        · have v0 : decide (h0 < 1) = true := by simp; omega
          clear hb
          go_wp2_with fail
          go_ret
          exact Ret.mk (by simp) HE8.out
        by_cases k2 : 255 < h0
        · have v0 : decide (h0 < 1) = false := by simp; omega
          have v1 : decide (255 < h0) = true := by simp; omega
          clear hb
          go_wp2_with fail
          go_ret
          exact Ret.mk (by simp) HE8.out
        by_cases k3 : h1 < 0
        · have v0 : decide (h0 < 1) = false := by simp; omega
          have v1 : decide (255 < h0) = false := by simp; omega
          have v2 : decide (h1 < 0) = true := by simp; omega
          clear hb
          go_wp2_with fail
          go_ret
          exact Ret.mk (by simp) HE8.out
        have v0 : decide (h0 < 1) = false := by simp; omega
        have v1 : decide (255 < h0) = false := by simp; omega
        have v2 : decide (h1 < 0) = false := by simp; omega
        have v3 : decide (255 < h1) = true := by simp; omega
        clear hb
        go_wp2_with fail
        go_ret
        exact Ret.mk (by simp) HE8.out
    · have u1 : decide ((n : Int) ≤ 1099511627776) = false := by simp; omega
      have u2 : decide (1099511627776 < (n : Int)) = true := by simp; omega
      have KA := hid (fun W => Age_no n (by omega) W)
      clear h40
      go_wp2_with fail
      refine (KA.out _).mono ?_
      rintro e1 w6 ⟨rfl, hb6⟩
      have HE6 := hid (HE5.out.trans hb6)
      have HH6 := hid (HH5.out.ext hb6)
      clear hb6
      have y0 : w6.cell? ⟨w.heap.size + 1, 0, none⟩ = some (.int .i64 h0) := HH6.out.cell 0
      have y1 : w6.cell? ⟨w.heap.size + 1, 1, none⟩ = some (.int .i64 h1) := HH6.out.cell 1
      by_cases hm : mayB h0 h1 = true
      · have hb : 1 ≤ h0 ∧ h0 ≤ 255 ∧ 0 ≤ h1 ∧ h1 ≤ 255 := by simp [mayB] at hm; omega
        obtain ⟨l, rfl⟩ := Int.eq_ofNat_of_zero_le (show 0 ≤ h0 by omega)
        obtain ⟨c, rfl⟩ := Int.eq_ofNat_of_zero_le (show 0 ≤ h1 by omega)
        have KH := hid (fun W => Hops_yes l c hm W)
        have KG := hid (fun W => r14Hops l c (by omega) (by omega) W)
        have v1 : decide ((l : Int) < 1) = false := by simp; omega
        have v2 : decide (255 < (l : Int)) = false := by simp; omega
        have v3 : decide (255 < (c : Int)) = false := by simp; omega
        generalize (130 : UInt8) :: (headL 0 l ++ headL 0 c) = X at *
        clear hm hb
        go_wp2_with fail
        clear y0 y1
        refine (KH.out _).mono ?_
        rintro e1 w7 ⟨rfl, hb7⟩
        have HE7 := hid (HE6.out.trans hb7)
        have HH7 := hid (HH6.out.ext hb7)
        clear hb7
        have y0 : w7.cell? ⟨w.heap.size + 1, 0, none⟩ = some (.int .i64 (l : Int)) := HH7.out.cell 0
        have y1 : w7.cell? ⟨w.heap.size + 1, 1, none⟩ = some (.int .i64 (c : Int)) := HH7.out.cell 1
        go_wp2_with fail
        clear y0 y1
        refine (KG.out _).mono ?_
        rintro e1 wz ⟨rfl, hbz⟩
        go_wp2_with fail
        go_ret
        exact Ret.mk (by simp) (HE7.out.trans hbz)
      · have hm2 : mayB h0 h1 = false := by simpa using hm
        have KH := hid (fun W => Hops_no h0 h1 hm2 W)
        have hb : h0 < 1 ∨ 255 < h0 ∨ h1 < 0 ∨ 255 < h1 := by simp [mayB] at hm2; omega
        clear hm hm2
        go_wp2_with fail
        clear y0 y1
        refine (KH.out _).mono ?_
        rintro e1 w7 ⟨rfl, hb7⟩
        have HE7 := hid (HE6.out.trans hb7)
        have HH7 := hid (HH6.out.ext hb7)
        clear hb7
        have y0 : w7.cell? ⟨w.heap.size + 1, 0, none⟩ = some (.int .i64 h0) := HH7.out.cell 0
        have y1 : w7.cell? ⟨w.heap.size + 1, 1, none⟩ = some (.int .i64 h1) := HH7.out.cell 1
        by_cases k1 : h0 < 1
        · have v0 : decide (h0 < 1) = true := by simp; omega
          clear hb
          go_wp2_with fail
          go_ret
          exact Ret.mk (by simp) HE7.out
        by_cases k2 : 255 < h0
        · have v0 : decide (h0 < 1) = false := by simp; omega
          have v1 : decide (255 < h0) = true := by simp; omega
          clear hb
          go_wp2_with fail
          go_ret
          exact Ret.mk (by simp) HE7.out
        by_cases k3 : h1 < 0
        · have v0 : decide (h0 < 1) = false := by simp; omega
          have v1 : decide (255 < h0) = false := by simp; omega
          have v2 : decide (h1 < 0) = true := by simp; omega
          clear hb
          go_wp2_with fail
          go_ret
          exact Ret.mk (by simp) HE7.out
        have v0 : decide (h0 < 1) = false := by simp; omega
        have v1 : decide (255 < h0) = false := by simp; omega
        have v2 : decide (h1 < 0) = false := by simp; omega
        have v3 : decide (255 < h1) = true := by simp; omega
        clear hb
        go_wp2_with fail
        go_ret
        exact Ret.mk (by simp) HE7.out
  · have ho2 : e.ok = false := by simpa using ho
    have KP := hid (fun W => Prev_no e (by unfold Hid; omega) ho2 W)
    rw [ho2] at KR
    clear ho ho2 hl HBB
    go_wp2_with (refine wpList_row (by rfl) 24 _ rfl _ rfl HB2.out Try.underlying24 rfl (by kernel_rfl) ?_)
    refine (KP.out _).mono ?_
    rintro e1 w3 ⟨rfl, hb3⟩
    have HE3 := hid (HE2.out.trans hb3)
    have HB3 := hid (HB2.out.ext hb3)
    have HH3 := hid (HH2.out.ext hb3)
    clear hb3
    go_wp2_with (refine wpList_row (by rfl) 24 _ rfl _ rfl HB3.out Try.underlying24 rfl (by kernel_rfl) ?_)
    refine (KR.out _).mono ?_
    rintro e1 w4 ⟨rfl, hb4⟩
    have HE4 := hid (HE3.out.trans hb4)
    have HB4 := hid (HB3.out.ext hb4)
    have HH4 := hid (HH3.out.ext hb4)
    clear hb4
    by_cases h40 : n ≤ 1099511627776
    · have u1 : decide ((n : Int) ≤ 1099511627776) = true := by simp; omega
      have u2 : decide (1099511627776 < (n : Int)) = false := by simp; omega
      have KA := hid (fun W => Age_yes n h40 W)
      have KG2 := hid (fun W => r14Age n hn.out W)
      generalize headL 0 n = Y at *
      clear h40
      go_wp2_with fail
      refine (KA.out _).mono ?_
      rintro e1 w5 ⟨rfl, hb5⟩
      have HE5 := hid (HE4.out.trans hb5)
      have HH5 := hid (HH4.out.ext hb5)
      clear hb5
      go_wp2_with fail
      refine (KG2.out _).mono ?_
      rintro e1 w6 ⟨rfl, hb6⟩
      have HE6 := hid (HE5.out.trans hb6)
      have HH6 := hid (HH5.out.ext hb6)
      clear hb6
      have y0 : w6.cell? ⟨w.heap.size + 1, 0, none⟩ = some (.int .i64 h0) := HH6.out.cell 0
      have y1 : w6.cell? ⟨w.heap.size + 1, 1, none⟩ = some (.int .i64 h1) := HH6.out.cell 1
      by_cases hm : mayB h0 h1 = true
      · have hb : 1 ≤ h0 ∧ h0 ≤ 255 ∧ 0 ≤ h1 ∧ h1 ≤ 255 := by simp [mayB] at hm; omega
        obtain ⟨l, rfl⟩ := Int.eq_ofNat_of_zero_le (show 0 ≤ h0 by omega)
        obtain ⟨c, rfl⟩ := Int.eq_ofNat_of_zero_le (show 0 ≤ h1 by omega)
        have KH := hid (fun W => Hops_yes l c hm W)
        have KG := hid (fun W => r14Hops l c (by omega) (by omega) W)
        have v1 : decide ((l : Int) < 1) = false := by simp; omega
        have v2 : decide (255 < (l : Int)) = false := by simp; omega
        have v3 : decide (255 < (c : Int)) = false := by simp; omega
        generalize (130 : UInt8) :: (headL 0 l ++ headL 0 c) = X at *
        clear hm hb
        go_wp2_with fail
        clear y0 y1
        refine (KH.out _).mono ?_
        rintro e1 w7 ⟨rfl, hb7⟩
        have HE7 := hid (HE6.out.trans hb7)
        have HH7 := hid (HH6.out.ext hb7)
        clear hb7
        have y0 : w7.cell? ⟨w.heap.size + 1, 0, none⟩ = some (.int .i64 (l : Int)) := HH7.out.cell 0
        have y1 : w7.cell? ⟨w.heap.size + 1, 1, none⟩ = some (.int .i64 (c : Int)) := HH7.out.cell 1
        go_wp2_with fail
        clear y0 y1
        refine (KG.out _).mono ?_
        rintro e1 wz ⟨rfl, hbz⟩
        go_wp2_with fail
        go_ret
        exact Ret.mk (by simp) (HE7.out.trans hbz)
      · have hm2 : mayB h0 h1 = false := by simpa using hm
        have KH := hid (fun W => Hops_no h0 h1 hm2 W)
        have hb : h0 < 1 ∨ 255 < h0 ∨ h1 < 0 ∨ 255 < h1 := by simp [mayB] at hm2; omega
        clear hm hm2
        go_wp2_with fail
        clear y0 y1
        refine (KH.out _).mono ?_
        rintro e1 w7 ⟨rfl, hb7⟩
        have HE7 := hid (HE6.out.trans hb7)
        have HH7 := hid (HH6.out.ext hb7)
        clear hb7
        have y0 : w7.cell? ⟨w.heap.size + 1, 0, none⟩ = some (.int .i64 h0) := HH7.out.cell 0
        have y1 : w7.cell? ⟨w.heap.size + 1, 1, none⟩ = some (.int .i64 h1) := HH7.out.cell 1
        by_cases k1 : h0 < 1
        · have v0 : decide (h0 < 1) = true := by simp; omega
          clear hb
          go_wp2_with fail
          go_ret
          exact Ret.mk (by simp) HE7.out
        by_cases k2 : 255 < h0
        · have v0 : decide (h0 < 1) = false := by simp; omega
          have v1 : decide (255 < h0) = true := by simp; omega
          clear hb
          go_wp2_with fail
          go_ret
          exact Ret.mk (by simp) HE7.out
        by_cases k3 : h1 < 0
        · have v0 : decide (h0 < 1) = false := by simp; omega
          have v1 : decide (255 < h0) = false := by simp; omega
          have v2 : decide (h1 < 0) = true := by simp; omega
          clear hb
          go_wp2_with fail
          go_ret
          exact Ret.mk (by simp) HE7.out
        have v0 : decide (h0 < 1) = false := by simp; omega
        have v1 : decide (255 < h0) = false := by simp; omega
        have v2 : decide (h1 < 0) = false := by simp; omega
        have v3 : decide (255 < h1) = true := by simp; omega
        clear hb
        go_wp2_with fail
        go_ret
        exact Ret.mk (by simp) HE7.out
    · have u1 : decide ((n : Int) ≤ 1099511627776) = false := by simp; omega
      have u2 : decide (1099511627776 < (n : Int)) = true := by simp; omega
      have KA := hid (fun W => Age_no n (by omega) W)
      clear h40
      go_wp2_with fail
      refine (KA.out _).mono ?_
      rintro e1 w5 ⟨rfl, hb5⟩
      have HE5 := hid (HE4.out.trans hb5)
      have HH5 := hid (HH4.out.ext hb5)
      clear hb5
      have y0 : w5.cell? ⟨w.heap.size + 1, 0, none⟩ = some (.int .i64 h0) := HH5.out.cell 0
      have y1 : w5.cell? ⟨w.heap.size + 1, 1, none⟩ = some (.int .i64 h1) := HH5.out.cell 1
      by_cases hm : mayB h0 h1 = true
      · have hb : 1 ≤ h0 ∧ h0 ≤ 255 ∧ 0 ≤ h1 ∧ h1 ≤ 255 := by simp [mayB] at hm; omega
        obtain ⟨l, rfl⟩ := Int.eq_ofNat_of_zero_le (show 0 ≤ h0 by omega)
        obtain ⟨c, rfl⟩ := Int.eq_ofNat_of_zero_le (show 0 ≤ h1 by omega)
        have KH := hid (fun W => Hops_yes l c hm W)
        have KG := hid (fun W => r14Hops l c (by omega) (by omega) W)
        have v1 : decide ((l : Int) < 1) = false := by simp; omega
        have v2 : decide (255 < (l : Int)) = false := by simp; omega
        have v3 : decide (255 < (c : Int)) = false := by simp; omega
        generalize (130 : UInt8) :: (headL 0 l ++ headL 0 c) = X at *
        clear hm hb
        go_wp2_with fail
        clear y0 y1
        refine (KH.out _).mono ?_
        rintro e1 w6 ⟨rfl, hb6⟩
        have HE6 := hid (HE5.out.trans hb6)
        have HH6 := hid (HH5.out.ext hb6)
        clear hb6
        have y0 : w6.cell? ⟨w.heap.size + 1, 0, none⟩ = some (.int .i64 (l : Int)) := HH6.out.cell 0
        have y1 : w6.cell? ⟨w.heap.size + 1, 1, none⟩ = some (.int .i64 (c : Int)) := HH6.out.cell 1
        go_wp2_with fail
        clear y0 y1
        refine (KG.out _).mono ?_
        rintro e1 wz ⟨rfl, hbz⟩
        go_wp2_with fail
        go_ret
        exact Ret.mk (by simp) (HE6.out.trans hbz)
      · have hm2 : mayB h0 h1 = false := by simpa using hm
        have KH := hid (fun W => Hops_no h0 h1 hm2 W)
        have hb : h0 < 1 ∨ 255 < h0 ∨ h1 < 0 ∨ 255 < h1 := by simp [mayB] at hm2; omega
        clear hm hm2
        go_wp2_with fail
        clear y0 y1
        refine (KH.out _).mono ?_
        rintro e1 w6 ⟨rfl, hb6⟩
        have HE6 := hid (HE5.out.trans hb6)
        have HH6 := hid (HH5.out.ext hb6)
        clear hb6
        have y0 : w6.cell? ⟨w.heap.size + 1, 0, none⟩ = some (.int .i64 h0) := HH6.out.cell 0
        have y1 : w6.cell? ⟨w.heap.size + 1, 1, none⟩ = some (.int .i64 h1) := HH6.out.cell 1
        by_cases k1 : h0 < 1
        · have v0 : decide (h0 < 1) = true := by simp; omega
          clear hb
          go_wp2_with fail
          go_ret
          exact Ret.mk (by simp) HE6.out
        by_cases k2 : 255 < h0
        · have v0 : decide (h0 < 1) = false := by simp; omega
          have v1 : decide (255 < h0) = true := by simp; omega
          clear hb
          go_wp2_with fail
          go_ret
          exact Ret.mk (by simp) HE6.out
        by_cases k3 : h1 < 0
        · have v0 : decide (h0 < 1) = false := by simp; omega
          have v1 : decide (255 < h0) = false := by simp; omega
          have v2 : decide (h1 < 0) = true := by simp; omega
          clear hb
          go_wp2_with fail
          go_ret
          exact Ret.mk (by simp) HE6.out
        have v0 : decide (h0 < 1) = false := by simp; omega
        have v1 : decide (255 < h0) = false := by simp; omega
        have v2 : decide (h1 < 0) = false := by simp; omega
        have v3 : decide (255 < h1) = true := by simp; omega
        clear hb
        go_wp2_with fail
        go_ret
        exact Ret.mk (by simp) HE6.out
end Go.Proofs.Ytagjhkknefiieaa
