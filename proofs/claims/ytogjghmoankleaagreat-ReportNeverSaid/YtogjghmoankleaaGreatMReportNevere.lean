/-
  Reports: Build; the one that wakes; the reference's Right.
  Reports: the reference's Right, bit.
  slices.Clone of items.
  The code's sums: divide, X25, Castagnoli, Size, Sum.
  The code's sums' bytes.
  strings.Repeat: the library's contract, at this program.
  Primaries: the sum put in.
  Primaries: the item and the bytes, as the code makes them.
  The reference's sums.
  The reference's sums, whole.
  A block's item, without a sum.
  A block without a sum: its item, its bytes; the block that the laws wake the program by.
  A block's bytes; the block that the laws wake the program by.
-/
import Derived.Test.YtogjghmoankleaaGreatMReportNeverd
import Derived.Lib.SliceRun
import Derived.Laws.BitsAllLaws
import Derived.Shelf.Strings.Repeat

namespace Go.Proofs.YtogjghmoankleaaGreat
open Go.RowKit
set_option linter.unusedVariables false
set_option linter.unusedSimpArgs false

theorem IDV.named_spec {i : IDV} (h : i.named = true) : i.src.ok = true ∧ i.t ≤ 1099511627776 ∧ i.q ≤ 1099511627776 ∧ i.n ≤ 1099511627776 ∧ (if i.fr then i.o < i.n else i.o = 0 ∧ i.n = 0) := by
  unfold IDV.named IDV.low at h
  simp only [Bool.and_eq_true, decide_eq_true_eq] at h
  obtain ⟨⟨⟨h1, h2⟩, h3⟩, h4, h5⟩ := h
  refine ⟨h4, h1, h2, h3, ?_⟩
  cases hf : i.fr with
  | true => rw [hf] at h5; simpa using h5
  | false => rw [hf] at h5; simpa using h5
theorem RV.right_spec {r : RV} (h : r.right = true) : (r.here || r.gone) = true ∧ 0 ≤ r.reason ∧ r.reason ≤ 65535 ∧ r.of.named = true := by
  unfold RV.right at h
  simp only [Bool.and_eq_true, decide_eq_true_eq] at h
  exact ⟨h.1.1.1, h.1.1.2, h.1.2, h.2⟩
theorem bitT_all (b : Bool) : (bitT b).ok ∧ (∀ d, 1 ≤ d → (bitT b).right d = true) ∧ (bitT b).size ≤ 100 ∧ (bitT b).bytes = headL 0 (if b then 1 else 0) := by
  cases b <;> exact numT_all _ (by decide)
theorem two_all {x y : T} {d : Nat} (hx : x.ok ∧ (∀ e, d ≤ e → x.right e = true) ∧ x.size ≤ 100) (hy : y.ok ∧ (∀ e, d ≤ e → y.right e = true) ∧ y.size ≤ 100) : (listT [x, y]).ok ∧ (∀ e, d + 1 ≤ e → (listT [x, y]).right e = true) ∧ (listT [x, y]).size ≤ 201 := by
  refine ⟨listT_ok (by simp) ?_, fun e he => listT_right (by omega) (by simp) ?_, Nat.le_trans (listT_size (B := 100) ?_) (by simp)⟩
  · intro t ht; simp at ht; rcases ht with rfl | rfl; exact hx.1; exact hy.1
  · intro t ht; simp at ht; rcases ht with rfl | rfl; exact hx.2.1 _ (by omega); exact hy.2.1 _ (by omega)
  · intro t ht; simp at ht; rcases ht with rfl | rfl; exact hx.2.2; exact hy.2.2
theorem RV.body_all {r : RV} (h : r.right = true) : r.body.length ≤ 6 ∧ ∀ t ∈ r.body, t.ok ∧ (∀ d, 3 ≤ d → t.right d = true) ∧ t.size ≤ 201 := by
  obtain ⟨_, h2, h3, h4⟩ := RV.right_spec h
  obtain ⟨k1, k2, k3, k4, k5⟩ := IDV.named_spec h4
  have ho : r.of.o < 18446744073709551616 := by
    cases hf : r.of.fr with
    | true => rw [hf] at k5; simp at k5; omega
    | false => rw [hf] at k5; simp at k5; omega
  have nm : ∀ n, n < 18446744073709551616 → (numT n).ok ∧ (∀ d, 1 ≤ d → (numT n).right d = true) ∧ (numT n).size ≤ 100 := fun n hn => ⟨(numT_all n hn).1, (numT_all n hn).2.1, (numT_all n hn).2.2.1⟩
  have bt : ∀ b, (bitT b).ok ∧ (∀ d, 1 ≤ d → (bitT b).right d = true) ∧ (bitT b).size ≤ 100 := fun b => ⟨(bitT_all b).1, (bitT_all b).2.1, (bitT_all b).2.2.1⟩
  have wk : ∀ {t : T} {d B : Nat}, d ≤ 3 → B ≤ 201 → (t.ok ∧ (∀ e, d ≤ e → t.right e = true) ∧ t.size ≤ B) → t.ok ∧ (∀ e, 3 ≤ e → t.right e = true) ∧ t.size ≤ 201 := fun hd hB h => ⟨h.1, fun e he => h.2.1 e (by omega), by have := h.2.2; omega⟩
  have a1 := wk (by decide) (by decide) (two_all (bt r.here) (bt r.gone))
  have a2 := wk (by decide) (by decide) (nm r.reason.toNat (by omega))
  have a3 := wk (Nat.le_refl 3) (by decide) (t := eidT r.of.src) (B := 100) ⟨(eidT_ok k1).1, (eidT_ok k1).2.1, eidT_small k1⟩
  have a4 := wk (by decide) (by decide) (two_all (nm r.of.t (by omega)) (nm r.of.q (by omega)))
  have a5 := wk (by decide) (by decide) (nm r.of.o ho)
  have a6 := wk (by decide) (by decide) (nm r.of.n (by omega))
  unfold RV.body
  refine ⟨by split <;> simp, fun t ht => ?_⟩
  rw [List.mem_append] at ht
  rcases ht with ht | ht
  · simp at ht
    rcases ht with rfl | rfl | rfl | rfl
    · exact a1
    · exact a2
    · exact a3
    · exact a4
  · split at ht
    · simp at ht
      rcases ht with rfl | rfl
      · exact a5
      · exact a6
    · simp at ht
theorem RV.tree_all {r : RV} (h : r.right = true) : r.tree.ok ∧ (∀ d, 5 ≤ d → r.tree.right d = true) ∧ r.tree.size ≤ 10000 := by
  obtain ⟨hl, hb⟩ := RV.body_all h
  have hs : (listT r.body).size ≤ 1300 := by
    have := listT_size (L := r.body) (B := 201) (fun t ht => (hb t ht).2.2)
    have : r.body.length * 201 ≤ 6 * 201 := Nat.mul_le_mul_right _ hl
    omega
  have n1 := numT_all 1 (by decide)
  unfold RV.tree
  refine ⟨listT_ok (by simp) ?_, fun e he => listT_right (by omega) (by simp) ?_, Nat.le_trans (listT_size (B := 1300) ?_) (by simp)⟩
  · intro t ht; simp at ht; rcases ht with rfl | rfl
    · exact n1.1
    · exact listT_ok (by omega) (fun t ht => (hb t ht).1)
  · intro t ht; simp at ht; rcases ht with rfl | rfl
    · exact n1.2.1 _ (by omega)
    · exact listT_right (by omega) (by omega) (fun t ht => (hb t ht).2.1 _ (by omega))
  · intro t ht; simp at ht; rcases ht with rfl | rfl
    · have := n1.2.2.1; omega
    · exact hs
def rbuildV (r : RV) : Value := if r.right then .tuple #[str r.bytes, .int .i64 0] else .tuple #[str [], .int .i64 1]
set_option maxRecDepth 20000 in
set_option maxHeartbeats 1600000 in
theorem repBuild_any (r : RV) (hw : r.of.wf) (w : World) : Calls Tryz.prog 13 #[repV r] w (Ret (rbuildV r) w) := by
  have HB := hid (Blk.new w 29 (repC r))
  have HE := hid ((Mod.refl [] w).alloc (.cells (repC r) 29))
  have KR := hid (fun W => repRight_any r hw W)
  clear hw
  go_enter Tryz.func13, Tryz.ntmps13
  go_upto_region 1 with fail
  generalize w.alloc (.cells (repC r) 29) = V at *
  have HBL : Hid (∀ e : Later V, Blk e.x w.heap.size 29 (repC r)) := fun e => HB.out.later e
  obtain ⟨e, he⟩ := Later.self V
  rw [he]
  clear he
  cases hr : r.right with
  | false =>
    have HX : Hid (rbuildV r = .tuple #[str [], .int .i64 1]) := hid (by unfold rbuildV; rw [hr]; rfl)
    rw [hr] at KR
    clear hr
    go_wp2_with (first | (refine wpList_row (by rfl) 29 _ rfl _ rfl (HBL.out _) Tryz.underlying29 rfl (by kernel_rfl) ?_) | (go_at_call 27; refine (Ret.later (KR.out _)).mono ?_; rintro x _ ⟨rfl, e, rfl⟩))
    go_ret2
    exact Ret.mk (by rw [HX.out]; rfl) (HE.out.trans e.h)
  | true =>
    have HX : Hid (rbuildV r = .tuple #[str r.tree.bytes, .int .i64 0]) := hid (by unfold rbuildV; rw [hr]; rfl)
    have HBV : Hid (buildV r.tree = .tuple #[str r.tree.bytes, .int .i64 0]) := hid (by unfold buildV; rw [(RV.tree_all hr).2.1 8 (by decide)]; rfl)
    have KT := hid (fun W => toItem_any r hr W)
    have KB := hid (fun W A c h => iBuild_any r.tree (RV.tree_all hr).1 (Nat.le_trans (RV.tree_all hr).2.2 (by decide)) A c W h)
    rw [hr] at KR
    clear hr
    rw [HBV.out] at KB
    generalize r.tree.bytes = bs at *
    have tk1 : True := trivial
    have tk2 : True := trivial
    go_upto_region 3 with (first | (clear tk1; refine wpList_row (by rfl) 29 _ rfl _ rfl (HBL.out _) Tryz.underlying29 rfl (by kernel_rfl) ?_) | (go_at_call 27; refine (Ret.later (KR.out _)).mono ?_; rintro x _ ⟨rfl, e, rfl⟩))
    clear KR
    go_wp2_with (first | (clear tk2; refine wpList_row (by rfl) 29 _ rfl _ rfl (HBL.out _) Tryz.underlying29 rfl (by kernel_rfl) ?_) | (go_at_call 29; refine (KT.out _).mono ?_; rintro x w2 ⟨A, c, rfl, hb2, hl2⟩; have HL2 := hid (IsL.weak (fun _ _ _ => trivial) _ hl2); have HE2 := hid (e.h.trans hb2); clear hl2 hb2) | (go_at_call 28; refine (KB.out _ _ _ HL2.out).mono ?_; rintro x w3 ⟨rfl, hb3⟩; have HE3 := hid (HE2.out.trans hb3); clear hb3))
    go_ret2
    exact Ret.mk (by rw [HX.out]; rfl) (HE.out.trans HE3.out)
def awR : RV := ⟨true, false, 0, ⟨⟨2, [], 1, 0⟩, 5, 0, false, 0, 0⟩⟩
theorem awake_rep : rbuildV awR = .tuple #[str [130, 1, 132, 130, 1, 0, 0, 130, 2, 130, 1, 0, 130, 5, 0], .int .i64 0] := by
  have h1 : awR.right = true := by decide
  have h2 : awR.bytes = [130, 1, 132, 130, 1, 0, 0, 130, 2, 130, 1, 0, 130, 5, 0] := by decide
  rw [rbuildV, h1, h2]; rfl
set_option maxRecDepth 20000 in
theorem awake25_any (w : World) : Calls Tryz.prog 5 #[] w (Ret (.bool true) w) := by
  have KB := hid (fun W => repBuild_any awR (by unfold IDV.wf awR; simp) W)
  rw [awake_rep] at KB
  go_enter Tryz.func5, Tryz.ntmps5
  go_wp2_with fail
  refine (KB.out _).mono ?_
  rintro e w1 ⟨rfl, hb1⟩
  go_wp2_with fail
  go_ret
  exact Ret.mk rfl hb1
end Go.Proofs.YtogjghmoankleaaGreat


namespace Go.Proofs.YtogjghmoankleaaGreat
open Go.RowKit
set_option linter.unusedVariables false
set_option linter.unusedSimpArgs false

set_option maxRecDepth 20000 in
set_option maxHeartbeats 4000000 in
theorem r25Right_any (r : RV) (w : World) : Calls Tryz.prog 17 #[repV r] w (Ret (.bool r.right) w) := by
  have HE := hid ((Mod.refl [] w).alloc (.cells (repC r) 29))
  have HB0 := hid (Blk.new w 29 (repC r))
  have KE := hid (fun W => r10_any r.of.src W)
  have HR : Hid (r.right = ((r.here || r.gone) && decide (0 ≤ r.reason) && decide (r.reason ≤ 65535) && r.of.named)) := rfl
  go_enter Tryz.func17, Tryz.ntmps17
  go_upto_region 1 with fail
  generalize w.alloc (.cells (repC r) 29) = V at *
  have b0 : ∀ e : Later V, e.x.cell? ⟨w.heap.size, 0, none⟩ = some (.bool r.here) := HB0.out.cellL 0 rfl
  have b1 : ∀ e : Later V, e.x.cell? ⟨w.heap.size, 1, none⟩ = some (.bool r.gone) := HB0.out.cellL 1 rfl
  have b2 : ∀ e : Later V, e.x.cell? ⟨w.heap.size, 2, none⟩ = some (.int .i64 r.reason) := HB0.out.cellL 2 rfl
  have b7 : ∀ e : Later V, e.x.cell? ⟨w.heap.size, 7, none⟩ = some (.int .u64 (r.of.t : Int)) := HB0.out.cellL 7 rfl
  have b8 : ∀ e : Later V, e.x.cell? ⟨w.heap.size, 8, none⟩ = some (.int .u64 (r.of.q : Int)) := HB0.out.cellL 8 rfl
  have b9 : ∀ e : Later V, e.x.cell? ⟨w.heap.size, 9, none⟩ = some (.bool r.of.fr) := HB0.out.cellL 9 rfl
  have b10 : ∀ e : Later V, e.x.cell? ⟨w.heap.size, 10, none⟩ = some (.int .u64 (r.of.o : Int)) := HB0.out.cellL 10 rfl
  have b11 : ∀ e : Later V, e.x.cell? ⟨w.heap.size, 11, none⟩ = some (.int .u64 (r.of.n : Int)) := HB0.out.cellL 11 rfl
  have HRE : Hid (∀ e : Later V, e.x.rangeAt w.heap.size 3 [.int .i64 r.of.src.sch, str r.of.src.name, .int .u64 (r.of.src.node : Int), .int .u64 (r.of.src.svc : Int)]) := HB0.out.range 3 4 (by rfl)
  clear HB0
  obtain ⟨e, he⟩ := Later.self V
  rw [he]
  clear he
  cases hh : r.here with
  | false =>
    rw [hh] at b0
    cases hg : r.gone with
    | false =>
      rw [hg] at b1
      have HX : Hid (r.right = false) := hid (by rw [HR.out, hh, hg]; rfl)
      clear hh hg
      go_wp2_with fail
      go_ret
      exact Ret.mk (by rw [HX.out]; rfl) (HE.out.trans e.h)
    | true =>
      rw [hg] at b1
      have HOR : Hid ((r.here || r.gone) = true) := hid (by rw [hh, hg]; rfl)
      clear hh hg
      by_cases h1 : r.reason < 0
      case pos =>
        have paa : decide (r.reason < 0) = true := decide_eq_true (by exact h1)
        have pab : (r.reason < 0) = True := eq_true (by exact h1)
        have HX : Hid (r.right = false) := hid (by rw [HR.out, decide_eq_false (show ¬ 0 ≤ r.reason by omega), Bool.and_false]; rfl)
        have tk1 : True := trivial
        go_wp2_with fail
        go_ret
        exact Ret.mk (by rw [HX.out]; first | rfl | simp) (HE.out.trans e.h)
      have paa : decide (r.reason < 0) = false := decide_eq_false (by exact h1)
      have pab : (r.reason < 0) = False := eq_false (by exact h1)
      by_cases h2 : 65535 < r.reason
      case pos =>
        have pba : decide (65535 < r.reason) = true := decide_eq_true (by exact h2)
        have pbb : (65535 < r.reason) = True := eq_true (by exact h2)
        have HX : Hid (r.right = false) := hid (by rw [HR.out, decide_eq_false (show ¬ r.reason ≤ 65535 by omega), Bool.and_false]; rfl)
        have tk1 : True := trivial
        go_wp2_with fail
        go_ret
        exact Ret.mk (by rw [HX.out]; first | rfl | simp) (HE.out.trans e.h)
      have pba : decide (65535 < r.reason) = false := decide_eq_false (by exact h2)
      have pbb : (65535 < r.reason) = False := eq_false (by exact h2)
      have HRN : Hid (r.right = r.of.named) := hid (by rw [HR.out, HOR.out, decide_eq_true (show 0 ≤ r.reason by omega), decide_eq_true (show r.reason ≤ 65535 by omega)]; rfl)
      clear h1 h2
      cases hok : r.of.src.ok with
      | false =>
        rw [hok] at KE
        have HX : Hid (r.right = false) := hid (by rw [HRN.out]; unfold IDV.named; rw [hok]; simp)
        have tk1 : True := trivial
        go_wp2_with (first | (clear tk1; refine wpList_mid (by rfl) 24 _ rfl _ 3 rfl _ _ (HRE.out _) Tryz.underlying24 rfl (by kernel_rfl) ?_) | (go_at_call 33; refine (Ret.later (KE.out _)).mono ?_; rintro x _ ⟨rfl, e, rfl⟩))
        go_ret
        exact Ret.mk (by rw [HX.out]; first | rfl | simp) (HE.out.trans e.h)
      | true =>
        rw [hok] at KE
        have HNM : Hid (r.of.named = (r.of.low && (if r.of.fr then decide (r.of.o < r.of.n) else decide (r.of.o = 0) && decide (r.of.n = 0)))) := hid (by unfold IDV.named; rw [hok]; simp)
        clear hok
        have tk1 : True := trivial
        go_upto_region 4 with (first | (clear tk1; refine wpList_mid (by rfl) 24 _ rfl _ 3 rfl _ _ (HRE.out _) Tryz.underlying24 rfl (by kernel_rfl) ?_) | (go_at_call 33; refine (Ret.later (KE.out _)).mono ?_; rintro x _ ⟨rfl, e, rfl⟩))
        clear KE HRE
        by_cases hua : 1099511627776 < r.of.t
        case pos =>
          have uaa : decide ((1099511627776 : Int) < (r.of.t : Int)) = true := decide_eq_true (by omega)
          have uab : ((1099511627776 : Int) < (r.of.t : Int)) = True := eq_true (by omega)
          have uana : decide (1099511627776 < r.of.t) = true := decide_eq_true (by exact hua)
          have uanb : (1099511627776 < r.of.t) = True := eq_true (by exact hua)
          have HX : Hid (r.right = false) := hid (by rw [HRN.out, HNM.out]; have : r.of.low = false := (by unfold IDV.low; rw [decide_eq_false (show ¬ r.of.t ≤ 1099511627776 by omega)]; rfl); rw [this]; rfl)
          have tk1 : True := trivial
          go_wp2_with fail
          go_ret
          exact Ret.mk (by rw [HX.out]; first | rfl | simp) (HE.out.trans e.h)
        have uaa : decide ((1099511627776 : Int) < (r.of.t : Int)) = false := decide_eq_false (by omega)
        have uab : ((1099511627776 : Int) < (r.of.t : Int)) = False := eq_false (by omega)
        have uana : decide (1099511627776 < r.of.t) = false := decide_eq_false (by exact hua)
        have uanb : (1099511627776 < r.of.t) = False := eq_false (by exact hua)
        by_cases hub : 1099511627776 < r.of.q
        case pos =>
          have uba : decide ((1099511627776 : Int) < (r.of.q : Int)) = true := decide_eq_true (by omega)
          have ubb : ((1099511627776 : Int) < (r.of.q : Int)) = True := eq_true (by omega)
          have ubna : decide (1099511627776 < r.of.q) = true := decide_eq_true (by exact hub)
          have ubnb : (1099511627776 < r.of.q) = True := eq_true (by exact hub)
          have HX : Hid (r.right = false) := hid (by rw [HRN.out, HNM.out]; have : r.of.low = false := (by unfold IDV.low; rw [decide_eq_false (show ¬ r.of.q ≤ 1099511627776 by omega), Bool.and_false]; rfl); rw [this]; rfl)
          have tk1 : True := trivial
          go_wp2_with fail
          go_ret
          exact Ret.mk (by rw [HX.out]; first | rfl | simp) (HE.out.trans e.h)
        have uba : decide ((1099511627776 : Int) < (r.of.q : Int)) = false := decide_eq_false (by omega)
        have ubb : ((1099511627776 : Int) < (r.of.q : Int)) = False := eq_false (by omega)
        have ubna : decide (1099511627776 < r.of.q) = false := decide_eq_false (by exact hub)
        have ubnb : (1099511627776 < r.of.q) = False := eq_false (by exact hub)
        by_cases huc : 1099511627776 < r.of.n
        case pos =>
          have uca : decide ((1099511627776 : Int) < (r.of.n : Int)) = true := decide_eq_true (by omega)
          have ucb : ((1099511627776 : Int) < (r.of.n : Int)) = True := eq_true (by omega)
          have ucna : decide (1099511627776 < r.of.n) = true := decide_eq_true (by exact huc)
          have ucnb : (1099511627776 < r.of.n) = True := eq_true (by exact huc)
          have HX : Hid (r.right = false) := hid (by rw [HRN.out, HNM.out]; have : r.of.low = false := (by unfold IDV.low; rw [decide_eq_false (show ¬ r.of.n ≤ 1099511627776 by omega), Bool.and_false]); rw [this]; rfl)
          have tk1 : True := trivial
          go_wp2_with fail
          go_ret
          exact Ret.mk (by rw [HX.out]; first | rfl | simp) (HE.out.trans e.h)
        have uca : decide ((1099511627776 : Int) < (r.of.n : Int)) = false := decide_eq_false (by omega)
        have ucb : ((1099511627776 : Int) < (r.of.n : Int)) = False := eq_false (by omega)
        have ucna : decide (1099511627776 < r.of.n) = false := decide_eq_false (by exact huc)
        have ucnb : (1099511627776 < r.of.n) = False := eq_false (by exact huc)
        have HLW : Hid (r.right = (if r.of.fr then decide (r.of.o < r.of.n) else decide (r.of.o = 0) && decide (r.of.n = 0))) := hid (by
          rw [HRN.out, HNM.out]
          have : r.of.low = true := (by unfold IDV.low; rw [decide_eq_true (show r.of.t ≤ 1099511627776 by omega), decide_eq_true (show r.of.q ≤ 1099511627776 by omega), decide_eq_true (show r.of.n ≤ 1099511627776 by omega)]; rfl)
          rw [this]; rfl)
        clear hua hub huc HRN HNM
        go_upto_region 6 with fail
        cases hf : r.of.fr with
        | true =>
          rw [hf] at b9
          by_cases ho : r.of.o < r.of.n
          case pos =>
            have vaa : decide (r.of.o < r.of.n) = true := decide_eq_true (by exact ho)
            have vab : (r.of.o < r.of.n) = True := eq_true (by exact ho)
            have vba : decide ((r.of.o : Int) < (r.of.n : Int)) = true := decide_eq_true (by omega)
            have vbb : ((r.of.o : Int) < (r.of.n : Int)) = True := eq_true (by omega)
            have HX : Hid (r.right = true) := hid (by rw [HLW.out, hf, decide_eq_true ho]; rfl)
            clear hf ho
            have tk1 : True := trivial
            go_wp2_with fail
            go_ret
            exact Ret.mk (by rw [HX.out]; first | rfl | simp) (HE.out.trans e.h)
          case neg =>
            have vaa : decide (r.of.o < r.of.n) = false := decide_eq_false (by exact ho)
            have vab : (r.of.o < r.of.n) = False := eq_false (by exact ho)
            have vba : decide ((r.of.o : Int) < (r.of.n : Int)) = false := decide_eq_false (by omega)
            have vbb : ((r.of.o : Int) < (r.of.n : Int)) = False := eq_false (by omega)
            have HX : Hid (r.right = false) := hid (by rw [HLW.out, hf, decide_eq_false ho]; rfl)
            clear hf ho
            have tk1 : True := trivial
            go_wp2_with fail
            go_ret
            exact Ret.mk (by rw [HX.out]; first | rfl | simp) (HE.out.trans e.h)
        | false =>
          rw [hf] at b9
          by_cases ho : r.of.o = 0
          case pos =>
            have vaa : (((r.of.o : Int)) == (0)) = true := by rw [beq_iff_eq]; omega
            have vab : (((r.of.o : Int)) = (0)) = True := eq_true (by omega)
            have vac : (((r.of.o : Int)) != (0)) = false := by rw [bne_eq_false_iff_eq]; omega
            have vba : ((r.of.o) == (0)) = true := by rw [beq_iff_eq]; exact ho
            have vbb : ((r.of.o) = (0)) = True := eq_true (by exact ho)
            have vbc : ((r.of.o) != (0)) = false := by rw [bne_eq_false_iff_eq]; exact ho
            by_cases hn : r.of.n = 0
            case pos =>
              have vca : (((r.of.n : Int)) == (0)) = true := by rw [beq_iff_eq]; omega
              have vcb : (((r.of.n : Int)) = (0)) = True := eq_true (by omega)
              have vcc : (((r.of.n : Int)) != (0)) = false := by rw [bne_eq_false_iff_eq]; omega
              have vda : ((r.of.n) == (0)) = true := by rw [beq_iff_eq]; exact hn
              have vdb : ((r.of.n) = (0)) = True := eq_true (by exact hn)
              have vdc : ((r.of.n) != (0)) = false := by rw [bne_eq_false_iff_eq]; exact hn
              have HX : Hid (r.right = true) := hid (by rw [HLW.out, hf, decide_eq_true ho, decide_eq_true hn]; rfl)
              clear hf ho hn
              have tk1 : True := trivial
              go_wp2_with fail
              go_ret
              exact Ret.mk (by rw [HX.out]; first | rfl | simp) (HE.out.trans e.h)
            case neg =>
              have vca : (((r.of.n : Int)) == (0)) = false := by rw [beq_eq_false_iff_ne]; omega
              have vcb : (((r.of.n : Int)) = (0)) = False := eq_false (by omega)
              have vcc : (((r.of.n : Int)) != (0)) = true := by rw [bne_iff_ne]; omega
              have vda : ((r.of.n) == (0)) = false := by rw [beq_eq_false_iff_ne]; exact hn
              have vdb : ((r.of.n) = (0)) = False := eq_false (by exact hn)
              have vdc : ((r.of.n) != (0)) = true := by rw [bne_iff_ne]; exact hn
              have HX : Hid (r.right = false) := hid (by rw [HLW.out, hf, decide_eq_false hn, Bool.and_false]; rfl)
              clear hf ho hn
              have tk1 : True := trivial
              go_wp2_with fail
              go_ret
              exact Ret.mk (by rw [HX.out]; first | rfl | simp) (HE.out.trans e.h)
          case neg =>
            have vaa : (((r.of.o : Int)) == (0)) = false := by rw [beq_eq_false_iff_ne]; omega
            have vab : (((r.of.o : Int)) = (0)) = False := eq_false (by omega)
            have vac : (((r.of.o : Int)) != (0)) = true := by rw [bne_iff_ne]; omega
            have vba : ((r.of.o) == (0)) = false := by rw [beq_eq_false_iff_ne]; exact ho
            have vbb : ((r.of.o) = (0)) = False := eq_false (by exact ho)
            have vbc : ((r.of.o) != (0)) = true := by rw [bne_iff_ne]; exact ho
            have HX : Hid (r.right = false) := hid (by rw [HLW.out, hf, decide_eq_false ho]; rfl)
            clear hf ho
            have tk1 : True := trivial
            go_wp2_with fail
            go_ret
            exact Ret.mk (by rw [HX.out]; first | rfl | simp) (HE.out.trans e.h)
  | true =>
    rw [hh] at b0
    have HOR : Hid ((r.here || r.gone) = true) := hid (by rw [hh]; rfl)
    clear hh
    by_cases h1 : r.reason < 0
    case pos =>
      have paa : decide (r.reason < 0) = true := decide_eq_true (by exact h1)
      have pab : (r.reason < 0) = True := eq_true (by exact h1)
      have HX : Hid (r.right = false) := hid (by rw [HR.out, decide_eq_false (show ¬ 0 ≤ r.reason by omega), Bool.and_false]; rfl)
      have tk1 : True := trivial
      go_wp2_with fail
      go_ret
      exact Ret.mk (by rw [HX.out]; first | rfl | simp) (HE.out.trans e.h)
    have paa : decide (r.reason < 0) = false := decide_eq_false (by exact h1)
    have pab : (r.reason < 0) = False := eq_false (by exact h1)
    by_cases h2 : 65535 < r.reason
    case pos =>
      have pba : decide (65535 < r.reason) = true := decide_eq_true (by exact h2)
      have pbb : (65535 < r.reason) = True := eq_true (by exact h2)
      have HX : Hid (r.right = false) := hid (by rw [HR.out, decide_eq_false (show ¬ r.reason ≤ 65535 by omega), Bool.and_false]; rfl)
      have tk1 : True := trivial
      go_wp2_with fail
      go_ret
      exact Ret.mk (by rw [HX.out]; first | rfl | simp) (HE.out.trans e.h)
    have pba : decide (65535 < r.reason) = false := decide_eq_false (by exact h2)
    have pbb : (65535 < r.reason) = False := eq_false (by exact h2)
    have HRN : Hid (r.right = r.of.named) := hid (by rw [HR.out, HOR.out, decide_eq_true (show 0 ≤ r.reason by omega), decide_eq_true (show r.reason ≤ 65535 by omega)]; rfl)
    clear h1 h2
    cases hok : r.of.src.ok with
    | false =>
      rw [hok] at KE
      have HX : Hid (r.right = false) := hid (by rw [HRN.out]; unfold IDV.named; rw [hok]; simp)
      have tk1 : True := trivial
      go_wp2_with (first | (clear tk1; refine wpList_mid (by rfl) 24 _ rfl _ 3 rfl _ _ (HRE.out _) Tryz.underlying24 rfl (by kernel_rfl) ?_) | (go_at_call 33; refine (Ret.later (KE.out _)).mono ?_; rintro x _ ⟨rfl, e, rfl⟩))
      go_ret
      exact Ret.mk (by rw [HX.out]; first | rfl | simp) (HE.out.trans e.h)
    | true =>
      rw [hok] at KE
      have HNM : Hid (r.of.named = (r.of.low && (if r.of.fr then decide (r.of.o < r.of.n) else decide (r.of.o = 0) && decide (r.of.n = 0)))) := hid (by unfold IDV.named; rw [hok]; simp)
      clear hok
      have tk1 : True := trivial
      go_upto_region 4 with (first | (clear tk1; refine wpList_mid (by rfl) 24 _ rfl _ 3 rfl _ _ (HRE.out _) Tryz.underlying24 rfl (by kernel_rfl) ?_) | (go_at_call 33; refine (Ret.later (KE.out _)).mono ?_; rintro x _ ⟨rfl, e, rfl⟩))
      clear KE HRE
      by_cases hua : 1099511627776 < r.of.t
      case pos =>
        have uaa : decide ((1099511627776 : Int) < (r.of.t : Int)) = true := decide_eq_true (by omega)
        have uab : ((1099511627776 : Int) < (r.of.t : Int)) = True := eq_true (by omega)
        have uana : decide (1099511627776 < r.of.t) = true := decide_eq_true (by exact hua)
        have uanb : (1099511627776 < r.of.t) = True := eq_true (by exact hua)
        have HX : Hid (r.right = false) := hid (by rw [HRN.out, HNM.out]; have : r.of.low = false := (by unfold IDV.low; rw [decide_eq_false (show ¬ r.of.t ≤ 1099511627776 by omega)]; rfl); rw [this]; rfl)
        have tk1 : True := trivial
        go_wp2_with fail
        go_ret
        exact Ret.mk (by rw [HX.out]; first | rfl | simp) (HE.out.trans e.h)
      have uaa : decide ((1099511627776 : Int) < (r.of.t : Int)) = false := decide_eq_false (by omega)
      have uab : ((1099511627776 : Int) < (r.of.t : Int)) = False := eq_false (by omega)
      have uana : decide (1099511627776 < r.of.t) = false := decide_eq_false (by exact hua)
      have uanb : (1099511627776 < r.of.t) = False := eq_false (by exact hua)
      by_cases hub : 1099511627776 < r.of.q
      case pos =>
        have uba : decide ((1099511627776 : Int) < (r.of.q : Int)) = true := decide_eq_true (by omega)
        have ubb : ((1099511627776 : Int) < (r.of.q : Int)) = True := eq_true (by omega)
        have ubna : decide (1099511627776 < r.of.q) = true := decide_eq_true (by exact hub)
        have ubnb : (1099511627776 < r.of.q) = True := eq_true (by exact hub)
        have HX : Hid (r.right = false) := hid (by rw [HRN.out, HNM.out]; have : r.of.low = false := (by unfold IDV.low; rw [decide_eq_false (show ¬ r.of.q ≤ 1099511627776 by omega), Bool.and_false]; rfl); rw [this]; rfl)
        have tk1 : True := trivial
        go_wp2_with fail
        go_ret
        exact Ret.mk (by rw [HX.out]; first | rfl | simp) (HE.out.trans e.h)
      have uba : decide ((1099511627776 : Int) < (r.of.q : Int)) = false := decide_eq_false (by omega)
      have ubb : ((1099511627776 : Int) < (r.of.q : Int)) = False := eq_false (by omega)
      have ubna : decide (1099511627776 < r.of.q) = false := decide_eq_false (by exact hub)
      have ubnb : (1099511627776 < r.of.q) = False := eq_false (by exact hub)
      by_cases huc : 1099511627776 < r.of.n
      case pos =>
        have uca : decide ((1099511627776 : Int) < (r.of.n : Int)) = true := decide_eq_true (by omega)
        have ucb : ((1099511627776 : Int) < (r.of.n : Int)) = True := eq_true (by omega)
        have ucna : decide (1099511627776 < r.of.n) = true := decide_eq_true (by exact huc)
        have ucnb : (1099511627776 < r.of.n) = True := eq_true (by exact huc)
        have HX : Hid (r.right = false) := hid (by rw [HRN.out, HNM.out]; have : r.of.low = false := (by unfold IDV.low; rw [decide_eq_false (show ¬ r.of.n ≤ 1099511627776 by omega), Bool.and_false]); rw [this]; rfl)
        have tk1 : True := trivial
        go_wp2_with fail
        go_ret
        exact Ret.mk (by rw [HX.out]; first | rfl | simp) (HE.out.trans e.h)
      have uca : decide ((1099511627776 : Int) < (r.of.n : Int)) = false := decide_eq_false (by omega)
      have ucb : ((1099511627776 : Int) < (r.of.n : Int)) = False := eq_false (by omega)
      have ucna : decide (1099511627776 < r.of.n) = false := decide_eq_false (by exact huc)
      have ucnb : (1099511627776 < r.of.n) = False := eq_false (by exact huc)
      have HLW : Hid (r.right = (if r.of.fr then decide (r.of.o < r.of.n) else decide (r.of.o = 0) && decide (r.of.n = 0))) := hid (by
        rw [HRN.out, HNM.out]
        have : r.of.low = true := (by unfold IDV.low; rw [decide_eq_true (show r.of.t ≤ 1099511627776 by omega), decide_eq_true (show r.of.q ≤ 1099511627776 by omega), decide_eq_true (show r.of.n ≤ 1099511627776 by omega)]; rfl)
        rw [this]; rfl)
      clear hua hub huc HRN HNM
      go_upto_region 6 with fail
      cases hf : r.of.fr with
      | true =>
        rw [hf] at b9
        by_cases ho : r.of.o < r.of.n
        case pos =>
          have vaa : decide (r.of.o < r.of.n) = true := decide_eq_true (by exact ho)
          have vab : (r.of.o < r.of.n) = True := eq_true (by exact ho)
          have vba : decide ((r.of.o : Int) < (r.of.n : Int)) = true := decide_eq_true (by omega)
          have vbb : ((r.of.o : Int) < (r.of.n : Int)) = True := eq_true (by omega)
          have HX : Hid (r.right = true) := hid (by rw [HLW.out, hf, decide_eq_true ho]; rfl)
          clear hf ho
          have tk1 : True := trivial
          go_wp2_with fail
          go_ret
          exact Ret.mk (by rw [HX.out]; first | rfl | simp) (HE.out.trans e.h)
        case neg =>
          have vaa : decide (r.of.o < r.of.n) = false := decide_eq_false (by exact ho)
          have vab : (r.of.o < r.of.n) = False := eq_false (by exact ho)
          have vba : decide ((r.of.o : Int) < (r.of.n : Int)) = false := decide_eq_false (by omega)
          have vbb : ((r.of.o : Int) < (r.of.n : Int)) = False := eq_false (by omega)
          have HX : Hid (r.right = false) := hid (by rw [HLW.out, hf, decide_eq_false ho]; rfl)
          clear hf ho
          have tk1 : True := trivial
          go_wp2_with fail
          go_ret
          exact Ret.mk (by rw [HX.out]; first | rfl | simp) (HE.out.trans e.h)
      | false =>
        rw [hf] at b9
        by_cases ho : r.of.o = 0
        case pos =>
          have vaa : (((r.of.o : Int)) == (0)) = true := by rw [beq_iff_eq]; omega
          have vab : (((r.of.o : Int)) = (0)) = True := eq_true (by omega)
          have vac : (((r.of.o : Int)) != (0)) = false := by rw [bne_eq_false_iff_eq]; omega
          have vba : ((r.of.o) == (0)) = true := by rw [beq_iff_eq]; exact ho
          have vbb : ((r.of.o) = (0)) = True := eq_true (by exact ho)
          have vbc : ((r.of.o) != (0)) = false := by rw [bne_eq_false_iff_eq]; exact ho
          by_cases hn : r.of.n = 0
          case pos =>
            have vca : (((r.of.n : Int)) == (0)) = true := by rw [beq_iff_eq]; omega
            have vcb : (((r.of.n : Int)) = (0)) = True := eq_true (by omega)
            have vcc : (((r.of.n : Int)) != (0)) = false := by rw [bne_eq_false_iff_eq]; omega
            have vda : ((r.of.n) == (0)) = true := by rw [beq_iff_eq]; exact hn
            have vdb : ((r.of.n) = (0)) = True := eq_true (by exact hn)
            have vdc : ((r.of.n) != (0)) = false := by rw [bne_eq_false_iff_eq]; exact hn
            have HX : Hid (r.right = true) := hid (by rw [HLW.out, hf, decide_eq_true ho, decide_eq_true hn]; rfl)
            clear hf ho hn
            have tk1 : True := trivial
            go_wp2_with fail
            go_ret
            exact Ret.mk (by rw [HX.out]; first | rfl | simp) (HE.out.trans e.h)
          case neg =>
            have vca : (((r.of.n : Int)) == (0)) = false := by rw [beq_eq_false_iff_ne]; omega
            have vcb : (((r.of.n : Int)) = (0)) = False := eq_false (by omega)
            have vcc : (((r.of.n : Int)) != (0)) = true := by rw [bne_iff_ne]; omega
            have vda : ((r.of.n) == (0)) = false := by rw [beq_eq_false_iff_ne]; exact hn
            have vdb : ((r.of.n) = (0)) = False := eq_false (by exact hn)
            have vdc : ((r.of.n) != (0)) = true := by rw [bne_iff_ne]; exact hn
            have HX : Hid (r.right = false) := hid (by rw [HLW.out, hf, decide_eq_false hn, Bool.and_false]; rfl)
            clear hf ho hn
            have tk1 : True := trivial
            go_wp2_with fail
            go_ret
            exact Ret.mk (by rw [HX.out]; first | rfl | simp) (HE.out.trans e.h)
        case neg =>
          have vaa : (((r.of.o : Int)) == (0)) = false := by rw [beq_eq_false_iff_ne]; omega
          have vab : (((r.of.o : Int)) = (0)) = False := eq_false (by omega)
          have vac : (((r.of.o : Int)) != (0)) = true := by rw [bne_iff_ne]; omega
          have vba : ((r.of.o) == (0)) = false := by rw [beq_eq_false_iff_ne]; exact ho
          have vbb : ((r.of.o) = (0)) = False := eq_false (by exact ho)
          have vbc : ((r.of.o) != (0)) = true := by rw [bne_iff_ne]; exact ho
          have HX : Hid (r.right = false) := hid (by rw [HLW.out, hf, decide_eq_false ho]; rfl)
          clear hf ho
          have tk1 : True := trivial
          go_wp2_with fail
          go_ret
          exact Ret.mk (by rw [HX.out]; first | rfl | simp) (HE.out.trans e.h)
set_option maxRecDepth 20000 in
theorem r25bit_any (b : Bool) (w : World) : Calls Tryz.prog 35 #[.bool b] w (Ret (str [if b then 1 else 0]) w) := by
  cases b with
  | false =>
    go_enter Tryz.func35, Tryz.ntmps35
    go_wp2_with fail
    go_ret
    exact Ret.mk rfl (Mod.refl _ _)
  | true =>
    go_enter Tryz.func35, Tryz.ntmps35
    go_wp2_with fail
    go_ret
    exact Ret.mk rfl (Mod.refl _ _)
end Go.Proofs.YtogjghmoankleaaGreat


namespace Go.Proofs.YtogjghmoankleaaGreat
open Go.RowKit
set_option linter.unusedVariables false
set_option linter.unusedSimpArgs false

set_option maxHeartbeats 800000 in
theorem CloneI_any {Q : Nat → Prop} {kind : Int} {n : Nat} {s : List UInt8} {op : Bool} (ch : Nat → T) (k : Nat) (hk : Hid (0 < k ∧ k ≤ 1000)) (A : Option Addr) (c : Nat) (w : World) (h : IsL w Q (T.mk kind n s op k ch) A) :
    Calls Tryz.prog 116 #[.slice A k c] w (fun e w' => ∃ (g c' : Nat) (ac : Nat → Option Addr × Nat), e = .returned (.slice (some ⟨g, 0, none⟩) k c') ∧ Ext w w' ∧ w.heap.size ≤ g ∧ g < w'.heap.size ∧ w'.ownsRow w.heap.size 64 5 (.slice (some ⟨g, 0, none⟩) k c') k (flatC ch ac k) ∧ ∀ i, i < k → IsL w' Q (ch i) (ac i).1) := by
  have he := Lib.run_eql_slice_nil (P := Tryz.prog)
  obtain ⟨i0, hi, hz0, hz1, hz2⟩ := info_parts infoItem
  obtain ⟨b, o, ac, rfl, hb, hq, hc⟩ := h.rows hk.out.1
  have hl := World.ownsRow_lit (base := w.heap.size) (e := 64) (size := 5) w #[] 0 (Nat.le_refl _) (Nat.zero_le _) rfl
  have hnews : Hid (∀ j u, (flatC ch ac k)[j]? = some u → (w.alloc (.cells #[] 64)).cell? ((⟨b, o, none⟩ : Addr).add j) = some u) := flatC_news fun i hi => (hc i hi).1.mod (S := []) ((Mod.refl _ _).alloc _) hb (by simp)
  have hfl := hid (flatC_length ch ac k)
  have hfc := hid (flatC_one ch ac k)
  have HC := hid hc
  clear hc h
  go_enter Tryz.func116, Tryz.ntmps116
  go_wp2_with (at_builtin; refine wpList_append_own _ rfl _ _ 62 rfl w.heap.size 64 i0 _ 5 64 Tryz.underlying62 hi hz0 hz1 hz2 rfl (by decide) _ _ _ rfl hl ⟨b, o, none⟩ k c (flatC ch ac k) rfl hfl.out hnews.out hfc.out (by have := hk.out; unfold maxLen; omega) (by have := hk.out; omega) (by simp) ?_; intro v' w1 hown' hgrow hnil)
  have hg2 : (w.alloc (.cells #[] 64)).grownBy w1 (some w.heap.size) := hgrow
  have hm : Ext w w1 := ((Mod.refl [] w).alloc (.cells #[] 64)).grown hg2 (fun k hk => .inr (by cases hk; exact Nat.le_refl _))
  have hown2 : w1.ownsRow w.heap.size 64 5 v' k (flatC ch ac k) := by simpa using hown'
  obtain ⟨m, rfl⟩ : ∃ m, k = m + 1 := ⟨k - 1, by have := hk.out.1; omega⟩
  obtain ⟨g, c', rfl, hg, hlt⟩ := own_form hown2
  go_wp2
  go_ret
  exact ⟨g, c', rfl, hm, hg, hlt, ac, hown2, fun i hi => (HC.out i hi).2.ext hm⟩

end Go.Proofs.YtogjghmoankleaaGreat


namespace Go.Proofs.YtogjghmoankleaaGreat
open Go.RowKit
set_option linter.unusedVariables false
set_option linter.unusedSimpArgs false

theorem cell_row8 (w : World) (l : List UInt8) (cap t : Nat) (fz : Nat × Nat) (j : Nat) (h : j < l.length) :
    (w.alloc (.cells (bytesRow ⟨l.toArray⟩ cap) t fz)).cell? ⟨w.heap.size, j, none⟩ = some (.int .u8 (l[j].toNat : Int)) := by
  rw [World.cell?_alloc_mark]
  simp only [bytesRow]
  rw [Array.getElem?_append_left (by simpa using h)]
  simp [h]
theorem Crc.stepC_lt {p s m : Nat} (hp : p < 2 ^ m) (hs : s < 2 ^ m) : Crc.stepC p s < 2 ^ m := by
  unfold Crc.stepC
  split
  · exact Nat.xor_lt_two_pow (by omega) hp
  · omega
theorem Crc.stepsC_lt {p m : Nat} (hp : p < 2 ^ m) : ∀ (k s : Nat), s < 2 ^ m → Crc.stepsC p k s < 2 ^ m
  | 0, s, h => h
  | k + 1, s, h => Crc.stepsC_lt hp k _ (Crc.stepC_lt hp h)
theorem Crc.divC_lt {p m : Nat} (hp : p < 2 ^ m) : ∀ (l : List UInt8) (s : Nat), s < 2 ^ m → 8 ≤ m → Crc.divC p s l < 2 ^ m
  | [], s, h, _ => h
  | c :: l, s, h, h8 => by
    have hc : c.toNat < 2 ^ m := Nat.lt_of_lt_of_le c.toNat_lt (Nat.pow_le_pow_right (by omega) h8)
    have := Crc.divC_lt hp l (Crc.stepsC p 8 (s ^^^ c.toNat)) (Crc.stepsC_lt hp 8 _ (Nat.xor_lt_two_pow h hc)) h8
    exact this

theorem and1_16 {s : Nat} (hs : s < 65536) : bits .and .u16 (s : Int) 1 = ((s % 2 : Nat) : Int) := by
  have := u16_and_nat s 1 hs (by omega)
  rw [Nat.and_one_is_mod] at this
  exact this
theorem xor_16 {s c : Nat} (hs : s < 65536) (hc : c < 65536) : bits .xor .u16 (s : Int) (c : Int) = ((s ^^^ c : Nat) : Int) := u16_xor_nat s c hs hc

set_option maxHeartbeats 400000 in
theorem divide16 (p s : Nat) (hp : Hid (p < 65536)) (hs : Hid (s < 65536)) (l : List UInt8) (hl : Hid (l.length < 1000000)) (w : World) :
    Calls Tryz.prog 133 #[.int .u16 (s : Int), .int .u16 (p : Int), str l] w (Ret (.int .u16 (Crc.divC p s l : Nat)) w) := by
  have hconv := fun (w : World) (s : ByteArray) => run_bytes_of_string (P := Tryz.prog) w 9 99 5 s Tryz.underlying9 Tryz.underlying99 Tryz.underlying5
  obtain ⟨T, hT⟩ : ∃ T, T = Crc.divC p s l := ⟨_, rfl⟩
  rw [← hT]
  have HT := hid hT; clear hT
  go_enter Tryz.func133, Tryz.ntmps133
  go_wp2
  have hext : Ext w (w.alloc (Obj.cells (bytesRow { data := l.toArray } (grownCap w l.length 0 5)) 5 ((bytesRow { data := l.toArray } (grownCap w l.length 0 5)).size, (bytesRow { data := l.toArray } (grownCap w l.length 0 5)).size + 1))).drew := ((Mod.refl _ _).alloc _).drew
  have hcell : ∀ j (h : j < l.length), (w.alloc (Obj.cells (bytesRow { data := l.toArray } (grownCap w l.length 0 5)) 5 ((bytesRow { data := l.toArray } (grownCap w l.length 0 5)).size, (bytesRow { data := l.toArray } (grownCap w l.length 0 5)).size + 1))).drew.cell? ⟨w.heap.size, j, none⟩ = some (.int .u8 (l[j].toNat : Int)) := fun j h => by rw [World.cell?_drew]; exact cell_row8 w l _ _ _ j h
  generalize hW : World.drew (World.alloc w _) = W at *
  have HW := hid hW; clear hW
  have HC := hid hcell; clear hcell
  have HL := hid hl.out
  go_loop [0, 12] (fun n i => ∃ j c : Nat, j ≤ l.length ∧ c < 65536 ∧ i = .int .i64 j ∧ n = .int .u16 (c : Int) ∧ Hid (T = Crc.divC p c (l.drop j))) (fun _ i => l.length - (intOf i).toNat)
  case atStart => exact ⟨0, s, Nat.zero_le _, hs.out, rfl, rfl, HT⟩
  case round =>
    obtain ⟨j, c, hj, hc, rfl, rfl, HR⟩ := hrel
    by_cases hlt : j < l.length
    · have hcc := HC.out j hlt
      generalize hx : l[j] = x at *
      have HX := hid hx; clear hx
      have hx8 := x.toNat_lt
      have tx : IntKind.u16.wrap (x.toNat : Int) = (x.toNat : Int) := IntWalk.u16_in _ (by omega)
      have t2 := xor_16 (s := c) (c := x.toNat) hc (by omega)
      have hcx : c ^^^ x.toNat < 65536 := Nat.xor_lt_two_pow (n := 16) hc (by omega)
      have HS : Hid (T = Crc.divC p (Crc.stepsC p 8 (c ^^^ x.toNat)) (l.drop (j + 1))) := by
        have h1 := HR.out
        rw [List.drop_eq_getElem_cons hlt, HX.out] at h1
        exact h1
      clear HR
      go_wp2
      generalize c ^^^ x.toNat = y at *
      go_loop [0, 20] (fun n i => ∃ k c : Nat, k ≤ 8 ∧ c < 65536 ∧ i = .int .i64 k ∧ n = .int .u16 (c : Int) ∧ Hid (Crc.stepsC p (8 - k) c = Crc.stepsC p 8 y)) (fun _ i => 8 - (intOf i).toNat)
      case atStart => exact ⟨0, y, by omega, hcx, rfl, rfl, rfl⟩
      case round =>
        obtain ⟨k, c, hk, hc, rfl, rfl, HR⟩ := hrel
        by_cases hlt : k < 8
        · have tA := and1_16 hc
          have HN : Hid (Crc.stepsC p (8 - (k + 1)) (Crc.stepC p c) = Crc.stepsC p 8 y) := by
            have h1 := HR.out
            rw [show 8 - k = (8 - (k + 1)) + 1 by omega] at h1
            exact h1
          have hL := Crc.stepC_lt (m := 16) hp.out hc
          clear HR
          rcases Nat.mod_two_eq_zero_or_one c with e | e
          · have hS : Crc.stepC p c = c / 2 := by unfold Crc.stepC; rw [if_neg (by omega)]
            rw [hS] at HN hL
            rw [e] at tA
            go_wp2
            go_round
            case rel => exact ⟨k + 1, c / 2, by omega, hL, by go_num, by simp, HN⟩
            case measure => simp [intOf]; omega
          · have hS : Crc.stepC p c = c / 2 ^^^ p := by unfold Crc.stepC; rw [if_pos e]
            have tX := xor_16 (s := c / 2) (c := p) (by omega) hp.out
            rw [hS] at HN hL
            rw [e] at tA
            go_wp2
            go_round
            case rel => exact ⟨k + 1, c / 2 ^^^ p, by omega, hL, by go_num, by rw [← tX]; simp, HN⟩
            case measure => simp [intOf]; omega
        · obtain rfl : k = 8 := by omega
          have h1 : c = Crc.stepsC p 8 y := HR.out
          have hl2 : l.length < 1000000 := hl.out
          subst h1
          clear HR
          go_wp2
          go_round
          case rel => exact ⟨j + 1, _, by omega, hc, by go_num, rfl, HS⟩
          case measure => simp [intOf]; omega
    · obtain rfl : j = l.length := by omega
      have h1 := HR.out
      rw [List.drop_length] at h1
      have h2 : T = c := h1
      subst h2
      clear HR h1
      go_wp2
      go_ret
      exact ⟨rfl, hext⟩

theorem and1_32 {s : Nat} (hs : s < 4294967296) : bits .and .u32 (s : Int) 1 = ((s % 2 : Nat) : Int) := by
  have := u32_and_nat s 1 hs (by omega)
  rw [Nat.and_one_is_mod] at this
  exact this
theorem xor_32 {s c : Nat} (hs : s < 4294967296) (hc : c < 4294967296) : bits .xor .u32 (s : Int) (c : Int) = ((s ^^^ c : Nat) : Int) := u32_xor_nat s c hs hc

set_option maxHeartbeats 400000 in
theorem divide32 (p s : Nat) (hp : Hid (p < 4294967296)) (hs : Hid (s < 4294967296)) (l : List UInt8) (hl : Hid (l.length < 1000000)) (w : World) :
    Calls Tryz.prog 134 #[.int .u32 (s : Int), .int .u32 (p : Int), str l] w (Ret (.int .u32 (Crc.divC p s l : Nat)) w) := by
  have hconv := fun (w : World) (s : ByteArray) => run_bytes_of_string (P := Tryz.prog) w 9 99 5 s Tryz.underlying9 Tryz.underlying99 Tryz.underlying5
  obtain ⟨T, hT⟩ : ∃ T, T = Crc.divC p s l := ⟨_, rfl⟩
  rw [← hT]
  have HT := hid hT; clear hT
  go_enter Tryz.func134, Tryz.ntmps134
  go_wp2
  have hext : Ext w (w.alloc (Obj.cells (bytesRow { data := l.toArray } (grownCap w l.length 0 5)) 5 ((bytesRow { data := l.toArray } (grownCap w l.length 0 5)).size, (bytesRow { data := l.toArray } (grownCap w l.length 0 5)).size + 1))).drew := ((Mod.refl _ _).alloc _).drew
  have hcell : ∀ j (h : j < l.length), (w.alloc (Obj.cells (bytesRow { data := l.toArray } (grownCap w l.length 0 5)) 5 ((bytesRow { data := l.toArray } (grownCap w l.length 0 5)).size, (bytesRow { data := l.toArray } (grownCap w l.length 0 5)).size + 1))).drew.cell? ⟨w.heap.size, j, none⟩ = some (.int .u8 (l[j].toNat : Int)) := fun j h => by rw [World.cell?_drew]; exact cell_row8 w l _ _ _ j h
  generalize hW : World.drew (World.alloc w _) = W at *
  have HW := hid hW; clear hW
  have HC := hid hcell; clear hcell
  have HL := hid hl.out
  go_loop [0, 12] (fun n i => ∃ j c : Nat, j ≤ l.length ∧ c < 4294967296 ∧ i = .int .i64 j ∧ n = .int .u32 (c : Int) ∧ Hid (T = Crc.divC p c (l.drop j))) (fun _ i => l.length - (intOf i).toNat)
  case atStart => exact ⟨0, s, Nat.zero_le _, hs.out, rfl, rfl, HT⟩
  case round =>
    obtain ⟨j, c, hj, hc, rfl, rfl, HR⟩ := hrel
    by_cases hlt : j < l.length
    · have hcc := HC.out j hlt
      generalize hx : l[j] = x at *
      have HX := hid hx; clear hx
      have hx8 := x.toNat_lt
      have tx : IntKind.u32.wrap (x.toNat : Int) = (x.toNat : Int) := IntWalk.u32_in _ (by omega)
      have t2 := xor_32 (s := c) (c := x.toNat) hc (by omega)
      have hcx : c ^^^ x.toNat < 4294967296 := Nat.xor_lt_two_pow (n := 32) hc (by omega)
      have HS : Hid (T = Crc.divC p (Crc.stepsC p 8 (c ^^^ x.toNat)) (l.drop (j + 1))) := by
        have h1 := HR.out
        rw [List.drop_eq_getElem_cons hlt, HX.out] at h1
        exact h1
      clear HR
      go_wp2
      generalize c ^^^ x.toNat = y at *
      go_loop [0, 20] (fun n i => ∃ k c : Nat, k ≤ 8 ∧ c < 4294967296 ∧ i = .int .i64 k ∧ n = .int .u32 (c : Int) ∧ Hid (Crc.stepsC p (8 - k) c = Crc.stepsC p 8 y)) (fun _ i => 8 - (intOf i).toNat)
      case atStart => exact ⟨0, y, by omega, hcx, rfl, rfl, rfl⟩
      case round =>
        obtain ⟨k, c, hk, hc, rfl, rfl, HR⟩ := hrel
        by_cases hlt : k < 8
        · have tA := and1_32 hc
          have HN : Hid (Crc.stepsC p (8 - (k + 1)) (Crc.stepC p c) = Crc.stepsC p 8 y) := by
            have h1 := HR.out
            rw [show 8 - k = (8 - (k + 1)) + 1 by omega] at h1
            exact h1
          have hL := Crc.stepC_lt (m := 32) hp.out hc
          clear HR
          rcases Nat.mod_two_eq_zero_or_one c with e | e
          · have hS : Crc.stepC p c = c / 2 := by unfold Crc.stepC; rw [if_neg (by omega)]
            rw [hS] at HN hL
            rw [e] at tA
            go_wp2
            go_round
            case rel => exact ⟨k + 1, c / 2, by omega, hL, by go_num, by simp, HN⟩
            case measure => simp [intOf]; omega
          · have hS : Crc.stepC p c = c / 2 ^^^ p := by unfold Crc.stepC; rw [if_pos e]
            have tX := xor_32 (s := c / 2) (c := p) (by omega) hp.out
            rw [hS] at HN hL
            rw [e] at tA
            go_wp2
            go_round
            case rel => exact ⟨k + 1, c / 2 ^^^ p, by omega, hL, by go_num, by rw [← tX]; simp, HN⟩
            case measure => simp [intOf]; omega
        · obtain rfl : k = 8 := by omega
          have h1 : c = Crc.stepsC p 8 y := HR.out
          have hl2 : l.length < 1000000 := hl.out
          subst h1
          clear HR
          go_wp2
          go_round
          case rel => exact ⟨j + 1, _, by omega, hc, by go_num, rfl, HS⟩
          case measure => simp [intOf]; omega
    · obtain rfl : j = l.length := by omega
      have h1 := HR.out
      rw [List.drop_length] at h1
      have h2 : T = c := h1
      subst h2
      clear HR h1
      go_wp2
      go_ret
      exact ⟨rfl, hext⟩
end Go.Proofs.YtogjghmoankleaaGreat


namespace Go.Proofs.YtogjghmoankleaaGreat
open Go.RowKit
set_option linter.unusedVariables false
set_option linter.unusedSimpArgs false

def Crc.x25 (l : List UInt8) : Nat := 65535 - Crc.divC 33800 65535 l
def Crc.cast (l : List UInt8) : Nat := 4294967295 - Crc.divC 2197175160 4294967295 l
def Crc.sumL (kind : Nat) (l : List UInt8) : List UInt8 := if kind = 1 then be (Crc.x25 l) 2 else if kind = 2 then be (Crc.cast l) 4 else []

theorem Size_any (k : Nat) (hk : k ≤ 2) (w : World) : Calls Tryz.prog 111 #[.int .i64 (k : Int)] w (Ret (.int .i64 ((2 * k : Nat) : Int)) w) := by
  go_enter Tryz.func111, Tryz.ntmps111
  go_wp2
  go_ret
  exact Ret.mk (by simp) (Mod.refl _ _)

theorem X25_any (l : List UInt8) (hl : Hid (l.length < 1000000)) (w : World) : Calls Tryz.prog 126 #[str l] w (Ret (.int .u16 (Crc.x25 l : Nat)) w) := by
  have hd : Crc.divC 33800 65535 l < 65536 := Crc.divC_lt (m := 16) (by decide) l 65535 (by decide) (by decide)
  have tx : bits .xor .u16 IntKind.u16.max (Crc.divC 33800 65535 l : Int) = ((65535 - Crc.divC 33800 65535 l : Nat) : Int) := by
    rw [Crc.not_xor (n := 16) hd]
    exact u16_xor_nat 65535 _ (by decide) hd
  have K := hid (fun W => divide16 33800 65535 (by unfold Hid; decide) (by unfold Hid; decide) l hl W)
  unfold Crc.x25
  generalize Crc.divC 33800 65535 l = d at *
  go_enter Tryz.func126, Tryz.ntmps126
  go_wp2_with fail
  refine (K.out _).mono ?_
  rintro e w1 ⟨rfl, hb1⟩
  go_wp2_with fail
  go_ret
  exact Ret.mk (by simp) hb1
theorem Castagnoli_any (l : List UInt8) (hl : Hid (l.length < 1000000)) (w : World) : Calls Tryz.prog 127 #[str l] w (Ret (.int .u32 (Crc.cast l : Nat)) w) := by
  have hd : Crc.divC 2197175160 4294967295 l < 4294967296 := Crc.divC_lt (m := 32) (by decide) l 4294967295 (by decide) (by decide)
  have tx : bits .xor .u32 IntKind.u32.max (Crc.divC 2197175160 4294967295 l : Int) = ((4294967295 - Crc.divC 2197175160 4294967295 l : Nat) : Int) := by
    rw [Crc.not_xor (n := 32) hd]
    exact u32_xor_nat 4294967295 _ (by decide) hd
  have K := hid (fun W => divide32 2197175160 4294967295 (by unfold Hid; decide) (by unfold Hid; decide) l hl W)
  unfold Crc.cast
  generalize Crc.divC 2197175160 4294967295 l = d at *
  go_enter Tryz.func127, Tryz.ntmps127
  go_wp2_with fail
  refine (K.out _).mono ?_
  rintro e w1 ⟨rfl, hb1⟩
  go_wp2_with fail
  go_ret
  exact Ret.mk (by simp) hb1
theorem be2 {n : Nat} (h : n < 65536) : be n 2 = [b8 (n / 256), b8 (n % 256)] := by
  have e : n / 256 % 256 = n / 256 := by omega
  rw [be_succ, be_succ, be_zero]
  simp [e]
theorem be4 {n : Nat} (h : n < 4294967296) : be n 4 = [b8 (n / 16777216), b8 (n / 65536 % 256), b8 (n / 256 % 256), b8 (n % 256)] := by
  have e : n / 16777216 % 256 = n / 16777216 := by omega
  rw [be_succ, be_succ, be_succ, be_succ, be_zero]
  simp [e]
theorem b8_cast {n : Nat} (h : n < 256) : ((b8 n).toNat : Int) = (n : Int) := by
  simp [b8]
  omega
/-- Bytes laid in a new block, as a string. -/
theorem conv_new (l : List UInt8) (c : Nat) (W : World) : (convert 99 9 (.slice (some ⟨W.heap.size, 0, none⟩) l.length c)).run Tryz.prog (W.alloc (.cells (l.map fun b => Value.int .u8 (b.toNat : Int)).toArray 5)) = .ok (str l) (W.alloc (.cells (l.map fun b => Value.int .u8 (b.toNat : Int)).toArray 5)) := by
  refine run_convert_bytes_back (P := Tryz.prog) _ 99 9 5 _ c l Tryz.underlying99 Tryz.underlying5 Tryz.underlying9 (fun j hj => ?_)
  rw [addr_add, Nat.zero_add, (Blk.new W 5 _).cell j]
  simp [hj]
theorem Sum_1 (l : List UInt8) (hl : Hid (l.length < 1000000)) (w : World) : Calls Tryz.prog 118 #[.int .i64 1, str l] w (Ret (str (be (Crc.x25 l) 2)) w) := by
  have hd : Crc.x25 l < 65536 := by unfold Crc.x25; omega
  have K := hid (fun W => X25_any l hl W)
  generalize Crc.x25 l = d at *
  have hcv : ∀ W : World, (convert 99 9 (.slice (some ⟨W.heap.size, 0, none⟩) 2 2)).run Tryz.prog (W.alloc (.cells #[.int .u8 ((d : Int) / 256), .int .u8 ((d : Int) % 256)] 5)) = .ok (str (be d 2)) (W.alloc (.cells #[.int .u8 ((d : Int) / 256), .int .u8 ((d : Int) % 256)] 5)) := fun W => by
    have := conv_new (be d 2) 2 W
    rw [be_length, be2 hd] at this
    simpa [b8_cast (show d / 256 < 256 by omega), b8_cast (show d % 256 < 256 by omega), be2 hd] using this
  go_enter Tryz.func118, Tryz.ntmps118
  go_wp2_with fail
  refine (K.out _).mono ?_
  rintro e w1 ⟨rfl, hb1⟩
  go_wp2_with fail
  go_ret
  exact Ret.mk rfl (hb1.alloc _)
theorem Sum_2 (l : List UInt8) (hl : Hid (l.length < 1000000)) (w : World) : Calls Tryz.prog 118 #[.int .i64 2, str l] w (Ret (str (be (Crc.cast l) 4)) w) := by
  have hd : Crc.cast l < 4294967296 := by unfold Crc.cast; omega
  have K := hid (fun W => Castagnoli_any l hl W)
  generalize Crc.cast l = d at *
  have hcv : ∀ W : World, (convert 99 9 (.slice (some ⟨W.heap.size, 0, none⟩) 4 4)).run Tryz.prog (W.alloc (.cells #[.int .u8 ((d : Int) / 16777216), .int .u8 ((d : Int) / 65536 % 256), .int .u8 ((d : Int) / 256 % 256), .int .u8 ((d : Int) % 256)] 5)) = .ok (str (be d 4)) (W.alloc (.cells #[.int .u8 ((d : Int) / 16777216), .int .u8 ((d : Int) / 65536 % 256), .int .u8 ((d : Int) / 256 % 256), .int .u8 ((d : Int) % 256)] 5)) := fun W => by
    have := conv_new (be d 4) 4 W
    rw [be_length, be4 hd] at this
    simpa [b8_cast (show d / 16777216 < 256 by omega), b8_cast (show d / 65536 % 256 < 256 by omega), b8_cast (show d / 256 % 256 < 256 by omega), b8_cast (show d % 256 < 256 by omega), be4 hd] using this
  go_enter Tryz.func118, Tryz.ntmps118
  go_wp2_with fail
  refine (K.out _).mono ?_
  rintro e w1 ⟨rfl, hb1⟩
  go_wp2_with fail
  go_ret
  exact Ret.mk rfl (hb1.alloc _)
theorem Sum_any (k : Nat) (h1 : 1 ≤ k) (h2 : k ≤ 2) (l : List UInt8) (hl : Hid (l.length < 1000000)) (w : World) : Calls Tryz.prog 118 #[.int .i64 (k : Int), str l] w (Ret (str (Crc.sumL k l)) w) := by
  have : k = 1 ∨ k = 2 := by omega
  rcases this with rfl | rfl
  · exact Sum_1 l hl w
  · exact Sum_2 l hl w
theorem Crc.sumL_length {k : Nat} (h1 : 1 ≤ k) (h2 : k ≤ 2) (l : List UInt8) : (Crc.sumL k l).length = 2 * k := by
  have : k = 1 ∨ k = 2 := by omega
  rcases this with rfl | rfl
  · exact be_length _ _
  · exact be_length _ _
end Go.Proofs.YtogjghmoankleaaGreat


namespace Go.Proofs.YtogjghmoankleaaGreat
open Go.RowKit
set_option linter.unusedVariables false
set_option linter.unusedSimpArgs false

def layRep_ren : Shelf.Ren where
  f := fun x => match x with
    | 105 => 110
    | 212 => 119
    | 99 => 120
    | 165 => 121
    | 166 => 122
    | 170 => 123
    | 169 => 124
    | 263 => 128
    | 264 => 129
    | 206 => 130
    | 240 => 131
    | 241 => 132
    | 276 => 135
    | 277 => 136
    | n => n
  t := fun x => match x with
    | 9 => 9
    | 3 => 3
    | 4 => 4
    | 20 => 20
    | 0 => 0
    | 46 => 132
    | 109 => 158
    | 5 => 5
    | 72 => 163
    | 76 => 167
    | 51 => 137
    | 146 => 172
    | 53 => 22
    | 148 => 174
    | 70 => 161
    | 37 => 99
    | 75 => 166
    | 127 => 176
    | 164 => 179
    | 80 => 169
    | n => n
  g := fun n => n
theorem layRep : Lays.n105 Tryz.prog layRep_ren where
  mixed := by kernel_rfl
  f105 := Tryz.func110.trans (by kernel_rfl)
  f212 := Tryz.func119.trans (by kernel_rfl)
  f99 := Tryz.func120.trans (by kernel_rfl)
  f165 := Tryz.func121.trans (by kernel_rfl)
  f166 := Tryz.func122.trans (by kernel_rfl)
  f170 := Tryz.func123.trans (by kernel_rfl)
  f169 := Tryz.func124.trans (by kernel_rfl)
  f263 := Tryz.func128.trans (by kernel_rfl)
  f264 := Tryz.func129.trans (by kernel_rfl)
  f206 := Tryz.func130.trans (by kernel_rfl)
  f240 := Tryz.func131.trans (by kernel_rfl)
  f241 := Tryz.func132.trans (by kernel_rfl)
  f276 := Tryz.func135.trans (by kernel_rfl)
  f277 := Tryz.func136.trans (by kernel_rfl)
  t9 := Tryz.underlying9
  a9 := Tryz.isAgg9
  z9 := Tryz.sizeOf9
  v9 := Tryz.zeroValue9
  t3 := Tryz.underlying3
  a3 := Tryz.isAgg3
  z3 := Tryz.sizeOf3
  v3 := Tryz.zeroValue3
  t4 := Tryz.underlying4
  a4 := Tryz.isAgg4
  z4 := Tryz.sizeOf4
  v4 := Tryz.zeroValue4
  t20 := Tryz.underlying20
  a20 := Tryz.isAgg20
  z20 := Tryz.sizeOf20
  v20 := Tryz.zeroValue20
  t0 := Tryz.underlying0
  a0 := Tryz.isAgg0
  z0 := Tryz.sizeOf0
  v0 := Tryz.zeroValue0
  t46 := Tryz.underlying132
  a46 := Tryz.isAgg132
  z46 := Tryz.sizeOf132
  v46 := Tryz.zeroValue132
  t109 := Tryz.underlying158
  a109 := Tryz.isAgg158
  z109 := Tryz.sizeOf158
  v109 := Tryz.zeroValue158
  t5 := Tryz.underlying5
  a5 := Tryz.isAgg5
  z5 := Tryz.sizeOf5
  v5 := Tryz.zeroValue5
  t72 := Tryz.underlying163
  a72 := Tryz.isAgg163
  z72 := Tryz.sizeOf163
  v72 := Tryz.zeroValue163
  t76 := Tryz.underlying167
  a76 := Tryz.isAgg167
  z76 := Tryz.sizeOf167
  v76 := Tryz.zeroValue167
  t51 := Tryz.underlying137
  a51 := Tryz.isAgg137
  z51 := Tryz.sizeOf137
  v51 := Tryz.zeroValue137
  t146 := Tryz.underlying172
  a146 := Tryz.isAgg172
  z146 := Tryz.sizeOf172
  v146 := Tryz.zeroValue172
  t53 := Tryz.underlying22
  a53 := Tryz.isAgg22
  z53 := Tryz.sizeOf22
  v53 := Tryz.zeroValue22
  t148 := Tryz.underlying174
  a148 := Tryz.isAgg174
  z148 := Tryz.sizeOf174
  v148 := Tryz.zeroValue174
  t70 := Tryz.underlying161
  a70 := Tryz.isAgg161
  z70 := Tryz.sizeOf161
  v70 := Tryz.zeroValue161
  t37 := Tryz.underlying99
  a37 := Tryz.isAgg99
  z37 := Tryz.sizeOf99
  v37 := Tryz.zeroValue99
  t75 := Tryz.underlying166
  a75 := Tryz.isAgg166
  z75 := Tryz.sizeOf166
  v75 := Tryz.zeroValue166
  t127 := Tryz.underlying176
  a127 := Tryz.isAgg176
  z127 := Tryz.sizeOf176
  v127 := Tryz.zeroValue176
  t164 := Tryz.underlying179
  a164 := Tryz.isAgg179
  z164 := Tryz.sizeOf179
  v164 := Tryz.zeroValue179
theorem layRepX : Builder.Extra Tryz.prog layRep_ren where
  sizeBuilder := by kernel_rfl
  liesBuilder := by kernel_rfl
  t5 := Tryz.underlying5
  a5 := Tryz.isAgg5
  z5 := Tryz.sizeOf5
  v5 := Tryz.zeroValue5
  infoByte := by kernel_rfl
  cellsByte := by kernel_rfl
  sizeByte := by kernel_rfl
  neB5 := by decide

theorem repeat0 (k : Nat) : Lib.repeatL [0] k = List.replicate k (0 : UInt8) := by
  induction k with
  | zero => rfl
  | succ k ih => rw [Lib.repeatL, ih, List.replicate_succ]; rfl
theorem Repeat_zero (k : Nat) (hk : k ≤ 1000) (w : World) : Calls Tryz.prog 110 #[.string ⟨#[0]⟩, .int .i64 (k : Int)] w (Ret (str (List.replicate k 0)) w) := by
  refine (Any.strings_Repeat layRep layRepX ⟨#[0]⟩ k w (by omega) (by show 1 * k ≤ _; omega)).mono fun e w' ⟨he, hb⟩ => ⟨?_, Mod.of_below hb⟩
  rw [he]
  show Ending.returned (.string ⟨(Lib.repeatL [0] k).toArray⟩) = _
  rw [repeat0]
end Go.Proofs.YtogjghmoankleaaGreat


namespace Go.Proofs.YtogjghmoankleaaGreat
open Go.RowKit
set_option linter.unusedVariables false
set_option linter.unusedSimpArgs false

theorem chL_app {L : List T} {t : T} {i : Nat} (h : i < L.length) : chL (L ++ [t]) i = chL L i := by unfold chL; rw [List.getElem?_append_left h]
theorem chL_last (L : List T) (t : T) : chL (L ++ [t]) L.length = t := by unfold chL; simp
theorem listT_app (L : List T) (t : T) : listT (L ++ [t]) = T.mk 4 0 [] false (L.length + 1) (chL (L ++ [t])) := by
  unfold listT chL
  rw [List.length_append]; rfl
theorem last_ext (L : List T) (s t : T) : listT (L ++ [t]) = T.mk 4 0 [] false (L.length + 1) (fun i => if i = L.length then t else chL (L ++ [s]) i) := by
  rw [listT_app]
  congr 1
  funext i
  by_cases h : i = L.length
  · rw [if_pos h, h, chL_last]
  · rw [if_neg h]
    by_cases h2 : i < L.length
    · rw [chL_app h2, chL_app h2]
    · unfold chL
      rw [List.getElem?_eq_none (by simp; omega), List.getElem?_eq_none (by simp; omega)]
set_option maxRecDepth 20000 in
theorem psummed_0 (t : T) (A : Option Addr) (c : Nat) (w : World) : Calls Tryz.prog 108 #[.int .i64 0, itemV t A c] w (Ret (itemV t A c) w) := by
  have HB := hid (Blk.new w 64 (itemC t A c))
  go_enter Tryz.func108, Tryz.ntmps108
  go_wp2_with fail
  refine bodyPost_ret (v := itemV t A c) (by simp [results, Tryz.results108, go_sem]) rfl (Ret.mk rfl (((Mod.refl _ _).alloc _).alloc _))
set_option maxRecDepth 20000 in
set_option maxHeartbeats 1600000 in
theorem psummed_any (L : List T) (Z : List UInt8) (kind : Nat) (k1 : 1 ≤ kind) (k2 : kind ≤ 2) (hn : L.length ≤ 20) (hok : (listT (L ++ [strT Z])).ok) (hsz : (listT (L ++ [strT Z])).size ≤ 100000) (hr : (listT (L ++ [strT Z])).right 8 = true) (hbl : (listT (L ++ [strT Z])).bytes.length < 1000000) (N : Nat) (A : Option Addr) (c : Nat) (w : World) (hN : N ≤ w.heap.size) (h : IsL w (fun b => N ≤ b) (listT (L ++ [strT Z])) A) :
    Calls Tryz.prog 108 #[.int .i64 (kind : Int), itemV (listT (L ++ [strT Z])) A c] w (fun e w' => ∃ A c, e = .returned (itemV (listT (L ++ [strT (Crc.sumL kind (listT (L ++ [strT Z])).bytes)])) A c) ∧ Ext w w' ∧ IsL w' (fun b => N ≤ b) (listT (L ++ [strT (Crc.sumL kind (listT (L ++ [strT Z])).bytes)])) A) := by
  have e1 : ((kind : Int) = 0) = False := by simp; omega
  have e2 : ((kind : Int) == 0) = false := by simp; omega
  have HI : Hid (IsL w (fun b => N ≤ b ∧ b < w.heap.size) (listT (L ++ [strT Z])) A) := IsL.weak (fun k hk hq => ⟨hq, hk⟩) _ h
  have KB : Hid (∀ A c W, IsL W (fun _ => True) (listT (L ++ [strT Z])) A → Calls Tryz.prog 28 #[itemV (listT (L ++ [strT Z])) A c] W (Ret (.tuple #[str (listT (L ++ [strT Z])).bytes, .int .i64 0]) W)) := fun A c W hW => by
    have := iBuild_any _ hok hsz A c W hW
    unfold buildV at this
    rwa [if_pos hr] at this
  have KS := hid (fun W => Sum_any kind k1 k2 (listT (L ++ [strT Z])).bytes hbl W)
  have HU := hid (last_ext L (strT Z) (strT (Crc.sumL kind (listT (L ++ [strT Z])).bytes)))
  rw [listT_app L (strT Z)] at KB KS HU HI ⊢
  have hK := CloneI_any (Q := fun b => N ≤ b ∧ b < w.heap.size) (kind := 4) (n := 0) (s := []) (op := false) (chL (L ++ [strT Z])) (L.length + 1) (by unfold Hid; omega) A c
  have KC := hid hK
  clear hK h hok hsz hr hbl
  generalize (T.mk 4 0 [] false (L.length + 1) (chL (L ++ [strT Z]))).bytes = B at *
  generalize listT (L ++ [strT (Crc.sumL kind B)]) = U at *
  generalize Crc.sumL kind B = S at *
  generalize chL (L ++ [strT Z]) = ch at *
  obtain ⟨n, hnn⟩ : ∃ n, n = L.length := ⟨_, rfl⟩
  rw [← hnn] at HI KB HU KC hn ⊢
  clear hnn
  have n0 : (0 : Int) ≤ (n : Int) := by omega
  have n1 : (n : Int) ≤ 20 := by omega
  have HN1 := hid hn
  have HNW := hid hN
  clear hn hN k1 k2
  have HE := hid (((Mod.refl [] w).alloc (.cells (itemC (T.mk 4 0 [] false (n + 1) ch) A c) 64)).alloc (.cells #[.int .i64 0, .int .u64 0, .string ⟨#[]⟩, .slice none 0 0, .bool false] 64))
  have HX := hid ((Blk.new w 64 (itemC (T.mk 4 0 [] false (n + 1) ch) A c)).alloc (.cells #[.int .i64 0, .int .u64 0, .string ⟨#[]⟩, .slice none 0 0, .bool false] 64))
  have HR : Hid (Blk ((w.alloc (.cells (itemC (T.mk 4 0 [] false (n + 1) ch) A c) 64)).alloc (.cells #[.int .i64 0, .int .u64 0, .string ⟨#[]⟩, .slice none 0 0, .bool false] 64)) (w.heap.size + 1) 64 (itemC (numT 0) none 0)) := Blk.newL _ _ _ (by simp)
  go_enter Tryz.func108, Tryz.ntmps108
  go_upto_region 3 with fail
  generalize hV : World.alloc _ _ = V
  rw [hV] at HE HX HR
  clear hV
  have HIV : Hid (∀ e : Later V, IsL e.x (fun b => N ≤ b ∧ b < w.heap.size) (T.mk 4 0 [] false (n + 1) ch) A) := fun e => HI.out.ext (HE.out.trans e.h)
  have q0 : ∀ e : Later V, e.x.cell? ⟨w.heap.size, 0, none⟩ = some (.int .i64 4) := HX.out.cellL 0 rfl
  have q1 : ∀ e : Later V, e.x.cell? ⟨w.heap.size, 1, none⟩ = some (.int .u64 0) := HX.out.cellL 1 rfl
  have q2 : ∀ e : Later V, e.x.cell? ⟨w.heap.size, 2, none⟩ = some (str []) := HX.out.cellL 2 rfl
  have q3 : ∀ e : Later V, e.x.cell? ⟨w.heap.size, 3, none⟩ = some (.slice A (n + 1) c) := HX.out.cellL 3 rfl
  have q4 : ∀ e : Later V, e.x.cell? ⟨w.heap.size, 4, none⟩ = some (.bool false) := HX.out.cellL 4 rfl
  obtain ⟨e, he⟩ := Later.self V
  rw [he]
  clear he
  have HVS : Hid (w.heap.size + 2 ≤ V.heap.size) := Nat.succ_le_of_lt HR.out.lt
  go_upto_region 5 with (first | (go_at_call 28; refine (Ret.later (KB.out _ _ _ (IsL.weak (fun _ _ _ => trivial) _ (HIV.out _)))).mono ?_; rintro x _ ⟨rfl, e, rfl⟩) | (go_at_call 116; refine (KC.out _ (HIV.out _)).mono ?_; rintro x w1 ⟨g, c', ac, rfl, hb1, hg1, hlt1, hown1, hk1⟩))
  have HO1 := hid hown1
  have HK1 := hid hk1
  have HG : Hid (w.heap.size + 2 ≤ g) := by have := HVS.out; have := e.h.size; unfold Hid; omega
  have HE1 := hid (HE.out.trans (e.h.trans hb1))
  have HR1 := hid (HR.out.ext (e.h.trans hb1))
  have HL1 := hid hlt1
  clear hb1 hg1 hlt1 hown1 hk1 HE HR HI q0 q1 q2 q3 q4 HIV HX HVS
  obtain ⟨x0, x1, x2, x3, x4⟩ := flatC_get ch ac (n + 1) n (by omega)
  have y0 : ∀ e : Later w1, e.x.cell? ⟨g, n * 5, none⟩ = _ := cellL (own_cells HO1.out x0)
  have y1 : ∀ e : Later w1, e.x.cell? ⟨g, n * 5 + 1, none⟩ = _ := cellL (own_cells HO1.out x1)
  have y2 : ∀ e : Later w1, e.x.cell? ⟨g, n * 5 + 2, none⟩ = _ := cellL (own_cells HO1.out x2)
  have y3 : ∀ e : Later w1, e.x.cell? ⟨g, n * 5 + 3, none⟩ = _ := cellL (own_cells HO1.out x3)
  have y4 : ∀ e : Later w1, e.x.cell? ⟨g, n * 5 + 4, none⟩ = _ := cellL (own_cells HO1.out x4)
  have HOE : Hid (∀ e : Later w1, e.x.ownsRow _ 64 5 (.slice (some ⟨g, 0, none⟩) (n + 1) c') (n + 1) (flatC ch ac (n + 1))) := fun e => ownsRow_mod HO1.out e.h (fun _ _ => by simp)
  have z : ∀ (e : Later w1) (j : Nat), e.x.frozen? ⟨g, j, none⟩ = false := fun e j => (HOE.out e).frozenAt j
  clear x0 x1 x2 x3 x4
  obtain ⟨e, he⟩ := Later.self w1
  rw [he]
  clear he
  go_upto_region 6 with (first | (go_at_call 118; refine (Ret.later (KS.out _)).mono ?_; rintro x _ ⟨rfl, e, rfl⟩) | (go_at_call 117; refine (Ret.later (StrV_any _ _)).mono ?_; rintro x _ ⟨rfl, e, rfl⟩))
  generalize hW : World.setCell _ _ _ = W2
  have HO2 : Hid (W2.ownsRow _ 64 5 (.slice (some ⟨g, 0, none⟩) (n + 1) c') (n + 1) (flatC (fun i => if i = n then strT S else ch i) (fun i => if i = n then ((none : Option Addr), 0) else ac i) (n + 1))) := hid (by rw [← hW]; exact own_last (n := n) (strT S) none 0 (HOE.out e))
  have HM : Hid (Mod [g] e.x W2) := hid (by rw [← hW]; exact (((((Mod.refl [g] e.x).setCell (.inl (by simp)) _).setCell (.inl (by simp)) _).setCell (.inl (by simp)) _).setCell (.inl (by simp)) _).setCell (.inl (by simp)) _)
  clear hW y0 y1 y2 y3 y4 z
  have HE2 : Hid (Ext w W2) := (((HE1.out.trans e.h).of_ext).trans HM.out).new (fun b hb => .inr (by rw [List.mem_singleton] at hb; subst hb; have := HG.out; omega))
  have HR2 : Hid (Blk W2 (w.heap.size + 1) 64 (itemC (numT 0) none 0)) := (HR1.out.later e).mod HM.out (by have := HG.out; simp; omega)
  have HK2 : Hid (∀ i, i < n + 1 → IsL W2 (fun b => N ≤ b ∧ b < w.heap.size) ((fun i => if i = n then strT S else ch i) i) ((fun i => if i = n then ((none : Option Addr), 0) else ac i) i).1) := fun i hi => by
    by_cases h : i = n
    · subst h; simp only [if_true]; exact str_IsL
    · simp only [if_neg h]
      exact (IsL.mod HM.out (fun b hb _ hs => by rw [List.mem_singleton] at hs; subst hs; have := hb.2; have := HG.out; omega) _ ((HK1.out i hi).ext e.h))
  have HL2 : Hid (g < W2.heap.size) := by have := HL1.out; have := e.h.size; have := HM.out.size; unfold Hid; omega
  obtain ⟨e, he⟩ := Later.self W2
  rw [he]
  clear he
  go_wp2_with (go_at_call 48; refine (Ret.later (ListV_any _ _ _ _)).mono ?_; rintro x _ ⟨rfl, e, rfl⟩; obtain ⟨c0, c1, c2, c3, c4⟩ := cells5 (HR2.out.later e); have f0 := (HR2.out.later e).frozen 0; have f1 := (HR2.out.later e).frozen 1; have f2 := (HR2.out.later e).frozen 2; have f3 := (HR2.out.later e).frozen 3; have f4 := (HR2.out.later e).frozen 4)
  obtain ⟨d0, d1, d2, d3, d4⟩ := cells5 (set5_blk (t := T.mk 4 0 [] false (n + 1) (fun i => if i = n then strT S else ch i)) (A := some ⟨g, 0, none⟩) (c := c') (HR2.out.later e))
  clear c0 c1 c2 c3 c4 f0 f1 f2 f3 f4
  show bodyPost _ _ _ _ _ (set5 e.x (w.heap.size + 1) (T.mk 4 0 [] false (n + 1) (fun i => if i = n then strT S else ch i)) (some ⟨g, 0, none⟩) c')
  refine bodyPost_ret (v := itemV (T.mk 4 0 [] false (n + 1) (fun i => if i = n then strT S else ch i)) (some ⟨g, 0, none⟩) c') (by simp [results, Tryz.results108, go_sem, d0, d1, d2, d3, d4]) rfl ⟨some ⟨g, 0, none⟩, c', by rw [HU.out], set5_mod (HE2.out.trans e.h) (by omega), ?_⟩
  rw [HU.out]
  refine IsL.weak (fun _ _ h => h.1) _ (IsL.mod (Q := fun b => N ≤ b ∧ b ≠ w.heap.size + 1) set5_modb (fun b hb _ hs => by rw [List.mem_singleton] at hs; exact hb.2 hs) _ ?_)
  refine own_IsL (by have := HL2.out; have := e.h.size; omega) (by have := HG.out; have := HNW.out; exact ⟨by omega, by omega⟩) (ownsRow_mod HO2.out e.h (fun _ _ => by simp)) (fun i hi => IsL.weak (fun b _ hb => ⟨hb.1, by have := hb.2; omega⟩) _ ((HK2.out i hi).ext e.h))
end Go.Proofs.YtogjghmoankleaaGreat


namespace Go.Proofs.YtogjghmoankleaaGreat
open Go.RowKit
set_option linter.unusedVariables false
set_option linter.unusedSimpArgs false

theorem priL_last (p : PV) {k : Nat} (hk : k ≠ 0) (s : List UInt8) : priL p k s = ([numT 7, numT p.fl, numT k, eidT p.d, eidT p.s, eidT p.r, listT [numT p.t, numT p.q], numT p.l] ++ (if p.fl % 2 = 1 then [numT p.o, numT p.n] else [])) ++ [strT s] := by
  unfold priL; rw [if_neg hk, List.append_assoc]
/-- The sum; the whole bytes. -/
def priSum (p : PV) (k : Nat) : List UInt8 := if k = 0 then [] else Crc.sumL k (priB p k (List.replicate (2 * k) 0))
def PV.bytes (p : PV) : List UInt8 := priB p p.crc.toNat (priSum p p.crc.toNat)
def PV.tree (p : PV) : T := priT p p.crc.toNat (priSum p p.crc.toNat)
theorem priSum_length (p : PV) {k : Nat} (hk : k ≤ 2) : (priSum p k).length = 2 * k := by
  unfold priSum
  by_cases h : k = 0
  · rw [if_pos h, h]; rfl
  · rw [if_neg h]; exact Crc.sumL_length (by omega) hk _
theorem PV.tree_all {p : PV} (h : p.ranged = true) : p.tree.ok ∧ (∀ d, 4 ≤ d → p.tree.right d = true) ∧ p.tree.size ≤ 4000 ∧ p.tree.bytes = p.bytes := by
  have hr := PV.ranged_spec h
  have hk : p.crc.toNat ≤ 2 := by omega
  obtain ⟨a, b, c⟩ := priT_all h hk (sum := priSum p p.crc.toNat) (by rw [priSum_length p hk]; omega)
  exact ⟨a, b, c, priT_bytes _ _ _⟩
theorem PV.bytes_length {p : PV} (h : p.ranged = true) : p.bytes.length ≤ 40000 := by
  obtain ⟨_, _, c, d⟩ := PV.tree_all h
  rw [← d]
  have := T.bytes_le p.tree
  omega
theorem psum_any (p : PV) (h : p.ranged = true) (k : Nat) (hc : p.crc = (k : Int)) (N : Nat) (A : Option Addr) (c : Nat) (w : World) (hN : N ≤ w.heap.size) (hl : IsL w (fun b => N ≤ b) (priT p k (List.replicate (2 * k) 0)) A) :
    Calls Tryz.prog 108 #[.int .i64 (k : Int), itemV (priT p k (List.replicate (2 * k) 0)) A c] w (fun e w' => ∃ A c, e = .returned (itemV p.tree A c) ∧ Ext w w' ∧ IsL w' (fun b => N ≤ b) p.tree A) := by
  have hr := PV.ranged_spec h
  have hk : k ≤ 2 := by omega
  have ht : p.crc.toNat = k := by omega
  unfold PV.tree
  rw [ht]
  by_cases h0 : k = 0
  · subst h0
    have e : priT p 0 (priSum p 0) = priT p 0 (List.replicate (2 * 0) 0) := rfl
    rw [e]
    exact (psummed_0 _ A c w).mono fun x w' ⟨hx, hm⟩ => ⟨A, c, hx, hm, hl.ext hm⟩
  · obtain ⟨a, b, cc⟩ := priT_all h hk (sum := List.replicate (2 * k) 0) (by simp; omega)
    have hb : (priT p k (List.replicate (2 * k) 0)).bytes.length < 1000000 := by have := T.bytes_le (priT p k (List.replicate (2 * k) 0)); omega
    have hb2 : (priT p k (List.replicate (2 * k) 0)).bytes = priB p k (List.replicate (2 * k) 0) := priT_bytes _ _ _
    have hs : priSum p k = Crc.sumL k (priB p k (List.replicate (2 * k) 0)) := by unfold priSum; rw [if_neg h0]
    rw [hs, ← hb2]
    unfold priT at a b cc hb hl ⊢
    rw [priL_last p h0] at a b cc hb hl ⊢
    rw [priL_last p h0 (Crc.sumL _ _)]
    refine psummed_any _ _ k (by omega) hk ?_ a (by omega) (b 8 (by omega)) hb N A c w hN hl
    split <;> simp
set_option maxRecDepth 20000 in
set_option maxHeartbeats 800000 in
theorem cPriItem_bad (p : PV) (hnl : Hid (p.d.name.length < 4611686018427387904 ∧ p.s.name.length < 4611686018427387904 ∧ p.r.name.length < 4611686018427387904)) (hf : p.fl < 18446744073709551616) (hb : p.right ≠ 0) (w : World) : Calls Tryz.prog 101 #[.agg p.c] w (Ret (.tuple #[itemV (numT 0) none 0, .int .i64 p.right]) w) := by
  have KR := hid (fun W => cPriRight_any p hnl hf W)
  generalize p.right = r at *
  have r1 : (r == 0) = false := by simpa using hb
  have r2 : (r = 0) = False := by simpa using hb
  have r3 : (r != 0) = true := by simpa using hb
  have HE := hid (((Mod.refl [] w).alloc (.cells p.c 34)).alloc (.cells #[.int .i64 0, .int .u64 0, .string ⟨#[]⟩, .slice none 0 0, .bool false] 64))
  have HB := hid ((Blk.new w 34 p.c).alloc (.cells #[.int .i64 0, .int .u64 0, .string ⟨#[]⟩, .slice none 0 0, .bool false] 64))
  have HR : Hid (Blk ((w.alloc (.cells p.c 34)).alloc (.cells #[.int .i64 0, .int .u64 0, .string ⟨#[]⟩, .slice none 0 0, .bool false] 64)) (w.heap.size + 1) 64 (itemC (numT 0) none 0)) := Blk.newL _ _ _ (by simp)
  clear hb hf
  go_enter Tryz.func101, Tryz.ntmps101
  go_upto_region 1 with fail
  generalize (w.alloc (.cells p.c 34)).alloc (.cells #[.int .i64 0, .int .u64 0, .string ⟨#[]⟩, .slice none 0 0, .bool false] 64) = V at *
  have HBL : Hid (∀ e : Later V, Blk e.x w.heap.size 34 p.c) := fun e => HB.out.later e
  obtain ⟨e, he⟩ := Later.self V
  rw [he]
  clear he
  go_wp2_with (first | (refine wpList_row (by rfl) 34 _ rfl _ rfl (HBL.out _) Tryz.underlying34 rfl (by kernel_rfl) ?_) | (go_at_call 75; refine (Ret.later (KR.out _)).mono ?_; rintro x _ ⟨rfl, e, rfl⟩; obtain ⟨c0, c1, c2, c3, c4⟩ := cells5 (HR.out.later e); have f0 := (HR.out.later e).frozen 0; have f1 := (HR.out.later e).frozen 1; have f2 := (HR.out.later e).frozen 2; have f3 := (HR.out.later e).frozen 3; have f4 := (HR.out.later e).frozen 4))
  obtain ⟨d0, d1, d2, d3, d4⟩ := cells5 (set5_blk (t := numT 0) (A := none) (c := 0) (HR.out.later e))
  clear c0 c1 c2 c3 c4 f0 f1 f2 f3 f4
  show bodyPost _ _ _ _ _ (set5 e.x (w.heap.size + 1) (numT 0) none 0)
  refine bodyPost_ret (v := .tuple #[itemV (numT 0) none 0, .int .i64 r]) (by simp [results, Tryz.results101, go_sem, d0, d1, d2, d3, d4]) rfl (Ret.mk rfl (set5_mod (HE.out.trans e.h) (by omega)))
set_option maxRecDepth 20000 in
set_option maxHeartbeats 800000 in
theorem cPriItem_ok (p : PV) (hnl : Hid (p.d.name.length < 4611686018427387904 ∧ p.s.name.length < 4611686018427387904 ∧ p.r.name.length < 4611686018427387904)) (hf : p.fl < 18446744073709551616) (hb : p.right = 0) (w : World) : Calls Tryz.prog 101 #[.agg p.c] w (fun e w' => ∃ A c, e = .returned (.tuple #[itemV p.tree A c, .int .i64 0]) ∧ Ext w w' ∧ IsL w' (fun b => w.heap.size ≤ b) p.tree A) := by
  have KR := hid (fun W => cPriRight_any p hnl hf W)
  have hr := PV.right_ranged hb
  have hrs := PV.ranged_spec hr
  rw [hb] at KR
  obtain ⟨k, hc⟩ := Int.eq_ofNat_of_zero_le hrs.2.2.2.1
  have hk : k ≤ 2 := by omega
  have KP := hid (fun W => parts_any p k hc hk hr (List.replicate (2 * k) 0) W)
  have KZ : Hid (∀ W, Calls Tryz.prog 111 #[.int .i64 p.crc] W (Ret (.int .i64 (2 * (k : Int))) W)) := fun W => by rw [hc]; have := Size_any k hk W; simpa using this
  have KT : Hid (∀ W, Calls Tryz.prog 110 #[.string ⟨#[0]⟩, .int .i64 (2 * (k : Int))] W (Ret (str (List.replicate (2 * k) 0)) W)) := fun W => by have := Repeat_zero (2 * k) (by omega) W; simpa using this
  have KS : Hid (∀ N A c W, N ≤ W.heap.size → IsL W (fun b => N ≤ b) (priT p k (List.replicate (2 * k) 0)) A → Calls Tryz.prog 108 #[.int .i64 p.crc, itemV (priT p k (List.replicate (2 * k) 0)) A c] W (fun e w' => ∃ A c, e = .returned (itemV p.tree A c) ∧ Ext W w' ∧ IsL w' (fun b => N ≤ b) p.tree A)) := fun N A c W h1 h2 => by rw [hc]; exact psum_any p hr k hc N A c W h1 h2
  generalize List.replicate (2 * k) (0 : UInt8) = Z at *
  generalize priT p k Z = Y at *
  have k0 : (0 : Int) ≤ (k : Int) := by omega
  have k1 : (k : Int) ≤ 2 := by omega
  have HC := hid hc
  have HE := hid (((Mod.refl [] w).alloc (.cells p.c 34)).alloc (.cells #[.int .i64 0, .int .u64 0, .string ⟨#[]⟩, .slice none 0 0, .bool false] 64))
  have HB := hid ((Blk.new w 34 p.c).alloc (.cells #[.int .i64 0, .int .u64 0, .string ⟨#[]⟩, .slice none 0 0, .bool false] 64))
  have HR : Hid (Blk ((w.alloc (.cells p.c 34)).alloc (.cells #[.int .i64 0, .int .u64 0, .string ⟨#[]⟩, .slice none 0 0, .bool false] 64)) (w.heap.size + 1) 64 (itemC (numT 0) none 0)) := Blk.newL _ _ _ (by simp)
  clear hf hb hr hrs hc hk
  go_enter Tryz.func101, Tryz.ntmps101
  go_upto_region 1 with fail
  generalize (w.alloc (.cells p.c 34)).alloc (.cells #[.int .i64 0, .int .u64 0, .string ⟨#[]⟩, .slice none 0 0, .bool false] 64) = V at *
  have HBL : Hid (∀ e : Later V, Blk e.x w.heap.size 34 p.c) := fun e => HB.out.later e
  have HVS : Hid (w.heap.size + 2 ≤ V.heap.size) := Nat.succ_le_of_lt HR.out.lt
  obtain ⟨e, he⟩ := Later.self V
  rw [he]
  clear he
  go_upto_region 4 with (first | (refine wpList_row (by rfl) 34 _ rfl _ rfl (HBL.out _) Tryz.underlying34 rfl (by kernel_rfl) ?_) | (go_at_call 75; refine (Ret.later (KR.out _)).mono ?_; rintro x _ ⟨rfl, e, rfl⟩))
  have HS : Hid (∀ W, Mod [w.heap.size + 1] V W → W.cell? ⟨w.heap.size, 1, none⟩ = some (.int .i64 p.crc)) := fun W hW => (HB.out.mod hW (by simp)).cell 1
  have HRow : Hid (∀ W, Mod [w.heap.size + 1] V W → Blk W w.heap.size 34 p.c) := fun W hW => HB.out.mod hW (by simp)
  have g2 : max ((2 : Int) * (k : Int)) 0 = (2 * k : Int) := by omega
  refine wp_region_held_drew (S := fun w' => Mod [w.heap.size + 1] V w' ∧ ∃ t A c, Blk w' (w.heap.size + 1) 64 (itemC t A c)) (by kernel_rfl) ⟨((Later.h e).of_ext).drew, _, _, _, (HR.out.later e).drew⟩ (fun hHeld => ?_)
  refine' wpAnyH_take (i := 0) (v := _) rfl (by kernel_rfl) (by kernel_rfl) (by kernel_rfl) (fun _ _ _ h => h) (Or.inl ⟨by rfl, ?hy⟩) hHeld ?rest
  case hy => (rintro W ⟨hM, _⟩; go_simp; (try with_reducible rfl))
  case rest =>
  (try simp only [Act.put, List.setIfInBounds_toArray, List.set_cons_zero, List.set_cons_succ])
  refine' wpAnyH_take (i := 1) (v := _) rfl (by kernel_rfl) (by kernel_rfl) (by kernel_rfl) (fun _ _ _ h => h) (Or.inl ⟨by rfl, ?hy⟩) hHeld ?rest
  case hy => (rintro W ⟨hM, _⟩; have x1 := HS.out W hM; go_simp; (try with_reducible rfl))
  case rest =>
  (try simp only [Act.put, List.setIfInBounds_toArray, List.set_cons_zero, List.set_cons_succ])
  refine wpAnyH_take (i := 2) rfl (by kernel_rfl) (by kernel_rfl) (by kernel_rfl) (fun _ _ _ h => h) (yieldsIf_row (by rfl) 34 _ rfl _ rfl (fun W h => HRow.out W h.1) Tryz.underlying34 rfl (by kernel_rfl)) hHeld ?_
  (try simp only [Act.put, List.setIfInBounds_toArray, List.set_cons_zero, List.set_cons_succ])
  refine' wpAnyH_take (i := 3) (v := _) rfl (by kernel_rfl) (by kernel_rfl) (by kernel_rfl) (fun _ _ _ h => h) (Or.inl ⟨by rfl, ?hy⟩) hHeld ?rest
  case hy => (rintro W ⟨hM, _⟩; go_simp; (try with_reducible rfl))
  case rest =>
  (try simp only [Act.put, List.setIfInBounds_toArray, List.set_cons_zero, List.set_cons_succ])
  refine' wpAnyH_take (i := 4) (v := _) rfl (by kernel_rfl) (by kernel_rfl) (by kernel_rfl) (fun _ _ _ h => h) (Or.inl ⟨by rfl, ?hy⟩) hHeld ?rest
  case hy => (rintro W ⟨hM, _⟩; have x1 := HS.out W hM; go_simp; (try with_reducible rfl))
  case rest =>
  (try simp only [Act.put, List.setIfInBounds_toArray, List.set_cons_zero, List.set_cons_succ])
  refine wpAnyH_ready (rs := [5]) (by kernel_rfl) (by simp) ?_
  refine AllReadyH.cons rfl (fun K hK => ?_) AllReadyH.nil
  go_simp
  (go_at_call 111; refine (KZ.out _).mono ?_; rintro x w1 ⟨rfl, hb3⟩)
  refine hK.out _ _ ⟨hHeld.1.trans (Mod.of_ext hb3), let ⟨t, A, c, hb⟩ := hHeld.2; ⟨t, A, c, hb.ext hb3⟩⟩ (fun hHeld => ?_)
  clear hK K
  (try simp only [Act.put, List.setIfInBounds_toArray, List.set_cons_zero, List.set_cons_succ])
  refine' wpAnyH_take (i := 6) (v := _) rfl (by kernel_rfl) (by kernel_rfl) (by kernel_rfl) (fun _ _ _ h => h) (Or.inl ⟨by rfl, ?hy⟩) hHeld ?rest
  case hy => (rintro W ⟨hM, _⟩; go_simp; (try with_reducible rfl))
  case rest =>
  (try simp only [Act.put, List.setIfInBounds_toArray, List.set_cons_zero, List.set_cons_succ])
  refine wpAnyH_ready (rs := [7]) (by kernel_rfl) (by simp) ?_
  refine AllReadyH.cons rfl (fun K hK => ?_) AllReadyH.nil
  go_simp
  (go_at_call 110; refine (KT.out _).mono ?_; rintro x w2 ⟨rfl, hb3⟩)
  refine hK.out _ _ ⟨hHeld.1.trans (Mod.of_ext hb3), let ⟨t, A, c, hb⟩ := hHeld.2; ⟨t, A, c, hb.ext hb3⟩⟩ (fun hHeld => ?_)
  clear hK K
  (try simp only [Act.put, List.setIfInBounds_toArray, List.set_cons_zero, List.set_cons_succ])
  refine wpAnyH_ready (rs := [8]) (by kernel_rfl) (by simp) ?_
  refine AllReadyH.cons rfl (fun K hK => ?_) AllReadyH.nil
  go_simp
  (go_at_call 109; refine (KP.out _).mono ?_; rintro x w3 ⟨A, c, rfl, hb3, hl3⟩; have HL3 := hid hl3; have HN3 : Hid (w.heap.size + 2 ≤ w2.heap.size) := Nat.le_trans HVS.out hHeld.1.size)
  refine hK.out _ _ ⟨hHeld.1.trans (Mod.of_ext hb3), let ⟨t, A, c, hb⟩ := hHeld.2; ⟨t, A, c, hb.ext hb3⟩⟩ (fun hHeld => ?_)
  clear hK K
  (try simp only [Act.put, List.setIfInBounds_toArray, List.set_cons_zero, List.set_cons_succ])
  refine wpAnyH_ready (rs := [9]) (by kernel_rfl) (by simp) ?_
  refine AllReadyH.cons rfl (fun K hK => ?_) AllReadyH.nil
  go_simp
  (go_at_call 108; refine (KS.out (w.heap.size + 2) _ _ _ (Nat.le_trans HN3.out hb3.size) (IsL.weak (fun b _ hb => Nat.le_trans HN3.out hb) _ HL3.out)).mono ?_; rintro x w4 ⟨A2, c2, rfl, hb4, hl4⟩; have HL4 := hid hl4)
  refine hK.out _ _ ⟨hHeld.1.trans (Mod.of_ext hb4), let ⟨t, A, c, hb⟩ := hHeld.2; ⟨t, A, c, hb.ext hb4⟩⟩ (fun hHeld => ?_)
  clear hK K
  (try simp only [Act.put, List.setIfInBounds_toArray, List.set_cons_zero, List.set_cons_succ])
  refine wpAnyH_ready (rs := [10]) (by kernel_rfl) (by simp) ?_
  refine AllReadyH.cons rfl (fun K hK => ?_) AllReadyH.nil
  obtain ⟨t0, A0, c0, hb0⟩ := hHeld.2
  obtain ⟨q0, q1, q2, q3, q4⟩ := cells5 hb0
  have f0 := hb0.frozen 0
  have f1 := hb0.frozen 1
  have f2 := hb0.frozen 2
  have f3 := hb0.frozen 3
  have f4 := hb0.frozen 4
  go_simp
  refine hK.out _ _ ⟨set5_modR hHeld.1, p.tree, A2, c2, set5_blk hb0⟩ (fun hHeld => ?_)
  clear hK K
  (try simp only [Act.put, List.setIfInBounds_toArray, List.set_cons_zero, List.set_cons_succ])
  refine wpAnyH_ready (rs := [11]) (by kernel_rfl) (by simp) ?_
  refine AllReadyH.cons rfl (fun K hK => ?_) AllReadyH.nil
  go_simp
  refine hK.out _ _ hHeld (fun hHeld => ?_)
  clear hK K
  (try simp only [Act.put, List.setIfInBounds_toArray, List.set_cons_zero, List.set_cons_succ])
  refine wpAnyH_done (by kernel_rfl) ?_ _
  go_wp2_with fail
  obtain ⟨d0, d1, d2, d3, d4⟩ := cells5 (set5_blk (t := p.tree) (A := A2) (c := c2) hb0)
  clear q0 q1 q2 q3 q4 f0 f1 f2 f3 f4
  show bodyPost _ _ _ _ _ (set5 w4 (w.heap.size + 1) p.tree A2 c2)
  refine bodyPost_ret (v := .tuple #[itemV p.tree A2 c2, .int .i64 0]) (by simp [results, Tryz.results101, go_sem, d0, d1, d2, d3, d4]) rfl ⟨A2, c2, rfl, (HE.out.of_ext.trans hHeld.1).new (fun b hb => .inr (by rw [List.mem_singleton] at hb; omega)), ?_⟩
  exact IsL.weak (fun _ _ h => by have : w.heap.size + 2 ≤ _ := h; omega) _ (IsL.mod (Q := fun b => w.heap.size + 2 ≤ b) set5_modb (fun b hb _ hs => by rw [List.mem_singleton] at hs; have : w.heap.size + 2 ≤ b := hb; omega) _ HL4.out)
set_option maxRecDepth 20000 in
theorem cPriBuild_bad (p : PV) (hnl : Hid (p.d.name.length < 4611686018427387904 ∧ p.s.name.length < 4611686018427387904 ∧ p.r.name.length < 4611686018427387904)) (hf : p.fl < 18446744073709551616) (hb : p.right ≠ 0) (w : World) : Calls Tryz.prog 81 #[.agg p.c] w (Ret (.tuple #[str [], .int .i64 p.right]) w) := by
  have KI := hid (fun W => cPriItem_bad p hnl hf hb W)
  generalize p.right = r at *
  have r1 : (r == 0) = false := by simpa using hb
  have r2 : (r = 0) = False := by simpa using hb
  have r3 : (r != 0) = true := by simpa using hb
  have HE := hid ((Mod.refl [] w).alloc (.cells p.c 34))
  have HB := hid (Blk.new w 34 p.c)
  clear hb hf
  go_enter Tryz.func81, Tryz.ntmps81
  go_upto_region 1 with fail
  generalize w.alloc (.cells p.c 34) = V at *
  have HBL : Hid (∀ e : Later V, Blk e.x w.heap.size 34 p.c) := fun e => HB.out.later e
  obtain ⟨e, he⟩ := Later.self V
  rw [he]
  clear he
  go_wp2_with (first | (refine wpList_row (by rfl) 34 _ rfl _ rfl (HBL.out _) Tryz.underlying34 rfl (by kernel_rfl) ?_) | (go_at_call 101; refine (Ret.later (KI.out _)).mono ?_; rintro x _ ⟨rfl, e, rfl⟩))
  go_ret2
  exact Ret.mk rfl (HE.out.trans ((Later.h e).alloc _))
set_option maxRecDepth 20000 in
theorem cPriBuild_ok (p : PV) (hnl : Hid (p.d.name.length < 4611686018427387904 ∧ p.s.name.length < 4611686018427387904 ∧ p.r.name.length < 4611686018427387904)) (hf : p.fl < 18446744073709551616) (hb : p.right = 0) (w : World) : Calls Tryz.prog 81 #[.agg p.c] w (Ret (.tuple #[str p.bytes, .int .i64 0]) w) := by
  have KI := hid (fun W => cPriItem_ok p hnl hf hb W)
  obtain ⟨t1, t2, t3, t4⟩ := PV.tree_all (PV.right_ranged hb)
  have KB : Hid (∀ A c W, IsL W (fun _ => True) p.tree A → Calls Tryz.prog 28 #[itemV p.tree A c] W (Ret (.tuple #[str p.bytes, .int .i64 0]) W)) := fun A c W hW => by
    have := iBuild_any p.tree t1 (by omega) A c W hW
    unfold buildV at this
    rwa [if_pos (t2 8 (by omega)), t4] at this
  generalize p.tree = Y at *
  generalize p.bytes = B at *
  have HE := hid ((Mod.refl [] w).alloc (.cells p.c 34))
  have HB := hid (Blk.new w 34 p.c)
  clear hb hf t1 t2 t3 t4
  go_enter Tryz.func81, Tryz.ntmps81
  go_upto_region 1 with fail
  generalize w.alloc (.cells p.c 34) = V at *
  have HBL : Hid (∀ e : Later V, Blk e.x w.heap.size 34 p.c) := fun e => HB.out.later e
  obtain ⟨e, he⟩ := Later.self V
  rw [he]
  clear he
  go_upto_region 2 with (first | (refine wpList_row (by rfl) 34 _ rfl _ rfl (HBL.out _) Tryz.underlying34 rfl (by kernel_rfl) ?_) | (go_at_call 101; refine (KI.out _).mono ?_; rintro x w1 ⟨A, c, rfl, hb1, hl1⟩))
  have HL1 := hid (IsL.ext (IsL.weak (R := fun _ => True) (fun _ _ _ => trivial) _ hl1) ((Mod.refl [] w1).alloc (.cells (itemC Y A c) 64)))
  have HX1 := hid (Blk.new w1 64 (itemC Y A c))
  have HE1 := hid ((HE.out.trans (e.h.trans hb1)).alloc (.cells (itemC Y A c) 64))
  obtain ⟨q0, q1, q2, q3, q4⟩ := cells5 HX1.out
  clear hb1 hl1
  go_wp2_with (go_at_call 28; refine (KB.out _ _ _ HL1.out).mono ?_; rintro x w2 ⟨rfl, hb2⟩)
  go_ret2
  exact Ret.mk rfl (HE1.out.trans hb2)
def PV.plain (p : PV) : PV := { p with crc := 0 }
theorem PV.plain_right {p : PV} (h : p.right = 0) : p.plain.right = 0 := by
  have hr := PV.right_ranged h
  have hr2 : p.plain.ranged = true := by
    have := PV.ranged_spec hr
    unfold PV.plain PV.ranged
    rw [this.1, this.2.1, this.2.2.1]
    simp; omega
  unfold PV.right at h ⊢
  rw [if_neg (by rw [hr]; decide)] at h
  rw [if_neg (by rw [hr2]; decide)]
  exact h
end Go.Proofs.YtogjghmoankleaaGreat


namespace Go.Proofs.YtogjghmoankleaaGreat
open Go.RowKit
set_option linter.unusedVariables false
set_option linter.unusedSimpArgs false

theorem Crc.rv_succ : ∀ (i n : Nat), Crc.rv (i + 1) n = 2 * Crc.rv i n + n / 2 ^ i % 2
  | 0, n => by simp [Crc.rv]
  | i + 1, n => by
    have h := Crc.rv_succ i (n / 2)
    have e : n / 2 / 2 ^ i = n / 2 ^ (i + 1) := by rw [Nat.div_div_eq_div_mul, Nat.pow_succ, Nat.mul_comm]
    have e2 : 2 ^ (i + 1) * (n % 2) = 2 * (2 ^ i * (n % 2)) := by rw [Nat.pow_succ, Nat.mul_comm (2 ^ i) 2, Nat.mul_assoc]
    have e3 : Crc.rv (i + 1 + 1) n = 2 ^ (i + 1) * (n % 2) + Crc.rv (i + 1) (n / 2) := rfl
    have e4 : Crc.rv (i + 1) n = 2 ^ i * (n % 2) + Crc.rv i (n / 2) := rfl
    rw [e3, h, e4, e, e2]
    omega

set_option maxHeartbeats 400000 in
theorem turn_n (n : Nat) (hn : Hid (n < 4294967296)) (size : Nat) (hs : Hid (size ≤ 32)) (w : World) : Calls Tryz.prog 104 #[.int .u64 (n : Int), .int .i64 (size : Int)] w (Ret (.int .u64 (Crc.rv size n : Nat)) w) := by
  go_enter Tryz.func104, Tryz.ntmps104
  go_wp2
  go_loopw [0, 5, 6] (fun x o i wr => ∃ j : Nat, j ≤ size ∧ i = .int .i64 j ∧ o = .int .u64 ((Crc.rv j n : Nat) : Int) ∧ x = .int .u64 ((n / 2 ^ j : Nat) : Int) ∧ Ext w wr) (fun _ _ i _ => size - (intOf i).toNat)
  case atStart => exact ⟨0, Nat.zero_le _, rfl, rfl, by simp, Mod.refl _ _⟩
  case round =>
    obtain ⟨j, hj, rfl, rfl, rfl, hb⟩ := hrel
    by_cases hlt : j < size
    · have h32 := hs.out
      have HS := hid (Crc.rv_succ j n)
      have hx : n / 2 ^ (j + 1) = n / 2 ^ j / 2 := by rw [Nat.div_div_eq_div_mul, Nat.pow_succ]
      have HX := hid hx; clear hx
      have hr : Crc.rv j n < 4294967296 := Nat.lt_of_lt_of_le (Crc.rv_lt j n) (show 2 ^ j ≤ 2 ^ 32 from Nat.pow_le_pow_right (by omega) (by omega))
      have hq : n / 2 ^ j < 4294967296 := Nat.lt_of_le_of_lt (Nat.div_le_self _ _) hn.out
      generalize Crc.rv j n = r at *
      generalize n / 2 ^ j = q at *
      go_wp2
      go_roundw
      case rel => exact ⟨j + 1, by omega, by go_num, by rw [HS.out]; go_num, by rw [HX.out]; go_num, hb⟩
      case measure => simp [intOf]; omega
    · obtain rfl : j = size := by omega
      go_wp2
      go_ret
      exact ⟨rfl, hb⟩

set_option maxHeartbeats 400000 in
theorem divisor_16 (w : World) : Calls Tryz.prog 103 #[.int .i64 16] w (Ret (.int .u64 4129) w) := by
  go_enter Tryz.func103, Tryz.ntmps103
  go_wp2
  go_ret
  exact Ret.mk rfl (Mod.refl _ _)
def Crc.tab : List Nat := [28, 27, 26, 25, 23, 22, 20, 19, 18, 14, 13, 11, 10, 9, 8, 6, 0]
def Crc.dv (j : Nat) : Nat := ((Crc.tab.take j).map (2 ^ ·)).sum
theorem Crc.dv_succ : ∀ j : Fin 17, Crc.dv (j.val + 1) = Crc.dv j.val + 2 ^ (Crc.tab.getD j.val 0) ∧ Crc.dv j.val ≤ 517762881 ∧ Crc.tab.getD j.val 0 ≤ 28 := by decide
set_option maxHeartbeats 400000 in
theorem divisor_32 (w : World) : Calls Tryz.prog 103 #[.int .i64 32] w (Ret (.int .u64 517762881) w) := by
  go_enter Tryz.func103, Tryz.ntmps103
  go_wp2
  have hext := hid ((Mod.refl [] w).alloc (.cells ((Crc.tab.map fun (n : Nat) => Value.int .i64 (n : Int)).toArray) 152))
  have hcell : Hid (∀ j, j < 17 → (w.alloc (.cells ((Crc.tab.map fun (n : Nat) => Value.int .i64 (n : Int)).toArray) 152)).cell? ⟨w.heap.size, j, none⟩ = some (.int .i64 ((Crc.tab.getD j 0 : Nat) : Int))) := fun j hj => by
    rw [(Blk.new w 152 _).cell j]
    have h : j < Crc.tab.length := hj
    simp [h]
  have hW : ∃ W, W = w.alloc (.cells ((Crc.tab.map fun (n : Nat) => Value.int .i64 (n : Int)).toArray) 152) := ⟨_, rfl⟩
  obtain ⟨W, hW⟩ := hW
  rw [← hW] at hext hcell
  change Code.wp _ _ _ _ (w.alloc (.cells ((Crc.tab.map fun (n : Nat) => Value.int .i64 (n : Int)).toArray) 152))
  rw [← hW]
  clear hW
  go_loop [3, 5, 6, 7] (fun n i p k => ∃ j : Nat, j ≤ 17 ∧ i = .int .i64 j ∧ n = .int .u64 ((Crc.dv j : Nat) : Int)) (fun _ i _ _ => 17 - (intOf i).toNat)
  case atStart => exact ⟨0, Nat.zero_le _, rfl, rfl⟩
  case round =>
    obtain ⟨j, hj, rfl, rfl⟩ := hrel
    by_cases hlt : j < 17
    · have hc := hcell.out j hlt
      obtain ⟨hd, hd2, ht⟩ := Crc.dv_succ ⟨j, hlt⟩
      simp only [] at hd hd2 ht
      have HD := hid hd; clear hd
      generalize Crc.tab.getD j 0 = t at *
      generalize Crc.dv j = d at *
      go_wp2
      go_loop [6, 7] (fun p k => ∃ i : Nat, i ≤ t ∧ k = .int .i64 i ∧ p = .int .u64 ((2 ^ i : Nat) : Int)) (fun _ k => t - (intOf k).toNat)
      case atStart => exact ⟨0, Nat.zero_le _, rfl, rfl⟩
      case round =>
        obtain ⟨i, hi, rfl, rfl⟩ := hrel
        have hp : 2 ^ i ≤ 268435456 := show 2 ^ i ≤ 2 ^ 28 from Nat.pow_le_pow_right (by omega) (by omega)
        by_cases hil : i < t
        · have HS := hid (Nat.pow_succ 2 i)
          generalize 2 ^ i = x at *
          go_wp2
          go_round
          case rel => exact ⟨i + 1, by omega, by go_num, by rw [HS.out]; go_num⟩
          case measure => simp [intOf]; omega
        · obtain rfl : i = t := by omega
          generalize 2 ^ i = x at *
          go_wp2
          go_round
          case rel => exact ⟨j + 1, by omega, by go_num, by rw [HD.out]; go_num⟩
          case measure => simp [intOf]; omega
    · obtain rfl : j = 17 := by omega
      go_wp2
      go_ret
      have e : Crc.dv 17 = 517762881 := by decide
      refine ⟨?_, hext.out⟩
      show Ending.returned (.int .u64 ((Crc.dv 17 : Nat) : Int)) = _
      rw [e]; rfl
end Go.Proofs.YtogjghmoankleaaGreat


namespace Go.Proofs.YtogjghmoankleaaGreat
open Go.RowKit
set_option linter.unusedVariables false
set_option linter.unusedSimpArgs false

theorem Crc.stepR_lt {m d r b : Nat} (hd : d < 2 ^ m) : Crc.stepR (2 ^ m) d r b < 2 ^ m := by
  have := Nat.mod_lt (r * 2) (Nat.two_pow_pos m)
  unfold Crc.stepR
  split
  · exact this
  · exact Nat.xor_lt_two_pow this hd

theorem Crc.x_16 (l : List UInt8) : Crc.rv 16 (65535 - Crc.divR 65536 4129 65535 l) = Crc.x25 l := Crc.sums (m := 15) (p := 33800) (by decide) l
theorem Crc.r_16 {r c : Nat} : Crc.stepR 65536 4129 r c = if r / 32768 = c then r * 2 % 65536 else (r * 2 % 65536) ^^^ 4129 := rfl
set_option maxHeartbeats 800000 in
theorem Sum16 (l : List UInt8) (hl : Hid (l.length < 1000000)) (w : World) : Calls Tryz.prog 83 #[.int .i64 16, str l] w (Ret (.int .u64 (Crc.x25 l : Nat)) w) := by
  obtain ⟨T, hT⟩ : ∃ T, T = Crc.divR 65536 4129 65535 l := ⟨_, rfl⟩
  have hX := Crc.x_16 l
  rw [← hT] at hX
  rw [← hX]
  have HT := hid hT; clear hT hX
  go_enter Tryz.func83, Tryz.ntmps83
  go_wp2_with fail
  go_loop [5, 6] (fun t i => ∃ j : Nat, j ≤ 16 ∧ i = .int .i64 j ∧ t = .int .u64 ((2 ^ j : Nat) : Int)) (fun _ i => 16 - (intOf i).toNat)
  case atStart => exact ⟨0, Nat.zero_le _, rfl, rfl⟩
  case round =>
    obtain ⟨j, hj, rfl, rfl⟩ := hrel
    have hp : 2 ^ j ≤ 4294967296 := show 2 ^ j ≤ 2 ^ 32 from Nat.pow_le_pow_right (by omega) (by omega)
    by_cases hlt : j < 16
    · have HS := hid (Nat.pow_succ 2 j)
      generalize 2 ^ j = x at *
      go_wp2_with fail
      go_round
      case rel => exact ⟨j + 1, by omega, by go_num, by rw [HS.out]; go_num⟩
      case measure => simp [intOf]; omega
    · obtain rfl : j = 16 := by omega
      have e2 : (2 : Nat) ^ 16 = 65536 := by decide
      rw [e2]
      clear e2 hp
      go_wp2_with fail
      refine (divisor_16 _).mono ?_
      rintro e w1 ⟨rfl, hb1⟩
      go_wp2_with fail
      go_loop [7, 9, 10, 11, 12, 13] (fun r i c k bt h => ∃ j x : Nat, j ≤ l.length ∧ x < 65536 ∧ i = .int .i64 j ∧ r = .int .u64 (x : Int) ∧ Hid (T = Crc.divR 65536 4129 x (l.drop j))) (fun _ i _ _ _ _ => l.length - (intOf i).toNat)
      case atStart => exact ⟨0, 65535, Nat.zero_le _, by omega, rfl, rfl, HT⟩
      case round =>
        obtain ⟨j, x, hj, hx, rfl, rfl, HR⟩ := hrel
        have hl2 : l.length < 1000000 := hl.out
        by_cases hlt : j < l.length
        · have HS : Hid (T = Crc.divR 65536 4129 (Crc.stepsR 65536 4129 8 x (l[j]).toNat) (l.drop (j + 1))) := by
            have h1 := HR.out
            rw [List.drop_eq_getElem_cons hlt] at h1
            exact h1
          clear HR
          have hc8 := (l[j]).toNat_lt
          go_wp2_with fail
          generalize hcn : (l[j]).toNat = cn at *
          have HCN := hid hcn; clear hcn
          go_loop [7, 10, 11, 12, 13] (fun r c k bt h => ∃ n y d : Nat, n ≤ 8 ∧ y < 65536 ∧ d < 256 ∧ k = .int .i64 n ∧ r = .int .u64 (y : Int) ∧ c = .int .i64 (d : Int) ∧ Hid (Crc.stepsR 65536 4129 (8 - n) y d = Crc.stepsR 65536 4129 8 x cn)) (fun _ _ k _ _ => 8 - (intOf k).toNat)
          case atStart => exact ⟨0, x, cn, by omega, hx, by omega, rfl, rfl, (by show Value.int .i64 (wrap64 ((l[j]).toNat : Int)) = _; rw [HCN.out]; congr 1; exact IntWalk.wrap64_in _ (by omega)), rfl⟩
          case round =>
            obtain ⟨n, y, d, hn, hy, hd, rfl, rfl, rfl, HQ⟩ := hrel
            by_cases hn8 : n < 8
            · have HN : Hid (Crc.stepsR 65536 4129 (8 - (n + 1)) (Crc.stepR 65536 4129 y (d % 2)) (d / 2) = Crc.stepsR 65536 4129 8 x cn) := by
                have h1 := HQ.out
                rw [show 8 - n = (8 - (n + 1)) + 1 by omega] at h1
                exact h1
              have hL := Crc.stepR_lt (m := 16) (d := 4129) (r := y) (b := d % 2) (by decide)
              clear HQ
              by_cases hbit : y / 32768 = d % 2
              · have hE : Crc.stepR 65536 4129 y (d % 2) = y * 2 % 65536 := by rw [Crc.r_16, if_pos hbit]
                rw [hE] at HN hL
                go_wp2_with fail
                go_round
                case rel => exact ⟨n + 1, _, d / 2, by omega, hL, by omega, by go_num, by simp, by simp, HN⟩
                case measure => simp [intOf]; omega
              · have hE : Crc.stepR 65536 4129 y (d % 2) = (y * 2 % 65536) ^^^ 4129 := by rw [Crc.r_16, if_neg hbit]
                have tX := u64_xor_nat (y * 2 % 65536) 4129 (by omega) (by omega)
                rw [hE] at HN hL
                go_wp2_with fail
                go_round
                case rel => exact ⟨n + 1, _, d / 2, by omega, hL, by omega, by go_num, by rw [← tX]; simp, by simp, HN⟩
                case measure => simp [intOf]; omega
            · obtain rfl : n = 8 := by omega
              have h1 : y = Crc.stepsR 65536 4129 8 x cn := HQ.out
              subst h1
              clear HQ
              go_wp2_with fail
              go_round
              case rel => exact ⟨j + 1, _, by omega, hy, by go_num, rfl, HS⟩
              case measure => simp [intOf]; omega
        · obtain rfl : j = l.length := by omega
          have h1 := HR.out
          rw [List.drop_length] at h1
          have h2 : T = x := h1
          subst h2
          clear HR h1
          go_wp2_with fail
          have K := hid (fun W => turn_n (65535 - T) (by unfold Hid; omega) 16 (by unfold Hid; omega) W)
          have e5 : ((65535 - T : Nat) : Int) = 65535 - (T : Int) := by omega
          rw [e5] at K
          refine (K.out _).mono ?_
          rintro e w2 ⟨rfl, hb2⟩
          go_wp2_with fail
          go_ret
          exact Ret.mk rfl (hb1.trans hb2)

theorem Crc.x_32 (l : List UInt8) : Crc.rv 32 (4294967295 - Crc.divR 4294967296 517762881 4294967295 l) = Crc.cast l := Crc.sums (m := 31) (p := 2197175160) (by decide) l
theorem Crc.r_32 {r c : Nat} : Crc.stepR 4294967296 517762881 r c = if r / 2147483648 = c then r * 2 % 4294967296 else (r * 2 % 4294967296) ^^^ 517762881 := rfl
set_option maxHeartbeats 800000 in
theorem Sum32 (l : List UInt8) (hl : Hid (l.length < 1000000)) (w : World) : Calls Tryz.prog 83 #[.int .i64 32, str l] w (Ret (.int .u64 (Crc.cast l : Nat)) w) := by
  obtain ⟨T, hT⟩ : ∃ T, T = Crc.divR 4294967296 517762881 4294967295 l := ⟨_, rfl⟩
  have hX := Crc.x_32 l
  rw [← hT] at hX
  rw [← hX]
  have HT := hid hT; clear hT hX
  go_enter Tryz.func83, Tryz.ntmps83
  go_wp2_with fail
  go_loop [5, 6] (fun t i => ∃ j : Nat, j ≤ 32 ∧ i = .int .i64 j ∧ t = .int .u64 ((2 ^ j : Nat) : Int)) (fun _ i => 32 - (intOf i).toNat)
  case atStart => exact ⟨0, Nat.zero_le _, rfl, rfl⟩
  case round =>
    obtain ⟨j, hj, rfl, rfl⟩ := hrel
    have hp : 2 ^ j ≤ 4294967296 := show 2 ^ j ≤ 2 ^ 32 from Nat.pow_le_pow_right (by omega) (by omega)
    by_cases hlt : j < 32
    · have HS := hid (Nat.pow_succ 2 j)
      generalize 2 ^ j = x at *
      go_wp2_with fail
      go_round
      case rel => exact ⟨j + 1, by omega, by go_num, by rw [HS.out]; go_num⟩
      case measure => simp [intOf]; omega
    · obtain rfl : j = 32 := by omega
      have e2 : (2 : Nat) ^ 32 = 4294967296 := by decide
      rw [e2]
      clear e2 hp
      go_wp2_with fail
      refine (divisor_32 _).mono ?_
      rintro e w1 ⟨rfl, hb1⟩
      go_wp2_with fail
      go_loop [7, 9, 10, 11, 12, 13] (fun r i c k bt h => ∃ j x : Nat, j ≤ l.length ∧ x < 4294967296 ∧ i = .int .i64 j ∧ r = .int .u64 (x : Int) ∧ Hid (T = Crc.divR 4294967296 517762881 x (l.drop j))) (fun _ i _ _ _ _ => l.length - (intOf i).toNat)
      case atStart => exact ⟨0, 4294967295, Nat.zero_le _, by omega, rfl, rfl, HT⟩
      case round =>
        obtain ⟨j, x, hj, hx, rfl, rfl, HR⟩ := hrel
        have hl2 : l.length < 1000000 := hl.out
        by_cases hlt : j < l.length
        · have HS : Hid (T = Crc.divR 4294967296 517762881 (Crc.stepsR 4294967296 517762881 8 x (l[j]).toNat) (l.drop (j + 1))) := by
            have h1 := HR.out
            rw [List.drop_eq_getElem_cons hlt] at h1
            exact h1
          clear HR
          have hc8 := (l[j]).toNat_lt
          go_wp2_with fail
          generalize hcn : (l[j]).toNat = cn at *
          have HCN := hid hcn; clear hcn
          go_loop [7, 10, 11, 12, 13] (fun r c k bt h => ∃ n y d : Nat, n ≤ 8 ∧ y < 4294967296 ∧ d < 256 ∧ k = .int .i64 n ∧ r = .int .u64 (y : Int) ∧ c = .int .i64 (d : Int) ∧ Hid (Crc.stepsR 4294967296 517762881 (8 - n) y d = Crc.stepsR 4294967296 517762881 8 x cn)) (fun _ _ k _ _ => 8 - (intOf k).toNat)
          case atStart => exact ⟨0, x, cn, by omega, hx, by omega, rfl, rfl, (by show Value.int .i64 (wrap64 ((l[j]).toNat : Int)) = _; rw [HCN.out]; congr 1; exact IntWalk.wrap64_in _ (by omega)), rfl⟩
          case round =>
            obtain ⟨n, y, d, hn, hy, hd, rfl, rfl, rfl, HQ⟩ := hrel
            by_cases hn8 : n < 8
            · have HN : Hid (Crc.stepsR 4294967296 517762881 (8 - (n + 1)) (Crc.stepR 4294967296 517762881 y (d % 2)) (d / 2) = Crc.stepsR 4294967296 517762881 8 x cn) := by
                have h1 := HQ.out
                rw [show 8 - n = (8 - (n + 1)) + 1 by omega] at h1
                exact h1
              have hL := Crc.stepR_lt (m := 32) (d := 517762881) (r := y) (b := d % 2) (by decide)
              clear HQ
              by_cases hbit : y / 2147483648 = d % 2
              · have hE : Crc.stepR 4294967296 517762881 y (d % 2) = y * 2 % 4294967296 := by rw [Crc.r_32, if_pos hbit]
                rw [hE] at HN hL
                go_wp2_with fail
                go_round
                case rel => exact ⟨n + 1, _, d / 2, by omega, hL, by omega, by go_num, by simp, by simp, HN⟩
                case measure => simp [intOf]; omega
              · have hE : Crc.stepR 4294967296 517762881 y (d % 2) = (y * 2 % 4294967296) ^^^ 517762881 := by rw [Crc.r_32, if_neg hbit]
                have tX := u64_xor_nat (y * 2 % 4294967296) 517762881 (by omega) (by omega)
                rw [hE] at HN hL
                go_wp2_with fail
                go_round
                case rel => exact ⟨n + 1, _, d / 2, by omega, hL, by omega, by go_num, by rw [← tX]; simp, by simp, HN⟩
                case measure => simp [intOf]; omega
            · obtain rfl : n = 8 := by omega
              have h1 : y = Crc.stepsR 4294967296 517762881 8 x cn := HQ.out
              subst h1
              clear HQ
              go_wp2_with fail
              go_round
              case rel => exact ⟨j + 1, _, by omega, hy, by go_num, rfl, HS⟩
              case measure => simp [intOf]; omega
        · obtain rfl : j = l.length := by omega
          have h1 := HR.out
          rw [List.drop_length] at h1
          have h2 : T = x := h1
          subst h2
          clear HR h1
          go_wp2_with fail
          have K := hid (fun W => turn_n (4294967295 - T) (by unfold Hid; omega) 32 (by unfold Hid; omega) W)
          have e5 : ((4294967295 - T : Nat) : Int) = 4294967295 - (T : Int) := by omega
          rw [e5] at K
          refine (K.out _).mono ?_
          rintro e w2 ⟨rfl, hb2⟩
          go_wp2_with fail
          go_ret
          exact Ret.mk rfl (hb1.trans hb2)
end Go.Proofs.YtogjghmoankleaaGreat


namespace Go.Proofs.YtogjghmoankleaaGreat
open Go.RowKit
set_option linter.unusedVariables false
set_option linter.unusedSimpArgs false

/-- Its item: five parts, or six. -/
def blkT (ty num fl crc : Nat) (data sum : List UInt8) : T := T.mk 4 0 [] false (if crc = 0 then 5 else 6) fun i => if i = 0 then numT ty else if i = 1 then numT num else if i = 2 then numT fl else if i = 3 then numT crc else if i = 4 then strT data else if i = 5 then strT sum else T.nil

/-- The cells of its first five parts. -/
abbrev blk5 (ty num fl crc : Nat) (data : List UInt8) : Array Value := #[.int .i64 0, .int .u64 (ty : Int), str [], .slice none 0 0, .bool false, .int .i64 0, .int .u64 (num : Int), str [], .slice none 0 0, .bool false, .int .i64 0, .int .u64 (fl : Int), str [], .slice none 0 0, .bool false, .int .i64 0, .int .u64 (crc : Int), str [], .slice none 0 0, .bool false, .int .i64 2, .int .u64 0, str data, .slice none 0 0, .bool false]

theorem blk5_IsL {W : World} {Q : Nat → Prop} {g : Nat} {ty num fl : Nat} {data sum : List UInt8} (q : Q g) (h : Blk W g 64 (blk5 ty num fl 0 data)) : IsL W Q (blkT ty num fl 0 data sum) (some ⟨g, 0, none⟩) := fun _ => ⟨g, 0, rfl, h.lt, q, fun j hj => by
  have hj2 : j = 0 ∨ j = 1 ∨ j = 2 ∨ j = 3 ∨ j = 4 := by simp at hj; omega
  rcases hj2 with rfl | rfl | rfl | rfl | rfl
  · exact ⟨none, 0, ⟨h.cell 0, h.cell 1, h.cell 2, h.cell 3, h.cell 4⟩, fun h => absurd h (by decide)⟩
  · exact ⟨none, 0, ⟨h.cell 5, h.cell 6, h.cell 7, h.cell 8, h.cell 9⟩, fun h => absurd h (by decide)⟩
  · exact ⟨none, 0, ⟨h.cell 10, h.cell 11, h.cell 12, h.cell 13, h.cell 14⟩, fun h => absurd h (by decide)⟩
  · exact ⟨none, 0, ⟨h.cell 15, h.cell 16, h.cell 17, h.cell 18, h.cell 19⟩, fun h => absurd h (by decide)⟩
  · exact ⟨none, 0, ⟨h.cell 20, h.cell 21, h.cell 22, h.cell 23, h.cell 24⟩, fun h => absurd h (by decide)⟩⟩
theorem blk6_IsL {W : World} {Q : Nat → Prop} {base g c : Nat} {ty num fl crc : Nat} {data sum : List UInt8} (hc : ¬ crc = 0) (q : Q g) (hlt : g < W.heap.size) (h : W.ownsRow base 64 5 (.slice (some ⟨g, 0, none⟩) (5 + 1) c) (5 + 1) ((blk5 ty num fl crc data).toList ++ [Value.int .i64 (strT sum).kind, .int .u64 ((strT sum).n : Int), str (strT sum).s, .slice none (strT sum).k 0, .bool (strT sum).op])) : IsL W Q (blkT ty num fl crc data sum) (some ⟨g, 0, none⟩) := by
  unfold blkT
  rw [if_neg hc]
  refine fun _ => ⟨g, 0, rfl, hlt, q, fun j hj => ?_⟩
  have hj2 : j = 0 ∨ j = 1 ∨ j = 2 ∨ j = 3 ∨ j = 4 ∨ j = 5 := by omega
  rcases hj2 with rfl | rfl | rfl | rfl | rfl | rfl
  · exact ⟨none, 0, ⟨own_cells (j := 0) h rfl, own_cells (j := 1) h rfl, own_cells (j := 2) h rfl, own_cells (j := 3) h rfl, own_cells (j := 4) h rfl⟩, fun h => absurd h (by decide)⟩
  · exact ⟨none, 0, ⟨own_cells (j := 5) h rfl, own_cells (j := 6) h rfl, own_cells (j := 7) h rfl, own_cells (j := 8) h rfl, own_cells (j := 9) h rfl⟩, fun h => absurd h (by decide)⟩
  · exact ⟨none, 0, ⟨own_cells (j := 10) h rfl, own_cells (j := 11) h rfl, own_cells (j := 12) h rfl, own_cells (j := 13) h rfl, own_cells (j := 14) h rfl⟩, fun h => absurd h (by decide)⟩
  · exact ⟨none, 0, ⟨own_cells (j := 15) h rfl, own_cells (j := 16) h rfl, own_cells (j := 17) h rfl, own_cells (j := 18) h rfl, own_cells (j := 19) h rfl⟩, fun h => absurd h (by decide)⟩
  · exact ⟨none, 0, ⟨own_cells (j := 20) h rfl, own_cells (j := 21) h rfl, own_cells (j := 22) h rfl, own_cells (j := 23) h rfl, own_cells (j := 24) h rfl⟩, fun h => absurd h (by decide)⟩
  · exact ⟨none, 0, ⟨own_cells (j := 25) h rfl, own_cells (j := 26) h rfl, own_cells (j := 27) h rfl, own_cells (j := 28) h rfl, own_cells (j := 29) h rfl⟩, fun h => absurd h (by decide)⟩
set_option maxRecDepth 20000 in
set_option maxHeartbeats 800000 in
theorem with_any (ty num fl crc : Nat) (data sum : List UInt8) (h1 : ty ≤ 65535) (h2 : num ≤ 65535) (h3 : crc ≤ 2) (w : World) : Calls Tryz.prog 113 #[BV.v ⟨ty, num, fl, crc, data⟩, str sum] w (fun e w' => ∃ A c, e = .returned (itemV (blkT ty num fl crc data sum) A c) ∧ Ext w w' ∧ IsL w' (fun b => w.heap.size ≤ b) (blkT ty num fl crc data sum) A) := by
  have HB := hid ((Blk.new w 49 (BV.c ⟨ty, num, fl, crc, data⟩)).alloc (.cells #[.int .i64 0, .int .u64 0, .string ⟨#[]⟩, .slice none 0 0, .bool false] 64))
  have HR : Hid (Blk ((w.alloc (.cells (BV.c ⟨ty, num, fl, crc, data⟩) 49)).alloc (.cells #[.int .i64 0, .int .u64 0, .string ⟨#[]⟩, .slice none 0 0, .bool false] 64)) (w.heap.size + 1) 64 #[.int .i64 0, .int .u64 0, .string ⟨#[]⟩, .slice none 0 0, .bool false]) := by
    have := Blk.new (w.alloc (.cells (BV.c ⟨ty, num, fl, crc, data⟩) 49)) 64 #[.int .i64 0, .int .u64 0, .string ⟨#[]⟩, .slice none 0 0, .bool false]
    unfold Hid
    simpa using this
  have HE := hid (((Mod.refl [] w).alloc (.cells (BV.c ⟨ty, num, fl, crc, data⟩) 49)).alloc (.cells #[.int .i64 0, .int .u64 0, .string ⟨#[]⟩, .slice none 0 0, .bool false] 64))
  have t1 : IntKind.u64.wrap (ty : Int) = (ty : Int) := IntWalk.u64_in _ (by omega)
  have t2 : IntKind.u64.wrap (num : Int) = (num : Int) := IntWalk.u64_in _ (by omega)
  have t3 : IntKind.u64.wrap (crc : Int) = (crc : Int) := IntWalk.u64_in _ (by omega)
  go_enter Tryz.func113, Tryz.ntmps113
  go_upto_region 1 with fail
  generalize ((w.alloc (.cells (BV.c ⟨ty, num, fl, crc, data⟩) 49)).alloc (.cells #[.int .i64 0, .int .u64 0, .string ⟨#[]⟩, .slice none 0 0, .bool false] 64)) = V at *
  have HS : Hid (∀ w', Ext V w' → w'.cell? ⟨w.heap.size, 0, none⟩ = some (.int .i64 (ty : Int)) ∧ w'.cell? ⟨w.heap.size, 1, none⟩ = some (.int .i64 (num : Int)) ∧ w'.cell? ⟨w.heap.size, 2, none⟩ = some (.int .u64 (fl : Int)) ∧ w'.cell? ⟨w.heap.size, 3, none⟩ = some (.int .i64 (crc : Int)) ∧ w'.cell? ⟨w.heap.size, 4, none⟩ = some (str data)) := fun W hW => by
    have b1 := HB.out.ext hW
    exact ⟨b1.cell 0, b1.cell 1, b1.cell 2, b1.cell 3, b1.cell 4⟩
  obtain ⟨p0, p1, p2, p3, p4⟩ := HS.out V (Mod.refl _ _)
  go_cut [5] (fun s3 wx => ∃ g3, s3 = .slice (some ⟨g3, 0, none⟩) 5 5 ∧ Hid (Ext V wx ∧ Blk wx g3 64 (blk5 ty num fl crc data) ∧ w.heap.size + 2 ≤ g3))
  case first =>
    go_region_held3 (fun w' => w'.cell? ⟨w.heap.size, 0, none⟩ = some (.int .i64 (ty : Int)) ∧ w'.cell? ⟨w.heap.size, 1, none⟩ = some (.int .i64 (num : Int)) ∧ w'.cell? ⟨w.heap.size, 2, none⟩ = some (.int .u64 (fl : Int)) ∧ w'.cell? ⟨w.heap.size, 3, none⟩ = some (.int .i64 (crc : Int)) ∧ w'.cell? ⟨w.heap.size, 4, none⟩ = some (str data)) (go_keep)
        (first
          | (go_at_call 31; (try rw [t1]); (try rw [t2]); (try rw [t3]); refine (NumI_any _ _).mono ?_; rintro x w3 ⟨rfl, hb3⟩; have hx : Ext V w3 := (by (with_reducible refine Mod.trans ?_ hb3); (repeat (first | with_reducible assumption | with_reducible exact Mod.refl _ _ | with_reducible refine Mod.drew ?_ | with_reducible refine Mod.alloc ?_ _))); have z := HS.out w3 hx)
          | (go_at_call 117; refine (StrV_any _ _).mono ?_; rintro x w3 ⟨rfl, hb3⟩; have hx : Ext V w3 := (by (with_reducible refine Mod.trans ?_ hb3); (repeat (first | with_reducible assumption | with_reducible exact Mod.refl _ _ | with_reducible refine Mod.drew ?_ | with_reducible refine Mod.alloc ?_ _))); have z := HS.out w3 hx))
    all_goals go_wp2_with fail
    all_goals go_meet
    all_goals exact ⟨_, rfl, Mod.alloc hx _, Blk.new _ _ _, Nat.le_trans (Nat.succ_le_of_lt HR.out.lt) (Mod.size (S := []) (w := V) (by assumption))⟩
  obtain ⟨g3, rfl, hG⟩ := hcut
  have HE1 := hid (HE.out.trans hG.out.1)
  have HB1 := hid (HB.out.ext hG.out.1)
  have HR1 := hid (HR.out.ext hG.out.1)
  have q3 : wc.cell? ⟨w.heap.size, 3, none⟩ = some (.int .i64 (crc : Int)) := HB1.out.cell 3
  clear p0 p1 p2 p3 p4 HS t1 t2 t3 HE HB HR
  by_cases hc : crc = 0
  · subst hc
    go_wp2_with fail
    refine (ListV_any 5 _ 5 _).mono ?_
    rintro e w8 ⟨rfl, hb8⟩
    have HE8 := hid (HE1.out.trans hb8)
    have HR8 : Hid (Blk w8 (w.heap.size + 1) 64 (itemC (T.mk 0 0 [] false 0 fun _ => T.nil) none 0)) := hid (HR1.out.ext hb8)
    have HG8 := hid (hG.out.2.1.ext hb8)
    obtain ⟨c0, c1, c2, c3, c4⟩ := cells5 HR8.out
    have f0 := Blk.frozen HR8.out 0
    have f1 := Blk.frozen HR8.out 1
    have f2 := Blk.frozen HR8.out 2
    have f3 := Blk.frozen HR8.out 3
    have f4 := Blk.frozen HR8.out 4
    clear hb8 q3
    go_wp2_with fail
    obtain ⟨d0, d1, d2, d3, d4⟩ := cells5 (set5_blk (t := blkT ty num fl 0 data sum) (A := some ⟨g3, 0, none⟩) (c := 5) HR8.out)
    clear c0 c1 c2 c3 c4 f0 f1 f2 f3 f4
    show bodyPost _ _ _ _ _ (set5 w8 (w.heap.size + 1) (blkT ty num fl 0 data sum) (some ⟨g3, 0, none⟩) 5)
    refine bodyPost_ret (v := itemV (blkT ty num fl 0 data sum) (some ⟨g3, 0, none⟩) 5) (by simp [results, Tryz.results113, go_sem, d0, d1, d2, d3, d4]) rfl ?_
    refine ⟨_, 5, rfl, set5_mod HE8.out (by omega), IsL.weak (fun _ _ h => by have : w.heap.size + 2 ≤ _ := h; omega) _ (IsL.mod (Q := fun b => w.heap.size + 2 ≤ b) set5_modb (fun k hq hk hm => by rw [List.mem_singleton] at hm; have : w.heap.size + 2 ≤ k := hq; omega) _ (blk5_IsL hG.out.2.2 HG8.out))⟩
  · have hc2 : ((crc : Int) = 0) = False := by simp [hc]
    have hc3 : ((crc : Int) == 0) = false := by simp [hc]
    obtain ⟨i0, hi, hz0, hz1, hz2⟩ := info_parts infoItem
    go_wp2_with fail
    refine (StrV_any sum _).mono ?_
    rintro e w8 ⟨rfl, hb8⟩
    have HE8 := hid (HE1.out.trans hb8)
    have HR8 := hid (HR1.out.ext hb8)
    have hown8 := own_of_blk (base := w.heap.size + 2) (n := 5) (size := 5) (hG.out.2.1.ext hb8) hG.out.2.2 (by decide) rfl
    clear hb8 q3
    go_wp2_with (at_builtin; refine wpList_append_own _ rfl _ _ 62 rfl (w.heap.size + 2) 64 i0 _ 5 64 Tryz.underlying62 hi hz0 hz1 hz2 rfl (by decide) _ _ _ rfl (hown8.alloc _) ⟨w8.heap.size, 0, none⟩ 1 1 [Value.int .i64 (strT sum).kind, .int .u64 ((strT sum).n : Int), str (strT sum).s, .slice none (strT sum).k 0, .bool (strT sum).op] rfl rfl (news5 w8 (strT sum) none 0) (one5 (strT sum) none 0) (by decide) (by decide) (by have := HR8.out.lt; simp; omega) ?_; intro v' w9 hown' hgrow _)
    obtain ⟨g4, k4, rfl, hg4, hlt4⟩ := own_form hown'
    have HE9 := hid ((HE8.out.alloc _).grown hgrow (fun k hk => by obtain rfl : g3 = k := Option.some.inj hk; right; have := hG.out.2.2; omega))
    have HR9 := hid ((HR8.out.alloc _).mod (Mod.grown (S := [g3]) (Mod.refl _ _) hgrow (fun k hk => by obtain rfl : g3 = k := Option.some.inj hk; left; simp)) (by have := hG.out.2.2; simp; omega))
    have HL9 := hid (blk6_IsL (sum := sum) (Q := fun b => w.heap.size + 2 ≤ b) hc (show w.heap.size + 2 ≤ g4 by omega) hlt4 hown')
    clear hown8 hown' hgrow hlt4 hz0 hz1 hz2 hi
    go_wp2_with fail
    refine (ListV_any 6 _ k4 _).mono ?_
    rintro e wA ⟨rfl, hbA⟩
    have HEA := hid (HE9.out.trans hbA)
    have HRA : Hid (Blk wA (w.heap.size + 1) 64 (itemC (T.mk 0 0 [] false 0 fun _ => T.nil) none 0)) := hid (HR9.out.ext hbA)
    have HLA := hid (HL9.out.ext hbA)
    obtain ⟨c0, c1, c2, c3, c4⟩ := cells5 HRA.out
    have f0 := Blk.frozen HRA.out 0
    have f1 := Blk.frozen HRA.out 1
    have f2 := Blk.frozen HRA.out 2
    have f3 := Blk.frozen HRA.out 3
    have f4 := Blk.frozen HRA.out 4
    clear hbA
    go_wp2_with fail
    obtain ⟨d0, d1, d2, d3, d4⟩ := cells5 (set5_blk (t := T.mk 4 0 [] false 6 fun _ => T.nil) (A := some ⟨g4, 0, none⟩) (c := k4) HRA.out)
    clear c0 c1 c2 c3 c4 f0 f1 f2 f3 f4
    show bodyPost _ _ _ _ _ (set5 wA (w.heap.size + 1) (T.mk 4 0 [] false 6 fun _ => T.nil) (some ⟨g4, 0, none⟩) k4)
    refine bodyPost_ret (v := itemV (T.mk 4 0 [] false 6 fun _ => T.nil) (some ⟨g4, 0, none⟩) k4) (by simp [results, Tryz.results113, go_sem, d0, d1, d2, d3, d4]) rfl ?_
    refine ⟨some ⟨g4, 0, none⟩, k4, ?_, set5_mod HEA.out (by omega), IsL.weak (fun _ _ h => by have : w.heap.size + 2 ≤ _ := h; omega) _ (IsL.mod (Q := fun b => w.heap.size + 2 ≤ b) set5_modb (fun k hq hk hm => by rw [List.mem_singleton] at hm; have : w.heap.size + 2 ≤ k := hq; omega) _ HLA.out)⟩
    simp only [blkT, if_neg hc]
    rfl
end Go.Proofs.YtogjghmoankleaaGreat


namespace Go.Proofs.YtogjghmoankleaaGreat
open Go.RowKit
set_option linter.unusedVariables false
set_option linter.unusedSimpArgs false

theorem blkT_ok {ty num fl crc : Nat} {data sum : List UInt8} (h1 : ty ≤ 65535) (h2 : num ≤ 65535) (h3 : fl ≤ 255) (h4 : crc ≤ 2) (h5 : data.length ≤ 4000) (h6 : sum.length ≤ 4000) : (blkT ty num fl crc data sum).ok := by
  unfold blkT T.ok
  refine ⟨by omega, by omega, by simp, by split <;> omega, fun i hi => ?_⟩
  dsimp only
  split
  · exact num_ok (by omega)
  · split
    · exact num_ok (by omega)
    · split
      · exact num_ok (by omega)
      · split
        · exact num_ok (by omega)
        · split
          · exact str_ok (by omega)
          · split
            · exact str_ok (by omega)
            · have : i < 6 := by split at hi <;> omega
              omega

set_option maxRecDepth 20000 in
theorem summed_0 (t : T) (A : Option Addr) (c : Nat) (w : World) : Calls Tryz.prog 112 #[.int .i64 0, itemV t A c] w (Ret (itemV t A c) w) := by
  have HB := hid (Blk.new w 64 (itemC t A c))
  go_enter Tryz.func112, Tryz.ntmps112
  go_wp2_with fail
  refine bodyPost_ret (v := itemV t A c) (by simp [results, Tryz.results112, go_sem]) rfl (Ret.mk rfl (((Mod.refl _ _).alloc _).alloc _))

set_option maxRecDepth 20000 in
set_option maxHeartbeats 800000 in
theorem Item_bad (b : BV) (hb : b.right ≠ 0) (w : World) : Calls Tryz.prog 102 #[b.v] w (Ret (.tuple #[itemV (numT 0) none 0, .int .i64 b.right]) w) := by
  have HB := hid (Blk.new w 49 b.c)
  have HE0 := hid (((Mod.refl [] w).alloc (.cells b.c 49)).alloc (.cells #[.int .i64 0, .int .u64 0, .string ⟨#[]⟩, .slice none 0 0, .bool false] 64))
  have HR : Hid (Blk ((w.alloc (.cells b.c 49)).alloc (.cells #[.int .i64 0, .int .u64 0, .string ⟨#[]⟩, .slice none 0 0, .bool false] 64)) (w.heap.size + 1) 64 (itemC (numT 0) none 0)) := by
    have := Blk.new (w.alloc (.cells b.c 49)) 64 (itemC (numT 0) none 0)
    unfold Hid
    simpa [itemC, numT, T.kind, T.n, T.s, T.k, T.op] using this
  have k1 : Hid (∀ W, Calls Tryz.prog 76 #[b.v] W (Ret (.int .i64 b.right) W)) := fun W => cbRight_any b W
  generalize b.right = r at *
  have e1 : (r = 0) = False := by simp [hb]
  have e2 : (r == 0) = false := by simp [hb]
  go_enter Tryz.func102, Tryz.ntmps102
  go_wp2_with fail
  refine (k1.out _).mono ?_
  rintro e w1 ⟨rfl, hb1⟩
  have HE1 := hid (HE0.out.trans hb1)
  have HR1 := hid (HR.out.ext hb1)
  obtain ⟨c0, c1, c2, c3, c4⟩ := cells5 HR1.out
  have f0 := Blk.frozen HR1.out 0
  have f1 := Blk.frozen HR1.out 1
  have f2 := Blk.frozen HR1.out 2
  have f3 := Blk.frozen HR1.out 3
  have f4 := Blk.frozen HR1.out 4
  clear hb1
  go_wp2_with fail
  obtain ⟨d0, d1, d2, d3, d4⟩ := cells5 (set5_blk (t := numT 0) (A := none) (c := 0) HR1.out)
  clear c0 c1 c2 c3 c4 f0 f1 f2 f3 f4
  show bodyPost _ _ _ _ _ (set5 w1 (w.heap.size + 1) (numT 0) none 0)
  refine bodyPost_ret (v := .tuple #[itemV (numT 0) none 0, .int .i64 r]) (by simp [results, Tryz.results102, go_sem, d0, d1, d2, d3, d4]) rfl ?_
  exact Ret.mk rfl (set5_mod HE1.out (by omega))
set_option maxRecDepth 20000 in
set_option maxHeartbeats 800000 in
theorem Item_ok (ty num fl crc : Nat) (data : List UInt8) (hb : BV.right ⟨ty, num, fl, crc, data⟩ = 0) (t : T) (KS : Hid (∀ N A c W, N ≤ W.heap.size → IsL W (fun b => N ≤ b) (blkT ty num fl crc data []) A → Calls Tryz.prog 112 #[.int .i64 (crc : Int), itemV (blkT ty num fl crc data []) A c] W (fun e w' => ∃ A c, e = .returned (itemV t A c) ∧ Ext W w' ∧ IsL w' (fun b => N ≤ b) t A))) (w : World) : Calls Tryz.prog 102 #[BV.v ⟨ty, num, fl, crc, data⟩] w (fun e w' => ∃ A c, e = .returned (.tuple #[itemV t A c, .int .i64 0]) ∧ Ext w w' ∧ IsL w' (fun b => w.heap.size ≤ b) t A) := by
  have h := BV.right_zero hb
  simp only [] at h
  have HB := hid ((Blk.new w 49 (BV.c ⟨ty, num, fl, crc, data⟩)).alloc (.cells #[.int .i64 0, .int .u64 0, .string ⟨#[]⟩, .slice none 0 0, .bool false] 64))
  have HE0 := hid (((Mod.refl [] w).alloc (.cells (BV.c ⟨ty, num, fl, crc, data⟩) 49)).alloc (.cells #[.int .i64 0, .int .u64 0, .string ⟨#[]⟩, .slice none 0 0, .bool false] 64))
  have HR : Hid (Blk ((w.alloc (.cells (BV.c ⟨ty, num, fl, crc, data⟩) 49)).alloc (.cells #[.int .i64 0, .int .u64 0, .string ⟨#[]⟩, .slice none 0 0, .bool false] 64)) (w.heap.size + 1) 64 (itemC (numT 0) none 0)) := by
    have := Blk.new (w.alloc (.cells (BV.c ⟨ty, num, fl, crc, data⟩) 49)) 64 (itemC (numT 0) none 0)
    unfold Hid
    simpa [itemC, numT, T.kind, T.n, T.s, T.k, T.op] using this
  have k1 : Hid (∀ W, Calls Tryz.prog 76 #[BV.v ⟨ty, num, fl, crc, data⟩] W (Ret (.int .i64 0) W)) := fun W => by have := cbRight_any ⟨ty, num, fl, crc, data⟩ W; rw [hb] at this; exact this
  go_enter Tryz.func102, Tryz.ntmps102
  go_wp2_with fail
  refine (k1.out _).mono ?_
  rintro e w1 ⟨rfl, hb1⟩
  have HE1 := hid (HE0.out.trans hb1)
  have HR1 := hid (HR.out.ext hb1)
  have HC := hid (HB.out.ext hb1)
  obtain ⟨c0, c1, c2, c3, c4⟩ : w1.cell? ⟨w.heap.size, 0, none⟩ = some (.int .i64 (ty : Int)) ∧ w1.cell? ⟨w.heap.size, 1, none⟩ = some (.int .i64 (num : Int)) ∧ w1.cell? ⟨w.heap.size, 2, none⟩ = some (.int .u64 (fl : Int)) ∧ w1.cell? ⟨w.heap.size, 3, none⟩ = some (.int .i64 (crc : Int)) ∧ w1.cell? ⟨w.heap.size, 4, none⟩ = some (str data) := ⟨HC.out.cell 0, HC.out.cell 1, HC.out.cell 2, HC.out.cell 3, HC.out.cell 4⟩
  clear hb1
  have HN : Hid (w.heap.size + 2 ≤ w1.heap.size) := Nat.succ_le_of_lt HR1.out.lt
  go_upto_region 4 with fail
  have HS : Hid (∀ w', Ext w1 w' → w'.cell? ⟨w.heap.size, 0, none⟩ = some (.int .i64 (ty : Int)) ∧ w'.cell? ⟨w.heap.size, 1, none⟩ = some (.int .i64 (num : Int)) ∧ w'.cell? ⟨w.heap.size, 2, none⟩ = some (.int .u64 (fl : Int)) ∧ w'.cell? ⟨w.heap.size, 3, none⟩ = some (.int .i64 (crc : Int)) ∧ w'.cell? ⟨w.heap.size, 4, none⟩ = some (str data)) := fun W hW => by
    have b1 := HC.out.ext hW
    exact ⟨b1.cell 0, b1.cell 1, b1.cell 2, b1.cell 3, b1.cell 4⟩
  obtain ⟨g0, g1, g2, g3, g4⟩ := cells5 HR1.out
  have f0 := Blk.frozen HR1.out 0
  have f1 := Blk.frozen HR1.out 1
  have f2 := Blk.frozen HR1.out 2
  have f3 := Blk.frozen HR1.out 3
  have f4 := Blk.frozen HR1.out 4
  go_region_held3 (fun w' => w'.cell? ⟨w.heap.size, 0, none⟩ = some (.int .i64 (ty : Int)) ∧ w'.cell? ⟨w.heap.size, 1, none⟩ = some (.int .i64 (num : Int)) ∧ w'.cell? ⟨w.heap.size, 2, none⟩ = some (.int .u64 (fl : Int)) ∧ w'.cell? ⟨w.heap.size, 3, none⟩ = some (.int .i64 (crc : Int)) ∧ w'.cell? ⟨w.heap.size, 4, none⟩ = some (str data)) (go_keep)
      (first
        | (go_at_call 113; refine (with_any ty num fl crc data [] (by omega) (by omega) (by omega) _).mono ?_; rintro x w3 ⟨A, c, rfl, hb3, hl3⟩; have hl3 := IsL.weak (R := fun b => w.heap.size + 2 ≤ b) (fun k _ hq => Nat.le_trans (Nat.le_trans HN.out (Mod.size (S := []) (by first | with_reducible exact Mod.refl _ _ | with_reducible exact (Mod.refl _ _).drew))) hq) _ hl3; have hx : Ext w1 w3 := (by (with_reducible refine Mod.trans ?_ hb3); (repeat (first | with_reducible assumption | with_reducible exact Mod.refl _ _ | with_reducible refine Mod.drew ?_ | with_reducible refine Mod.alloc ?_ _))); have z := HS.out w3 hx)
        | (go_at_call 112; refine (KS.out (w.heap.size + 2) _ _ _ (Nat.le_trans HN.out (Mod.size hx)) hl3).mono ?_; rintro x w4 ⟨A2, c2, rfl, hb4, hl4⟩; have hx : Ext w1 w4 := (by (with_reducible refine Mod.trans ?_ hb4); (repeat (first | with_reducible assumption | with_reducible exact Mod.refl _ _ | with_reducible refine Mod.drew ?_ | with_reducible refine Mod.alloc ?_ _))); have z := HS.out w4 hx; have HR4 := hid (HR1.out.ext hx); obtain ⟨g0, g1, g2, g3, g4⟩ := cells5 HR4.out; have f0 := Blk.frozen HR4.out 0; have f1 := Blk.frozen HR4.out 1; have f2 := Blk.frozen HR4.out 2; have f3 := Blk.frozen HR4.out 3; have f4 := Blk.frozen HR4.out 4))
  all_goals go_wp2_with fail
  all_goals obtain ⟨d0, d1, d2, d3, d4⟩ := cells5 (set5_blk (t := t) (A := A2) (c := c2) HR4.out)
  all_goals clear g0 g1 g2 g3 g4 f0 f1 f2 f3 f4
  all_goals show bodyPost _ _ _ _ _ (set5 w4 (w.heap.size + 1) t A2 c2)
  all_goals refine bodyPost_ret (v := .tuple #[itemV t A2 c2, .int .i64 0]) (by simp [results, Tryz.results102, go_sem, d0, d1, d2, d3, d4]) rfl ?_
  all_goals exact ⟨A2, c2, rfl, set5_mod (HE1.out.trans hx) (by omega), IsL.weak (fun _ _ h => by have : w.heap.size + 2 ≤ _ := h; omega) _ (IsL.mod (Q := fun b => w.heap.size + 2 ≤ b) set5_modb (fun k hq hk hm => by rw [List.mem_singleton] at hm; have : w.heap.size + 2 ≤ k := hq; omega) _ hl4)⟩
end Go.Proofs.YtogjghmoankleaaGreat


namespace Go.Proofs.YtogjghmoankleaaGreat
open Go.RowKit
set_option linter.unusedVariables false
set_option linter.unusedSimpArgs false

set_option maxRecDepth 20000 in
set_option maxHeartbeats 800000 in
theorem Build_bad (b : BV) (hb : b.right ≠ 0) (w : World) : Calls Tryz.prog 82 #[b.v] w (Ret (.tuple #[str [], .int .i64 b.right]) w) := by
  have HE0 := hid ((Mod.refl [] w).alloc (.cells b.c 49))
  have k1 : Hid (∀ W, Calls Tryz.prog 102 #[b.v] W (Ret (.tuple #[itemV (numT 0) none 0, .int .i64 b.right]) W)) := fun W => Item_bad b hb W
  generalize b.right = r at *
  have e1 : (r = 0) = False := by simp [hb]
  have e2 : (r == 0) = false := by simp [hb]
  go_enter Tryz.func82, Tryz.ntmps82
  go_wp2_with fail
  refine (k1.out _).mono ?_
  rintro e w1 ⟨rfl, hb1⟩
  have HE1 := hid (HE0.out.trans hb1)
  clear hb1
  go_wp2_with fail
  refine bodyPost_ret (v := .tuple #[str [], .int .i64 r]) (by simp [results, Tryz.results82, go_sem]) rfl (Ret.mk rfl (HE1.out.alloc _))
set_option maxRecDepth 20000 in
set_option maxHeartbeats 800000 in
theorem Build_ok (ty num fl crc : Nat) (data : List UInt8) (hb : BV.right ⟨ty, num, fl, crc, data⟩ = 0) (t : T) (hok : t.ok) (hsz : t.size ≤ 100000) (KS : Hid (∀ N A c W, N ≤ W.heap.size → IsL W (fun b => N ≤ b) (blkT ty num fl crc data []) A → Calls Tryz.prog 112 #[.int .i64 (crc : Int), itemV (blkT ty num fl crc data []) A c] W (fun e w' => ∃ A c, e = .returned (itemV t A c) ∧ Ext W w' ∧ IsL w' (fun b => N ≤ b) t A))) (w : World) : Calls Tryz.prog 82 #[BV.v ⟨ty, num, fl, crc, data⟩] w (Ret (buildV t) w) := by
  have HE0 := hid ((Mod.refl [] w).alloc (.cells (BV.c ⟨ty, num, fl, crc, data⟩) 49))
  go_enter Tryz.func82, Tryz.ntmps82
  go_wp2_with fail
  refine (Item_ok ty num fl crc data hb t KS _).mono ?_
  rintro e w1 ⟨A, c, rfl, hb1, hl1⟩
  have HE1 := hid (HE0.out.trans hb1)
  have HL1 := hid hl1
  clear hb1 hl1
  go_wp2_with fail
  refine (iBuild_any t hok hsz A c _ (IsL.ext (IsL.weak (fun _ _ _ => trivial) _ HL1.out) ((Mod.refl _ _).alloc _))).mono ?_
  rintro e w2 ⟨rfl, hb2⟩
  have HE2 := hid ((HE1.out.alloc _).trans hb2)
  clear hb2
  obtain ⟨s, E, hV⟩ : ∃ s E, buildV t = .tuple #[str s, .int .i64 E] := by unfold buildV; split; exact ⟨_, _, rfl⟩; exact ⟨_, _, rfl⟩
  rw [hV]
  go_wp2_with fail
  refine bodyPost_ret (v := .tuple #[str s, .int .i64 E]) (by simp [results, Tryz.results82, go_sem]) rfl (Ret.mk hV.symm HE2.out)

end Go.Proofs.YtogjghmoankleaaGreat
