/-
  Security texts: the reference's comparing, of texts that agree; where a target is.
  Security texts, read: all of it.
  Which names, primaries and bundles are of a size that is looked at.
  Security texts: of a size that is looked at; a number, and bytes, among pairs.
  Security texts: a number, and bytes, among pairs; the law AsbValues: its walk.
  Security texts: a number, and bytes, among pairs; the law AsbValues: its walk.
  Security texts: what the reference calls right but for its length.
  Security texts: what the reference calls shaped.
  The code's sums: divide, X25, Castagnoli, Size, Sum.
  The code's sums' bytes.
  The reference's sums.
  The reference's sums, whole.
  slices.Clone of items.
-/
import Derived.Test.YtblfmokklfhklaaGreatDoorMAsbParsesCardd
import Derived.Laws.BitsAllLaws
import Derived.Lib.SliceRun

namespace Go.Proofs.YtblfmokklfhklaaGreatDoor
open Go.RowKit
set_option linter.unusedVariables false
set_option linter.unusedSimpArgs false

theorem At5.range {w : World} {b o : Nat} {t : T} {A : Option Addr} {c : Nat} (h : At5 w b o t A c) : w.rangeAt b o [.int .i64 t.kind, .int .u64 (t.n : Int), str t.s, .slice A t.k c, .bool t.op] := fun j v hj => by
  match j, hj with
  | 0, hj => simp at hj; subst hj; exact h.1
  | 1, hj => simp at hj; subst hj; exact h.2.1
  | 2, hj => simp at hj; subst hj; exact h.2.2.1
  | 3, hj => simp at hj; subst hj; exact h.2.2.2.1
  | 4, hj => simp at hj; subst hj; exact h.2.2.2.2
set_option maxRecDepth 20000 in
set_option maxHeartbeats 8000000 in
theorem SameItem_eq (t : T) : t.ok → ∀ A c B d w, IsL w anyQ t A → IsL w anyQ t B → Calls Tryz.prog 55 #[itemV t A c, itemV t B d] w (Ret (.bool true) w) := by
  induction t with
  | nil => intro h; cases h
  | mk kind n s op k ch ih =>
    intro hok A c B d w hA hB
    have HOK := hid (fun i (hi : i < k) => (by unfold T.ok at hok; exact hok.2.2.2.2 i hi : (ch i).ok))
    have HI := hid ih
    have k0 : (k : Int) < 4611686018427387904 := by unfold T.ok at hok; omega
    have HE := hid (((Mod.refl [] w).alloc (.cells (itemC (T.mk kind n s op k ch) A c) 47)).alloc (.cells (itemC (T.mk kind n s op k ch) B d) 47))
    have HB0 := hid ((Blk.new w 47 (itemC (T.mk kind n s op k ch) A c)).alloc (.cells (itemC (T.mk kind n s op k ch) B d) 47))
    have HB1 : Hid (Blk ((w.alloc (.cells (itemC (T.mk kind n s op k ch) A c) 47)).alloc (.cells (itemC (T.mk kind n s op k ch) B d) 47)) (w.heap.size + 1) 47 (itemC (T.mk kind n s op k ch) B d)) := Blk.newL _ _ _ (by simp)
    have HA := hid (hA.ext HE.out)
    have HB := hid (hB.ext HE.out)
    clear hok hA hB ih
    go_enter Tryz.func55, Tryz.ntmps55
    go_upto_region 1 with fail
    generalize ((w.alloc (.cells (itemC (T.mk kind n s op k ch) A c) 47)).alloc (.cells (itemC (T.mk kind n s op k ch) B d) 47)) = V at *
    have a0 : ∀ e : Later V, e.x.cell? ⟨w.heap.size, 0, none⟩ = some (.int .i64 kind) := HB0.out.cellL 0 rfl
    have a1 : ∀ e : Later V, e.x.cell? ⟨w.heap.size, 1, none⟩ = some (.int .u64 (n : Int)) := HB0.out.cellL 1 rfl
    have a2 : ∀ e : Later V, e.x.cell? ⟨w.heap.size, 2, none⟩ = some (str s) := HB0.out.cellL 2 rfl
    have a3 : ∀ e : Later V, e.x.cell? ⟨w.heap.size, 3, none⟩ = some (.slice A k c) := HB0.out.cellL 3 rfl
    have a4 : ∀ e : Later V, e.x.cell? ⟨w.heap.size, 4, none⟩ = some (.bool op) := HB0.out.cellL 4 rfl
    have b0 : ∀ e : Later V, e.x.cell? ⟨w.heap.size + 1, 0, none⟩ = some (.int .i64 kind) := HB1.out.cellL 0 rfl
    have b1 : ∀ e : Later V, e.x.cell? ⟨w.heap.size + 1, 1, none⟩ = some (.int .u64 (n : Int)) := HB1.out.cellL 1 rfl
    have b2 : ∀ e : Later V, e.x.cell? ⟨w.heap.size + 1, 2, none⟩ = some (str s) := HB1.out.cellL 2 rfl
    have b3 : ∀ e : Later V, e.x.cell? ⟨w.heap.size + 1, 3, none⟩ = some (.slice B k d) := HB1.out.cellL 3 rfl
    have b4 : ∀ e : Later V, e.x.cell? ⟨w.heap.size + 1, 4, none⟩ = some (.bool op) := HB1.out.cellL 4 rfl
    obtain ⟨e, he⟩ := Later.self V
    rw [he]
    clear he
    go_upto_region 4 with fail
    go_loopw [5] (fun s5 wr => ∃ i : Nat, s5 = .int .i64 (i : Int) ∧ Hid (i ≤ k) ∧ ∃ e : Later V, wr = e.x) (fun s5 _ => k - (intOf s5).toNat)
    case atStart => exact ⟨0, rfl, (show Hid _ from Nat.zero_le _), e, rfl⟩
    case round =>
      clear e
      obtain ⟨i, rfl, hi, e, rfl⟩ := hrel
      have i0 : (0 : Int) ≤ (i : Int) := by omega
      by_cases hlt : i < k
      · obtain ⟨bA, oA, Ai, ci, rfl, hbA, qA, hIA⟩ := IsL.cells (W := V) (i := i) HA.out (Mod.refl _ _) hlt
        obtain ⟨bB, oB, Bi, di, rfl, hbB, qB, hIB⟩ := IsL.cells (W := V) (i := i) HB.out (Mod.refl _ _) hlt
        have RA : Hid (∀ e : Later V, e.x.rangeAt bA (oA + i * 5) _) := hid (fun e => (qA.mod e.h hbA (by simp)).range)
        have RB : Hid (∀ e : Later V, e.x.rangeAt bB (oB + i * 5) _) := hid (fun e => (qB.mod e.h hbB (by simp)).range)
        have KS := hid (fun e : Later V => HI.out i (HOK.out i hlt) Ai ci Bi di e.x (hIA.ext e.h) (hIB.ext e.h))
        have tc : decide (i < k) = true := by simp [hlt]
        have i1 : (i : Int) < (k : Int) := by omega
        have HLT := hid hlt
        clear hlt qA qB hIA hIB hbA hbB HI
        go_upto_region 6 with fail
        refine wp_region_later (by kernel_rfl) (by kernel_rfl) ?_
        repeat (first | (refine later_mid (by rfl) 47 _ rfl _ _ rfl _ _ RA.out Tryz.underlying47 rfl (by kernel_rfl) ?_; simp only [Act.put, List.setIfInBounds_toArray, List.set_cons_zero, List.set_cons_succ]) | (refine later_mid (by rfl) 47 _ rfl _ _ rfl _ _ RB.out Tryz.underlying47 rfl (by kernel_rfl) ?_; simp only [Act.put, List.setIfInBounds_toArray, List.set_cons_zero, List.set_cons_succ]) | go_big_quiet_step ((first | (go_at_call 55; exact Ret.later (KS.out _)))))
        refine wpQuiet_nil ?_
        rintro _ ⟨e, rfl⟩
        go_wp2_with fail
        go_roundw
        case rel => exact ⟨i + 1, by go_num, (show Hid _ from HLT.out), e, rfl⟩
        case measure => have := HLT.out; simp [intOf]; omega
      · obtain rfl : i = k := by have := hi.out; omega
        have tc : decide (i < i) = false := by simp
        go_wp2_with fail
        go_ret
        exact Ret.mk rfl (HE.out.trans e.h)
set_option maxRecDepth 20000 in
set_option maxHeartbeats 8000000 in
theorem SamePairs_eq (p : PL) (hw : p.wf) (A B : Option Addr) (c d : Nat) (w : World) (hA : PsL w anyQ A p) (hB : PsL w anyQ B p) : Calls Tryz.prog 28 #[.slice A p.k c, .slice B p.k d] w (Ret (.bool true) w) := by
  have HA := hid hA
  have HB := hid hB
  have HW := hid hw
  have k0 : (p.k : Int) < 4611686018427387904 := by have := hw.1; omega
  clear hA hB hw
  obtain ⟨e, he⟩ := Later.self w
  go_enter Tryz.func28, Tryz.ntmps28
  go_upto_region 4 with fail
  go_loopw [5] (fun s5 wr => ∃ i : Nat, s5 = .int .i64 (i : Int) ∧ Hid (i ≤ p.k) ∧ ∃ e : Later w, wr = e.x) (fun s5 _ => p.k - (intOf s5).toNat)
  case atStart => exact ⟨0, rfl, (show Hid _ from Nat.zero_le _), e, (by first | exact he | rfl)⟩
  case round =>
    clear he e
    obtain ⟨i, rfl, hi, e, rfl⟩ := hrel
    have i0 : (0 : Int) ≤ (i : Int) := by omega
    by_cases hlt : i < p.k
    · obtain ⟨bA, oA, Ai, ci, rfl, hbA, qA, hIA⟩ := HA.out.at (Mod.refl _ w) hlt
      obtain ⟨bB, oB, Bi, di, rfl, hbB, qB, hIB⟩ := HB.out.at (Mod.refl _ w) hlt
      have RA : Hid (∀ e : Later w, e.x.rangeAt bA (oA + i * 6 + 1) _) := hid (fun e => (qA.mod e.h hbA (by simp)).five.range)
      have RB : Hid (∀ e : Later w, e.x.rangeAt bB (oB + i * 6 + 1) _) := hid (fun e => (qB.mod e.h hbB (by simp)).five.range)
      have cA : ∀ e : Later w, e.x.cell? ⟨bA, oA + i * 6, none⟩ = some (.int .i64 (p.a i).id) := fun e => (qA.mod e.h hbA (by simp)).1
      have cB : ∀ e : Later w, e.x.cell? ⟨bB, oB + i * 6, none⟩ = some (.int .i64 (p.a i).id) := fun e => (qB.mod e.h hbB (by simp)).1
      have KS := hid (fun e : Later w => SameItem_eq (p.a i).t (HW.out.2 i hlt).1 Ai ci Bi di e.x (hIA.ext e.h) (hIB.ext e.h))
      have tc : decide (i < p.k) = true := by simp [hlt]
      have i1 : (i : Int) < (p.k : Int) := by omega
      have HLT := hid hlt
      clear hlt qA qB hIA hIB hbA hbB
      go_upto_region 6 with fail
      refine wp_region_later (by kernel_rfl) (by kernel_rfl) ?_
      repeat (first | (refine later_mid (by rfl) 47 _ rfl _ _ rfl _ _ RA.out Tryz.underlying47 rfl (by kernel_rfl) ?_; simp only [Act.put, List.setIfInBounds_toArray, List.set_cons_zero, List.set_cons_succ]) | (refine later_mid (by rfl) 47 _ rfl _ _ rfl _ _ RB.out Tryz.underlying47 rfl (by kernel_rfl) ?_; simp only [Act.put, List.setIfInBounds_toArray, List.set_cons_zero, List.set_cons_succ]) | go_big_quiet_step ((first | (go_at_call 55; exact Ret.later (KS.out _)))))
      refine wpQuiet_nil ?_
      rintro _ ⟨e, rfl⟩
      go_wp2_with fail
      go_roundw
      case rel => exact ⟨i + 1, by go_num, (show Hid _ from HLT.out), e, rfl⟩
      case measure => have := HLT.out; simp [intOf]; omega
    · have hik : i = p.k := by have := hi.out; omega
      subst hik
      have tc : decide (p.k < p.k) = false := by simp
      go_wp2_with fail
      go_ret
      exact Ret.mk rfl e.h
set_option maxRecDepth 20000 in
set_option maxHeartbeats 16000000 in
theorem Same15_eq (a : AV) (hw : a.wf) (m1 m2 : AA) (w : World) (h1 : AsL w anyQ a m1) (h2 : AsL w anyQ a m2) : Calls Tryz.prog 12 #[asbV a m1, asbV a m2] w (Ret (.bool true) w) := by
  obtain ⟨at1, tc1, ap1, pc1, ar1, rc1⟩ := m1
  obtain ⟨at2, tc2, ap2, pc2, ar2, rc2⟩ := m2
  have HE := hid (((Mod.refl [] w).alloc (.cells (asbC a ⟨at1, tc1, ap1, pc1, ar1, rc1⟩) 29)).alloc (.cells (asbC a ⟨at2, tc2, ap2, pc2, ar2, rc2⟩) 29))
  have HB0 := hid ((Blk.new w 29 (asbC a ⟨at1, tc1, ap1, pc1, ar1, rc1⟩)).alloc (.cells (asbC a ⟨at2, tc2, ap2, pc2, ar2, rc2⟩) 29))
  have HB1 : Hid (Blk ((w.alloc (.cells (asbC a ⟨at1, tc1, ap1, pc1, ar1, rc1⟩) 29)).alloc (.cells (asbC a ⟨at2, tc2, ap2, pc2, ar2, rc2⟩) 29)) (w.heap.size + 1) 29 (asbC a ⟨at2, tc2, ap2, pc2, ar2, rc2⟩)) := Blk.newL _ _ _ (by simp)
  have HA := hid (h1.ext HE.out)
  have HB := hid (h2.ext HE.out)
  have HW := hid hw
  have tk0 : (a.tk : Int) < 4611686018427387904 := by have := hw.1.1; omega
  have rk0 : (a.rk : Int) < 4611686018427387904 := by have := hw.2.2.2.2.1; omega
  clear h1 h2 hw
  go_enter Tryz.func12, Tryz.ntmps12
  go_upto_region 1 with fail
  generalize ((w.alloc (.cells (asbC a ⟨at1, tc1, ap1, pc1, ar1, rc1⟩) 29)).alloc (.cells (asbC a ⟨at2, tc2, ap2, pc2, ar2, rc2⟩) 29)) = V at *
  have a0 : ∀ e : Later V, e.x.cell? ⟨w.heap.size, 0, none⟩ = some (.slice at1 a.tk tc1) := HB0.out.cellL 0 rfl
  have a1 : ∀ e : Later V, e.x.cell? ⟨w.heap.size, 1, none⟩ = some (.int .i64 a.ctx) := HB0.out.cellL 1 rfl
  have a6 : ∀ e : Later V, e.x.cell? ⟨w.heap.size, 6, none⟩ = some (.slice ap1 a.ps.k pc1) := HB0.out.cellL 6 rfl
  have a7 : ∀ e : Later V, e.x.cell? ⟨w.heap.size, 7, none⟩ = some (.slice ar1 a.rk rc1) := HB0.out.cellL 7 rfl
  have Ra : Hid (∀ e : Later V, e.x.rangeAt (w.heap.size) 2 [.int .i64 a.src.sch, str a.src.name, .int .u64 (a.src.node : Int), .int .u64 (a.src.svc : Int)]) := HB0.out.range 2 4 (by rfl)
  have b0 : ∀ e : Later V, e.x.cell? ⟨w.heap.size + 1, 0, none⟩ = some (.slice at2 a.tk tc2) := HB1.out.cellL 0 rfl
  have b1 : ∀ e : Later V, e.x.cell? ⟨w.heap.size + 1, 1, none⟩ = some (.int .i64 a.ctx) := HB1.out.cellL 1 rfl
  have b6 : ∀ e : Later V, e.x.cell? ⟨w.heap.size + 1, 6, none⟩ = some (.slice ap2 a.ps.k pc2) := HB1.out.cellL 6 rfl
  have b7 : ∀ e : Later V, e.x.cell? ⟨w.heap.size + 1, 7, none⟩ = some (.slice ar2 a.rk rc2) := HB1.out.cellL 7 rfl
  have Rb : Hid (∀ e : Later V, e.x.rangeAt (w.heap.size + 1) 2 [.int .i64 a.src.sch, str a.src.name, .int .u64 (a.src.node : Int), .int .u64 (a.src.svc : Int)]) := HB1.out.range 2 4 (by rfl)
  have KP := hid (fun e : Later V => SamePairs_eq a.ps HW.out.2.2.2.1 ap1 ap2 pc1 pc2 e.x (HA.out.p.ext e.h) (HB.out.p.ext e.h))
  obtain ⟨e, he⟩ := Later.self V
  rw [he]
  clear he
  have tk1 : True := trivial
  have tk2 : True := trivial
  go_upto_region 4 with (first | (clear tk1; refine wpList_mid (by rfl) 25 _ rfl (w.heap.size) 2 rfl _ _ (Ra.out _) Tryz.underlying25 rfl (by kernel_rfl) ?_) | (clear tk2; refine wpList_mid (by rfl) 25 _ rfl (w.heap.size + 1) 2 rfl _ _ (Rb.out _) Tryz.underlying25 rfl (by kernel_rfl) ?_) | (go_at_call 28; refine (Ret.later (KP.out _)).mono ?_; rintro x _ ⟨rfl, e, rfl⟩))
  go_loopw [5] (fun s5 wr => ∃ i : Nat, s5 = .int .i64 (i : Int) ∧ Hid (i ≤ a.tk) ∧ ∃ e : Later V, wr = e.x) (fun s5 _ => a.tk - (intOf s5).toNat)
  case atStart => exact ⟨0, rfl, (show Hid _ from Nat.zero_le _), e, rfl⟩
  case round =>
    clear e
    obtain ⟨i, rfl, hi, e, rfl⟩ := hrel
    have i0 : (0 : Int) ≤ (i : Int) := by omega
    by_cases hlt : i < a.tk
    · obtain ⟨bA, oA, hA, hbA, hcA⟩ := HA.out.t (by omega)
      obtain ⟨bB, oB, hB, hbB, hcB⟩ := HB.out.t (by omega)
      have hA : at1 = some ⟨bA, oA, none⟩ := hA
      have hB : at2 = some ⟨bB, oB, none⟩ := hB
      subst hA hB
      have cA : ∀ e : Later V, e.x.cell? ⟨bA, oA + i, none⟩ = some (.int .i64 (a.tg i)) := fun e => (e.h.cell hbA (by simp)).trans (hcA i hlt)
      have cB : ∀ e : Later V, e.x.cell? ⟨bB, oB + i, none⟩ = some (.int .i64 (a.tg i)) := fun e => (e.h.cell hbB (by simp)).trans (hcB i hlt)
      have tc : decide (i < a.tk) = true := by simp [hlt]
      have i1 : (i : Int) < (a.tk : Int) := by omega
      have HLT := hid hlt
      clear hlt hcA hcB hbA hbB
      go_upto_region 6 with fail
      refine wp_region_later (by kernel_rfl) (by kernel_rfl) ?_
      repeat (first | go_big_quiet_step (fail))
      refine wpQuiet_nil ?_
      rintro _ ⟨e, rfl⟩
      go_wp2_with fail
      go_roundw
      case rel => exact ⟨i + 1, by go_num, (show Hid _ from HLT.out), e, rfl⟩
      case measure => have := HLT.out; simp [intOf]; omega
    · have hik : i = a.tk := by have := hi.out; omega
      subst hik
      have tc : decide (a.tk < a.tk) = false := by simp
      go_upto_region 9 with fail
      go_loopw [6] (fun s6 wr => ∃ i : Nat, s6 = .int .i64 (i : Int) ∧ Hid (i ≤ a.rk) ∧ ∃ e : Later V, wr = e.x) (fun s6 _ => a.rk - (intOf s6).toNat)
      case atStart => exact ⟨0, rfl, (show Hid _ from Nat.zero_le _), e, rfl⟩
      case round =>
        clear e
        obtain ⟨i, rfl, hi, e, rfl⟩ := hrel
        have i0 : (0 : Int) ≤ (i : Int) := by omega
        by_cases hlt : i < a.rk
        · obtain ⟨bA, oA, Ai, ci, hA, hbA, qA, hkA, hPA⟩ := HA.out.r.at (Mod.refl _ V) hlt
          obtain ⟨bB, oB, Bi, di, hB, hbB, qB, hkB, hPB⟩ := HB.out.r.at (Mod.refl _ V) hlt
          have hA : ar1 = some ⟨bA, oA, none⟩ := hA
          have hB : ar2 = some ⟨bB, oB, none⟩ := hB
          subst hA hB
          have cA : ∀ e : Later V, e.x.cell? ⟨bA, oA + i, none⟩ = some (.slice Ai (a.rs i).k ci) := fun e => cellL qA e
          have cB : ∀ e : Later V, e.x.cell? ⟨bB, oB + i, none⟩ = some (.slice Bi (a.rs i).k di) := fun e => cellL qB e
          have KS := hid (fun e : Later V => SamePairs_eq (a.rs i) (HW.out.2.2.2.2.2 i hlt) Ai Bi ci di e.x (hPA.ext e.h) (hPB.ext e.h))
          have tc : decide (i < a.rk) = true := by simp [hlt]
          have i1 : (i : Int) < (a.rk : Int) := by omega
          have HLT := hid hlt
          clear hlt qA qB hPA hPB hbA hbB hkA hkB
          go_upto_region 11 with fail
          refine wp_region_later (by kernel_rfl) (by kernel_rfl) ?_
          repeat (first | go_big_quiet_step ((first | (go_at_call 28; exact Ret.later (KS.out _)))))
          refine wpQuiet_nil ?_
          rintro _ ⟨e, rfl⟩
          go_wp2_with fail
          go_roundw
          case rel => exact ⟨i + 1, by go_num, (show Hid _ from HLT.out), e, rfl⟩
          case measure => have := HLT.out; simp [intOf]; omega
        · have hik : i = a.rk := by have := hi.out; omega
          subst hik
          have tc : decide (a.rk < a.rk) = false := by simp
          go_wp2_with fail
          go_ret
          exact Ret.mk rfl (HE.out.trans e.h)
end Go.Proofs.YtblfmokklfhklaaGreatDoor


namespace Go.Proofs.YtblfmokklfhklaaGreatDoor
open Go.RowKit
set_option linter.unusedVariables false
set_option linter.unusedSimpArgs false

/-- Items that can be a security text's; the text. -/
def rdOK (t : T) : Bool := (decide (t.k = 5) || decide (t.k = 6)) && T.all (numK (t.ch 0)) (t.ch 0).k && decide ((t.ch 1).kind = 0) && ofB (t.ch 3) && (decide (t.k = 5) || T.all (pairK (t.ch 4)) (t.ch 4).k) && T.all (resK (t.ch (t.k - 1))) (t.ch (t.k - 1)).k
def rdA (t : T) : AV := ⟨(t.ch 0).k, tgtN (t.ch 0), min ((t.ch 1).n : Int) 65536, readE (t.ch 3), if t.k = 6 then ⟨(t.ch 4).k, pairP (t.ch 4)⟩ else zeroA.ps, (t.ch (t.k - 1)).k, resP (t.ch (t.k - 1))⟩
/-- A text's cells, whatever they are. -/
structure ZC (zc : Array Value) : Prop where
  i : (Tryz.prog.info? 29).map (·.size) = some zc.size
  o : zc.all (·.oneCell') = true
  s : zc.size = 8
theorem ZC.mk' (a : AV) (m : AA) : ZC (asbC a m) := ⟨by kernel_rfl, by simp [asbC, Value.oneCell'], rfl⟩
/-- What is told. -/
def NewQ (X : Nat → Prop) (n b : Nat) : Prop := (X b ∧ b < n) ∨ n ≤ b
def RdPost (X : Nat → Prop) (t : T) (eb : Addr) (w : World) (e : Ending) (w' : World) : Prop :=
  (rdOK t = false ∧ ∃ zc x l, e = .returned (.tuple #[.agg zc, errV eb (x :: l)]) ∧ Ext w w' ∧ ZC zc) ∨
  (rdOK t = true ∧ ∃ m, e = .returned (.tuple #[asbV (rdA t) m, .nilIface]) ∧ Ext w w' ∧ AsL w' (NewQ X w.heap.size) (rdA t) m ∧ (rdA t).tk ≤ m.tc)
theorem T.okc {t : T} (hok : t.ok) {i : Nat} (hi : i < t.k) : (t.ch i).ok := by
  cases t with
  | nil => exact absurd hi (Nat.not_lt_zero _)
  | mk kd n s op k ch => unfold T.ok at hok; exact hok.2.2.2.2 i hi
set_option maxRecDepth 20000 in
set_option maxHeartbeats 16000000 in
theorem aread5_any {X : Nat → Prop} (t : T) (hk : t.k = 5) (hok : t.ok) (hb : ∀ i, i < t.k → (t.ch i).k ≤ 1000 ∧ ∀ j, j < (t.ch i).k → ((t.ch i).ch j).k ≤ 1000) (b o c : Nat) (eb : Addr) (w : World) (hf : FormAt w eb) (h : IsL w (fun b => X b ∧ b < w.heap.size) t (some ⟨b, o, none⟩)) : Calls Tryz.prog 22 #[.slice (some ⟨b, o, none⟩) 5 c] w (RdPost X t eb w) := by
  have hch : ∀ i, i < 5 → ∃ Ai ci, ∀ W, Ext w W → At5 W b (o + 5 * i) (t.ch i) Ai ci ∧ IsL W (fun b => X b ∧ b < w.heap.size) (t.ch i) Ai := fun i hi => by
    obtain ⟨b', o', Ai, ci, h1, h2, _, h4, h5⟩ := kidsA h (i := i) (by omega)
    cases h1
    exact ⟨Ai, ci, fun W hW => ⟨by have := h4.mod hW h2 (by simp); rwa [Nat.mul_comm i 5] at this, h5.ext hW⟩⟩
  obtain ⟨A0, c0, hp0⟩ := hch 0 (by decide)
  have HP0 : Hid (∀ W, Ext w W → At5 W b (o) (t.ch 0) A0 c0) := hid (fun W hW => (hp0 W hW).1)
  have HI0 : Hid (∀ W, Ext w W → IsL W (fun b => X b ∧ b < w.heap.size) (t.ch 0) A0) := hid (fun W hW => (hp0 W hW).2)
  clear hp0
  obtain ⟨A1, c1, hp1⟩ := hch 1 (by decide)
  have HP1 : Hid (∀ W, Ext w W → At5 W b (o + 5) (t.ch 1) A1 c1) := hid (fun W hW => (hp1 W hW).1)
  have HI1 : Hid (∀ W, Ext w W → IsL W (fun b => X b ∧ b < w.heap.size) (t.ch 1) A1) := hid (fun W hW => (hp1 W hW).2)
  clear hp1
  obtain ⟨A3, c3, hp3⟩ := hch 3 (by decide)
  have HP3 : Hid (∀ W, Ext w W → At5 W b (o + 15) (t.ch 3) A3 c3) := hid (fun W hW => (hp3 W hW).1)
  have HI3 : Hid (∀ W, Ext w W → IsL W (fun b => X b ∧ b < w.heap.size) (t.ch 3) A3) := hid (fun W hW => (hp3 W hW).2)
  clear hp3
  obtain ⟨A4, c4, hp4⟩ := hch 4 (by decide)
  have HP4 : Hid (∀ W, Ext w W → At5 W b (o + 20) (t.ch 4) A4 c4) := hid (fun W hW => (hp4 W hW).1)
  have HI4 : Hid (∀ W, Ext w W → IsL W (fun b => X b ∧ b < w.heap.size) (t.ch 4) A4) := hid (fun W hW => (hp4 W hW).2)
  clear hp4
  have HOK3 := hid (T.okc hok (i := 3) (by omega))
  have HKB := hid (fun i (hi : i < 5) => hb i (by omega))
  have HE := hid ((Mod.refl [] w).alloc (.cells #[.slice none 0 0, .int .i64 0, .int .i64 0, .string ⟨#[]⟩, .int .u64 0, .int .u64 0, .slice none 0 0, .slice none 0 0] 29))
  have HBk : Hid (Blk (w.alloc (.cells #[.slice none 0 0, .int .i64 0, .int .i64 0, .string ⟨#[]⟩, .int .u64 0, .int .u64 0, .slice none 0 0, .slice none 0 0] 29)) w.heap.size 29 (asbC zeroA zeroM)) := hid (Blk.new w 29 #[.slice none 0 0, .int .i64 0, .int .i64 0, .string ⟨#[]⟩, .int .u64 0, .int .u64 0, .slice none 0 0, .slice none 0 0])
  have HS : Hid (w.heap.size + 1 = (w.alloc (.cells #[.slice none 0 0, .int .i64 0, .int .i64 0, .string ⟨#[]⟩, .int .u64 0, .int .u64 0, .slice none 0 0, .slice none 0 0] 29)).heap.size) := hid (by simp)
  have HFM := hid (fun W (hW : Ext w W) => hf.ext hW)
  have HOKR : Hid (rdOK t = (T.all (numK (t.ch 0)) (t.ch 0).k && decide ((t.ch 1).kind = 0) && ofB (t.ch 3) && true && T.all (resK (t.ch 4)) (t.ch 4).k)) := hid (by unfold rdOK; rw [hk]; rfl)
  have HKk := hid hk
  clear h hch hf hok hb hk
  go_enter Tryz.func22, Tryz.ntmps22
  go_upto_region 1 with fail
  generalize w.alloc (.cells #[.slice none 0 0, .int .i64 0, .int .i64 0, .string ⟨#[]⟩, .int .u64 0, .int .u64 0, .slice none 0 0, .slice none 0 0] 29) = V at *
  go_upto_region 3 with fail
  have a0 : V.cell? ⟨b, o, none⟩ = _ := (HP0.out _ HE.out).1
  have a1 : V.cell? ⟨b, o + 1, none⟩ = _ := (HP0.out _ HE.out).2.1
  have a2 : V.cell? ⟨b, o + 2, none⟩ = _ := (HP0.out _ HE.out).2.2.1
  have a3 : V.cell? ⟨b, o + 3, none⟩ = _ := (HP0.out _ HE.out).2.2.2.1
  have a4 : V.cell? ⟨b, o + 4, none⟩ = _ := (HP0.out _ HE.out).2.2.2.2
  have KT := hid (areadT_any (t.ch 0) (HKB.out 0 (by decide)).1 A0 c0 eb V (HFM.out _ HE.out) (IsL.weak (fun _ _ _ => trivial) _ (HI0.out _ HE.out)))
  have HSV := HS
  by_cases hT : T.all (numK (t.ch 0)) (t.ch 0).k = true
  case neg =>
    have hT : T.all (numK (t.ch 0)) (t.ch 0).k = false := by simpa using hT
    have HNO : Hid (rdOK t = false) := hid (by rw [HOKR.out, hT]; simp)
    have KE : Hid (Calls Tryz.prog 48 #[itemV (t.ch 0) A0 c0] V (fun e w' => e = .returned (.tuple #[.slice none 0 0, .iface 118 (.agg #[str [116, 97, 114, 103, 101, 116, 115], errV eb [[110, 117, 109, 98, 101, 114]]])]) ∧ Ext V w')) := hid (KT.out.mono fun e w' h => by
      rcases h with ⟨_, h1, h2⟩ | ⟨h1, _⟩
      · exact ⟨h1, h2⟩
      · rw [hT] at h1; exact absurd h1 (by decide))
    clear hT KT
    go_upto_region 5 with (go_at_call 48; refine KE.out.mono ?_; rintro x w3 ⟨rfl, hb⟩; have HX := hid hb; have q0 := (HBk.out.ext hb).cell 0; have q0f := (HBk.out.ext hb).frozen 0; clear hb)
    generalize hY : World.setCell w3 ⟨w.heap.size, 0, none⟩ _ = U
    have HE2 : Hid (Ext w U) := hid (by rw [← hY]; exact (HE.out.trans HX.out).setCell (.inr (Nat.le_refl _)) _)
    have HB2 : Hid (Blk U w.heap.size 29 (asbC zeroA zeroM)) := hid (by rw [← hY]; exact (HBk.out.ext HX.out).set_ 0 _)
    clear hY q0 q0f a0 a1 a2 a3 a4
    have HZC := hid (ZC.mk' zeroA zeroM)
    obtain ⟨zc, hzc⟩ : ∃ zc, asbC zeroA zeroM = zc := ⟨_, rfl⟩
    have HBZ : Hid (Blk U w.heap.size 29 zc) := hid (by rw [← hzc]; exact HB2.out)
    rw [hzc] at HZC
    clear hzc
    have tk1 : True := trivial
    have tk2 : True := trivial
    go_wp2_with (first | (clear tk1; refine wpList_row (by rfl) 29 _ rfl _ rfl HBZ.out Tryz.underlying29 rfl HZC.out.i ?_) | (clear tk2; refine wpList_store_mid rfl 29 _ _ rfl (w.heap.size) 0 zc (by rfl) (by rfl) (HBZ.out.there (by rw [HZC.out.s]; exact Nat.le_refl 8)) HZC.out.i HZC.out.o ?_))
    have hY := setCells_all (ds := zc) HBZ.out (Array.length_toList ..)
    have hM2 := setCells_mod (b := w.heap.size) (zc : Array Value).toList 0 HE2.out (.inr (by omega))
    generalize hZ2 : World.setCells _ _ 0 _ = Z2 at *
    refine bodyPost_ret (results_cell2 rfl _ (by rfl) (by rfl) hY Tryz.underlying29 rfl HZC.out.i) rfl (.inl ⟨HNO.out, zc, [116, 97, 114, 103, 101, 116, 115], [[110, 117, 109, 98, 101, 114]], ?_, hM2, HZC.out⟩)
    rfl

  have KE : Hid (Calls Tryz.prog 48 #[itemV (t.ch 0) A0 c0] V (fun e w' => ∃ At ct, e = .returned (.tuple #[.slice At (t.ch 0).k ct, .nilIface]) ∧ Ext V w' ∧ NsL w' At (t.ch 0).k (tgtN (t.ch 0)) ∧ (∀ b o, At = some ⟨b, o, none⟩ → V.heap.size ≤ b) ∧ (t.ch 0).k ≤ ct)) := hid (KT.out.mono fun e w' h => by
    rcases h with ⟨h1, _⟩ | ⟨_, At, ct, h1, h2, h3⟩
    · rw [hT] at h1; exact absurd h1 (by decide)
    · exact ⟨At, ct, h1, h2, own_NsL h3, fun b o hA => (h3.lt b (by subst hA; rfl)).1, own_cap h3⟩)
  have HYT := hid hT
  clear hT KT
  go_upto_region 6 with (go_at_call 48; refine KE.out.mono ?_; rintro x w3 ⟨At, ct, rfl, hb, hn1, hn2, hn3⟩; have HX := hid hb; have q0 := (HBk.out.ext hb).cell 0; have q0f := (HBk.out.ext hb).frozen 0; have HN1 := hid hn1; have HN2 := hid hn2; have HN3 := hid hn3; clear hn1 hn2 hn3; clear hb)
  generalize hY : World.setCell w3 ⟨w.heap.size, 0, none⟩ _ = U1
  have HMU : Hid (Mod [w.heap.size] w3 U1) := hid (by rw [← hY]; exact (Mod.refl [w.heap.size] w3).setCell (.inl (by simp)) _)
  have HE2 : Hid (Ext w U1) := hid (by rw [← hY]; exact (HE.out.trans HX.out).setCell (.inr (Nat.le_refl _)) _)
  have HB2 : Hid (Blk U1 w.heap.size 29 (asbC ⟨(t.ch 0).k, tgtN (t.ch 0), 0, zeroE, zeroA.ps, 0, zeroA.rs⟩ ⟨At, ct, none, 0, none, 0⟩)) := hid (by rw [← hY]; exact (HBk.out.ext HX.out).set_ 0 _)
  clear hY q0 q0f a0 a1 a2 a3 a4
  have HNS : Hid (∀ W, Mod [w.heap.size] U1 W → NsL W At (t.ch 0).k (tgtN (t.ch 0))) := hid (fun W hW => HN1.out.mod (HMU.out.trans hW) (fun b o hA _ => by have := HN2.out b o hA; have := HS.out; simp; omega))
  have HE := HE2
  have HBk := HB2
  have HTQ : Hid (∀ b o, At = some ⟨b, o, none⟩ → w.heap.size ≤ b) := hid (fun b o hA => by have := HN2.out b o hA; have := HS.out; omega)
  clear HE2 HB2 HMU HN1 HN2 HX KE w3
  have a0 : U1.cell? ⟨b, o + 5, none⟩ = _ := (HP1.out _ HE.out).1
  have a1 : U1.cell? ⟨b, o + 5 + 1, none⟩ = _ := (HP1.out _ HE.out).2.1
  have a2 : U1.cell? ⟨b, o + 5 + 2, none⟩ = _ := (HP1.out _ HE.out).2.2.1
  have a3 : U1.cell? ⟨b, o + 5 + 3, none⟩ = _ := (HP1.out _ HE.out).2.2.2.1
  have a4 : U1.cell? ⟨b, o + 5 + 4, none⟩ = _ := (HP1.out _ HE.out).2.2.2.2
  have KN := hid (anum_any (t.ch 1) A1 c1 eb U1 (HFM.out _ HE.out))
  by_cases hC : (t.ch 1).kind = 0
  case neg =>
    have KN : Hid (Calls Tryz.prog 49 #[itemV (t.ch 1) A1 c1] U1 (Ret (.tuple #[.int .i64 0, .iface 118 (.agg #[str [110, 117, 109, 98, 101, 114], FormV eb])]) U1)) := hid (by have h := KN.out; unfold numErr at h; rw [if_neg hC] at h; exact h)
    have HNO : Hid (rdOK t = false) := hid (by rw [HOKR.out, decide_eq_false hC]; simp)
    clear hC
    go_upto_region 8 with (go_at_call 49; refine KN.out.mono ?_; rintro x w3 ⟨rfl, hb⟩; have HX := hid hb; have q1 := (HBk.out.ext hb).cell 1; have q1f := (HBk.out.ext hb).frozen 1; clear hb)
    generalize hY : World.setCell w3 ⟨w.heap.size, 1, none⟩ _ = U
    have HMU : Hid (Mod [w.heap.size] w3 U) := hid (by rw [← hY]; exact (Mod.refl [w.heap.size] w3).setCell (.inl (by simp)) _)
    have HE2 : Hid (Ext w U) := hid (by rw [← hY]; exact (HE.out.trans HX.out).setCell (.inr (Nat.le_refl _)) _)
    have HB2 : Hid (Blk U w.heap.size 29 (asbC ⟨(t.ch 0).k, tgtN (t.ch 0), 0, zeroE, zeroA.ps, 0, zeroA.rs⟩ ⟨At, ct, none, 0, none, 0⟩)) := hid (by rw [← hY]; exact (HBk.out.ext HX.out).set_ 1 _)
    clear hY q1 q1f a0 a1 a2 a3 a4
    have HZC := hid (ZC.mk' ⟨(t.ch 0).k, tgtN (t.ch 0), 0, zeroE, zeroA.ps, 0, zeroA.rs⟩ ⟨At, ct, none, 0, none, 0⟩)
    obtain ⟨zc, hzc⟩ : ∃ zc, asbC ⟨(t.ch 0).k, tgtN (t.ch 0), 0, zeroE, zeroA.ps, 0, zeroA.rs⟩ ⟨At, ct, none, 0, none, 0⟩ = zc := ⟨_, rfl⟩
    have HBZ : Hid (Blk U w.heap.size 29 zc) := hid (by rw [← hzc]; exact HB2.out)
    rw [hzc] at HZC
    clear hzc
    have tk1 : True := trivial
    have tk2 : True := trivial
    go_wp2_with (first | (clear tk1; refine wpList_row (by rfl) 29 _ rfl _ rfl HBZ.out Tryz.underlying29 rfl HZC.out.i ?_) | (clear tk2; refine wpList_store_mid rfl 29 _ _ rfl (w.heap.size) 0 zc (by rfl) (by rfl) (HBZ.out.there (by rw [HZC.out.s]; exact Nat.le_refl 8)) HZC.out.i HZC.out.o ?_))
    have hY := setCells_all (ds := zc) HBZ.out (Array.length_toList ..)
    have hM2 := setCells_mod (b := w.heap.size) (zc : Array Value).toList 0 HE2.out (.inr (by omega))
    generalize hZ2 : World.setCells _ _ 0 _ = Z2 at *
    refine bodyPost_ret (results_cell2 rfl _ (by rfl) (by rfl) hY Tryz.underlying29 rfl HZC.out.i) rfl (.inl ⟨HNO.out, zc, [110, 117, 109, 98, 101, 114], [], ?_, hM2, HZC.out⟩)
    rfl
  have KN : Hid (Calls Tryz.prog 49 #[itemV (t.ch 1) A1 c1] U1 (Ret (.tuple #[.int .i64 (min ((t.ch 1).n : Int) 65536), .nilIface]) U1)) := hid (by have h := KN.out; unfold numErr at h; rw [if_pos hC] at h; exact h)
  have HYC := hid hC
  clear hC
  obtain ⟨cx, hcx⟩ : ∃ cx, min ((t.ch 1).n : Int) 65536 = cx := ⟨_, rfl⟩
  rw [hcx] at KN
  have HCX := hid hcx
  clear hcx
  go_upto_region 9 with (go_at_call 49; refine KN.out.mono ?_; rintro x w3 ⟨rfl, hb⟩; have HX := hid hb; have q1 := (HBk.out.ext hb).cell 1; have q1f := (HBk.out.ext hb).frozen 1; clear hb)
  generalize hY : World.setCell w3 ⟨w.heap.size, 1, none⟩ _ = U2
  have HMU : Hid (Mod [w.heap.size] w3 U2) := hid (by rw [← hY]; exact (Mod.refl [w.heap.size] w3).setCell (.inl (by simp)) _)
  have HE2 : Hid (Ext w U2) := hid (by rw [← hY]; exact (HE.out.trans HX.out).setCell (.inr (Nat.le_refl _)) _)
  have HB2 : Hid (Blk U2 w.heap.size 29 (asbC ⟨(t.ch 0).k, tgtN (t.ch 0), cx, zeroE, zeroA.ps, 0, zeroA.rs⟩ ⟨At, ct, none, 0, none, 0⟩)) := hid (by rw [← hY]; exact (HBk.out.ext HX.out).set_ 1 _)
  clear hY q1 q1f a0 a1 a2 a3 a4
  have HNS : Hid (∀ W, Mod [w.heap.size] U2 W → NsL W At (t.ch 0).k (tgtN (t.ch 0))) := hid (fun W hW => HNS.out W ((HX.out.mono (by simp)).trans (HMU.out.trans hW)))
  have HE := HE2
  have HBk := HB2
  clear HE2 HB2 HMU HX KN w3
  have a0 : U2.cell? ⟨b, o + 15, none⟩ = _ := (HP3.out _ HE.out).1
  have a1 : U2.cell? ⟨b, o + 15 + 1, none⟩ = _ := (HP3.out _ HE.out).2.1
  have a2 : U2.cell? ⟨b, o + 15 + 2, none⟩ = _ := (HP3.out _ HE.out).2.2.1
  have a3 : U2.cell? ⟨b, o + 15 + 3, none⟩ = _ := (HP3.out _ HE.out).2.2.2.1
  have a4 : U2.cell? ⟨b, o + 15 + 4, none⟩ = _ := (HP3.out _ HE.out).2.2.2.2
  have KO := hid (eidOf_any (t.ch 3) HOK3.out A3 c3 U2 (IsL.weak (fun _ _ _ => trivial) _ (HI3.out _ HE.out)))
  by_cases hO : ofB (t.ch 3) = true
  case neg =>
    have hO : ofB (t.ch 3) = false := by simpa using hO
    have KO : Hid (Calls Tryz.prog 50 #[itemV (t.ch 3) A3 c3] U2 (Ret (.tuple #[.agg #[.int .i64 0, str [], .int .u64 0, .int .u64 0], .int .i64 2]) U2)) := hid (by have h := KO.out; rw [hO] at h; exact h)
    have HNO : Hid (rdOK t = false) := hid (by rw [HOKR.out, hO]; simp)
    clear hO
    go_upto_region 11 with (go_at_call 50; refine KO.out.mono ?_; rintro x w3 ⟨rfl, hb⟩; have HX := hid hb; clear hb)
    generalize hY : World.alloc w3 _ = U
    have HE2 : Hid (Ext w U) := hid (by rw [← hY]; exact (HE.out.trans HX.out).alloc _)
    have HB2 : Hid (Blk U w.heap.size 29 (asbC ⟨(t.ch 0).k, tgtN (t.ch 0), cx, zeroE, zeroA.ps, 0, zeroA.rs⟩ ⟨At, ct, none, 0, none, 0⟩)) := hid (by rw [← hY]; exact (HBk.out.ext HX.out).alloc _)
    clear hY a0 a1 a2 a3 a4
    have HZC := hid (ZC.mk' ⟨(t.ch 0).k, tgtN (t.ch 0), cx, zeroE, zeroA.ps, 0, zeroA.rs⟩ ⟨At, ct, none, 0, none, 0⟩)
    obtain ⟨zc, hzc⟩ : ∃ zc, asbC ⟨(t.ch 0).k, tgtN (t.ch 0), cx, zeroE, zeroA.ps, 0, zeroA.rs⟩ ⟨At, ct, none, 0, none, 0⟩ = zc := ⟨_, rfl⟩
    have HBZ : Hid (Blk U w.heap.size 29 zc) := hid (by rw [← hzc]; exact HB2.out)
    rw [hzc] at HZC
    clear hzc
    have KW : Hid (∀ W, Ext w W → Calls Tryz.prog 47 #[str [110, 97, 109, 101]] W (Ret (.iface 118 (.agg #[str [110, 97, 109, 101], FormV eb])) W)) := hid (fun W hW => wrong_any [110, 97, 109, 101] eb W (HFM.out _ hW))
    refine wp_region_held_drew (S := fun w' => Ext w w' ∧ Blk w' w.heap.size 29 zc) (by kernel_rfl) ⟨HE2.out.drew, HBZ.out.drew⟩ (fun hHeld => ?_)
    generalize U.drew = y0 at *
    refine wpAnyH_take (i := 0) rfl (by kernel_rfl) (by kernel_rfl) (by kernel_rfl) (fun _ _ _ h => h) (yieldsIf_row (by rfl) 29 _ rfl _ rfl (fun W hM => hM.2) Tryz.underlying29 rfl HZC.out.i) hHeld ?_
    (try simp only [Act.put, List.getElem_toArray, List.getElem_cons_zero, List.getElem_cons_succ, List.setIfInBounds_toArray, List.set_cons_zero, List.set_cons_succ])
    refine wpAnyH_ready (rs := [1]) (by kernel_rfl) (by simp) ?_
    refine AllReadyH.cons rfl (fun K hK => ?_) AllReadyH.nil
    go_simp
    go_at_call 47
    refine (KW.out _ hHeld.1).mono ?_
    rintro x y1 ⟨rfl, hb⟩
    refine hK.out _ _ ⟨hHeld.1.trans hb, hHeld.2.ext hb⟩ (fun hHeld => ?_)
    clear hK K
    (try simp only [Act.put, List.getElem_toArray, List.getElem_cons_zero, List.getElem_cons_succ, List.setIfInBounds_toArray, List.set_cons_zero, List.set_cons_succ])
    refine wpAnyH_ready (rs := [2]) (by kernel_rfl) (by simp) ?_
    refine AllReadyH.cons rfl (fun K hK => ?_) AllReadyH.nil
    refine wp_store_mid 29 _ _ rfl w.heap.size 0 zc (by rfl) (by rfl) (hHeld.2.there (by rw [HZC.out.s]; exact Nat.le_refl 8)) HZC.out.i HZC.out.o ?_
    have hYB := setCells_all (ds := zc) hHeld.2 (Array.length_toList ..)
    have hYM := setCells_mod (b := w.heap.size) (zc : Array Value).toList 0 hHeld.1 (.inr (by omega))
    generalize hZ : World.setCells _ _ 0 _ = y2 at *
    clear hZ
    refine hK.out _ _ ⟨hYM, hYB⟩ (fun hHeld => ?_)
    clear hK K
    (try simp only [Act.put, List.getElem_toArray, List.getElem_cons_zero, List.getElem_cons_succ, List.setIfInBounds_toArray, List.set_cons_zero, List.set_cons_succ])
    refine' wpAnyH_take (i := 3) (v := _) rfl (by kernel_rfl) (by kernel_rfl) (by kernel_rfl) (fun _ _ _ h => h) (Or.inl ⟨by rfl, ?hy1⟩) hHeld ?rest1
    case hy1 => (rintro W hM; go_simp; (try with_reducible rfl))
    case rest1 =>
    (try simp only [Act.put, List.getElem_toArray, List.getElem_cons_zero, List.getElem_cons_succ, List.setIfInBounds_toArray, List.set_cons_zero, List.set_cons_succ])
    refine wpAnyH_done (by kernel_rfl) ?_ _
    clear hYB hYM
    go_wp2_with fail
    refine bodyPost_ret (results_cell2 rfl _ (by rfl) (by rfl) hHeld.2 Tryz.underlying29 rfl HZC.out.i) rfl (.inl ⟨HNO.out, zc, [110, 97, 109, 101], [], ?_, hHeld.1, HZC.out⟩)
    rfl
  have KO : Hid (Calls Tryz.prog 50 #[itemV (t.ch 3) A3 c3] U2 (Ret (.tuple #[.agg #[.int .i64 (readE (t.ch 3)).sch, str (readE (t.ch 3)).name, .int .u64 ((readE (t.ch 3)).node : Int), .int .u64 ((readE (t.ch 3)).svc : Int)], .int .i64 0]) U2)) := hid (by have h := KO.out; rw [hO] at h; exact h)
  have HYO := hid hO
  clear hO
  obtain ⟨E, hE⟩ : ∃ E, readE (t.ch 3) = E := ⟨_, rfl⟩
  rw [hE] at KO
  have HEQ := hid hE
  clear hE
  go_upto_region 12 with (go_at_call 50; refine KO.out.mono ?_; rintro x w3 ⟨rfl, hb⟩; have HX := hid hb; clear hb)
  generalize hY : World.alloc w3 _ = U3
  have HE2 : Hid (Ext w U3) := hid (by rw [← hY]; exact (HE.out.trans HX.out).alloc _)
  have HB2 : Hid (Blk U3 w.heap.size 29 (asbC ⟨(t.ch 0).k, tgtN (t.ch 0), cx, zeroE, zeroA.ps, 0, zeroA.rs⟩ ⟨At, ct, none, 0, none, 0⟩)) := hid (by rw [← hY]; exact (HBk.out.ext HX.out).alloc _)
  have HBE : Hid (Blk U3 w3.heap.size 25 E.c) := hid (by rw [← hY]; exact Blk.new _ _ _)
  have HNS : Hid (∀ W, Mod [w.heap.size] U3 W → NsL W At (t.ch 0).k (tgtN (t.ch 0))) := hid (fun W hW => HNS.out W ((HX.out.mono (by simp)).trans (Mod.trans (by rw [← hY]; exact (Mod.refl _ _).alloc _) hW)))
  have HE := HE2
  have HBk := HB2
  clear hY a0 a1 a2 a3 a4 HE2 HB2 HX KO
  generalize w3.heap.size = n4 at *
  have e0 : U3.cell? ⟨n4, 0, none⟩ = some (.int .i64 E.sch) := HBE.out.cell 0
  have e1 : U3.cell? ⟨n4, 1, none⟩ = some (str E.name) := HBE.out.cell 1
  have e2 : U3.cell? ⟨n4, 2, none⟩ = some (.int .u64 (E.node : Int)) := HBE.out.cell 2
  have e3 : U3.cell? ⟨n4, 3, none⟩ = some (.int .u64 (E.svc : Int)) := HBE.out.cell 3
  have q2 := HBk.out.cell 2
  have q2f := HBk.out.frozen 2
  have q3 := HBk.out.cell 3
  have q3f := HBk.out.frozen 3
  have q4 := HBk.out.cell 4
  have q4f := HBk.out.frozen 4
  have q5 := HBk.out.cell 5
  have q5f := HBk.out.frozen 5
  go_upto_region 13 with fail
  generalize hY : World.setCell _ ⟨w.heap.size, 5, none⟩ _ = U4
  have HMU : Hid (Mod [w.heap.size] U3 U4) := hid (by rw [← hY]; exact ((((Mod.refl [w.heap.size] U3).setCell (.inl (by simp)) _).setCell (.inl (by simp)) _).setCell (.inl (by simp)) _).setCell (.inl (by simp)) _)
  have HE2 : Hid (Ext w U4) := hid (by rw [← hY]; exact (((HE.out.setCell (.inr (Nat.le_refl _)) _).setCell (.inr (Nat.le_refl _)) _).setCell (.inr (Nat.le_refl _)) _).setCell (.inr (Nat.le_refl _)) _)
  have HB2 : Hid (Blk U4 w.heap.size 29 (asbC ⟨(t.ch 0).k, tgtN (t.ch 0), cx, E, zeroA.ps, 0, zeroA.rs⟩ ⟨At, ct, none, 0, none, 0⟩)) := hid (by rw [← hY]; exact (((HBk.out.set_ 2 _).set_ 3 _).set_ 4 _).set_ 5 _)
  have HNS : Hid (∀ W, Mod [w.heap.size] U4 W → NsL W At (t.ch 0).k (tgtN (t.ch 0))) := hid (fun W hW => HNS.out W (HMU.out.trans hW))
  have HE := HE2
  have HBk := HB2
  clear hY HE2 HB2 HMU HBE e0 e1 e2 e3 q2 q2f q3 q3f q4 q4f q5 q5f
  go_upto_region 17 with fail
  have a0 : U4.cell? ⟨b, o + 20, none⟩ = _ := (HP4.out _ HE.out).1
  have a1 : U4.cell? ⟨b, o + 20 + 1, none⟩ = _ := (HP4.out _ HE.out).2.1
  have a2 : U4.cell? ⟨b, o + 20 + 2, none⟩ = _ := (HP4.out _ HE.out).2.2.1
  have a3 : U4.cell? ⟨b, o + 20 + 3, none⟩ = _ := (HP4.out _ HE.out).2.2.2.1
  have a4 : U4.cell? ⟨b, o + 20 + 4, none⟩ = _ := (HP4.out _ HE.out).2.2.2.2
  have KR := hid (areadR_any (t.ch 4) (HKB.out 4 (by decide)).1 (HKB.out 4 (by decide)).2 A4 c4 eb U4 (HFM.out _ HE.out) (HI4.out _ HE.out))
  by_cases hR : T.all (resK (t.ch 4)) (t.ch 4).k = true
  case neg =>
    have hR : T.all (resK (t.ch 4)) (t.ch 4).k = false := by simpa using hR
    have HNO : Hid (rdOK t = false) := hid (by rw [HOKR.out, hR]; simp)
    have KE : Hid (Calls Tryz.prog 52 #[itemV (t.ch 4) A4 c4] U4 (fun e w' => ∃ l, e = .returned (.tuple #[.slice none 0 0, .iface 118 (.agg #[str [114, 101, 115, 117, 108, 116, 115], errV eb l])]) ∧ Ext U4 w')) := hid (KR.out.mono fun e w' h => by
      rcases h with ⟨_, l, h1, h2⟩ | ⟨h1, _⟩
      · exact ⟨l, h1, h2⟩
      · rw [hR] at h1; exact absurd h1 (by decide))
    clear hR KR
    go_upto_region 18 with (go_at_call 52; refine KE.out.mono ?_; rintro x w3 ⟨l, rfl, hb⟩; have HX := hid hb; have q7 := (HBk.out.ext hb).cell 7; have q7f := (HBk.out.ext hb).frozen 7; clear hb)
    generalize hY : World.setCell w3 ⟨w.heap.size, 7, none⟩ _ = U
    have HMU : Hid (Mod [w.heap.size] w3 U) := hid (by rw [← hY]; exact (Mod.refl [w.heap.size] w3).setCell (.inl (by simp)) _)
    have HE2 : Hid (Ext w U) := hid (by rw [← hY]; exact (HE.out.trans HX.out).setCell (.inr (Nat.le_refl _)) _)
    have HB2 : Hid (Blk U w.heap.size 29 (asbC ⟨(t.ch 0).k, tgtN (t.ch 0), cx, E, zeroA.ps, 0, zeroA.rs⟩ ⟨At, ct, none, 0, none, 0⟩)) := hid (by rw [← hY]; exact (HBk.out.ext HX.out).set_ 7 _)
    clear hY q7 q7f a0 a1 a2 a3 a4
    have HZC := hid (ZC.mk' ⟨(t.ch 0).k, tgtN (t.ch 0), cx, E, zeroA.ps, 0, zeroA.rs⟩ ⟨At, ct, none, 0, none, 0⟩)
    obtain ⟨zc, hzc⟩ : ∃ zc, asbC ⟨(t.ch 0).k, tgtN (t.ch 0), cx, E, zeroA.ps, 0, zeroA.rs⟩ ⟨At, ct, none, 0, none, 0⟩ = zc := ⟨_, rfl⟩
    have HBZ : Hid (Blk U w.heap.size 29 zc) := hid (by rw [← hzc]; exact HB2.out)
    rw [hzc] at HZC
    clear hzc
    have tk1 : True := trivial
    have tk2 : True := trivial
    go_wp2_with (first | (clear tk1; refine wpList_row (by rfl) 29 _ rfl _ rfl HBZ.out Tryz.underlying29 rfl HZC.out.i ?_) | (clear tk2; refine wpList_store_mid rfl 29 _ _ rfl (w.heap.size) 0 zc (by rfl) (by rfl) (HBZ.out.there (by rw [HZC.out.s]; exact Nat.le_refl 8)) HZC.out.i HZC.out.o ?_))
    have hY := setCells_all (ds := zc) HBZ.out (Array.length_toList ..)
    have hM2 := setCells_mod (b := w.heap.size) (zc : Array Value).toList 0 HE2.out (.inr (by omega))
    generalize hZ2 : World.setCells _ _ 0 _ = Z2 at *
    refine bodyPost_ret (results_cell2 rfl _ (by rfl) (by rfl) hY Tryz.underlying29 rfl HZC.out.i) rfl (.inl ⟨HNO.out, zc, [114, 101, 115, 117, 108, 116, 115], l, ?_, hM2, HZC.out⟩)
    rfl
  have KE : Hid (Calls Tryz.prog 52 #[itemV (t.ch 4) A4 c4] U4 (fun e w' => ∃ Ar cr, e = .returned (.tuple #[.slice Ar (t.ch 4).k cr, .nilIface]) ∧ Ext U4 w' ∧ RsL w' (fun b => ((X b ∧ b < w.heap.size) ∧ b < U4.heap.size) ∨ U4.heap.size ≤ b) Ar (t.ch 4).k (resP (t.ch 4)))) := hid (KR.out.mono fun e w' h => by
    rcases h with ⟨h1, _⟩ | ⟨_, Ar, cr, h1, h2, _, h4⟩
    · rw [hR] at h1; exact absurd h1 (by decide)
    · exact ⟨Ar, cr, h1, h2, h4⟩)
  have HOK : Hid (rdOK t = true) := hid (by rw [HOKR.out, HYT.out, HYO.out, hR, decide_eq_true HYC.out]; rfl)
  have HRA : Hid (rdA t = ⟨(t.ch 0).k, tgtN (t.ch 0), cx, E, zeroA.ps, (t.ch 4).k, resP (t.ch 4)⟩) := hid (by unfold rdA; rw [HKk.out, HCX.out, HEQ.out]; rfl)
  have HLT : Hid (w.heap.size < U4.heap.size) := hid HBk.out.lt
  clear hR KR
  go_upto_region 18 with (go_at_call 52; refine KE.out.mono ?_; rintro x w3 ⟨Ar, cr, rfl, hb, hn1⟩; have HX := hid hb; have q7 := (HBk.out.ext hb).cell 7; have q7f := (HBk.out.ext hb).frozen 7; have HN1 := hid hn1; clear hn1; clear hb)
  generalize hY : World.setCell w3 ⟨w.heap.size, 7, none⟩ _ = U6
  have HMU : Hid (Mod [w.heap.size] w3 U6) := hid (by rw [← hY]; exact (Mod.refl [w.heap.size] w3).setCell (.inl (by simp)) _)
  have HE2 : Hid (Ext w U6) := hid (by rw [← hY]; exact (HE.out.trans HX.out).setCell (.inr (Nat.le_refl _)) _)
  have HB2 : Hid (Blk U6 w.heap.size 29 (asbC ⟨(t.ch 0).k, tgtN (t.ch 0), cx, E, zeroA.ps, (t.ch 4).k, resP (t.ch 4)⟩ ⟨At, ct, none, 0, Ar, cr⟩)) := hid (by rw [← hY]; exact (HBk.out.ext HX.out).set_ 7 _)
  clear hY q7 q7f a0 a1 a2 a3 a4
  have HRS : Hid (∀ W, Mod [w.heap.size] U6 W → RsL W (NewQ X w.heap.size) Ar (t.ch 4).k (resP (t.ch 4))) := hid (fun W hW => (HN1.out.mod (HMU.out.trans hW) (fun b hb _ => by have := HLT.out; simp; omega)).weak (fun b _ hb => hb.elim (fun h => .inl h.1) (fun h => .inr (by have := HLT.out; omega))))
  have HNS : Hid (∀ W, Mod [w.heap.size] U6 W → NsL W At (t.ch 0).k (tgtN (t.ch 0))) := hid (fun W hW => HNS.out W ((HX.out.mono (by simp)).trans (HMU.out.trans hW)))
  have HZC := hid (ZC.mk' ⟨(t.ch 0).k, tgtN (t.ch 0), cx, E, zeroA.ps, (t.ch 4).k, resP (t.ch 4)⟩ ⟨At, ct, none, 0, Ar, cr⟩)
  obtain ⟨zc, hzc⟩ : ∃ zc, asbC ⟨(t.ch 0).k, tgtN (t.ch 0), cx, E, zeroA.ps, (t.ch 4).k, resP (t.ch 4)⟩ ⟨At, ct, none, 0, Ar, cr⟩ = zc := ⟨_, rfl⟩
  have HBZ : Hid (Blk U6 w.heap.size 29 zc) := hid (by rw [← hzc]; exact HB2.out)
  rw [hzc] at HZC
  have HZQ := hid hzc
  clear hzc
  have tk1 : True := trivial
  have tk2 : True := trivial
  go_wp2_with (first | (clear tk1; refine wpList_row (by rfl) 29 _ rfl _ rfl HBZ.out Tryz.underlying29 rfl HZC.out.i ?_) | (clear tk2; refine wpList_store_mid rfl 29 _ _ rfl (w.heap.size) 0 zc (by rfl) (by rfl) (HBZ.out.there (by rw [HZC.out.s]; exact Nat.le_refl 8)) HZC.out.i HZC.out.o ?_))
  have hY := setCells_all (ds := zc) HBZ.out (Array.length_toList ..)
  have hM2 := setCells_mod (b := w.heap.size) (zc : Array Value).toList 0 HE2.out (.inr (by omega))
  generalize hZ2 : World.setCells _ _ 0 _ = Z2 at *
  have hM3 := setCells_mod (b := w.heap.size) (zc : Array Value).toList 0 (Mod.refl [w.heap.size] U6) (.inl (by simp))
  rw [hZ2] at hM3
  refine bodyPost_ret (results_cell2 rfl _ (by rfl) (by rfl) hY Tryz.underlying29 rfl HZC.out.i) rfl (.inr ⟨HOK.out, ⟨At, ct, none, 0, Ar, cr⟩, ?_, hM2, ?_, ?_⟩)
  · rw [HRA.out, ← HZQ.out]; rfl
  · rw [HRA.out]
    exact ⟨HNS.out _ hM3, fun b o hA _ => .inr (HTQ.out b o hA), fun h => absurd h (Nat.lt_irrefl 0), HRS.out _ hM3⟩
  · rw [HRA.out]; exact HN3.out
set_option maxRecDepth 20000 in
set_option maxHeartbeats 16000000 in
theorem aread6_any {X : Nat → Prop} (t : T) (hk : t.k = 6) (hok : t.ok) (hb : ∀ i, i < t.k → (t.ch i).k ≤ 1000 ∧ ∀ j, j < (t.ch i).k → ((t.ch i).ch j).k ≤ 1000) (b o c : Nat) (eb : Addr) (w : World) (hf : FormAt w eb) (h : IsL w (fun b => X b ∧ b < w.heap.size) t (some ⟨b, o, none⟩)) : Calls Tryz.prog 22 #[.slice (some ⟨b, o, none⟩) 6 c] w (RdPost X t eb w) := by
  have hch : ∀ i, i < 6 → ∃ Ai ci, ∀ W, Ext w W → At5 W b (o + 5 * i) (t.ch i) Ai ci ∧ IsL W (fun b => X b ∧ b < w.heap.size) (t.ch i) Ai := fun i hi => by
    obtain ⟨b', o', Ai, ci, h1, h2, _, h4, h5⟩ := kidsA h (i := i) (by omega)
    cases h1
    exact ⟨Ai, ci, fun W hW => ⟨by have := h4.mod hW h2 (by simp); rwa [Nat.mul_comm i 5] at this, h5.ext hW⟩⟩
  obtain ⟨A0, c0, hp0⟩ := hch 0 (by decide)
  have HP0 : Hid (∀ W, Ext w W → At5 W b (o) (t.ch 0) A0 c0) := hid (fun W hW => (hp0 W hW).1)
  have HI0 : Hid (∀ W, Ext w W → IsL W (fun b => X b ∧ b < w.heap.size) (t.ch 0) A0) := hid (fun W hW => (hp0 W hW).2)
  clear hp0
  obtain ⟨A1, c1, hp1⟩ := hch 1 (by decide)
  have HP1 : Hid (∀ W, Ext w W → At5 W b (o + 5) (t.ch 1) A1 c1) := hid (fun W hW => (hp1 W hW).1)
  have HI1 : Hid (∀ W, Ext w W → IsL W (fun b => X b ∧ b < w.heap.size) (t.ch 1) A1) := hid (fun W hW => (hp1 W hW).2)
  clear hp1
  obtain ⟨A3, c3, hp3⟩ := hch 3 (by decide)
  have HP3 : Hid (∀ W, Ext w W → At5 W b (o + 15) (t.ch 3) A3 c3) := hid (fun W hW => (hp3 W hW).1)
  have HI3 : Hid (∀ W, Ext w W → IsL W (fun b => X b ∧ b < w.heap.size) (t.ch 3) A3) := hid (fun W hW => (hp3 W hW).2)
  clear hp3
  obtain ⟨A4, c4, hp4⟩ := hch 4 (by decide)
  have HP4 : Hid (∀ W, Ext w W → At5 W b (o + 20) (t.ch 4) A4 c4) := hid (fun W hW => (hp4 W hW).1)
  have HI4 : Hid (∀ W, Ext w W → IsL W (fun b => X b ∧ b < w.heap.size) (t.ch 4) A4) := hid (fun W hW => (hp4 W hW).2)
  clear hp4
  obtain ⟨A5, c5, hp5⟩ := hch 5 (by decide)
  have HP5 : Hid (∀ W, Ext w W → At5 W b (o + 25) (t.ch 5) A5 c5) := hid (fun W hW => (hp5 W hW).1)
  have HI5 : Hid (∀ W, Ext w W → IsL W (fun b => X b ∧ b < w.heap.size) (t.ch 5) A5) := hid (fun W hW => (hp5 W hW).2)
  clear hp5
  have HOK3 := hid (T.okc hok (i := 3) (by omega))
  have HKB := hid (fun i (hi : i < 6) => hb i (by omega))
  have HE := hid ((Mod.refl [] w).alloc (.cells #[.slice none 0 0, .int .i64 0, .int .i64 0, .string ⟨#[]⟩, .int .u64 0, .int .u64 0, .slice none 0 0, .slice none 0 0] 29))
  have HBk : Hid (Blk (w.alloc (.cells #[.slice none 0 0, .int .i64 0, .int .i64 0, .string ⟨#[]⟩, .int .u64 0, .int .u64 0, .slice none 0 0, .slice none 0 0] 29)) w.heap.size 29 (asbC zeroA zeroM)) := hid (Blk.new w 29 #[.slice none 0 0, .int .i64 0, .int .i64 0, .string ⟨#[]⟩, .int .u64 0, .int .u64 0, .slice none 0 0, .slice none 0 0])
  have HS : Hid (w.heap.size + 1 = (w.alloc (.cells #[.slice none 0 0, .int .i64 0, .int .i64 0, .string ⟨#[]⟩, .int .u64 0, .int .u64 0, .slice none 0 0, .slice none 0 0] 29)).heap.size) := hid (by simp)
  have HFM := hid (fun W (hW : Ext w W) => hf.ext hW)
  have HOKR : Hid (rdOK t = (T.all (numK (t.ch 0)) (t.ch 0).k && decide ((t.ch 1).kind = 0) && ofB (t.ch 3) && T.all (pairK (t.ch 4)) (t.ch 4).k && T.all (resK (t.ch 5)) (t.ch 5).k)) := hid (by unfold rdOK; rw [hk]; rfl)
  have HKk := hid hk
  clear h hch hf hok hb hk
  go_enter Tryz.func22, Tryz.ntmps22
  go_upto_region 1 with fail
  generalize w.alloc (.cells #[.slice none 0 0, .int .i64 0, .int .i64 0, .string ⟨#[]⟩, .int .u64 0, .int .u64 0, .slice none 0 0, .slice none 0 0] 29) = V at *
  go_upto_region 3 with fail
  have a0 : V.cell? ⟨b, o, none⟩ = _ := (HP0.out _ HE.out).1
  have a1 : V.cell? ⟨b, o + 1, none⟩ = _ := (HP0.out _ HE.out).2.1
  have a2 : V.cell? ⟨b, o + 2, none⟩ = _ := (HP0.out _ HE.out).2.2.1
  have a3 : V.cell? ⟨b, o + 3, none⟩ = _ := (HP0.out _ HE.out).2.2.2.1
  have a4 : V.cell? ⟨b, o + 4, none⟩ = _ := (HP0.out _ HE.out).2.2.2.2
  have KT := hid (areadT_any (t.ch 0) (HKB.out 0 (by decide)).1 A0 c0 eb V (HFM.out _ HE.out) (IsL.weak (fun _ _ _ => trivial) _ (HI0.out _ HE.out)))
  have HSV := HS
  by_cases hT : T.all (numK (t.ch 0)) (t.ch 0).k = true
  case neg =>
    have hT : T.all (numK (t.ch 0)) (t.ch 0).k = false := by simpa using hT
    have HNO : Hid (rdOK t = false) := hid (by rw [HOKR.out, hT]; simp)
    have KE : Hid (Calls Tryz.prog 48 #[itemV (t.ch 0) A0 c0] V (fun e w' => e = .returned (.tuple #[.slice none 0 0, .iface 118 (.agg #[str [116, 97, 114, 103, 101, 116, 115], errV eb [[110, 117, 109, 98, 101, 114]]])]) ∧ Ext V w')) := hid (KT.out.mono fun e w' h => by
      rcases h with ⟨_, h1, h2⟩ | ⟨h1, _⟩
      · exact ⟨h1, h2⟩
      · rw [hT] at h1; exact absurd h1 (by decide))
    clear hT KT
    go_upto_region 5 with (go_at_call 48; refine KE.out.mono ?_; rintro x w3 ⟨rfl, hb⟩; have HX := hid hb; have q0 := (HBk.out.ext hb).cell 0; have q0f := (HBk.out.ext hb).frozen 0; clear hb)
    generalize hY : World.setCell w3 ⟨w.heap.size, 0, none⟩ _ = U
    have HE2 : Hid (Ext w U) := hid (by rw [← hY]; exact (HE.out.trans HX.out).setCell (.inr (Nat.le_refl _)) _)
    have HB2 : Hid (Blk U w.heap.size 29 (asbC zeroA zeroM)) := hid (by rw [← hY]; exact (HBk.out.ext HX.out).set_ 0 _)
    clear hY q0 q0f a0 a1 a2 a3 a4
    have HZC := hid (ZC.mk' zeroA zeroM)
    obtain ⟨zc, hzc⟩ : ∃ zc, asbC zeroA zeroM = zc := ⟨_, rfl⟩
    have HBZ : Hid (Blk U w.heap.size 29 zc) := hid (by rw [← hzc]; exact HB2.out)
    rw [hzc] at HZC
    clear hzc
    have tk1 : True := trivial
    have tk2 : True := trivial
    go_wp2_with (first | (clear tk1; refine wpList_row (by rfl) 29 _ rfl _ rfl HBZ.out Tryz.underlying29 rfl HZC.out.i ?_) | (clear tk2; refine wpList_store_mid rfl 29 _ _ rfl (w.heap.size) 0 zc (by rfl) (by rfl) (HBZ.out.there (by rw [HZC.out.s]; exact Nat.le_refl 8)) HZC.out.i HZC.out.o ?_))
    have hY := setCells_all (ds := zc) HBZ.out (Array.length_toList ..)
    have hM2 := setCells_mod (b := w.heap.size) (zc : Array Value).toList 0 HE2.out (.inr (by omega))
    generalize hZ2 : World.setCells _ _ 0 _ = Z2 at *
    refine bodyPost_ret (results_cell2 rfl _ (by rfl) (by rfl) hY Tryz.underlying29 rfl HZC.out.i) rfl (.inl ⟨HNO.out, zc, [116, 97, 114, 103, 101, 116, 115], [[110, 117, 109, 98, 101, 114]], ?_, hM2, HZC.out⟩)
    rfl

  have KE : Hid (Calls Tryz.prog 48 #[itemV (t.ch 0) A0 c0] V (fun e w' => ∃ At ct, e = .returned (.tuple #[.slice At (t.ch 0).k ct, .nilIface]) ∧ Ext V w' ∧ NsL w' At (t.ch 0).k (tgtN (t.ch 0)) ∧ (∀ b o, At = some ⟨b, o, none⟩ → V.heap.size ≤ b) ∧ (t.ch 0).k ≤ ct)) := hid (KT.out.mono fun e w' h => by
    rcases h with ⟨h1, _⟩ | ⟨_, At, ct, h1, h2, h3⟩
    · rw [hT] at h1; exact absurd h1 (by decide)
    · exact ⟨At, ct, h1, h2, own_NsL h3, fun b o hA => (h3.lt b (by subst hA; rfl)).1, own_cap h3⟩)
  have HYT := hid hT
  clear hT KT
  go_upto_region 6 with (go_at_call 48; refine KE.out.mono ?_; rintro x w3 ⟨At, ct, rfl, hb, hn1, hn2, hn3⟩; have HX := hid hb; have q0 := (HBk.out.ext hb).cell 0; have q0f := (HBk.out.ext hb).frozen 0; have HN1 := hid hn1; have HN2 := hid hn2; have HN3 := hid hn3; clear hn1 hn2 hn3; clear hb)
  generalize hY : World.setCell w3 ⟨w.heap.size, 0, none⟩ _ = U1
  have HMU : Hid (Mod [w.heap.size] w3 U1) := hid (by rw [← hY]; exact (Mod.refl [w.heap.size] w3).setCell (.inl (by simp)) _)
  have HE2 : Hid (Ext w U1) := hid (by rw [← hY]; exact (HE.out.trans HX.out).setCell (.inr (Nat.le_refl _)) _)
  have HB2 : Hid (Blk U1 w.heap.size 29 (asbC ⟨(t.ch 0).k, tgtN (t.ch 0), 0, zeroE, zeroA.ps, 0, zeroA.rs⟩ ⟨At, ct, none, 0, none, 0⟩)) := hid (by rw [← hY]; exact (HBk.out.ext HX.out).set_ 0 _)
  clear hY q0 q0f a0 a1 a2 a3 a4
  have HNS : Hid (∀ W, Mod [w.heap.size] U1 W → NsL W At (t.ch 0).k (tgtN (t.ch 0))) := hid (fun W hW => HN1.out.mod (HMU.out.trans hW) (fun b o hA _ => by have := HN2.out b o hA; have := HS.out; simp; omega))
  have HE := HE2
  have HBk := HB2
  have HTQ : Hid (∀ b o, At = some ⟨b, o, none⟩ → w.heap.size ≤ b) := hid (fun b o hA => by have := HN2.out b o hA; have := HS.out; omega)
  clear HE2 HB2 HMU HN1 HN2 HX KE w3
  have a0 : U1.cell? ⟨b, o + 5, none⟩ = _ := (HP1.out _ HE.out).1
  have a1 : U1.cell? ⟨b, o + 5 + 1, none⟩ = _ := (HP1.out _ HE.out).2.1
  have a2 : U1.cell? ⟨b, o + 5 + 2, none⟩ = _ := (HP1.out _ HE.out).2.2.1
  have a3 : U1.cell? ⟨b, o + 5 + 3, none⟩ = _ := (HP1.out _ HE.out).2.2.2.1
  have a4 : U1.cell? ⟨b, o + 5 + 4, none⟩ = _ := (HP1.out _ HE.out).2.2.2.2
  have KN := hid (anum_any (t.ch 1) A1 c1 eb U1 (HFM.out _ HE.out))
  by_cases hC : (t.ch 1).kind = 0
  case neg =>
    have KN : Hid (Calls Tryz.prog 49 #[itemV (t.ch 1) A1 c1] U1 (Ret (.tuple #[.int .i64 0, .iface 118 (.agg #[str [110, 117, 109, 98, 101, 114], FormV eb])]) U1)) := hid (by have h := KN.out; unfold numErr at h; rw [if_neg hC] at h; exact h)
    have HNO : Hid (rdOK t = false) := hid (by rw [HOKR.out, decide_eq_false hC]; simp)
    clear hC
    go_upto_region 8 with (go_at_call 49; refine KN.out.mono ?_; rintro x w3 ⟨rfl, hb⟩; have HX := hid hb; have q1 := (HBk.out.ext hb).cell 1; have q1f := (HBk.out.ext hb).frozen 1; clear hb)
    generalize hY : World.setCell w3 ⟨w.heap.size, 1, none⟩ _ = U
    have HMU : Hid (Mod [w.heap.size] w3 U) := hid (by rw [← hY]; exact (Mod.refl [w.heap.size] w3).setCell (.inl (by simp)) _)
    have HE2 : Hid (Ext w U) := hid (by rw [← hY]; exact (HE.out.trans HX.out).setCell (.inr (Nat.le_refl _)) _)
    have HB2 : Hid (Blk U w.heap.size 29 (asbC ⟨(t.ch 0).k, tgtN (t.ch 0), 0, zeroE, zeroA.ps, 0, zeroA.rs⟩ ⟨At, ct, none, 0, none, 0⟩)) := hid (by rw [← hY]; exact (HBk.out.ext HX.out).set_ 1 _)
    clear hY q1 q1f a0 a1 a2 a3 a4
    have HZC := hid (ZC.mk' ⟨(t.ch 0).k, tgtN (t.ch 0), 0, zeroE, zeroA.ps, 0, zeroA.rs⟩ ⟨At, ct, none, 0, none, 0⟩)
    obtain ⟨zc, hzc⟩ : ∃ zc, asbC ⟨(t.ch 0).k, tgtN (t.ch 0), 0, zeroE, zeroA.ps, 0, zeroA.rs⟩ ⟨At, ct, none, 0, none, 0⟩ = zc := ⟨_, rfl⟩
    have HBZ : Hid (Blk U w.heap.size 29 zc) := hid (by rw [← hzc]; exact HB2.out)
    rw [hzc] at HZC
    clear hzc
    have tk1 : True := trivial
    have tk2 : True := trivial
    go_wp2_with (first | (clear tk1; refine wpList_row (by rfl) 29 _ rfl _ rfl HBZ.out Tryz.underlying29 rfl HZC.out.i ?_) | (clear tk2; refine wpList_store_mid rfl 29 _ _ rfl (w.heap.size) 0 zc (by rfl) (by rfl) (HBZ.out.there (by rw [HZC.out.s]; exact Nat.le_refl 8)) HZC.out.i HZC.out.o ?_))
    have hY := setCells_all (ds := zc) HBZ.out (Array.length_toList ..)
    have hM2 := setCells_mod (b := w.heap.size) (zc : Array Value).toList 0 HE2.out (.inr (by omega))
    generalize hZ2 : World.setCells _ _ 0 _ = Z2 at *
    refine bodyPost_ret (results_cell2 rfl _ (by rfl) (by rfl) hY Tryz.underlying29 rfl HZC.out.i) rfl (.inl ⟨HNO.out, zc, [110, 117, 109, 98, 101, 114], [], ?_, hM2, HZC.out⟩)
    rfl
  have KN : Hid (Calls Tryz.prog 49 #[itemV (t.ch 1) A1 c1] U1 (Ret (.tuple #[.int .i64 (min ((t.ch 1).n : Int) 65536), .nilIface]) U1)) := hid (by have h := KN.out; unfold numErr at h; rw [if_pos hC] at h; exact h)
  have HYC := hid hC
  clear hC
  obtain ⟨cx, hcx⟩ : ∃ cx, min ((t.ch 1).n : Int) 65536 = cx := ⟨_, rfl⟩
  rw [hcx] at KN
  have HCX := hid hcx
  clear hcx
  go_upto_region 9 with (go_at_call 49; refine KN.out.mono ?_; rintro x w3 ⟨rfl, hb⟩; have HX := hid hb; have q1 := (HBk.out.ext hb).cell 1; have q1f := (HBk.out.ext hb).frozen 1; clear hb)
  generalize hY : World.setCell w3 ⟨w.heap.size, 1, none⟩ _ = U2
  have HMU : Hid (Mod [w.heap.size] w3 U2) := hid (by rw [← hY]; exact (Mod.refl [w.heap.size] w3).setCell (.inl (by simp)) _)
  have HE2 : Hid (Ext w U2) := hid (by rw [← hY]; exact (HE.out.trans HX.out).setCell (.inr (Nat.le_refl _)) _)
  have HB2 : Hid (Blk U2 w.heap.size 29 (asbC ⟨(t.ch 0).k, tgtN (t.ch 0), cx, zeroE, zeroA.ps, 0, zeroA.rs⟩ ⟨At, ct, none, 0, none, 0⟩)) := hid (by rw [← hY]; exact (HBk.out.ext HX.out).set_ 1 _)
  clear hY q1 q1f a0 a1 a2 a3 a4
  have HNS : Hid (∀ W, Mod [w.heap.size] U2 W → NsL W At (t.ch 0).k (tgtN (t.ch 0))) := hid (fun W hW => HNS.out W ((HX.out.mono (by simp)).trans (HMU.out.trans hW)))
  have HE := HE2
  have HBk := HB2
  clear HE2 HB2 HMU HX KN w3
  have a0 : U2.cell? ⟨b, o + 15, none⟩ = _ := (HP3.out _ HE.out).1
  have a1 : U2.cell? ⟨b, o + 15 + 1, none⟩ = _ := (HP3.out _ HE.out).2.1
  have a2 : U2.cell? ⟨b, o + 15 + 2, none⟩ = _ := (HP3.out _ HE.out).2.2.1
  have a3 : U2.cell? ⟨b, o + 15 + 3, none⟩ = _ := (HP3.out _ HE.out).2.2.2.1
  have a4 : U2.cell? ⟨b, o + 15 + 4, none⟩ = _ := (HP3.out _ HE.out).2.2.2.2
  have KO := hid (eidOf_any (t.ch 3) HOK3.out A3 c3 U2 (IsL.weak (fun _ _ _ => trivial) _ (HI3.out _ HE.out)))
  by_cases hO : ofB (t.ch 3) = true
  case neg =>
    have hO : ofB (t.ch 3) = false := by simpa using hO
    have KO : Hid (Calls Tryz.prog 50 #[itemV (t.ch 3) A3 c3] U2 (Ret (.tuple #[.agg #[.int .i64 0, str [], .int .u64 0, .int .u64 0], .int .i64 2]) U2)) := hid (by have h := KO.out; rw [hO] at h; exact h)
    have HNO : Hid (rdOK t = false) := hid (by rw [HOKR.out, hO]; simp)
    clear hO
    go_upto_region 11 with (go_at_call 50; refine KO.out.mono ?_; rintro x w3 ⟨rfl, hb⟩; have HX := hid hb; clear hb)
    generalize hY : World.alloc w3 _ = U
    have HE2 : Hid (Ext w U) := hid (by rw [← hY]; exact (HE.out.trans HX.out).alloc _)
    have HB2 : Hid (Blk U w.heap.size 29 (asbC ⟨(t.ch 0).k, tgtN (t.ch 0), cx, zeroE, zeroA.ps, 0, zeroA.rs⟩ ⟨At, ct, none, 0, none, 0⟩)) := hid (by rw [← hY]; exact (HBk.out.ext HX.out).alloc _)
    clear hY a0 a1 a2 a3 a4
    have HZC := hid (ZC.mk' ⟨(t.ch 0).k, tgtN (t.ch 0), cx, zeroE, zeroA.ps, 0, zeroA.rs⟩ ⟨At, ct, none, 0, none, 0⟩)
    obtain ⟨zc, hzc⟩ : ∃ zc, asbC ⟨(t.ch 0).k, tgtN (t.ch 0), cx, zeroE, zeroA.ps, 0, zeroA.rs⟩ ⟨At, ct, none, 0, none, 0⟩ = zc := ⟨_, rfl⟩
    have HBZ : Hid (Blk U w.heap.size 29 zc) := hid (by rw [← hzc]; exact HB2.out)
    rw [hzc] at HZC
    clear hzc
    have KW : Hid (∀ W, Ext w W → Calls Tryz.prog 47 #[str [110, 97, 109, 101]] W (Ret (.iface 118 (.agg #[str [110, 97, 109, 101], FormV eb])) W)) := hid (fun W hW => wrong_any [110, 97, 109, 101] eb W (HFM.out _ hW))
    refine wp_region_held_drew (S := fun w' => Ext w w' ∧ Blk w' w.heap.size 29 zc) (by kernel_rfl) ⟨HE2.out.drew, HBZ.out.drew⟩ (fun hHeld => ?_)
    generalize U.drew = y0 at *
    refine wpAnyH_take (i := 0) rfl (by kernel_rfl) (by kernel_rfl) (by kernel_rfl) (fun _ _ _ h => h) (yieldsIf_row (by rfl) 29 _ rfl _ rfl (fun W hM => hM.2) Tryz.underlying29 rfl HZC.out.i) hHeld ?_
    (try simp only [Act.put, List.getElem_toArray, List.getElem_cons_zero, List.getElem_cons_succ, List.setIfInBounds_toArray, List.set_cons_zero, List.set_cons_succ])
    refine wpAnyH_ready (rs := [1]) (by kernel_rfl) (by simp) ?_
    refine AllReadyH.cons rfl (fun K hK => ?_) AllReadyH.nil
    go_simp
    go_at_call 47
    refine (KW.out _ hHeld.1).mono ?_
    rintro x y1 ⟨rfl, hb⟩
    refine hK.out _ _ ⟨hHeld.1.trans hb, hHeld.2.ext hb⟩ (fun hHeld => ?_)
    clear hK K
    (try simp only [Act.put, List.getElem_toArray, List.getElem_cons_zero, List.getElem_cons_succ, List.setIfInBounds_toArray, List.set_cons_zero, List.set_cons_succ])
    refine wpAnyH_ready (rs := [2]) (by kernel_rfl) (by simp) ?_
    refine AllReadyH.cons rfl (fun K hK => ?_) AllReadyH.nil
    refine wp_store_mid 29 _ _ rfl w.heap.size 0 zc (by rfl) (by rfl) (hHeld.2.there (by rw [HZC.out.s]; exact Nat.le_refl 8)) HZC.out.i HZC.out.o ?_
    have hYB := setCells_all (ds := zc) hHeld.2 (Array.length_toList ..)
    have hYM := setCells_mod (b := w.heap.size) (zc : Array Value).toList 0 hHeld.1 (.inr (by omega))
    generalize hZ : World.setCells _ _ 0 _ = y2 at *
    clear hZ
    refine hK.out _ _ ⟨hYM, hYB⟩ (fun hHeld => ?_)
    clear hK K
    (try simp only [Act.put, List.getElem_toArray, List.getElem_cons_zero, List.getElem_cons_succ, List.setIfInBounds_toArray, List.set_cons_zero, List.set_cons_succ])
    refine' wpAnyH_take (i := 3) (v := _) rfl (by kernel_rfl) (by kernel_rfl) (by kernel_rfl) (fun _ _ _ h => h) (Or.inl ⟨by rfl, ?hy2⟩) hHeld ?rest2
    case hy2 => (rintro W hM; go_simp; (try with_reducible rfl))
    case rest2 =>
    (try simp only [Act.put, List.getElem_toArray, List.getElem_cons_zero, List.getElem_cons_succ, List.setIfInBounds_toArray, List.set_cons_zero, List.set_cons_succ])
    refine wpAnyH_done (by kernel_rfl) ?_ _
    clear hYB hYM
    go_wp2_with fail
    refine bodyPost_ret (results_cell2 rfl _ (by rfl) (by rfl) hHeld.2 Tryz.underlying29 rfl HZC.out.i) rfl (.inl ⟨HNO.out, zc, [110, 97, 109, 101], [], ?_, hHeld.1, HZC.out⟩)
    rfl
  have KO : Hid (Calls Tryz.prog 50 #[itemV (t.ch 3) A3 c3] U2 (Ret (.tuple #[.agg #[.int .i64 (readE (t.ch 3)).sch, str (readE (t.ch 3)).name, .int .u64 ((readE (t.ch 3)).node : Int), .int .u64 ((readE (t.ch 3)).svc : Int)], .int .i64 0]) U2)) := hid (by have h := KO.out; rw [hO] at h; exact h)
  have HYO := hid hO
  clear hO
  obtain ⟨E, hE⟩ : ∃ E, readE (t.ch 3) = E := ⟨_, rfl⟩
  rw [hE] at KO
  have HEQ := hid hE
  clear hE
  go_upto_region 12 with (go_at_call 50; refine KO.out.mono ?_; rintro x w3 ⟨rfl, hb⟩; have HX := hid hb; clear hb)
  generalize hY : World.alloc w3 _ = U3
  have HE2 : Hid (Ext w U3) := hid (by rw [← hY]; exact (HE.out.trans HX.out).alloc _)
  have HB2 : Hid (Blk U3 w.heap.size 29 (asbC ⟨(t.ch 0).k, tgtN (t.ch 0), cx, zeroE, zeroA.ps, 0, zeroA.rs⟩ ⟨At, ct, none, 0, none, 0⟩)) := hid (by rw [← hY]; exact (HBk.out.ext HX.out).alloc _)
  have HBE : Hid (Blk U3 w3.heap.size 25 E.c) := hid (by rw [← hY]; exact Blk.new _ _ _)
  have HNS : Hid (∀ W, Mod [w.heap.size] U3 W → NsL W At (t.ch 0).k (tgtN (t.ch 0))) := hid (fun W hW => HNS.out W ((HX.out.mono (by simp)).trans (Mod.trans (by rw [← hY]; exact (Mod.refl _ _).alloc _) hW)))
  have HE := HE2
  have HBk := HB2
  clear hY a0 a1 a2 a3 a4 HE2 HB2 HX KO
  generalize w3.heap.size = n4 at *
  have e0 : U3.cell? ⟨n4, 0, none⟩ = some (.int .i64 E.sch) := HBE.out.cell 0
  have e1 : U3.cell? ⟨n4, 1, none⟩ = some (str E.name) := HBE.out.cell 1
  have e2 : U3.cell? ⟨n4, 2, none⟩ = some (.int .u64 (E.node : Int)) := HBE.out.cell 2
  have e3 : U3.cell? ⟨n4, 3, none⟩ = some (.int .u64 (E.svc : Int)) := HBE.out.cell 3
  have q2 := HBk.out.cell 2
  have q2f := HBk.out.frozen 2
  have q3 := HBk.out.cell 3
  have q3f := HBk.out.frozen 3
  have q4 := HBk.out.cell 4
  have q4f := HBk.out.frozen 4
  have q5 := HBk.out.cell 5
  have q5f := HBk.out.frozen 5
  go_upto_region 13 with fail
  generalize hY : World.setCell _ ⟨w.heap.size, 5, none⟩ _ = U4
  have HMU : Hid (Mod [w.heap.size] U3 U4) := hid (by rw [← hY]; exact ((((Mod.refl [w.heap.size] U3).setCell (.inl (by simp)) _).setCell (.inl (by simp)) _).setCell (.inl (by simp)) _).setCell (.inl (by simp)) _)
  have HE2 : Hid (Ext w U4) := hid (by rw [← hY]; exact (((HE.out.setCell (.inr (Nat.le_refl _)) _).setCell (.inr (Nat.le_refl _)) _).setCell (.inr (Nat.le_refl _)) _).setCell (.inr (Nat.le_refl _)) _)
  have HB2 : Hid (Blk U4 w.heap.size 29 (asbC ⟨(t.ch 0).k, tgtN (t.ch 0), cx, E, zeroA.ps, 0, zeroA.rs⟩ ⟨At, ct, none, 0, none, 0⟩)) := hid (by rw [← hY]; exact (((HBk.out.set_ 2 _).set_ 3 _).set_ 4 _).set_ 5 _)
  have HNS : Hid (∀ W, Mod [w.heap.size] U4 W → NsL W At (t.ch 0).k (tgtN (t.ch 0))) := hid (fun W hW => HNS.out W (HMU.out.trans hW))
  have HE := HE2
  have HBk := HB2
  clear hY HE2 HB2 HMU HBE e0 e1 e2 e3 q2 q2f q3 q3f q4 q4f q5 q5f
  go_upto_region 14 with fail
  have a0 : U4.cell? ⟨b, o + 20, none⟩ = _ := (HP4.out _ HE.out).1
  have a1 : U4.cell? ⟨b, o + 20 + 1, none⟩ = _ := (HP4.out _ HE.out).2.1
  have a2 : U4.cell? ⟨b, o + 20 + 2, none⟩ = _ := (HP4.out _ HE.out).2.2.1
  have a3 : U4.cell? ⟨b, o + 20 + 3, none⟩ = _ := (HP4.out _ HE.out).2.2.2.1
  have a4 : U4.cell? ⟨b, o + 20 + 4, none⟩ = _ := (HP4.out _ HE.out).2.2.2.2
  have KP := hid (areadP_any (t.ch 4) (HKB.out 4 (by decide)).1 A4 c4 eb U4 (HFM.out _ HE.out) (HI4.out _ HE.out))
  by_cases hP : T.all (pairK (t.ch 4)) (t.ch 4).k = true
  case neg =>
    have hP : T.all (pairK (t.ch 4)) (t.ch 4).k = false := by simpa using hP
    have HNO : Hid (rdOK t = false) := hid (by rw [HOKR.out, hP]; simp)
    have KE : Hid (Calls Tryz.prog 51 #[itemV (t.ch 4) A4 c4] U4 (fun e w' => ∃ l, e = .returned (.tuple #[.slice none 0 0, .iface 118 (.agg #[str [112, 97, 105, 114], errV eb l])]) ∧ Ext U4 w')) := hid (KP.out.mono fun e w' h => by
      rcases h with ⟨_, l, h1, h2⟩ | ⟨h1, _⟩
      · exact ⟨l, h1, h2⟩
      · rw [hP] at h1; exact absurd h1 (by decide))
    clear hP KP
    go_upto_region 16 with (go_at_call 51; refine KE.out.mono ?_; rintro x w3 ⟨l, rfl, hb⟩; have HX := hid hb; have q6 := (HBk.out.ext hb).cell 6; have q6f := (HBk.out.ext hb).frozen 6; clear hb)
    generalize hY : World.setCell w3 ⟨w.heap.size, 6, none⟩ _ = U
    have HMU : Hid (Mod [w.heap.size] w3 U) := hid (by rw [← hY]; exact (Mod.refl [w.heap.size] w3).setCell (.inl (by simp)) _)
    have HE2 : Hid (Ext w U) := hid (by rw [← hY]; exact (HE.out.trans HX.out).setCell (.inr (Nat.le_refl _)) _)
    have HB2 : Hid (Blk U w.heap.size 29 (asbC ⟨(t.ch 0).k, tgtN (t.ch 0), cx, E, zeroA.ps, 0, zeroA.rs⟩ ⟨At, ct, none, 0, none, 0⟩)) := hid (by rw [← hY]; exact (HBk.out.ext HX.out).set_ 6 _)
    clear hY q6 q6f a0 a1 a2 a3 a4
    have HZC := hid (ZC.mk' ⟨(t.ch 0).k, tgtN (t.ch 0), cx, E, zeroA.ps, 0, zeroA.rs⟩ ⟨At, ct, none, 0, none, 0⟩)
    obtain ⟨zc, hzc⟩ : ∃ zc, asbC ⟨(t.ch 0).k, tgtN (t.ch 0), cx, E, zeroA.ps, 0, zeroA.rs⟩ ⟨At, ct, none, 0, none, 0⟩ = zc := ⟨_, rfl⟩
    have HBZ : Hid (Blk U w.heap.size 29 zc) := hid (by rw [← hzc]; exact HB2.out)
    rw [hzc] at HZC
    clear hzc
    have tk1 : True := trivial
    have tk2 : True := trivial
    go_wp2_with (first | (clear tk1; refine wpList_row (by rfl) 29 _ rfl _ rfl HBZ.out Tryz.underlying29 rfl HZC.out.i ?_) | (clear tk2; refine wpList_store_mid rfl 29 _ _ rfl (w.heap.size) 0 zc (by rfl) (by rfl) (HBZ.out.there (by rw [HZC.out.s]; exact Nat.le_refl 8)) HZC.out.i HZC.out.o ?_))
    have hY := setCells_all (ds := zc) HBZ.out (Array.length_toList ..)
    have hM2 := setCells_mod (b := w.heap.size) (zc : Array Value).toList 0 HE2.out (.inr (by omega))
    generalize hZ2 : World.setCells _ _ 0 _ = Z2 at *
    refine bodyPost_ret (results_cell2 rfl _ (by rfl) (by rfl) hY Tryz.underlying29 rfl HZC.out.i) rfl (.inl ⟨HNO.out, zc, [112, 97, 105, 114], l, ?_, hM2, HZC.out⟩)
    rfl
  have KE : Hid (Calls Tryz.prog 51 #[itemV (t.ch 4) A4 c4] U4 (fun e w' => ∃ Ap cp, e = .returned (.tuple #[.slice Ap (t.ch 4).k cp, .nilIface]) ∧ Ext U4 w' ∧ PsL w' (fun b => ((X b ∧ b < w.heap.size) ∧ b < U4.heap.size) ∨ U4.heap.size ≤ b) Ap ⟨(t.ch 4).k, pairP (t.ch 4)⟩)) := hid (KP.out.mono fun e w' h => by
    rcases h with ⟨h1, _⟩ | ⟨_, Ap, cp, h1, h2, _, h4⟩
    · rw [hP] at h1; exact absurd h1 (by decide)
    · exact ⟨Ap, cp, h1, h2, h4⟩)
  have HYP := hid hP
  have HLT : Hid (w.heap.size < U4.heap.size) := hid HBk.out.lt
  clear hP KP
  go_upto_region 17 with (go_at_call 51; refine KE.out.mono ?_; rintro x w3 ⟨Ap, cp, rfl, hb, hn1⟩; have HX := hid hb; have q6 := (HBk.out.ext hb).cell 6; have q6f := (HBk.out.ext hb).frozen 6; have HN1 := hid hn1; clear hn1; clear hb)
  generalize hY : World.setCell w3 ⟨w.heap.size, 6, none⟩ _ = U5
  have HMU : Hid (Mod [w.heap.size] w3 U5) := hid (by rw [← hY]; exact (Mod.refl [w.heap.size] w3).setCell (.inl (by simp)) _)
  have HE2 : Hid (Ext w U5) := hid (by rw [← hY]; exact (HE.out.trans HX.out).setCell (.inr (Nat.le_refl _)) _)
  have HB2 : Hid (Blk U5 w.heap.size 29 (asbC ⟨(t.ch 0).k, tgtN (t.ch 0), cx, E, ⟨(t.ch 4).k, pairP (t.ch 4)⟩, 0, zeroA.rs⟩ ⟨At, ct, Ap, cp, none, 0⟩)) := hid (by rw [← hY]; exact (HBk.out.ext HX.out).set_ 6 _)
  clear hY q6 q6f a0 a1 a2 a3 a4
  have HPS : Hid (∀ W, Mod [w.heap.size] U5 W → PsL W (NewQ X w.heap.size) Ap ⟨(t.ch 4).k, pairP (t.ch 4)⟩) := hid (fun W hW => (HN1.out.mod (HMU.out.trans hW) (fun b hb _ => by have := HLT.out; simp; omega)).weak (fun b _ hb => hb.elim (fun h => .inl h.1) (fun h => .inr (by have := HLT.out; omega))))
  have HNS : Hid (∀ W, Mod [w.heap.size] U5 W → NsL W At (t.ch 0).k (tgtN (t.ch 0))) := hid (fun W hW => HNS.out W ((HX.out.mono (by simp)).trans (HMU.out.trans hW)))
  have HE := HE2
  have HBk := HB2
  clear HE2 HB2 HMU HN1 HLT HX KE w3
  have a0 : U5.cell? ⟨b, o + 25, none⟩ = _ := (HP5.out _ HE.out).1
  have a1 : U5.cell? ⟨b, o + 25 + 1, none⟩ = _ := (HP5.out _ HE.out).2.1
  have a2 : U5.cell? ⟨b, o + 25 + 2, none⟩ = _ := (HP5.out _ HE.out).2.2.1
  have a3 : U5.cell? ⟨b, o + 25 + 3, none⟩ = _ := (HP5.out _ HE.out).2.2.2.1
  have a4 : U5.cell? ⟨b, o + 25 + 4, none⟩ = _ := (HP5.out _ HE.out).2.2.2.2
  have KR := hid (areadR_any (t.ch 5) (HKB.out 5 (by decide)).1 (HKB.out 5 (by decide)).2 A5 c5 eb U5 (HFM.out _ HE.out) (HI5.out _ HE.out))
  by_cases hR : T.all (resK (t.ch 5)) (t.ch 5).k = true
  case neg =>
    have hR : T.all (resK (t.ch 5)) (t.ch 5).k = false := by simpa using hR
    have HNO : Hid (rdOK t = false) := hid (by rw [HOKR.out, hR]; simp)
    have KE : Hid (Calls Tryz.prog 52 #[itemV (t.ch 5) A5 c5] U5 (fun e w' => ∃ l, e = .returned (.tuple #[.slice none 0 0, .iface 118 (.agg #[str [114, 101, 115, 117, 108, 116, 115], errV eb l])]) ∧ Ext U5 w')) := hid (KR.out.mono fun e w' h => by
      rcases h with ⟨_, l, h1, h2⟩ | ⟨h1, _⟩
      · exact ⟨l, h1, h2⟩
      · rw [hR] at h1; exact absurd h1 (by decide))
    clear hR KR
    go_upto_region 18 with (go_at_call 52; refine KE.out.mono ?_; rintro x w3 ⟨l, rfl, hb⟩; have HX := hid hb; have q7 := (HBk.out.ext hb).cell 7; have q7f := (HBk.out.ext hb).frozen 7; clear hb)
    generalize hY : World.setCell w3 ⟨w.heap.size, 7, none⟩ _ = U
    have HMU : Hid (Mod [w.heap.size] w3 U) := hid (by rw [← hY]; exact (Mod.refl [w.heap.size] w3).setCell (.inl (by simp)) _)
    have HE2 : Hid (Ext w U) := hid (by rw [← hY]; exact (HE.out.trans HX.out).setCell (.inr (Nat.le_refl _)) _)
    have HB2 : Hid (Blk U w.heap.size 29 (asbC ⟨(t.ch 0).k, tgtN (t.ch 0), cx, E, ⟨(t.ch 4).k, pairP (t.ch 4)⟩, 0, zeroA.rs⟩ ⟨At, ct, Ap, cp, none, 0⟩)) := hid (by rw [← hY]; exact (HBk.out.ext HX.out).set_ 7 _)
    clear hY q7 q7f a0 a1 a2 a3 a4
    have HZC := hid (ZC.mk' ⟨(t.ch 0).k, tgtN (t.ch 0), cx, E, ⟨(t.ch 4).k, pairP (t.ch 4)⟩, 0, zeroA.rs⟩ ⟨At, ct, Ap, cp, none, 0⟩)
    obtain ⟨zc, hzc⟩ : ∃ zc, asbC ⟨(t.ch 0).k, tgtN (t.ch 0), cx, E, ⟨(t.ch 4).k, pairP (t.ch 4)⟩, 0, zeroA.rs⟩ ⟨At, ct, Ap, cp, none, 0⟩ = zc := ⟨_, rfl⟩
    have HBZ : Hid (Blk U w.heap.size 29 zc) := hid (by rw [← hzc]; exact HB2.out)
    rw [hzc] at HZC
    clear hzc
    have tk1 : True := trivial
    have tk2 : True := trivial
    go_wp2_with (first | (clear tk1; refine wpList_row (by rfl) 29 _ rfl _ rfl HBZ.out Tryz.underlying29 rfl HZC.out.i ?_) | (clear tk2; refine wpList_store_mid rfl 29 _ _ rfl (w.heap.size) 0 zc (by rfl) (by rfl) (HBZ.out.there (by rw [HZC.out.s]; exact Nat.le_refl 8)) HZC.out.i HZC.out.o ?_))
    have hY := setCells_all (ds := zc) HBZ.out (Array.length_toList ..)
    have hM2 := setCells_mod (b := w.heap.size) (zc : Array Value).toList 0 HE2.out (.inr (by omega))
    generalize hZ2 : World.setCells _ _ 0 _ = Z2 at *
    refine bodyPost_ret (results_cell2 rfl _ (by rfl) (by rfl) hY Tryz.underlying29 rfl HZC.out.i) rfl (.inl ⟨HNO.out, zc, [114, 101, 115, 117, 108, 116, 115], l, ?_, hM2, HZC.out⟩)
    rfl
  have KE : Hid (Calls Tryz.prog 52 #[itemV (t.ch 5) A5 c5] U5 (fun e w' => ∃ Ar cr, e = .returned (.tuple #[.slice Ar (t.ch 5).k cr, .nilIface]) ∧ Ext U5 w' ∧ RsL w' (fun b => ((X b ∧ b < w.heap.size) ∧ b < U5.heap.size) ∨ U5.heap.size ≤ b) Ar (t.ch 5).k (resP (t.ch 5)))) := hid (KR.out.mono fun e w' h => by
    rcases h with ⟨h1, _⟩ | ⟨_, Ar, cr, h1, h2, _, h4⟩
    · rw [hR] at h1; exact absurd h1 (by decide)
    · exact ⟨Ar, cr, h1, h2, h4⟩)
  have HOK : Hid (rdOK t = true) := hid (by rw [HOKR.out, HYT.out, HYO.out, hR, decide_eq_true HYC.out]; rw [HYP.out]; rfl)
  have HRA : Hid (rdA t = ⟨(t.ch 0).k, tgtN (t.ch 0), cx, E, ⟨(t.ch 4).k, pairP (t.ch 4)⟩, (t.ch 5).k, resP (t.ch 5)⟩) := hid (by unfold rdA; rw [HKk.out, HCX.out, HEQ.out]; rfl)
  have HLT : Hid (w.heap.size < U5.heap.size) := hid HBk.out.lt
  clear hR KR
  go_upto_region 18 with (go_at_call 52; refine KE.out.mono ?_; rintro x w3 ⟨Ar, cr, rfl, hb, hn1⟩; have HX := hid hb; have q7 := (HBk.out.ext hb).cell 7; have q7f := (HBk.out.ext hb).frozen 7; have HN1 := hid hn1; clear hn1; clear hb)
  generalize hY : World.setCell w3 ⟨w.heap.size, 7, none⟩ _ = U6
  have HMU : Hid (Mod [w.heap.size] w3 U6) := hid (by rw [← hY]; exact (Mod.refl [w.heap.size] w3).setCell (.inl (by simp)) _)
  have HE2 : Hid (Ext w U6) := hid (by rw [← hY]; exact (HE.out.trans HX.out).setCell (.inr (Nat.le_refl _)) _)
  have HB2 : Hid (Blk U6 w.heap.size 29 (asbC ⟨(t.ch 0).k, tgtN (t.ch 0), cx, E, ⟨(t.ch 4).k, pairP (t.ch 4)⟩, (t.ch 5).k, resP (t.ch 5)⟩ ⟨At, ct, Ap, cp, Ar, cr⟩)) := hid (by rw [← hY]; exact (HBk.out.ext HX.out).set_ 7 _)
  clear hY q7 q7f a0 a1 a2 a3 a4
  have HPS : Hid (∀ W, Mod [w.heap.size] U6 W → PsL W (NewQ X w.heap.size) Ap ⟨(t.ch 4).k, pairP (t.ch 4)⟩) := hid (fun W hW => HPS.out W ((HX.out.mono (by simp)).trans (HMU.out.trans hW)))
  have HRS : Hid (∀ W, Mod [w.heap.size] U6 W → RsL W (NewQ X w.heap.size) Ar (t.ch 5).k (resP (t.ch 5))) := hid (fun W hW => (HN1.out.mod (HMU.out.trans hW) (fun b hb _ => by have := HLT.out; simp; omega)).weak (fun b _ hb => hb.elim (fun h => .inl h.1) (fun h => .inr (by have := HLT.out; omega))))
  have HNS : Hid (∀ W, Mod [w.heap.size] U6 W → NsL W At (t.ch 0).k (tgtN (t.ch 0))) := hid (fun W hW => HNS.out W ((HX.out.mono (by simp)).trans (HMU.out.trans hW)))
  have HZC := hid (ZC.mk' ⟨(t.ch 0).k, tgtN (t.ch 0), cx, E, ⟨(t.ch 4).k, pairP (t.ch 4)⟩, (t.ch 5).k, resP (t.ch 5)⟩ ⟨At, ct, Ap, cp, Ar, cr⟩)
  obtain ⟨zc, hzc⟩ : ∃ zc, asbC ⟨(t.ch 0).k, tgtN (t.ch 0), cx, E, ⟨(t.ch 4).k, pairP (t.ch 4)⟩, (t.ch 5).k, resP (t.ch 5)⟩ ⟨At, ct, Ap, cp, Ar, cr⟩ = zc := ⟨_, rfl⟩
  have HBZ : Hid (Blk U6 w.heap.size 29 zc) := hid (by rw [← hzc]; exact HB2.out)
  rw [hzc] at HZC
  have HZQ := hid hzc
  clear hzc
  have tk1 : True := trivial
  have tk2 : True := trivial
  go_wp2_with (first | (clear tk1; refine wpList_row (by rfl) 29 _ rfl _ rfl HBZ.out Tryz.underlying29 rfl HZC.out.i ?_) | (clear tk2; refine wpList_store_mid rfl 29 _ _ rfl (w.heap.size) 0 zc (by rfl) (by rfl) (HBZ.out.there (by rw [HZC.out.s]; exact Nat.le_refl 8)) HZC.out.i HZC.out.o ?_))
  have hY := setCells_all (ds := zc) HBZ.out (Array.length_toList ..)
  have hM2 := setCells_mod (b := w.heap.size) (zc : Array Value).toList 0 HE2.out (.inr (by omega))
  generalize hZ2 : World.setCells _ _ 0 _ = Z2 at *
  have hM3 := setCells_mod (b := w.heap.size) (zc : Array Value).toList 0 (Mod.refl [w.heap.size] U6) (.inl (by simp))
  rw [hZ2] at hM3
  refine bodyPost_ret (results_cell2 rfl _ (by rfl) (by rfl) hY Tryz.underlying29 rfl HZC.out.i) rfl (.inr ⟨HOK.out, ⟨At, ct, Ap, cp, Ar, cr⟩, ?_, hM2, ?_, ?_⟩)
  · rw [HRA.out, ← HZQ.out]; rfl
  · rw [HRA.out]
    exact ⟨HNS.out _ hM3, fun b o hA _ => .inr (HTQ.out b o hA), HPS.out _ hM3, HRS.out _ hM3⟩
  · rw [HRA.out]; exact HN3.out
end Go.Proofs.YtblfmokklfhklaaGreatDoor


namespace Go.Proofs.YtblfmokklfhklaaGreatDoor
open Go.RowKit
set_option linter.unusedVariables false
set_option linter.unusedSimpArgs false

theorem few10L_any (e : EV) (w : World) : Calls Tryz.prog 16 #[.agg #[.int .i64 e.sch, str e.name, .int .u64 (e.node : Int), .int .u64 (e.svc : Int)]] w (Ret (.bool (decide (e.name.length ≤ 100))) w) := by
  go_enter Tryz.func16, Tryz.ntmps16
  go_wp2
  go_ret
  refine Ret.mk ?_ ((Mod.refl _ _).alloc _)
  simp
  omega
def PV.few (p : PV) : Bool := decide (p.d.name.length ≤ 100) && decide (p.s.name.length ≤ 100) && decide (p.r.name.length ≤ 100)
def bsFew (bs : Nat → BV) (i : Nat) : Bool := decide (4100 < (bs i).data.length)
def bunFew (p : PV) (bs : Nat → BV) (k : Nat) : Bool := decide (k ≤ 20) && ((firstOf (bsFew bs) k).isNone && p.few)
theorem bunFew_spec {p : PV} {bs : Nat → BV} {k : Nat} (h : bunFew p bs k = true) : k ≤ 20 ∧ p.few = true ∧ ∀ i, i < k → (bs i).data.length ≤ 4100 := by
  unfold bunFew at h
  simp only [Bool.and_eq_true, decide_eq_true_eq] at h
  refine ⟨h.1, h.2.2, fun i hi => ?_⟩
  cases hf : firstOf (bsFew bs) k with
  | some x => rw [hf] at h; simp at h
  | none =>
    have := firstOf_no hf i hi
    unfold bsFew at this
    simp at this
    exact this
theorem bunFew_long {p : PV} {bs : Nat → BV} {k i : Nat} (hi : i < k) (h : 4100 < (bs i).data.length) : bunFew p bs k = false := by
  cases hb : bunFew p bs k with
  | false => rfl
  | true => have := (bunFew_spec hb).2.2 i hi; omega
end Go.Proofs.YtblfmokklfhklaaGreatDoor


namespace Go.Proofs.YtblfmokklfhklaaGreatDoor
open Go.RowKit
set_option linter.unusedVariables false
set_option linter.unusedSimpArgs false

def fewP (p : PL) : Bool := T.all (fun i => few (p.a i).t 1000) (min p.k 20) && decide (p.k ≤ 10)
def fewA (a : AV) : Bool := T.all (fun i => fewP (a.rs i)) (min a.rk 30) && (decide (a.tk ≤ 20) && decide (a.rk ≤ 20) && fewP a.ps && decide (a.src.name.length ≤ 100))
set_option maxRecDepth 20000 in
set_option maxHeartbeats 1600000 in
theorem fewPairs_any (p : PL) (hw : p.wf) (A : Option Addr) (c : Nat) (w : World) (h : PsL w anyQ A p) : Calls Tryz.prog 15 #[.slice A p.k c] w (Ret (.bool (fewP p)) w) := by
  have HL := hid h
  have HW := hid hw
  have k0 : (p.k : Int) < 4611686018427387904 := by have := hw.1; omega
  have HF : Hid (fewP p = (T.all (fun i => few (p.a i).t 1000) (min p.k 20) && decide (p.k ≤ 10))) := rfl
  generalize hkk : p.k = k at *
  have HKK := hid hkk
  clear hw h hkk
  go_enter Tryz.func15, Tryz.ntmps15
  go_wp2_with fail
  go_loopw [3] (fun s3 wr => ∃ i : Nat, s3 = .int .i64 (i : Int) ∧ Hid (i ≤ min k 20 ∧ T.all (fun i => few (p.a i).t 1000) i = true) ∧ ∃ e : Later w, wr = e.x) (fun s3 _ => k - (intOf s3).toNat)
  case atStart => obtain ⟨e, he⟩ := Later.self w; exact ⟨0, rfl, (show Hid _ from ⟨Nat.zero_le _, rfl⟩), e, he⟩
  case round =>
    obtain ⟨i, rfl, hi, e, rfl⟩ := hrel
    have i0 : (0 : Int) ≤ (i : Int) := by omega
    by_cases hlt : i < k ∧ i < 20
    · obtain ⟨b, o, Ai, ci, rfl, hb, hat, hI⟩ := HL.out.at e.h (i := i) (by have := HKK.out; omega)
      obtain ⟨q0, q1, q2, q3, q4⟩ := hat.five
      have i1 : (i : Int) < (k : Int) := by omega
      have taa : decide (i < k) = true := decide_eq_true (by exact hlt.1)
      have tab : (i < k) = True := eq_true (by exact hlt.1)
      have tba : decide ((i : Int) < 20) = true := decide_eq_true (by omega)
      have tbb : ((i : Int) < 20) = True := eq_true (by omega)
      have tca : decide (i < 20) = true := decide_eq_true (by exact hlt.2)
      have tcb : (i < 20) = True := eq_true (by exact hlt.2)
      have HLT := hid hlt
      have KF := hid (fun e : Later w => fun (hI : IsL e.x anyQ (p.a i).t Ai) => iFew_any (p.a i).t 1000 (by decide) ((HW.out.2 i (by have := HKK.out; omega)).1) Ai ci e.x hI)
      have HI := hid hI
      clear hlt hI hb hat
      cases hf : few (p.a i).t 1000 with
      | false =>
        rw [hf] at KF
        have HN := hid (all_no (f := fun i => few (p.a i).t 1000) (k := min k 20) (by have := HLT.out; omega) hf)
        have HFIN : Hid (fewP p = false) := hid (by rw [HF.out, HN.out]; rfl)
        clear hf
        go_wp2_with (first | (go_at_call 33; refine (Ret.later (KF.out _ HI.out)).mono ?_; rintro x _ ⟨rfl, e, rfl⟩))
        go_ret
        exact Ret.mk (by rw [HFIN.out]; rfl) e.h
      | true =>
        rw [hf] at KF
        have HY := hid hf
        clear hf
        go_wp2_with (first | (go_at_call 33; refine (Ret.later (KF.out _ HI.out)).mono ?_; rintro x _ ⟨rfl, e, rfl⟩))
        go_roundw
        case rel => exact ⟨i + 1, by go_num, (show Hid _ from ⟨by have := HLT.out; omega, by rw [T.all, hi.out.2, HY.out]; rfl⟩), e, rfl⟩
        case measure => have := HLT.out; simp [intOf]; omega
    · have him : i = min k 20 := by have := hi.out.1; omega
      have HFIN : Hid (fewP p = decide (k ≤ 10)) := hid (by rw [HF.out, ← him, hi.out.2]; rfl)
      by_cases hk : i < k
      · have h20 : i = 20 := by omega
        have HX : Hid (fewP p = false) := hid (by rw [HFIN.out]; exact decide_eq_false (by omega))
        have taa : decide (i < k) = true := decide_eq_true (by exact hk)
        have tab : (i < k) = True := eq_true (by exact hk)
        have tba : decide ((i : Int) < 20) = false := decide_eq_false (by omega)
        have tbb : ((i : Int) < 20) = False := eq_false (by omega)
        have tca : decide (i < 20) = false := decide_eq_false (by omega)
        have tcb : (i < 20) = False := eq_false (by omega)
        have tda : decide ((i : Int) < (k : Int)) = true := decide_eq_true (by omega)
        have tdb : ((i : Int) < (k : Int)) = True := eq_true (by omega)
        have tea : decide (k ≤ 10) = false := decide_eq_false (by omega)
        have teb : (k ≤ 10) = False := eq_false (by omega)
        have tfa : decide ((k : Int) ≤ 10) = false := decide_eq_false (by omega)
        have tfb : ((k : Int) ≤ 10) = False := eq_false (by omega)
        clear hlt hk him h20
        go_wp2_with fail
        go_ret
        exact Ret.mk (by rw [HX.out]; rfl) e.h
      · have hik : i = k := by omega
        have HX := HFIN
        subst hik
        have ta : decide (i < i) = false := by simp
        clear hlt hk him
        by_cases h10 : i ≤ 10
        · rw [decide_eq_true h10] at HX
          have tea : decide (i ≤ 10) = true := decide_eq_true (by omega)
          have teb : (i ≤ 10) = True := eq_true (by omega)
          have tfa : decide ((i : Int) ≤ 10) = true := decide_eq_true (by omega)
          have tfb : ((i : Int) ≤ 10) = True := eq_true (by omega)
          clear h10
          go_wp2_with fail
          go_ret
          exact Ret.mk (by rw [HX.out]; rfl) e.h
        · rw [decide_eq_false h10] at HX
          have tea : decide (i ≤ 10) = false := decide_eq_false (by omega)
          have teb : (i ≤ 10) = False := eq_false (by omega)
          have tfa : decide ((i : Int) ≤ 10) = false := decide_eq_false (by omega)
          have tfb : ((i : Int) ≤ 10) = False := eq_false (by omega)
          clear h10
          go_wp2_with fail
          go_ret
          exact Ret.mk (by rw [HX.out]; rfl) e.h
set_option maxRecDepth 20000 in
set_option maxHeartbeats 4000000 in
theorem few15_any (a : AV) (hw : a.wf) (m : AA) (w : World) (h : AsL w anyQ a m) : Calls Tryz.prog 6 #[asbV a m] w (Ret (.bool (fewA a)) w) := by
  have HE := hid ((Mod.refl [] w).alloc (.cells (asbC a m) 29))
  have HB0 := hid (Blk.new w 29 (asbC a m))
  have HL := hid (h.ext HE.out)
  have HW := hid hw
  have tk0 : (a.tk : Int) < 4611686018427387904 := by have := hw.1.1; omega
  have rk0 : (a.rk : Int) < 4611686018427387904 := by have := hw.2.2.2.2.1; omega
  have KE := hid (fun W => few10L_any a.src W)
  have HF : Hid (fewA a = (T.all (fun i => fewP (a.rs i)) (min a.rk 30) && (decide (a.tk ≤ 20) && decide (a.rk ≤ 20) && fewP a.ps && decide (a.src.name.length ≤ 100)))) := rfl
  generalize hkk : a.rk = k at *
  have HKK := hid hkk
  clear hw h hkk
  go_enter Tryz.func6, Tryz.ntmps6
  go_upto_region 1 with fail
  generalize w.alloc (.cells (asbC a m) 29) = V at *
  have b0 : ∀ e : Later V, e.x.cell? ⟨w.heap.size, 0, none⟩ = some (.slice m.t a.tk m.tc) := HB0.out.cellL 0 rfl
  have b6 : ∀ e : Later V, e.x.cell? ⟨w.heap.size, 6, none⟩ = some (.slice m.p a.ps.k m.pc) := HB0.out.cellL 6 rfl
  have b7 : ∀ e : Later V, e.x.cell? ⟨w.heap.size, 7, none⟩ = some (.slice m.r k m.rc) := HB0.out.cellL 7 (by rw [← HKK.out]; rfl)
  have HRE : Hid (∀ e : Later V, e.x.rangeAt w.heap.size 2 [.int .i64 a.src.sch, str a.src.name, .int .u64 (a.src.node : Int), .int .u64 (a.src.svc : Int)]) := HB0.out.range 2 4 (by rfl)
  have KP := hid (fun e : Later V => fewPairs_any a.ps HW.out.2.2.2.1 m.p m.pc e.x (HL.out.p.ext e.h))
  go_upto_region 2 with fail
  go_loopw [3] (fun s3 wr => ∃ i : Nat, s3 = .int .i64 (i : Int) ∧ Hid (i ≤ min k 30 ∧ T.all (fun i => fewP (a.rs i)) i = true) ∧ ∃ e : Later V, wr = e.x) (fun s3 _ => k - (intOf s3).toNat)
  case atStart => obtain ⟨e, he⟩ := Later.self V; exact ⟨0, rfl, (show Hid _ from ⟨Nat.zero_le _, rfl⟩), e, he⟩
  case round =>
    obtain ⟨i, rfl, hi, e, rfl⟩ := hrel
    have i0 : (0 : Int) ≤ (i : Int) := by omega
    by_cases hlt : i < k ∧ i < 30
    · obtain ⟨b, o, Ai, ci, hmr, hb, q0, hkc, hP⟩ := HL.out.r.at e.h (i := i) (by have := HKK.out; omega)
      rw [hmr] at b7
      have i1 : (i : Int) < (k : Int) := by omega
      have taa : decide (i < k) = true := decide_eq_true (by exact hlt.1)
      have tab : (i < k) = True := eq_true (by exact hlt.1)
      have tba : decide ((i : Int) < 30) = true := decide_eq_true (by omega)
      have tbb : ((i : Int) < 30) = True := eq_true (by omega)
      have tca : decide (i < 30) = true := decide_eq_true (by exact hlt.2)
      have tcb : (i < 30) = True := eq_true (by exact hlt.2)
      have HLT := hid hlt
      have KF := hid (fewPairs_any (a.rs i) (HW.out.2.2.2.2.2 i (by have := HKK.out; omega)) Ai ci e.x hP)
      clear hlt hP hb hkc
      cases hf : fewP (a.rs i) with
      | false =>
        rw [hf] at KF
        have HN := hid (all_no (f := fun i => fewP (a.rs i)) (k := min k 30) (by have := HLT.out; omega) hf)
        have HFIN : Hid (fewA a = false) := hid (by rw [HF.out, HN.out]; rfl)
        clear hf
        go_wp2_with (first | (go_at_call 15; refine (Ret.later (KF.out)).mono ?_; rintro x _ ⟨rfl, e, rfl⟩))
        go_ret
        exact Ret.mk (by rw [HFIN.out]; rfl) (HE.out.trans e.h)
      | true =>
        rw [hf] at KF
        have HY := hid hf
        clear hf
        go_wp2_with (first | (go_at_call 15; refine (Ret.later (KF.out)).mono ?_; rintro x _ ⟨rfl, e, rfl⟩))
        go_roundw
        case rel => exact ⟨i + 1, by go_num, (show Hid _ from ⟨by have := HLT.out; omega, by rw [T.all, hi.out.2, HY.out]; rfl⟩), e, rfl⟩
        case measure => have := HLT.out; simp [intOf]; omega
    · have him : i = min k 30 := by have := hi.out.1; omega
      have HFIN : Hid (fewA a = (decide (a.tk ≤ 20) && decide (k ≤ 20) && fewP a.ps && decide (a.src.name.length ≤ 100))) := hid (by rw [HF.out, ← him, hi.out.2]; rfl)
      have hx : (decide (i < k) && decide (i < 30)) = false := by
        by_cases h1 : i < k
        · rw [decide_eq_false (show ¬ i < 30 by omega), Bool.and_false]
        · rw [decide_eq_false h1]; rfl
      generalize fewP a.ps = FP at *
      generalize decide (a.src.name.length ≤ 100) = FN at *
      generalize fewA a = FA at *
      by_cases hk : i < k
      case pos =>
        have taa : decide (i < k) = true := decide_eq_true (by exact hk)
        have tab : (i < k) = True := eq_true (by exact hk)
        have tba : decide ((i : Int) < 30) = false := decide_eq_false (by omega)
        have tbb : ((i : Int) < 30) = False := eq_false (by omega)
        have tca : decide (i < 30) = false := decide_eq_false (by omega)
        have tcb : (i < 30) = False := eq_false (by omega)
        have tda : decide ((i : Int) < (k : Int)) = true := decide_eq_true (by omega)
        have tdb : ((i : Int) < (k : Int)) = True := eq_true (by omega)
        have h30 : 30 < k := by omega
        clear hlt hk him hx
        go_upto_region 6 with fail
        have uea : decide (k ≤ 20) = false := decide_eq_false (by omega)
        have ueb : (k ≤ 20) = False := eq_false (by omega)
        have ufa : decide ((k : Int) ≤ 20) = false := decide_eq_false (by omega)
        have ufb : ((k : Int) ≤ 20) = False := eq_false (by omega)
        clear h30
        by_cases ht : a.tk ≤ 20
        case neg =>
          have uaa : decide (a.tk ≤ 20) = false := decide_eq_false (by omega)
          have uab : (a.tk ≤ 20) = False := eq_false (by omega)
          have uba : decide ((a.tk : Int) ≤ 20) = false := decide_eq_false (by omega)
          have ubb : ((a.tk : Int) ≤ 20) = False := eq_false (by omega)
          have HX : Hid (FA = false) := hid (by rw [HFIN.out, decide_eq_false ht]; rfl)
          have tk1 : True := trivial
          go_wp2_with (first | (clear tk1; refine wpList_mid (by rfl) 25 _ rfl _ 2 rfl _ _ (HRE.out _) Tryz.underlying25 rfl (by kernel_rfl) ?_) | (go_at_call 15; refine (Ret.later (KP.out _)).mono ?_; rintro x _ ⟨rfl, e, rfl⟩) | (go_at_call 16; refine (Ret.later (KE.out _)).mono ?_; rintro x _ ⟨rfl, e, rfl⟩))
          go_ret
          exact Ret.mk (by rw [HX.out]; rfl) (HE.out.trans e.h)
        have uaa : decide (a.tk ≤ 20) = true := decide_eq_true (by omega)
        have uab : (a.tk ≤ 20) = True := eq_true (by omega)
        have uba : decide ((a.tk : Int) ≤ 20) = true := decide_eq_true (by omega)
        have ubb : ((a.tk : Int) ≤ 20) = True := eq_true (by omega)
        rw [decide_eq_true ht] at HFIN
        clear ht
        have HX : Hid (FA = false) := hid (by rw [HFIN.out, uea]; rfl)
        have tk1 : True := trivial
        go_wp2_with (first | (clear tk1; refine wpList_mid (by rfl) 25 _ rfl _ 2 rfl _ _ (HRE.out _) Tryz.underlying25 rfl (by kernel_rfl) ?_) | (go_at_call 15; refine (Ret.later (KP.out _)).mono ?_; rintro x _ ⟨rfl, e, rfl⟩) | (go_at_call 16; refine (Ret.later (KE.out _)).mono ?_; rintro x _ ⟨rfl, e, rfl⟩))
        go_ret
        exact Ret.mk (by rw [HX.out]; rfl) (HE.out.trans e.h)
      have hik : i = k := by omega
      subst hik
      have ta : decide (i < i) = false := by simp
      clear hlt hk him hx
      go_upto_region 6 with fail
      by_cases ht : a.tk ≤ 20
      case neg =>
        have uaa : decide (a.tk ≤ 20) = false := decide_eq_false (by omega)
        have uab : (a.tk ≤ 20) = False := eq_false (by omega)
        have uba : decide ((a.tk : Int) ≤ 20) = false := decide_eq_false (by omega)
        have ubb : ((a.tk : Int) ≤ 20) = False := eq_false (by omega)
        have HX : Hid (FA = false) := hid (by rw [HFIN.out, decide_eq_false ht]; rfl)
        have tk1 : True := trivial
        go_wp2_with (first | (clear tk1; refine wpList_mid (by rfl) 25 _ rfl _ 2 rfl _ _ (HRE.out _) Tryz.underlying25 rfl (by kernel_rfl) ?_) | (go_at_call 15; refine (Ret.later (KP.out _)).mono ?_; rintro x _ ⟨rfl, e, rfl⟩) | (go_at_call 16; refine (Ret.later (KE.out _)).mono ?_; rintro x _ ⟨rfl, e, rfl⟩))
        go_ret
        exact Ret.mk (by rw [HX.out]; rfl) (HE.out.trans e.h)
      have uaa : decide (a.tk ≤ 20) = true := decide_eq_true (by omega)
      have uab : (a.tk ≤ 20) = True := eq_true (by omega)
      have uba : decide ((a.tk : Int) ≤ 20) = true := decide_eq_true (by omega)
      have ubb : ((a.tk : Int) ≤ 20) = True := eq_true (by omega)
      rw [decide_eq_true ht] at HFIN
      clear ht
      by_cases hk2 : i ≤ 20
      case neg =>
        have uca : decide (i ≤ 20) = false := decide_eq_false (by omega)
        have ucb : (i ≤ 20) = False := eq_false (by omega)
        have uda : decide ((i : Int) ≤ 20) = false := decide_eq_false (by omega)
        have udb : ((i : Int) ≤ 20) = False := eq_false (by omega)
        have HX : Hid (FA = false) := hid (by rw [HFIN.out, decide_eq_false hk2]; rfl)
        have tk1 : True := trivial
        go_wp2_with (first | (clear tk1; refine wpList_mid (by rfl) 25 _ rfl _ 2 rfl _ _ (HRE.out _) Tryz.underlying25 rfl (by kernel_rfl) ?_) | (go_at_call 15; refine (Ret.later (KP.out _)).mono ?_; rintro x _ ⟨rfl, e, rfl⟩) | (go_at_call 16; refine (Ret.later (KE.out _)).mono ?_; rintro x _ ⟨rfl, e, rfl⟩))
        go_ret
        exact Ret.mk (by rw [HX.out]; rfl) (HE.out.trans e.h)
      have uca : decide (i ≤ 20) = true := decide_eq_true (by omega)
      have ucb : (i ≤ 20) = True := eq_true (by omega)
      have uda : decide ((i : Int) ≤ 20) = true := decide_eq_true (by omega)
      have udb : ((i : Int) ≤ 20) = True := eq_true (by omega)
      rw [decide_eq_true hk2] at HFIN
      clear hk2
      cases FP with
      | false =>
        have HX : Hid (FA = false) := hid (by rw [HFIN.out]; rfl)
        have tk1 : True := trivial
        go_wp2_with (first | (clear tk1; refine wpList_mid (by rfl) 25 _ rfl _ 2 rfl _ _ (HRE.out _) Tryz.underlying25 rfl (by kernel_rfl) ?_) | (go_at_call 15; refine (Ret.later (KP.out _)).mono ?_; rintro x _ ⟨rfl, e, rfl⟩) | (go_at_call 16; refine (Ret.later (KE.out _)).mono ?_; rintro x _ ⟨rfl, e, rfl⟩))
        go_ret
        exact Ret.mk (by rw [HX.out]; rfl) (HE.out.trans e.h)
      | true =>
      cases FN with
      | false =>
        have HX : Hid (FA = false) := hid (by rw [HFIN.out]; rfl)
        have tk1 : True := trivial
        go_wp2_with (first | (clear tk1; refine wpList_mid (by rfl) 25 _ rfl _ 2 rfl _ _ (HRE.out _) Tryz.underlying25 rfl (by kernel_rfl) ?_) | (go_at_call 15; refine (Ret.later (KP.out _)).mono ?_; rintro x _ ⟨rfl, e, rfl⟩) | (go_at_call 16; refine (Ret.later (KE.out _)).mono ?_; rintro x _ ⟨rfl, e, rfl⟩))
        go_ret
        exact Ret.mk (by rw [HX.out]; rfl) (HE.out.trans e.h)
      | true =>
      have HX : Hid (FA = true) := hid (by rw [HFIN.out]; rfl)
      have tk1 : True := trivial
      go_wp2_with (first | (clear tk1; refine wpList_mid (by rfl) 25 _ rfl _ 2 rfl _ _ (HRE.out _) Tryz.underlying25 rfl (by kernel_rfl) ?_) | (go_at_call 15; refine (Ret.later (KP.out _)).mono ?_; rintro x _ ⟨rfl, e, rfl⟩) | (go_at_call 16; refine (Ret.later (KE.out _)).mono ?_; rintro x _ ⟨rfl, e, rfl⟩))
      go_ret
      exact Ret.mk (by rw [HX.out]; rfl) (HE.out.trans e.h)
end Go.Proofs.YtblfmokklfhklaaGreatDoor


namespace Go.Proofs.YtblfmokklfhklaaGreatDoor
open Go.RowKit
set_option linter.unusedVariables false
set_option linter.unusedSimpArgs false

def isID (p : PL) (id : Int) (i : Nat) : Bool := (p.a i).id == id
def IdPost (p : PL) (id kind : Int) (w : World) (e : Ending) (w' : World) : Prop :=
  Ext w w' ∧ ((∃ i A c, firstOf (isID p id) p.k = some i ∧ e = .returned (.tuple #[itemV (p.a i).t A c, .bool ((p.a i).t.kind == kind)])) ∨ (firstOf (isID p id) p.k = none ∧ e = .returned (.tuple #[.agg #[.int .i64 0, .int .u64 0, .string ⟨#[]⟩, .slice none 0 0, .bool false], .bool false])))
end Go.Proofs.YtblfmokklfhklaaGreatDoor


namespace Go.Proofs.YtblfmokklfhklaaGreatDoor
open Go.RowKit
set_option linter.unusedVariables false
set_option linter.unusedSimpArgs false

def numV (p : PL) (id : Int) : Value := match firstOf (isID p id) p.k with | some i => if (p.a i).t.kind == 0 then .tuple #[.int .u64 ((p.a i).t.n : Int), .bool true] else .tuple #[.int .u64 0, .bool false] | none => .tuple #[.int .u64 0, .bool false]
def strV (p : PL) (id : Int) : Value := match firstOf (isID p id) p.k with | some i => if (p.a i).t.kind == 2 then .tuple #[str (p.a i).t.s, .bool true] else .tuple #[str [], .bool false] | none => .tuple #[str [], .bool false]
/-- A text of these pairs alone. -/
def parA (p : PL) : AV := ⟨0, fun _ => 0, 0, ⟨0, [], 0, 0⟩, p, 0, fun _ => p⟩
theorem parA_wf {p : PL} (hw : p.wf) : (parA p).wf := ⟨⟨by show (0 : Nat) < 4611686018427387904; omega, fun i hi => absurd hi (Nat.not_lt_zero _)⟩, by show _ ≤ (0 : Int) ∧ (0 : Int) ≤ _; omega, by show (0 : Nat) < 4611686018427387904; omega, hw, by show (0 : Nat) < 4611686018427387904; omega, fun i hi => absurd hi (Nat.not_lt_zero _)⟩
end Go.Proofs.YtblfmokklfhklaaGreatDoor


namespace Go.Proofs.YtblfmokklfhklaaGreatDoor
open Go.RowKit
set_option linter.unusedVariables false
set_option linter.unusedSimpArgs false

def okB (p : PL) (i : Nat) : Bool := codedB (p.a i).id && valB (p.a i).t && T.all (fun j => decide ((p.a j).id ≠ (p.a i).id)) i
theorem all_and (f g : Nat → Bool) (k : Nat) : T.all (fun i => f i && g i) k = (T.all f k && T.all g k) := by
  rw [Bool.eq_iff_iff, Bool.and_eq_true, T.all_iff, T.all_iff, T.all_iff]
  constructor
  · intro h
    exact ⟨fun i hi => by have := h i hi; simp at this; exact this.1, fun i hi => by have := h i hi; simp at this; exact this.2⟩
  · rintro ⟨h1, h2⟩ i hi
    simp [h1 i hi, h2 i hi]
theorem okB_pairs (p : PL) : T.all (okB p) p.k = pairsB p := by
  have e : okB p = fun i => valB (p.a i).t && (codedB (p.a i).id && T.all (fun j => decide ((p.a j).id ≠ (p.a i).id)) i) := by
    funext i
    unfold okB
    cases codedB (p.a i).id <;> cases valB (p.a i).t <;> rfl
  rw [e, all_and]
  rfl
set_option maxRecDepth 20000 in
set_option maxHeartbeats 2000000 in
theorem r15pairs_any (p : PL) (hw : p.wf) (l m : Nat) (hm : m ≤ 1000) (hl : l ≤ 1000) (A : Option Addr) (c : Nat) (w : World) (h : PsL w anyQ A p) : Calls Tryz.prog 35 #[.slice A p.k c, .int .i64 (l : Int), .int .i64 (m : Int)] w (Ret (.bool (decide (l ≤ p.k) && decide (p.k ≤ m) && pairsB p)) w) := by
  generalize hRES : (decide (l ≤ p.k) && decide (p.k ≤ m) && pairsB p) = RES
  have HRES0 := hid hRES
  rw [← okB_pairs] at hRES
  have HRES : Hid (RES = (decide (l ≤ p.k) && decide (p.k ≤ m) && T.all (okB p) p.k)) := hid hRES.symm
  have HL := hid h
  have HW := hid hw
  have k0 : (p.k : Int) < 4611686018427387904 := by have := hw.1; omega
  have l0 : (l : Int) ≤ 1000 := by omega
  have m0 : (m : Int) ≤ 1000 := by omega
  clear hRES HRES0 h hw hm hl
  obtain ⟨e, he⟩ := Later.self w
  go_enter Tryz.func35, Tryz.ntmps35
  by_cases h1 : p.k < l
  case pos =>
    have HX : Hid (RES = false) := hid (by rw [HRES.out, decide_eq_false (show ¬ l ≤ p.k by omega)]; rfl)
    have taa : decide (p.k < l) = true := decide_eq_true (by omega)
    have tab : (p.k < l) = True := eq_true (by omega)
    have tba : decide ((p.k : Int) < (l : Int)) = true := decide_eq_true (by omega)
    have tbb : ((p.k : Int) < (l : Int)) = True := eq_true (by omega)
    go_wp2_with fail
    go_ret
    exact Ret.mk (by rw [HX.out]; rfl) e.h
  have taa : decide (p.k < l) = false := decide_eq_false (by omega)
  have tab : (p.k < l) = False := eq_false (by omega)
  have tba : decide ((p.k : Int) < (l : Int)) = false := decide_eq_false (by omega)
  have tbb : ((p.k : Int) < (l : Int)) = False := eq_false (by omega)
  by_cases h2 : m < p.k
  case pos =>
    have HX : Hid (RES = false) := hid (by rw [HRES.out, decide_eq_false (show ¬ p.k ≤ m by omega), Bool.and_false]; rfl)
    have tca : decide (m < p.k) = true := decide_eq_true (by omega)
    have tcb : (m < p.k) = True := eq_true (by omega)
    have tda : decide ((m : Int) < (p.k : Int)) = true := decide_eq_true (by omega)
    have tdb : ((m : Int) < (p.k : Int)) = True := eq_true (by omega)
    go_wp2_with fail
    go_ret
    exact Ret.mk (by rw [HX.out]; rfl) e.h
  have tca : decide (m < p.k) = false := decide_eq_false (by omega)
  have tcb : (m < p.k) = False := eq_false (by omega)
  have tda : decide ((m : Int) < (p.k : Int)) = false := decide_eq_false (by omega)
  have tdb : ((m : Int) < (p.k : Int)) = False := eq_false (by omega)
  clear h1 h2
  go_upto_region 4 with fail
  go_loopw [7] (fun s7 wr => ∃ i : Nat, s7 = .int .i64 (i : Int) ∧ Hid (i ≤ p.k ∧ T.all (okB p) i = true) ∧ ∃ e : Later w, wr = e.x) (fun s7 _ => p.k - (intOf s7).toNat)
  case atStart => exact ⟨0, rfl, (show Hid _ from ⟨Nat.zero_le _, rfl⟩), e, (by first | exact he | rfl)⟩
  case round =>
    clear he e
    obtain ⟨i, rfl, hi, e, rfl⟩ := hrel
    have i0 : (0 : Int) ≤ (i : Int) := by omega
    by_cases hlt : i < p.k
    · obtain ⟨b, o, Ai, ci, rfl, hb, hat, hI⟩ := HL.out.at e.h hlt
      obtain ⟨q0, q1, q2, q3, q4⟩ := hat.five
      have qi := hat.1
      have tc : decide (i < p.k) = true := by simp [hlt]
      have i1 : (i : Int) < (p.k : Int) := by omega
      have HLT := hid hlt
      have HAT := hid (fun (W : World) (hW : Ext e.x W) => (hat.mod hW (Nat.lt_of_lt_of_le hb e.h.size) (by simp) : At6 W b (o + i * 6) (p.a i) Ai ci))
      have HI := hid hI
      clear hlt hat hI hb
      go_upto_region 7 with fail
      generalize hW1 : World.alloc e.x _ = W1
      have HG1 : Hid (Blk W1 e.x.heap.size 47 (itemC (p.a i).t Ai ci)) := hid (by rw [← hW1]; exact Blk.new _ _ _)
      have HX1 : Hid (Ext e.x W1) := hid (by rw [← hW1]; exact (Mod.refl [] _).alloc _)
      have HV1 : Hid (Ext w W1) := hid (e.h.trans HX1.out)
      have KR := hid (fun W (hW : Ext W1 W) => rRight_any (p.a i).t ((HW.out.2 i HLT.out).1) Ai ci W (HI.out.ext (HX1.out.trans hW)))
      have qi := (HAT.out W1 HX1.out).1
      clear hW1 q0 q1 q2 q3 q4
      generalize e.x.heap.size = G at *
      have g0 : W1.cell? ⟨G, 0, none⟩ = some (.int .i64 (p.a i).t.kind) := HG1.out.cell 0
      have g0 : ∀ e : Later W1, e.x.cell? ⟨G, 0, none⟩ = some (.int .i64 (p.a i).t.kind) := fun e => cellL g0 e
      have qi : ∀ e : Later W1, e.x.cell? ⟨b, o + i * 6, none⟩ = some (.int .i64 (p.a i).id) := fun e => cellL qi e
      have KR := hid (fun e : Later W1 => KR.out e.x e.h)
      obtain ⟨e, he⟩ := Later.self W1
      rw [he]
      clear he
      by_cases hn : (p.a i).id < 0
      case pos =>
        have uaa : decide ((p.a i).id < 0) = true := decide_eq_true (by exact hn)
        have uab : ((p.a i).id < 0) = True := eq_true (by exact hn)
        have HC : Hid (codedB (p.a i).id = false) := hid (by unfold codedB; rw [decide_eq_false (show ¬ 0 ≤ (p.a i).id by omega)]; rfl)
        clear hn
        have HN := hid (all_no (f := okB p) HLT.out (by unfold okB; rw [HC.out]; rfl))
        have HX : Hid (RES = false) := hid (by rw [HRES.out, HN.out, Bool.and_false])
        clear HN
        have tk1 : True := trivial
        go_wp2_with fail
        go_ret
        exact Ret.mk (by rw [HX.out]; rfl) (HV1.out.trans e.h)
      have uaa : decide ((p.a i).id < 0) = false := decide_eq_false (by exact hn)
      have uab : ((p.a i).id < 0) = False := eq_false (by exact hn)
      by_cases hg : 65535 < (p.a i).id
      case pos =>
        have uba : decide (65535 < (p.a i).id) = true := decide_eq_true (by exact hg)
        have ubb : (65535 < (p.a i).id) = True := eq_true (by exact hg)
        have HC : Hid (codedB (p.a i).id = false) := hid (by unfold codedB; rw [decide_eq_false (show ¬ (p.a i).id ≤ 65535 by omega), Bool.and_false])
        clear hn hg
        have HN := hid (all_no (f := okB p) HLT.out (by unfold okB; rw [HC.out]; rfl))
        have HX : Hid (RES = false) := hid (by rw [HRES.out, HN.out, Bool.and_false])
        clear HN
        have tk1 : True := trivial
        go_wp2_with fail
        go_ret
        exact Ret.mk (by rw [HX.out]; rfl) (HV1.out.trans e.h)
      have uba : decide (65535 < (p.a i).id) = false := decide_eq_false (by exact hg)
      have ubb : (65535 < (p.a i).id) = False := eq_false (by exact hg)
      have HC : Hid (codedB (p.a i).id = true) := hid (by unfold codedB; rw [decide_eq_true (show 0 ≤ (p.a i).id by omega), decide_eq_true (show (p.a i).id ≤ 65535 by omega)]; rfl)
      clear hn hg
      by_cases hk0 : (p.a i).t.kind = 0 ∨ (p.a i).t.kind = 2
      case neg =>
        have vaa : (((p.a i).t.kind) == (0)) = false := by rw [beq_eq_false_iff_ne]; omega
        have vab : (((p.a i).t.kind) = (0)) = False := eq_false (by omega)
        have vac : (((p.a i).t.kind) != (0)) = true := by rw [bne_iff_ne]; omega
        have vba : (((p.a i).t.kind) == (2)) = false := by rw [beq_eq_false_iff_ne]; omega
        have vbb : (((p.a i).t.kind) = (2)) = False := eq_false (by omega)
        have vbc : (((p.a i).t.kind) != (2)) = true := by rw [bne_iff_ne]; omega
        have HVB : Hid (valB (p.a i).t = false) := hid (by unfold valB; rw [decide_eq_false (fun h => hk0 (.inl h)), decide_eq_false (fun h => hk0 (.inr h))]; rfl)
        clear hk0
        have HN := hid (all_no (f := okB p) HLT.out (by unfold okB; rw [HVB.out, Bool.and_false]; rfl))
        have HX : Hid (RES = false) := hid (by rw [HRES.out, HN.out, Bool.and_false])
        clear HN
        have tk1 : True := trivial
        go_wp2_with fail
        go_ret
        exact Ret.mk (by rw [HX.out]; rfl) (HV1.out.trans e.h)
      have HD1 : Hid ((decide ((p.a i).t.kind = 0) || decide ((p.a i).t.kind = 2)) = true) := hid (by rcases hk0 with h | h <;> simp [h])
      cases hr : (p.a i).t.right 8 with
      | false =>
        rw [hr] at KR
        have HVB : Hid (valB (p.a i).t = false) := hid (by unfold valB; rw [hr, Bool.and_false])
        clear hr
        rcases hk0 with hk0 | hk0
        · have vaa : (((p.a i).t.kind) == (0)) = true := by rw [beq_iff_eq]; omega
          have vab : (((p.a i).t.kind) = (0)) = True := eq_true (by omega)
          have vac : (((p.a i).t.kind) != (0)) = false := by rw [bne_eq_false_iff_eq]; omega
          clear hk0
          have HN := hid (all_no (f := okB p) HLT.out (by unfold okB; rw [HVB.out, Bool.and_false]; rfl))
          have HX : Hid (RES = false) := hid (by rw [HRES.out, HN.out, Bool.and_false])
          clear HN
          have tk1 : True := trivial
          go_wp2_with (first | (clear tk1; refine wpList_row (by rfl) 47 _ rfl _ rfl (HG1.out.later _) Tryz.underlying47 rfl (by kernel_rfl) ?_) | (go_at_call 57; refine (Ret.later (KR.out _)).mono ?_; rintro x _ ⟨rfl, e, rfl⟩))
          go_ret
          exact Ret.mk (by rw [HX.out]; rfl) (HV1.out.trans e.h)
        · have vaa : (((p.a i).t.kind) == (0)) = false := by rw [beq_eq_false_iff_ne]; omega
          have vab : (((p.a i).t.kind) = (0)) = False := eq_false (by omega)
          have vac : (((p.a i).t.kind) != (0)) = true := by rw [bne_iff_ne]; omega
          have vba : (((p.a i).t.kind) == (2)) = true := by rw [beq_iff_eq]; omega
          have vbb : (((p.a i).t.kind) = (2)) = True := eq_true (by omega)
          have vbc : (((p.a i).t.kind) != (2)) = false := by rw [bne_eq_false_iff_eq]; omega
          clear hk0
          have HN := hid (all_no (f := okB p) HLT.out (by unfold okB; rw [HVB.out, Bool.and_false]; rfl))
          have HX : Hid (RES = false) := hid (by rw [HRES.out, HN.out, Bool.and_false])
          clear HN
          have tk1 : True := trivial
          go_wp2_with (first | (clear tk1; refine wpList_row (by rfl) 47 _ rfl _ rfl (HG1.out.later _) Tryz.underlying47 rfl (by kernel_rfl) ?_) | (go_at_call 57; refine (Ret.later (KR.out _)).mono ?_; rintro x _ ⟨rfl, e, rfl⟩))
          go_ret
          exact Ret.mk (by rw [HX.out]; rfl) (HV1.out.trans e.h)
      | true =>
        rw [hr] at KR
        have HVB : Hid (valB (p.a i).t = true) := hid (by unfold valB; rw [HD1.out, hr]; rfl)
        clear hr
        rcases hk0 with hk0 | hk0
        · have vaa : (((p.a i).t.kind) == (0)) = true := by rw [beq_iff_eq]; omega
          have vab : (((p.a i).t.kind) = (0)) = True := eq_true (by omega)
          have vac : (((p.a i).t.kind) != (0)) = false := by rw [bne_eq_false_iff_eq]; omega
          clear hk0
          have tk1 : True := trivial
          go_upto_region 10 with (first | (clear tk1; refine wpList_row (by rfl) 47 _ rfl _ rfl (HG1.out.later _) Tryz.underlying47 rfl (by kernel_rfl) ?_) | (go_at_call 57; refine (Ret.later (KR.out _)).mono ?_; rintro x _ ⟨rfl, e, rfl⟩))
          go_loopw [9] (fun s9 wr => ∃ j : Nat, s9 = .int .i64 (j : Int) ∧ Hid (j ≤ i ∧ ∀ x, x < j → (p.a x).id ≠ (p.a i).id) ∧ ∃ e : Later W1, wr = e.x) (fun s9 _ => i - (intOf s9).toNat)
          case atStart => exact ⟨0, rfl, (show Hid _ from ⟨Nat.zero_le _, fun x hx => by omega⟩), e, rfl⟩
          case round =>
            clear e
            obtain ⟨j, rfl, hj, e, rfl⟩ := hrel
            have j0 : (0 : Int) ≤ (j : Int) := by omega
            by_cases hjt : j < i
            · obtain ⟨b', o', Aj, cj, hA', hb', hat', _⟩ := HL.out.at (Mod.refl [] w) (Nat.lt_trans hjt HLT.out)
              cases hA'
              have cJ : ∀ e : Later W1, e.x.cell? ⟨b, o + j * 6, none⟩ = some (.int .i64 (p.a j).id) := fun e => cellL hat'.1 ⟨e.x, HV1.out.trans e.h⟩
              have tj : decide (j < i) = true := by simp [hjt]
              have j1 : (j : Int) < (i : Int) := by omega
              have j2 : (j : Int) < (p.k : Int) := by omega
              have HJT := hid hjt
              clear hjt hb' hat'
              by_cases hd : (p.a j).id = (p.a i).id
              · have HU : Hid (T.all (fun j => decide ((p.a j).id ≠ (p.a i).id)) i = false) := hid (all_no HJT.out (by simp [hd]))
                have waa : (((p.a i).id) == ((p.a j).id)) = true := by rw [beq_iff_eq]; exact hd.symm
                have wab : (((p.a i).id) = ((p.a j).id)) = True := eq_true (by exact hd.symm)
                have wac : (((p.a i).id) != ((p.a j).id)) = false := by rw [bne_eq_false_iff_eq]; exact hd.symm
                clear hd
                go_upto_region 12 with fail
                refine wp_region_later (by kernel_rfl) (by kernel_rfl) ?_
                repeat (first | go_big_quiet_step (fail))
                refine wpQuiet_nil ?_
                rintro _ ⟨e, rfl⟩
                have HN := hid (all_no (f := okB p) HLT.out (by unfold okB; rw [HU.out, Bool.and_false]))
                have HX : Hid (RES = false) := hid (by rw [HRES.out, HN.out, Bool.and_false])
                clear HN
                have tk1 : True := trivial
                go_wp2_with fail
                go_ret
                exact Ret.mk (by rw [HX.out]; rfl) (HV1.out.trans e.h)
              · have HD := hid hd
                have waa : (((p.a i).id) == ((p.a j).id)) = false := by rw [beq_eq_false_iff_ne]; exact fun h => hd h.symm
                have wab : (((p.a i).id) = ((p.a j).id)) = False := eq_false (by exact fun h => hd h.symm)
                have wac : (((p.a i).id) != ((p.a j).id)) = true := by rw [bne_iff_ne]; exact fun h => hd h.symm
                clear hd
                go_upto_region 12 with fail
                refine wp_region_later (by kernel_rfl) (by kernel_rfl) ?_
                repeat (first | go_big_quiet_step (fail))
                refine wpQuiet_nil ?_
                rintro _ ⟨e, rfl⟩
                go_wp2_with fail
                go_roundw
                case rel => exact ⟨j + 1, by go_num, (show Hid _ from ⟨HJT.out, fun x hx => by
                  by_cases e : x = j
                  · subst e; exact HD.out
                  · exact hj.out.2 x (by omega)⟩), e, rfl⟩
                case measure => have := HJT.out; simp [intOf]; omega
            · have hij : j = i := by have := hj.out.1; omega
              subst hij
              have tj : decide (j < j) = false := by simp
              have HU : Hid (T.all (fun x => decide ((p.a x).id ≠ (p.a j).id)) j = true) := hid (T.all_iff.2 fun x hx => by simpa using hj.out.2 x hx)
              have HOK : Hid (okB p j = true) := hid (by unfold okB; rw [HC.out, HVB.out, HU.out]; rfl)
              go_wp2_with fail
              go_roundw
              case rel => exact ⟨j + 1, by go_num, (show Hid _ from ⟨HLT.out, by rw [T.all, hi.out.2, HOK.out]; rfl⟩), ⟨e.x, HV1.out.trans e.h⟩, rfl⟩
              case measure => have := HLT.out; simp [intOf]; omega
        · have vaa : (((p.a i).t.kind) == (0)) = false := by rw [beq_eq_false_iff_ne]; omega
          have vab : (((p.a i).t.kind) = (0)) = False := eq_false (by omega)
          have vac : (((p.a i).t.kind) != (0)) = true := by rw [bne_iff_ne]; omega
          have vba : (((p.a i).t.kind) == (2)) = true := by rw [beq_iff_eq]; omega
          have vbb : (((p.a i).t.kind) = (2)) = True := eq_true (by omega)
          have vbc : (((p.a i).t.kind) != (2)) = false := by rw [bne_eq_false_iff_eq]; omega
          clear hk0
          have tk1 : True := trivial
          go_upto_region 10 with (first | (clear tk1; refine wpList_row (by rfl) 47 _ rfl _ rfl (HG1.out.later _) Tryz.underlying47 rfl (by kernel_rfl) ?_) | (go_at_call 57; refine (Ret.later (KR.out _)).mono ?_; rintro x _ ⟨rfl, e, rfl⟩))
          go_loopw [9] (fun s9 wr => ∃ j : Nat, s9 = .int .i64 (j : Int) ∧ Hid (j ≤ i ∧ ∀ x, x < j → (p.a x).id ≠ (p.a i).id) ∧ ∃ e : Later W1, wr = e.x) (fun s9 _ => i - (intOf s9).toNat)
          case atStart => exact ⟨0, rfl, (show Hid _ from ⟨Nat.zero_le _, fun x hx => by omega⟩), e, rfl⟩
          case round =>
            clear e
            obtain ⟨j, rfl, hj, e, rfl⟩ := hrel
            have j0 : (0 : Int) ≤ (j : Int) := by omega
            by_cases hjt : j < i
            · obtain ⟨b', o', Aj, cj, hA', hb', hat', _⟩ := HL.out.at (Mod.refl [] w) (Nat.lt_trans hjt HLT.out)
              cases hA'
              have cJ : ∀ e : Later W1, e.x.cell? ⟨b, o + j * 6, none⟩ = some (.int .i64 (p.a j).id) := fun e => cellL hat'.1 ⟨e.x, HV1.out.trans e.h⟩
              have tj : decide (j < i) = true := by simp [hjt]
              have j1 : (j : Int) < (i : Int) := by omega
              have j2 : (j : Int) < (p.k : Int) := by omega
              have HJT := hid hjt
              clear hjt hb' hat'
              by_cases hd : (p.a j).id = (p.a i).id
              · have HU : Hid (T.all (fun j => decide ((p.a j).id ≠ (p.a i).id)) i = false) := hid (all_no HJT.out (by simp [hd]))
                have waa : (((p.a i).id) == ((p.a j).id)) = true := by rw [beq_iff_eq]; exact hd.symm
                have wab : (((p.a i).id) = ((p.a j).id)) = True := eq_true (by exact hd.symm)
                have wac : (((p.a i).id) != ((p.a j).id)) = false := by rw [bne_eq_false_iff_eq]; exact hd.symm
                clear hd
                go_upto_region 12 with fail
                refine wp_region_later (by kernel_rfl) (by kernel_rfl) ?_
                repeat (first | go_big_quiet_step (fail))
                refine wpQuiet_nil ?_
                rintro _ ⟨e, rfl⟩
                have HN := hid (all_no (f := okB p) HLT.out (by unfold okB; rw [HU.out, Bool.and_false]))
                have HX : Hid (RES = false) := hid (by rw [HRES.out, HN.out, Bool.and_false])
                clear HN
                have tk1 : True := trivial
                go_wp2_with fail
                go_ret
                exact Ret.mk (by rw [HX.out]; rfl) (HV1.out.trans e.h)
              · have HD := hid hd
                have waa : (((p.a i).id) == ((p.a j).id)) = false := by rw [beq_eq_false_iff_ne]; exact fun h => hd h.symm
                have wab : (((p.a i).id) = ((p.a j).id)) = False := eq_false (by exact fun h => hd h.symm)
                have wac : (((p.a i).id) != ((p.a j).id)) = true := by rw [bne_iff_ne]; exact fun h => hd h.symm
                clear hd
                go_upto_region 12 with fail
                refine wp_region_later (by kernel_rfl) (by kernel_rfl) ?_
                repeat (first | go_big_quiet_step (fail))
                refine wpQuiet_nil ?_
                rintro _ ⟨e, rfl⟩
                go_wp2_with fail
                go_roundw
                case rel => exact ⟨j + 1, by go_num, (show Hid _ from ⟨HJT.out, fun x hx => by
                  by_cases e : x = j
                  · subst e; exact HD.out
                  · exact hj.out.2 x (by omega)⟩), e, rfl⟩
                case measure => have := HJT.out; simp [intOf]; omega
            · have hij : j = i := by have := hj.out.1; omega
              subst hij
              have tj : decide (j < j) = false := by simp
              have HU : Hid (T.all (fun x => decide ((p.a x).id ≠ (p.a j).id)) j = true) := hid (T.all_iff.2 fun x hx => by simpa using hj.out.2 x hx)
              have HOK : Hid (okB p j = true) := hid (by unfold okB; rw [HC.out, HVB.out, HU.out]; rfl)
              go_wp2_with fail
              go_roundw
              case rel => exact ⟨j + 1, by go_num, (show Hid _ from ⟨HLT.out, by rw [T.all, hi.out.2, HOK.out]; rfl⟩), ⟨e.x, HV1.out.trans e.h⟩, rfl⟩
              case measure => have := HLT.out; simp [intOf]; omega
    · have hik : i = p.k := by have := hi.out.1; omega
      subst hik
      have tc : decide (p.k < p.k) = false := by simp
      have HX : Hid (RES = true) := hid (by rw [HRES.out, hi.out.2, Bool.and_true, Bool.and_eq_true]; simp at tab tcb taa tca; exact ⟨decide_eq_true (by omega), decide_eq_true (by omega)⟩)
      go_wp2_with fail
      go_ret
      exact Ret.mk (by rw [HX.out]; rfl) e.h
end Go.Proofs.YtblfmokklfhklaaGreatDoor


namespace Go.Proofs.YtblfmokklfhklaaGreatDoor
open Go.RowKit
set_option linter.unusedVariables false
set_option linter.unusedSimpArgs false

def okT (a : AV) (i : Nat) : Bool := codedB (a.tg i) && resB (a.rs i) && T.all (fun j => decide (a.tg j ≠ a.tg i)) i
theorem okT_all {a : AV} (h : a.rk = a.tk) : T.all (okT a) a.tk = (unlikeB a.tg a.tk && T.all (fun i => resB (a.rs i)) a.rk) := by
  have e : okT a = fun i => (codedB (a.tg i) && T.all (fun j => decide (a.tg j ≠ a.tg i)) i) && resB (a.rs i) := by
    funext i
    unfold okT
    cases codedB (a.tg i) <;> cases resB (a.rs i) <;> simp
  rw [e, all_and, h]
  rfl
theorem shaped_okT (a : AV) : a.shaped = (decide (1 ≤ a.tk) && decide (a.tk ≤ 16) && decide (a.rk = a.tk) && codedB a.ctx && a.src.ok && (decide (a.ps.k ≤ 8) && pairsB a.ps) && T.all (okT a) a.tk) := by
  by_cases h : a.rk = a.tk
  · rw [okT_all h, Bool.eq_iff_iff, AV.shaped_iff]
    simp only [Bool.and_eq_true, decide_eq_true_eq]
    constructor
    · rintro ⟨⟨g1, g2⟩, g3, g4, g5, g6, g7, g8, g9⟩
      exact ⟨⟨⟨⟨⟨⟨g1, g2⟩, g8⟩, g4⟩, g5⟩, g6, g7⟩, g3, g9⟩
    · rintro ⟨⟨⟨⟨⟨⟨g1, g2⟩, g8⟩, g4⟩, g5⟩, g6, g7⟩, g3, g9⟩
      exact ⟨⟨g1, g2⟩, g3, g4, g5, g6, g7, g8, g9⟩
  · rw [decide_eq_false h, Bool.and_false, Bool.false_and, Bool.false_and, Bool.false_and, Bool.false_and]
    cases hh : a.shaped with
    | false => rfl
    | true => exact absurd (AV.shaped_iff.1 hh).2.2.2.2.2.2.1 h
set_option maxRecDepth 20000 in
set_option maxHeartbeats 2000000 in
theorem r15Shaped_any (a : AV) (hw : a.wf) (m : AA) (w : World) (h : AsL w anyQ a m) : Calls Tryz.prog 17 #[asbV a m] w (Ret (.bool a.shaped) w) := by
  obtain ⟨mt, mtc, mp, mpc, mr, mrc⟩ := m
  have HE := hid ((Mod.refl [] w).alloc (.cells (asbC a ⟨mt, mtc, mp, mpc, mr, mrc⟩) 29))
  have HB0 := hid (Blk.new w 29 (asbC a ⟨mt, mtc, mp, mpc, mr, mrc⟩))
  have HL := hid (h.ext HE.out)
  have HW := hid hw
  have HRES := hid (shaped_okT a)
  have tk0 : (a.tk : Int) < 4611686018427387904 := by have := hw.1.1; omega
  have rk0 : (a.rk : Int) < 4611686018427387904 := by have := hw.2.2.2.2.1; omega
  clear hw h
  go_enter Tryz.func17, Tryz.ntmps17
  go_upto_region 1 with fail
  generalize w.alloc (.cells (asbC a ⟨mt, mtc, mp, mpc, mr, mrc⟩) 29) = V at *
  have b0 : ∀ e : Later V, e.x.cell? ⟨w.heap.size, 0, none⟩ = some (.slice mt a.tk mtc) := HB0.out.cellL 0 rfl
  have b1 : ∀ e : Later V, e.x.cell? ⟨w.heap.size, 1, none⟩ = some (.int .i64 a.ctx) := HB0.out.cellL 1 rfl
  have b6 : ∀ e : Later V, e.x.cell? ⟨w.heap.size, 6, none⟩ = some (.slice mp a.ps.k mpc) := HB0.out.cellL 6 rfl
  have b7 : ∀ e : Later V, e.x.cell? ⟨w.heap.size, 7, none⟩ = some (.slice mr a.rk mrc) := HB0.out.cellL 7 rfl
  have HRE : Hid (∀ e : Later V, e.x.rangeAt w.heap.size 2 [.int .i64 a.src.sch, str a.src.name, .int .u64 (a.src.node : Int), .int .u64 (a.src.svc : Int)]) := HB0.out.range 2 4 (by rfl)
  have KE := hid (fun W => r10_any a.src W)
  have KP : Hid (∀ e : Later V, Calls Tryz.prog 35 #[.slice mp a.ps.k mpc, .int .i64 0, .int .i64 8] e.x (Ret (.bool (decide (a.ps.k ≤ 8) && pairsB a.ps)) e.x)) := hid (fun e => by
    have := r15pairs_any a.ps HW.out.2.2.2.1 0 8 (by decide) (by decide) mp mpc e.x (HL.out.p.ext e.h)
    rw [decide_eq_true (Nat.zero_le _), Bool.true_and] at this
    exact this)
  obtain ⟨e, he⟩ := Later.self V
  rw [he]
  clear he
  by_cases hc : a.tk < 1
  case pos =>
    have taa : decide (a.tk < 1) = true := decide_eq_true (by omega)
    have tab : (a.tk < 1) = True := eq_true (by omega)
    have tba : decide ((a.tk : Int) < 1) = true := decide_eq_true (by omega)
    have tbb : ((a.tk : Int) < 1) = True := eq_true (by omega)
    have HX : Hid (a.shaped = false) := hid (by rw [HRES.out]; rw [decide_eq_false (show ¬ 1 ≤ a.tk by omega)]; rfl)
    have tk1 : True := trivial
    go_wp2_with fail
    go_ret
    exact Ret.mk (by rw [HX.out]; rfl) (HE.out.trans e.h)
  have taa : decide (a.tk < 1) = false := decide_eq_false (by omega)
  have tab : (a.tk < 1) = False := eq_false (by omega)
  have tba : decide ((a.tk : Int) < 1) = false := decide_eq_false (by omega)
  have tbb : ((a.tk : Int) < 1) = False := eq_false (by omega)
  have H1 : Hid (1 ≤ a.tk) := hid (by omega)
  clear hc
  by_cases hc : 16 < a.tk
  case pos =>
    have tca : decide (16 < a.tk) = true := decide_eq_true (by omega)
    have tcb : (16 < a.tk) = True := eq_true (by omega)
    have tda : decide ((16 : Int) < (a.tk : Int)) = true := decide_eq_true (by omega)
    have tdb : ((16 : Int) < (a.tk : Int)) = True := eq_true (by omega)
    have HX : Hid (a.shaped = false) := hid (by rw [HRES.out]; rw [decide_eq_false (show ¬ a.tk ≤ 16 by omega), Bool.and_false]; rfl)
    have tk1 : True := trivial
    go_wp2_with fail
    go_ret
    exact Ret.mk (by rw [HX.out]; rfl) (HE.out.trans e.h)
  have tca : decide (16 < a.tk) = false := decide_eq_false (by omega)
  have tcb : (16 < a.tk) = False := eq_false (by omega)
  have tda : decide ((16 : Int) < (a.tk : Int)) = false := decide_eq_false (by omega)
  have tdb : ((16 : Int) < (a.tk : Int)) = False := eq_false (by omega)
  have H2 : Hid (a.tk ≤ 16) := hid (by omega)
  clear hc
  by_cases hc : a.rk ≠ a.tk
  case pos =>
    have tea : (((a.rk : Int)) == ((a.tk : Int))) = false := by rw [beq_eq_false_iff_ne]; omega
    have teb : (((a.rk : Int)) = ((a.tk : Int))) = False := eq_false (by omega)
    have tec : (((a.rk : Int)) != ((a.tk : Int))) = true := by rw [bne_iff_ne]; omega
    have tfa : ((a.rk) == (a.tk)) = false := by rw [beq_eq_false_iff_ne]; omega
    have tfb : ((a.rk) = (a.tk)) = False := eq_false (by omega)
    have tfc : ((a.rk) != (a.tk)) = true := by rw [bne_iff_ne]; omega
    have HX : Hid (a.shaped = false) := hid (by rw [HRES.out]; rw [decide_eq_false hc, Bool.and_false]; rfl)
    have tk1 : True := trivial
    go_wp2_with fail
    go_ret
    exact Ret.mk (by rw [HX.out]; rfl) (HE.out.trans e.h)
  have tea : (((a.rk : Int)) == ((a.tk : Int))) = true := by rw [beq_iff_eq]; omega
  have teb : (((a.rk : Int)) = ((a.tk : Int))) = True := eq_true (by omega)
  have tec : (((a.rk : Int)) != ((a.tk : Int))) = false := by rw [bne_eq_false_iff_eq]; omega
  have tfa : ((a.rk) == (a.tk)) = true := by rw [beq_iff_eq]; omega
  have tfb : ((a.rk) = (a.tk)) = True := eq_true (by omega)
  have tfc : ((a.rk) != (a.tk)) = false := by rw [bne_eq_false_iff_eq]; omega
  have H3 : Hid (a.rk = a.tk) := hid (by omega)
  clear hc
  by_cases hc : a.ctx < 0
  case pos =>
    have tga : decide (a.ctx < 0) = true := decide_eq_true (by omega)
    have tgb : (a.ctx < 0) = True := eq_true (by omega)
    have HX : Hid (a.shaped = false) := hid (by rw [HRES.out]; rw [show codedB a.ctx = false by (unfold codedB; rw [decide_eq_false (show ¬ 0 ≤ a.ctx by omega)]; rfl), Bool.and_false]; rfl)
    have tk1 : True := trivial
    go_wp2_with fail
    go_ret
    exact Ret.mk (by rw [HX.out]; rfl) (HE.out.trans e.h)
  have tga : decide (a.ctx < 0) = false := decide_eq_false (by omega)
  have tgb : (a.ctx < 0) = False := eq_false (by omega)
  have H4 : Hid (0 ≤ a.ctx) := hid (by omega)
  clear hc
  by_cases hc : 65535 < a.ctx
  case pos =>
    have tha : decide (65535 < a.ctx) = true := decide_eq_true (by omega)
    have thb : (65535 < a.ctx) = True := eq_true (by omega)
    have HX : Hid (a.shaped = false) := hid (by rw [HRES.out]; rw [show codedB a.ctx = false by (unfold codedB; rw [decide_eq_false (show ¬ a.ctx ≤ 65535 by omega), Bool.and_false]), Bool.and_false]; rfl)
    have tk1 : True := trivial
    go_wp2_with fail
    go_ret
    exact Ret.mk (by rw [HX.out]; rfl) (HE.out.trans e.h)
  have tha : decide (65535 < a.ctx) = false := decide_eq_false (by omega)
  have thb : (65535 < a.ctx) = False := eq_false (by omega)
  have H5 : Hid (codedB a.ctx = true) := hid (codedB_iff.2 ⟨H4.out, by omega⟩)
  clear hc
  cases hc : a.src.ok with
  | false =>
    rw [hc] at KE
    have HC := hid hc
    clear hc
    have HX : Hid (a.shaped = false) := hid (by rw [HRES.out]; rw [HC.out, Bool.and_false]; rfl)
    have tk1 : True := trivial
    go_wp2_with (first | (clear tk1; refine wpList_mid (by rfl) 25 _ rfl _ 2 rfl _ _ (HRE.out _) Tryz.underlying25 rfl (by kernel_rfl) ?_) | (go_at_call 34; refine (Ret.later (KE.out _)).mono ?_; rintro x _ ⟨rfl, e, rfl⟩))
    go_ret
    exact Ret.mk (by rw [HX.out]; rfl) (HE.out.trans e.h)
  | true =>
  rw [hc] at KE
  have H6 := hid hc
  clear hc
  cases hc : (decide (a.ps.k ≤ 8) && pairsB a.ps) with
  | false =>
    rw [hc] at KP
    have HC := hid hc
    clear hc
    have HX : Hid (a.shaped = false) := hid (by rw [HRES.out]; rw [HC.out, Bool.and_false]; rfl)
    have tk1 : True := trivial
    go_wp2_with (first | (clear tk1; refine wpList_mid (by rfl) 25 _ rfl _ 2 rfl _ _ (HRE.out _) Tryz.underlying25 rfl (by kernel_rfl) ?_) | (go_at_call 34; refine (Ret.later (KE.out _)).mono ?_; rintro x _ ⟨rfl, e, rfl⟩) | (go_at_call 35; refine (Ret.later (KP.out _)).mono ?_; rintro x _ ⟨rfl, e, rfl⟩))
    go_ret
    exact Ret.mk (by rw [HX.out]; rfl) (HE.out.trans e.h)
  | true =>
  rw [hc] at KP
  have H7 := hid hc
  clear hc
  have HFIN : Hid (a.shaped = T.all (okT a) a.tk) := hid (by rw [HRES.out, decide_eq_true H1.out, decide_eq_true H2.out, decide_eq_true H3.out, H5.out, H6.out, H7.out]; rfl)
  clear HRES
  have tk1 : True := trivial
  go_upto_region 5 with (first | (clear tk1; refine wpList_mid (by rfl) 25 _ rfl _ 2 rfl _ _ (HRE.out _) Tryz.underlying25 rfl (by kernel_rfl) ?_) | (go_at_call 34; refine (Ret.later (KE.out _)).mono ?_; rintro x _ ⟨rfl, e, rfl⟩) | (go_at_call 35; refine (Ret.later (KP.out _)).mono ?_; rintro x _ ⟨rfl, e, rfl⟩))
  clear KP KE
  go_loopw [4] (fun s4 wr => ∃ i : Nat, s4 = .int .i64 (i : Int) ∧ Hid (i ≤ a.tk ∧ T.all (okT a) i = true) ∧ ∃ e : Later V, wr = e.x) (fun s4 _ => a.tk - (intOf s4).toNat)
  case atStart => exact ⟨0, rfl, (show Hid _ from ⟨Nat.zero_le _, rfl⟩), e, rfl⟩
  case round =>
    clear e
    obtain ⟨i, rfl, hi, e, rfl⟩ := hrel
    have i0 : (0 : Int) ≤ (i : Int) := by omega
    by_cases hlt : i < a.tk
    · obtain ⟨bA, oA, hA, hbA, hcA⟩ := HL.out.t (by omega)
      have hA : mt = some ⟨bA, oA, none⟩ := hA
      subst hA
      obtain ⟨bR, oR, Ai, ci, hR, hbR, qR, hkR, hPR⟩ := HL.out.r.at (Mod.refl _ V) (i := i) (by have := H3.out; omega)
      have hR : mr = some ⟨bR, oR, none⟩ := hR
      subst hR
      have cA : ∀ e : Later V, e.x.cell? ⟨bA, oA + i, none⟩ = some (.int .i64 (a.tg i)) := fun e => (e.h.cell hbA (by simp)).trans (hcA i hlt)
      have cR : ∀ e : Later V, e.x.cell? ⟨bR, oR + i, none⟩ = some (.slice Ai (a.rs i).k ci) := fun e => cellL qR e
      have KQ : Hid (∀ e : Later V, Calls Tryz.prog 35 #[.slice Ai (a.rs i).k ci, .int .i64 1, .int .i64 4] e.x (Ret (.bool (resB (a.rs i))) e.x)) := hid (fun e => r15pairs_any (a.rs i) (HW.out.2.2.2.2.2 i (by have := H3.out; omega)) 1 4 (by decide) (by decide) Ai ci e.x (hPR.ext e.h))
      have HCA := hid (fun j (hj : j < a.tk) (e : Later V) => ((e.h.cell hbA (by simp)).trans (hcA j hj) : e.x.cell? ⟨bA, oA + j, none⟩ = some (.int .i64 (a.tg j))))
      have tc2 : decide (i < a.tk) = true := by simp [hlt]
      have i1 : (i : Int) < (a.tk : Int) := by omega
      have i2 : (i : Int) < (a.rk : Int) := by have := H3.out; omega
      have HLT := hid hlt
      clear hlt hcA hbA hPR hkR hbR qR
      by_cases hn : a.tg i < 0
      case pos =>
        have uaa : decide (a.tg i < 0) = true := decide_eq_true (by exact hn)
        have uab : (a.tg i < 0) = True := eq_true (by exact hn)
        have HC : Hid (codedB (a.tg i) = false) := hid (by unfold codedB; rw [decide_eq_false (show ¬ 0 ≤ a.tg i by omega)]; rfl)
        clear hn
        have HN := hid (all_no (f := okT a) HLT.out (by unfold okT; rw [HC.out]; rfl))
        have HX : Hid (a.shaped = false) := hid (by rw [HFIN.out, HN.out])
        clear HN
        go_wp2_with fail
        go_ret
        exact Ret.mk (by rw [HX.out]; rfl) (HE.out.trans e.h)
      have uaa : decide (a.tg i < 0) = false := decide_eq_false (by exact hn)
      have uab : (a.tg i < 0) = False := eq_false (by exact hn)
      by_cases hg : 65535 < a.tg i
      case pos =>
        have uba : decide (65535 < a.tg i) = true := decide_eq_true (by exact hg)
        have ubb : (65535 < a.tg i) = True := eq_true (by exact hg)
        have HC : Hid (codedB (a.tg i) = false) := hid (by unfold codedB; rw [decide_eq_false (show ¬ a.tg i ≤ 65535 by omega), Bool.and_false])
        clear hn hg
        have HN := hid (all_no (f := okT a) HLT.out (by unfold okT; rw [HC.out]; rfl))
        have HX : Hid (a.shaped = false) := hid (by rw [HFIN.out, HN.out])
        clear HN
        go_wp2_with fail
        go_ret
        exact Ret.mk (by rw [HX.out]; rfl) (HE.out.trans e.h)
      have uba : decide (65535 < a.tg i) = false := decide_eq_false (by exact hg)
      have ubb : (65535 < a.tg i) = False := eq_false (by exact hg)
      have HC : Hid (codedB (a.tg i) = true) := hid (codedB_iff.2 ⟨by omega, by omega⟩)
      clear hn hg
      cases hr : resB (a.rs i) with
      | false =>
        rw [hr] at KQ
        have HVB := hid hr
        clear hr
        have HN := hid (all_no (f := okT a) HLT.out (by unfold okT; rw [HVB.out, Bool.and_false]; rfl))
        have HX : Hid (a.shaped = false) := hid (by rw [HFIN.out, HN.out])
        clear HN
        go_wp2_with (first | (go_at_call 35; refine (Ret.later (KQ.out _)).mono ?_; rintro x _ ⟨rfl, e, rfl⟩))
        go_ret
        exact Ret.mk (by rw [HX.out]; rfl) (HE.out.trans e.h)
      | true =>
        rw [hr] at KQ
        have HVB := hid hr
        clear hr
        go_upto_region 10 with (first | (go_at_call 35; refine (Ret.later (KQ.out _)).mono ?_; rintro x _ ⟨rfl, e, rfl⟩))
        go_loopw [5] (fun s5 wr => ∃ j : Nat, s5 = .int .i64 (j : Int) ∧ Hid (j ≤ i ∧ ∀ x, x < j → a.tg x ≠ a.tg i) ∧ ∃ e : Later V, wr = e.x) (fun s5 _ => i - (intOf s5).toNat)
        case atStart => exact ⟨0, rfl, (show Hid _ from ⟨Nat.zero_le _, fun x hx => by omega⟩), e, rfl⟩
        case round =>
          clear e
          obtain ⟨j, rfl, hj, e, rfl⟩ := hrel
          have j0 : (0 : Int) ≤ (j : Int) := by omega
          by_cases hjt : j < i
          · have cJ := HCA.out j (Nat.lt_trans hjt HLT.out)
            have tj : decide (j < i) = true := by simp [hjt]
            have j1 : (j : Int) < (i : Int) := by omega
            have j2 : (j : Int) < (a.tk : Int) := by omega
            have HJT := hid hjt
            clear hjt
            by_cases hd : a.tg j = a.tg i
            · have HU : Hid (T.all (fun j => decide (a.tg j ≠ a.tg i)) i = false) := hid (all_no HJT.out (by simp [hd]))
              have waa : ((a.tg i) == (a.tg j)) = true := by rw [beq_iff_eq]; exact hd.symm
              have wab : ((a.tg i) = (a.tg j)) = True := eq_true (by exact hd.symm)
              have wac : ((a.tg i) != (a.tg j)) = false := by rw [bne_eq_false_iff_eq]; exact hd.symm
              clear hd
              go_upto_region 12 with fail
              refine wp_region_later (by kernel_rfl) (by kernel_rfl) ?_
              repeat (first | go_big_quiet_step (fail))
              refine wpQuiet_nil ?_
              rintro _ ⟨e, rfl⟩
              have HN := hid (all_no (f := okT a) HLT.out (by unfold okT; rw [HU.out, Bool.and_false]))
              have HX : Hid (a.shaped = false) := hid (by rw [HFIN.out, HN.out])
              clear HN
              go_wp2_with fail
              go_ret
              exact Ret.mk (by rw [HX.out]; rfl) (HE.out.trans e.h)
            · have HD := hid hd
              have waa : ((a.tg i) == (a.tg j)) = false := by rw [beq_eq_false_iff_ne]; exact fun h => hd h.symm
              have wab : ((a.tg i) = (a.tg j)) = False := eq_false (by exact fun h => hd h.symm)
              have wac : ((a.tg i) != (a.tg j)) = true := by rw [bne_iff_ne]; exact fun h => hd h.symm
              clear hd
              go_upto_region 12 with fail
              refine wp_region_later (by kernel_rfl) (by kernel_rfl) ?_
              repeat (first | go_big_quiet_step (fail))
              refine wpQuiet_nil ?_
              rintro _ ⟨e, rfl⟩
              go_wp2_with fail
              go_roundw
              case rel => exact ⟨j + 1, by go_num, (show Hid _ from ⟨HJT.out, fun x hx => by
                by_cases e : x = j
                · subst e; exact HD.out
                · exact hj.out.2 x (by omega)⟩), e, rfl⟩
              case measure => have := HJT.out; simp [intOf]; omega
          · have hij : j = i := by have := hj.out.1; omega
            subst hij
            have tj : decide (j < j) = false := by simp
            have HU : Hid (T.all (fun x => decide (a.tg x ≠ a.tg j)) j = true) := hid (T.all_iff.2 fun x hx => by simpa using hj.out.2 x hx)
            have HOK : Hid (okT a j = true) := hid (by unfold okT; rw [HC.out, HVB.out, HU.out]; rfl)
            go_wp2_with fail
            go_roundw
            case rel => exact ⟨j + 1, by go_num, (show Hid _ from ⟨HLT.out, by rw [T.all, hi.out.2, HOK.out]; rfl⟩), e, rfl⟩
            case measure => have := HLT.out; simp [intOf]; omega
    · have hik : i = a.tk := by have := hi.out.1; omega
      subst hik
      have tc2 : decide (a.tk < a.tk) = false := by simp
      have HX : Hid (a.shaped = true) := hid (by rw [HFIN.out, hi.out.2])
      go_wp2_with fail
      go_ret
      exact Ret.mk (by rw [HX.out]; rfl) (HE.out.trans e.h)
end Go.Proofs.YtblfmokklfhklaaGreatDoor


namespace Go.Proofs.YtblfmokklfhklaaGreatDoor
open Go.RowKit
set_option linter.unusedVariables false
set_option linter.unusedSimpArgs false

theorem cell_row8 (w : World) (l : List UInt8) (cap t : Nat) (fz : Nat × Nat) (j : Nat) (h : j < l.length) :
    (w.alloc (.cells (bytesRow ⟨l.toArray⟩ cap) t fz)).cell? ⟨w.heap.size, j, none⟩ = some (.int .u8 (l[j].toNat : Int)) := by
  rw [World.cell?_alloc_mark]
  simp only [bytesRow]
  rw [Array.getElem?_append_left (by simpa using h)]
  simp [h]
theorem Crc.stepC_lt {p s m : Nat} (hp : p < 2 ^ m) (hs : s < 2 ^ m) : Crc.stepC p s < 2 ^ m := by
  unfold Crc.stepC
  split
  · exact Nat.xor_lt_two_pow (by omega) hp
  · omega
theorem Crc.stepsC_lt {p m : Nat} (hp : p < 2 ^ m) : ∀ (k s : Nat), s < 2 ^ m → Crc.stepsC p k s < 2 ^ m
  | 0, s, h => h
  | k + 1, s, h => Crc.stepsC_lt hp k _ (Crc.stepC_lt hp h)
theorem Crc.divC_lt {p m : Nat} (hp : p < 2 ^ m) : ∀ (l : List UInt8) (s : Nat), s < 2 ^ m → 8 ≤ m → Crc.divC p s l < 2 ^ m
  | [], s, h, _ => h
  | c :: l, s, h, h8 => by
    have hc : c.toNat < 2 ^ m := Nat.lt_of_lt_of_le c.toNat_lt (Nat.pow_le_pow_right (by omega) h8)
    have := Crc.divC_lt hp l (Crc.stepsC p 8 (s ^^^ c.toNat)) (Crc.stepsC_lt hp 8 _ (Nat.xor_lt_two_pow h hc)) h8
    exact this

theorem and1_16 {s : Nat} (hs : s < 65536) : bits .and .u16 (s : Int) 1 = ((s % 2 : Nat) : Int) := by
  have := u16_and_nat s 1 hs (by omega)
  rw [Nat.and_one_is_mod] at this
  exact this
theorem xor_16 {s c : Nat} (hs : s < 65536) (hc : c < 65536) : bits .xor .u16 (s : Int) (c : Int) = ((s ^^^ c : Nat) : Int) := u16_xor_nat s c hs hc

theorem and1_32 {s : Nat} (hs : s < 4294967296) : bits .and .u32 (s : Int) 1 = ((s % 2 : Nat) : Int) := by
  have := u32_and_nat s 1 hs (by omega)
  rw [Nat.and_one_is_mod] at this
  exact this
theorem xor_32 {s c : Nat} (hs : s < 4294967296) (hc : c < 4294967296) : bits .xor .u32 (s : Int) (c : Int) = ((s ^^^ c : Nat) : Int) := u32_xor_nat s c hs hc

end Go.Proofs.YtblfmokklfhklaaGreatDoor


namespace Go.Proofs.YtblfmokklfhklaaGreatDoor
open Go.RowKit
set_option linter.unusedVariables false
set_option linter.unusedSimpArgs false

def Crc.x25 (l : List UInt8) : Nat := 65535 - Crc.divC 33800 65535 l
def Crc.cast (l : List UInt8) : Nat := 4294967295 - Crc.divC 2197175160 4294967295 l
def Crc.sumL (kind : Nat) (l : List UInt8) : List UInt8 := if kind = 1 then be (Crc.x25 l) 2 else if kind = 2 then be (Crc.cast l) 4 else []

theorem be2 {n : Nat} (h : n < 65536) : be n 2 = [b8 (n / 256), b8 (n % 256)] := by
  have e : n / 256 % 256 = n / 256 := by omega
  rw [be_succ, be_succ, be_zero]
  simp [e]
theorem be4 {n : Nat} (h : n < 4294967296) : be n 4 = [b8 (n / 16777216), b8 (n / 65536 % 256), b8 (n / 256 % 256), b8 (n % 256)] := by
  have e : n / 16777216 % 256 = n / 16777216 := by omega
  rw [be_succ, be_succ, be_succ, be_succ, be_zero]
  simp [e]
theorem b8_cast {n : Nat} (h : n < 256) : ((b8 n).toNat : Int) = (n : Int) := by
  simp [b8]
  omega
/-- Bytes laid in a new block, as a string. -/
theorem conv_new (l : List UInt8) (c : Nat) (W : World) : (convert 82 9 (.slice (some ⟨W.heap.size, 0, none⟩) l.length c)).run Tryz.prog (W.alloc (.cells (l.map fun b => Value.int .u8 (b.toNat : Int)).toArray 5)) = .ok (str l) (W.alloc (.cells (l.map fun b => Value.int .u8 (b.toNat : Int)).toArray 5)) := by
  refine run_convert_bytes_back (P := Tryz.prog) _ 82 9 5 _ c l Tryz.underlying82 Tryz.underlying5 Tryz.underlying9 (fun j hj => ?_)
  rw [addr_add, Nat.zero_add, (Blk.new W 5 _).cell j]
  simp [hj]
theorem Crc.sumL_length {k : Nat} (h1 : 1 ≤ k) (h2 : k ≤ 2) (l : List UInt8) : (Crc.sumL k l).length = 2 * k := by
  have : k = 1 ∨ k = 2 := by omega
  rcases this with rfl | rfl
  · exact be_length _ _
  · exact be_length _ _
end Go.Proofs.YtblfmokklfhklaaGreatDoor


namespace Go.Proofs.YtblfmokklfhklaaGreatDoor
open Go.RowKit
set_option linter.unusedVariables false
set_option linter.unusedSimpArgs false

theorem Crc.rv_succ : ∀ (i n : Nat), Crc.rv (i + 1) n = 2 * Crc.rv i n + n / 2 ^ i % 2
  | 0, n => by simp [Crc.rv]
  | i + 1, n => by
    have h := Crc.rv_succ i (n / 2)
    have e : n / 2 / 2 ^ i = n / 2 ^ (i + 1) := by rw [Nat.div_div_eq_div_mul, Nat.pow_succ, Nat.mul_comm]
    have e2 : 2 ^ (i + 1) * (n % 2) = 2 * (2 ^ i * (n % 2)) := by rw [Nat.pow_succ, Nat.mul_comm (2 ^ i) 2, Nat.mul_assoc]
    have e3 : Crc.rv (i + 1 + 1) n = 2 ^ (i + 1) * (n % 2) + Crc.rv (i + 1) (n / 2) := rfl
    have e4 : Crc.rv (i + 1) n = 2 ^ i * (n % 2) + Crc.rv i (n / 2) := rfl
    rw [e3, h, e4, e, e2]
    omega

def Crc.tab : List Nat := [28, 27, 26, 25, 23, 22, 20, 19, 18, 14, 13, 11, 10, 9, 8, 6, 0]
def Crc.dv (j : Nat) : Nat := ((Crc.tab.take j).map (2 ^ ·)).sum
theorem Crc.dv_succ : ∀ j : Fin 17, Crc.dv (j.val + 1) = Crc.dv j.val + 2 ^ (Crc.tab.getD j.val 0) ∧ Crc.dv j.val ≤ 517762881 ∧ Crc.tab.getD j.val 0 ≤ 28 := by decide
end Go.Proofs.YtblfmokklfhklaaGreatDoor


namespace Go.Proofs.YtblfmokklfhklaaGreatDoor
open Go.RowKit
set_option linter.unusedVariables false
set_option linter.unusedSimpArgs false

theorem Crc.stepR_lt {m d r b : Nat} (hd : d < 2 ^ m) : Crc.stepR (2 ^ m) d r b < 2 ^ m := by
  have := Nat.mod_lt (r * 2) (Nat.two_pow_pos m)
  unfold Crc.stepR
  split
  · exact this
  · exact Nat.xor_lt_two_pow this hd

theorem Crc.x_16 (l : List UInt8) : Crc.rv 16 (65535 - Crc.divR 65536 4129 65535 l) = Crc.x25 l := Crc.sums (m := 15) (p := 33800) (by decide) l
theorem Crc.r_16 {r c : Nat} : Crc.stepR 65536 4129 r c = if r / 32768 = c then r * 2 % 65536 else (r * 2 % 65536) ^^^ 4129 := rfl
theorem Crc.x_32 (l : List UInt8) : Crc.rv 32 (4294967295 - Crc.divR 4294967296 517762881 4294967295 l) = Crc.cast l := Crc.sums (m := 31) (p := 2197175160) (by decide) l
theorem Crc.r_32 {r c : Nat} : Crc.stepR 4294967296 517762881 r c = if r / 2147483648 = c then r * 2 % 4294967296 else (r * 2 % 4294967296) ^^^ 517762881 := rfl
end Go.Proofs.YtblfmokklfhklaaGreatDoor


namespace Go.Proofs.YtblfmokklfhklaaGreatDoor
open Go.RowKit
set_option linter.unusedVariables false
set_option linter.unusedSimpArgs false

end Go.Proofs.YtblfmokklfhklaaGreatDoor
