/-
  Security texts: the reference's comparing, of texts that agree; where a target is.
  Security texts: shaped.
  Security texts: pairs' item.
  Primaries: their items, made.
  Security texts: their items.
-/
import Derived.Test.YtogjghmoankleaaMAsbOwne
import Derived.Deep.AppendLies
import Derived.Deep.RegionLaw

namespace Go.Proofs.Ytogjghmoankleaa
open Go.RowKit
set_option linter.unusedVariables false
set_option linter.unusedSimpArgs false

theorem At5.range {w : World} {b o : Nat} {t : T} {A : Option Addr} {c : Nat} (h : At5 w b o t A c) : w.rangeAt b o [.int .i64 t.kind, .int .u64 (t.n : Int), str t.s, .slice A t.k c, .bool t.op] := fun j v hj => by
  match j, hj with
  | 0, hj => simp at hj; subst hj; exact h.1
  | 1, hj => simp at hj; subst hj; exact h.2.1
  | 2, hj => simp at hj; subst hj; exact h.2.2.1
  | 3, hj => simp at hj; subst hj; exact h.2.2.2.1
  | 4, hj => simp at hj; subst hj; exact h.2.2.2.2
set_option maxRecDepth 20000 in
set_option maxHeartbeats 8000000 in
theorem SameItem_eq (t : T) : t.ok → ∀ A c B d w, IsL w anyQ t A → IsL w anyQ t B → Calls Try.prog 45 #[itemV t A c, itemV t B d] w (Ret (.bool true) w) := by
  induction t with
  | nil => intro h; cases h
  | mk kind n s op k ch ih =>
    intro hok A c B d w hA hB
    have HOK := hid (fun i (hi : i < k) => (by unfold T.ok at hok; exact hok.2.2.2.2 i hi : (ch i).ok))
    have HI := hid ih
    have k0 : (k : Int) < 4611686018427387904 := by unfold T.ok at hok; omega
    have HE := hid (((Mod.refl [] w).alloc (.cells (itemC (T.mk kind n s op k ch) A c) 38)).alloc (.cells (itemC (T.mk kind n s op k ch) B d) 38))
    have HB0 := hid ((Blk.new w 38 (itemC (T.mk kind n s op k ch) A c)).alloc (.cells (itemC (T.mk kind n s op k ch) B d) 38))
    have HB1 : Hid (Blk ((w.alloc (.cells (itemC (T.mk kind n s op k ch) A c) 38)).alloc (.cells (itemC (T.mk kind n s op k ch) B d) 38)) (w.heap.size + 1) 38 (itemC (T.mk kind n s op k ch) B d)) := Blk.newL _ _ _ (by simp)
    have HA := hid (hA.ext HE.out)
    have HB := hid (hB.ext HE.out)
    clear hok hA hB ih
    go_enter Try.func45, Try.ntmps45
    go_upto_region 1 with fail
    generalize ((w.alloc (.cells (itemC (T.mk kind n s op k ch) A c) 38)).alloc (.cells (itemC (T.mk kind n s op k ch) B d) 38)) = V at *
    have a0 : ∀ e : Later V, e.x.cell? ⟨w.heap.size, 0, none⟩ = some (.int .i64 kind) := HB0.out.cellL 0 rfl
    have a1 : ∀ e : Later V, e.x.cell? ⟨w.heap.size, 1, none⟩ = some (.int .u64 (n : Int)) := HB0.out.cellL 1 rfl
    have a2 : ∀ e : Later V, e.x.cell? ⟨w.heap.size, 2, none⟩ = some (str s) := HB0.out.cellL 2 rfl
    have a3 : ∀ e : Later V, e.x.cell? ⟨w.heap.size, 3, none⟩ = some (.slice A k c) := HB0.out.cellL 3 rfl
    have a4 : ∀ e : Later V, e.x.cell? ⟨w.heap.size, 4, none⟩ = some (.bool op) := HB0.out.cellL 4 rfl
    have b0 : ∀ e : Later V, e.x.cell? ⟨w.heap.size + 1, 0, none⟩ = some (.int .i64 kind) := HB1.out.cellL 0 rfl
    have b1 : ∀ e : Later V, e.x.cell? ⟨w.heap.size + 1, 1, none⟩ = some (.int .u64 (n : Int)) := HB1.out.cellL 1 rfl
    have b2 : ∀ e : Later V, e.x.cell? ⟨w.heap.size + 1, 2, none⟩ = some (str s) := HB1.out.cellL 2 rfl
    have b3 : ∀ e : Later V, e.x.cell? ⟨w.heap.size + 1, 3, none⟩ = some (.slice B k d) := HB1.out.cellL 3 rfl
    have b4 : ∀ e : Later V, e.x.cell? ⟨w.heap.size + 1, 4, none⟩ = some (.bool op) := HB1.out.cellL 4 rfl
    obtain ⟨e, he⟩ := Later.self V
    rw [he]
    clear he
    go_upto_region 4 with fail
    go_loopw [5] (fun s5 wr => ∃ i : Nat, s5 = .int .i64 (i : Int) ∧ Hid (i ≤ k) ∧ ∃ e : Later V, wr = e.x) (fun s5 _ => k - (intOf s5).toNat)
    case atStart => exact ⟨0, rfl, (show Hid _ from Nat.zero_le _), e, rfl⟩
    case round =>
      clear e
      obtain ⟨i, rfl, hi, e, rfl⟩ := hrel
      have i0 : (0 : Int) ≤ (i : Int) := by omega
      by_cases hlt : i < k
      · obtain ⟨bA, oA, Ai, ci, rfl, hbA, qA, hIA⟩ := IsL.cells (W := V) (i := i) HA.out (Mod.refl _ _) hlt
        obtain ⟨bB, oB, Bi, di, rfl, hbB, qB, hIB⟩ := IsL.cells (W := V) (i := i) HB.out (Mod.refl _ _) hlt
        have RA : Hid (∀ e : Later V, e.x.rangeAt bA (oA + i * 5) _) := hid (fun e => (qA.mod e.h hbA (by simp)).range)
        have RB : Hid (∀ e : Later V, e.x.rangeAt bB (oB + i * 5) _) := hid (fun e => (qB.mod e.h hbB (by simp)).range)
        have KS := hid (fun e : Later V => HI.out i (HOK.out i hlt) Ai ci Bi di e.x (hIA.ext e.h) (hIB.ext e.h))
        have tc : decide (i < k) = true := by simp [hlt]
        have i1 : (i : Int) < (k : Int) := by omega
        have HLT := hid hlt
        clear hlt qA qB hIA hIB hbA hbB HI
        go_upto_region 6 with fail
        refine wp_region_later (by kernel_rfl) (by kernel_rfl) ?_
        repeat (first | (refine later_mid (by rfl) 38 _ rfl _ _ rfl _ _ RA.out Try.underlying38 rfl (by kernel_rfl) ?_; simp only [Act.put, List.setIfInBounds_toArray, List.set_cons_zero, List.set_cons_succ]) | (refine later_mid (by rfl) 38 _ rfl _ _ rfl _ _ RB.out Try.underlying38 rfl (by kernel_rfl) ?_; simp only [Act.put, List.setIfInBounds_toArray, List.set_cons_zero, List.set_cons_succ]) | go_big_quiet_step ((first | (go_at_call 45; exact Ret.later (KS.out _)))))
        refine wpQuiet_nil ?_
        rintro _ ⟨e, rfl⟩
        go_wp2_with fail
        go_roundw
        case rel => exact ⟨i + 1, by go_num, (show Hid _ from HLT.out), e, rfl⟩
        case measure => have := HLT.out; simp [intOf]; omega
      · obtain rfl : i = k := by have := hi.out; omega
        have tc : decide (i < i) = false := by simp
        go_wp2_with fail
        go_ret
        exact Ret.mk rfl (HE.out.trans e.h)
set_option maxRecDepth 20000 in
set_option maxHeartbeats 8000000 in
theorem SamePairs_eq (p : PL) (hw : p.wf) (A B : Option Addr) (c d : Nat) (w : World) (hA : PsL w anyQ A p) (hB : PsL w anyQ B p) : Calls Try.prog 18 #[.slice A p.k c, .slice B p.k d] w (Ret (.bool true) w) := by
  have HA := hid hA
  have HB := hid hB
  have HW := hid hw
  have k0 : (p.k : Int) < 4611686018427387904 := by have := hw.1; omega
  clear hA hB hw
  obtain ⟨e, he⟩ := Later.self w
  go_enter Try.func18, Try.ntmps18
  go_upto_region 4 with fail
  go_loopw [5] (fun s5 wr => ∃ i : Nat, s5 = .int .i64 (i : Int) ∧ Hid (i ≤ p.k) ∧ ∃ e : Later w, wr = e.x) (fun s5 _ => p.k - (intOf s5).toNat)
  case atStart => exact ⟨0, rfl, (show Hid _ from Nat.zero_le _), e, (by first | exact he | rfl)⟩
  case round =>
    clear he e
    obtain ⟨i, rfl, hi, e, rfl⟩ := hrel
    have i0 : (0 : Int) ≤ (i : Int) := by omega
    by_cases hlt : i < p.k
    · obtain ⟨bA, oA, Ai, ci, rfl, hbA, qA, hIA⟩ := HA.out.at (Mod.refl _ w) hlt
      obtain ⟨bB, oB, Bi, di, rfl, hbB, qB, hIB⟩ := HB.out.at (Mod.refl _ w) hlt
      have RA : Hid (∀ e : Later w, e.x.rangeAt bA (oA + i * 6 + 1) _) := hid (fun e => (qA.mod e.h hbA (by simp)).five.range)
      have RB : Hid (∀ e : Later w, e.x.rangeAt bB (oB + i * 6 + 1) _) := hid (fun e => (qB.mod e.h hbB (by simp)).five.range)
      have cA : ∀ e : Later w, e.x.cell? ⟨bA, oA + i * 6, none⟩ = some (.int .i64 (p.a i).id) := fun e => (qA.mod e.h hbA (by simp)).1
      have cB : ∀ e : Later w, e.x.cell? ⟨bB, oB + i * 6, none⟩ = some (.int .i64 (p.a i).id) := fun e => (qB.mod e.h hbB (by simp)).1
      have KS := hid (fun e : Later w => SameItem_eq (p.a i).t (HW.out.2 i hlt).1 Ai ci Bi di e.x (hIA.ext e.h) (hIB.ext e.h))
      have tc : decide (i < p.k) = true := by simp [hlt]
      have i1 : (i : Int) < (p.k : Int) := by omega
      have HLT := hid hlt
      clear hlt qA qB hIA hIB hbA hbB
      go_upto_region 6 with fail
      refine wp_region_later (by kernel_rfl) (by kernel_rfl) ?_
      repeat (first | (refine later_mid (by rfl) 38 _ rfl _ _ rfl _ _ RA.out Try.underlying38 rfl (by kernel_rfl) ?_; simp only [Act.put, List.setIfInBounds_toArray, List.set_cons_zero, List.set_cons_succ]) | (refine later_mid (by rfl) 38 _ rfl _ _ rfl _ _ RB.out Try.underlying38 rfl (by kernel_rfl) ?_; simp only [Act.put, List.setIfInBounds_toArray, List.set_cons_zero, List.set_cons_succ]) | go_big_quiet_step ((first | (go_at_call 45; exact Ret.later (KS.out _)))))
      refine wpQuiet_nil ?_
      rintro _ ⟨e, rfl⟩
      go_wp2_with fail
      go_roundw
      case rel => exact ⟨i + 1, by go_num, (show Hid _ from HLT.out), e, rfl⟩
      case measure => have := HLT.out; simp [intOf]; omega
    · have hik : i = p.k := by have := hi.out; omega
      subst hik
      have tc : decide (p.k < p.k) = false := by simp
      go_wp2_with fail
      go_ret
      exact Ret.mk rfl e.h
set_option maxRecDepth 20000 in
set_option maxHeartbeats 16000000 in
theorem Same15_eq (a : AV) (hw : a.wf) (m1 m2 : AA) (w : World) (h1 : AsL w anyQ a m1) (h2 : AsL w anyQ a m2) : Calls Try.prog 17 #[asbV a m1, asbV a m2] w (Ret (.bool true) w) := by
  obtain ⟨at1, tc1, ap1, pc1, ar1, rc1⟩ := m1
  obtain ⟨at2, tc2, ap2, pc2, ar2, rc2⟩ := m2
  have HE := hid (((Mod.refl [] w).alloc (.cells (asbC a ⟨at1, tc1, ap1, pc1, ar1, rc1⟩) 29)).alloc (.cells (asbC a ⟨at2, tc2, ap2, pc2, ar2, rc2⟩) 29))
  have HB0 := hid ((Blk.new w 29 (asbC a ⟨at1, tc1, ap1, pc1, ar1, rc1⟩)).alloc (.cells (asbC a ⟨at2, tc2, ap2, pc2, ar2, rc2⟩) 29))
  have HB1 : Hid (Blk ((w.alloc (.cells (asbC a ⟨at1, tc1, ap1, pc1, ar1, rc1⟩) 29)).alloc (.cells (asbC a ⟨at2, tc2, ap2, pc2, ar2, rc2⟩) 29)) (w.heap.size + 1) 29 (asbC a ⟨at2, tc2, ap2, pc2, ar2, rc2⟩)) := Blk.newL _ _ _ (by simp)
  have HA := hid (h1.ext HE.out)
  have HB := hid (h2.ext HE.out)
  have HW := hid hw
  have tk0 : (a.tk : Int) < 4611686018427387904 := by have := hw.1.1; omega
  have rk0 : (a.rk : Int) < 4611686018427387904 := by have := hw.2.2.2.2.1; omega
  clear h1 h2 hw
  go_enter Try.func17, Try.ntmps17
  go_upto_region 1 with fail
  generalize ((w.alloc (.cells (asbC a ⟨at1, tc1, ap1, pc1, ar1, rc1⟩) 29)).alloc (.cells (asbC a ⟨at2, tc2, ap2, pc2, ar2, rc2⟩) 29)) = V at *
  have a0 : ∀ e : Later V, e.x.cell? ⟨w.heap.size, 0, none⟩ = some (.slice at1 a.tk tc1) := HB0.out.cellL 0 rfl
  have a1 : ∀ e : Later V, e.x.cell? ⟨w.heap.size, 1, none⟩ = some (.int .i64 a.ctx) := HB0.out.cellL 1 rfl
  have a6 : ∀ e : Later V, e.x.cell? ⟨w.heap.size, 6, none⟩ = some (.slice ap1 a.ps.k pc1) := HB0.out.cellL 6 rfl
  have a7 : ∀ e : Later V, e.x.cell? ⟨w.heap.size, 7, none⟩ = some (.slice ar1 a.rk rc1) := HB0.out.cellL 7 rfl
  have Ra : Hid (∀ e : Later V, e.x.rangeAt (w.heap.size) 2 [.int .i64 a.src.sch, str a.src.name, .int .u64 (a.src.node : Int), .int .u64 (a.src.svc : Int)]) := HB0.out.range 2 4 (by rfl)
  have b0 : ∀ e : Later V, e.x.cell? ⟨w.heap.size + 1, 0, none⟩ = some (.slice at2 a.tk tc2) := HB1.out.cellL 0 rfl
  have b1 : ∀ e : Later V, e.x.cell? ⟨w.heap.size + 1, 1, none⟩ = some (.int .i64 a.ctx) := HB1.out.cellL 1 rfl
  have b6 : ∀ e : Later V, e.x.cell? ⟨w.heap.size + 1, 6, none⟩ = some (.slice ap2 a.ps.k pc2) := HB1.out.cellL 6 rfl
  have b7 : ∀ e : Later V, e.x.cell? ⟨w.heap.size + 1, 7, none⟩ = some (.slice ar2 a.rk rc2) := HB1.out.cellL 7 rfl
  have Rb : Hid (∀ e : Later V, e.x.rangeAt (w.heap.size + 1) 2 [.int .i64 a.src.sch, str a.src.name, .int .u64 (a.src.node : Int), .int .u64 (a.src.svc : Int)]) := HB1.out.range 2 4 (by rfl)
  have KP := hid (fun e : Later V => SamePairs_eq a.ps HW.out.2.2.2.1 ap1 ap2 pc1 pc2 e.x (HA.out.p.ext e.h) (HB.out.p.ext e.h))
  obtain ⟨e, he⟩ := Later.self V
  rw [he]
  clear he
  have tk1 : True := trivial
  have tk2 : True := trivial
  go_upto_region 4 with (first | (clear tk1; refine wpList_mid (by rfl) 26 _ rfl (w.heap.size) 2 rfl _ _ (Ra.out _) Try.underlying26 rfl (by kernel_rfl) ?_) | (clear tk2; refine wpList_mid (by rfl) 26 _ rfl (w.heap.size + 1) 2 rfl _ _ (Rb.out _) Try.underlying26 rfl (by kernel_rfl) ?_) | (go_at_call 18; refine (Ret.later (KP.out _)).mono ?_; rintro x _ ⟨rfl, e, rfl⟩))
  go_loopw [5] (fun s5 wr => ∃ i : Nat, s5 = .int .i64 (i : Int) ∧ Hid (i ≤ a.tk) ∧ ∃ e : Later V, wr = e.x) (fun s5 _ => a.tk - (intOf s5).toNat)
  case atStart => exact ⟨0, rfl, (show Hid _ from Nat.zero_le _), e, rfl⟩
  case round =>
    clear e
    obtain ⟨i, rfl, hi, e, rfl⟩ := hrel
    have i0 : (0 : Int) ≤ (i : Int) := by omega
    by_cases hlt : i < a.tk
    · obtain ⟨bA, oA, hA, hbA, hcA⟩ := HA.out.t (by omega)
      obtain ⟨bB, oB, hB, hbB, hcB⟩ := HB.out.t (by omega)
      have hA : at1 = some ⟨bA, oA, none⟩ := hA
      have hB : at2 = some ⟨bB, oB, none⟩ := hB
      subst hA hB
      have cA : ∀ e : Later V, e.x.cell? ⟨bA, oA + i, none⟩ = some (.int .i64 (a.tg i)) := fun e => (e.h.cell hbA (by simp)).trans (hcA i hlt)
      have cB : ∀ e : Later V, e.x.cell? ⟨bB, oB + i, none⟩ = some (.int .i64 (a.tg i)) := fun e => (e.h.cell hbB (by simp)).trans (hcB i hlt)
      have tc : decide (i < a.tk) = true := by simp [hlt]
      have i1 : (i : Int) < (a.tk : Int) := by omega
      have HLT := hid hlt
      clear hlt hcA hcB hbA hbB
      go_upto_region 6 with fail
      refine wp_region_later (by kernel_rfl) (by kernel_rfl) ?_
      repeat (first | go_big_quiet_step (fail))
      refine wpQuiet_nil ?_
      rintro _ ⟨e, rfl⟩
      go_wp2_with fail
      go_roundw
      case rel => exact ⟨i + 1, by go_num, (show Hid _ from HLT.out), e, rfl⟩
      case measure => have := HLT.out; simp [intOf]; omega
    · have hik : i = a.tk := by have := hi.out; omega
      subst hik
      have tc : decide (a.tk < a.tk) = false := by simp
      go_upto_region 9 with fail
      go_loopw [6] (fun s6 wr => ∃ i : Nat, s6 = .int .i64 (i : Int) ∧ Hid (i ≤ a.rk) ∧ ∃ e : Later V, wr = e.x) (fun s6 _ => a.rk - (intOf s6).toNat)
      case atStart => exact ⟨0, rfl, (show Hid _ from Nat.zero_le _), e, rfl⟩
      case round =>
        clear e
        obtain ⟨i, rfl, hi, e, rfl⟩ := hrel
        have i0 : (0 : Int) ≤ (i : Int) := by omega
        by_cases hlt : i < a.rk
        · obtain ⟨bA, oA, Ai, ci, hA, hbA, qA, hkA, hPA⟩ := HA.out.r.at (Mod.refl _ V) hlt
          obtain ⟨bB, oB, Bi, di, hB, hbB, qB, hkB, hPB⟩ := HB.out.r.at (Mod.refl _ V) hlt
          have hA : ar1 = some ⟨bA, oA, none⟩ := hA
          have hB : ar2 = some ⟨bB, oB, none⟩ := hB
          subst hA hB
          have cA : ∀ e : Later V, e.x.cell? ⟨bA, oA + i, none⟩ = some (.slice Ai (a.rs i).k ci) := fun e => cellL qA e
          have cB : ∀ e : Later V, e.x.cell? ⟨bB, oB + i, none⟩ = some (.slice Bi (a.rs i).k di) := fun e => cellL qB e
          have KS := hid (fun e : Later V => SamePairs_eq (a.rs i) (HW.out.2.2.2.2.2 i hlt) Ai Bi ci di e.x (hPA.ext e.h) (hPB.ext e.h))
          have tc : decide (i < a.rk) = true := by simp [hlt]
          have i1 : (i : Int) < (a.rk : Int) := by omega
          have HLT := hid hlt
          clear hlt qA qB hPA hPB hbA hbB hkA hkB
          go_upto_region 11 with fail
          refine wp_region_later (by kernel_rfl) (by kernel_rfl) ?_
          repeat (first | go_big_quiet_step ((first | (go_at_call 18; exact Ret.later (KS.out _)))))
          refine wpQuiet_nil ?_
          rintro _ ⟨e, rfl⟩
          go_wp2_with fail
          go_roundw
          case rel => exact ⟨i + 1, by go_num, (show Hid _ from HLT.out), e, rfl⟩
          case measure => have := HLT.out; simp [intOf]; omega
        · have hik : i = a.rk := by have := hi.out; omega
          subst hik
          have tc : decide (a.rk < a.rk) = false := by simp
          go_wp2_with fail
          go_ret
          exact Ret.mk rfl (HE.out.trans e.h)
set_option maxRecDepth 20000 in
set_option maxHeartbeats 4000000 in
theorem r15At_any (a : AV) (hw : a.wf) (t : Int) (m : AA) (w : World) (h : AsL w anyQ a m) : Calls Try.prog 14 #[asbV a m, .int .i64 t] w (Ret (.int .i64 (firstI (isN a.tg t) a.tk)) w) := by
  obtain ⟨mt, mtc, mp, mpc, mr, mrc⟩ := m
  have HE := hid ((Mod.refl [] w).alloc (.cells (asbC a ⟨mt, mtc, mp, mpc, mr, mrc⟩) 29))
  have HB0 := hid (Blk.new w 29 (asbC a ⟨mt, mtc, mp, mpc, mr, mrc⟩))
  have HL := hid (h.ext HE.out)
  have tk0 : (a.tk : Int) < 4611686018427387904 := by have := hw.1.1; omega
  clear hw h
  go_enter Try.func14, Try.ntmps14
  go_upto_region 1 with fail
  generalize w.alloc (.cells (asbC a ⟨mt, mtc, mp, mpc, mr, mrc⟩) 29) = V at *
  have b0 : ∀ e : Later V, e.x.cell? ⟨w.heap.size, 0, none⟩ = some (.slice mt a.tk mtc) := HB0.out.cellL 0 rfl
  obtain ⟨e, he⟩ := Later.self V
  rw [he]
  clear he
  go_upto_region 2 with fail
  go_loopw [5] (fun s5 wr => ∃ i : Nat, s5 = .int .i64 (i : Int) ∧ Hid (i ≤ a.tk ∧ ∀ j, j < i → isN a.tg t j = false) ∧ ∃ e : Later V, wr = e.x) (fun s5 _ => a.tk - (intOf s5).toNat)
  case atStart => exact ⟨0, rfl, (show Hid _ from ⟨Nat.zero_le _, fun j hj => by omega⟩), e, rfl⟩
  case round =>
    clear e
    obtain ⟨i, rfl, hi, e, rfl⟩ := hrel
    have i0 : (0 : Int) ≤ (i : Int) := by omega
    by_cases hlt : i < a.tk
    · obtain ⟨bA, oA, hA, hbA, hcA⟩ := HL.out.t (by omega)
      have hA : mt = some ⟨bA, oA, none⟩ := hA
      subst hA
      have cA : ∀ e : Later V, e.x.cell? ⟨bA, oA + i, none⟩ = some (.int .i64 (a.tg i)) := fun e => (e.h.cell hbA (by simp)).trans (hcA i hlt)
      have tc : decide (i < a.tk) = true := by simp [hlt]
      have i1 : (i : Int) < (a.tk : Int) := by omega
      have HLT := hid hlt
      clear hlt hcA hbA
      cases hq : isN a.tg t i with
      | true =>
        have HQ := hid hq
        have tq0 : t = a.tg i := by unfold isN at hq; rwa [beq_iff_eq] at hq
        have tq : (a.tg i == t) = true := by rw [beq_iff_eq]; exact tq0.symm
        have tq2 : (a.tg i = t) = True := eq_true tq0.symm
        clear hq tq0
        go_wp2_with fail
        go_ret
        refine Ret.mk ?_ (HE.out.trans e.h)
        unfold firstI
        rw [firstOf_some HLT.out HQ.out hi.out.2]; rfl
      | false =>
        have HQ := hid hq
        have tq0 : ¬ a.tg i = t := by unfold isN at hq; rw [beq_eq_false_iff_ne] at hq; exact fun h => hq h.symm
        have tq : (a.tg i == t) = false := by rw [beq_eq_false_iff_ne]; exact tq0
        have tq2 : (a.tg i = t) = False := eq_false tq0
        clear hq tq0
        go_wp2_with fail
        go_roundw
        case rel => exact ⟨i + 1, by go_num, (show Hid _ from ⟨HLT.out, fun j hj => by
          by_cases e : j = i
          · subst e; exact HQ.out
          · exact hi.out.2 j (by omega)⟩), e, rfl⟩
        case measure => have := HLT.out; simp [intOf]; omega
    · have hik : i = a.tk := by have := hi.out.1; omega
      subst hik
      have tc : decide (a.tk < a.tk) = false := by simp
      go_wp2_with fail
      go_ret
      refine Ret.mk ?_ (HE.out.trans e.h)
      unfold firstI
      rw [firstOf_none hi.out.2]; rfl
end Go.Proofs.Ytogjghmoankleaa


namespace Go.Proofs.Ytogjghmoankleaa
open Go.RowKit
set_option linter.unusedVariables false
set_option linter.unusedSimpArgs false

set_option maxRecDepth 20000 in
set_option maxHeartbeats 4000000 in
theorem shaped_any (a : AV) (hw : a.wf) (m : AA) (hmt : a.tk ≤ m.tc) (w : World) (h : AsL w anyQ a m) : Calls Try.prog 81 #[asbV a m] w (Ret (.bool a.shaped) w) := by
  have HE := hid ((Mod.refl [] w).alloc (.cells (asbC a m) 29))
  have HB0 := hid (Blk.new w 29 (asbC a m))
  have HL := hid (h.ext HE.out)
  have HW := hid hw
  clear h
  go_enter Try.func81, Try.ntmps81
  go_upto_region 1 with fail
  generalize w.alloc (.cells (asbC a m) 29) = V at *
  have b0 : ∀ e : Later V, e.x.cell? ⟨w.heap.size, 0, none⟩ = some (.slice m.t a.tk m.tc) := HB0.out.cellL 0 rfl
  have b1 : ∀ e : Later V, e.x.cell? ⟨w.heap.size, 1, none⟩ = some (.int .i64 a.ctx) := HB0.out.cellL 1 rfl
  have b6 : ∀ e : Later V, e.x.cell? ⟨w.heap.size, 6, none⟩ = some (.slice m.p a.ps.k m.pc) := HB0.out.cellL 6 rfl
  have b7 : ∀ e : Later V, e.x.cell? ⟨w.heap.size, 7, none⟩ = some (.slice m.r a.rk m.rc) := HB0.out.cellL 7 rfl
  have HRE : Hid (∀ e : Later V, e.x.rangeAt w.heap.size 2 [.int .i64 a.src.sch, str a.src.name, .int .u64 (a.src.node : Int), .int .u64 (a.src.svc : Int)]) := HB0.out.range 2 4 (by rfl)
  have KU := hid (fun e : Later V => unlike_any m.t a.tg a.tk m.tc hw.1.1 hmt e.x (HL.out.t.ext e.h))
  have KC := hid (fun W => coded_any a.ctx W)
  have KE := hid (fun W => eidRight_any a.src hw.2.2.1 W)
  have KP := hid (fun (h8 : a.ps.k ≤ 100000) (e : Later V) => pairs_any a.ps h8 (fun i hi => (hw.2.2.2.1.2 i hi).1) m.p m.pc e.x (HL.out.p.ext e.h))
  have KR := hid (fun e : Later V => ContainsR_any m.r a.rs a.rk m.rc hw.2.2.2.2.1 hw.2.2.2.2.2 e.x (HL.out.r.ext e.h))
  have tk0 : (a.tk : Int) < 4611686018427387904 := by have := hw.1.1; omega
  have rk0 : (a.rk : Int) < 4611686018427387904 := by have := hw.2.2.2.2.1; omega
  have pk0 : (a.ps.k : Int) < 4611686018427387904 := by have := hw.2.2.2.1.1; omega
  clear hw hmt
  obtain ⟨e, he⟩ := Later.self V
  rw [he]
  clear he
  by_cases hc : a.tk < 1
  case pos =>
    have taa : decide (a.tk < 1) = true := decide_eq_true (by omega)
    have tab : (a.tk < 1) = True := eq_true (by omega)
    have tba : decide ((a.tk : Int) < 1) = true := decide_eq_true (by omega)
    have tbb : ((a.tk : Int) < 1) = True := eq_true (by omega)
    have HC := hid hc
    clear hc
    have HX : Hid (a.shaped = false) := hid (by cases hh : a.shaped with | false => rfl | true => exact absurd (AV.shaped_iff.1 hh) (by rintro ⟨⟨g1, g2⟩, g3, g4, g5, g6, g7, g8, g9⟩; have := HC.out; omega))
    have tk1 : True := trivial
    go_wp2_with (first | (clear tk1; refine wpList_mid (by rfl) 26 _ rfl _ 2 rfl _ _ (HRE.out _) Try.underlying26 rfl (by kernel_rfl) ?_) | (go_at_call 120; refine (Ret.later (KU.out _)).mono ?_; rintro x _ ⟨rfl, e, rfl⟩) | (go_at_call 121; refine (KC.out _).mono ?_; rintro e' w' ⟨rfl, rfl⟩) | (go_at_call 90; refine (Ret.later (KE.out _)).mono ?_; rintro x _ ⟨rfl, e, rfl⟩) | (go_at_call 122; refine (Ret.later (KP.out (by assumption) _)).mono ?_; rintro x _ ⟨rfl, e, rfl⟩) | (go_at_call 123; refine (Ret.later (KR.out _)).mono ?_; rintro x _ ⟨rfl, e, rfl⟩))
    go_ret
    exact Ret.mk (by rw [HX.out]; rfl) (HE.out.trans e.h)
  have taa : decide (a.tk < 1) = false := decide_eq_false (by omega)
  have tab : (a.tk < 1) = False := eq_false (by omega)
  have tba : decide ((a.tk : Int) < 1) = false := decide_eq_false (by omega)
  have tbb : ((a.tk : Int) < 1) = False := eq_false (by omega)
  have H1 := hid hc
  clear hc
  by_cases hc : 16 < a.tk
  case pos =>
    have tca : decide (16 < a.tk) = true := decide_eq_true (by omega)
    have tcb : (16 < a.tk) = True := eq_true (by omega)
    have tda : decide ((16 : Int) < (a.tk : Int)) = true := decide_eq_true (by omega)
    have tdb : ((16 : Int) < (a.tk : Int)) = True := eq_true (by omega)
    have HC := hid hc
    clear hc
    have HX : Hid (a.shaped = false) := hid (by cases hh : a.shaped with | false => rfl | true => exact absurd (AV.shaped_iff.1 hh) (by rintro ⟨⟨g1, g2⟩, g3, g4, g5, g6, g7, g8, g9⟩; have := HC.out; omega))
    have tk1 : True := trivial
    go_wp2_with (first | (clear tk1; refine wpList_mid (by rfl) 26 _ rfl _ 2 rfl _ _ (HRE.out _) Try.underlying26 rfl (by kernel_rfl) ?_) | (go_at_call 120; refine (Ret.later (KU.out _)).mono ?_; rintro x _ ⟨rfl, e, rfl⟩) | (go_at_call 121; refine (KC.out _).mono ?_; rintro e' w' ⟨rfl, rfl⟩) | (go_at_call 90; refine (Ret.later (KE.out _)).mono ?_; rintro x _ ⟨rfl, e, rfl⟩) | (go_at_call 122; refine (Ret.later (KP.out (by assumption) _)).mono ?_; rintro x _ ⟨rfl, e, rfl⟩) | (go_at_call 123; refine (Ret.later (KR.out _)).mono ?_; rintro x _ ⟨rfl, e, rfl⟩))
    go_ret
    exact Ret.mk (by rw [HX.out]; rfl) (HE.out.trans e.h)
  have tca : decide (16 < a.tk) = false := decide_eq_false (by omega)
  have tcb : (16 < a.tk) = False := eq_false (by omega)
  have tda : decide ((16 : Int) < (a.tk : Int)) = false := decide_eq_false (by omega)
  have tdb : ((16 : Int) < (a.tk : Int)) = False := eq_false (by omega)
  have H16 := hid hc
  clear hc
  cases hc : unlikeB a.tg a.tk with
  | false =>
    rw [hc] at KU
    have HC := hid hc
    clear hc
    have HX : Hid (a.shaped = false) := hid (by cases hh : a.shaped with | false => rfl | true => exact absurd (AV.shaped_iff.1 hh) (by rintro ⟨⟨g1, g2⟩, g3, g4, g5, g6, g7, g8, g9⟩; rw [HC.out] at g3; cases g3))
    have tk1 : True := trivial
    go_wp2_with (first | (clear tk1; refine wpList_mid (by rfl) 26 _ rfl _ 2 rfl _ _ (HRE.out _) Try.underlying26 rfl (by kernel_rfl) ?_) | (go_at_call 120; refine (Ret.later (KU.out _)).mono ?_; rintro x _ ⟨rfl, e, rfl⟩) | (go_at_call 121; refine (KC.out _).mono ?_; rintro e' w' ⟨rfl, rfl⟩) | (go_at_call 90; refine (Ret.later (KE.out _)).mono ?_; rintro x _ ⟨rfl, e, rfl⟩) | (go_at_call 122; refine (Ret.later (KP.out (by assumption) _)).mono ?_; rintro x _ ⟨rfl, e, rfl⟩) | (go_at_call 123; refine (Ret.later (KR.out _)).mono ?_; rintro x _ ⟨rfl, e, rfl⟩))
    go_ret
    exact Ret.mk (by rw [HX.out]; rfl) (HE.out.trans e.h)
  | true =>
  rw [hc] at KU
  have H3 := hid hc
  clear hc
  cases hc : codedB a.ctx with
  | false =>
    rw [hc] at KC
    have HC := hid hc
    clear hc
    have HX : Hid (a.shaped = false) := hid (by cases hh : a.shaped with | false => rfl | true => exact absurd (AV.shaped_iff.1 hh) (by rintro ⟨⟨g1, g2⟩, g3, g4, g5, g6, g7, g8, g9⟩; rw [HC.out] at g4; cases g4))
    have tk1 : True := trivial
    go_wp2_with (first | (clear tk1; refine wpList_mid (by rfl) 26 _ rfl _ 2 rfl _ _ (HRE.out _) Try.underlying26 rfl (by kernel_rfl) ?_) | (go_at_call 120; refine (Ret.later (KU.out _)).mono ?_; rintro x _ ⟨rfl, e, rfl⟩) | (go_at_call 121; refine (KC.out _).mono ?_; rintro e' w' ⟨rfl, rfl⟩) | (go_at_call 90; refine (Ret.later (KE.out _)).mono ?_; rintro x _ ⟨rfl, e, rfl⟩) | (go_at_call 122; refine (Ret.later (KP.out (by assumption) _)).mono ?_; rintro x _ ⟨rfl, e, rfl⟩) | (go_at_call 123; refine (Ret.later (KR.out _)).mono ?_; rintro x _ ⟨rfl, e, rfl⟩))
    go_ret
    exact Ret.mk (by rw [HX.out]; rfl) (HE.out.trans e.h)
  | true =>
  rw [hc] at KC
  have H4 := hid hc
  clear hc
  cases hc : a.src.ok with
  | false =>
    rw [hc] at KE
    have HC := hid hc
    clear hc
    have HX : Hid (a.shaped = false) := hid (by cases hh : a.shaped with | false => rfl | true => exact absurd (AV.shaped_iff.1 hh) (by rintro ⟨⟨g1, g2⟩, g3, g4, g5, g6, g7, g8, g9⟩; rw [HC.out] at g5; cases g5))
    have tk1 : True := trivial
    go_wp2_with (first | (clear tk1; refine wpList_mid (by rfl) 26 _ rfl _ 2 rfl _ _ (HRE.out _) Try.underlying26 rfl (by kernel_rfl) ?_) | (go_at_call 120; refine (Ret.later (KU.out _)).mono ?_; rintro x _ ⟨rfl, e, rfl⟩) | (go_at_call 121; refine (KC.out _).mono ?_; rintro e' w' ⟨rfl, rfl⟩) | (go_at_call 90; refine (Ret.later (KE.out _)).mono ?_; rintro x _ ⟨rfl, e, rfl⟩) | (go_at_call 122; refine (Ret.later (KP.out (by assumption) _)).mono ?_; rintro x _ ⟨rfl, e, rfl⟩) | (go_at_call 123; refine (Ret.later (KR.out _)).mono ?_; rintro x _ ⟨rfl, e, rfl⟩))
    go_ret
    exact Ret.mk (by rw [HX.out]; rfl) (HE.out.trans e.h)
  | true =>
  rw [hc] at KE
  have H5 := hid hc
  clear hc
  by_cases hc : 8 < a.ps.k
  case pos =>
    have tea : decide (8 < a.ps.k) = true := decide_eq_true (by omega)
    have teb : (8 < a.ps.k) = True := eq_true (by omega)
    have tfa : decide ((8 : Int) < (a.ps.k : Int)) = true := decide_eq_true (by omega)
    have tfb : ((8 : Int) < (a.ps.k : Int)) = True := eq_true (by omega)
    have HC := hid hc
    clear hc
    have HX : Hid (a.shaped = false) := hid (by cases hh : a.shaped with | false => rfl | true => exact absurd (AV.shaped_iff.1 hh) (by rintro ⟨⟨g1, g2⟩, g3, g4, g5, g6, g7, g8, g9⟩; have := HC.out; omega))
    have tk1 : True := trivial
    go_wp2_with (first | (clear tk1; refine wpList_mid (by rfl) 26 _ rfl _ 2 rfl _ _ (HRE.out _) Try.underlying26 rfl (by kernel_rfl) ?_) | (go_at_call 120; refine (Ret.later (KU.out _)).mono ?_; rintro x _ ⟨rfl, e, rfl⟩) | (go_at_call 121; refine (KC.out _).mono ?_; rintro e' w' ⟨rfl, rfl⟩) | (go_at_call 90; refine (Ret.later (KE.out _)).mono ?_; rintro x _ ⟨rfl, e, rfl⟩) | (go_at_call 122; refine (Ret.later (KP.out (by assumption) _)).mono ?_; rintro x _ ⟨rfl, e, rfl⟩) | (go_at_call 123; refine (Ret.later (KR.out _)).mono ?_; rintro x _ ⟨rfl, e, rfl⟩))
    go_ret
    exact Ret.mk (by rw [HX.out]; rfl) (HE.out.trans e.h)
  have tea : decide (8 < a.ps.k) = false := decide_eq_false (by omega)
  have teb : (8 < a.ps.k) = False := eq_false (by omega)
  have tfa : decide ((8 : Int) < (a.ps.k : Int)) = false := decide_eq_false (by omega)
  have tfb : ((8 : Int) < (a.ps.k : Int)) = False := eq_false (by omega)
  have H8 := hid hc
  have h100 : a.ps.k ≤ 100000 := by omega
  clear hc
  cases hc : pairsB a.ps with
  | false =>
    rw [hc] at KP
    have HC := hid hc
    clear hc
    have HX : Hid (a.shaped = false) := hid (by cases hh : a.shaped with | false => rfl | true => exact absurd (AV.shaped_iff.1 hh) (by rintro ⟨⟨g1, g2⟩, g3, g4, g5, g6, g7, g8, g9⟩; rw [HC.out] at g7; cases g7))
    have tk1 : True := trivial
    go_wp2_with (first | (clear tk1; refine wpList_mid (by rfl) 26 _ rfl _ 2 rfl _ _ (HRE.out _) Try.underlying26 rfl (by kernel_rfl) ?_) | (go_at_call 120; refine (Ret.later (KU.out _)).mono ?_; rintro x _ ⟨rfl, e, rfl⟩) | (go_at_call 121; refine (KC.out _).mono ?_; rintro e' w' ⟨rfl, rfl⟩) | (go_at_call 90; refine (Ret.later (KE.out _)).mono ?_; rintro x _ ⟨rfl, e, rfl⟩) | (go_at_call 122; refine (Ret.later (KP.out (by assumption) _)).mono ?_; rintro x _ ⟨rfl, e, rfl⟩) | (go_at_call 123; refine (Ret.later (KR.out _)).mono ?_; rintro x _ ⟨rfl, e, rfl⟩))
    go_ret
    exact Ret.mk (by rw [HX.out]; rfl) (HE.out.trans e.h)
  | true =>
  rw [hc] at KP
  have H7 := hid hc
  clear hc
  by_cases hc : a.rk ≠ a.tk
  case pos =>
    have tga : (((a.rk : Int)) == ((a.tk : Int))) = false := by rw [beq_eq_false_iff_ne]; omega
    have tgb : (((a.rk : Int)) = ((a.tk : Int))) = False := eq_false (by omega)
    have tgc : (((a.rk : Int)) != ((a.tk : Int))) = true := by rw [bne_iff_ne]; omega
    have tha : ((a.rk) == (a.tk)) = false := by rw [beq_eq_false_iff_ne]; omega
    have thb : ((a.rk) = (a.tk)) = False := eq_false (by omega)
    have thc : ((a.rk) != (a.tk)) = true := by rw [bne_iff_ne]; omega
    have HC := hid hc
    clear hc
    have HX : Hid (a.shaped = false) := hid (by cases hh : a.shaped with | false => rfl | true => exact absurd (AV.shaped_iff.1 hh) (by rintro ⟨⟨g1, g2⟩, g3, g4, g5, g6, g7, g8, g9⟩; exact HC.out g8))
    have tk1 : True := trivial
    go_wp2_with (first | (clear tk1; refine wpList_mid (by rfl) 26 _ rfl _ 2 rfl _ _ (HRE.out _) Try.underlying26 rfl (by kernel_rfl) ?_) | (go_at_call 120; refine (Ret.later (KU.out _)).mono ?_; rintro x _ ⟨rfl, e, rfl⟩) | (go_at_call 121; refine (KC.out _).mono ?_; rintro e' w' ⟨rfl, rfl⟩) | (go_at_call 90; refine (Ret.later (KE.out _)).mono ?_; rintro x _ ⟨rfl, e, rfl⟩) | (go_at_call 122; refine (Ret.later (KP.out (by assumption) _)).mono ?_; rintro x _ ⟨rfl, e, rfl⟩) | (go_at_call 123; refine (Ret.later (KR.out _)).mono ?_; rintro x _ ⟨rfl, e, rfl⟩))
    go_ret
    exact Ret.mk (by rw [HX.out]; rfl) (HE.out.trans e.h)
  have tga : (((a.rk : Int)) == ((a.tk : Int))) = true := by rw [beq_iff_eq]; omega
  have tgb : (((a.rk : Int)) = ((a.tk : Int))) = True := eq_true (by omega)
  have tgc : (((a.rk : Int)) != ((a.tk : Int))) = false := by rw [bne_eq_false_iff_eq]; omega
  have tha : ((a.rk) == (a.tk)) = true := by rw [beq_iff_eq]; omega
  have thb : ((a.rk) = (a.tk)) = True := eq_true (by omega)
  have thc : ((a.rk) != (a.tk)) = false := by rw [bne_eq_false_iff_eq]; omega
  have H9 : Hid (a.rk = a.tk) := hid (by omega)
  clear hc
  have HX : Hid (a.shaped = T.all (fun i => resB (a.rs i)) a.rk) := hid (by
    rw [AV.shaped_eq]
    unfold AV.one AV.two
    rw [H3.out, H4.out, H5.out, H7.out, decide_eq_true H9.out, decide_eq_true (show a.ps.k ≤ 8 by have := H8.out; omega), decide_eq_true (show a.tk ≤ 16 by have := H16.out; omega), decide_eq_true (show 1 ≤ a.tk by have := H1.out; omega)]
    simp)
  generalize T.all (fun i => resB (a.rs i)) a.rk = B at *
  have tk1 : True := trivial
  go_wp2_with (first | (clear tk1; refine wpList_mid (by rfl) 26 _ rfl _ 2 rfl _ _ (HRE.out _) Try.underlying26 rfl (by kernel_rfl) ?_) | (go_at_call 120; refine (Ret.later (KU.out _)).mono ?_; rintro x _ ⟨rfl, e, rfl⟩) | (go_at_call 121; refine (KC.out _).mono ?_; rintro e' w' ⟨rfl, rfl⟩) | (go_at_call 90; refine (Ret.later (KE.out _)).mono ?_; rintro x _ ⟨rfl, e, rfl⟩) | (go_at_call 122; refine (Ret.later (KP.out (by assumption) _)).mono ?_; rintro x _ ⟨rfl, e, rfl⟩) | (go_at_call 123; refine (Ret.later (KR.out _)).mono ?_; rintro x _ ⟨rfl, e, rfl⟩))
  go_ret
  exact Ret.mk (by rw [HX.out]; simp) (HE.out.trans e.h)
end Go.Proofs.Ytogjghmoankleaa


namespace Go.Proofs.Ytogjghmoankleaa
open Go.RowKit
set_option linter.unusedVariables false
set_option linter.unusedSimpArgs false

theorem pair_IsL {W : World} {Q : Nat → Prop} {p : PR} {g : Nat} {A : Option Addr} {c : Nat} (h0 : 0 ≤ p.id) (h : Blk W g 38 #[.int .i64 0, .int .u64 p.id, str [], .slice none 0 0, .bool false, .int .i64 p.t.kind, .int .u64 (p.t.n : Int), str p.t.s, .slice A p.t.k c, .bool p.t.op]) (hI : IsL W Q p.t A) (hq : Q g) : IsL W Q (pairT p) (some ⟨g, 0, none⟩) := fun _ => ⟨g, 0, rfl, h.lt, hq, fun j hj => by
  have hj : j = 0 ∨ j = 1 := by have : j < 2 := hj; omega
  rcases hj with rfl | rfl
  · exact ⟨none, 0, ⟨h.cell 0, (h.cell 1).trans (by show some (Value.int .u64 p.id) = some (Value.int .u64 (p.id.toNat : Int)); rw [Int.toNat_of_nonneg h0]), h.cell 2, h.cell 3, h.cell 4⟩, IsL.leaf⟩
  · exact ⟨A, c, ⟨h.cell 5, h.cell 6, h.cell 7, h.cell 8, h.cell 9⟩, hI⟩⟩
set_option maxRecDepth 20000 in
set_option maxHeartbeats 8000000 in
theorem alist_any {Q : Nat → Prop} (p : PL) (hk : p.k ≤ 100000) (hc : ∀ i, i < p.k → 0 ≤ (p.a i).id ∧ (p.a i).id ≤ 65535) (A : Option Addr) (c : Nat) (w : World) (h : PsL w Q A p) : Calls Try.prog 125 #[.slice A p.k c] w (fun e w' => ∃ A' c', e = .returned (itemV (plT p) A' c') ∧ Ext w w' ∧ IsL w' (fun b => Q b ∨ w.heap.size ≤ b) (plT p) A') := by
  have HK := hid hk
  have HC := hid hc
  have HE := hid ((Mod.refl [] w).alloc (.cells #[.int .i64 0, .int .u64 0, .string ⟨#[]⟩, .slice none 0 0, .bool false] 38))
  have HB0 : Hid (Blk (w.alloc (.cells #[.int .i64 0, .int .u64 0, .string ⟨#[]⟩, .slice none 0 0, .bool false] 38)) w.heap.size 38 (itemC (numT 0) none 0)) := hid (Blk.new w 38 (itemC (numT 0) none 0))
  have HL := hid (PsL.ext (h.weak (R := fun b => Q b ∧ b < w.heap.size) (fun k hk hq => ⟨hq, hk⟩)) HE.out)
  have k0 : (p.k : Int) ≤ 100000 := by omega
  generalize hkk : p.k = k at *
  have HKK := hid hkk
  clear hk hc h hkk
  go_enter Try.func125, Try.ntmps125
  go_upto_region 3 with fail
  have HV1 : Hid (w.heap.size + 1 = (w.alloc (.cells #[.int .i64 0, .int .u64 0, .string ⟨#[]⟩, .slice none 0 0, .bool false] 38)).heap.size) := hid (by simp)
  generalize hV : w.alloc (.cells #[.int .i64 0, .int .u64 0, .string ⟨#[]⟩, .slice none 0 0, .bool false] 38) = V at *
  clear hV
  go_loopw [3, 8] (fun s3 s8 wr => ∃ (i : Nat) (A' : Option Addr) (c' : Nat) (ac : Nat → Option Addr × Nat), s8 = .int .i64 (i : Int) ∧ s3 = .slice A' i c' ∧ Hid (i ≤ k ∧ Ext V wr ∧ Rw wr (fun b => (Q b ∧ b < w.heap.size) ∨ w.heap.size + 1 ≤ b) (w.heap.size + 1) A' c' i (fun j => pairT (p.a j)) ac)) (fun _ s8 _ => k - (intOf s8).toNat)
  case atStart => exact ⟨0, none, 0, fun _ => (none, 0), rfl, rfl, (show Hid _ from ⟨Nat.zero_le _, Mod.refl _ _, Rw.nil⟩)⟩
  case round =>
    obtain ⟨i, A', c', ac, rfl, rfl, hS⟩ := hrel
    rename World => wr
    have i0 : (0 : Int) ≤ (i : Int) := by omega
    by_cases hlt : i < k
    · obtain ⟨b, o, Ai, ci, rfl, hb, ⟨q0, q1, q2, q3, q4, q5⟩, hI⟩ := HL.out.at hS.out.2.1 (i := i) (by have := HKK.out; omega)
      have tc : decide (i < k) = true := by simp [hlt]
      have i1 : (i : Int) < (k : Int) := by omega
      have HLT := hid hlt
      have HI := hid hI
      have HI0 : Hid (0 ≤ (p.a i).id) := hid (HC.out i hlt).1
      have t1 : IntKind.u64.wrap (p.a i).id = (p.a i).id := IntWalk.u64_in _ (by have := HC.out i hlt; omega)
      clear hlt hI hb
      go_upto_region 5 with fail
      generalize hW1 : World.alloc wr _ = W1
      have HG1 : Hid (Blk W1 wr.heap.size 40 (prC (p.a i) Ai ci)) := hid (by rw [← hW1]; exact Blk.new _ _ _)
      have HR : Hid (Rw W1 (fun b => (Q b ∧ b < w.heap.size) ∨ w.heap.size + 1 ≤ b) (w.heap.size + 1) A' c' i (fun j => pairT (p.a j)) ac) := hid (by rw [← hW1]; exact hS.out.2.2.ext ((Mod.refl [] wr).alloc _))
      have HE1 : Hid (Ext V W1) := hid (by rw [← hW1]; exact hS.out.2.1.alloc _)
      have HI1 : Hid (IsL W1 (fun b => Q b ∧ b < w.heap.size) (p.a i).t Ai) := hid (by rw [← hW1]; exact HI.out.ext ((Mod.refl [] wr).alloc _))
      have HSZ : Hid (w.heap.size + 1 ≤ W1.heap.size) := hid (by have := HE1.out.size; have := HV1.out; omega)
      have HOB : Hid (∀ g, A' = some g → w.heap.size < g.block ∧ g.block < W1.heap.size) := hid (fun g hg => by have := HR.out.own.lt g.block (by subst hg; rfl); omega)
      have HGA : Hid (wr.heap.size ∉ obs A') := hid (offA_obs (fun g hg => by have := hS.out.2.2.own.lt g.block (by subst hg; rfl); omega))
      clear hW1 hS q0 q1 q2 q3 q4 q5 HI
      generalize wr.heap.size = G at *
      have HG0 : Hid (∀ W, Mod (obs A') W1 W → W.cell? ⟨G, 0, none⟩ = some (.int .i64 (p.a i).id)) := hid (fun W hW => (HG1.out.mod hW HGA.out).cell 0)
      have HGM : Hid (∀ W, Mod (obs A') W1 W → W.rangeAt G 1 [.int .i64 (p.a i).t.kind, .int .u64 ((p.a i).t.n : Int), str (p.a i).t.s, .slice Ai (p.a i).t.k ci, .bool (p.a i).t.op]) := hid (fun W hW => (HG1.out.mod hW HGA.out).rangeE (Mod.refl _ _) 1 5 (by rfl))
      refine wp_region_held_drew (S := fun w' => Mod (obs A') W1 w') (by kernel_rfl) (Mod.refl _ _).drew (fun hHeld => ?_)
      have hR1 : Rw W1.drew (fun b => (Q b ∧ b < w.heap.size) ∨ w.heap.size + 1 ≤ b) (w.heap.size + 1) A' c' i (fun j => pairT (p.a j)) ac := HR.out.ext ((Mod.refl [] _).drew)
      have HI2 : IsL W1.drew (fun b => Q b ∧ b < w.heap.size) (p.a i).t Ai := HI1.out.ext ((Mod.refl [] _).drew)
      generalize W1.drew = u0 at *
      refine' wpAnyH_take (i := 0) (v := _) rfl (by kernel_rfl) (by kernel_rfl) (by kernel_rfl) (fun _ _ _ h => h) (Or.inl ⟨by rfl, ?hy1⟩) hHeld ?rest1
      case hy1 => (rintro W hM; go_simp; (try with_reducible rfl))
      case rest1 =>
      (try simp only [Act.put, List.getElem_toArray, List.getElem_cons_zero, List.getElem_cons_succ, List.setIfInBounds_toArray, List.set_cons_zero, List.set_cons_succ])
      refine' wpAnyH_take (i := 1) (v := _) rfl (by kernel_rfl) (by kernel_rfl) (by kernel_rfl) (fun _ _ _ h => h) (Or.inl ⟨by rfl, ?hy2⟩) hHeld ?rest2
      case hy2 => (rintro W hM; go_simp; (try with_reducible rfl))
      case rest2 =>
      (try simp only [Act.put, List.getElem_toArray, List.getElem_cons_zero, List.getElem_cons_succ, List.setIfInBounds_toArray, List.set_cons_zero, List.set_cons_succ])
      refine' wpAnyH_take (i := 2) (v := _) rfl (by kernel_rfl) (by kernel_rfl) (by kernel_rfl) (fun _ _ _ h => h) (Or.inl ⟨by rfl, ?hy3⟩) hHeld ?rest3
      case hy3 => (rintro W hM; have g0 := HG0.out W hM; go_simp; (try with_reducible rfl))
      case rest3 =>
      (try simp only [Act.put, List.getElem_toArray, List.getElem_cons_zero, List.getElem_cons_succ, List.setIfInBounds_toArray, List.set_cons_zero, List.set_cons_succ])
      refine' wpAnyH_take (i := 3) (v := _) rfl (by kernel_rfl) (by kernel_rfl) (by kernel_rfl) (fun _ _ _ h => h) (Or.inl ⟨by rfl, ?hy4⟩) hHeld ?rest4
      case hy4 => (rintro W hM; go_simp; (try with_reducible rfl))
      case rest4 =>
      (try simp only [Act.put, List.getElem_toArray, List.getElem_cons_zero, List.getElem_cons_succ, List.setIfInBounds_toArray, List.set_cons_zero, List.set_cons_succ])
      refine' wpAnyH_take (i := 5) (v := _) rfl (by kernel_rfl) (by kernel_rfl) (by kernel_rfl) (fun _ _ _ h => h) (Or.inl ⟨by rfl, ?hy5⟩) hHeld ?rest5
      case hy5 => (rintro W hM; go_simp; (try with_reducible rfl))
      case rest5 =>
      (try simp only [Act.put, List.getElem_toArray, List.getElem_cons_zero, List.getElem_cons_succ, List.setIfInBounds_toArray, List.set_cons_zero, List.set_cons_succ])
      refine wpAnyH_take (i := 6) rfl (by kernel_rfl) (by kernel_rfl) (by kernel_rfl) (fun _ _ _ h => h) (yieldsIf_mid (by rfl) 38 _ rfl G 1 rfl [.int .i64 (p.a i).t.kind, .int .u64 ((p.a i).t.n : Int), str (p.a i).t.s, .slice Ai (p.a i).t.k ci, .bool (p.a i).t.op] HGM.out Try.underlying38 rfl (by kernel_rfl)) hHeld ?_
      (try simp only [Act.put, List.getElem_toArray, List.getElem_cons_zero, List.getElem_cons_succ, List.setIfInBounds_toArray, List.set_cons_zero, List.set_cons_succ])
      refine wpAnyH_ready (rs := [4]) (by kernel_rfl) (by simp) ?_
      refine AllReadyH.cons rfl (fun K hK => ?_) AllReadyH.nil
      go_simp
      (try rw [t1])
      go_at_call 89
      refine (NumI_any _ _).mono ?_
      rintro x u1 ⟨rfl, hb⟩
      have hR1 := hR1.ext hb
      have HI2 := HI2.ext hb
      refine hK.out _ _ (hHeld.trans (hb.mono (by simp))) (fun hHeld => ?_)
      clear hK K
      (try simp only [Act.put, List.getElem_toArray, List.getElem_cons_zero, List.getElem_cons_succ, List.setIfInBounds_toArray, List.set_cons_zero, List.set_cons_succ])
      refine wpAnyH_ready (rs := [7]) (by kernel_rfl) (by simp) ?_
      refine AllReadyH.cons rfl (fun K hK => ?_) AllReadyH.nil
      go_simp
      have HP2_n : W1.heap.size ≤ u1.heap.size := hHeld.size
      have HP2 : Blk (World.alloc u1 (.cells #[.int .i64 0, .int .u64 (p.a i).id, str [], .slice none 0 0, .bool false, .int .i64 (p.a i).t.kind, .int .u64 ((p.a i).t.n : Int), str (p.a i).t.s, .slice Ai (p.a i).t.k ci, .bool (p.a i).t.op] 38)) u1.heap.size 38 #[.int .i64 0, .int .u64 (p.a i).id, str [], .slice none 0 0, .bool false, .int .i64 (p.a i).t.kind, .int .u64 ((p.a i).t.n : Int), str (p.a i).t.s, .slice Ai (p.a i).t.k ci, .bool (p.a i).t.op] := Blk.new _ _ _
      have hXX : Ext u1 (World.alloc u1 (.cells #[.int .i64 0, .int .u64 (p.a i).id, str [], .slice none 0 0, .bool false, .int .i64 (p.a i).t.kind, .int .u64 ((p.a i).t.n : Int), str (p.a i).t.s, .slice Ai (p.a i).t.k ci, .bool (p.a i).t.op] 38)) := (Mod.refl [] _).alloc _
      have hZN : u1.heap.size < (World.alloc u1 (.cells #[.int .i64 0, .int .u64 (p.a i).id, str [], .slice none 0 0, .bool false, .int .i64 (p.a i).t.kind, .int .u64 ((p.a i).t.n : Int), str (p.a i).t.s, .slice Ai (p.a i).t.k ci, .bool (p.a i).t.op] 38)).heap.size := HP2.lt
      generalize World.alloc u1 (.cells #[.int .i64 0, .int .u64 (p.a i).id, str [], .slice none 0 0, .bool false, .int .i64 (p.a i).t.kind, .int .u64 ((p.a i).t.n : Int), str (p.a i).t.s, .slice Ai (p.a i).t.k ci, .bool (p.a i).t.op] 38) = u2 at *
      have hR1 := hR1.ext hXX
      have HI2 := HI2.ext hXX
      refine hK.out _ _ (hHeld.trans (hXX.mono (by simp))) (fun hHeld => ?_)
      clear hK K hXX
      (try simp only [Act.put, List.getElem_toArray, List.getElem_cons_zero, List.getElem_cons_succ, List.setIfInBounds_toArray, List.set_cons_zero, List.set_cons_succ])
      generalize hgp : u1.heap.size = gp at *
      refine wpAnyH_ready (rs := [8]) (by kernel_rfl) (by simp) ?_
      refine AllReadyH.cons rfl (fun K hK => ?_) AllReadyH.nil
      go_simp
      go_at_call 74
      refine (ListV_any _ _ _ _).mono ?_
      rintro x u3 ⟨rfl, hb3⟩
      have hR1 := hR1.ext hb3
      have HI2 := HI2.ext hb3
      have HP2 := HP2.ext hb3
      refine hK.out _ _ (hHeld.trans (hb3.mono (by simp))) (fun hHeld => ?_)
      clear hK K
      (try simp only [Act.put, List.getElem_toArray, List.getElem_cons_zero, List.getElem_cons_succ, List.setIfInBounds_toArray, List.set_cons_zero, List.set_cons_succ])
      refine wpAnyH_ready (rs := [9]) (by kernel_rfl) (by simp) ?_
      refine AllReadyH.cons rfl (fun K hK => ?_) AllReadyH.nil
      go_simp
      have HQ2_n : W1.heap.size ≤ u3.heap.size := hHeld.size
      have HQ2 : Blk (World.alloc u3 (.cells #[.int .i64 4, .int .u64 0, str [], .slice (some ⟨gp, 0, none⟩) 2 2, .bool false] 38)) u3.heap.size 38 #[.int .i64 4, .int .u64 0, str [], .slice (some ⟨gp, 0, none⟩) 2 2, .bool false] := Blk.new _ _ _
      have hXX : Ext u3 (World.alloc u3 (.cells #[.int .i64 4, .int .u64 0, str [], .slice (some ⟨gp, 0, none⟩) 2 2, .bool false] 38)) := (Mod.refl [] _).alloc _
      have hZN : u3.heap.size < (World.alloc u3 (.cells #[.int .i64 4, .int .u64 0, str [], .slice (some ⟨gp, 0, none⟩) 2 2, .bool false] 38)).heap.size := HQ2.lt
      generalize World.alloc u3 (.cells #[.int .i64 4, .int .u64 0, str [], .slice (some ⟨gp, 0, none⟩) 2 2, .bool false] 38) = u4 at *
      have hR1 := hR1.ext hXX
      have HI2 := HI2.ext hXX
      have HP2 := HP2.ext hXX
      refine hK.out _ _ (hHeld.trans (hXX.mono (by simp))) (fun hHeld => ?_)
      clear hK K hXX
      (try simp only [Act.put, List.getElem_toArray, List.getElem_cons_zero, List.getElem_cons_succ, List.setIfInBounds_toArray, List.set_cons_zero, List.set_cons_succ])
      generalize hgq : u3.heap.size = gq at *
      refine wpAnyH_ready (rs := [10]) (by kernel_rfl) (by simp) ?_
      refine AllReadyH.cons rfl (fun K hK => ?_) AllReadyH.nil
      have HPT : IsL u4 (fun b => ((Q b ∧ b < w.heap.size) ∨ w.heap.size + 1 ≤ b) ∧ offA A' b) (pairT (p.a i)) (some ⟨gp, 0, none⟩) := pair_IsL HI0.out HP2 (IsL.weak (fun b _ hb => ⟨.inl hb, fun g hg => by have := (HOB.out g hg).1; have := hb.2; omega⟩) _ HI2) ⟨.inr (by have := HSZ.out; omega), fun g hg => by have := (HOB.out g hg).2; show gp ≠ g.block; omega⟩
      obtain ⟨ib, hi, hz0, hz1, hz2⟩ := info_parts infoItem
      refine wp_append_lies _ _ _ 36 (by rfl) (w.heap.size + 1) 38 ib _ 5 64 Try.underlying36 hi hz0 hz1 hz2 (by rfl) (by decide) _ i _ (by rfl) hR1.own ⟨gq, 0, none⟩ 1 1 [.int .i64 4, .int .u64 0, str [], .slice (some ⟨gp, 0, none⟩) 2 2, .bool false] (by rfl) (by rfl) ?gnew ?gone (by decide) ?gm ?gb ?gbase (u4.heap.size) rfl ?gk
      case gnew =>
        intro j u hu
        rw [addr_add, Nat.zero_add, HQ2.cell j]
        simpa using hu
      case gone => intro u hu; simp at hu; rcases hu with rfl | rfl | rfl | rfl | rfl <;> rfl
      case gm => have := HLT.out; have := HK.out; unfold maxLen; omega
      case gb => have := HLT.out; have := HK.out; omega
      case gbase => have := HSZ.out; have := hHeld.size; omega
      intro g' cp' u5 hown' hgr' hat' hlt'
      obtain ⟨ac', hR5⟩ := hR1.append HPT rfl hown' hgr' hat'
      refine hK.out _ _ (hHeld.trans (grown_obs hgr')) (fun hHeld => ?_)
      clear hK K
      (try simp only [Act.put, List.getElem_toArray, List.getElem_cons_zero, List.getElem_cons_succ, List.setIfInBounds_toArray, List.set_cons_zero, List.set_cons_succ])
      refine' wpAnyH_take (i := 11) (v := _) rfl (by kernel_rfl) (by kernel_rfl) (by kernel_rfl) (fun _ _ _ h => h) (Or.inl ⟨by rfl, ?hy6⟩) hHeld ?rest6
      case hy6 => (rintro W hM; go_simp; (try with_reducible rfl))
      case rest6 =>
      (try simp only [Act.put, List.getElem_toArray, List.getElem_cons_zero, List.getElem_cons_succ, List.setIfInBounds_toArray, List.set_cons_zero, List.set_cons_succ])
      refine wpAnyH_done (by kernel_rfl) ?_ _
      go_wp2_with fail
      go_roundw
      case rel => exact ⟨i + 1, some ⟨g', 0, none⟩, cp', ac', by go_num, rfl, (show Hid _ from ⟨HLT.out, (HE1.out.of_ext (S := obs A')).trans hHeld |>.new (fun k hk => .inr (by
        cases A' with
        | none => cases hk
        | some g => have := HOB.out g rfl; have := HV1.out; simp [obs] at hk; omega)), hR5⟩)⟩
      case measure => have := HLT.out; simp [intOf]; omega
    · obtain rfl : i = k := by have := hS.out.1; omega
      have tc : decide (i < i) = false := by simp
      have HEW := hid (HE.out.trans hS.out.2.1)
      have HIL : Hid (IsL wr (fun b => (Q b ∧ b < w.heap.size) ∨ w.heap.size + 1 ≤ b) (plT p) A') := hid (by unfold plT; rw [HKK.out]; exact hS.out.2.2.isL (fun b hb => .inr hb))
      have HPV : Hid (itemV (plT p) A' c' = .agg #[.int .i64 4, .int .u64 0, str [], .slice A' i c', .bool false]) := hid (by rw [← HKK.out]; rfl)
      have HBR := hid (HB0.out.ext hS.out.2.1)
      clear hS
      go_wp2_with (go_at_call 74; refine (ListV_any _ _ _ _).mono ?_; rintro x w3 ⟨rfl, hb3⟩; obtain ⟨c0, c1, c2, c3, c4⟩ := cells5 (HBR.out.ext hb3); have f0 := (HBR.out.ext hb3).frozen 0; have f1 := (HBR.out.ext hb3).frozen 1; have f2 := (HBR.out.ext hb3).frozen 2; have f3 := (HBR.out.ext hb3).frozen 3; have f4 := (HBR.out.ext hb3).frozen 4)
      obtain ⟨d0, d1, d2, d3, d4⟩ := cells5 (set5_blk (t := T.mk 4 0 [] false i (fun _ => T.nil)) (A := A') (c := c') (HBR.out.ext hb3))
      clear c0 c1 c2 c3 c4 f0 f1 f2 f3 f4
      show bodyPost _ _ _ _ _ (set5 w3 w.heap.size (T.mk 4 0 [] false i (fun _ => T.nil)) A' c')
      refine bodyPost_ret (v := .agg #[.int .i64 4, .int .u64 0, str [], .slice A' i c', .bool false]) (by simp [results, Try.results125, go_sem, d0, d1, d2, d3, d4]; exact ⟨rfl, rfl, rfl, rfl, rfl⟩) rfl ⟨A', c', by rw [HPV.out], set5_mod (HEW.out.trans hb3) (Nat.le_refl _), ?_⟩
      exact IsL.weak (fun b _ h => h.elim (fun h => .inl h.1) (fun h => .inr (by omega))) _ (IsL.mod (Q := fun b => (Q b ∧ b < w.heap.size) ∨ w.heap.size + 1 ≤ b) set5_modb (fun b hb _ hs => by rw [List.mem_singleton] at hs; rcases hb with hb | hb; (have := hb.2; omega); omega) _ (HIL.out.ext hb3))
end Go.Proofs.Ytogjghmoankleaa


namespace Go.Proofs.Ytogjghmoankleaa
open Go.RowKit
set_option linter.unusedVariables false
set_option linter.unusedSimpArgs false

/-- A list's items by number; where what hangs on them lies. -/
def chL (L : List T) (i : Nat) : T := (L[i]?).getD T.nil
def acL (a : List (Option Addr × Nat)) (i : Nat) : Option Addr × Nat := (a[i]?).getD (none, 0)
theorem list_IsL {W : World} {Q : Nat → Prop} {base g c : Nat} {L : List T} {a : List (Option Addr × Nat)} (hlt : g < W.heap.size) (q : Q g) (h : W.ownsRow base 38 5 (.slice (some ⟨g, 0, none⟩) L.length c) L.length (flatC (chL L) (acL a) L.length)) (hI : ∀ i, i < L.length → IsL W Q (chL L i) (acL a i).1) : IsL W Q (listT L) (some ⟨g, 0, none⟩) := own_IsL hlt q h hI
theorem num_IsL {W : World} {Q : Nat → Prop} {n : Nat} {A : Option Addr} : IsL W Q (numT n) A := IsL.leaf
theorem str_IsL {W : World} {Q : Nat → Prop} {s : List UInt8} {A : Option Addr} : IsL W Q (strT s) A := IsL.leaf
set_option maxRecDepth 20000 in
set_option maxHeartbeats 3200000 in
theorem parts_any (p : PV) (k : Nat) (hc : p.crc = (k : Int)) (hk : k ≤ 2) (hr : p.ranged = true) (sum : List UInt8) (w : World) : Calls Try.prog 75 #[.agg p.c, str sum] w (fun e w' => ∃ A c, e = .returned (itemV (priT p k sum) A c) ∧ Ext w w' ∧ IsL w' (fun b => w.heap.size ≤ b) (priT p k sum) A) := by
  obtain ⟨h1, h2, h3, _, _, hfl, ht, hq, hl, ho, hn⟩ := PV.ranged_spec hr
  have KD := hid (fun W => eidItem_ok p.d h1 W)
  have KS := hid (fun W => eidItem_ok p.s h2 W)
  have KR := hid (fun W => eidItem_ok p.r h3 W)
  have HE := hid (((Mod.refl [] w).alloc (.cells p.c 68)).alloc (.cells #[.int .i64 0, .int .u64 0, .string ⟨#[]⟩, .slice none 0 0, .bool false] 38))
  have HB := hid ((Blk.new w 68 p.c).alloc (.cells #[.int .i64 0, .int .u64 0, .string ⟨#[]⟩, .slice none 0 0, .bool false] 38))
  have HR : Hid (Blk ((w.alloc (.cells p.c 68)).alloc (.cells #[.int .i64 0, .int .u64 0, .string ⟨#[]⟩, .slice none 0 0, .bool false] 38)) (w.heap.size + 1) 38 (itemC (numT 0) none 0)) := Blk.newL _ _ _ (by simp)
  have f0 : (0 : Int) ≤ (p.fl : Int) := by omega
  have HFL : Hid (p.fl < 18446744073709551616) := by unfold Hid; omega
  have t1 : IntKind.u64.wrap (k : Int) = (k : Int) := IntWalk.u64_in _ (by omega)
  have HK := hid hk
  have HC := hid hc
  clear h1 h2 h3 hfl ht hq hl ho hn hr hc hk
  go_enter Try.func75, Try.ntmps75
  go_upto_region 1 with fail
  generalize (w.alloc (.cells p.c 68)).alloc (.cells #[.int .i64 0, .int .u64 0, .string ⟨#[]⟩, .slice none 0 0, .bool false] 38) = V at *
  have HV : Hid (w.heap.size + 2 ≤ V.heap.size) := Nat.succ_le_of_lt HR.out.lt
  have c0 : V.cell? ⟨w.heap.size, 2, none⟩ = some (.int .i64 p.d.sch) := HB.out.cell 2
  have c1 : V.cell? ⟨w.heap.size, 3, none⟩ = some (str p.d.name) := HB.out.cell 3
  have c2 : V.cell? ⟨w.heap.size, 4, none⟩ = some (.int .u64 (p.d.node : Int)) := HB.out.cell 4
  have c3 : V.cell? ⟨w.heap.size, 5, none⟩ = some (.int .u64 (p.d.svc : Int)) := HB.out.cell 5
  go_upto_region 2 with (go_at_call 87; refine (KD.out _).mono ?_; rintro x wd ⟨Ad, rfl, hb, hl⟩)
  clear c0 c1 c2 c3
  have HE := hid ((HE.out.trans hb).alloc (.cells (itemC (eidT p.d) Ad 2) 38))
  have HB := hid ((HB.out.ext hb).alloc (.cells (itemC (eidT p.d) Ad 2) 38))
  have HR := hid ((HR.out.ext hb).alloc (.cells (itemC (eidT p.d) Ad 2) 38))
  have Dd := hid (Blk.new wd 38 (itemC (eidT p.d) Ad 2))
  have Nd : Hid (V.heap.size ≤ wd.heap.size) := hb.size
  have hl := IsL.weak (R := fun b => w.heap.size + 2 ≤ b ∧ b < wd.heap.size) (fun b h1 h2 => ⟨by have := HV.out; have h2 : V.heap.size ≤ b := h2; omega, h1⟩) _ hl
  have Ld := hid (IsL.ext hl ((Mod.refl [] wd).alloc (.cells (itemC (eidT p.d) Ad 2) 38)))
  clear hb hl
  generalize hGd : wd.alloc (.cells (itemC (eidT p.d) Ad 2) 38) = Vd at *
  have hSd : Hid (wd.heap.size < Vd.heap.size) := hid (by rw [← hGd]; simp)
  clear hGd
  have c0 : Vd.cell? ⟨w.heap.size, 6, none⟩ = some (.int .i64 p.s.sch) := HB.out.cell 6
  have c1 : Vd.cell? ⟨w.heap.size, 7, none⟩ = some (str p.s.name) := HB.out.cell 7
  have c2 : Vd.cell? ⟨w.heap.size, 8, none⟩ = some (.int .u64 (p.s.node : Int)) := HB.out.cell 8
  have c3 : Vd.cell? ⟨w.heap.size, 9, none⟩ = some (.int .u64 (p.s.svc : Int)) := HB.out.cell 9
  go_upto_region 3 with (go_at_call 87; refine (KS.out _).mono ?_; rintro x ws ⟨As, rfl, hb, hl⟩)
  clear c0 c1 c2 c3
  have HE := hid ((HE.out.trans hb).alloc (.cells (itemC (eidT p.s) As 2) 38))
  have HB := hid ((HB.out.ext hb).alloc (.cells (itemC (eidT p.s) As 2) 38))
  have HR := hid ((HR.out.ext hb).alloc (.cells (itemC (eidT p.s) As 2) 38))
  have Ds := hid (Blk.new ws 38 (itemC (eidT p.s) As 2))
  have Ns : Hid (Vd.heap.size ≤ ws.heap.size) := hb.size
  have hl := IsL.weak (R := fun b => w.heap.size + 2 ≤ b ∧ b < ws.heap.size) (fun b h1 h2 => ⟨by have := HV.out; have h2 : Vd.heap.size ≤ b := h2; have := hSd.out; have := Nd.out; omega, h1⟩) _ hl
  have Ls := hid (IsL.ext hl ((Mod.refl [] ws).alloc (.cells (itemC (eidT p.s) As 2) 38)))
  have Dd := hid ((Dd.out.ext hb).alloc (.cells (itemC (eidT p.s) As 2) 38))
  have Ld := hid (IsL.ext (Ld.out.ext hb) ((Mod.refl [] ws).alloc (.cells (itemC (eidT p.s) As 2) 38)))
  clear hb hl
  generalize hGs : ws.alloc (.cells (itemC (eidT p.s) As 2) 38) = Vs at *
  have hSs : Hid (ws.heap.size < Vs.heap.size) := hid (by rw [← hGs]; simp)
  clear hGs
  have c0 : Vs.cell? ⟨w.heap.size, 10, none⟩ = some (.int .i64 p.r.sch) := HB.out.cell 10
  have c1 : Vs.cell? ⟨w.heap.size, 11, none⟩ = some (str p.r.name) := HB.out.cell 11
  have c2 : Vs.cell? ⟨w.heap.size, 12, none⟩ = some (.int .u64 (p.r.node : Int)) := HB.out.cell 12
  have c3 : Vs.cell? ⟨w.heap.size, 13, none⟩ = some (.int .u64 (p.r.svc : Int)) := HB.out.cell 13
  go_upto_region 4 with (go_at_call 87; refine (KR.out _).mono ?_; rintro x wr ⟨Ar, rfl, hb, hl⟩)
  clear c0 c1 c2 c3
  have HE := hid ((HE.out.trans hb).alloc (.cells (itemC (eidT p.r) Ar 2) 38))
  have HB := hid ((HB.out.ext hb).alloc (.cells (itemC (eidT p.r) Ar 2) 38))
  have HR := hid ((HR.out.ext hb).alloc (.cells (itemC (eidT p.r) Ar 2) 38))
  have Dr := hid (Blk.new wr 38 (itemC (eidT p.r) Ar 2))
  have Nr : Hid (Vs.heap.size ≤ wr.heap.size) := hb.size
  have hl := IsL.weak (R := fun b => w.heap.size + 2 ≤ b ∧ b < wr.heap.size) (fun b h1 h2 => ⟨by have := HV.out; have h2 : Vs.heap.size ≤ b := h2; have := hSd.out; have := Nd.out; have := hSs.out; have := Ns.out; omega, h1⟩) _ hl
  have Lr := hid (IsL.ext hl ((Mod.refl [] wr).alloc (.cells (itemC (eidT p.r) Ar 2) 38)))
  have Dd := hid ((Dd.out.ext hb).alloc (.cells (itemC (eidT p.r) Ar 2) 38))
  have Ld := hid (IsL.ext (Ld.out.ext hb) ((Mod.refl [] wr).alloc (.cells (itemC (eidT p.r) Ar 2) 38)))
  have Ds := hid ((Ds.out.ext hb).alloc (.cells (itemC (eidT p.r) Ar 2) 38))
  have Ls := hid (IsL.ext (Ls.out.ext hb) ((Mod.refl [] wr).alloc (.cells (itemC (eidT p.r) Ar 2) 38)))
  clear hb hl
  generalize hGr : wr.alloc (.cells (itemC (eidT p.r) Ar 2) 38) = Vr at *
  have hSr : Hid (wr.heap.size < Vr.heap.size) := hid (by rw [← hGr]; simp)
  clear hGr
  have xf : ∀ e : Later Vr, e.x.cell? ⟨w.heap.size, 0, none⟩ = some (.int .u64 (p.fl : Int)) := HB.out.cellL 0 rfl
  have xg : ∀ e : Later Vr, e.x.cell? ⟨w.heap.size, 1, none⟩ = some (.int .i64 (k : Int)) := HB.out.cellL 1 (by show some (Value.int .i64 p.crc) = _; rw [HC.out])
  have xt : ∀ e : Later Vr, e.x.cell? ⟨w.heap.size, 14, none⟩ = some (.int .u64 (p.t : Int)) := HB.out.cellL 14 rfl
  have xq : ∀ e : Later Vr, e.x.cell? ⟨w.heap.size, 15, none⟩ = some (.int .u64 (p.q : Int)) := HB.out.cellL 15 rfl
  have xl : ∀ e : Later Vr, e.x.cell? ⟨w.heap.size, 16, none⟩ = some (.int .u64 (p.l : Int)) := HB.out.cellL 16 rfl
  have xd0 : ∀ e : Later Vr, e.x.cell? ⟨wd.heap.size, 0, none⟩ = some (.int .i64 (eidT p.d).kind) := Dd.out.cellL 0 rfl
  have xd1 : ∀ e : Later Vr, e.x.cell? ⟨wd.heap.size, 1, none⟩ = some (.int .u64 ((eidT p.d).n : Int)) := Dd.out.cellL 1 rfl
  have xd2 : ∀ e : Later Vr, e.x.cell? ⟨wd.heap.size, 2, none⟩ = some (str (eidT p.d).s) := Dd.out.cellL 2 rfl
  have xd3 : ∀ e : Later Vr, e.x.cell? ⟨wd.heap.size, 3, none⟩ = some (.slice Ad (eidT p.d).k 2) := Dd.out.cellL 3 rfl
  have xd4 : ∀ e : Later Vr, e.x.cell? ⟨wd.heap.size, 4, none⟩ = some (.bool (eidT p.d).op) := Dd.out.cellL 4 rfl
  have xs0 : ∀ e : Later Vr, e.x.cell? ⟨ws.heap.size, 0, none⟩ = some (.int .i64 (eidT p.s).kind) := Ds.out.cellL 0 rfl
  have xs1 : ∀ e : Later Vr, e.x.cell? ⟨ws.heap.size, 1, none⟩ = some (.int .u64 ((eidT p.s).n : Int)) := Ds.out.cellL 1 rfl
  have xs2 : ∀ e : Later Vr, e.x.cell? ⟨ws.heap.size, 2, none⟩ = some (str (eidT p.s).s) := Ds.out.cellL 2 rfl
  have xs3 : ∀ e : Later Vr, e.x.cell? ⟨ws.heap.size, 3, none⟩ = some (.slice As (eidT p.s).k 2) := Ds.out.cellL 3 rfl
  have xs4 : ∀ e : Later Vr, e.x.cell? ⟨ws.heap.size, 4, none⟩ = some (.bool (eidT p.s).op) := Ds.out.cellL 4 rfl
  have xr0 : ∀ e : Later Vr, e.x.cell? ⟨wr.heap.size, 0, none⟩ = some (.int .i64 (eidT p.r).kind) := Dr.out.cellL 0 rfl
  have xr1 : ∀ e : Later Vr, e.x.cell? ⟨wr.heap.size, 1, none⟩ = some (.int .u64 ((eidT p.r).n : Int)) := Dr.out.cellL 1 rfl
  have xr2 : ∀ e : Later Vr, e.x.cell? ⟨wr.heap.size, 2, none⟩ = some (str (eidT p.r).s) := Dr.out.cellL 2 rfl
  have xr3 : ∀ e : Later Vr, e.x.cell? ⟨wr.heap.size, 3, none⟩ = some (.slice Ar (eidT p.r).k 2) := Dr.out.cellL 3 rfl
  have xr4 : ∀ e : Later Vr, e.x.cell? ⟨wr.heap.size, 4, none⟩ = some (.bool (eidT p.r).op) := Dr.out.cellL 4 rfl
  obtain ⟨e, he⟩ := Later.self Vr
  have HTC : Hid (∀ L : List T, (listT L).k = L.length) := fun L => rfl
  rw [he]
  clear he
  go_region_held3 (fun w' => w'.cell? ⟨w.heap.size, 0, none⟩ = some (.int .u64 (p.fl : Int)) ∧ w'.cell? ⟨w.heap.size, 1, none⟩ = some (.int .i64 (k : Int)) ∧ w'.cell? ⟨w.heap.size, 14, none⟩ = some (.int .u64 (p.t : Int)) ∧ w'.cell? ⟨w.heap.size, 15, none⟩ = some (.int .u64 (p.q : Int)) ∧ w'.cell? ⟨w.heap.size, 16, none⟩ = some (.int .u64 (p.l : Int)) ∧ w'.cell? ⟨wd.heap.size, 0, none⟩ = some (.int .i64 (eidT p.d).kind) ∧ w'.cell? ⟨wd.heap.size, 1, none⟩ = some (.int .u64 ((eidT p.d).n : Int)) ∧ w'.cell? ⟨wd.heap.size, 2, none⟩ = some (str (eidT p.d).s) ∧ w'.cell? ⟨wd.heap.size, 3, none⟩ = some (.slice Ad (eidT p.d).k 2) ∧ w'.cell? ⟨wd.heap.size, 4, none⟩ = some (.bool (eidT p.d).op) ∧ w'.cell? ⟨ws.heap.size, 0, none⟩ = some (.int .i64 (eidT p.s).kind) ∧ w'.cell? ⟨ws.heap.size, 1, none⟩ = some (.int .u64 ((eidT p.s).n : Int)) ∧ w'.cell? ⟨ws.heap.size, 2, none⟩ = some (str (eidT p.s).s) ∧ w'.cell? ⟨ws.heap.size, 3, none⟩ = some (.slice As (eidT p.s).k 2) ∧ w'.cell? ⟨ws.heap.size, 4, none⟩ = some (.bool (eidT p.s).op) ∧ w'.cell? ⟨wr.heap.size, 0, none⟩ = some (.int .i64 (eidT p.r).kind) ∧ w'.cell? ⟨wr.heap.size, 1, none⟩ = some (.int .u64 ((eidT p.r).n : Int)) ∧ w'.cell? ⟨wr.heap.size, 2, none⟩ = some (str (eidT p.r).s) ∧ w'.cell? ⟨wr.heap.size, 3, none⟩ = some (.slice Ar (eidT p.r).k 2) ∧ w'.cell? ⟨wr.heap.size, 4, none⟩ = some (.bool (eidT p.r).op)) (go_keep)
    (first
      | (go_at_call 89; (try rw [t1]); refine (NumI_any _ _).mono ?_; rintro x w3 ⟨rfl, hb3⟩; (try have HP := hid (Blk.ext HP.out hb3)); obtain ⟨e, rfl⟩ : ∃ e' : Later Vr, w3 = e'.x := ⟨⟨w3, Mod.trans (by first | exact Later.h _ | exact (Later.h _).drew | exact (Later.h _).alloc _) hb3⟩, rfl⟩)
      | (go_at_call 74; have HP := hid (Blk.new e.x 38 #[.int .i64 0, .int .u64 (p.t : Int), str [], .slice none 0 0, .bool false, .int .i64 0, .int .u64 (p.q : Int), str [], .slice none 0 0, .bool false]); have HG2 : Hid (w.heap.size + 2 ≤ e.x.heap.size) := Nat.le_trans (Nat.succ_le_of_lt HR.out.lt) e.h.size; generalize e.x.heap.size = g2 at *; refine (ListV_any _ _ _ _).mono ?_; rintro x w3 ⟨rfl, hb3⟩; have HP := hid (Blk.ext HP.out hb3); obtain ⟨e, rfl⟩ : ∃ e' : Later Vr, w3 = e'.x := ⟨⟨w3, Mod.trans (by first | exact Later.h _ | exact (Later.h _).drew | exact (Later.h _).alloc _) hb3⟩, rfl⟩))
  go_upto_region 5 with fail
  clear xf xg xt xq xl xd0 xd1 xd2 xd3 xd4 xs0 xs1 xs2 xs3 xs4 xr0 xr1 xr2 xr3 xr4
  generalize hV8 : World.alloc e.x _ = V8
  have HE : Hid (Ext w V8) := hid (by rw [← hV8]; exact (HE.out.trans e.h).alloc _)
  have HB : Hid (Blk V8 w.heap.size 68 p.c) := hid (by rw [← hV8]; exact (HB.out.later e).alloc _)
  have HR : Hid (Blk V8 (w.heap.size + 1) 38 (itemC (numT 0) none 0)) := hid (by rw [← hV8]; exact (HR.out.later e).alloc _)
  have H8 : Hid (Blk V8 e.x.heap.size 38 #[.int .i64 0, .int .u64 7, str [], .slice none 0 0, .bool false, .int .i64 0, .int .u64 (p.fl : Int), str [], .slice none 0 0, .bool false, .int .i64 0, .int .u64 (k : Int), str [], .slice none 0 0, .bool false, .int .i64 (eidT p.d).kind, .int .u64 ((eidT p.d).n : Int), str (eidT p.d).s, .slice Ad (eidT p.d).k 2, .bool (eidT p.d).op, .int .i64 (eidT p.s).kind, .int .u64 ((eidT p.s).n : Int), str (eidT p.s).s, .slice As (eidT p.s).k 2, .bool (eidT p.s).op, .int .i64 (eidT p.r).kind, .int .u64 ((eidT p.r).n : Int), str (eidT p.r).s, .slice Ar (eidT p.r).k 2, .bool (eidT p.r).op, .int .i64 4, .int .u64 0, str [], .slice (some ⟨g2, 0, none⟩) 2 2, .bool false, .int .i64 0, .int .u64 (p.l : Int), str [], .slice none 0 0, .bool false]) := hid (by rw [← hV8]; exact Blk.new _ _ _)
  have HPG := hid HP.out.lt
  have HP : Hid (Blk V8 g2 38 #[.int .i64 0, .int .u64 (p.t : Int), str [], .slice none 0 0, .bool false, .int .i64 0, .int .u64 (p.q : Int), str [], .slice none 0 0, .bool false]) := hid (by rw [← hV8]; exact HP.out.alloc _)
  have Ld : Hid (IsL V8 (fun b => w.heap.size + 2 ≤ b ∧ b < wd.heap.size) (eidT p.d) Ad) := hid (by rw [← hV8]; exact IsL.ext (Ld.out.ext e.h) ((Mod.refl [] e.x).alloc _))
  have Ls : Hid (IsL V8 (fun b => w.heap.size + 2 ≤ b ∧ b < ws.heap.size) (eidT p.s) As) := hid (by rw [← hV8]; exact IsL.ext (Ls.out.ext e.h) ((Mod.refl [] e.x).alloc _))
  have Lr : Hid (IsL V8 (fun b => w.heap.size + 2 ≤ b ∧ b < wr.heap.size) (eidT p.r) Ar) := hid (by rw [← hV8]; exact IsL.ext (Lr.out.ext e.h) ((Mod.refl [] e.x).alloc _))
  have HG8 : Hid (Vr.heap.size ≤ e.x.heap.size) := e.h.size
  clear hV8 hb3
  generalize e.x.heap.size = g8 at *
  have HO : Hid (V8.ownsRow (w.heap.size + 2) 38 5 (.slice (some ⟨g8, 0, none⟩) 8 8) 8 (flatC (chL [numT 7, numT p.fl, numT k, eidT p.d, eidT p.s, eidT p.r, listT [numT p.t, numT p.q], numT p.l]) (acL [(none, 0), (none, 0), (none, 0), (Ad, 2), (As, 2), (Ar, 2), (some ⟨g2, 0, none⟩, 2), (none, 0)]) 8)) := own_of_blk H8.out (by have := HG8.out; have := hSr.out; have := Nr.out; have := hSs.out; have := Ns.out; have := hSd.out; have := Nd.out; have := HV.out; omega) (by decide) rfl
  have HGG : Hid (g8 ≤ g8) := Nat.le_refl _
  have HG8b : Hid (w.heap.size + 2 ≤ g8) := by have := HG8.out; have := hSr.out; have := Nr.out; have := hSs.out; have := Ns.out; have := hSd.out; have := Nd.out; have := HV.out; unfold Hid; omega
  have HLT8 := hid H8.out.lt
  have CH : Hid (∀ i, i < 8 → IsL V8 (fun b => w.heap.size + 2 ≤ b ∧ b < g8) (chL [numT 7, numT p.fl, numT k, eidT p.d, eidT p.s, eidT p.r, listT [numT p.t, numT p.q], numT p.l] i) (acL [(none, 0), (none, 0), (none, 0), (Ad, 2), (As, 2), (Ar, 2), (some ⟨g2, 0, none⟩, 2), (none, 0)] i).1) := fun i hi => by
    have q1 := HG8.out; have q2 := hSr.out; have q3 := Nr.out; have q4 := hSs.out; have q5 := Ns.out; have q6 := hSd.out; have q7 := Nd.out; have q8 := HV.out
    match i, hi with
    | 0, _ => exact num_IsL
    | 1, _ => exact num_IsL
    | 2, _ => exact num_IsL
    | 3, _ => exact IsL.weak (fun b _ h => ⟨h.1, by have := h.2; omega⟩) (eidT p.d) Ld.out
    | 4, _ => exact IsL.weak (fun b _ h => ⟨h.1, by have := h.2; omega⟩) (eidT p.s) Ls.out
    | 5, _ => exact IsL.weak (fun b _ h => ⟨h.1, by have := h.2; omega⟩) (eidT p.r) Lr.out
    | 6, _ => exact fun _ => ⟨g2, 0, rfl, HP.out.lt, ⟨HG2.out, HPG.out⟩, fun j hj => by
        have hj : j = 0 ∨ j = 1 := by have : j < 2 := hj; omega
        rcases hj with rfl | rfl
        · exact ⟨none, 0, ⟨HP.out.cell 0, HP.out.cell 1, HP.out.cell 2, HP.out.cell 3, HP.out.cell 4⟩, num_IsL⟩
        · exact ⟨none, 0, ⟨HP.out.cell 5, HP.out.cell 6, HP.out.cell 7, HP.out.cell 8, HP.out.cell 9⟩, num_IsL⟩⟩
    | 7, _ => exact num_IsL
  clear H8 HP Ld Ls Lr HG8 HPG hSr Nr hSs Ns hSd Nd KD KS KR Dd Ds Dr HG2
  have HW8 : Hid (w.heap.size + 2 ≤ g8) := by have := HG8b.out; unfold Hid; omega
  obtain ⟨i0, hi, hz0, hz1, hz2⟩ := info_parts infoItem
  have HINF := hid (And.intro hi (And.intro hz0 (And.intro hz1 hz2)))
  clear hi hz0 hz1 hz2
  have HLG := HLT8
  have y0 : ∀ e : Later V8, e.x.cell? ⟨w.heap.size, 0, none⟩ = some (.int .u64 (p.fl : Int)) := HB.out.cellL 0 rfl
  obtain ⟨e, he⟩ := Later.self V8
  rw [he]
  clear he
  by_cases hx : p.fl % 2 = 1
  · have a1 : bits .and .u64 (p.fl : Int) 1 = 1 := by have h := andP_yes (k := 0) HFL.out (by omega) (by simpa using hx); simpa using h
    have HX := hid hx
    clear hx
    have y17 : ∀ e : Later V8, e.x.cell? ⟨w.heap.size, 17, none⟩ = some (.int .u64 (p.o : Int)) := HB.out.cellL 17 rfl
    have y18 : ∀ e : Later V8, e.x.cell? ⟨w.heap.size, 18, none⟩ = some (.int .u64 (p.n : Int)) := HB.out.cellL 18 rfl
    have y18a : ∀ (e : Later V8) (ob : Obj), (e.x.alloc ob).cell? ⟨w.heap.size, 18, none⟩ = some (.int .u64 (p.n : Int)) := fun e ob => ((HB.out.later e).alloc ob).cell 18
    have y17a : ∀ (e : Later V8) (ob : Obj), (e.x.alloc ob).cell? ⟨w.heap.size, 17, none⟩ = some (.int .u64 (p.o : Int)) := fun e ob => ((HB.out.later e).alloc ob).cell 17
    have HOE : Hid (∀ e : Later V8, e.x.ownsRow (w.heap.size + 2) 38 5 (.slice (some ⟨g8, 0, none⟩) 8 8) 8 (flatC (chL [numT 7, numT p.fl, numT k, eidT p.d, eidT p.s, eidT p.r, listT [numT p.t, numT p.q], numT p.l]) (acL [(none, 0), (none, 0), (none, 0), (Ad, 2), (As, 2), (Ar, 2), (some ⟨g2, 0, none⟩, 2), (none, 0)]) 8)) := fun e => ownsRow_mod HO.out e.h (fun _ _ => by simp)
    obtain ⟨hi, hz0, hz1, hz2⟩ := HINF.out
    go_upto_region 6 with fail
    go_region_held3 (fun w' => w'.cell? ⟨w.heap.size, 17, none⟩ = some (.int .u64 (p.o : Int)) ∧ w'.cell? ⟨w.heap.size, 18, none⟩ = some (.int .u64 (p.n : Int))) (go_keep)
      (first
        | (go_at_call 89; refine (NumI_any _ _).mono ?_; rintro x w3 ⟨rfl, hb3⟩; obtain ⟨e, rfl⟩ : ∃ e' : Later V8, w3 = e'.x := ⟨⟨w3, Mod.trans (by first | exact Later.h _ | exact (Later.h _).drew | exact (Later.h _).alloc _) hb3⟩, rfl⟩)
        | (refine step_append_lies _ (by rfl) _ _ 36 (by rfl) (w.heap.size + 2) 38 i0 _ 5 64 Try.underlying36 hi hz0 hz1 hz2 (by rfl) (by decide) _ 8 _ (by rfl) ((HOE.out e).alloc _) ⟨e.x.heap.size, 0, none⟩ 2 2 [.int .i64 0, .int .u64 (p.o : Int), str [], .slice none 0 0, .bool false, .int .i64 0, .int .u64 (p.n : Int), str [], .slice none 0 0, .bool false] (by rfl) (by rfl) (World.news_of_block (heap_alloc_new _ _)) (fun u hu => by simp only [List.mem_cons, List.not_mem_nil, or_false] at hu; rcases hu with h | h | h | h | h | h | h | h | h | h <;> (subst h; rfl)) (by decide) (by decide) (by decide) (by have := HW8.out; have := HLT8.out; have := e.h.size; simp; omega) (e.x.heap.size + 1) (by simp) ?_; intro g9 c9 w9 hown hgrow hat hlt; have z17 : w9.cell? ⟨w.heap.size, 17, none⟩ = some (.int .u64 (p.o : Int)) := (hgrow.cell_far _ (by have := HW8.out; have := HLT8.out; have := e.h.size; simp; omega) (by simp [Value.ownBlock]; have := HW8.out; omega)).trans (y17a e _); have z18 : w9.cell? ⟨w.heap.size, 18, none⟩ = some (.int .u64 (p.n : Int)) := (hgrow.cell_far _ (by have := HW8.out; have := HLT8.out; have := e.h.size; simp; omega) (by simp [Value.ownBlock]; have := HW8.out; omega)).trans (y18a e _)))
    go_upto_region 7 with fail
    clear y17 y18 y17a y18a z17 z18 hi hz0 hz1 hz2 HOE y0
    have hm : Mod [g8] V8 w9 := Mod.grown (by first | exact (Mod.of_ext e.h).alloc _ | exact ((Mod.of_ext e.h).alloc _).drew | exact ((Mod.of_ext e.h).drew).alloc _) hgrow (fun b hb => by simp [Value.ownBlock] at hb; subst hb; exact .inl (by simp))
    have HGE : Hid (g8 ≤ g9) := by
      have h1 := HGG.out
      have h2 := HLT8.out
      have h3 := e.h.size
      rcases hat with h | h
      · simp [Value.ownBlock] at h; unfold Hid; omega
      · unfold Hid; omega
    have HO : Hid (w9.ownsRow (w.heap.size + 2) 38 5 (.slice (some ⟨g9, 0, none⟩) 10 c9) 10 (flatC (chL [numT 7, numT p.fl, numT k, eidT p.d, eidT p.s, eidT p.r, listT [numT p.t, numT p.q], numT p.l, numT p.o, numT p.n]) (acL [(none, 0), (none, 0), (none, 0), (Ad, 2), (As, 2), (Ar, 2), (some ⟨g2, 0, none⟩, 2), (none, 0), (none, 0), (none, 0)]) 10)) := hown
    have HE : Hid (Ext w w9) := (HE.out.of_ext.trans hm).new (fun b hb => .inr (by rw [List.mem_singleton] at hb; subst hb; have := HGG.out; have := HW8.out; omega))
    have HB : Hid (Blk w9 w.heap.size 68 p.c) := HB.out.mod hm (by have := HGG.out; have := HW8.out; simp; omega)
    have HR : Hid (Blk w9 (w.heap.size + 1) 38 (itemC (numT 0) none 0)) := HR.out.mod hm (by have := HGG.out; have := HW8.out; simp; omega)
    have CH : Hid (∀ i, i < 10 → IsL w9 (fun b => w.heap.size + 2 ≤ b ∧ b < g8) (chL [numT 7, numT p.fl, numT k, eidT p.d, eidT p.s, eidT p.r, listT [numT p.t, numT p.q], numT p.l, numT p.o, numT p.n] i) (acL [(none, 0), (none, 0), (none, 0), (Ad, 2), (As, 2), (Ar, 2), (some ⟨g2, 0, none⟩, 2), (none, 0), (none, 0), (none, 0)] i).1) := fun i hi => by
      by_cases h : i < 8
      · have q := IsL.mod hm (fun b hb _ hs => by rw [List.mem_singleton] at hs; subst hs; have := HGG.out; have := hb.2; omega) _ (CH.out i h)
        match i, h with
        | 0, _ => exact q
        | 1, _ => exact q
        | 2, _ => exact q
        | 3, _ => exact q
        | 4, _ => exact q
        | 5, _ => exact q
        | 6, _ => exact q
        | 7, _ => exact q
      · obtain ⟨j, rfl⟩ : ∃ j, i = 8 + j := ⟨i - 8, by omega⟩
        match j, hi with
        | 0, _ => exact num_IsL
        | 1, _ => exact num_IsL
        | j + 2, h => exact absurd h (by omega)
    have HLT8 : Hid (g8 < w9.heap.size) := by have := hm.size; have := HLT8.out; unfold Hid; omega
    have HLG := hid hlt
    clear hown hgrow hat hlt hm HGG
    have HGG := HGE
    clear HGE
    obtain ⟨e, he⟩ := Later.self w9
    rw [he]
    clear he
    have y1 : ∀ e : Later w9, e.x.cell? ⟨w.heap.size, 1, none⟩ = some (.int .i64 (k : Int)) := HB.out.cellL 1 (by show some (Value.int .i64 p.crc) = _; rw [HC.out])
    by_cases hk0 : k = 0
    · have kka : (((k : Int)) == (0)) = true := by rw [beq_iff_eq]; omega
      have kkb : (((k : Int)) = (0)) = True := eq_true (by omega)
      have kkc : (((k : Int)) != (0)) = false := by rw [bne_eq_false_iff_eq]; omega
      have kza : decide (k = 0) = true := decide_eq_true (by omega)
      have kzb : (k = 0) = True := eq_true (by omega)
      have HK0 := hid hk0
      clear hk0
      go_upto_region 9 with fail
      have HLL : Hid (priT p k sum = listT [numT 7, numT p.fl, numT k, eidT p.d, eidT p.s, eidT p.r, listT [numT p.t, numT p.q], numT p.l, numT p.o, numT p.n]) := by unfold Hid priT priL; rw [if_pos HX.out, if_pos HK0.out]; rfl
      go_wp2_with (go_at_call 74; refine (ListV_any _ _ _ _).mono ?_; rintro x w3 ⟨rfl, hb3⟩; obtain ⟨e, rfl⟩ : ∃ e' : Later w9, w3 = e'.x := ⟨⟨w3, Mod.trans (by first | exact Later.h _ | exact (Later.h _).drew | exact (Later.h _).alloc _) hb3⟩, rfl⟩; obtain ⟨c0, c1, c2, c3, c4⟩ := cells5 (HR.out.later e); have f0 := (HR.out.later e).frozen 0; have f1 := (HR.out.later e).frozen 1; have f2 := (HR.out.later e).frozen 2; have f3 := (HR.out.later e).frozen 3; have f4 := (HR.out.later e).frozen 4)
      obtain ⟨d0, d1, d2, d3, d4⟩ := cells5 (set5_blk (t := listT [numT 7, numT p.fl, numT k, eidT p.d, eidT p.s, eidT p.r, listT [numT p.t, numT p.q], numT p.l, numT p.o, numT p.n]) (A := some ⟨g9, 0, none⟩) (c := c9) (HR.out.later e))
      clear c0 c1 c2 c3 c4 f0 f1 f2 f3 f4
      show bodyPost _ _ _ _ _ (set5 e.x (w.heap.size + 1) (listT [numT 7, numT p.fl, numT k, eidT p.d, eidT p.s, eidT p.r, listT [numT p.t, numT p.q], numT p.l, numT p.o, numT p.n]) (some ⟨g9, 0, none⟩) c9)
      refine bodyPost_ret (v := itemV (listT [numT 7, numT p.fl, numT k, eidT p.d, eidT p.s, eidT p.r, listT [numT p.t, numT p.q], numT p.l, numT p.o, numT p.n]) (some ⟨g9, 0, none⟩) c9) (by simp [results, Try.results75, go_sem, d0, d1, d2, d3, d4]) rfl ⟨some ⟨g9, 0, none⟩, c9, by rw [HLL.out], set5_mod (HE.out.trans e.h) (by omega), ?_⟩
      rw [HLL.out]
      refine IsL.weak (fun _ _ h => by have : w.heap.size + 2 ≤ _ := h; omega) _ (IsL.mod (Q := fun b => w.heap.size + 2 ≤ b) set5_modb (fun b hb _ hs => by rw [List.mem_singleton] at hs; have : w.heap.size + 2 ≤ b := hb; omega) _ ?_)
      exact list_IsL (base := w.heap.size + 2) (c := c9) (by have := HLG.out; have := e.h.size; omega) (by have := HGG.out; have := HW8.out; omega) (ownsRow_mod HO.out e.h (fun _ _ => by simp)) (fun i hi => IsL.weak (fun b _ h => h.1) _ ((CH.out i hi).ext e.h))
    · have kka : (((k : Int)) == (0)) = false := by rw [beq_eq_false_iff_ne]; omega
      have kkb : (((k : Int)) = (0)) = False := eq_false (by omega)
      have kkc : (((k : Int)) != (0)) = true := by rw [bne_iff_ne]; omega
      have kza : decide (k = 0) = false := decide_eq_false (by omega)
      have kzb : (k = 0) = False := eq_false (by omega)
      have HK0 := hid hk0
      clear hk0
      have HOE : Hid (∀ e : Later w9, e.x.ownsRow (w.heap.size + 2) 38 5 (.slice (some ⟨g9, 0, none⟩) 10 c9) 10 (flatC (chL [numT 7, numT p.fl, numT k, eidT p.d, eidT p.s, eidT p.r, listT [numT p.t, numT p.q], numT p.l, numT p.o, numT p.n]) (acL [(none, 0), (none, 0), (none, 0), (Ad, 2), (As, 2), (Ar, 2), (some ⟨g2, 0, none⟩, 2), (none, 0), (none, 0), (none, 0)]) 10)) := fun e => ownsRow_mod HO.out e.h (fun _ _ => by simp)
      obtain ⟨hi, hz0, hz1, hz2⟩ := HINF.out
      go_upto_region 9 with (first | (go_at_call 70; refine (StrV_any _ _).mono ?_; rintro x w3 ⟨rfl, hb3⟩; obtain ⟨e, rfl⟩ : ∃ e' : Later w9, w3 = e'.x := ⟨⟨w3, Mod.trans (by first | exact Later.h _ | exact (Later.h _).drew | exact (Later.h _).alloc _) hb3⟩, rfl⟩) | (at_builtin; refine wpList_append_lies _ rfl _ _ 36 (by rfl) (w.heap.size + 2) 38 i0 _ 5 64 Try.underlying36 hi hz0 hz1 hz2 (by rfl) (by decide) _ 10 _ (by rfl) ((HOE.out e).alloc _) ⟨e.x.heap.size, 0, none⟩ 1 1 [.int .i64 (strT sum).kind, .int .u64 ((strT sum).n : Int), str (strT sum).s, .slice none (strT sum).k 0, .bool (strT sum).op] (by rfl) (by rfl) (World.news_of_block (heap_alloc_new _ _)) (fun u hu => by simp only [List.mem_cons, List.not_mem_nil, or_false] at hu; rcases hu with h | h | h | h | h <;> (subst h; rfl)) (by decide) (by decide) (by decide) (by have := HW8.out; have := HLT8.out; have := e.h.size; simp; omega) (e.x.heap.size + 1) (by simp) ?_; intro g' c' w' hown hgrow hat hlt))
      clear hi hz0 hz1 hz2 HOE y1
      have hm : Mod [g9] w9 w' := Mod.grown (by first | exact (Mod.of_ext e.h).alloc _ | exact ((Mod.of_ext e.h).alloc _).drew | exact ((Mod.of_ext e.h).drew).alloc _) hgrow (fun b hb => by simp [Value.ownBlock] at hb; subst hb; exact .inl (by simp))
      have HGE : Hid (g8 ≤ g') := by
        have h1 := HGG.out
        have h2 := HLT8.out
        have h3 := e.h.size
        rcases hat with h | h
        · simp [Value.ownBlock] at h; unfold Hid; omega
        · unfold Hid; omega
      have HO : Hid (w'.ownsRow (w.heap.size + 2) 38 5 (.slice (some ⟨g', 0, none⟩) 11 c') 11 (flatC (chL [numT 7, numT p.fl, numT k, eidT p.d, eidT p.s, eidT p.r, listT [numT p.t, numT p.q], numT p.l, numT p.o, numT p.n, strT sum]) (acL [(none, 0), (none, 0), (none, 0), (Ad, 2), (As, 2), (Ar, 2), (some ⟨g2, 0, none⟩, 2), (none, 0), (none, 0), (none, 0), (none, 0)]) 11)) := hown
      have HE : Hid (Ext w w') := (HE.out.of_ext.trans hm).new (fun b hb => .inr (by rw [List.mem_singleton] at hb; subst hb; have := HGG.out; have := HW8.out; omega))
      have HB : Hid (Blk w' w.heap.size 68 p.c) := HB.out.mod hm (by have := HGG.out; have := HW8.out; simp; omega)
      have HR : Hid (Blk w' (w.heap.size + 1) 38 (itemC (numT 0) none 0)) := HR.out.mod hm (by have := HGG.out; have := HW8.out; simp; omega)
      have CH : Hid (∀ i, i < 11 → IsL w' (fun b => w.heap.size + 2 ≤ b ∧ b < g8) (chL [numT 7, numT p.fl, numT k, eidT p.d, eidT p.s, eidT p.r, listT [numT p.t, numT p.q], numT p.l, numT p.o, numT p.n, strT sum] i) (acL [(none, 0), (none, 0), (none, 0), (Ad, 2), (As, 2), (Ar, 2), (some ⟨g2, 0, none⟩, 2), (none, 0), (none, 0), (none, 0), (none, 0)] i).1) := fun i hi => by
        by_cases h : i < 10
        · have q := IsL.mod hm (fun b hb _ hs => by rw [List.mem_singleton] at hs; subst hs; have := HGG.out; have := hb.2; omega) _ (CH.out i h)
          match i, h with
          | 0, _ => exact q
          | 1, _ => exact q
          | 2, _ => exact q
          | 3, _ => exact q
          | 4, _ => exact q
          | 5, _ => exact q
          | 6, _ => exact q
          | 7, _ => exact q
          | 8, _ => exact q
          | 9, _ => exact q
        · obtain ⟨j, rfl⟩ : ∃ j, i = 10 + j := ⟨i - 10, by omega⟩
          match j, hi with
          | 0, _ => exact str_IsL
          | j + 1, h => exact absurd h (by omega)
      have HLT8 : Hid (g8 < w'.heap.size) := by have := hm.size; have := HLT8.out; unfold Hid; omega
      have HLG := hid hlt
      clear hown hgrow hat hlt hm HGG
      have HGG := HGE
      clear HGE
      obtain ⟨e, he⟩ := Later.self w'
      rw [he]
      clear he
      have HLL : Hid (priT p k sum = listT [numT 7, numT p.fl, numT k, eidT p.d, eidT p.s, eidT p.r, listT [numT p.t, numT p.q], numT p.l, numT p.o, numT p.n, strT sum]) := by unfold Hid priT priL; rw [if_pos HX.out, if_neg HK0.out]; rfl
      go_wp2_with (go_at_call 74; refine (ListV_any _ _ _ _).mono ?_; rintro x w3 ⟨rfl, hb3⟩; obtain ⟨e, rfl⟩ : ∃ e' : Later w', w3 = e'.x := ⟨⟨w3, Mod.trans (by first | exact Later.h _ | exact (Later.h _).drew | exact (Later.h _).alloc _) hb3⟩, rfl⟩; obtain ⟨c0, c1, c2, c3, c4⟩ := cells5 (HR.out.later e); have f0 := (HR.out.later e).frozen 0; have f1 := (HR.out.later e).frozen 1; have f2 := (HR.out.later e).frozen 2; have f3 := (HR.out.later e).frozen 3; have f4 := (HR.out.later e).frozen 4)
      obtain ⟨d0, d1, d2, d3, d4⟩ := cells5 (set5_blk (t := listT [numT 7, numT p.fl, numT k, eidT p.d, eidT p.s, eidT p.r, listT [numT p.t, numT p.q], numT p.l, numT p.o, numT p.n, strT sum]) (A := some ⟨g', 0, none⟩) (c := c') (HR.out.later e))
      clear c0 c1 c2 c3 c4 f0 f1 f2 f3 f4
      show bodyPost _ _ _ _ _ (set5 e.x (w.heap.size + 1) (listT [numT 7, numT p.fl, numT k, eidT p.d, eidT p.s, eidT p.r, listT [numT p.t, numT p.q], numT p.l, numT p.o, numT p.n, strT sum]) (some ⟨g', 0, none⟩) c')
      refine bodyPost_ret (v := itemV (listT [numT 7, numT p.fl, numT k, eidT p.d, eidT p.s, eidT p.r, listT [numT p.t, numT p.q], numT p.l, numT p.o, numT p.n, strT sum]) (some ⟨g', 0, none⟩) c') (by simp [results, Try.results75, go_sem, d0, d1, d2, d3, d4]) rfl ⟨some ⟨g', 0, none⟩, c', by rw [HLL.out], set5_mod (HE.out.trans e.h) (by omega), ?_⟩
      rw [HLL.out]
      refine IsL.weak (fun _ _ h => by have : w.heap.size + 2 ≤ _ := h; omega) _ (IsL.mod (Q := fun b => w.heap.size + 2 ≤ b) set5_modb (fun b hb _ hs => by rw [List.mem_singleton] at hs; have : w.heap.size + 2 ≤ b := hb; omega) _ ?_)
      exact list_IsL (base := w.heap.size + 2) (c := c') (by have := HLG.out; have := e.h.size; omega) (by have := HGG.out; have := HW8.out; omega) (ownsRow_mod HO.out e.h (fun _ _ => by simp)) (fun i hi => IsL.weak (fun b _ h => h.1) _ ((CH.out i hi).ext e.h))
  · have a1 : bits .and .u64 (p.fl : Int) 1 = 0 := by have h := andP_no (k := 0) HFL.out (by omega) (by have : p.fl % 2 = 0 := (by omega); simpa using this); simpa using h
    have HX := hid hx
    clear hx
    go_upto_region 7 with fail
    have y1 : ∀ e : Later V8, e.x.cell? ⟨w.heap.size, 1, none⟩ = some (.int .i64 (k : Int)) := HB.out.cellL 1 (by show some (Value.int .i64 p.crc) = _; rw [HC.out])
    by_cases hk0 : k = 0
    · have kka : (((k : Int)) == (0)) = true := by rw [beq_iff_eq]; omega
      have kkb : (((k : Int)) = (0)) = True := eq_true (by omega)
      have kkc : (((k : Int)) != (0)) = false := by rw [bne_eq_false_iff_eq]; omega
      have kza : decide (k = 0) = true := decide_eq_true (by omega)
      have kzb : (k = 0) = True := eq_true (by omega)
      have HK0 := hid hk0
      clear hk0
      go_upto_region 9 with fail
      have HLL : Hid (priT p k sum = listT [numT 7, numT p.fl, numT k, eidT p.d, eidT p.s, eidT p.r, listT [numT p.t, numT p.q], numT p.l]) := by unfold Hid priT priL; rw [if_neg HX.out, if_pos HK0.out]; rfl
      go_wp2_with (go_at_call 74; refine (ListV_any _ _ _ _).mono ?_; rintro x w3 ⟨rfl, hb3⟩; obtain ⟨e, rfl⟩ : ∃ e' : Later V8, w3 = e'.x := ⟨⟨w3, Mod.trans (by first | exact Later.h _ | exact (Later.h _).drew | exact (Later.h _).alloc _) hb3⟩, rfl⟩; obtain ⟨c0, c1, c2, c3, c4⟩ := cells5 (HR.out.later e); have f0 := (HR.out.later e).frozen 0; have f1 := (HR.out.later e).frozen 1; have f2 := (HR.out.later e).frozen 2; have f3 := (HR.out.later e).frozen 3; have f4 := (HR.out.later e).frozen 4)
      obtain ⟨d0, d1, d2, d3, d4⟩ := cells5 (set5_blk (t := listT [numT 7, numT p.fl, numT k, eidT p.d, eidT p.s, eidT p.r, listT [numT p.t, numT p.q], numT p.l]) (A := some ⟨g8, 0, none⟩) (c := 8) (HR.out.later e))
      clear c0 c1 c2 c3 c4 f0 f1 f2 f3 f4
      show bodyPost _ _ _ _ _ (set5 e.x (w.heap.size + 1) (listT [numT 7, numT p.fl, numT k, eidT p.d, eidT p.s, eidT p.r, listT [numT p.t, numT p.q], numT p.l]) (some ⟨g8, 0, none⟩) 8)
      refine bodyPost_ret (v := itemV (listT [numT 7, numT p.fl, numT k, eidT p.d, eidT p.s, eidT p.r, listT [numT p.t, numT p.q], numT p.l]) (some ⟨g8, 0, none⟩) 8) (by simp [results, Try.results75, go_sem, d0, d1, d2, d3, d4]) rfl ⟨some ⟨g8, 0, none⟩, 8, by rw [HLL.out], set5_mod (HE.out.trans e.h) (by omega), ?_⟩
      rw [HLL.out]
      refine IsL.weak (fun _ _ h => by have : w.heap.size + 2 ≤ _ := h; omega) _ (IsL.mod (Q := fun b => w.heap.size + 2 ≤ b) set5_modb (fun b hb _ hs => by rw [List.mem_singleton] at hs; have : w.heap.size + 2 ≤ b := hb; omega) _ ?_)
      exact list_IsL (base := w.heap.size + 2) (c := 8) (by have := HLG.out; have := e.h.size; omega) (by have := HGG.out; have := HW8.out; omega) (ownsRow_mod HO.out e.h (fun _ _ => by simp)) (fun i hi => IsL.weak (fun b _ h => h.1) _ ((CH.out i hi).ext e.h))
    · have kka : (((k : Int)) == (0)) = false := by rw [beq_eq_false_iff_ne]; omega
      have kkb : (((k : Int)) = (0)) = False := eq_false (by omega)
      have kkc : (((k : Int)) != (0)) = true := by rw [bne_iff_ne]; omega
      have kza : decide (k = 0) = false := decide_eq_false (by omega)
      have kzb : (k = 0) = False := eq_false (by omega)
      have HK0 := hid hk0
      clear hk0
      have HOE : Hid (∀ e : Later V8, e.x.ownsRow (w.heap.size + 2) 38 5 (.slice (some ⟨g8, 0, none⟩) 8 8) 8 (flatC (chL [numT 7, numT p.fl, numT k, eidT p.d, eidT p.s, eidT p.r, listT [numT p.t, numT p.q], numT p.l]) (acL [(none, 0), (none, 0), (none, 0), (Ad, 2), (As, 2), (Ar, 2), (some ⟨g2, 0, none⟩, 2), (none, 0)]) 8)) := fun e => ownsRow_mod HO.out e.h (fun _ _ => by simp)
      obtain ⟨hi, hz0, hz1, hz2⟩ := HINF.out
      go_upto_region 9 with (first | (go_at_call 70; refine (StrV_any _ _).mono ?_; rintro x w3 ⟨rfl, hb3⟩; obtain ⟨e, rfl⟩ : ∃ e' : Later V8, w3 = e'.x := ⟨⟨w3, Mod.trans (by first | exact Later.h _ | exact (Later.h _).drew | exact (Later.h _).alloc _) hb3⟩, rfl⟩) | (at_builtin; refine wpList_append_lies _ rfl _ _ 36 (by rfl) (w.heap.size + 2) 38 i0 _ 5 64 Try.underlying36 hi hz0 hz1 hz2 (by rfl) (by decide) _ 8 _ (by rfl) ((HOE.out e).alloc _) ⟨e.x.heap.size, 0, none⟩ 1 1 [.int .i64 (strT sum).kind, .int .u64 ((strT sum).n : Int), str (strT sum).s, .slice none (strT sum).k 0, .bool (strT sum).op] (by rfl) (by rfl) (World.news_of_block (heap_alloc_new _ _)) (fun u hu => by simp only [List.mem_cons, List.not_mem_nil, or_false] at hu; rcases hu with h | h | h | h | h <;> (subst h; rfl)) (by decide) (by decide) (by decide) (by have := HW8.out; have := HLT8.out; have := e.h.size; simp; omega) (e.x.heap.size + 1) (by simp) ?_; intro g' c' w' hown hgrow hat hlt))
      clear hi hz0 hz1 hz2 HOE y1
      have hm : Mod [g8] V8 w' := Mod.grown (by first | exact (Mod.of_ext e.h).alloc _ | exact ((Mod.of_ext e.h).alloc _).drew | exact ((Mod.of_ext e.h).drew).alloc _) hgrow (fun b hb => by simp [Value.ownBlock] at hb; subst hb; exact .inl (by simp))
      have HGE : Hid (g8 ≤ g') := by
        have h1 := HGG.out
        have h2 := HLT8.out
        have h3 := e.h.size
        rcases hat with h | h
        · simp [Value.ownBlock] at h; unfold Hid; omega
        · unfold Hid; omega
      have HO : Hid (w'.ownsRow (w.heap.size + 2) 38 5 (.slice (some ⟨g', 0, none⟩) 9 c') 9 (flatC (chL [numT 7, numT p.fl, numT k, eidT p.d, eidT p.s, eidT p.r, listT [numT p.t, numT p.q], numT p.l, strT sum]) (acL [(none, 0), (none, 0), (none, 0), (Ad, 2), (As, 2), (Ar, 2), (some ⟨g2, 0, none⟩, 2), (none, 0), (none, 0)]) 9)) := hown
      have HE : Hid (Ext w w') := (HE.out.of_ext.trans hm).new (fun b hb => .inr (by rw [List.mem_singleton] at hb; subst hb; have := HGG.out; have := HW8.out; omega))
      have HB : Hid (Blk w' w.heap.size 68 p.c) := HB.out.mod hm (by have := HGG.out; have := HW8.out; simp; omega)
      have HR : Hid (Blk w' (w.heap.size + 1) 38 (itemC (numT 0) none 0)) := HR.out.mod hm (by have := HGG.out; have := HW8.out; simp; omega)
      have CH : Hid (∀ i, i < 9 → IsL w' (fun b => w.heap.size + 2 ≤ b ∧ b < g8) (chL [numT 7, numT p.fl, numT k, eidT p.d, eidT p.s, eidT p.r, listT [numT p.t, numT p.q], numT p.l, strT sum] i) (acL [(none, 0), (none, 0), (none, 0), (Ad, 2), (As, 2), (Ar, 2), (some ⟨g2, 0, none⟩, 2), (none, 0), (none, 0)] i).1) := fun i hi => by
        by_cases h : i < 8
        · have q := IsL.mod hm (fun b hb _ hs => by rw [List.mem_singleton] at hs; subst hs; have := HGG.out; have := hb.2; omega) _ (CH.out i h)
          match i, h with
          | 0, _ => exact q
          | 1, _ => exact q
          | 2, _ => exact q
          | 3, _ => exact q
          | 4, _ => exact q
          | 5, _ => exact q
          | 6, _ => exact q
          | 7, _ => exact q
        · obtain ⟨j, rfl⟩ : ∃ j, i = 8 + j := ⟨i - 8, by omega⟩
          match j, hi with
          | 0, _ => exact str_IsL
          | j + 1, h => exact absurd h (by omega)
      have HLT8 : Hid (g8 < w'.heap.size) := by have := hm.size; have := HLT8.out; unfold Hid; omega
      have HLG := hid hlt
      clear hown hgrow hat hlt hm HGG
      have HGG := HGE
      clear HGE
      obtain ⟨e, he⟩ := Later.self w'
      rw [he]
      clear he
      have HLL : Hid (priT p k sum = listT [numT 7, numT p.fl, numT k, eidT p.d, eidT p.s, eidT p.r, listT [numT p.t, numT p.q], numT p.l, strT sum]) := by unfold Hid priT priL; rw [if_neg HX.out, if_neg HK0.out]; rfl
      go_wp2_with (go_at_call 74; refine (ListV_any _ _ _ _).mono ?_; rintro x w3 ⟨rfl, hb3⟩; obtain ⟨e, rfl⟩ : ∃ e' : Later w', w3 = e'.x := ⟨⟨w3, Mod.trans (by first | exact Later.h _ | exact (Later.h _).drew | exact (Later.h _).alloc _) hb3⟩, rfl⟩; obtain ⟨c0, c1, c2, c3, c4⟩ := cells5 (HR.out.later e); have f0 := (HR.out.later e).frozen 0; have f1 := (HR.out.later e).frozen 1; have f2 := (HR.out.later e).frozen 2; have f3 := (HR.out.later e).frozen 3; have f4 := (HR.out.later e).frozen 4)
      obtain ⟨d0, d1, d2, d3, d4⟩ := cells5 (set5_blk (t := listT [numT 7, numT p.fl, numT k, eidT p.d, eidT p.s, eidT p.r, listT [numT p.t, numT p.q], numT p.l, strT sum]) (A := some ⟨g', 0, none⟩) (c := c') (HR.out.later e))
      clear c0 c1 c2 c3 c4 f0 f1 f2 f3 f4
      show bodyPost _ _ _ _ _ (set5 e.x (w.heap.size + 1) (listT [numT 7, numT p.fl, numT k, eidT p.d, eidT p.s, eidT p.r, listT [numT p.t, numT p.q], numT p.l, strT sum]) (some ⟨g', 0, none⟩) c')
      refine bodyPost_ret (v := itemV (listT [numT 7, numT p.fl, numT k, eidT p.d, eidT p.s, eidT p.r, listT [numT p.t, numT p.q], numT p.l, strT sum]) (some ⟨g', 0, none⟩) c') (by simp [results, Try.results75, go_sem, d0, d1, d2, d3, d4]) rfl ⟨some ⟨g', 0, none⟩, c', by rw [HLL.out], set5_mod (HE.out.trans e.h) (by omega), ?_⟩
      rw [HLL.out]
      refine IsL.weak (fun _ _ h => by have : w.heap.size + 2 ≤ _ := h; omega) _ (IsL.mod (Q := fun b => w.heap.size + 2 ≤ b) set5_modb (fun b hb _ hs => by rw [List.mem_singleton] at hs; have : w.heap.size + 2 ≤ b := hb; omega) _ ?_)
      exact list_IsL (base := w.heap.size + 2) (c := c') (by have := HLG.out; have := e.h.size; omega) (by have := HGG.out; have := HW8.out; omega) (ownsRow_mod HO.out e.h (fun _ _ => by simp)) (fun i hi => IsL.weak (fun b _ h => h.1) _ ((CH.out i hi).ext e.h))
end Go.Proofs.Ytogjghmoankleaa


namespace Go.Proofs.Ytogjghmoankleaa
open Go.RowKit
set_option linter.unusedVariables false
set_option linter.unusedSimpArgs false

theorem AsL.old {w : World} {Q : Nat → Prop} {a : AV} {m : AA} (h : AsL w Q a m) : AsL w (fun b => Q b ∧ b < w.heap.size) a m :=
  ⟨h.t, fun b o hA h0 => ⟨h.tq b o hA h0, by obtain ⟨b', o', hA', hb, _⟩ := h.t h0; rw [hA] at hA'; cases hA'; exact hb⟩, h.p.weak (fun k hk hq => ⟨hq, hk⟩), h.r.weak (fun k hk hq => ⟨hq, hk⟩)⟩
theorem Blk.thereAt {W : World} {b : Nat} {t : TypeId} {cs : Array Value} (h : Blk W b t cs) {o n : Nat} (hn : o + n ≤ cs.size) : W.there b o n := fun j hj => by
  refine ⟨?_, h.frozen (o + j)⟩
  rw [h.cell (o + j), Array.getElem?_eq_getElem (by omega)]; rfl
theorem Rw.blk {W : World} {base g n : Nat} {L : List T} {al : List (Option Addr × Nat)} {cs : Array Value} (h : Blk W g 38 cs) (hb : base ≤ g) (hn : n ≤ maxLen) (hs : cs.size = n * 5) (hcs : cs.toList = flatC (chL L) (acL al) n) (hI : ∀ i, i < n → IsL W (fun b => b < g) (chL L i) (acL al i).1) : Rw W anyQ base (some ⟨g, 0, none⟩) n n (chL L) (acL al) :=
  ⟨hcs ▸ own_of_blk h hb hn hs, fun j hj => IsL.weak (fun b _ hb => ⟨trivial, fun g' hg' => by cases hg'; exact Nat.ne_of_lt hb⟩) _ (hI j hj)⟩
set_option maxRecDepth 20000 in
set_option maxHeartbeats 16000000 in
theorem aitems_any (a : AV) (hw : a.wf) (hs : a.shaped = true) (m : AA) (w : World) (h : AsL w anyQ a m) : Calls Try.prog 82 #[asbV a m] w (fun e w' => ∃ A c, e = .returned (.slice A a.items.length c) ∧ Ext w w' ∧ IsL w' anyQ (listT a.items) A) := by
  obtain ⟨⟨h1, h2⟩, h3, h4, h5, h6, h7, h8, h9⟩ := AV.shaped_iff.1 hs
  obtain ⟨mt, mtc, mp, mpc, mr, mrc⟩ := m
  obtain ⟨bt, ot, hmt, hbt, hct⟩ := h.t (by omega)
  have hmt : mt = some ⟨bt, ot, none⟩ := hmt
  obtain ⟨br, orr, hmr, hbr, _, hcr⟩ := h.r (by omega)
  have hmr : mr = some ⟨br, orr, none⟩ := hmr
  subst hmt hmr
  have HCT := hid hct
  have HBT := hid hbt
  clear hct hbt hcr hbr
  have HE := hid ((Mod.refl [] w).alloc (.cells (asbC a ⟨some ⟨bt, ot, none⟩, mtc, mp, mpc, some ⟨br, orr, none⟩, mrc⟩) 29))
  have HB0 := hid (Blk.new w 29 (asbC a ⟨some ⟨bt, ot, none⟩, mtc, mp, mpc, some ⟨br, orr, none⟩, mrc⟩))
  have HL := hid (h.old.ext HE.out)
  have HW := hid hw
  have HTG := hid (unlikeB_coded h3)
  have HP := hid (unlikeB_coded (pairsB_iff.1 h7).2)
  have HRES := hid (T.all_iff.1 h9)
  have HRC := hid (fun i (hi : i < a.rk) => unlikeB_coded (pairsB_iff.1 (resB_iff.1 (T.all_iff.1 h9 i hi)).2).2)
  have KE := hid (fun W => eidItem_ok a.src h5 W)
  have HK := hid h2
  have HRK := hid h8
  have HP8 := hid h6
  have hcc := codedB_iff.1 h4
  obtain ⟨cn, hcn⟩ := Int.eq_ofNat_of_zero_le hcc.1
  have tctx : IntKind.u64.wrap (cn : Int) = (cn : Int) := IntWalk.u64_in _ (by omega)
  have HCN := hid hcn
  have k0 : (a.tk : Int) ≤ 16 := by omega
  generalize hkk : a.tk = k at *
  have HKK := hid hkk
  clear hw hs h h1 h2 h3 h4 h5 h6 h7 h8 h9 hkk hcc hcn
  go_enter Try.func82, Try.ntmps82
  go_upto_region 1 with fail
  generalize hV : w.alloc (.cells (asbC a ⟨some ⟨bt, ot, none⟩, mtc, mp, mpc, some ⟨br, orr, none⟩, mrc⟩) 29) = V at *
  have HVS : Hid (w.heap.size < V.heap.size) := hid (by rw [← hV]; simp)
  have b0 : ∀ e : Later V, e.x.cell? ⟨w.heap.size, 0, none⟩ = some (.slice (some ⟨bt, ot, none⟩) k mtc) := HB0.out.cellL 0 (by rw [← HKK.out]; rfl)
  have b7 : ∀ e : Later V, e.x.cell? ⟨w.heap.size, 7, none⟩ = some (.slice (some ⟨br, orr, none⟩) a.rk mrc) := HB0.out.cellL 7 rfl
  clear hV
  obtain ⟨e, he⟩ := Later.self V
  rw [he]
  go_upto_region 3 with fail
  go_loopw [3, 4, 13] (fun s3 s4 s13 wr => ∃ (i : Nat) (A1 : Option Addr) (c1 : Nat) (A2 : Option Addr) (c2 : Nat) (ac2 : Nat → Option Addr × Nat), s13 = .int .i64 (i : Int) ∧ s3 = .slice A1 i c1 ∧ s4 = .slice A2 i c2 ∧ Hid (i ≤ k ∧ Ext V wr ∧ wr.ownsRow V.heap.size 38 5 (.slice A1 i c1) i (flatC (fun j => numT (a.tg j).toNat) (fun _ => (none, 0)) i) ∧ Rw wr (offA A1) V.heap.size A2 c2 i (fun j => plT (a.rs j)) ac2 ∧ ∀ g, A2 = some g → offA A1 g.block)) (fun _ _ s13 _ => k - (intOf s13).toNat)
  case atStart => exact ⟨0, none, 0, none, 0, fun _ => (none, 0), rfl, rfl, rfl, (show Hid _ from ⟨Nat.zero_le _, he ▸ Mod.refl _ _, World.ownsRow_nil _ _ _ _, Rw.nil, fun g hg => by cases hg⟩)⟩
  case round =>
    clear he e
    obtain ⟨i, A1, c1, A2, c2, ac2, rfl, rfl, rfl, hS⟩ := hrel
    rename World => wr
    have i0 : (0 : Int) ≤ (i : Int) := by omega
    by_cases hlt : i < k
    · obtain ⟨e, he⟩ : ∃ e : Later V, wr = e.x := ⟨⟨wr, hS.out.2.1⟩, rfl⟩
      have c0 : wr.cell? ⟨bt, ot + i, none⟩ = some (.int .i64 (a.tg i)) := ((HE.out.trans hS.out.2.1).cell HBT.out (by simp)).trans (HCT.out i hlt)
      have B7 := hid b7
      clear b7
      have b0w := b0 e
      rw [← he] at b0w
      have tc : decide (i < k) = true := by simp [hlt]
      have i1 : (i : Int) < (k : Int) := by omega
      have HLT := hid hlt
      have t1 : IntKind.u64.wrap (a.tg i) = ((a.tg i).toNat : Int) := by
        have := HTG.out i hlt
        rw [Int.toNat_of_nonneg this.1]; exact IntWalk.u64_in _ (by omega)
      clear hlt he e b0
      obtain ⟨ib, hi, hz0, hz1, hz2⟩ := info_parts infoItem
      have HR1 : Hid (∀ e : Later wr, e.x.ownsRow V.heap.size 38 5 (.slice A1 i c1) i (flatC (fun j => numT (a.tg j).toNat) (fun _ => (none, 0)) i)) := hid (fun e => ownsRow_mod hS.out.2.2.1 e.h (fun _ _ => by simp))
      have HR2 := hid hS.out.2.2.2.1
      have HAP := hid hS.out.2.2.2.2
      have HEV := hid hS.out.2.1
      have HSZ : Hid (V.heap.size ≤ wr.heap.size) := hid hS.out.2.1.size
      clear hS
      obtain ⟨e, he⟩ := Later.self wr
      have c0 : ∀ e : Later wr, e.x.cell? ⟨bt, ot + i, none⟩ = some (.int .i64 (a.tg i)) := fun e => cellL c0 e
      rw [he]
      clear he
      go_upto_region 6 with (first | (go_at_call 89; refine (Ret.later (NumI_any _ _)).mono ?_; rintro x _ ⟨rfl, e, rfl⟩) | (at_builtin; refine wpList_append_lies _ rfl _ _ 36 rfl V.heap.size 38 ib _ 5 64 Try.underlying36 hi hz0 hz1 hz2 rfl (by decide) _ i _ rfl ((HR1.out e).alloc _) ⟨e.x.heap.size, 0, none⟩ 1 1 [.int .i64 0, .int .u64 ((a.tg i).toNat : Int), str [], .slice none 0 0, .bool false] rfl rfl (fun j u hu => by rw [addr_add, Nat.zero_add, (Blk.new _ _ _).cell j]; simpa using hu) (fun u hu => by simp only [List.mem_cons, List.not_mem_nil, or_false] at hu; rcases hu with h | h | h | h | h <;> (subst h; rfl)) (by decide) (by have := HLT.out; have := HK.out; unfold maxLen; omega) (by have := HLT.out; have := HK.out; omega) (by have := e.h.size; have := HSZ.out; simp; omega) _ rfl ?_; intro g1 d1 w4 hown' hgr' hat' hlt'; have HO1 := hid hown'; have HG1 := hid hgr'; have HA1 := hid hat'; have HLL1 := hid hlt'; clear hown' hgr' hat' hlt'))
      clear c0 b0w
      have hZ := two_first (HR2.out.ext (e.h.trans ((Mod.refl [] e.x).alloc _))) HAP.out HG1.out HA1.out
      have HE4 : Hid (Ext V w4) := hid (by
        refine ((Mod.of_ext (S := obs A1) (HEV.out.trans (e.h.trans ((Mod.refl [] e.x).alloc _)))).trans (grown_obs HG1.out)).new (fun k hk => .inr ?_)
        cases A1 with
        | none => cases hk
        | some g => have := ((HR1.out e).lt g.block rfl).1; simp [obs] at hk; omega)
      have HO4 : Hid (w4.ownsRow V.heap.size 38 5 (.slice (some ⟨g1, 0, none⟩) (i + 1) d1) (i + 1) (flatC (fun j => numT (a.tg j).toNat) (fun _ => (none, 0)) (i + 1))) := hid HO1.out
      have HR4 := hid hZ.1
      have HAP4 := hid hZ.2
      have HS4 : Hid (V.heap.size ≤ w4.heap.size) := hid HE4.out.size
      clear hZ HO1 HG1 HA1 HR1 HR2 HAP HEV HSZ HLL1
      obtain ⟨br', or', Ai, ci, hmr, hbr, cr, hkc, hPi⟩ := HL.out.r.at HE4.out (i := i) (by have := HLT.out; have := HRK.out; omega)
      have KL : Hid (Calls Try.prog 125 #[.slice Ai (a.rs i).k ci] w4 (fun e w' => ∃ A' c', e = .returned (.agg #[.int .i64 4, .int .u64 0, str [], .slice A' (a.rs i).k c', .bool false]) ∧ Ext w4 w' ∧ IsL w' (fun b => (True ∧ b < w.heap.size) ∨ w4.heap.size ≤ b) (plT (a.rs i)) A')) := hid (alist_any (a.rs i) (by have := (resB_iff.1 (HRES.out i (by have := HLT.out; have := HRK.out; omega))).1; omega) (HRC.out i (by have := HLT.out; have := HRK.out; omega)) Ai ci w4 hPi)
      obtain ⟨e4, he4⟩ : ∃ e : Later V, w4 = e.x := ⟨⟨w4, HE4.out⟩, rfl⟩
      have b7w := B7.out e4
      rw [← he4] at b7w
      have hmr : (some ⟨br, orr, none⟩ : Option Addr) = some ⟨br', or', none⟩ := hmr
      cases hmr
      have i2 : (i : Int) < (a.rk : Int) := by have := HRK.out; omega
      clear hPi hkc hbr he4 e4
      go_upto_region 7 with (first | (go_at_call 125; refine KL.out.mono ?_; rintro x w5 ⟨A5, c5, rfl, hb5, hi5⟩; have H5 := hid hb5; have HI5 := hid hi5; have HSZ5 : Hid (w4.heap.size ≤ w5.heap.size) := hid hb5.size; clear hb5 hi5) | (at_builtin; refine wpList_append_lies _ rfl _ _ 36 rfl V.heap.size 38 ib _ 5 64 Try.underlying36 hi hz0 hz1 hz2 rfl (by decide) _ i _ rfl ((HR4.out.ext H5.out).own.alloc _) ⟨w5.heap.size, 0, none⟩ 1 1 [.int .i64 4, .int .u64 0, str [], .slice A5 (a.rs i).k c5, .bool false] rfl rfl (fun j u hu => by rw [addr_add, Nat.zero_add, (Blk.new _ _ _).cell j]; simpa using hu) (fun u hu => by simp only [List.mem_cons, List.not_mem_nil, or_false] at hu; rcases hu with h | h | h | h | h <;> (subst h; rfl)) (by decide) (by have := HLT.out; have := HK.out; unfold maxLen; omega) (by have := HLT.out; have := HK.out; omega) (by have := HS4.out; have := HSZ5.out; simp; omega) _ rfl ?_; intro g2 d2 w6 hown' hgr' hat' hlt'; have HO2 := hid hown'; have HG2 := hid hgr'; have HA2 := hid hat'; have HLL2 := hid hlt'; clear hown' hgr' hat' hlt'))
      clear cr b7w
      have HZ2 := two_second (ownsRow_mod HO4.out (H5.out.alloc _) (fun _ _ => by simp)) HAP4.out HG2.out HA2.out
      have HOFF : Hid (IsL (w5.alloc (.cells #[.int .i64 4, .int .u64 0, str [], .slice A5 (a.rs i).k c5, .bool false] 38)) (fun b => offA (some ⟨g1, 0, none⟩) b ∧ offA A2 b) (plT (a.rs i)) A5) := hid (IsL.weak (fun b _ hb => by
        have o1 := (HO4.out.lt g1 rfl)
        constructor
        · intro g hg
          cases hg
          rcases hb with hb | hb
          · have := hb.2; have := HVS.out; show b ≠ g1; omega
          · show b ≠ g1; omega
        · intro g hg
          have o2 := HR4.out.own.lt g.block (by subst hg; rfl)
          rcases hb with hb | hb
          · have := hb.2; have := HVS.out; omega
          · omega) _ (HI5.out.ext ((Mod.refl [] w5).alloc _)))
      obtain ⟨ac', hR6⟩ := (HR4.out.ext (H5.out.alloc _)).append HOFF.out rfl HO2.out HG2.out HA2.out
      have HR6 := hid hR6
      have HE6 : Hid (Ext V w6) := hid (by
        refine ((Mod.of_ext (S := obs A2) (HE4.out.trans (H5.out.alloc _))).trans (grown_obs HG2.out)).new (fun k hk => .inr ?_)
        cases A2 with
        | none => cases hk
        | some g => have := (HR4.out.own.lt g.block rfl).1; simp [obs] at hk; omega)
      have HZ2 := hid HZ2
      clear hR6 HOFF HO2 HG2 HA2 HR4 HAP4 H5 HI5 KL
      go_wp2_with fail
      go_roundw
      case rel => exact ⟨i + 1, some ⟨g1, 0, none⟩, d1, some ⟨g2, 0, none⟩, d2, ac', by go_num, rfl, rfl, (show Hid _ from ⟨HLT.out, HE6.out, HZ2.out.1, HR6.out, HZ2.out.2⟩)⟩
      case measure => have := HLT.out; simp [intOf]; omega
    · obtain rfl : i = k := by have := hS.out.1; omega
      have tc : decide (i < i) = false := by simp
      have HSE := hid hS.out.2.1
      have HR1 := hid hS.out.2.2.1
      have HR2 := hid hS.out.2.2.2.1
      have HSZ : Hid (V.heap.size ≤ wr.heap.size) := hid hS.out.2.1.size
      clear hS b0 b7
      have HRE : Hid (∀ e : Later V, e.x.rangeAt w.heap.size 2 [.int .i64 a.src.sch, str a.src.name, .int .u64 (a.src.node : Int), .int .u64 (a.src.svc : Int)]) := HB0.out.range 2 4 (by rfl)
      obtain ⟨e0, he0⟩ : ∃ e : Later V, wr = e.x := ⟨⟨wr, HSE.out⟩, rfl⟩
      subst he0
      go_upto_region 9 with (first | (refine wpList_mid (by rfl) 26 _ rfl _ 2 rfl _ _ (HRE.out _) Try.underlying26 rfl (by kernel_rfl) ?_) | (go_at_call 87; refine (KE.out _).mono ?_; rintro x w6 ⟨As, rfl, hb6, hl6⟩; have H6 := hid hb6; have HI6 := hid hl6; clear hb6 hl6))
      generalize hG : World.alloc w6 _ = W9
      have HN : Hid (Blk W9 w6.heap.size 38 (itemC (eidT a.src) As 2)) := hid (by rw [← hG]; exact Blk.new _ _ _)
      have HX9 : Hid (Ext e0.x W9) := hid (by rw [← hG]; exact H6.out.alloc _)
      have LS : Hid (IsL W9 anyQ (eidT a.src) As) := hid (by rw [← hG]; exact IsL.weak (fun _ _ _ => trivial) _ (HI6.out.ext ((Mod.refl [] w6).alloc _)))
      have L1 : Hid (IsL W9 anyQ (tgT i a.tg) A1) := hid (Rw.isL (base := V.heap.size) (c := c1) (ac := fun _ => (none, 0)) ⟨ownsRow_mod HR1.out HX9.out (fun _ _ => by simp), fun j hj => IsL.leaf⟩ (fun _ _ => trivial))
      have L2 : Hid (IsL W9 anyQ (rsT i a.rs) A2) := hid (((HR2.out.weak (R := anyQ) (fun _ _ _ => trivial)).ext HX9.out).isL (fun _ _ => trivial))
      have HV9 : Hid (Ext V W9) := hid (HSE.out.trans HX9.out)
      have HC1 : Hid (∀ W, Ext W9 W → W.cell? ⟨w.heap.size, 1, none⟩ = some (.int .i64 (cn : Int))) := hid (fun W hW => ((HB0.out.ext (HV9.out.trans hW)).cell 1).trans (by show some (Value.int .i64 a.ctx) = _; rw [HCN.out]))
      clear hG H6 HI6 HR1 HR2 HRE
      generalize w6.heap.size = g6 at *
      refine wp_region_held_drew (S := fun w' => Ext W9 w') (by kernel_rfl) (Mod.refl _ _).drew (fun hHeld => ?_)
      generalize W9.drew = v0 at *
      refine' wpAnyH_take (i := 0) (v := _) rfl (by kernel_rfl) (by kernel_rfl) (by kernel_rfl) (fun _ _ _ h => h) (Or.inl ⟨by rfl, ?hy1⟩) hHeld ?rest1
      case hy1 => (rintro W hM; go_simp; (try with_reducible rfl))
      case rest1 =>
      (try simp only [Act.put, List.getElem_toArray, List.getElem_cons_zero, List.getElem_cons_succ, List.setIfInBounds_toArray, List.set_cons_zero, List.set_cons_succ])
      refine' wpAnyH_take (i := 2) (v := _) rfl (by kernel_rfl) (by kernel_rfl) (by kernel_rfl) (fun _ _ _ h => h) (Or.inl ⟨by rfl, ?hy2⟩) hHeld ?rest2
      case hy2 => (rintro W hM; go_simp; (try with_reducible rfl))
      case rest2 =>
      (try simp only [Act.put, List.getElem_toArray, List.getElem_cons_zero, List.getElem_cons_succ, List.setIfInBounds_toArray, List.set_cons_zero, List.set_cons_succ])
      refine' wpAnyH_take (i := 3) (v := _) rfl (by kernel_rfl) (by kernel_rfl) (by kernel_rfl) (fun _ _ _ h => h) (Or.inl ⟨by rfl, ?hy3⟩) hHeld ?rest3
      case hy3 => (rintro W hM; have g1 := HC1.out W hM; go_simp; (try with_reducible rfl))
      case rest3 =>
      (try simp only [Act.put, List.getElem_toArray, List.getElem_cons_zero, List.getElem_cons_succ, List.setIfInBounds_toArray, List.set_cons_zero, List.set_cons_succ])
      refine' wpAnyH_take (i := 4) (v := _) rfl (by kernel_rfl) (by kernel_rfl) (by kernel_rfl) (fun _ _ _ h => h) (Or.inl ⟨by rfl, ?hy4⟩) hHeld ?rest4
      case hy4 => (rintro W hM; go_simp; (try with_reducible rfl))
      case rest4 =>
      (try simp only [Act.put, List.getElem_toArray, List.getElem_cons_zero, List.getElem_cons_succ, List.setIfInBounds_toArray, List.set_cons_zero, List.set_cons_succ])
      refine wpAnyH_take (i := 7) rfl (by kernel_rfl) (by kernel_rfl) (by kernel_rfl) (fun _ _ _ h => h) (yieldsIf_row (by rfl) 38 _ rfl _ rfl (fun W hM => HN.out.ext hM) Try.underlying38 rfl (by kernel_rfl)) hHeld ?_
      (try simp only [Act.put, List.getElem_toArray, List.getElem_cons_zero, List.getElem_cons_succ, List.setIfInBounds_toArray, List.set_cons_zero, List.set_cons_succ])
      refine wpAnyH_ready (rs := [1]) (by kernel_rfl) (by simp) ?_
      refine AllReadyH.cons rfl (fun K hK => ?_) AllReadyH.nil
      go_simp
      go_at_call 74
      refine (ListV_any _ _ _ _).mono ?_
      rintro x v1 ⟨rfl, hb⟩
      refine hK.out _ _ (hHeld.trans hb) (fun hHeld => ?_)
      clear hK K
      (try simp only [Act.put, List.getElem_toArray, List.getElem_cons_zero, List.getElem_cons_succ, List.setIfInBounds_toArray, List.set_cons_zero, List.set_cons_succ])
      refine wpAnyH_ready (rs := [5]) (by kernel_rfl) (by simp) ?_
      refine AllReadyH.cons rfl (fun K hK => ?_) AllReadyH.nil
      go_simp
      (try rw [tctx])
      go_at_call 89
      refine (NumI_any _ _).mono ?_
      rintro x v2 ⟨rfl, hb⟩
      refine hK.out _ _ (hHeld.trans hb) (fun hHeld => ?_)
      clear hK K
      (try simp only [Act.put, List.getElem_toArray, List.getElem_cons_zero, List.getElem_cons_succ, List.setIfInBounds_toArray, List.set_cons_zero, List.set_cons_succ])
      refine wpAnyH_ready (rs := [6]) (by kernel_rfl) (by simp) ?_
      refine AllReadyH.cons rfl (fun K hK => ?_) AllReadyH.nil
      go_simp
      go_at_call 89
      refine (NumI_any _ _).mono ?_
      rintro x v3 ⟨rfl, hb⟩
      refine hK.out _ _ (hHeld.trans hb) (fun hHeld => ?_)
      clear hK K
      (try simp only [Act.put, List.getElem_toArray, List.getElem_cons_zero, List.getElem_cons_succ, List.setIfInBounds_toArray, List.set_cons_zero, List.set_cons_succ])
      refine wpAnyH_ready (rs := [8]) (by kernel_rfl) (by simp) ?_
      refine AllReadyH.cons rfl (fun K hK => ?_) AllReadyH.nil
      go_simp
      have HX3 := hid hHeld
      have HB9 : Hid (Blk (World.alloc v3 (.cells #[.int .i64 4, .int .u64 0, str [], .slice A1 i c1, .bool false, .int .i64 0, .int .u64 (cn : Int), str [], .slice none 0 0, .bool false, .int .i64 0, .int .u64 0, str [], .slice none 0 0, .bool false, .int .i64 (eidT a.src).kind, .int .u64 ((eidT a.src).n : Int), str (eidT a.src).s, .slice As (eidT a.src).k 2, .bool (eidT a.src).op] 38)) v3.heap.size 38 #[.int .i64 4, .int .u64 0, str [], .slice A1 i c1, .bool false, .int .i64 0, .int .u64 (cn : Int), str [], .slice none 0 0, .bool false, .int .i64 0, .int .u64 0, str [], .slice none 0 0, .bool false, .int .i64 (eidT a.src).kind, .int .u64 ((eidT a.src).n : Int), str (eidT a.src).s, .slice As (eidT a.src).k 2, .bool (eidT a.src).op]) := hid (Blk.new _ _ _)
      have HX4 : Hid (Ext v3 (World.alloc v3 (.cells #[.int .i64 4, .int .u64 0, str [], .slice A1 i c1, .bool false, .int .i64 0, .int .u64 (cn : Int), str [], .slice none 0 0, .bool false, .int .i64 0, .int .u64 0, str [], .slice none 0 0, .bool false, .int .i64 (eidT a.src).kind, .int .u64 ((eidT a.src).n : Int), str (eidT a.src).s, .slice As (eidT a.src).k 2, .bool (eidT a.src).op] 38))) := hid ((Mod.refl [] _).alloc _)
      generalize World.alloc v3 (.cells #[.int .i64 4, .int .u64 0, str [], .slice A1 i c1, .bool false, .int .i64 0, .int .u64 (cn : Int), str [], .slice none 0 0, .bool false, .int .i64 0, .int .u64 0, str [], .slice none 0 0, .bool false, .int .i64 (eidT a.src).kind, .int .u64 ((eidT a.src).n : Int), str (eidT a.src).s, .slice As (eidT a.src).k 2, .bool (eidT a.src).op] 38) = v4 at *
      refine hK.out _ _ (hHeld.trans HX4.out) (fun hHeld => ?_)
      clear hK K
      (try simp only [Act.put, List.getElem_toArray, List.getElem_cons_zero, List.getElem_cons_succ, List.setIfInBounds_toArray, List.set_cons_zero, List.set_cons_succ])
      refine' wpAnyH_take (i := 9) (v := _) rfl (by kernel_rfl) (by kernel_rfl) (by kernel_rfl) (fun _ _ _ h => h) (Or.inl ⟨by rfl, ?hy5⟩) hHeld ?rest5
      case hy5 => (rintro W hM; go_simp; (try with_reducible rfl))
      case rest5 =>
      (try simp only [Act.put, List.getElem_toArray, List.getElem_cons_zero, List.getElem_cons_succ, List.setIfInBounds_toArray, List.set_cons_zero, List.set_cons_succ])
      refine wpAnyH_done (by kernel_rfl) ?_ _
      have HX34 : Hid (Ext W9 v4) := hid hHeld
      have kd : ∀ {t : T} {A : Option Addr}, IsL W9 anyQ t A → IsL v4 (fun b => b < v3.heap.size) t A := fun h => (IsL.weak (fun b hb _ => hb) _ (h.ext HX3.out)).ext HX4.out
      have K0 := hid (kd L1.out)
      have K2 := hid (kd L2.out)
      have K3 := hid (kd LS.out)
      have HBG : Hid (V.heap.size ≤ v3.heap.size) := hid (Nat.le_trans HV9.out.size HX3.out.size)
      have HVX : Hid (Ext V v4) := hid (HV9.out.trans HX34.out)
      have HGS : Hid (v3.heap.size < v4.heap.size) := hid HB9.out.lt
      clear kd L1 L2 LS HX3 HX4 HX34 HN HC1 hHeld HX9 HSE HV9
      generalize v3.heap.size = g9 at *
      have b6 : ∀ e : Later v4, e.x.cell? ⟨w.heap.size, 6, none⟩ = some (.slice mp a.ps.k mpc) := (HB0.out.ext HVX.out).cellL 6 rfl
      obtain ⟨ib, hi, hz0, hz1, hz2⟩ := info_parts infoItem
      by_cases hp : a.ps.k = 0
      case pos =>
        have HIT : Hid (a.items = [tgT i a.tg, numT cn, numT 0, eidT a.src, rsT i a.rs]) := hid (by unfold AV.items; rw [if_pos hp, HRK.out, HKK.out, HCN.out]; rfl)
        have tpa : decide ((0 : Int) < (a.ps.k : Int)) = false := decide_eq_false (by omega)
        have tpb : ((0 : Int) < (a.ps.k : Int)) = False := eq_false (by omega)
        have tqa : decide (0 < a.ps.k) = false := decide_eq_false (by omega)
        have tqb : (0 < a.ps.k) = False := eq_false (by omega)
        clear hp
        have HRW : Hid (Rw v4 anyQ V.heap.size (some ⟨g9, 0, none⟩) 4 4 (chL [tgT i a.tg, numT cn, numT 0, eidT a.src, rsT i a.rs]) (acL [(A1, c1), (none, 0), (none, 0), (As, 2)])) := hid (Rw.blk HB9.out HBG.out (by decide) rfl rfl (fun j hj => by match j, hj with | 0, _ => exact K0.out | 1, _ => exact IsL.leaf | 2, _ => exact IsL.leaf | 3, _ => exact K3.out))
        obtain ⟨e, he⟩ := Later.self v4
        rw [he]
        go_wp2_with (first | (go_at_call 74; refine (Ret.later (ListV_any _ _ _ _)).mono ?_; rintro x _ ⟨rfl, e, rfl⟩) | (at_builtin; refine wpList_append_lies _ rfl _ _ 36 rfl V.heap.size 38 ib _ 5 64 Try.underlying36 hi hz0 hz1 hz2 rfl (by decide) _ 4 _ rfl ((HRW.out.ext e.h).own.alloc _) ⟨e.x.heap.size, 0, none⟩ 1 1 [.int .i64 4, .int .u64 0, str [], .slice A2 i c2, .bool false] rfl rfl (fun j u hu => by rw [addr_add, Nat.zero_add, (Blk.new _ _ _).cell j]; simpa using hu) (fun u hu => by simp only [List.mem_cons, List.not_mem_nil, or_false] at hu; rcases hu with h | h | h | h | h <;> (subst h; rfl)) (by decide) (by decide) (by decide) (by have := e.h.size; have := HBG.out; have := HGS.out; simp; omega) _ rfl ?_; intro g8 d8 w8 hown' hgr' hat' hlt'; have HO8 := hid hown'; have HG8 := hid hgr'; have HA8 := hid hat'; have HLL8 := hid hlt'; clear hown' hgr' hat' hlt'))
        obtain ⟨ac8, HR8⟩ := (HRW.out.ext (e.h.trans ((Mod.refl [] e.x).alloc _))).append (IsL.weak (fun b _ hb => ⟨trivial, fun g hg => by cases hg; exact Nat.ne_of_lt hb⟩) _ (K2.out.ext (e.h.trans ((Mod.refl [] e.x).alloc _)))) rfl HO8.out HG8.out HA8.out
        have HM8 := grown_obs HG8.out
        have HV8 : Ext V w8 := ((Mod.of_ext (S := [g9]) (HVX.out.trans (e.h.trans ((Mod.refl [] e.x).alloc _)))).trans HM8).new (fun k hk => .inr (by rw [List.mem_singleton] at hk; subst hk; exact HBG.out))
        go_ret
        exact ⟨some ⟨g8, 0, none⟩, d8, by rw [HIT.out]; rfl, HE.out.trans HV8, by rw [HIT.out]; exact HR8.isL (fun _ _ => trivial)⟩
      have HIT : Hid (a.items = [tgT i a.tg, numT cn, numT 1, eidT a.src, plT a.ps, rsT i a.rs]) := hid (by unfold AV.items; rw [if_neg hp, HRK.out, HKK.out, HCN.out]; rfl)
      have tpa : decide ((0 : Int) < (a.ps.k : Int)) = true := decide_eq_true (by omega)
      have tpb : ((0 : Int) < (a.ps.k : Int)) = True := eq_true (by omega)
      have tqa : decide (0 < a.ps.k) = true := decide_eq_true (by omega)
      have tqb : (0 < a.ps.k) = True := eq_true (by omega)
      clear hp
      obtain ⟨e, he⟩ := Later.self v4
      rw [he]
      clear he
      have tk1 : True := trivial
      go_upto_region 12 with (first | (go_at_call 89; refine (Ret.later (NumI_any _ _)).mono ?_; rintro x _ ⟨rfl, e, rfl⟩) | (clear tk1; refine wpList_store_mid rfl 38 _ _ rfl g9 10 #[.int .i64 0, .int .u64 1, str [], .slice none 0 0, .bool false] (by rfl) (by rfl) ((HB9.out.later e).thereAt (by show 10 + 5 ≤ 20; omega)) (by kernel_rfl) (by simp [Value.oneCell']) ?_))
      generalize hZ : World.setCells _ g9 10 _ = Z
      have HBZ : Hid (Blk Z g9 38 #[.int .i64 4, .int .u64 0, str [], .slice A1 i c1, .bool false, .int .i64 0, .int .u64 (cn : Int), str [], .slice none 0 0, .bool false, .int .i64 0, .int .u64 1, str [], .slice none 0 0, .bool false, .int .i64 (eidT a.src).kind, .int .u64 ((eidT a.src).n : Int), str (eidT a.src).s, .slice As (eidT a.src).k 2, .bool (eidT a.src).op]) := hid (by
        have := setRow_blk [.int .i64 0, .int .u64 1, str [], .slice none 0 0, .bool false] e.x 10 _ (HB9.out.later e)
        rw [setRow_eq] at this
        rw [← hZ]
        exact this)
      have HZM : Hid (Mod [g9] e.x Z) := hid (by rw [← hZ]; exact setCells_mod _ _ (Mod.refl _ _) (.inl (by simp)))
      have kz : ∀ {t : T} {A : Option Addr}, IsL v4 (fun b => b < g9) t A → IsL Z (fun b => b < g9) t A := fun h => IsL.mod HZM.out (fun k hk _ => by simp; omega) _ (h.ext e.h)
      have J0 := hid (kz K0.out)
      have J2 := hid (kz K2.out)
      have J3 := hid (kz K3.out)
      have HVZ : Hid (Ext V Z) := hid (((Mod.of_ext (S := [g9]) (HVX.out.trans e.h)).trans HZM.out).new (fun k hk => .inr (by rw [List.mem_singleton] at hk; subst hk; exact HBG.out)))
      have HGZ : Hid (g9 < Z.heap.size) := hid HBZ.out.lt
      clear kz hZ HZM K0 K2 K3 HVX HGS b6 HB9
      generalize e = e0z at *
      have b6 : ∀ e : Later Z, e.x.cell? ⟨w.heap.size, 6, none⟩ = some (.slice mp a.ps.k mpc) := (HB0.out.ext HVZ.out).cellL 6 rfl
      have HRW : Hid (Rw Z anyQ V.heap.size (some ⟨g9, 0, none⟩) 4 4 (chL [tgT i a.tg, numT cn, numT 1, eidT a.src, plT a.ps, rsT i a.rs]) (acL [(A1, c1), (none, 0), (none, 0), (As, 2)])) := hid (Rw.blk HBZ.out HBG.out (by decide) rfl rfl (fun j hj => by match j, hj with | 0, _ => exact J0.out | 1, _ => exact IsL.leaf | 2, _ => exact IsL.leaf | 3, _ => exact J3.out))
      have KL : Hid (∀ e : Later Z, Calls Try.prog 125 #[.slice mp a.ps.k mpc] e.x (fun r w' => ∃ A' c', r = .returned (.agg #[.int .i64 4, .int .u64 0, str [], .slice A' a.ps.k c', .bool false]) ∧ Ext e.x w' ∧ IsL w' (fun b => (True ∧ b < w.heap.size) ∨ e.x.heap.size ≤ b) (plT a.ps) A')) := hid (fun e => alist_any a.ps (by have := HP8.out; omega) HP.out mp mpc e.x (HL.out.p.ext (HVZ.out.trans e.h)))
      obtain ⟨e, he⟩ := Later.self Z
      rw [he]
      clear he
      go_upto_region 13 with (first | (go_at_call 125; refine (KL.out _).mono ?_; rintro x w5 ⟨A5, c5, rfl, hb5, hi5⟩; have H5 := hid (e.h.trans hb5); have HI5 := hid hi5; have HSZ5 : Hid (Z.heap.size ≤ w5.heap.size) := hid (e.h.trans hb5).size; have HSE5 := hid e.h.size; clear hb5 hi5) | (at_builtin; refine wpList_append_lies _ rfl _ _ 36 rfl V.heap.size 38 ib _ 5 64 Try.underlying36 hi hz0 hz1 hz2 rfl (by decide) _ 4 _ rfl ((HRW.out.ext H5.out).own.alloc _) ⟨w5.heap.size, 0, none⟩ 1 1 [.int .i64 4, .int .u64 0, str [], .slice A5 a.ps.k c5, .bool false] rfl rfl (fun j u hu => by rw [addr_add, Nat.zero_add, (Blk.new _ _ _).cell j]; simpa using hu) (fun u hu => by simp only [List.mem_cons, List.not_mem_nil, or_false] at hu; rcases hu with h | h | h | h | h <;> (subst h; rfl)) (by decide) (by decide) (by decide) (by have := HBG.out; have := HGZ.out; have := HSZ5.out; simp; omega) _ rfl ?_; intro g7 d7 w7 hown' hgr' hat' hlt'; have HO7 := hid hown'; have HG7 := hid hgr'; have HA7 := hid hat'; have HLL7 := hid hlt'; clear hown' hgr' hat' hlt'))
      obtain ⟨ac7, HR7⟩ := (HRW.out.ext (H5.out.alloc _)).append (t := plT a.ps) (At := A5) (ct := c5) (IsL.weak (fun b _ hb => ⟨trivial, fun g hg => by
        cases hg
        show b ≠ g9
        have := HGZ.out
        have := HSE5.out
        have := HBG.out
        have := HVS.out
        rcases hb with hb | hb
        · have := hb.2; omega
        · omega⟩) _ (HI5.out.ext ((Mod.refl [] w5).alloc _))) rfl HO7.out HG7.out HA7.out
      have HR7 := hid HR7
      have HM7 := hid (grown_obs HG7.out)
      have HV7 : Hid (Ext V w7) := hid (((Mod.of_ext (S := [g9]) (HVZ.out.trans (H5.out.alloc _))).trans HM7.out).new (fun k hk => .inr (by rw [List.mem_singleton] at hk; subst hk; exact HBG.out)))
      have J7 : Hid (IsL w7 (fun b => b < g9) (rsT i a.rs) A2) := hid (IsL.mod HM7.out (fun k hk _ => by simp [obs]; omega) _ (J2.out.ext (H5.out.alloc _)))
      have HG9 : Hid (g9 ≤ g7) := hid (by
        rcases HA7.out with h | h
        · have : g9 = g7 := Option.some.inj h
          omega
        · have := HSZ5.out; have := HGZ.out; simp at h; omega)
      have HGB7 : Hid (V.heap.size ≤ g7) := hid (by have := HBG.out; have := HG9.out; omega)
      clear HO7 HG7 HA7 HM7 J2 J0 J3 HRW H5 HI5 b6 KL
      obtain ⟨e, he⟩ := Later.self w7
      rw [he]
      clear he
      go_wp2_with (first | (go_at_call 74; refine (Ret.later (ListV_any _ _ _ _)).mono ?_; rintro x _ ⟨rfl, e, rfl⟩) | (at_builtin; refine wpList_append_lies _ rfl _ _ 36 rfl V.heap.size 38 ib _ 5 64 Try.underlying36 hi hz0 hz1 hz2 rfl (by decide) _ 5 _ rfl ((HR7.out.ext e.h).own.alloc _) ⟨e.x.heap.size, 0, none⟩ 1 1 [.int .i64 4, .int .u64 0, str [], .slice A2 i c2, .bool false] rfl rfl (fun j u hu => by rw [addr_add, Nat.zero_add, (Blk.new _ _ _).cell j]; simpa using hu) (fun u hu => by simp only [List.mem_cons, List.not_mem_nil, or_false] at hu; rcases hu with h | h | h | h | h <;> (subst h; rfl)) (by decide) (by decide) (by decide) (by have := e.h.size; have := HGB7.out; have := HLL7.out; simp; omega) _ rfl ?_; intro g8 d8 w8 hown' hgr' hat' hlt'; have HO8 := hid hown'; have HG8 := hid hgr'; have HA8 := hid hat'; have HLL8 := hid hlt'; clear hown' hgr' hat' hlt'))
      obtain ⟨ac8, HR8⟩ := (HR7.out.ext (e.h.trans ((Mod.refl [] e.x).alloc _))).append (IsL.weak (fun b _ hb => ⟨trivial, fun g hg => by cases hg; show b ≠ g7; have := HG9.out; omega⟩) _ (J7.out.ext (e.h.trans ((Mod.refl [] e.x).alloc _)))) rfl HO8.out HG8.out HA8.out
      have HM8 := grown_obs HG8.out
      have HV8 : Ext V w8 := ((Mod.of_ext (S := [g7]) (HV7.out.trans (e.h.trans ((Mod.refl [] e.x).alloc _)))).trans HM8).new (fun k hk => .inr (by rw [List.mem_singleton] at hk; subst hk; exact HGB7.out))
      go_ret
      exact ⟨some ⟨g8, 0, none⟩, d8, by rw [HIT.out]; rfl, HE.out.trans HV8, by rw [HIT.out]; exact HR8.isL (fun _ _ => trivial)⟩
end Go.Proofs.Ytogjghmoankleaa
