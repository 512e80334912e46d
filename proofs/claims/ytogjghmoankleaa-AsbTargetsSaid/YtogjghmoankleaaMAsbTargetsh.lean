/-
  The law AsbTargets: its walk.
  An argument api.EID, opened; two numbers in a row.
  An argument api.Bundle, opened: its primary's cells; its blocks lie in memory.
  Arguments []asb.Pair and asb.ASB, opened.
-/
import Derived.Test.YtogjghmoankleaaMAsbTargetsg
import Derived.OpenShut

namespace Go.Proofs.Ytogjghmoankleaa
open Go.RowKit
set_option linter.unusedVariables false
set_option linter.unusedSimpArgs false

theorem fewP_fits {p : PL} (h : fewP p = true) : p.fits := by
  unfold fewP at h
  rw [Bool.and_eq_true, T.all_iff, decide_eq_true_eq] at h
  exact ⟨by omega, fun i hi => by have := (few_size (h.1 i (by omega))).1; omega⟩
theorem fewA_fits {a : AV} (h : fewA a = true) : a.fits ∧ a.tk ≤ 20 ∧ a.rk ≤ 20 := by
  unfold fewA at h
  simp only [Bool.and_eq_true, T.all_iff, decide_eq_true_eq] at h
  obtain ⟨h1, ⟨⟨h2, h3⟩, h4⟩, h5⟩ := h
  exact ⟨⟨by omega, fewP_fits h4, by omega, fun i hi => fewP_fits (h1 i (by omega))⟩, h2, h3⟩
theorem delN_eq (f : Nat → Int) (i j : Nat) : delN f i j = f j ∨ delN f i j = f (j + 1) := by
  unfold delN; split
  · exact .inl rfl
  · exact .inr rfl
theorem wo_wf {a : AV} (hw : a.wf) (i : Nat) (hi : i < a.tk) : (a.wo i).wf := by
  obtain ⟨⟨w1, w2⟩, w3, w4, w5, w6, w7⟩ := hw
  refine ⟨⟨?_, fun j hj => ?_⟩, w3, w4, w5, ?_, fun j hj => ?_⟩
  · show a.tk - 1 < _; omega
  · have hj : j < a.tk - 1 := hj
    show _ ≤ delN a.tg i j ∧ delN a.tg i j ≤ _
    unfold delN
    split
    · exact w2 j (by omega)
    · exact w2 (j + 1) (by omega)
  · show cntW i a.rk < _; unfold cntW; split <;> omega
  · have hj : j < cntW i a.rk := hj
    show (woP a.rs i j).wf
    unfold woP
    unfold cntW at hj
    split
    · exact w7 j (by split at hj <;> omega)
    · exact w7 (j + 1) (by split at hj <;> omega)
theorem zeroA_wf : zeroA.wf := ⟨⟨by show (0 : Nat) < _; omega, fun i hi => absurd hi (Nat.not_lt_zero _)⟩, by show _ ≤ (0 : Int) ∧ (0 : Int) ≤ _; omega, by show (0 : Nat) < _; omega, ⟨by show (0 : Nat) < _; omega, fun i hi => absurd hi (Nat.not_lt_zero _)⟩, by show (0 : Nat) < _; omega, fun i hi => absurd hi (Nat.not_lt_zero _)⟩
theorem zeroA_lies (w : World) (Q : Nat → Prop) : AsL w Q zeroA zeroM := ⟨fun h => absurd h (Nat.not_lt_zero _), fun _ _ h => (by cases h), fun h => absurd h (Nat.not_lt_zero _), fun h => absurd h (Nat.not_lt_zero _)⟩
theorem AsL.weak {w : World} {Q R : Nat → Prop} {a : AV} {m : AA} (h : AsL w Q a m) (hq : ∀ k, k < w.heap.size → Q k → R k) : AsL w R a m :=
  ⟨h.t, fun b o hA h0 => hq b (by obtain ⟨b', o', e, hb, _⟩ := h.t h0; rw [hA] at e; cases e; exact hb) (h.tq b o hA h0), h.p.weak hq, h.r.weak hq⟩
theorem Result_none (a : AV) (hw : a.wf) (hf : a.fits) (t : Int) (hx : atT a t = none) (m : AA) (w : World) (h : AsL w anyQ a m) : Calls Try.prog 15 #[asbV a m, .int .i64 t] w (Ret (.tuple #[.slice none 0 0, .bool false]) w) := by
  refine (Result_any a hw hf t m w h).mono ?_
  rintro e w' ⟨hE, hm⟩
  rw [hx] at hm
  exact ⟨hm, hE⟩
theorem Result_far (a : AV) (hw : a.wf) (hf : a.fits) (t : Int) (i : Nat) (hx : atT a t = some i) (hi : ¬ i < a.rk) (m : AA) (w : World) (h : AsL w anyQ a m) : Calls Try.prog 15 #[asbV a m, .int .i64 t] w (Ret (.tuple #[.slice none 0 0, .bool true]) w) := by
  refine (Result_any a hw hf t m w h).mono ?_
  rintro e w' ⟨hE, hm⟩
  rw [hx] at hm
  dsimp only at hm
  rw [if_neg hi] at hm
  exact ⟨hm, hE⟩
theorem Result_some (a : AV) (hw : a.wf) (hf : a.fits) (t : Int) (i : Nat) (hx : atT a t = some i) (hi : i < a.rk) (m : AA) (w : World) (h : AsL w anyQ a m) : Calls Try.prog 15 #[asbV a m, .int .i64 t] w (fun e w' => ∃ A' c', e = .returned (.tuple #[.slice A' (a.rs i).k c', .bool true]) ∧ Ext w w' ∧ PsL w' (fun b => w.heap.size ≤ b) A' (a.rs i)) := by
  refine (Result_any a hw hf t m w h).mono ?_
  rintro e w' ⟨hE, hm⟩
  rw [hx] at hm
  dsimp only at hm
  rw [if_pos hi] at hm
  obtain ⟨A', c', rfl, h1, _⟩ := hm
  exact ⟨A', c', rfl, hE, h1⟩
set_option maxRecDepth 20000 in
set_option maxHeartbeats 16000000 in
theorem asbTargets_any (a : AV) (hw : a.wf) (t : Int) (m : AA) (w : World) (h : AsL w anyQ a m) : Calls Try.prog 4 #[asbV a m, .int .i64 t] w (Ret (.bool true) w) := by
  obtain ⟨mt, mtc, mp, mpc, mr, mrc⟩ := m
  have HE := hid ((Mod.refl [] w).alloc (.cells (asbC a ⟨mt, mtc, mp, mpc, mr, mrc⟩) 29))
  have HB0 := hid (Blk.new w 29 (asbC a ⟨mt, mtc, mp, mpc, mr, mrc⟩))
  have HL := hid (h.ext HE.out)
  have HW := hid hw
  clear hw h
  go_enter Try.func4, Try.ntmps4
  go_upto_region 1 with fail
  generalize w.alloc (.cells (asbC a ⟨mt, mtc, mp, mpc, mr, mrc⟩) 29) = V at *
  have KF := hid (fun e : Later V => few15_any a HW.out ⟨mt, mtc, mp, mpc, mr, mrc⟩ e.x (HL.out.ext e.h))
  obtain ⟨e, he⟩ := Later.self V
  rw [he]
  clear he
  have tk1 : True := trivial
  cases hfw : fewA a with
  | false =>
    rw [hfw] at KF
    clear hfw
    go_wp2_with (first | (go_at_call 10; refine (Ret.later (awake15_any _)).mono ?_; rintro x _ ⟨rfl, e, rfl⟩) | (clear tk1; refine wpList_row (by rfl) 29 _ rfl _ rfl (HB0.out.later _) Try.underlying29 rfl (by kernel_rfl) ?_) | (go_at_call 11; refine (Ret.later (KF.out _)).mono ?_; rintro x _ ⟨rfl, e, rfl⟩))
    go_ret
    exact Ret.mk rfl (HE.out.trans e.h)
  | true =>
  rw [hfw] at KF
  have HF := hid (fewA_fits hfw).1
  have tk20 : (a.tk : Int) ≤ 20 := by have := (fewA_fits hfw).2.1; omega
  have rk20 : (a.rk : Int) ≤ 20 := by have := (fewA_fits hfw).2.2; omega
  clear hfw
  have KA := hid (fun e : Later V => r15At_any a HW.out t ⟨mt, mtc, mp, mpc, mr, mrc⟩ e.x (HL.out.ext e.h))
  have tk2 : True := trivial
  cases hx : atT a t with
  | none =>
    have HX := hid (firstI_none hx)
    rw [HX.out] at KA
    have KR := hid (fun e : Later V => Result_none a HW.out HF.out t hx ⟨mt, mtc, mp, mpc, mr, mrc⟩ e.x (HL.out.ext e.h))
    have KW := hid (fun e : Later V => Without_none a HW.out t hx ⟨mt, mtc, mp, mpc, mr, mrc⟩ e.x (HL.out.ext e.h))
    have tk3 : True := trivial
    have tk4 : True := trivial
    go_upto_region 6 with (first | (go_at_call 10; refine (Ret.later (awake15_any _)).mono ?_; rintro x _ ⟨rfl, e, rfl⟩) | (clear tk1; refine wpList_row (by rfl) 29 _ rfl _ rfl (HB0.out.later _) Try.underlying29 rfl (by kernel_rfl) ?_) | (go_at_call 11; refine (Ret.later (KF.out _)).mono ?_; rintro x _ ⟨rfl, e, rfl⟩) | (clear tk2; refine wpList_row (by rfl) 29 _ rfl _ rfl (HB0.out.later _) Try.underlying29 rfl (by kernel_rfl) ?_) | (go_at_call 14; refine (Ret.later (KA.out _)).mono ?_; rintro x _ ⟨rfl, e, rfl⟩) | (clear tk3; refine wpList_row (by rfl) 29 _ rfl _ rfl (HB0.out.later _) Try.underlying29 rfl (by kernel_rfl) ?_) | (go_at_call 15; refine (Ret.later (KR.out _)).mono ?_; rintro x _ ⟨rfl, e, rfl⟩) | (clear tk4; refine wpList_row (by rfl) 29 _ rfl _ rfl (HB0.out.later _) Try.underlying29 rfl (by kernel_rfl) ?_) | (go_at_call 16; refine (Ret.later (KW.out _)).mono ?_; rintro x _ ⟨rfl, e, rfl⟩))
    generalize hZ : World.alloc e.x _ = Z
    have HBZ : Hid (Blk Z e.x.heap.size 29 (asbC zeroA zeroM)) := hid (by rw [← hZ]; exact Blk.new _ _ _)
    have HEZ : Hid (Ext w Z) := hid (by rw [← hZ]; exact (HE.out.trans e.h).alloc _)
    have KS := hid (fun e : Later Z => Same15_eq zeroA zeroA_wf zeroM zeroM e.x (zeroA_lies _ _) (zeroA_lies _ _))
    clear hZ KR KW KA
    obtain ⟨ez, he⟩ := Later.self Z
    rw [he]
    clear he
    have tk5 : True := trivial
    go_wp2_with (first | (clear tk5; refine wpList_row (by rfl) 29 _ rfl _ rfl (HBZ.out.later _) Try.underlying29 rfl (by kernel_rfl) ?_) | (go_at_call 17; refine (Ret.later (KS.out _)).mono ?_; rintro x _ ⟨rfl, ez, rfl⟩))
    go_ret
    exact Ret.mk rfl (HEZ.out.trans ez.h)
  | some i =>
    have HX := hid (firstI_some hx)
    rw [HX.out] at KA
    have HI : Hid (i < a.tk) := hid (firstOf_spec hx).1
    have i0 : (0 : Int) ≤ (i : Int) := by omega
    have HATT := hid hx
    have tk3 : True := trivial
    go_upto_region 4 with (first | (go_at_call 10; refine (Ret.later (awake15_any _)).mono ?_; rintro x _ ⟨rfl, e, rfl⟩) | (clear tk1; refine wpList_row (by rfl) 29 _ rfl _ rfl (HB0.out.later _) Try.underlying29 rfl (by kernel_rfl) ?_) | (go_at_call 11; refine (Ret.later (KF.out _)).mono ?_; rintro x _ ⟨rfl, e, rfl⟩) | (clear tk2; refine wpList_row (by rfl) 29 _ rfl _ rfl (HB0.out.later _) Try.underlying29 rfl (by kernel_rfl) ?_) | (go_at_call 14; refine (Ret.later (KA.out _)).mono ?_; rintro x _ ⟨rfl, e, rfl⟩))
    clear KA KF
    by_cases hir : i < a.rk
    case pos =>
      have KR := hid (fun e : Later V => Result_some a HW.out HF.out t i HATT.out hir ⟨mt, mtc, mp, mpc, mr, mrc⟩ e.x (HL.out.ext e.h))
      go_upto_region 5 with (first | (clear tk3; refine wpList_row (by rfl) 29 _ rfl _ rfl (HB0.out.later _) Try.underlying29 rfl (by kernel_rfl) ?_) | (go_at_call 15; refine (KR.out e).mono ?_; rintro x w5 ⟨A5, c5, rfl, hb5, hp5⟩; have H5 := hid (e.h.trans hb5); have HP5 := hid (hp5.weak (R := anyQ) (fun _ _ _ => trivial)); clear hb5 hp5))
      clear KR
      have HE5 := hid (HE.out.trans H5.out)
      have HL5 := hid (HL.out.ext H5.out)
      have HB5 := hid (HB0.out.ext H5.out)
      have KW := hid (Without_some a HW.out HF.out t i HATT.out ⟨mt, mtc, mp, mpc, mr, mrc⟩ w5 HL5.out)
      have tk4 : True := trivial
      go_upto_region 6 with (first | (clear tk4; refine wpList_row (by rfl) 29 _ rfl _ rfl HB5.out Try.underlying29 rfl (by kernel_rfl) ?_) | (go_at_call 16; refine KW.out.mono ?_; rintro x w6 ⟨hb6, ⟨nt, ntc, np, npc, nr, nrc⟩, rfl, ha6⟩; have H6 := hid hb6; have HA6 := hid (ha6.weak (R := anyQ) (fun _ _ _ => trivial)); clear hb6 ha6))
      clear KW
      generalize hZ : World.alloc w6 _ = Z
      have HBZ : Hid (Blk Z w6.heap.size 29 (asbC (a.wo i) ⟨nt, ntc, np, npc, nr, nrc⟩)) := hid (by rw [← hZ]; exact Blk.new _ _ _)
      have HVZ : Hid (Ext w5 Z) := hid (by rw [← hZ]; exact H6.out.alloc _)
      have HEZ : Hid (Ext w Z) := hid (HE5.out.trans HVZ.out)
      have HLZ := hid (HL5.out.ext HVZ.out)
      have HB0Z := hid (HB5.out.ext HVZ.out)
      have HWZ : Hid (AsL Z anyQ (a.wo i) ⟨nt, ntc, np, npc, nr, nrc⟩) := hid (HA6.out.ext (by rw [← hZ]; exact (Mod.refl [] w6).alloc _))
      have HPZ := hid (HP5.out.ext HVZ.out)
      clear hZ H6 HA6 HL5 HB5
      generalize w6.heap.size = gz at *
      have b7 : ∀ e : Later Z, e.x.cell? ⟨w.heap.size, 7, none⟩ = some (.slice mr a.rk mrc) := HB0Z.out.cellL 7 rfl
      obtain ⟨bR, oR, Ai, ci, hmr, hbR, qR, hkR, hPR⟩ := HLZ.out.r.at (Mod.refl [] Z) hir
      have hmr : mr = some ⟨bR, oR, none⟩ := hmr
      subst hmr
      have q7 : ∀ e : Later Z, e.x.cell? ⟨bR, oR + i, none⟩ = some (.slice Ai (a.rs i).k ci) := fun e => cellL qR e
      have KSP := hid (fun W (hW : Ext Z W) => SamePairs_eq (a.rs i) (HW.out.2.2.2.2.2 i hir) A5 Ai c5 ci W (HPZ.out.ext hW) (hPR.ext hW))
      have iaa : decide (i < a.rk) = true := decide_eq_true (by exact hir)
      have iab : (i < a.rk) = True := eq_true (by exact hir)
      have iba : decide ((i : Int) < (a.rk : Int)) = true := decide_eq_true (by omega)
      have ibb : ((i : Int) < (a.rk : Int)) = True := eq_true (by omega)
      clear hPR hkR qR hbR hir
      have KRW := hid (fun W (hW : Ext Z W) => r15Without_some a HW.out HF.out t i HATT.out ⟨mt, mtc, mp, mpc, some ⟨bR, oR, none⟩, mrc⟩ W (HLZ.out.ext hW))
      have KSM := hid (fun m2 W (hW : Ext Z W) (h2 : AsL W anyQ (a.wo i) m2) => Same15_eq (a.wo i) (wo_wf HW.out i HI.out) ⟨nt, ntc, np, npc, nr, nrc⟩ m2 W (HWZ.out.ext hW) h2)
      have R0 : Hid (∀ W, Ext Z W → Blk W w.heap.size 29 (asbC a ⟨mt, mtc, mp, mpc, some ⟨bR, oR, none⟩, mrc⟩)) := hid (fun W hW => HB0Z.out.ext hW)
      have R1 : Hid (∀ W, Ext Z W → Blk W gz 29 (asbC (a.wo i) ⟨nt, ntc, np, npc, nr, nrc⟩)) := hid (fun W hW => HBZ.out.ext hW)
      obtain ⟨ez, he⟩ := Later.self Z
      rw [he]
      clear he
      go_upto_region 13 with fail
      clear b7 q7
      refine wp_region_held_drew (S := fun w' => Ext Z w') (by kernel_rfl) ez.h.drew (fun hHeld => ?_)
      generalize ez.x.drew = v0 at *
      refine' wpAnyH_take (i := 0) (v := _) rfl (by kernel_rfl) (by kernel_rfl) (by kernel_rfl) (fun _ _ _ h => h) (Or.inl ⟨by rfl, ?hy1⟩) hHeld ?rest1
      case hy1 => (rintro W hM; go_simp; (try with_reducible rfl))
      case rest1 =>
      (try simp only [Act.put, List.getElem_toArray, List.getElem_cons_zero, List.getElem_cons_succ, List.setIfInBounds_toArray, List.set_cons_zero, List.set_cons_succ])
      refine' wpAnyH_take (i := 1) (v := _) rfl (by kernel_rfl) (by kernel_rfl) (by kernel_rfl) (fun _ _ _ h => h) (Or.inl ⟨by rfl, ?hy2⟩) hHeld ?rest2
      case hy2 => (rintro W hM; go_simp; (try with_reducible rfl))
      case rest2 =>
      (try simp only [Act.put, List.getElem_toArray, List.getElem_cons_zero, List.getElem_cons_succ, List.setIfInBounds_toArray, List.set_cons_zero, List.set_cons_succ])
      refine wpAnyH_ready (rs := [2]) (by kernel_rfl) (by simp) ?_
      refine AllReadyH.cons rfl (fun K hK => ?_) AllReadyH.nil
      go_simp
      go_at_call 18
      refine (KSP.out _ hHeld).mono ?_
      rintro x v1 ⟨rfl, hb⟩
      refine hK.out _ _ (hHeld.trans hb) (fun hHeld => ?_)
      clear hK K
      (try simp only [Act.put, List.getElem_toArray, List.getElem_cons_zero, List.getElem_cons_succ, List.setIfInBounds_toArray, List.set_cons_zero, List.set_cons_succ])
      refine' wpAnyH_take (i := 3) (v := _) rfl (by kernel_rfl) (by kernel_rfl) (by kernel_rfl) (fun _ _ _ h => h) (Or.inl ⟨by rfl, ?hy3⟩) hHeld ?rest3
      case hy3 => (rintro W hM; go_simp; (try with_reducible rfl))
      case rest3 =>
      (try simp only [Act.put, List.getElem_toArray, List.getElem_cons_zero, List.getElem_cons_succ, List.setIfInBounds_toArray, List.set_cons_zero, List.set_cons_succ])
      refine wpAnyH_take (i := 4) rfl (by kernel_rfl) (by kernel_rfl) (by kernel_rfl) (fun _ _ _ h => h) (yieldsIf_row (by rfl) 29 _ rfl _ rfl R1.out Try.underlying29 rfl (by kernel_rfl)) hHeld ?_
      (try simp only [Act.put, List.getElem_toArray, List.getElem_cons_zero, List.getElem_cons_succ, List.setIfInBounds_toArray, List.set_cons_zero, List.set_cons_succ])
      refine wpAnyH_take (i := 5) rfl (by kernel_rfl) (by kernel_rfl) (by kernel_rfl) (fun _ _ _ h => h) (yieldsIf_row (by rfl) 29 _ rfl _ rfl R0.out Try.underlying29 rfl (by kernel_rfl)) hHeld ?_
      (try simp only [Act.put, List.getElem_toArray, List.getElem_cons_zero, List.getElem_cons_succ, List.setIfInBounds_toArray, List.set_cons_zero, List.set_cons_succ])
      refine' wpAnyH_take (i := 6) (v := _) rfl (by kernel_rfl) (by kernel_rfl) (by kernel_rfl) (fun _ _ _ h => h) (Or.inl ⟨by rfl, ?hy4⟩) hHeld ?rest4
      case hy4 => (rintro W hM; go_simp; (try with_reducible rfl))
      case rest4 =>
      (try simp only [Act.put, List.getElem_toArray, List.getElem_cons_zero, List.getElem_cons_succ, List.setIfInBounds_toArray, List.set_cons_zero, List.set_cons_succ])
      refine wpAnyH_ready (rs := [7]) (by kernel_rfl) (by simp) ?_
      refine AllReadyH.cons rfl (fun K hK => ?_) AllReadyH.nil
      go_simp
      go_at_call 19
      refine (KRW.out _ hHeld).mono ?_
      rintro x v2 ⟨hb, m2, rfl, h2⟩
      refine hK.out _ _ (hHeld.trans hb) (fun hHeld => ?_)
      clear hK K
      (try simp only [Act.put, List.getElem_toArray, List.getElem_cons_zero, List.getElem_cons_succ, List.setIfInBounds_toArray, List.set_cons_zero, List.set_cons_succ])
      refine wpAnyH_ready (rs := [8]) (by kernel_rfl) (by simp) ?_
      refine AllReadyH.cons rfl (fun K hK => ?_) AllReadyH.nil
      go_simp
      go_at_call 17
      refine (KSM.out m2 _ hHeld h2).mono ?_
      rintro x v3 ⟨rfl, hb⟩
      refine hK.out _ _ (hHeld.trans hb) (fun hHeld => ?_)
      clear hK K
      (try simp only [Act.put, List.getElem_toArray, List.getElem_cons_zero, List.getElem_cons_succ, List.setIfInBounds_toArray, List.set_cons_zero, List.set_cons_succ])
      refine' wpAnyH_take (i := 9) (v := _) rfl (by kernel_rfl) (by kernel_rfl) (by kernel_rfl) (fun _ _ _ h => h) (Or.inl ⟨by rfl, ?hy5⟩) hHeld ?rest5
      case hy5 => (rintro W hM; go_simp; (try with_reducible rfl))
      case rest5 =>
      (try simp only [Act.put, List.getElem_toArray, List.getElem_cons_zero, List.getElem_cons_succ, List.setIfInBounds_toArray, List.set_cons_zero, List.set_cons_succ])
      refine' wpAnyH_take (i := 10) (v := _) rfl (by kernel_rfl) (by kernel_rfl) (by kernel_rfl) (fun _ _ _ h => h) (Or.inl ⟨by rfl, ?hy6⟩) hHeld ?rest6
      case hy6 => (rintro W hM; go_simp; (try with_reducible rfl))
      case rest6 =>
      (try simp only [Act.put, List.getElem_toArray, List.getElem_cons_zero, List.getElem_cons_succ, List.setIfInBounds_toArray, List.set_cons_zero, List.set_cons_succ])
      refine wpAnyH_done (by kernel_rfl) ?_ _
      have HVF := hid hHeld
      clear hHeld
      go_wp2_with fail
      go_ret
      exact Ret.mk rfl (HEZ.out.trans HVF.out)
    have KR := hid (fun e : Later V => Result_far a HW.out HF.out t i HATT.out hir ⟨mt, mtc, mp, mpc, mr, mrc⟩ e.x (HL.out.ext e.h))
    go_upto_region 5 with (first | (clear tk3; refine wpList_row (by rfl) 29 _ rfl _ rfl (HB0.out.later _) Try.underlying29 rfl (by kernel_rfl) ?_) | (go_at_call 15; refine (Ret.later (KR.out _)).mono ?_; rintro x _ ⟨rfl, e, rfl⟩))
    obtain ⟨w5, hw5⟩ : ∃ w5, e.x = w5 := ⟨_, rfl⟩
    have H5 : Hid (Ext V w5) := hid (hw5 ▸ e.h)
    rw [hw5]
    clear hw5 KR
    have HE5 := hid (HE.out.trans H5.out)
    have HL5 := hid (HL.out.ext H5.out)
    have HB5 := hid (HB0.out.ext H5.out)
    have KW := hid (Without_some a HW.out HF.out t i HATT.out ⟨mt, mtc, mp, mpc, mr, mrc⟩ w5 HL5.out)
    have tk4 : True := trivial
    go_upto_region 6 with (first | (clear tk4; refine wpList_row (by rfl) 29 _ rfl _ rfl HB5.out Try.underlying29 rfl (by kernel_rfl) ?_) | (go_at_call 16; refine KW.out.mono ?_; rintro x w6 ⟨hb6, ⟨nt, ntc, np, npc, nr, nrc⟩, rfl, ha6⟩; have H6 := hid hb6; have HA6 := hid (ha6.weak (R := anyQ) (fun _ _ _ => trivial)); clear hb6 ha6))
    clear KW
    generalize hZ : World.alloc w6 _ = Z
    have HBZ : Hid (Blk Z w6.heap.size 29 (asbC (a.wo i) ⟨nt, ntc, np, npc, nr, nrc⟩)) := hid (by rw [← hZ]; exact Blk.new _ _ _)
    have HVZ : Hid (Ext w5 Z) := hid (by rw [← hZ]; exact H6.out.alloc _)
    have HEZ : Hid (Ext w Z) := hid (HE5.out.trans HVZ.out)
    have HLZ := hid (HL5.out.ext HVZ.out)
    have HB0Z := hid (HB5.out.ext HVZ.out)
    have HWZ : Hid (AsL Z anyQ (a.wo i) ⟨nt, ntc, np, npc, nr, nrc⟩) := hid (HA6.out.ext (by rw [← hZ]; exact (Mod.refl [] w6).alloc _))
    clear hZ H6 HA6 HL5 HB5
    generalize w6.heap.size = gz at *
    have b7 : ∀ e : Later Z, e.x.cell? ⟨w.heap.size, 7, none⟩ = some (.slice mr a.rk mrc) := HB0Z.out.cellL 7 rfl
    have KSP := hid (fun W (hW : Ext Z W) => SamePairs_eq ⟨0, fun _ => ⟨0, T.nil⟩⟩ ⟨by show (0 : Nat) < _; omega, fun i hi => absurd hi (Nat.not_lt_zero _)⟩ none none 0 0 W (fun h => absurd h (Nat.not_lt_zero _)) (fun h => absurd h (Nat.not_lt_zero _)))
    have iaa : decide (i < a.rk) = false := decide_eq_false (by exact hir)
    have iab : (i < a.rk) = False := eq_false (by exact hir)
    have iba : decide ((i : Int) < (a.rk : Int)) = false := decide_eq_false (by omega)
    have ibb : ((i : Int) < (a.rk : Int)) = False := eq_false (by omega)
    clear hir
    have KRW := hid (fun W (hW : Ext Z W) => r15Without_some a HW.out HF.out t i HATT.out ⟨mt, mtc, mp, mpc, mr, mrc⟩ W (HLZ.out.ext hW))
    have KSM := hid (fun m2 W (hW : Ext Z W) (h2 : AsL W anyQ (a.wo i) m2) => Same15_eq (a.wo i) (wo_wf HW.out i HI.out) ⟨nt, ntc, np, npc, nr, nrc⟩ m2 W (HWZ.out.ext hW) h2)
    have R0 : Hid (∀ W, Ext Z W → Blk W w.heap.size 29 (asbC a ⟨mt, mtc, mp, mpc, mr, mrc⟩)) := hid (fun W hW => HB0Z.out.ext hW)
    have R1 : Hid (∀ W, Ext Z W → Blk W gz 29 (asbC (a.wo i) ⟨nt, ntc, np, npc, nr, nrc⟩)) := hid (fun W hW => HBZ.out.ext hW)
    obtain ⟨ez, he⟩ := Later.self Z
    rw [he]
    clear he
    go_upto_region 13 with fail
    clear b7
    refine wp_region_held_drew (S := fun w' => Ext Z w') (by kernel_rfl) ez.h.drew (fun hHeld => ?_)
    generalize ez.x.drew = v0 at *
    refine' wpAnyH_take (i := 0) (v := _) rfl (by kernel_rfl) (by kernel_rfl) (by kernel_rfl) (fun _ _ _ h => h) (Or.inl ⟨by rfl, ?hy7⟩) hHeld ?rest7
    case hy7 => (rintro W hM; go_simp; (try with_reducible rfl))
    case rest7 =>
    (try simp only [Act.put, List.getElem_toArray, List.getElem_cons_zero, List.getElem_cons_succ, List.setIfInBounds_toArray, List.set_cons_zero, List.set_cons_succ])
    refine' wpAnyH_take (i := 1) (v := _) rfl (by kernel_rfl) (by kernel_rfl) (by kernel_rfl) (fun _ _ _ h => h) (Or.inl ⟨by rfl, ?hy8⟩) hHeld ?rest8
    case hy8 => (rintro W hM; go_simp; (try with_reducible rfl))
    case rest8 =>
    (try simp only [Act.put, List.getElem_toArray, List.getElem_cons_zero, List.getElem_cons_succ, List.setIfInBounds_toArray, List.set_cons_zero, List.set_cons_succ])
    refine wpAnyH_ready (rs := [2]) (by kernel_rfl) (by simp) ?_
    refine AllReadyH.cons rfl (fun K hK => ?_) AllReadyH.nil
    go_simp
    go_at_call 18
    refine (KSP.out _ hHeld).mono ?_
    rintro x v1 ⟨rfl, hb⟩
    refine hK.out _ _ (hHeld.trans hb) (fun hHeld => ?_)
    clear hK K
    (try simp only [Act.put, List.getElem_toArray, List.getElem_cons_zero, List.getElem_cons_succ, List.setIfInBounds_toArray, List.set_cons_zero, List.set_cons_succ])
    refine' wpAnyH_take (i := 3) (v := _) rfl (by kernel_rfl) (by kernel_rfl) (by kernel_rfl) (fun _ _ _ h => h) (Or.inl ⟨by rfl, ?hy9⟩) hHeld ?rest9
    case hy9 => (rintro W hM; go_simp; (try with_reducible rfl))
    case rest9 =>
    (try simp only [Act.put, List.getElem_toArray, List.getElem_cons_zero, List.getElem_cons_succ, List.setIfInBounds_toArray, List.set_cons_zero, List.set_cons_succ])
    refine wpAnyH_take (i := 4) rfl (by kernel_rfl) (by kernel_rfl) (by kernel_rfl) (fun _ _ _ h => h) (yieldsIf_row (by rfl) 29 _ rfl _ rfl R1.out Try.underlying29 rfl (by kernel_rfl)) hHeld ?_
    (try simp only [Act.put, List.getElem_toArray, List.getElem_cons_zero, List.getElem_cons_succ, List.setIfInBounds_toArray, List.set_cons_zero, List.set_cons_succ])
    refine wpAnyH_take (i := 5) rfl (by kernel_rfl) (by kernel_rfl) (by kernel_rfl) (fun _ _ _ h => h) (yieldsIf_row (by rfl) 29 _ rfl _ rfl R0.out Try.underlying29 rfl (by kernel_rfl)) hHeld ?_
    (try simp only [Act.put, List.getElem_toArray, List.getElem_cons_zero, List.getElem_cons_succ, List.setIfInBounds_toArray, List.set_cons_zero, List.set_cons_succ])
    refine' wpAnyH_take (i := 6) (v := _) rfl (by kernel_rfl) (by kernel_rfl) (by kernel_rfl) (fun _ _ _ h => h) (Or.inl ⟨by rfl, ?hy10⟩) hHeld ?rest10
    case hy10 => (rintro W hM; go_simp; (try with_reducible rfl))
    case rest10 =>
    (try simp only [Act.put, List.getElem_toArray, List.getElem_cons_zero, List.getElem_cons_succ, List.setIfInBounds_toArray, List.set_cons_zero, List.set_cons_succ])
    refine wpAnyH_ready (rs := [7]) (by kernel_rfl) (by simp) ?_
    refine AllReadyH.cons rfl (fun K hK => ?_) AllReadyH.nil
    go_simp
    go_at_call 19
    refine (KRW.out _ hHeld).mono ?_
    rintro x v2 ⟨hb, m2, rfl, h2⟩
    refine hK.out _ _ (hHeld.trans hb) (fun hHeld => ?_)
    clear hK K
    (try simp only [Act.put, List.getElem_toArray, List.getElem_cons_zero, List.getElem_cons_succ, List.setIfInBounds_toArray, List.set_cons_zero, List.set_cons_succ])
    refine wpAnyH_ready (rs := [8]) (by kernel_rfl) (by simp) ?_
    refine AllReadyH.cons rfl (fun K hK => ?_) AllReadyH.nil
    go_simp
    go_at_call 17
    refine (KSM.out m2 _ hHeld h2).mono ?_
    rintro x v3 ⟨rfl, hb⟩
    refine hK.out _ _ (hHeld.trans hb) (fun hHeld => ?_)
    clear hK K
    (try simp only [Act.put, List.getElem_toArray, List.getElem_cons_zero, List.getElem_cons_succ, List.setIfInBounds_toArray, List.set_cons_zero, List.set_cons_succ])
    refine' wpAnyH_take (i := 9) (v := _) rfl (by kernel_rfl) (by kernel_rfl) (by kernel_rfl) (fun _ _ _ h => h) (Or.inl ⟨by rfl, ?hy11⟩) hHeld ?rest11
    case hy11 => (rintro W hM; go_simp; (try with_reducible rfl))
    case rest11 =>
    (try simp only [Act.put, List.getElem_toArray, List.getElem_cons_zero, List.getElem_cons_succ, List.setIfInBounds_toArray, List.set_cons_zero, List.set_cons_succ])
    refine' wpAnyH_take (i := 10) (v := _) rfl (by kernel_rfl) (by kernel_rfl) (by kernel_rfl) (fun _ _ _ h => h) (Or.inl ⟨by rfl, ?hy12⟩) hHeld ?rest12
    case hy12 => (rintro W hM; go_simp; (try with_reducible rfl))
    case rest12 =>
    (try simp only [Act.put, List.getElem_toArray, List.getElem_cons_zero, List.getElem_cons_succ, List.setIfInBounds_toArray, List.set_cons_zero, List.set_cons_succ])
    refine wpAnyH_done (by kernel_rfl) ?_ _
    have HVF := hid hHeld
    clear hHeld
    go_wp2_with fail
    go_ret
    exact Ret.mk rfl (HEZ.out.trans HVF.out)
end Go.Proofs.Ytogjghmoankleaa


namespace Go.Proofs.Ytogjghmoankleaa
open Go.ChangeShapes Go.WideShapes Go.ChangeAt Go.RowKit Go.Deep
set_option linter.unusedVariables false
set_option linter.unusedSimpArgs false

section
variable {H : Type} {enc : TypeId × Value → H} {w : World} {base b0 : Nat} {spare : Nat → Bool} {held : Bool} {r : Reach}
set_option maxRecDepth 100000 in
theorem trod_eid {fuel : Nat} {cs : List Value} {x : DataW H × List MemPlace} (h : DataW.trod enc Try.prog w base spare held fuel 26 cs = some x) :
    ∃ e : EV, cs = [.int .i64 e.sch, str e.name, .int .u64 (e.node : Int), .int .u64 (e.svc : Int)] ∧ e.node < 18446744073709551616 ∧ e.svc < 18446744073709551616 ∧ (-9223372036854775808 ≤ e.sch ∧ e.sch ≤ 9223372036854775807) := by
  obtain ⟨ys, n', hn', hy, hlen, hyl, hfl⟩ := DataW.trod_struct Try.underlying26 h
  match cs, hlen with
  | [c0, c1, c2, c3], _ =>
    have h0 := field_at (by kernel_rfl) hfl (i := 0) rfl rfl
    have h1 := field_at (by kernel_rfl) hfl (i := 1) rfl rfl
    have h2 := field_at (by kernel_rfl) hfl (i := 2) rfl rfl
    have h3 := field_at (by kernel_rfl) hfl (i := 3) rfl rfl
    clear hfl h
    match ys, hyl with
    | [y0, y1, y2, y3], _ =>
      obtain ⟨sch, e0, _, w0⟩ := DataW.trod_int (k := .i64) (by kernel_rfl) h0
      obtain ⟨s, e1, _, _⟩ := DataW.trod_string (by kernel_rfl) h1
      obtain ⟨a, e2, _, w2⟩ := DataW.trod_int (k := .u64) (by kernel_rfl) h2
      obtain ⟨b, e3, _, w3⟩ := DataW.trod_int (k := .u64) (by kernel_rfl) h3
      have q0 : c0 = .int .i64 sch := by have : [c0] = [Value.int .i64 sch] := e0; simpa using this
      have q1 : c1 = .string s := by have : [c1] = [Value.string s] := e1; simpa using this
      have q2 : c2 = .int .u64 a := by have : [c2] = [Value.int .u64 a] := e2; simpa using this
      have q3 : c3 = .int .u64 b := by have : [c3] = [Value.int .u64 b] := e3; simpa using this
      subst q0 q1 q2 q3
      have b0 : -9223372036854775808 ≤ sch ∧ sch ≤ 9223372036854775807 := by simpa [Lit.wf, IntKind.min, IntKind.max, IntKind.signed, IntKind.bits] using w0
      have b2 : 0 ≤ a ∧ a ≤ 18446744073709551615 := by simpa [Lit.wf, IntKind.min, IntKind.max, IntKind.signed, IntKind.bits] using w2
      have b3 : 0 ≤ b ∧ b ≤ 18446744073709551615 := by simpa [Lit.wf, IntKind.min, IntKind.max, IntKind.signed, IntKind.bits] using w3
      obtain ⟨a, rfl⟩ := Int.eq_ofNat_of_zero_le b2.1
      obtain ⟨b, rfl⟩ := Int.eq_ofNat_of_zero_le b3.1
      exact ⟨⟨sch, s.data.toList, a, b⟩, rfl, by show a < _; omega, by show b < _; omega, b0⟩

set_option maxRecDepth 100000 in
theorem open_eid {v : Value} {d : DataW H} {p : List MemPlace} (hval : Value.okWide Try.prog w r b0 26 v) (h : DataW.Trod enc Try.prog w base spare held 26 v d p) :
    ∃ e : EV, v = e.v ∧ e.node < 18446744073709551616 ∧ e.svc < 18446744073709551616 ∧ (-9223372036854775808 ≤ e.sch ∧ e.sch ≤ 9223372036854775807) := by
  obtain ⟨cs, rfl, hsz⟩ := okWide_struct Try.underlying26 hval
  obtain ⟨fuel, hf⟩ := h
  have hcs : (Value.agg cs).cells.toList = cs.toList := rfl
  rw [hcs] at hf
  obtain ⟨e, he, h1, h2, h3⟩ := trod_eid hf
  refine ⟨e, ?_, h1, h2, h3⟩
  have : cs = (cs.toList).toArray := by simp
  rw [this, he]
theorem okWide_arr {P : Program} {t e : TypeId} {n : Nat} {v : Value} (ht : P.underlying t = some (.array n e)) (h : Value.okWide P w r base t v) : ∃ cs, v = .agg cs ∧ cs.size = P.cellsOf t := by
  simp only [Value.okWide, ht] at h
  obtain ⟨cs, h1, h2, _⟩ := h
  exact ⟨cs, h1, h2⟩
theorem two_ints {P : Program} {t e : TypeId} {k : IntKind} {fuel : Nat} {c0 c1 : Value} {x : DataW H × List MemPlace} (ht : P.underlying t = some (.array 2 e)) (he : P.underlying e = some (.int k)) (hC : P.cellsOf e = 1)
    (h : DataW.trod enc P w base spare held fuel t [c0, c1] = some x) : ∃ a b, c0 = .int k a ∧ c1 = .int k b ∧ (Lit.int k a).wf = true ∧ (Lit.int k b).wf = true := by
  obtain ⟨xs, m, _, _, _, hlen, hg⟩ := DataW.trod_array ht h
  have h0 := hg 0 (by omega)
  have h1 := hg 1 (by omega)
  rw [hC] at h0 h1
  match xs, hlen with
  | [y0, y1], _ =>
    obtain ⟨a, ha, _, hwa⟩ := DataW.trod_int (k := k) he h0
    obtain ⟨b, hb, _, hwb⟩ := DataW.trod_int (k := k) he h1
    exact ⟨a, b, by simpa using ha, by simpa using hb, hwa, hwb⟩
end
end Go.Proofs.Ytogjghmoankleaa


namespace Go.Proofs.Ytogjghmoankleaa
open Go.ChangeShapes Go.WideShapes Go.ChangeAt Go.RowKit Go.Deep
set_option linter.unusedVariables false
set_option linter.unusedSimpArgs false

/-- What every slice's shape obeys. -/
def SlA (A : Option Addr) (k c : Nat) : Prop := (A = none → k = 0 ∧ c = 0) ∧ k ≤ c ∧ c ≤ maxLen
def EV.wf (e : EV) : Prop := (-9223372036854775808 ≤ e.sch ∧ e.sch ≤ 9223372036854775807) ∧ e.node < 18446744073709551616 ∧ e.svc < 18446744073709551616
def PV.wf (p : PV) : Prop := p.fl < 18446744073709551616 ∧ (-9223372036854775808 ≤ p.crc ∧ p.crc ≤ 9223372036854775807) ∧ p.d.wf ∧ p.s.wf ∧ p.r.wf ∧ p.t < 18446744073709551616 ∧ p.q < 18446744073709551616 ∧ p.l < 18446744073709551616 ∧ p.o < 18446744073709551616 ∧ p.n < 18446744073709551616
def BV.wf (b : BV) : Prop := (-9223372036854775808 ≤ b.ty ∧ b.ty ≤ 9223372036854775807) ∧ (-9223372036854775808 ≤ b.num ∧ b.num ≤ 9223372036854775807) ∧ b.fl < 18446744073709551616 ∧ (-9223372036854775808 ≤ b.crc ∧ b.crc ≤ 9223372036854775807)
section
variable {H : Type} {enc : TypeId × Value → H} {w : World} {base b0 : Nat} {spare : Nat → Bool} {held : Bool} {r : Reach}
theorem fldB {P : Program} {n k : Nat} {ty : TypeId} {l : List Value} {off : Nat} {y : Option (DataW H × List MemPlace)} (hk : P.cellsOf ty = k) (h : DataW.trod enc P w base spare held n ty ((l.drop off).take (P.cellsOf ty)) = y) : DataW.trod enc P w base spare held n ty ((l.drop off).take k) = y := by rw [hk] at h; exact h
set_option maxRecDepth 100000 in
theorem trod_priC {fuel : Nat} {L : List Value} {x : DataW H × List MemPlace} (h : DataW.trod enc Try.prog w base spare held fuel 68 L = some x) : ∃ p : PV, L = p.c.toList ∧ p.wf := by
  obtain ⟨ys, n', hn', hy, hlen, hyl, hfl⟩ := DataW.trod_struct Try.underlying68 h
  clear h
  have k1 : Try.prog.cellsOf 24 = 1 := by kernel_rfl
  have k2 : Try.prog.cellsOf 3 = 1 := by kernel_rfl
  have k3 : Try.prog.cellsOf 26 = 4 := by kernel_rfl
  match L, hlen with
  | [c0, c1, c2, c3, c4, c5, c6, c7, c8, c9, c10, c11, c12, c13, c14, c15, c16, c17, c18], _ =>
    match ys, hyl with
    | [y0, y1, y2, y3, y4, y5, y6, y7, y8, y9], _ =>
      have h0 : DataW.trod enc Try.prog w base spare held n' 24 [c0] = some y0 := fldB k1 (hfl 0 _ rfl)
      have h1 : DataW.trod enc Try.prog w base spare held n' 3 [c1] = some y1 := fldB k2 (hfl 1 _ rfl)
      have h2 : DataW.trod enc Try.prog w base spare held n' 26 [c2, c3, c4, c5] = some y2 := fldB k3 (hfl 2 _ rfl)
      have h3 : DataW.trod enc Try.prog w base spare held n' 26 [c6, c7, c8, c9] = some y3 := fldB k3 (hfl 3 _ rfl)
      have h4 : DataW.trod enc Try.prog w base spare held n' 26 [c10, c11, c12, c13] = some y4 := fldB k3 (hfl 4 _ rfl)
      have h5 : DataW.trod enc Try.prog w base spare held n' 24 [c14] = some y5 := fldB k1 (hfl 5 _ rfl)
      have h6 : DataW.trod enc Try.prog w base spare held n' 24 [c15] = some y6 := fldB k1 (hfl 6 _ rfl)
      have h7 : DataW.trod enc Try.prog w base spare held n' 24 [c16] = some y7 := fldB k1 (hfl 7 _ rfl)
      have h8 : DataW.trod enc Try.prog w base spare held n' 24 [c17] = some y8 := fldB k1 (hfl 8 _ rfl)
      have h9 : DataW.trod enc Try.prog w base spare held n' 24 [c18] = some y9 := fldB k1 (hfl 9 _ rfl)
      clear hfl
      obtain ⟨z1, e1, _, w1⟩ := DataW.trod_int (k := .i64) (by kernel_rfl) h1
      have b1 : -9223372036854775808 ≤ z1 ∧ z1 ≤ 9223372036854775807 := by simpa [Lit.wf, IntKind.min, IntKind.max, IntKind.signed, IntKind.bits] using w1
      obtain ⟨E2, e2, n2, s2, x2⟩ := trod_eid h2
      obtain ⟨E3, e3, n3, s3, x3⟩ := trod_eid h3
      obtain ⟨E4, e4, n4, s4, x4⟩ := trod_eid h4
      obtain ⟨z0, e0, _, w0⟩ := DataW.trod_int (k := .u64) (by kernel_rfl) h0
      have b0 : 0 ≤ z0 ∧ z0 ≤ 18446744073709551615 := by simpa [Lit.wf, IntKind.min, IntKind.max, IntKind.signed, IntKind.bits] using w0
      obtain ⟨z0, rfl⟩ := Int.eq_ofNat_of_zero_le b0.1
      obtain ⟨z5, e5, _, w5⟩ := DataW.trod_int (k := .u64) (by kernel_rfl) h5
      have b5 : 0 ≤ z5 ∧ z5 ≤ 18446744073709551615 := by simpa [Lit.wf, IntKind.min, IntKind.max, IntKind.signed, IntKind.bits] using w5
      obtain ⟨z5, rfl⟩ := Int.eq_ofNat_of_zero_le b5.1
      obtain ⟨z6, e6, _, w6⟩ := DataW.trod_int (k := .u64) (by kernel_rfl) h6
      have b6 : 0 ≤ z6 ∧ z6 ≤ 18446744073709551615 := by simpa [Lit.wf, IntKind.min, IntKind.max, IntKind.signed, IntKind.bits] using w6
      obtain ⟨z6, rfl⟩ := Int.eq_ofNat_of_zero_le b6.1
      obtain ⟨z7, e7, _, w7⟩ := DataW.trod_int (k := .u64) (by kernel_rfl) h7
      have b7 : 0 ≤ z7 ∧ z7 ≤ 18446744073709551615 := by simpa [Lit.wf, IntKind.min, IntKind.max, IntKind.signed, IntKind.bits] using w7
      obtain ⟨z7, rfl⟩ := Int.eq_ofNat_of_zero_le b7.1
      obtain ⟨z8, e8, _, w8⟩ := DataW.trod_int (k := .u64) (by kernel_rfl) h8
      have b8 : 0 ≤ z8 ∧ z8 ≤ 18446744073709551615 := by simpa [Lit.wf, IntKind.min, IntKind.max, IntKind.signed, IntKind.bits] using w8
      obtain ⟨z8, rfl⟩ := Int.eq_ofNat_of_zero_le b8.1
      obtain ⟨z9, e9, _, w9⟩ := DataW.trod_int (k := .u64) (by kernel_rfl) h9
      have b9 : 0 ≤ z9 ∧ z9 ≤ 18446744073709551615 := by simpa [Lit.wf, IntKind.min, IntKind.max, IntKind.signed, IntKind.bits] using w9
      obtain ⟨z9, rfl⟩ := Int.eq_ofNat_of_zero_le b9.1
      simp only [List.cons.injEq, and_true] at e0 e1 e2 e3 e4 e5 e6 e7 e8 e9
      obtain ⟨rfl, rfl, rfl, rfl⟩ := e2
      obtain ⟨rfl, rfl, rfl, rfl⟩ := e3
      obtain ⟨rfl, rfl, rfl, rfl⟩ := e4
      subst e0 e1 e5 e6 e7 e8 e9
      exact ⟨⟨z0, z1, E2, E3, E4, z5, z6, z7, z8, z9⟩, rfl, by show z0 < _; omega, b1, ⟨x2, n2, s2⟩, ⟨x3, n3, s3⟩, ⟨x4, n4, s4⟩, by show z5 < _; omega, by show z6 < _; omega, by show z7 < _; omega, by show z8 < _; omega, by show z9 < _; omega⟩
end
end Go.Proofs.Ytogjghmoankleaa


namespace Go.Proofs.Ytogjghmoankleaa
open Go.ChangeShapes Go.WideShapes Go.ChangeAt Go.RowKit Go.Deep
set_option linter.unusedVariables false
set_option linter.unusedSimpArgs false

section
variable {H : Type} {enc : TypeId × Value → H} {w : World} {base b0 : Nat} {spare : Nat → Bool} {held : Bool} {r : Reach}
/-- A slice, opened: each element's cells obey R. -/
theorem trod_rows {Z : Type} [Nonempty Z] {te ts : TypeId} {z bz : Nat} (hu : Try.prog.underlying ts = some (.slice te)) (hC : Try.prog.cellsOf te = z) (hz0 : 0 < z) (hBy : Try.prog.bytesOf te = bz) (hb1 : 1 ≤ bz) (R : Z → List Value → Prop)
    (hstep : ∀ f cs x, DataW.trod enc Try.prog w base spare held f te cs = some x → (∀ n ∈ x.1.weights Try.prog te, n ≤ reachBytes) → ∃ t, R t cs)
    {fuel : Nat} {c3 : Value} {y : DataW H × List MemPlace} (h3 : DataW.trod enc Try.prog w base spare held fuel ts [c3] = some y) (hz : ∀ n ∈ y.1.weights Try.prog ts, n ≤ reachBytes) :
    ∃ (A : Option Addr) (k c : Nat) (g : Nat → Z), c3 = .slice A k c ∧ k < 4611686018427387904 ∧ SlA A k c ∧ (∀ i, i < k → ∃ cs, R (g i) cs) ∧
      (0 < k → ∃ b o, A = some ⟨b, o, none⟩ ∧ b < w.heap.size ∧ ∀ i, i < k → ∃ cs, cs.length = z ∧ R (g i) cs ∧ ∀ j u, cs[j]? = some u → w.cell? ⟨b, o + i * z + j, none⟩ = some u) := by
  have hR : reachBytes < 140737488355328 := by decide
  rcases DataW.trod_slice (e := te) hu h3 with ⟨hcs, _⟩ | ⟨a, len, cap', elems, rest, f, hf, hcs, hx, hb, hl, hm, hlen, hel, _, _⟩
  · have e3 : c3 = .slice none 0 0 := by simpa using hcs
    subst e3
    exact ⟨none, 0, 0, fun _ => Classical.choice inferInstance, rfl, by omega, ⟨fun _ => ⟨rfl, rfl⟩, Nat.le_refl _, Nat.zero_le _⟩, fun i hi => by omega, fun h => by omega⟩
  · have e3 : c3 = .slice (some a) len cap' := by simpa using hcs
    subst e3
    have hzs := hz
    rw [hx] at hzs
    simp only [DataW.weights, hu] at hzs
    have bl : len < 4611686018427387904 := by
      have h8 := hzs _ List.mem_cons_self
      rw [hBy, List.length_map, hlen] at h8
      have h9 : len * 1 ≤ (len + (List.map (fun x => x.1) rest).length) * bz := Nat.mul_le_mul (Nat.le_add_right _ _) hb1
      omega
    have key : ∀ i, i < len → ∃ (t : Z) (cs : List Value), cs.length = z ∧ R t cs ∧ ∀ j u, cs[j]? = some u → w.cell? ((a.add (i * z)).add j) = some u := by
      intro i hin
      have hi := hel i hin
      rw [List.getElem?_eq_getElem (by omega)] at hi
      obtain ⟨cs', hc, ht⟩ := Option.bind_eq_some_iff.1 hi
      have hz2 : ∀ n ∈ (elems[i]'(by omega)).1.weights Try.prog te, n ≤ reachBytes := fun n hn => by
        apply hzs
        refine List.mem_cons_of_mem _ (List.mem_append_left _ (weights_mem_all hn ?_))
        exact List.mem_map.2 ⟨_, List.getElem_mem _, rfl⟩
      obtain ⟨t, ht⟩ := hstep f cs' _ ht hz2
      rw [hC] at hc
      obtain ⟨_, hcl, hat⟩ := World.cells?_some hc
      refine ⟨t, cs', hcl, ht, fun j u hu => ?_⟩
      have hj := (List.getElem?_eq_some_iff.1 hu).1
      rw [hat j (by omega)]; exact hu
    have key2 : ∀ i, ∃ t : Z, i < len → ∃ cs : List Value, cs.length = z ∧ R t cs ∧ ∀ j u, cs[j]? = some u → w.cell? ((a.add (i * z)).add j) = some u := fun i => by
      by_cases hin : i < len
      · obtain ⟨t, h5⟩ := key i hin
        exact ⟨t, fun _ => h5⟩
      · exact ⟨Classical.choice inferInstance, fun h => absurd h hin⟩
    obtain ⟨g, hg⟩ : ∃ g : Nat → Z, ∀ i, i < len → ∃ cs : List Value, cs.length = z ∧ R (g i) cs ∧ ∀ j u, cs[j]? = some u → w.cell? ((a.add (i * z)).add j) = some u :=
      ⟨fun i => Classical.choose (key2 i), fun i => Classical.choose_spec (key2 i)⟩
    refine ⟨some a, len, cap', g, rfl, bl, ⟨(fun h => by cases h), hl, hm⟩, fun i hi => by obtain ⟨cs, _, h, _⟩ := hg i hi; exact ⟨cs, h⟩, fun h0 => ?_⟩
    obtain ⟨cs, hcl, _, hat⟩ := hg 0 h0
    have hc0 : cs[0]? = some (cs[0]'(by omega)) := List.getElem?_eq_getElem _
    have z1 : w.cell? a = some (cs[0]'(by omega)) := by
      have := hat 0 _ hc0
      simpa [Addr.add] using this
    have hsp := World.cell?_spot z1
    obtain ⟨ab, ao, sp⟩ := a
    simp only at hsp
    subst hsp
    refine ⟨ab, ao, rfl, World.block_lt_of_cell? w _ z1, fun i hin => ?_⟩
    obtain ⟨cs, hcl, hr, hat⟩ := hg i hin
    refine ⟨cs, hcl, hr, fun j u hj => ?_⟩
    have := hat j u hj
    rw [addr_add, addr_add] at this
    exact this
set_option maxRecDepth 100000 in
theorem trod_pair (fuel : Nat) (L : List Value) (x : DataW H × List MemPlace) (h : DataW.trod enc Try.prog w base spare held fuel 40 L = some x) (hz : ∀ n ∈ x.1.weights Try.prog 40, n ≤ reachBytes) :
    ∃ p : PR, ∃ A c, L = (prC p A c).toList ∧ p.t.ok ∧ (-9223372036854775808 ≤ p.id ∧ p.id ≤ 9223372036854775807) ∧ IsL w anyQ p.t A := by
  obtain ⟨ys, n', hn', hy, hlen, hyl, hfl⟩ := DataW.trod_struct Try.underlying40 h
  have hd : x.1 = .agg (ys.map (·.1)) := by rw [hy]
  have hz' : ∀ n ∈ DataW.weightsEach Try.prog [3, 38] (ys.map (·.1)), n ≤ reachBytes := by
    intro n hn
    apply hz
    rw [hd]
    simp only [DataW.weights, Try.underlying40]
    exact hn
  clear h hz hd hy
  have k1 : Try.prog.cellsOf 3 = 1 := by kernel_rfl
  have k2 : Try.prog.cellsOf 38 = 5 := by kernel_rfl
  match L, hlen with
  | [c0, c1, c2, c3, c4, c5], _ =>
    obtain ⟨y0, y1, rfl⟩ : ∃ y0 y1, ys = [y0, y1] := by clear hz' hfl; match ys, hyl with | [a, b], _ => exact ⟨a, b, rfl⟩
    have h0 : DataW.trod enc Try.prog w base spare held n' 3 [c0] = some y0 := fldB k1 (hfl 0 _ rfl)
    have h1 : DataW.trod enc Try.prog w base spare held n' 38 [c1, c2, c3, c4, c5] = some y1 := fldB k2 (hfl 1 _ rfl)
    clear hfl
    obtain ⟨id, e0, _, w0⟩ := DataW.trod_int (k := .i64) (by kernel_rfl) h0
    have q0 : c0 = .int .i64 id := by have : [c0] = [Value.int .i64 id] := e0; simpa using this
    subst q0
    have b0 : -9223372036854775808 ≤ id ∧ id ≤ 9223372036854775807 := by simpa [Lit.wf, IntKind.min, IntKind.max, IntKind.signed, IntKind.bits] using w0
    obtain ⟨t, A, c, e, hok, hL⟩ := trod_item n' _ _ h1 (fun n hn => hz' n (DataW.weights_mem_each (j := 1) rfl rfl n hn))
    simp only [List.cons.injEq, and_true] at e
    obtain ⟨rfl, rfl, rfl, rfl, rfl⟩ := e
    exact ⟨⟨id, t⟩, A, c, rfl, hok, b0, hL⟩
set_option maxRecDepth 100000 in
theorem trod_pairs {fuel : Nat} {c3 : Value} {y : DataW H × List MemPlace} (h3 : DataW.trod enc Try.prog w base spare held fuel 22 [c3] = some y) (hz : ∀ n ∈ y.1.weights Try.prog 22, n ≤ reachBytes) :
    ∃ (A : Option Addr) (c : Nat) (p : PL), c3 = .slice A p.k c ∧ p.wf ∧ PsL w anyQ A p ∧ SlA A p.k c := by
  haveI : Nonempty PR := ⟨⟨0, T.nil⟩⟩
  obtain ⟨A, k, c, g, rfl, hk, hs, hall, hcs⟩ := trod_rows (Z := PR) (by kernel_rfl) (by kernel_rfl : Try.prog.cellsOf 40 = 6) (by decide) (by kernel_rfl : Try.prog.bytesOf 40 = 72) (by decide)
    (fun p L => ∃ A c, L = (prC p A c).toList ∧ p.t.ok ∧ (-9223372036854775808 ≤ p.id ∧ p.id ≤ 9223372036854775807) ∧ IsL w anyQ p.t A) trod_pair h3 hz
  refine ⟨A, c, ⟨k, g⟩, rfl, ⟨hk, fun i hi => by obtain ⟨cs, A', c', _, h1, h2, _⟩ := hall i hi; exact ⟨h1, h2⟩⟩, fun h0 => ?_, hs⟩
  obtain ⟨b, o, rfl, hb, hc⟩ := hcs h0
  refine ⟨b, o, rfl, hb, trivial, fun i hi => ?_⟩
  obtain ⟨cs, _, ⟨A', c', rfl, _, _, hL⟩, hat⟩ := hc i hi
  exact ⟨A', c', ⟨hat 0 _ rfl, hat 1 _ rfl, hat 2 _ rfl, hat 3 _ rfl, hat 4 _ rfl, hat 5 _ rfl⟩, hL⟩
set_option maxRecDepth 100000 in
theorem trod_ints {fuel : Nat} {c3 : Value} {y : DataW H × List MemPlace} (h3 : DataW.trod enc Try.prog w base spare held fuel 23 [c3] = some y) (hz : ∀ n ∈ y.1.weights Try.prog 23, n ≤ reachBytes) :
    ∃ (A : Option Addr) (k c : Nat) (f : Nat → Int), c3 = .slice A k c ∧ k < 4611686018427387904 ∧ (∀ i, i < k → -9223372036854775808 ≤ f i ∧ f i ≤ 9223372036854775807) ∧ NsL w A k f ∧ SlA A k c := by
  obtain ⟨A, k, c, g, rfl, hk, hs, hall, hcs⟩ := trod_rows (Z := Int) (by kernel_rfl) (by kernel_rfl : Try.prog.cellsOf 3 = 1) (by decide) (by kernel_rfl : Try.prog.bytesOf 3 = 8) (by decide)
    (fun n L => L = [.int .i64 n] ∧ -9223372036854775808 ≤ n ∧ n ≤ 9223372036854775807) (fun f cs x h _ => by
      obtain ⟨n, e0, _, w0⟩ := DataW.trod_int (k := .i64) (by kernel_rfl) h
      exact ⟨n, e0, by simpa [Lit.wf, IntKind.min, IntKind.max, IntKind.signed, IntKind.bits] using w0⟩) h3 hz
  refine ⟨A, k, c, g, rfl, hk, fun i hi => by obtain ⟨cs, _, h⟩ := hall i hi; exact h, fun h0 => ?_, hs⟩
  obtain ⟨b, o, rfl, hb, hc⟩ := hcs h0
  refine ⟨b, o, rfl, hb, fun i hi => ?_⟩
  obtain ⟨cs, _, ⟨rfl, _⟩, hat⟩ := hc i hi
  have := hat 0 _ rfl
  rw [Nat.mul_one, Nat.add_zero] at this
  exact this
set_option maxRecDepth 100000 in
theorem trod_ress {fuel : Nat} {c3 : Value} {y : DataW H × List MemPlace} (h3 : DataW.trod enc Try.prog w base spare held fuel 27 [c3] = some y) (hz : ∀ n ∈ y.1.weights Try.prog 27, n ≤ reachBytes) :
    ∃ (A : Option Addr) (k c : Nat) (f : Nat → PL), c3 = .slice A k c ∧ k < 4611686018427387904 ∧ (∀ i, i < k → (f i).wf) ∧ RsL w anyQ A k f ∧ SlA A k c := by
  haveI : Nonempty PL := ⟨⟨0, fun _ => ⟨0, T.nil⟩⟩⟩
  obtain ⟨A, k, c, g, rfl, hk, hs, hall, hcs⟩ := trod_rows (Z := PL) (by kernel_rfl) (by kernel_rfl : Try.prog.cellsOf 22 = 1) (by decide) (by kernel_rfl : Try.prog.bytesOf 22 = 24) (by decide)
    (fun p L => ∃ A c, L = [.slice A p.k c] ∧ p.wf ∧ PsL w anyQ A p ∧ p.k ≤ c) (fun f cs x h hw => by
      match cs, DataW.trod_slice (e := 40) (by kernel_rfl) h with
      | _, .inl ⟨rfl, _⟩ =>
        obtain ⟨A, c, p, e, h1, h2, h3⟩ := trod_pairs h hw
        exact ⟨p, A, c, by rw [e], h1, h2, h3.2.1⟩
      | _, .inr ⟨a, len, cap', elems, rest, f', _, rfl, _⟩ =>
        obtain ⟨A, c, p, e, h1, h2, h3⟩ := trod_pairs h hw
        exact ⟨p, A, c, by rw [e], h1, h2, h3.2.1⟩) h3 hz
  refine ⟨A, k, c, g, rfl, hk, fun i hi => by obtain ⟨cs, _, _, _, h, _⟩ := hall i hi; exact h, fun h0 => ?_, hs⟩
  obtain ⟨b, o, rfl, hb, hc⟩ := hcs h0
  refine ⟨b, o, rfl, hb, trivial, fun i hi => ?_⟩
  obtain ⟨cs, _, ⟨A', c', rfl, _, hP, hkc⟩, hat⟩ := hc i hi
  have := hat 0 _ rfl
  rw [Nat.mul_one, Nat.add_zero] at this
  exact ⟨A', c', this, hkc, hP⟩
set_option maxRecDepth 100000 in
/-- An argument []asb.Pair, opened. -/
theorem open_apairs {v : Value} {d : DataW H} {q : List MemPlace} (hval : Value.okWide Try.prog w r b0 22 v) (h : DataW.Trod enc Try.prog w base spare held 22 v d q) (hz : ∀ n ∈ d.weights Try.prog 22, n ≤ reachBytes) :
    ∃ (A : Option Addr) (c : Nat) (p : PL), v = .slice A p.k c ∧ p.wf ∧ PsL w anyQ A p ∧ SlA A p.k c := by
  obtain ⟨fuel, hf⟩ := h
  obtain ⟨a, n, c, rfl⟩ := okWide_slice Try.underlying22 hval
  have hf' : DataW.trod enc Try.prog w base spare held fuel 22 [.slice a n c] = some (d, q) := hf
  exact trod_pairs hf' hz
set_option maxRecDepth 100000 in
/-- An argument asb.ASB, opened. -/
theorem open_asb {v : Value} {d : DataW H} {q : List MemPlace} (hval : Value.okWide Try.prog w r b0 29 v) (h : DataW.Trod enc Try.prog w base spare held 29 v d q) (hz : ∀ n ∈ d.weights Try.prog 29, n ≤ reachBytes) :
    ∃ (a : AV) (m : AA), v = asbV a m ∧ a.wf ∧ AsL w anyQ a m ∧ SlA m.t a.tk m.tc ∧ SlA m.p a.ps.k m.pc ∧ SlA m.r a.rk m.rc := by
  obtain ⟨cs, rfl, hsz⟩ := okWide_struct Try.underlying29 hval
  obtain ⟨fuel, hf⟩ := h
  obtain ⟨ys, n', hn', hy, hlen, hyl, hfl⟩ := DataW.trod_struct Try.underlying29 hf
  have hcs : (Value.agg cs).cells.toList = cs.toList := rfl
  rw [hcs] at hlen hfl
  obtain ⟨L, hL⟩ : ∃ L, L = cs.toList := ⟨_, rfl⟩
  rw [← hL] at hlen hfl
  have hcsL : cs = L.toArray := by rw [hL]
  subst hcsL
  have hd : d = .agg (ys.map (·.1)) := by simpa using congrArg Prod.fst hy
  have hz' : ∀ n ∈ DataW.weightsEach Try.prog [23, 3, 26, 22, 27] (ys.map (·.1)), n ≤ reachBytes := by
    intro n hn
    apply hz
    rw [hd]
    simp only [DataW.weights, Try.underlying29]
    exact hn
  clear hL hcs hf hval hsz hz
  have k0 : Try.prog.cellsOf 23 = 1 := by kernel_rfl
  have k1 : Try.prog.cellsOf 3 = 1 := by kernel_rfl
  have k2 : Try.prog.cellsOf 26 = 4 := by kernel_rfl
  have k3 : Try.prog.cellsOf 22 = 1 := by kernel_rfl
  have k4 : Try.prog.cellsOf 27 = 1 := by kernel_rfl
  match L, hlen with
  | [c0, c1, c2, c3, c4, c5, c6, c7], _ =>
    obtain ⟨y0, y1, y2, y3, y4, rfl⟩ : ∃ y0 y1 y2 y3 y4, ys = [y0, y1, y2, y3, y4] := by clear hd hz' hy hfl; match ys, hyl with | [a, b, c, d, e], _ => exact ⟨a, b, c, d, e, rfl⟩
    have h0 : DataW.trod enc Try.prog w base spare held n' 23 [c0] = some y0 := fldB k0 (hfl 0 _ rfl)
    have h1 : DataW.trod enc Try.prog w base spare held n' 3 [c1] = some y1 := fldB k1 (hfl 1 _ rfl)
    have h2 : DataW.trod enc Try.prog w base spare held n' 26 [c2, c3, c4, c5] = some y2 := fldB k2 (hfl 2 _ rfl)
    have h3 : DataW.trod enc Try.prog w base spare held n' 22 [c6] = some y3 := fldB k3 (hfl 3 _ rfl)
    have h4 : DataW.trod enc Try.prog w base spare held n' 27 [c7] = some y4 := fldB k4 (hfl 4 _ rfl)
    clear hfl
    obtain ⟨At, tk, tc, tg, rfl, ht1, ht2, ht3, ht4⟩ := trod_ints h0 (fun n hn => hz' n (DataW.weights_mem_each (j := 0) rfl rfl n hn))
    obtain ⟨cx, e1, _, w1⟩ := DataW.trod_int (k := .i64) (by kernel_rfl) h1
    have q1 : c1 = .int .i64 cx := by have : [c1] = [Value.int .i64 cx] := e1; simpa using this
    subst q1
    have b1 : -9223372036854775808 ≤ cx ∧ cx ≤ 9223372036854775807 := by simpa [Lit.wf, IntKind.min, IntKind.max, IntKind.signed, IntKind.bits] using w1
    obtain ⟨E, e2, s2, n2, x2⟩ := trod_eid h2
    obtain ⟨nm, enm, hnm⟩ : ∃ s : List UInt8, E.name = s ∧ s.length < 4611686018427387904 := by
      obtain ⟨zs, m', _, hy2, hl2, hyl2, hfl2⟩ := DataW.trod_struct Try.underlying26 h2
      have hname := field_at (by kernel_rfl) hfl2 (i := 1) rfl rfl
      obtain ⟨z0, z1, z2, z3, rfl⟩ : ∃ z0 z1 z2 z3, zs = [z0, z1, z2, z3] := by clear hy2 hfl2 hname; match zs, hyl2 with | [a, b, c, d], _ => exact ⟨a, b, c, d, rfl⟩
      obtain ⟨s, hs, hsd, _⟩ := DataW.trod_string (by kernel_rfl) hname
      have hs' : c3 = .string s := by have : [c3] = [Value.string s] := hs; simpa using this
      have e3 : c3 = str E.name := by simp only [List.cons.injEq, and_true] at e2; exact e2.2.1
      have hsE : s.data.toList = E.name := by
        rw [hs'] at e3
        simp only [Value.string.injEq] at e3
        rw [e3]
      have hw := hz' s.data.toList.length (DataW.weights_mem_each (j := 2) rfl rfl _ (by
        have hy2' : y2.1 = .agg ([z0, z1, z2, z3].map (·.1)) := by rw [hy2]
        show s.data.toList.length ∈ DataW.weights Try.prog 26 y2.1
        rw [hy2']
        simp only [DataW.weights, Try.underlying26]
        exact DataW.weights_mem_each (j := 1) rfl (show _ = some (DataW.lit (.string s.data.toList)) by
          simp only [List.map, List.getElem?_cons_succ, List.getElem?_cons_zero]; rw [hsd]) _ (by simp [DataW.weights])))
      have hR : reachBytes < 140737488355328 := by decide
      exact ⟨E.name, rfl, by rw [← hsE]; omega⟩
    simp only [List.cons.injEq, and_true] at e2
    obtain ⟨rfl, rfl, rfl, rfl⟩ := e2
    obtain ⟨Ap, pc, p, rfl, hp1, hp2, hp3⟩ := trod_pairs h3 (fun n hn => hz' n (DataW.weights_mem_each (j := 3) rfl rfl n hn))
    obtain ⟨Ar, rk, rc, rs, rfl, hr1, hr2, hr3, hr4⟩ := trod_ress h4 (fun n hn => hz' n (DataW.weights_mem_each (j := 4) rfl rfl n hn))
    exact ⟨⟨tk, tg, cx, E, p, rk, rs⟩, ⟨At, tc, Ap, pc, Ar, rc⟩, rfl, ⟨⟨ht1, ht2⟩, b1, by rw [enm]; exact hnm, hp1, hr1, hr2⟩, ⟨ht3, fun _ _ _ _ => trivial, hp2, hr3⟩, ht4, hp3, hr4⟩
end
end Go.Proofs.Ytogjghmoankleaa
