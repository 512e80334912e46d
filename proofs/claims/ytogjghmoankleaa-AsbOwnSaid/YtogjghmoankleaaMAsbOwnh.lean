/-
  The law AsbTargets: its walk.
  Security texts: what the reference calls right but for its length.
  Security texts: what the reference calls shaped.
  The reference's sums.
  The reference's sums, whole.
  The reference's blocks: bytes, header.
  Security texts: the reference's bytes; Right.
  Security texts: what the reference calls right.
  The law AsbOwn: its walk.
  An argument api.EID, opened; two numbers in a row.
  An argument api.Bundle, opened: its primary's cells; its blocks lie in memory.
-/
import Derived.Test.YtogjghmoankleaaMAsbOwng
import Derived.OpenShut

namespace Go.Proofs.Ytogjghmoankleaa
open Go.RowKit
set_option linter.unusedVariables false
set_option linter.unusedSimpArgs false

theorem fewP_fits {p : PL} (h : fewP p = true) : p.fits := by
  unfold fewP at h
  rw [Bool.and_eq_true, T.all_iff, decide_eq_true_eq] at h
  exact ⟨by omega, fun i hi => by have := (few_size (h.1 i (by omega))).1; omega⟩
theorem fewA_fits {a : AV} (h : fewA a = true) : a.fits ∧ a.tk ≤ 20 ∧ a.rk ≤ 20 := by
  unfold fewA at h
  simp only [Bool.and_eq_true, T.all_iff, decide_eq_true_eq] at h
  obtain ⟨h1, ⟨⟨h2, h3⟩, h4⟩, h5⟩ := h
  exact ⟨⟨by omega, fewP_fits h4, by omega, fun i hi => fewP_fits (h1 i (by omega))⟩, h2, h3⟩
theorem delN_eq (f : Nat → Int) (i j : Nat) : delN f i j = f j ∨ delN f i j = f (j + 1) := by
  unfold delN; split
  · exact .inl rfl
  · exact .inr rfl
theorem wo_wf {a : AV} (hw : a.wf) (i : Nat) (hi : i < a.tk) : (a.wo i).wf := by
  obtain ⟨⟨w1, w2⟩, w3, w4, w5, w6, w7⟩ := hw
  refine ⟨⟨?_, fun j hj => ?_⟩, w3, w4, w5, ?_, fun j hj => ?_⟩
  · show a.tk - 1 < _; omega
  · have hj : j < a.tk - 1 := hj
    show _ ≤ delN a.tg i j ∧ delN a.tg i j ≤ _
    unfold delN
    split
    · exact w2 j (by omega)
    · exact w2 (j + 1) (by omega)
  · show cntW i a.rk < _; unfold cntW; split <;> omega
  · have hj : j < cntW i a.rk := hj
    show (woP a.rs i j).wf
    unfold woP
    unfold cntW at hj
    split
    · exact w7 j (by split at hj <;> omega)
    · exact w7 (j + 1) (by split at hj <;> omega)
theorem zeroA_wf : zeroA.wf := ⟨⟨by show (0 : Nat) < _; omega, fun i hi => absurd hi (Nat.not_lt_zero _)⟩, by show _ ≤ (0 : Int) ∧ (0 : Int) ≤ _; omega, by show (0 : Nat) < _; omega, ⟨by show (0 : Nat) < _; omega, fun i hi => absurd hi (Nat.not_lt_zero _)⟩, by show (0 : Nat) < _; omega, fun i hi => absurd hi (Nat.not_lt_zero _)⟩
theorem zeroA_lies (w : World) (Q : Nat → Prop) : AsL w Q zeroA zeroM := ⟨fun h => absurd h (Nat.not_lt_zero _), fun _ _ h => (by cases h), fun h => absurd h (Nat.not_lt_zero _), fun h => absurd h (Nat.not_lt_zero _)⟩
theorem AsL.weak {w : World} {Q R : Nat → Prop} {a : AV} {m : AA} (h : AsL w Q a m) (hq : ∀ k, k < w.heap.size → Q k → R k) : AsL w R a m :=
  ⟨h.t, fun b o hA h0 => hq b (by obtain ⟨b', o', e, hb, _⟩ := h.t h0; rw [hA] at e; cases e; exact hb) (h.tq b o hA h0), h.p.weak hq, h.r.weak hq⟩
theorem Result_none (a : AV) (hw : a.wf) (hf : a.fits) (t : Int) (hx : atT a t = none) (m : AA) (w : World) (h : AsL w anyQ a m) : Calls Try.prog 15 #[asbV a m, .int .i64 t] w (Ret (.tuple #[.slice none 0 0, .bool false]) w) := by
  refine (Result_any a hw hf t m w h).mono ?_
  rintro e w' ⟨hE, hm⟩
  rw [hx] at hm
  exact ⟨hm, hE⟩
theorem Result_far (a : AV) (hw : a.wf) (hf : a.fits) (t : Int) (i : Nat) (hx : atT a t = some i) (hi : ¬ i < a.rk) (m : AA) (w : World) (h : AsL w anyQ a m) : Calls Try.prog 15 #[asbV a m, .int .i64 t] w (Ret (.tuple #[.slice none 0 0, .bool true]) w) := by
  refine (Result_any a hw hf t m w h).mono ?_
  rintro e w' ⟨hE, hm⟩
  rw [hx] at hm
  dsimp only at hm
  rw [if_neg hi] at hm
  exact ⟨hm, hE⟩
theorem Result_some (a : AV) (hw : a.wf) (hf : a.fits) (t : Int) (i : Nat) (hx : atT a t = some i) (hi : i < a.rk) (m : AA) (w : World) (h : AsL w anyQ a m) : Calls Try.prog 15 #[asbV a m, .int .i64 t] w (fun e w' => ∃ A' c', e = .returned (.tuple #[.slice A' (a.rs i).k c', .bool true]) ∧ Ext w w' ∧ PsL w' (fun b => w.heap.size ≤ b) A' (a.rs i) ∧ softA w' (fun b => w.heap.size ≤ b) A') := by
  refine (Result_any a hw hf t m w h).mono ?_
  rintro e w' ⟨hE, hm⟩
  rw [hx] at hm
  dsimp only at hm
  rw [if_pos hi] at hm
  obtain ⟨A', c', rfl, h1, _, h2⟩ := hm
  exact ⟨A', c', rfl, hE, h1, h2⟩
set_option maxRecDepth 20000 in
set_option maxHeartbeats 16000000 in
theorem asbTargets_any (a : AV) (hw : a.wf) (t : Int) (m : AA) (w : World) (h : AsL w anyQ a m) : Calls Try.prog 4 #[asbV a m, .int .i64 t] w (Ret (.bool true) w) := by
  obtain ⟨mt, mtc, mp, mpc, mr, mrc⟩ := m
  have HE := hid ((Mod.refl [] w).alloc (.cells (asbC a ⟨mt, mtc, mp, mpc, mr, mrc⟩) 29))
  have HB0 := hid (Blk.new w 29 (asbC a ⟨mt, mtc, mp, mpc, mr, mrc⟩))
  have HL := hid (h.ext HE.out)
  have HW := hid hw
  clear hw h
  go_enter Try.func4, Try.ntmps4
  go_upto_region 1 with fail
  generalize w.alloc (.cells (asbC a ⟨mt, mtc, mp, mpc, mr, mrc⟩) 29) = V at *
  have KF := hid (fun e : Later V => few15_any a HW.out ⟨mt, mtc, mp, mpc, mr, mrc⟩ e.x (HL.out.ext e.h))
  obtain ⟨e, he⟩ := Later.self V
  rw [he]
  clear he
  have tk1 : True := trivial
  cases hfw : fewA a with
  | false =>
    rw [hfw] at KF
    clear hfw
    go_wp2_with (first | (go_at_call 10; refine (Ret.later (awake15_any _)).mono ?_; rintro x _ ⟨rfl, e, rfl⟩) | (clear tk1; refine wpList_row (by rfl) 29 _ rfl _ rfl (HB0.out.later _) Try.underlying29 rfl (by kernel_rfl) ?_) | (go_at_call 11; refine (Ret.later (KF.out _)).mono ?_; rintro x _ ⟨rfl, e, rfl⟩))
    go_ret
    exact Ret.mk rfl (HE.out.trans e.h)
  | true =>
  rw [hfw] at KF
  have HF := hid (fewA_fits hfw).1
  have tk20 : (a.tk : Int) ≤ 20 := by have := (fewA_fits hfw).2.1; omega
  have rk20 : (a.rk : Int) ≤ 20 := by have := (fewA_fits hfw).2.2; omega
  clear hfw
  have KA := hid (fun e : Later V => r15At_any a HW.out t ⟨mt, mtc, mp, mpc, mr, mrc⟩ e.x (HL.out.ext e.h))
  have tk2 : True := trivial
  cases hx : atT a t with
  | none =>
    have HX := hid (firstI_none hx)
    rw [HX.out] at KA
    have KR := hid (fun e : Later V => Result_none a HW.out HF.out t hx ⟨mt, mtc, mp, mpc, mr, mrc⟩ e.x (HL.out.ext e.h))
    have KW := hid (fun e : Later V => Without_none a HW.out t hx ⟨mt, mtc, mp, mpc, mr, mrc⟩ e.x (HL.out.ext e.h))
    have tk3 : True := trivial
    have tk4 : True := trivial
    go_upto_region 6 with (first | (go_at_call 10; refine (Ret.later (awake15_any _)).mono ?_; rintro x _ ⟨rfl, e, rfl⟩) | (clear tk1; refine wpList_row (by rfl) 29 _ rfl _ rfl (HB0.out.later _) Try.underlying29 rfl (by kernel_rfl) ?_) | (go_at_call 11; refine (Ret.later (KF.out _)).mono ?_; rintro x _ ⟨rfl, e, rfl⟩) | (clear tk2; refine wpList_row (by rfl) 29 _ rfl _ rfl (HB0.out.later _) Try.underlying29 rfl (by kernel_rfl) ?_) | (go_at_call 14; refine (Ret.later (KA.out _)).mono ?_; rintro x _ ⟨rfl, e, rfl⟩) | (clear tk3; refine wpList_row (by rfl) 29 _ rfl _ rfl (HB0.out.later _) Try.underlying29 rfl (by kernel_rfl) ?_) | (go_at_call 15; refine (Ret.later (KR.out _)).mono ?_; rintro x _ ⟨rfl, e, rfl⟩) | (clear tk4; refine wpList_row (by rfl) 29 _ rfl _ rfl (HB0.out.later _) Try.underlying29 rfl (by kernel_rfl) ?_) | (go_at_call 16; refine (Ret.later (KW.out _)).mono ?_; rintro x _ ⟨rfl, e, rfl⟩))
    generalize hZ : World.alloc e.x _ = Z
    have HBZ : Hid (Blk Z e.x.heap.size 29 (asbC zeroA zeroM)) := hid (by rw [← hZ]; exact Blk.new _ _ _)
    have HEZ : Hid (Ext w Z) := hid (by rw [← hZ]; exact (HE.out.trans e.h).alloc _)
    have KS := hid (fun e : Later Z => Same15_eq zeroA zeroA_wf zeroM zeroM e.x (zeroA_lies _ _) (zeroA_lies _ _))
    clear hZ KR KW KA
    obtain ⟨ez, he⟩ := Later.self Z
    rw [he]
    clear he
    have tk5 : True := trivial
    go_wp2_with (first | (clear tk5; refine wpList_row (by rfl) 29 _ rfl _ rfl (HBZ.out.later _) Try.underlying29 rfl (by kernel_rfl) ?_) | (go_at_call 17; refine (Ret.later (KS.out _)).mono ?_; rintro x _ ⟨rfl, ez, rfl⟩))
    go_ret
    exact Ret.mk rfl (HEZ.out.trans ez.h)
  | some i =>
    have HX := hid (firstI_some hx)
    rw [HX.out] at KA
    have HI : Hid (i < a.tk) := hid (firstOf_spec hx).1
    have i0 : (0 : Int) ≤ (i : Int) := by omega
    have HATT := hid hx
    have tk3 : True := trivial
    go_upto_region 4 with (first | (go_at_call 10; refine (Ret.later (awake15_any _)).mono ?_; rintro x _ ⟨rfl, e, rfl⟩) | (clear tk1; refine wpList_row (by rfl) 29 _ rfl _ rfl (HB0.out.later _) Try.underlying29 rfl (by kernel_rfl) ?_) | (go_at_call 11; refine (Ret.later (KF.out _)).mono ?_; rintro x _ ⟨rfl, e, rfl⟩) | (clear tk2; refine wpList_row (by rfl) 29 _ rfl _ rfl (HB0.out.later _) Try.underlying29 rfl (by kernel_rfl) ?_) | (go_at_call 14; refine (Ret.later (KA.out _)).mono ?_; rintro x _ ⟨rfl, e, rfl⟩))
    clear KA KF
    by_cases hir : i < a.rk
    case pos =>
      have KR := hid (fun e : Later V => Result_some a HW.out HF.out t i HATT.out hir ⟨mt, mtc, mp, mpc, mr, mrc⟩ e.x (HL.out.ext e.h))
      go_upto_region 5 with (first | (clear tk3; refine wpList_row (by rfl) 29 _ rfl _ rfl (HB0.out.later _) Try.underlying29 rfl (by kernel_rfl) ?_) | (go_at_call 15; refine (KR.out e).mono ?_; rintro x w5 ⟨A5, c5, rfl, hb5, hp5, _⟩; have H5 := hid (e.h.trans hb5); have HP5 := hid (hp5.weak (R := anyQ) (fun _ _ _ => trivial)); clear hb5 hp5))
      clear KR
      have HE5 := hid (HE.out.trans H5.out)
      have HL5 := hid (HL.out.ext H5.out)
      have HB5 := hid (HB0.out.ext H5.out)
      have KW := hid (Without_some a HW.out HF.out t i HATT.out ⟨mt, mtc, mp, mpc, mr, mrc⟩ w5 HL5.out)
      have tk4 : True := trivial
      go_upto_region 6 with (first | (clear tk4; refine wpList_row (by rfl) 29 _ rfl _ rfl HB5.out Try.underlying29 rfl (by kernel_rfl) ?_) | (go_at_call 16; refine KW.out.mono ?_; rintro x w6 ⟨hb6, ⟨nt, ntc, np, npc, nr, nrc⟩, rfl, ha6, _⟩; have H6 := hid hb6; have HA6 := hid (ha6.weak (R := anyQ) (fun _ _ _ => trivial)); clear hb6 ha6))
      clear KW
      generalize hZ : World.alloc w6 _ = Z
      have HBZ : Hid (Blk Z w6.heap.size 29 (asbC (a.wo i) ⟨nt, ntc, np, npc, nr, nrc⟩)) := hid (by rw [← hZ]; exact Blk.new _ _ _)
      have HVZ : Hid (Ext w5 Z) := hid (by rw [← hZ]; exact H6.out.alloc _)
      have HEZ : Hid (Ext w Z) := hid (HE5.out.trans HVZ.out)
      have HLZ := hid (HL5.out.ext HVZ.out)
      have HB0Z := hid (HB5.out.ext HVZ.out)
      have HWZ : Hid (AsL Z anyQ (a.wo i) ⟨nt, ntc, np, npc, nr, nrc⟩) := hid (HA6.out.ext (by rw [← hZ]; exact (Mod.refl [] w6).alloc _))
      have HPZ := hid (HP5.out.ext HVZ.out)
      clear hZ H6 HA6 HL5 HB5
      generalize w6.heap.size = gz at *
      have b7 : ∀ e : Later Z, e.x.cell? ⟨w.heap.size, 7, none⟩ = some (.slice mr a.rk mrc) := HB0Z.out.cellL 7 rfl
      obtain ⟨bR, oR, Ai, ci, hmr, hbR, qR, hkR, hPR⟩ := HLZ.out.r.at (Mod.refl [] Z) hir
      have hmr : mr = some ⟨bR, oR, none⟩ := hmr
      subst hmr
      have q7 : ∀ e : Later Z, e.x.cell? ⟨bR, oR + i, none⟩ = some (.slice Ai (a.rs i).k ci) := fun e => cellL qR e
      have KSP := hid (fun W (hW : Ext Z W) => SamePairs_eq (a.rs i) (HW.out.2.2.2.2.2 i hir) A5 Ai c5 ci W (HPZ.out.ext hW) (hPR.ext hW))
      have iaa : decide (i < a.rk) = true := decide_eq_true (by exact hir)
      have iab : (i < a.rk) = True := eq_true (by exact hir)
      have iba : decide ((i : Int) < (a.rk : Int)) = true := decide_eq_true (by omega)
      have ibb : ((i : Int) < (a.rk : Int)) = True := eq_true (by omega)
      clear hPR hkR qR hbR hir
      have KRW := hid (fun W (hW : Ext Z W) => r15Without_some a HW.out HF.out t i HATT.out ⟨mt, mtc, mp, mpc, some ⟨bR, oR, none⟩, mrc⟩ W (HLZ.out.ext hW))
      have KSM := hid (fun m2 W (hW : Ext Z W) (h2 : AsL W anyQ (a.wo i) m2) => Same15_eq (a.wo i) (wo_wf HW.out i HI.out) ⟨nt, ntc, np, npc, nr, nrc⟩ m2 W (HWZ.out.ext hW) h2)
      have R0 : Hid (∀ W, Ext Z W → Blk W w.heap.size 29 (asbC a ⟨mt, mtc, mp, mpc, some ⟨bR, oR, none⟩, mrc⟩)) := hid (fun W hW => HB0Z.out.ext hW)
      have R1 : Hid (∀ W, Ext Z W → Blk W gz 29 (asbC (a.wo i) ⟨nt, ntc, np, npc, nr, nrc⟩)) := hid (fun W hW => HBZ.out.ext hW)
      obtain ⟨ez, he⟩ := Later.self Z
      rw [he]
      clear he
      go_upto_region 13 with fail
      clear b7 q7
      refine wp_region_held_drew (S := fun w' => Ext Z w') (by kernel_rfl) ez.h.drew (fun hHeld => ?_)
      generalize ez.x.drew = v0 at *
      refine' wpAnyH_take (i := 0) (v := _) rfl (by kernel_rfl) (by kernel_rfl) (by kernel_rfl) (fun _ _ _ h => h) (Or.inl ⟨by rfl, ?hy1⟩) hHeld ?rest1
      case hy1 => (rintro W hM; go_simp; (try with_reducible rfl))
      case rest1 =>
      (try simp only [Act.put, List.getElem_toArray, List.getElem_cons_zero, List.getElem_cons_succ, List.setIfInBounds_toArray, List.set_cons_zero, List.set_cons_succ])
      refine' wpAnyH_take (i := 1) (v := _) rfl (by kernel_rfl) (by kernel_rfl) (by kernel_rfl) (fun _ _ _ h => h) (Or.inl ⟨by rfl, ?hy2⟩) hHeld ?rest2
      case hy2 => (rintro W hM; go_simp; (try with_reducible rfl))
      case rest2 =>
      (try simp only [Act.put, List.getElem_toArray, List.getElem_cons_zero, List.getElem_cons_succ, List.setIfInBounds_toArray, List.set_cons_zero, List.set_cons_succ])
      refine wpAnyH_ready (rs := [2]) (by kernel_rfl) (by simp) ?_
      refine AllReadyH.cons rfl (fun K hK => ?_) AllReadyH.nil
      go_simp
      go_at_call 18
      refine (KSP.out _ hHeld).mono ?_
      rintro x v1 ⟨rfl, hb⟩
      refine hK.out _ _ (hHeld.trans hb) (fun hHeld => ?_)
      clear hK K
      (try simp only [Act.put, List.getElem_toArray, List.getElem_cons_zero, List.getElem_cons_succ, List.setIfInBounds_toArray, List.set_cons_zero, List.set_cons_succ])
      refine' wpAnyH_take (i := 3) (v := _) rfl (by kernel_rfl) (by kernel_rfl) (by kernel_rfl) (fun _ _ _ h => h) (Or.inl ⟨by rfl, ?hy3⟩) hHeld ?rest3
      case hy3 => (rintro W hM; go_simp; (try with_reducible rfl))
      case rest3 =>
      (try simp only [Act.put, List.getElem_toArray, List.getElem_cons_zero, List.getElem_cons_succ, List.setIfInBounds_toArray, List.set_cons_zero, List.set_cons_succ])
      refine wpAnyH_take (i := 4) rfl (by kernel_rfl) (by kernel_rfl) (by kernel_rfl) (fun _ _ _ h => h) (yieldsIf_row (by rfl) 29 _ rfl _ rfl R1.out Try.underlying29 rfl (by kernel_rfl)) hHeld ?_
      (try simp only [Act.put, List.getElem_toArray, List.getElem_cons_zero, List.getElem_cons_succ, List.setIfInBounds_toArray, List.set_cons_zero, List.set_cons_succ])
      refine wpAnyH_take (i := 5) rfl (by kernel_rfl) (by kernel_rfl) (by kernel_rfl) (fun _ _ _ h => h) (yieldsIf_row (by rfl) 29 _ rfl _ rfl R0.out Try.underlying29 rfl (by kernel_rfl)) hHeld ?_
      (try simp only [Act.put, List.getElem_toArray, List.getElem_cons_zero, List.getElem_cons_succ, List.setIfInBounds_toArray, List.set_cons_zero, List.set_cons_succ])
      refine' wpAnyH_take (i := 6) (v := _) rfl (by kernel_rfl) (by kernel_rfl) (by kernel_rfl) (fun _ _ _ h => h) (Or.inl ⟨by rfl, ?hy4⟩) hHeld ?rest4
      case hy4 => (rintro W hM; go_simp; (try with_reducible rfl))
      case rest4 =>
      (try simp only [Act.put, List.getElem_toArray, List.getElem_cons_zero, List.getElem_cons_succ, List.setIfInBounds_toArray, List.set_cons_zero, List.set_cons_succ])
      refine wpAnyH_ready (rs := [7]) (by kernel_rfl) (by simp) ?_
      refine AllReadyH.cons rfl (fun K hK => ?_) AllReadyH.nil
      go_simp
      go_at_call 19
      refine (KRW.out _ hHeld).mono ?_
      rintro x v2 ⟨hb, m2, rfl, h2⟩
      refine hK.out _ _ (hHeld.trans hb) (fun hHeld => ?_)
      clear hK K
      (try simp only [Act.put, List.getElem_toArray, List.getElem_cons_zero, List.getElem_cons_succ, List.setIfInBounds_toArray, List.set_cons_zero, List.set_cons_succ])
      refine wpAnyH_ready (rs := [8]) (by kernel_rfl) (by simp) ?_
      refine AllReadyH.cons rfl (fun K hK => ?_) AllReadyH.nil
      go_simp
      go_at_call 17
      refine (KSM.out m2 _ hHeld h2).mono ?_
      rintro x v3 ⟨rfl, hb⟩
      refine hK.out _ _ (hHeld.trans hb) (fun hHeld => ?_)
      clear hK K
      (try simp only [Act.put, List.getElem_toArray, List.getElem_cons_zero, List.getElem_cons_succ, List.setIfInBounds_toArray, List.set_cons_zero, List.set_cons_succ])
      refine' wpAnyH_take (i := 9) (v := _) rfl (by kernel_rfl) (by kernel_rfl) (by kernel_rfl) (fun _ _ _ h => h) (Or.inl ⟨by rfl, ?hy5⟩) hHeld ?rest5
      case hy5 => (rintro W hM; go_simp; (try with_reducible rfl))
      case rest5 =>
      (try simp only [Act.put, List.getElem_toArray, List.getElem_cons_zero, List.getElem_cons_succ, List.setIfInBounds_toArray, List.set_cons_zero, List.set_cons_succ])
      refine' wpAnyH_take (i := 10) (v := _) rfl (by kernel_rfl) (by kernel_rfl) (by kernel_rfl) (fun _ _ _ h => h) (Or.inl ⟨by rfl, ?hy6⟩) hHeld ?rest6
      case hy6 => (rintro W hM; go_simp; (try with_reducible rfl))
      case rest6 =>
      (try simp only [Act.put, List.getElem_toArray, List.getElem_cons_zero, List.getElem_cons_succ, List.setIfInBounds_toArray, List.set_cons_zero, List.set_cons_succ])
      refine wpAnyH_done (by kernel_rfl) ?_ _
      have HVF := hid hHeld
      clear hHeld
      go_wp2_with fail
      go_ret
      exact Ret.mk rfl (HEZ.out.trans HVF.out)
    have KR := hid (fun e : Later V => Result_far a HW.out HF.out t i HATT.out hir ⟨mt, mtc, mp, mpc, mr, mrc⟩ e.x (HL.out.ext e.h))
    go_upto_region 5 with (first | (clear tk3; refine wpList_row (by rfl) 29 _ rfl _ rfl (HB0.out.later _) Try.underlying29 rfl (by kernel_rfl) ?_) | (go_at_call 15; refine (Ret.later (KR.out _)).mono ?_; rintro x _ ⟨rfl, e, rfl⟩))
    obtain ⟨w5, hw5⟩ : ∃ w5, e.x = w5 := ⟨_, rfl⟩
    have H5 : Hid (Ext V w5) := hid (hw5 ▸ e.h)
    rw [hw5]
    clear hw5 KR
    have HE5 := hid (HE.out.trans H5.out)
    have HL5 := hid (HL.out.ext H5.out)
    have HB5 := hid (HB0.out.ext H5.out)
    have KW := hid (Without_some a HW.out HF.out t i HATT.out ⟨mt, mtc, mp, mpc, mr, mrc⟩ w5 HL5.out)
    have tk4 : True := trivial
    go_upto_region 6 with (first | (clear tk4; refine wpList_row (by rfl) 29 _ rfl _ rfl HB5.out Try.underlying29 rfl (by kernel_rfl) ?_) | (go_at_call 16; refine KW.out.mono ?_; rintro x w6 ⟨hb6, ⟨nt, ntc, np, npc, nr, nrc⟩, rfl, ha6, _⟩; have H6 := hid hb6; have HA6 := hid (ha6.weak (R := anyQ) (fun _ _ _ => trivial)); clear hb6 ha6))
    clear KW
    generalize hZ : World.alloc w6 _ = Z
    have HBZ : Hid (Blk Z w6.heap.size 29 (asbC (a.wo i) ⟨nt, ntc, np, npc, nr, nrc⟩)) := hid (by rw [← hZ]; exact Blk.new _ _ _)
    have HVZ : Hid (Ext w5 Z) := hid (by rw [← hZ]; exact H6.out.alloc _)
    have HEZ : Hid (Ext w Z) := hid (HE5.out.trans HVZ.out)
    have HLZ := hid (HL5.out.ext HVZ.out)
    have HB0Z := hid (HB5.out.ext HVZ.out)
    have HWZ : Hid (AsL Z anyQ (a.wo i) ⟨nt, ntc, np, npc, nr, nrc⟩) := hid (HA6.out.ext (by rw [← hZ]; exact (Mod.refl [] w6).alloc _))
    clear hZ H6 HA6 HL5 HB5
    generalize w6.heap.size = gz at *
    have b7 : ∀ e : Later Z, e.x.cell? ⟨w.heap.size, 7, none⟩ = some (.slice mr a.rk mrc) := HB0Z.out.cellL 7 rfl
    have KSP := hid (fun W (hW : Ext Z W) => SamePairs_eq ⟨0, fun _ => ⟨0, T.nil⟩⟩ ⟨by show (0 : Nat) < _; omega, fun i hi => absurd hi (Nat.not_lt_zero _)⟩ none none 0 0 W (fun h => absurd h (Nat.not_lt_zero _)) (fun h => absurd h (Nat.not_lt_zero _)))
    have iaa : decide (i < a.rk) = false := decide_eq_false (by exact hir)
    have iab : (i < a.rk) = False := eq_false (by exact hir)
    have iba : decide ((i : Int) < (a.rk : Int)) = false := decide_eq_false (by omega)
    have ibb : ((i : Int) < (a.rk : Int)) = False := eq_false (by omega)
    clear hir
    have KRW := hid (fun W (hW : Ext Z W) => r15Without_some a HW.out HF.out t i HATT.out ⟨mt, mtc, mp, mpc, mr, mrc⟩ W (HLZ.out.ext hW))
    have KSM := hid (fun m2 W (hW : Ext Z W) (h2 : AsL W anyQ (a.wo i) m2) => Same15_eq (a.wo i) (wo_wf HW.out i HI.out) ⟨nt, ntc, np, npc, nr, nrc⟩ m2 W (HWZ.out.ext hW) h2)
    have R0 : Hid (∀ W, Ext Z W → Blk W w.heap.size 29 (asbC a ⟨mt, mtc, mp, mpc, mr, mrc⟩)) := hid (fun W hW => HB0Z.out.ext hW)
    have R1 : Hid (∀ W, Ext Z W → Blk W gz 29 (asbC (a.wo i) ⟨nt, ntc, np, npc, nr, nrc⟩)) := hid (fun W hW => HBZ.out.ext hW)
    obtain ⟨ez, he⟩ := Later.self Z
    rw [he]
    clear he
    go_upto_region 13 with fail
    clear b7
    refine wp_region_held_drew (S := fun w' => Ext Z w') (by kernel_rfl) ez.h.drew (fun hHeld => ?_)
    generalize ez.x.drew = v0 at *
    refine' wpAnyH_take (i := 0) (v := _) rfl (by kernel_rfl) (by kernel_rfl) (by kernel_rfl) (fun _ _ _ h => h) (Or.inl ⟨by rfl, ?hy7⟩) hHeld ?rest7
    case hy7 => (rintro W hM; go_simp; (try with_reducible rfl))
    case rest7 =>
    (try simp only [Act.put, List.getElem_toArray, List.getElem_cons_zero, List.getElem_cons_succ, List.setIfInBounds_toArray, List.set_cons_zero, List.set_cons_succ])
    refine' wpAnyH_take (i := 1) (v := _) rfl (by kernel_rfl) (by kernel_rfl) (by kernel_rfl) (fun _ _ _ h => h) (Or.inl ⟨by rfl, ?hy8⟩) hHeld ?rest8
    case hy8 => (rintro W hM; go_simp; (try with_reducible rfl))
    case rest8 =>
    (try simp only [Act.put, List.getElem_toArray, List.getElem_cons_zero, List.getElem_cons_succ, List.setIfInBounds_toArray, List.set_cons_zero, List.set_cons_succ])
    refine wpAnyH_ready (rs := [2]) (by kernel_rfl) (by simp) ?_
    refine AllReadyH.cons rfl (fun K hK => ?_) AllReadyH.nil
    go_simp
    go_at_call 18
    refine (KSP.out _ hHeld).mono ?_
    rintro x v1 ⟨rfl, hb⟩
    refine hK.out _ _ (hHeld.trans hb) (fun hHeld => ?_)
    clear hK K
    (try simp only [Act.put, List.getElem_toArray, List.getElem_cons_zero, List.getElem_cons_succ, List.setIfInBounds_toArray, List.set_cons_zero, List.set_cons_succ])
    refine' wpAnyH_take (i := 3) (v := _) rfl (by kernel_rfl) (by kernel_rfl) (by kernel_rfl) (fun _ _ _ h => h) (Or.inl ⟨by rfl, ?hy9⟩) hHeld ?rest9
    case hy9 => (rintro W hM; go_simp; (try with_reducible rfl))
    case rest9 =>
    (try simp only [Act.put, List.getElem_toArray, List.getElem_cons_zero, List.getElem_cons_succ, List.setIfInBounds_toArray, List.set_cons_zero, List.set_cons_succ])
    refine wpAnyH_take (i := 4) rfl (by kernel_rfl) (by kernel_rfl) (by kernel_rfl) (fun _ _ _ h => h) (yieldsIf_row (by rfl) 29 _ rfl _ rfl R1.out Try.underlying29 rfl (by kernel_rfl)) hHeld ?_
    (try simp only [Act.put, List.getElem_toArray, List.getElem_cons_zero, List.getElem_cons_succ, List.setIfInBounds_toArray, List.set_cons_zero, List.set_cons_succ])
    refine wpAnyH_take (i := 5) rfl (by kernel_rfl) (by kernel_rfl) (by kernel_rfl) (fun _ _ _ h => h) (yieldsIf_row (by rfl) 29 _ rfl _ rfl R0.out Try.underlying29 rfl (by kernel_rfl)) hHeld ?_
    (try simp only [Act.put, List.getElem_toArray, List.getElem_cons_zero, List.getElem_cons_succ, List.setIfInBounds_toArray, List.set_cons_zero, List.set_cons_succ])
    refine' wpAnyH_take (i := 6) (v := _) rfl (by kernel_rfl) (by kernel_rfl) (by kernel_rfl) (fun _ _ _ h => h) (Or.inl ⟨by rfl, ?hy10⟩) hHeld ?rest10
    case hy10 => (rintro W hM; go_simp; (try with_reducible rfl))
    case rest10 =>
    (try simp only [Act.put, List.getElem_toArray, List.getElem_cons_zero, List.getElem_cons_succ, List.setIfInBounds_toArray, List.set_cons_zero, List.set_cons_succ])
    refine wpAnyH_ready (rs := [7]) (by kernel_rfl) (by simp) ?_
    refine AllReadyH.cons rfl (fun K hK => ?_) AllReadyH.nil
    go_simp
    go_at_call 19
    refine (KRW.out _ hHeld).mono ?_
    rintro x v2 ⟨hb, m2, rfl, h2⟩
    refine hK.out _ _ (hHeld.trans hb) (fun hHeld => ?_)
    clear hK K
    (try simp only [Act.put, List.getElem_toArray, List.getElem_cons_zero, List.getElem_cons_succ, List.setIfInBounds_toArray, List.set_cons_zero, List.set_cons_succ])
    refine wpAnyH_ready (rs := [8]) (by kernel_rfl) (by simp) ?_
    refine AllReadyH.cons rfl (fun K hK => ?_) AllReadyH.nil
    go_simp
    go_at_call 17
    refine (KSM.out m2 _ hHeld h2).mono ?_
    rintro x v3 ⟨rfl, hb⟩
    refine hK.out _ _ (hHeld.trans hb) (fun hHeld => ?_)
    clear hK K
    (try simp only [Act.put, List.getElem_toArray, List.getElem_cons_zero, List.getElem_cons_succ, List.setIfInBounds_toArray, List.set_cons_zero, List.set_cons_succ])
    refine' wpAnyH_take (i := 9) (v := _) rfl (by kernel_rfl) (by kernel_rfl) (by kernel_rfl) (fun _ _ _ h => h) (Or.inl ⟨by rfl, ?hy11⟩) hHeld ?rest11
    case hy11 => (rintro W hM; go_simp; (try with_reducible rfl))
    case rest11 =>
    (try simp only [Act.put, List.getElem_toArray, List.getElem_cons_zero, List.getElem_cons_succ, List.setIfInBounds_toArray, List.set_cons_zero, List.set_cons_succ])
    refine' wpAnyH_take (i := 10) (v := _) rfl (by kernel_rfl) (by kernel_rfl) (by kernel_rfl) (fun _ _ _ h => h) (Or.inl ⟨by rfl, ?hy12⟩) hHeld ?rest12
    case hy12 => (rintro W hM; go_simp; (try with_reducible rfl))
    case rest12 =>
    (try simp only [Act.put, List.getElem_toArray, List.getElem_cons_zero, List.getElem_cons_succ, List.setIfInBounds_toArray, List.set_cons_zero, List.set_cons_succ])
    refine wpAnyH_done (by kernel_rfl) ?_ _
    have HVF := hid hHeld
    clear hHeld
    go_wp2_with fail
    go_ret
    exact Ret.mk rfl (HEZ.out.trans HVF.out)
end Go.Proofs.Ytogjghmoankleaa


namespace Go.Proofs.Ytogjghmoankleaa
open Go.RowKit
set_option linter.unusedVariables false
set_option linter.unusedSimpArgs false

def okB (p : PL) (i : Nat) : Bool := codedB (p.a i).id && valB (p.a i).t && T.all (fun j => decide ((p.a j).id ≠ (p.a i).id)) i
theorem all_and (f g : Nat → Bool) (k : Nat) : T.all (fun i => f i && g i) k = (T.all f k && T.all g k) := by
  rw [Bool.eq_iff_iff, Bool.and_eq_true, T.all_iff, T.all_iff, T.all_iff]
  constructor
  · intro h
    exact ⟨fun i hi => by have := h i hi; simp at this; exact this.1, fun i hi => by have := h i hi; simp at this; exact this.2⟩
  · rintro ⟨h1, h2⟩ i hi
    simp [h1 i hi, h2 i hi]
theorem okB_pairs (p : PL) : T.all (okB p) p.k = pairsB p := by
  have e : okB p = fun i => valB (p.a i).t && (codedB (p.a i).id && T.all (fun j => decide ((p.a j).id ≠ (p.a i).id)) i) := by
    funext i
    unfold okB
    cases codedB (p.a i).id <;> cases valB (p.a i).t <;> rfl
  rw [e, all_and]
  rfl
set_option maxRecDepth 20000 in
set_option maxHeartbeats 2000000 in
theorem r15pairs_any (p : PL) (hw : p.wf) (l m : Nat) (hm : m ≤ 1000) (hl : l ≤ 1000) (A : Option Addr) (c : Nat) (w : World) (h : PsL w anyQ A p) : Calls Try.prog 79 #[.slice A p.k c, .int .i64 (l : Int), .int .i64 (m : Int)] w (Ret (.bool (decide (l ≤ p.k) && decide (p.k ≤ m) && pairsB p)) w) := by
  generalize hRES : (decide (l ≤ p.k) && decide (p.k ≤ m) && pairsB p) = RES
  have HRES0 := hid hRES
  rw [← okB_pairs] at hRES
  have HRES : Hid (RES = (decide (l ≤ p.k) && decide (p.k ≤ m) && T.all (okB p) p.k)) := hid hRES.symm
  have HL := hid h
  have HW := hid hw
  have k0 : (p.k : Int) < 4611686018427387904 := by have := hw.1; omega
  have l0 : (l : Int) ≤ 1000 := by omega
  have m0 : (m : Int) ≤ 1000 := by omega
  clear hRES HRES0 h hw hm hl
  obtain ⟨e, he⟩ := Later.self w
  go_enter Try.func79, Try.ntmps79
  by_cases h1 : p.k < l
  case pos =>
    have HX : Hid (RES = false) := hid (by rw [HRES.out, decide_eq_false (show ¬ l ≤ p.k by omega)]; rfl)
    have taa : decide (p.k < l) = true := decide_eq_true (by omega)
    have tab : (p.k < l) = True := eq_true (by omega)
    have tba : decide ((p.k : Int) < (l : Int)) = true := decide_eq_true (by omega)
    have tbb : ((p.k : Int) < (l : Int)) = True := eq_true (by omega)
    go_wp2_with fail
    go_ret
    exact Ret.mk (by rw [HX.out]; rfl) e.h
  have taa : decide (p.k < l) = false := decide_eq_false (by omega)
  have tab : (p.k < l) = False := eq_false (by omega)
  have tba : decide ((p.k : Int) < (l : Int)) = false := decide_eq_false (by omega)
  have tbb : ((p.k : Int) < (l : Int)) = False := eq_false (by omega)
  by_cases h2 : m < p.k
  case pos =>
    have HX : Hid (RES = false) := hid (by rw [HRES.out, decide_eq_false (show ¬ p.k ≤ m by omega), Bool.and_false]; rfl)
    have tca : decide (m < p.k) = true := decide_eq_true (by omega)
    have tcb : (m < p.k) = True := eq_true (by omega)
    have tda : decide ((m : Int) < (p.k : Int)) = true := decide_eq_true (by omega)
    have tdb : ((m : Int) < (p.k : Int)) = True := eq_true (by omega)
    go_wp2_with fail
    go_ret
    exact Ret.mk (by rw [HX.out]; rfl) e.h
  have tca : decide (m < p.k) = false := decide_eq_false (by omega)
  have tcb : (m < p.k) = False := eq_false (by omega)
  have tda : decide ((m : Int) < (p.k : Int)) = false := decide_eq_false (by omega)
  have tdb : ((m : Int) < (p.k : Int)) = False := eq_false (by omega)
  clear h1 h2
  go_upto_region 4 with fail
  go_loopw [7] (fun s7 wr => ∃ i : Nat, s7 = .int .i64 (i : Int) ∧ Hid (i ≤ p.k ∧ T.all (okB p) i = true) ∧ ∃ e : Later w, wr = e.x) (fun s7 _ => p.k - (intOf s7).toNat)
  case atStart => exact ⟨0, rfl, (show Hid _ from ⟨Nat.zero_le _, rfl⟩), e, (by first | exact he | rfl)⟩
  case round =>
    clear he e
    obtain ⟨i, rfl, hi, e, rfl⟩ := hrel
    have i0 : (0 : Int) ≤ (i : Int) := by omega
    by_cases hlt : i < p.k
    · obtain ⟨b, o, Ai, ci, rfl, hb, hat, hI⟩ := HL.out.at e.h hlt
      obtain ⟨q0, q1, q2, q3, q4⟩ := hat.five
      have qi := hat.1
      have tc : decide (i < p.k) = true := by simp [hlt]
      have i1 : (i : Int) < (p.k : Int) := by omega
      have HLT := hid hlt
      have HAT := hid (fun (W : World) (hW : Ext e.x W) => (hat.mod hW (Nat.lt_of_lt_of_le hb e.h.size) (by simp) : At6 W b (o + i * 6) (p.a i) Ai ci))
      have HI := hid hI
      clear hlt hat hI hb
      go_upto_region 7 with fail
      generalize hW1 : World.alloc e.x _ = W1
      have HG1 : Hid (Blk W1 e.x.heap.size 38 (itemC (p.a i).t Ai ci)) := hid (by rw [← hW1]; exact Blk.new _ _ _)
      have HX1 : Hid (Ext e.x W1) := hid (by rw [← hW1]; exact (Mod.refl [] _).alloc _)
      have HV1 : Hid (Ext w W1) := hid (e.h.trans HX1.out)
      have KR := hid (fun W (hW : Ext W1 W) => rRight_any (p.a i).t ((HW.out.2 i HLT.out).1) Ai ci W (HI.out.ext (HX1.out.trans hW)))
      have qi := (HAT.out W1 HX1.out).1
      clear hW1 q0 q1 q2 q3 q4
      generalize e.x.heap.size = G at *
      have g0 : W1.cell? ⟨G, 0, none⟩ = some (.int .i64 (p.a i).t.kind) := HG1.out.cell 0
      have g0 : ∀ e : Later W1, e.x.cell? ⟨G, 0, none⟩ = some (.int .i64 (p.a i).t.kind) := fun e => cellL g0 e
      have qi : ∀ e : Later W1, e.x.cell? ⟨b, o + i * 6, none⟩ = some (.int .i64 (p.a i).id) := fun e => cellL qi e
      have KR := hid (fun e : Later W1 => KR.out e.x e.h)
      obtain ⟨e, he⟩ := Later.self W1
      rw [he]
      clear he
      by_cases hn : (p.a i).id < 0
      case pos =>
        have uaa : decide ((p.a i).id < 0) = true := decide_eq_true (by exact hn)
        have uab : ((p.a i).id < 0) = True := eq_true (by exact hn)
        have HC : Hid (codedB (p.a i).id = false) := hid (by unfold codedB; rw [decide_eq_false (show ¬ 0 ≤ (p.a i).id by omega)]; rfl)
        clear hn
        have HN := hid (all_no (f := okB p) HLT.out (by unfold okB; rw [HC.out]; rfl))
        have HX : Hid (RES = false) := hid (by rw [HRES.out, HN.out, Bool.and_false])
        clear HN
        have tk1 : True := trivial
        go_wp2_with fail
        go_ret
        exact Ret.mk (by rw [HX.out]; rfl) (HV1.out.trans e.h)
      have uaa : decide ((p.a i).id < 0) = false := decide_eq_false (by exact hn)
      have uab : ((p.a i).id < 0) = False := eq_false (by exact hn)
      by_cases hg : 65535 < (p.a i).id
      case pos =>
        have uba : decide (65535 < (p.a i).id) = true := decide_eq_true (by exact hg)
        have ubb : (65535 < (p.a i).id) = True := eq_true (by exact hg)
        have HC : Hid (codedB (p.a i).id = false) := hid (by unfold codedB; rw [decide_eq_false (show ¬ (p.a i).id ≤ 65535 by omega), Bool.and_false])
        clear hn hg
        have HN := hid (all_no (f := okB p) HLT.out (by unfold okB; rw [HC.out]; rfl))
        have HX : Hid (RES = false) := hid (by rw [HRES.out, HN.out, Bool.and_false])
        clear HN
        have tk1 : True := trivial
        go_wp2_with fail
        go_ret
        exact Ret.mk (by rw [HX.out]; rfl) (HV1.out.trans e.h)
      have uba : decide (65535 < (p.a i).id) = false := decide_eq_false (by exact hg)
      have ubb : (65535 < (p.a i).id) = False := eq_false (by exact hg)
      have HC : Hid (codedB (p.a i).id = true) := hid (by unfold codedB; rw [decide_eq_true (show 0 ≤ (p.a i).id by omega), decide_eq_true (show (p.a i).id ≤ 65535 by omega)]; rfl)
      clear hn hg
      by_cases hk0 : (p.a i).t.kind = 0 ∨ (p.a i).t.kind = 2
      case neg =>
        have vaa : (((p.a i).t.kind) == (0)) = false := by rw [beq_eq_false_iff_ne]; omega
        have vab : (((p.a i).t.kind) = (0)) = False := eq_false (by omega)
        have vac : (((p.a i).t.kind) != (0)) = true := by rw [bne_iff_ne]; omega
        have vba : (((p.a i).t.kind) == (2)) = false := by rw [beq_eq_false_iff_ne]; omega
        have vbb : (((p.a i).t.kind) = (2)) = False := eq_false (by omega)
        have vbc : (((p.a i).t.kind) != (2)) = true := by rw [bne_iff_ne]; omega
        have HVB : Hid (valB (p.a i).t = false) := hid (by unfold valB; rw [decide_eq_false (fun h => hk0 (.inl h)), decide_eq_false (fun h => hk0 (.inr h))]; rfl)
        clear hk0
        have HN := hid (all_no (f := okB p) HLT.out (by unfold okB; rw [HVB.out, Bool.and_false]; rfl))
        have HX : Hid (RES = false) := hid (by rw [HRES.out, HN.out, Bool.and_false])
        clear HN
        have tk1 : True := trivial
        go_wp2_with fail
        go_ret
        exact Ret.mk (by rw [HX.out]; rfl) (HV1.out.trans e.h)
      have HD1 : Hid ((decide ((p.a i).t.kind = 0) || decide ((p.a i).t.kind = 2)) = true) := hid (by rcases hk0 with h | h <;> simp [h])
      cases hr : (p.a i).t.right 8 with
      | false =>
        rw [hr] at KR
        have HVB : Hid (valB (p.a i).t = false) := hid (by unfold valB; rw [hr, Bool.and_false])
        clear hr
        rcases hk0 with hk0 | hk0
        · have vaa : (((p.a i).t.kind) == (0)) = true := by rw [beq_iff_eq]; omega
          have vab : (((p.a i).t.kind) = (0)) = True := eq_true (by omega)
          have vac : (((p.a i).t.kind) != (0)) = false := by rw [bne_eq_false_iff_eq]; omega
          clear hk0
          have HN := hid (all_no (f := okB p) HLT.out (by unfold okB; rw [HVB.out, Bool.and_false]; rfl))
          have HX : Hid (RES = false) := hid (by rw [HRES.out, HN.out, Bool.and_false])
          clear HN
          have tk1 : True := trivial
          go_wp2_with (first | (clear tk1; refine wpList_row (by rfl) 38 _ rfl _ rfl (HG1.out.later _) Try.underlying38 rfl (by kernel_rfl) ?_) | (go_at_call 95; refine (Ret.later (KR.out _)).mono ?_; rintro x _ ⟨rfl, e, rfl⟩))
          go_ret
          exact Ret.mk (by rw [HX.out]; rfl) (HV1.out.trans e.h)
        · have vaa : (((p.a i).t.kind) == (0)) = false := by rw [beq_eq_false_iff_ne]; omega
          have vab : (((p.a i).t.kind) = (0)) = False := eq_false (by omega)
          have vac : (((p.a i).t.kind) != (0)) = true := by rw [bne_iff_ne]; omega
          have vba : (((p.a i).t.kind) == (2)) = true := by rw [beq_iff_eq]; omega
          have vbb : (((p.a i).t.kind) = (2)) = True := eq_true (by omega)
          have vbc : (((p.a i).t.kind) != (2)) = false := by rw [bne_eq_false_iff_eq]; omega
          clear hk0
          have HN := hid (all_no (f := okB p) HLT.out (by unfold okB; rw [HVB.out, Bool.and_false]; rfl))
          have HX : Hid (RES = false) := hid (by rw [HRES.out, HN.out, Bool.and_false])
          clear HN
          have tk1 : True := trivial
          go_wp2_with (first | (clear tk1; refine wpList_row (by rfl) 38 _ rfl _ rfl (HG1.out.later _) Try.underlying38 rfl (by kernel_rfl) ?_) | (go_at_call 95; refine (Ret.later (KR.out _)).mono ?_; rintro x _ ⟨rfl, e, rfl⟩))
          go_ret
          exact Ret.mk (by rw [HX.out]; rfl) (HV1.out.trans e.h)
      | true =>
        rw [hr] at KR
        have HVB : Hid (valB (p.a i).t = true) := hid (by unfold valB; rw [HD1.out, hr]; rfl)
        clear hr
        rcases hk0 with hk0 | hk0
        · have vaa : (((p.a i).t.kind) == (0)) = true := by rw [beq_iff_eq]; omega
          have vab : (((p.a i).t.kind) = (0)) = True := eq_true (by omega)
          have vac : (((p.a i).t.kind) != (0)) = false := by rw [bne_eq_false_iff_eq]; omega
          clear hk0
          have tk1 : True := trivial
          go_upto_region 10 with (first | (clear tk1; refine wpList_row (by rfl) 38 _ rfl _ rfl (HG1.out.later _) Try.underlying38 rfl (by kernel_rfl) ?_) | (go_at_call 95; refine (Ret.later (KR.out _)).mono ?_; rintro x _ ⟨rfl, e, rfl⟩))
          go_loopw [9] (fun s9 wr => ∃ j : Nat, s9 = .int .i64 (j : Int) ∧ Hid (j ≤ i ∧ ∀ x, x < j → (p.a x).id ≠ (p.a i).id) ∧ ∃ e : Later W1, wr = e.x) (fun s9 _ => i - (intOf s9).toNat)
          case atStart => exact ⟨0, rfl, (show Hid _ from ⟨Nat.zero_le _, fun x hx => by omega⟩), e, rfl⟩
          case round =>
            clear e
            obtain ⟨j, rfl, hj, e, rfl⟩ := hrel
            have j0 : (0 : Int) ≤ (j : Int) := by omega
            by_cases hjt : j < i
            · obtain ⟨b', o', Aj, cj, hA', hb', hat', _⟩ := HL.out.at (Mod.refl [] w) (Nat.lt_trans hjt HLT.out)
              cases hA'
              have cJ : ∀ e : Later W1, e.x.cell? ⟨b, o + j * 6, none⟩ = some (.int .i64 (p.a j).id) := fun e => cellL hat'.1 ⟨e.x, HV1.out.trans e.h⟩
              have tj : decide (j < i) = true := by simp [hjt]
              have j1 : (j : Int) < (i : Int) := by omega
              have j2 : (j : Int) < (p.k : Int) := by omega
              have HJT := hid hjt
              clear hjt hb' hat'
              by_cases hd : (p.a j).id = (p.a i).id
              · have HU : Hid (T.all (fun j => decide ((p.a j).id ≠ (p.a i).id)) i = false) := hid (all_no HJT.out (by simp [hd]))
                have waa : (((p.a i).id) == ((p.a j).id)) = true := by rw [beq_iff_eq]; exact hd.symm
                have wab : (((p.a i).id) = ((p.a j).id)) = True := eq_true (by exact hd.symm)
                have wac : (((p.a i).id) != ((p.a j).id)) = false := by rw [bne_eq_false_iff_eq]; exact hd.symm
                clear hd
                go_upto_region 12 with fail
                refine wp_region_later (by kernel_rfl) (by kernel_rfl) ?_
                repeat (first | go_big_quiet_step (fail))
                refine wpQuiet_nil ?_
                rintro _ ⟨e, rfl⟩
                have HN := hid (all_no (f := okB p) HLT.out (by unfold okB; rw [HU.out, Bool.and_false]))
                have HX : Hid (RES = false) := hid (by rw [HRES.out, HN.out, Bool.and_false])
                clear HN
                have tk1 : True := trivial
                go_wp2_with fail
                go_ret
                exact Ret.mk (by rw [HX.out]; rfl) (HV1.out.trans e.h)
              · have HD := hid hd
                have waa : (((p.a i).id) == ((p.a j).id)) = false := by rw [beq_eq_false_iff_ne]; exact fun h => hd h.symm
                have wab : (((p.a i).id) = ((p.a j).id)) = False := eq_false (by exact fun h => hd h.symm)
                have wac : (((p.a i).id) != ((p.a j).id)) = true := by rw [bne_iff_ne]; exact fun h => hd h.symm
                clear hd
                go_upto_region 12 with fail
                refine wp_region_later (by kernel_rfl) (by kernel_rfl) ?_
                repeat (first | go_big_quiet_step (fail))
                refine wpQuiet_nil ?_
                rintro _ ⟨e, rfl⟩
                go_wp2_with fail
                go_roundw
                case rel => exact ⟨j + 1, by go_num, (show Hid _ from ⟨HJT.out, fun x hx => by
                  by_cases e : x = j
                  · subst e; exact HD.out
                  · exact hj.out.2 x (by omega)⟩), e, rfl⟩
                case measure => have := HJT.out; simp [intOf]; omega
            · have hij : j = i := by have := hj.out.1; omega
              subst hij
              have tj : decide (j < j) = false := by simp
              have HU : Hid (T.all (fun x => decide ((p.a x).id ≠ (p.a j).id)) j = true) := hid (T.all_iff.2 fun x hx => by simpa using hj.out.2 x hx)
              have HOK : Hid (okB p j = true) := hid (by unfold okB; rw [HC.out, HVB.out, HU.out]; rfl)
              go_wp2_with fail
              go_roundw
              case rel => exact ⟨j + 1, by go_num, (show Hid _ from ⟨HLT.out, by rw [T.all, hi.out.2, HOK.out]; rfl⟩), ⟨e.x, HV1.out.trans e.h⟩, rfl⟩
              case measure => have := HLT.out; simp [intOf]; omega
        · have vaa : (((p.a i).t.kind) == (0)) = false := by rw [beq_eq_false_iff_ne]; omega
          have vab : (((p.a i).t.kind) = (0)) = False := eq_false (by omega)
          have vac : (((p.a i).t.kind) != (0)) = true := by rw [bne_iff_ne]; omega
          have vba : (((p.a i).t.kind) == (2)) = true := by rw [beq_iff_eq]; omega
          have vbb : (((p.a i).t.kind) = (2)) = True := eq_true (by omega)
          have vbc : (((p.a i).t.kind) != (2)) = false := by rw [bne_eq_false_iff_eq]; omega
          clear hk0
          have tk1 : True := trivial
          go_upto_region 10 with (first | (clear tk1; refine wpList_row (by rfl) 38 _ rfl _ rfl (HG1.out.later _) Try.underlying38 rfl (by kernel_rfl) ?_) | (go_at_call 95; refine (Ret.later (KR.out _)).mono ?_; rintro x _ ⟨rfl, e, rfl⟩))
          go_loopw [9] (fun s9 wr => ∃ j : Nat, s9 = .int .i64 (j : Int) ∧ Hid (j ≤ i ∧ ∀ x, x < j → (p.a x).id ≠ (p.a i).id) ∧ ∃ e : Later W1, wr = e.x) (fun s9 _ => i - (intOf s9).toNat)
          case atStart => exact ⟨0, rfl, (show Hid _ from ⟨Nat.zero_le _, fun x hx => by omega⟩), e, rfl⟩
          case round =>
            clear e
            obtain ⟨j, rfl, hj, e, rfl⟩ := hrel
            have j0 : (0 : Int) ≤ (j : Int) := by omega
            by_cases hjt : j < i
            · obtain ⟨b', o', Aj, cj, hA', hb', hat', _⟩ := HL.out.at (Mod.refl [] w) (Nat.lt_trans hjt HLT.out)
              cases hA'
              have cJ : ∀ e : Later W1, e.x.cell? ⟨b, o + j * 6, none⟩ = some (.int .i64 (p.a j).id) := fun e => cellL hat'.1 ⟨e.x, HV1.out.trans e.h⟩
              have tj : decide (j < i) = true := by simp [hjt]
              have j1 : (j : Int) < (i : Int) := by omega
              have j2 : (j : Int) < (p.k : Int) := by omega
              have HJT := hid hjt
              clear hjt hb' hat'
              by_cases hd : (p.a j).id = (p.a i).id
              · have HU : Hid (T.all (fun j => decide ((p.a j).id ≠ (p.a i).id)) i = false) := hid (all_no HJT.out (by simp [hd]))
                have waa : (((p.a i).id) == ((p.a j).id)) = true := by rw [beq_iff_eq]; exact hd.symm
                have wab : (((p.a i).id) = ((p.a j).id)) = True := eq_true (by exact hd.symm)
                have wac : (((p.a i).id) != ((p.a j).id)) = false := by rw [bne_eq_false_iff_eq]; exact hd.symm
                clear hd
                go_upto_region 12 with fail
                refine wp_region_later (by kernel_rfl) (by kernel_rfl) ?_
                repeat (first | go_big_quiet_step (fail))
                refine wpQuiet_nil ?_
                rintro _ ⟨e, rfl⟩
                have HN := hid (all_no (f := okB p) HLT.out (by unfold okB; rw [HU.out, Bool.and_false]))
                have HX : Hid (RES = false) := hid (by rw [HRES.out, HN.out, Bool.and_false])
                clear HN
                have tk1 : True := trivial
                go_wp2_with fail
                go_ret
                exact Ret.mk (by rw [HX.out]; rfl) (HV1.out.trans e.h)
              · have HD := hid hd
                have waa : (((p.a i).id) == ((p.a j).id)) = false := by rw [beq_eq_false_iff_ne]; exact fun h => hd h.symm
                have wab : (((p.a i).id) = ((p.a j).id)) = False := eq_false (by exact fun h => hd h.symm)
                have wac : (((p.a i).id) != ((p.a j).id)) = true := by rw [bne_iff_ne]; exact fun h => hd h.symm
                clear hd
                go_upto_region 12 with fail
                refine wp_region_later (by kernel_rfl) (by kernel_rfl) ?_
                repeat (first | go_big_quiet_step (fail))
                refine wpQuiet_nil ?_
                rintro _ ⟨e, rfl⟩
                go_wp2_with fail
                go_roundw
                case rel => exact ⟨j + 1, by go_num, (show Hid _ from ⟨HJT.out, fun x hx => by
                  by_cases e : x = j
                  · subst e; exact HD.out
                  · exact hj.out.2 x (by omega)⟩), e, rfl⟩
                case measure => have := HJT.out; simp [intOf]; omega
            · have hij : j = i := by have := hj.out.1; omega
              subst hij
              have tj : decide (j < j) = false := by simp
              have HU : Hid (T.all (fun x => decide ((p.a x).id ≠ (p.a j).id)) j = true) := hid (T.all_iff.2 fun x hx => by simpa using hj.out.2 x hx)
              have HOK : Hid (okB p j = true) := hid (by unfold okB; rw [HC.out, HVB.out, HU.out]; rfl)
              go_wp2_with fail
              go_roundw
              case rel => exact ⟨j + 1, by go_num, (show Hid _ from ⟨HLT.out, by rw [T.all, hi.out.2, HOK.out]; rfl⟩), ⟨e.x, HV1.out.trans e.h⟩, rfl⟩
              case measure => have := HLT.out; simp [intOf]; omega
    · have hik : i = p.k := by have := hi.out.1; omega
      subst hik
      have tc : decide (p.k < p.k) = false := by simp
      have HX : Hid (RES = true) := hid (by rw [HRES.out, hi.out.2, Bool.and_true, Bool.and_eq_true]; simp at tab tcb taa tca; exact ⟨decide_eq_true (by omega), decide_eq_true (by omega)⟩)
      go_wp2_with fail
      go_ret
      exact Ret.mk (by rw [HX.out]; rfl) e.h
end Go.Proofs.Ytogjghmoankleaa


namespace Go.Proofs.Ytogjghmoankleaa
open Go.RowKit
set_option linter.unusedVariables false
set_option linter.unusedSimpArgs false

def okT (a : AV) (i : Nat) : Bool := codedB (a.tg i) && resB (a.rs i) && T.all (fun j => decide (a.tg j ≠ a.tg i)) i
theorem okT_all {a : AV} (h : a.rk = a.tk) : T.all (okT a) a.tk = (unlikeB a.tg a.tk && T.all (fun i => resB (a.rs i)) a.rk) := by
  have e : okT a = fun i => (codedB (a.tg i) && T.all (fun j => decide (a.tg j ≠ a.tg i)) i) && resB (a.rs i) := by
    funext i
    unfold okT
    cases codedB (a.tg i) <;> cases resB (a.rs i) <;> simp
  rw [e, all_and, h]
  rfl
theorem shaped_okT (a : AV) : a.shaped = (decide (1 ≤ a.tk) && decide (a.tk ≤ 16) && decide (a.rk = a.tk) && codedB a.ctx && a.src.ok && (decide (a.ps.k ≤ 8) && pairsB a.ps) && T.all (okT a) a.tk) := by
  by_cases h : a.rk = a.tk
  · rw [okT_all h, Bool.eq_iff_iff, AV.shaped_iff]
    simp only [Bool.and_eq_true, decide_eq_true_eq]
    constructor
    · rintro ⟨⟨g1, g2⟩, g3, g4, g5, g6, g7, g8, g9⟩
      exact ⟨⟨⟨⟨⟨⟨g1, g2⟩, g8⟩, g4⟩, g5⟩, g6, g7⟩, g3, g9⟩
    · rintro ⟨⟨⟨⟨⟨⟨g1, g2⟩, g8⟩, g4⟩, g5⟩, g6, g7⟩, g3, g9⟩
      exact ⟨⟨g1, g2⟩, g3, g4, g5, g6, g7, g8, g9⟩
  · rw [decide_eq_false h, Bool.and_false, Bool.false_and, Bool.false_and, Bool.false_and, Bool.false_and]
    cases hh : a.shaped with
    | false => rfl
    | true => exact absurd (AV.shaped_iff.1 hh).2.2.2.2.2.2.1 h
set_option maxRecDepth 20000 in
set_option maxHeartbeats 2000000 in
theorem r15Shaped_any (a : AV) (hw : a.wf) (m : AA) (w : World) (h : AsL w anyQ a m) : Calls Try.prog 46 #[asbV a m] w (Ret (.bool a.shaped) w) := by
  obtain ⟨mt, mtc, mp, mpc, mr, mrc⟩ := m
  have HE := hid ((Mod.refl [] w).alloc (.cells (asbC a ⟨mt, mtc, mp, mpc, mr, mrc⟩) 29))
  have HB0 := hid (Blk.new w 29 (asbC a ⟨mt, mtc, mp, mpc, mr, mrc⟩))
  have HL := hid (h.ext HE.out)
  have HW := hid hw
  have HRES := hid (shaped_okT a)
  have tk0 : (a.tk : Int) < 4611686018427387904 := by have := hw.1.1; omega
  have rk0 : (a.rk : Int) < 4611686018427387904 := by have := hw.2.2.2.2.1; omega
  clear hw h
  go_enter Try.func46, Try.ntmps46
  go_upto_region 1 with fail
  generalize w.alloc (.cells (asbC a ⟨mt, mtc, mp, mpc, mr, mrc⟩) 29) = V at *
  have b0 : ∀ e : Later V, e.x.cell? ⟨w.heap.size, 0, none⟩ = some (.slice mt a.tk mtc) := HB0.out.cellL 0 rfl
  have b1 : ∀ e : Later V, e.x.cell? ⟨w.heap.size, 1, none⟩ = some (.int .i64 a.ctx) := HB0.out.cellL 1 rfl
  have b6 : ∀ e : Later V, e.x.cell? ⟨w.heap.size, 6, none⟩ = some (.slice mp a.ps.k mpc) := HB0.out.cellL 6 rfl
  have b7 : ∀ e : Later V, e.x.cell? ⟨w.heap.size, 7, none⟩ = some (.slice mr a.rk mrc) := HB0.out.cellL 7 rfl
  have HRE : Hid (∀ e : Later V, e.x.rangeAt w.heap.size 2 [.int .i64 a.src.sch, str a.src.name, .int .u64 (a.src.node : Int), .int .u64 (a.src.svc : Int)]) := HB0.out.range 2 4 (by rfl)
  have KE := hid (fun W => r10_any a.src W)
  have KP : Hid (∀ e : Later V, Calls Try.prog 79 #[.slice mp a.ps.k mpc, .int .i64 0, .int .i64 8] e.x (Ret (.bool (decide (a.ps.k ≤ 8) && pairsB a.ps)) e.x)) := hid (fun e => by
    have := r15pairs_any a.ps HW.out.2.2.2.1 0 8 (by decide) (by decide) mp mpc e.x (HL.out.p.ext e.h)
    rw [decide_eq_true (Nat.zero_le _), Bool.true_and] at this
    exact this)
  obtain ⟨e, he⟩ := Later.self V
  rw [he]
  clear he
  by_cases hc : a.tk < 1
  case pos =>
    have taa : decide (a.tk < 1) = true := decide_eq_true (by omega)
    have tab : (a.tk < 1) = True := eq_true (by omega)
    have tba : decide ((a.tk : Int) < 1) = true := decide_eq_true (by omega)
    have tbb : ((a.tk : Int) < 1) = True := eq_true (by omega)
    have HX : Hid (a.shaped = false) := hid (by rw [HRES.out]; rw [decide_eq_false (show ¬ 1 ≤ a.tk by omega)]; rfl)
    have tk1 : True := trivial
    go_wp2_with fail
    go_ret
    exact Ret.mk (by rw [HX.out]; rfl) (HE.out.trans e.h)
  have taa : decide (a.tk < 1) = false := decide_eq_false (by omega)
  have tab : (a.tk < 1) = False := eq_false (by omega)
  have tba : decide ((a.tk : Int) < 1) = false := decide_eq_false (by omega)
  have tbb : ((a.tk : Int) < 1) = False := eq_false (by omega)
  have H1 : Hid (1 ≤ a.tk) := hid (by omega)
  clear hc
  by_cases hc : 16 < a.tk
  case pos =>
    have tca : decide (16 < a.tk) = true := decide_eq_true (by omega)
    have tcb : (16 < a.tk) = True := eq_true (by omega)
    have tda : decide ((16 : Int) < (a.tk : Int)) = true := decide_eq_true (by omega)
    have tdb : ((16 : Int) < (a.tk : Int)) = True := eq_true (by omega)
    have HX : Hid (a.shaped = false) := hid (by rw [HRES.out]; rw [decide_eq_false (show ¬ a.tk ≤ 16 by omega), Bool.and_false]; rfl)
    have tk1 : True := trivial
    go_wp2_with fail
    go_ret
    exact Ret.mk (by rw [HX.out]; rfl) (HE.out.trans e.h)
  have tca : decide (16 < a.tk) = false := decide_eq_false (by omega)
  have tcb : (16 < a.tk) = False := eq_false (by omega)
  have tda : decide ((16 : Int) < (a.tk : Int)) = false := decide_eq_false (by omega)
  have tdb : ((16 : Int) < (a.tk : Int)) = False := eq_false (by omega)
  have H2 : Hid (a.tk ≤ 16) := hid (by omega)
  clear hc
  by_cases hc : a.rk ≠ a.tk
  case pos =>
    have tea : (((a.rk : Int)) == ((a.tk : Int))) = false := by rw [beq_eq_false_iff_ne]; omega
    have teb : (((a.rk : Int)) = ((a.tk : Int))) = False := eq_false (by omega)
    have tec : (((a.rk : Int)) != ((a.tk : Int))) = true := by rw [bne_iff_ne]; omega
    have tfa : ((a.rk) == (a.tk)) = false := by rw [beq_eq_false_iff_ne]; omega
    have tfb : ((a.rk) = (a.tk)) = False := eq_false (by omega)
    have tfc : ((a.rk) != (a.tk)) = true := by rw [bne_iff_ne]; omega
    have HX : Hid (a.shaped = false) := hid (by rw [HRES.out]; rw [decide_eq_false hc, Bool.and_false]; rfl)
    have tk1 : True := trivial
    go_wp2_with fail
    go_ret
    exact Ret.mk (by rw [HX.out]; rfl) (HE.out.trans e.h)
  have tea : (((a.rk : Int)) == ((a.tk : Int))) = true := by rw [beq_iff_eq]; omega
  have teb : (((a.rk : Int)) = ((a.tk : Int))) = True := eq_true (by omega)
  have tec : (((a.rk : Int)) != ((a.tk : Int))) = false := by rw [bne_eq_false_iff_eq]; omega
  have tfa : ((a.rk) == (a.tk)) = true := by rw [beq_iff_eq]; omega
  have tfb : ((a.rk) = (a.tk)) = True := eq_true (by omega)
  have tfc : ((a.rk) != (a.tk)) = false := by rw [bne_eq_false_iff_eq]; omega
  have H3 : Hid (a.rk = a.tk) := hid (by omega)
  clear hc
  by_cases hc : a.ctx < 0
  case pos =>
    have tga : decide (a.ctx < 0) = true := decide_eq_true (by omega)
    have tgb : (a.ctx < 0) = True := eq_true (by omega)
    have HX : Hid (a.shaped = false) := hid (by rw [HRES.out]; rw [show codedB a.ctx = false by (unfold codedB; rw [decide_eq_false (show ¬ 0 ≤ a.ctx by omega)]; rfl), Bool.and_false]; rfl)
    have tk1 : True := trivial
    go_wp2_with fail
    go_ret
    exact Ret.mk (by rw [HX.out]; rfl) (HE.out.trans e.h)
  have tga : decide (a.ctx < 0) = false := decide_eq_false (by omega)
  have tgb : (a.ctx < 0) = False := eq_false (by omega)
  have H4 : Hid (0 ≤ a.ctx) := hid (by omega)
  clear hc
  by_cases hc : 65535 < a.ctx
  case pos =>
    have tha : decide (65535 < a.ctx) = true := decide_eq_true (by omega)
    have thb : (65535 < a.ctx) = True := eq_true (by omega)
    have HX : Hid (a.shaped = false) := hid (by rw [HRES.out]; rw [show codedB a.ctx = false by (unfold codedB; rw [decide_eq_false (show ¬ a.ctx ≤ 65535 by omega), Bool.and_false]), Bool.and_false]; rfl)
    have tk1 : True := trivial
    go_wp2_with fail
    go_ret
    exact Ret.mk (by rw [HX.out]; rfl) (HE.out.trans e.h)
  have tha : decide (65535 < a.ctx) = false := decide_eq_false (by omega)
  have thb : (65535 < a.ctx) = False := eq_false (by omega)
  have H5 : Hid (codedB a.ctx = true) := hid (codedB_iff.2 ⟨H4.out, by omega⟩)
  clear hc
  cases hc : a.src.ok with
  | false =>
    rw [hc] at KE
    have HC := hid hc
    clear hc
    have HX : Hid (a.shaped = false) := hid (by rw [HRES.out]; rw [HC.out, Bool.and_false]; rfl)
    have tk1 : True := trivial
    go_wp2_with (first | (clear tk1; refine wpList_mid (by rfl) 26 _ rfl _ 2 rfl _ _ (HRE.out _) Try.underlying26 rfl (by kernel_rfl) ?_) | (go_at_call 50; refine (Ret.later (KE.out _)).mono ?_; rintro x _ ⟨rfl, e, rfl⟩))
    go_ret
    exact Ret.mk (by rw [HX.out]; rfl) (HE.out.trans e.h)
  | true =>
  rw [hc] at KE
  have H6 := hid hc
  clear hc
  cases hc : (decide (a.ps.k ≤ 8) && pairsB a.ps) with
  | false =>
    rw [hc] at KP
    have HC := hid hc
    clear hc
    have HX : Hid (a.shaped = false) := hid (by rw [HRES.out]; rw [HC.out, Bool.and_false]; rfl)
    have tk1 : True := trivial
    go_wp2_with (first | (clear tk1; refine wpList_mid (by rfl) 26 _ rfl _ 2 rfl _ _ (HRE.out _) Try.underlying26 rfl (by kernel_rfl) ?_) | (go_at_call 50; refine (Ret.later (KE.out _)).mono ?_; rintro x _ ⟨rfl, e, rfl⟩) | (go_at_call 79; refine (Ret.later (KP.out _)).mono ?_; rintro x _ ⟨rfl, e, rfl⟩))
    go_ret
    exact Ret.mk (by rw [HX.out]; rfl) (HE.out.trans e.h)
  | true =>
  rw [hc] at KP
  have H7 := hid hc
  clear hc
  have HFIN : Hid (a.shaped = T.all (okT a) a.tk) := hid (by rw [HRES.out, decide_eq_true H1.out, decide_eq_true H2.out, decide_eq_true H3.out, H5.out, H6.out, H7.out]; rfl)
  clear HRES
  have tk1 : True := trivial
  go_upto_region 5 with (first | (clear tk1; refine wpList_mid (by rfl) 26 _ rfl _ 2 rfl _ _ (HRE.out _) Try.underlying26 rfl (by kernel_rfl) ?_) | (go_at_call 50; refine (Ret.later (KE.out _)).mono ?_; rintro x _ ⟨rfl, e, rfl⟩) | (go_at_call 79; refine (Ret.later (KP.out _)).mono ?_; rintro x _ ⟨rfl, e, rfl⟩))
  clear KP KE
  go_loopw [4] (fun s4 wr => ∃ i : Nat, s4 = .int .i64 (i : Int) ∧ Hid (i ≤ a.tk ∧ T.all (okT a) i = true) ∧ ∃ e : Later V, wr = e.x) (fun s4 _ => a.tk - (intOf s4).toNat)
  case atStart => exact ⟨0, rfl, (show Hid _ from ⟨Nat.zero_le _, rfl⟩), e, rfl⟩
  case round =>
    clear e
    obtain ⟨i, rfl, hi, e, rfl⟩ := hrel
    have i0 : (0 : Int) ≤ (i : Int) := by omega
    by_cases hlt : i < a.tk
    · obtain ⟨bA, oA, hA, hbA, hcA⟩ := HL.out.t (by omega)
      have hA : mt = some ⟨bA, oA, none⟩ := hA
      subst hA
      obtain ⟨bR, oR, Ai, ci, hR, hbR, qR, hkR, hPR⟩ := HL.out.r.at (Mod.refl _ V) (i := i) (by have := H3.out; omega)
      have hR : mr = some ⟨bR, oR, none⟩ := hR
      subst hR
      have cA : ∀ e : Later V, e.x.cell? ⟨bA, oA + i, none⟩ = some (.int .i64 (a.tg i)) := fun e => (e.h.cell hbA (by simp)).trans (hcA i hlt)
      have cR : ∀ e : Later V, e.x.cell? ⟨bR, oR + i, none⟩ = some (.slice Ai (a.rs i).k ci) := fun e => cellL qR e
      have KQ : Hid (∀ e : Later V, Calls Try.prog 79 #[.slice Ai (a.rs i).k ci, .int .i64 1, .int .i64 4] e.x (Ret (.bool (resB (a.rs i))) e.x)) := hid (fun e => r15pairs_any (a.rs i) (HW.out.2.2.2.2.2 i (by have := H3.out; omega)) 1 4 (by decide) (by decide) Ai ci e.x (hPR.ext e.h))
      have HCA := hid (fun j (hj : j < a.tk) (e : Later V) => ((e.h.cell hbA (by simp)).trans (hcA j hj) : e.x.cell? ⟨bA, oA + j, none⟩ = some (.int .i64 (a.tg j))))
      have tc2 : decide (i < a.tk) = true := by simp [hlt]
      have i1 : (i : Int) < (a.tk : Int) := by omega
      have i2 : (i : Int) < (a.rk : Int) := by have := H3.out; omega
      have HLT := hid hlt
      clear hlt hcA hbA hPR hkR hbR qR
      by_cases hn : a.tg i < 0
      case pos =>
        have uaa : decide (a.tg i < 0) = true := decide_eq_true (by exact hn)
        have uab : (a.tg i < 0) = True := eq_true (by exact hn)
        have HC : Hid (codedB (a.tg i) = false) := hid (by unfold codedB; rw [decide_eq_false (show ¬ 0 ≤ a.tg i by omega)]; rfl)
        clear hn
        have HN := hid (all_no (f := okT a) HLT.out (by unfold okT; rw [HC.out]; rfl))
        have HX : Hid (a.shaped = false) := hid (by rw [HFIN.out, HN.out])
        clear HN
        go_wp2_with fail
        go_ret
        exact Ret.mk (by rw [HX.out]; rfl) (HE.out.trans e.h)
      have uaa : decide (a.tg i < 0) = false := decide_eq_false (by exact hn)
      have uab : (a.tg i < 0) = False := eq_false (by exact hn)
      by_cases hg : 65535 < a.tg i
      case pos =>
        have uba : decide (65535 < a.tg i) = true := decide_eq_true (by exact hg)
        have ubb : (65535 < a.tg i) = True := eq_true (by exact hg)
        have HC : Hid (codedB (a.tg i) = false) := hid (by unfold codedB; rw [decide_eq_false (show ¬ a.tg i ≤ 65535 by omega), Bool.and_false])
        clear hn hg
        have HN := hid (all_no (f := okT a) HLT.out (by unfold okT; rw [HC.out]; rfl))
        have HX : Hid (a.shaped = false) := hid (by rw [HFIN.out, HN.out])
        clear HN
        go_wp2_with fail
        go_ret
        exact Ret.mk (by rw [HX.out]; rfl) (HE.out.trans e.h)
      have uba : decide (65535 < a.tg i) = false := decide_eq_false (by exact hg)
      have ubb : (65535 < a.tg i) = False := eq_false (by exact hg)
      have HC : Hid (codedB (a.tg i) = true) := hid (codedB_iff.2 ⟨by omega, by omega⟩)
      clear hn hg
      cases hr : resB (a.rs i) with
      | false =>
        rw [hr] at KQ
        have HVB := hid hr
        clear hr
        have HN := hid (all_no (f := okT a) HLT.out (by unfold okT; rw [HVB.out, Bool.and_false]; rfl))
        have HX : Hid (a.shaped = false) := hid (by rw [HFIN.out, HN.out])
        clear HN
        go_wp2_with (first | (go_at_call 79; refine (Ret.later (KQ.out _)).mono ?_; rintro x _ ⟨rfl, e, rfl⟩))
        go_ret
        exact Ret.mk (by rw [HX.out]; rfl) (HE.out.trans e.h)
      | true =>
        rw [hr] at KQ
        have HVB := hid hr
        clear hr
        go_upto_region 10 with (first | (go_at_call 79; refine (Ret.later (KQ.out _)).mono ?_; rintro x _ ⟨rfl, e, rfl⟩))
        go_loopw [5] (fun s5 wr => ∃ j : Nat, s5 = .int .i64 (j : Int) ∧ Hid (j ≤ i ∧ ∀ x, x < j → a.tg x ≠ a.tg i) ∧ ∃ e : Later V, wr = e.x) (fun s5 _ => i - (intOf s5).toNat)
        case atStart => exact ⟨0, rfl, (show Hid _ from ⟨Nat.zero_le _, fun x hx => by omega⟩), e, rfl⟩
        case round =>
          clear e
          obtain ⟨j, rfl, hj, e, rfl⟩ := hrel
          have j0 : (0 : Int) ≤ (j : Int) := by omega
          by_cases hjt : j < i
          · have cJ := HCA.out j (Nat.lt_trans hjt HLT.out)
            have tj : decide (j < i) = true := by simp [hjt]
            have j1 : (j : Int) < (i : Int) := by omega
            have j2 : (j : Int) < (a.tk : Int) := by omega
            have HJT := hid hjt
            clear hjt
            by_cases hd : a.tg j = a.tg i
            · have HU : Hid (T.all (fun j => decide (a.tg j ≠ a.tg i)) i = false) := hid (all_no HJT.out (by simp [hd]))
              have waa : ((a.tg i) == (a.tg j)) = true := by rw [beq_iff_eq]; exact hd.symm
              have wab : ((a.tg i) = (a.tg j)) = True := eq_true (by exact hd.symm)
              have wac : ((a.tg i) != (a.tg j)) = false := by rw [bne_eq_false_iff_eq]; exact hd.symm
              clear hd
              go_upto_region 12 with fail
              refine wp_region_later (by kernel_rfl) (by kernel_rfl) ?_
              repeat (first | go_big_quiet_step (fail))
              refine wpQuiet_nil ?_
              rintro _ ⟨e, rfl⟩
              have HN := hid (all_no (f := okT a) HLT.out (by unfold okT; rw [HU.out, Bool.and_false]))
              have HX : Hid (a.shaped = false) := hid (by rw [HFIN.out, HN.out])
              clear HN
              go_wp2_with fail
              go_ret
              exact Ret.mk (by rw [HX.out]; rfl) (HE.out.trans e.h)
            · have HD := hid hd
              have waa : ((a.tg i) == (a.tg j)) = false := by rw [beq_eq_false_iff_ne]; exact fun h => hd h.symm
              have wab : ((a.tg i) = (a.tg j)) = False := eq_false (by exact fun h => hd h.symm)
              have wac : ((a.tg i) != (a.tg j)) = true := by rw [bne_iff_ne]; exact fun h => hd h.symm
              clear hd
              go_upto_region 12 with fail
              refine wp_region_later (by kernel_rfl) (by kernel_rfl) ?_
              repeat (first | go_big_quiet_step (fail))
              refine wpQuiet_nil ?_
              rintro _ ⟨e, rfl⟩
              go_wp2_with fail
              go_roundw
              case rel => exact ⟨j + 1, by go_num, (show Hid _ from ⟨HJT.out, fun x hx => by
                by_cases e : x = j
                · subst e; exact HD.out
                · exact hj.out.2 x (by omega)⟩), e, rfl⟩
              case measure => have := HJT.out; simp [intOf]; omega
          · have hij : j = i := by have := hj.out.1; omega
            subst hij
            have tj : decide (j < j) = false := by simp
            have HU : Hid (T.all (fun x => decide (a.tg x ≠ a.tg j)) j = true) := hid (T.all_iff.2 fun x hx => by simpa using hj.out.2 x hx)
            have HOK : Hid (okT a j = true) := hid (by unfold okT; rw [HC.out, HVB.out, HU.out]; rfl)
            go_wp2_with fail
            go_roundw
            case rel => exact ⟨j + 1, by go_num, (show Hid _ from ⟨HLT.out, by rw [T.all, hi.out.2, HOK.out]; rfl⟩), e, rfl⟩
            case measure => have := HLT.out; simp [intOf]; omega
    · have hik : i = a.tk := by have := hi.out.1; omega
      subst hik
      have tc2 : decide (a.tk < a.tk) = false := by simp
      have HX : Hid (a.shaped = true) := hid (by rw [HFIN.out, hi.out.2])
      go_wp2_with fail
      go_ret
      exact Ret.mk (by rw [HX.out]; rfl) (HE.out.trans e.h)
end Go.Proofs.Ytogjghmoankleaa


namespace Go.Proofs.Ytogjghmoankleaa
open Go.RowKit
set_option linter.unusedVariables false
set_option linter.unusedSimpArgs false

theorem Crc.rv_succ : ∀ (i n : Nat), Crc.rv (i + 1) n = 2 * Crc.rv i n + n / 2 ^ i % 2
  | 0, n => by simp [Crc.rv]
  | i + 1, n => by
    have h := Crc.rv_succ i (n / 2)
    have e : n / 2 / 2 ^ i = n / 2 ^ (i + 1) := by rw [Nat.div_div_eq_div_mul, Nat.pow_succ, Nat.mul_comm]
    have e2 : 2 ^ (i + 1) * (n % 2) = 2 * (2 ^ i * (n % 2)) := by rw [Nat.pow_succ, Nat.mul_comm (2 ^ i) 2, Nat.mul_assoc]
    have e3 : Crc.rv (i + 1 + 1) n = 2 ^ (i + 1) * (n % 2) + Crc.rv (i + 1) (n / 2) := rfl
    have e4 : Crc.rv (i + 1) n = 2 ^ i * (n % 2) + Crc.rv i (n / 2) := rfl
    rw [e3, h, e4, e, e2]
    omega

def Crc.tab : List Nat := [28, 27, 26, 25, 23, 22, 20, 19, 18, 14, 13, 11, 10, 9, 8, 6, 0]
def Crc.dv (j : Nat) : Nat := ((Crc.tab.take j).map (2 ^ ·)).sum
theorem Crc.dv_succ : ∀ j : Fin 17, Crc.dv (j.val + 1) = Crc.dv j.val + 2 ^ (Crc.tab.getD j.val 0) ∧ Crc.dv j.val ≤ 517762881 ∧ Crc.tab.getD j.val 0 ≤ 28 := by decide
end Go.Proofs.Ytogjghmoankleaa


namespace Go.Proofs.Ytogjghmoankleaa
open Go.RowKit
set_option linter.unusedVariables false
set_option linter.unusedSimpArgs false

theorem Crc.stepR_lt {m d r b : Nat} (hd : d < 2 ^ m) : Crc.stepR (2 ^ m) d r b < 2 ^ m := by
  have := Nat.mod_lt (r * 2) (Nat.two_pow_pos m)
  unfold Crc.stepR
  split
  · exact this
  · exact Nat.xor_lt_two_pow this hd

theorem Crc.x_16 (l : List UInt8) : Crc.rv 16 (65535 - Crc.divR 65536 4129 65535 l) = Crc.x25 l := Crc.sums (m := 15) (p := 33800) (by decide) l
theorem Crc.r_16 {r c : Nat} : Crc.stepR 65536 4129 r c = if r / 32768 = c then r * 2 % 65536 else (r * 2 % 65536) ^^^ 4129 := rfl
theorem Crc.x_32 (l : List UInt8) : Crc.rv 32 (4294967295 - Crc.divR 4294967296 517762881 4294967295 l) = Crc.cast l := Crc.sums (m := 31) (p := 2197175160) (by decide) l
theorem Crc.r_32 {r c : Nat} : Crc.stepR 4294967296 517762881 r c = if r / 2147483648 = c then r * 2 % 4294967296 else (r * 2 % 4294967296) ^^^ 517762881 := rfl
end Go.Proofs.Ytogjghmoankleaa


namespace Go.Proofs.Ytogjghmoankleaa
open Go.RowKit
set_option linter.unusedVariables false
set_option linter.unusedSimpArgs false

abbrev numsV (ty num fl crc : Nat) : Value := .agg #[.int .u64 (ty : Int), .int .u64 (num : Int), .int .u64 (fl : Int), .int .u64 (crc : Int)]
def num4 (ty num fl crc i : Nat) : Nat := if i = 0 then ty else if i = 1 then num else if i = 2 then fl else crc
def cat4 (ty num fl crc : Nat) (j : Nat) : List UInt8 := T.cat (fun i => headL 0 (num4 ty num fl crc i)) j
theorem cat4_le (ty num fl crc : Nat) : ∀ j, (cat4 ty num fl crc j).length ≤ 9 * j
  | 0 => by simp [cat4, T.cat]
  | j + 1 => by
    have h := cat4_le ty num fl crc j
    have := headL_le 0 (num4 ty num fl crc j)
    unfold cat4 at h ⊢
    rw [T.cat, List.length_append]
    omega
theorem rHead_n (m n : Nat) (hm : m ≤ 7) (hn : n < 18446744073709551616) (w : World) : Calls Try.prog 55 #[.int .i64 (m : Int), .int .u64 (n : Int)] w (Ret (str (headL m n)) w) := by
  simpa using rhead_in (m : Int) (n : Int) (by omega) (by omega) (by omega) (by omega) w

end Go.Proofs.Ytogjghmoankleaa


namespace Go.Proofs.Ytogjghmoankleaa
open Go.RowKit
set_option linter.unusedVariables false
set_option linter.unusedSimpArgs false

theorem right_plain {t : T} {d : Nat} (h : t.right d = true) : t.plain = true := by
  rw [T.right_eq, Bool.and_eq_true] at h
  exact h.2
/-- The bytes of the first i pairs. -/
def catP (p : PL) (i : Nat) : List UInt8 := headL 4 p.k ++ T.cat (fun i => (pairT (p.a i)).bytes) i
theorem pair_bytes {p : PR} : (pairT p).bytes = [130] ++ headL 0 p.id.toNat ++ p.t.bytes := by
  unfold pairT
  rw [listT_bytes]
  simp [numT, T.bytes, headL]
  decide
theorem pl_bytes {p : PL} : (plT p).bytes = catP p p.k := by
  show T.bytes (T.mk 4 0 [] false p.k fun i => pairT (p.a i)) = _
  rw [T.bytes, if_neg (by decide), if_neg (by decide)]
  simp [catP]
theorem cat_lt {f : Nat → List UInt8} {B k : Nat} (h : ∀ i, i < k → (f i).length ≤ B) : ∀ i, i ≤ k → (T.cat f i).length ≤ i * B := by
  intro i
  induction i with
  | zero => intro _; simp [T.cat]
  | succ i ih =>
    intro hi
    have := ih (by omega)
    have := h i (by omega)
    rw [T.cat, List.length_append, Nat.succ_mul]; omega
theorem pair_size {p : PR} : (pairT p).size = 2 + p.t.size := by
  simp [pairT, listT, T.size, T.sum, numT]
  omega
set_option maxRecDepth 20000 in
set_option maxHeartbeats 4000000 in
theorem r15list_any (p : PL) (hk : p.k ≤ 1000) (hw : p.wf) (hp : pairsB p = true) (hz : ∀ i, i < p.k → (p.a i).t.size ≤ 100000) (A : Option Addr) (c : Nat) (w : World) (h : PsL w anyQ A p) : Calls Try.prog 80 #[.slice A p.k c] w (Ret (str (plT p).bytes) w) := by
  rw [pl_bytes]
  obtain ⟨hv, hu⟩ := pairsB_iff.1 hp
  have HL := hid h
  have HW := hid hw
  have HV := hid hv
  have HU := hid (unlikeB_coded hu)
  have HZ := hid hz
  have k0 : (p.k : Int) ≤ 1000 := by omega
  have t1 : IntKind.u64.wrap (p.k : Int) = (p.k : Int) := IntWalk.u64_in _ (by omega)
  have KH := hid (fun W => rHead_n 4 p.k (by decide) (by omega) W)
  have HLN : Hid (∀ i, i ≤ p.k → (catP p i).length ≤ 2000000000) := hid (fun i hi => by
    have h1 := cat_lt (f := fun i => (pairT (p.a i)).bytes) (B := 1000100) (k := p.k) (fun j hj => by have := T.bytes_le (pairT (p.a j)); have := pair_size (p := p.a j); have := hz j hj; show (pairT (p.a j)).bytes.length ≤ _; omega) i hi
    have h2 := headL_le 4 p.k
    unfold catP
    rw [List.length_append]
    have h3 : i * 1000100 ≤ 1000 * 1000100 := Nat.mul_le_mul_right _ (by omega)
    omega)
  have HC0 : Hid (catP p 0 = headL 4 p.k) := hid (by simp [catP, T.cat])
  clear h hw hp hv hu hz hk
  go_enter Try.func80, Try.ntmps80
  go_upto_region 3 with (go_at_call 55; (try rw [t1]); refine (Ret.laterW (Mod.refl [] w) (KH.out _)).mono ?_; rintro x _ ⟨rfl, e, rfl⟩)
  go_loopw [3, 4] (fun s3 s4 wr => ∃ i : Nat, s4 = .int .i64 (i : Int) ∧ s3 = str (catP p i) ∧ Hid (i ≤ p.k) ∧ ∃ e : Later w, wr = e.x) (fun _ s4 _ => p.k - (intOf s4).toNat)
  case atStart => exact ⟨0, rfl, by rw [HC0.out], (show Hid _ from Nat.zero_le _), e, rfl⟩
  case round =>
    clear e
    obtain ⟨i, rfl, rfl, hi, e, rfl⟩ := hrel
    have i0 : (0 : Int) ≤ (i : Int) := by omega
    by_cases hlt : i < p.k
    · obtain ⟨b, o, Ai, ci, rfl, hb, hat, hI⟩ := HL.out.at (Mod.refl [] w) hlt
      have RI : Hid (∀ e : Later w, e.x.rangeAt b (o + i * 6 + 1) _) := hid (fun e => (hat.mod e.h hb (by simp)).five.range)
      have tc : decide (i < p.k) = true := by simp [hlt]
      have i1 : (i : Int) < (p.k : Int) := by omega
      have hidn := HU.out i hlt
      obtain ⟨nid, hnid⟩ := Int.eq_ofNat_of_zero_le hidn.1
      have hnid : (p.a i).id = (nid : Int) := hnid
      have qi : ∀ e : Later w, e.x.cell? ⟨b, o + i * 6, none⟩ = some (.int .i64 (nid : Int)) := fun e => by rw [← hnid]; exact cellL hat.1 e
      have t2 : IntKind.u64.wrap (nid : Int) = (nid : Int) := IntWalk.u64_in _ (by omega)
      have KI := hid (fun W => rHead_n 0 nid (by decide) (by omega) W)
      have KB := hid (fun e : Later w => rBytesI_any (p.a i).t ((HW.out.2 i hlt).1) (right_plain (valB_right (HV.out i hlt))) (HZ.out i hlt) Ai ci e.x (hI.ext e.h))
      have lX := HLN.out i (by omega)
      have lH := headL_le 0 nid
      have lB : (p.a i).t.bytes.length ≤ 1000000 := by have := T.bytes_le (p.a i).t; have := HZ.out i hlt; omega
      have HC : Hid (catP p (i + 1) = catP p i ++ (([130] ++ headL 0 nid) ++ (p.a i).t.bytes)) := hid (by unfold catP; rw [T.cat, ← List.append_assoc]; rw [pair_bytes, hnid]; rfl)
      have HLT := hid hlt
      have HT2 := hid t2
      clear hlt hat hI hb hidn t2 hnid
      generalize catP p i = X at *
      generalize headL 0 nid = HH at *
      generalize (p.a i).t.bytes = BB at *
      go_upto_region 5 with fail
      have t2 := HT2.out
      refine wp_region_later (by kernel_rfl) (by kernel_rfl) ?_
      repeat (first | (refine later_mid (by rfl) 38 _ rfl _ _ rfl _ _ RI.out Try.underlying38 rfl (by kernel_rfl) ?_; simp only [Act.put, List.setIfInBounds_toArray, List.set_cons_zero, List.set_cons_succ]) | (refine q_cat (by rfl) _ _ _ _ rfl _ _ rfl rfl (by (try simp only [List.length_append, List.length_cons, List.length_nil]); omega) ?_; (try simp only [Act.put, List.setIfInBounds_toArray, List.set_cons_zero, List.set_cons_succ])) | go_big_quiet_step ((first | (go_at_call 55; (try rw [t2]); exact Ret.later (KI.out _)) | (go_at_call 57; exact Ret.later (KB.out _)))))
      refine wpQuiet_nil ?_
      rintro _ ⟨e, rfl⟩
      go_wp2_with fail
      go_roundw
      case rel => exact ⟨i + 1, by go_num, (by (rw [HC.out]) <;> (first | rfl | simp)), (show Hid _ from HLT.out), e, rfl⟩
      case measure => have := HLT.out; simp [intOf]; omega
    · have hik : i = p.k := by have := hi.out; omega
      subst hik
      have tc : decide (p.k < p.k) = false := by simp
      generalize catP p p.k = X at *
      go_wp2_with fail
      go_ret
      exact Ret.mk rfl e.h
def catT (a : AV) (i : Nat) : List UInt8 := headL 4 a.tk ++ T.cat (fun i => headL 0 (a.tg i).toNat) i
def midB (a : AV) : List UInt8 := if a.ps.k = 0 then [0] ++ (eidT a.src).bytes else ([1] ++ (eidT a.src).bytes) ++ (plT a.ps).bytes
def preR (a : AV) : List UInt8 := ((catT a a.tk ++ headL 0 a.ctx.toNat) ++ midB a) ++ headL 4 a.tk
def catR15 (a : AV) (i : Nat) : List UInt8 := preR a ++ T.cat (fun i => (plT (a.rs i)).bytes) i
theorem av_bytes {a : AV} (h : a.rk = a.tk) : a.bytes = catR15 a a.rk := by
  have e1 : (tgT a.tk a.tg).bytes = catT a a.tk := by
    show T.bytes (T.mk 4 0 [] false a.tk fun i => numT (a.tg i).toNat) = _
    rw [T.bytes, if_neg (by decide), if_neg (by decide)]
    simp [catT, numT, T.bytes]
  have e2 : (rsT a.rk a.rs).bytes = headL 4 a.tk ++ T.cat (fun i => (plT (a.rs i)).bytes) a.rk := by
    show T.bytes (T.mk 4 0 [] false a.rk fun i => plT (a.rs i)) = _
    rw [T.bytes, if_neg (by decide), if_neg (by decide), ← h]
    simp
  have n0 : ∀ n, (numT n).bytes = headL 0 n := fun n => rfl
  have h0 : headL 0 0 = [0] := by decide
  have h1 : headL 0 1 = [1] := by decide
  unfold AV.bytes AV.items catR15 preR midB
  split
  · simp [e1, e2, n0, h0]
  · simp [e1, e2, n0, h1]
theorem pl_size_mem {p : PL} {i : Nat} (hi : i < p.k) : (p.a i).t.size ≤ (plT p).size := by
  have h1 : (pairT (p.a i)).size ≤ (plT p).size := T.size_ch (ch := fun i => pairT (p.a i)) hi
  rw [pair_size] at h1
  omega
theorem rs_size_mem {k : Nat} {f : Nat → PL} {i : Nat} (hi : i < k) : (plT (f i)).size ≤ (rsT k f).size := T.size_ch (ch := fun i => plT (f i)) hi
set_option maxRecDepth 20000 in
set_option maxHeartbeats 8000000 in
theorem r15Bytes_any (a : AV) (hw : a.wf) (hsm : a.small) (hs : a.shaped = true) (m : AA) (w : World) (h : AsL w anyQ a m) : Calls Try.prog 47 #[asbV a m] w (Ret (str a.bytes) w) := by
  obtain ⟨mt, mtc, mp, mpc, mr, mrc⟩ := m
  obtain ⟨⟨h1, h2⟩, h3, h4, h5, h6, h7, h8, h9⟩ := AV.shaped_iff.1 hs
  rw [av_bytes h8]
  have HE := hid ((Mod.refl [] w).alloc (.cells (asbC a ⟨mt, mtc, mp, mpc, mr, mrc⟩) 29))
  have HB0 := hid (Blk.new w 29 (asbC a ⟨mt, mtc, mp, mpc, mr, mrc⟩))
  have HL := hid (h.ext HE.out)
  have HTG := hid (unlikeB_coded h3)
  have HRC := hid (T.all_iff.1 h9)
  have HRK := hid h8
  have HWR := hid hw.2.2.2.2.2
  have HSR := hid hsm.2
  have k16 : (a.tk : Int) ≤ 16 := by omega
  have r16 : (a.rk : Int) ≤ 16 := by omega
  have hcc := codedB_iff.1 h4
  obtain ⟨cn, hcn⟩ := Int.eq_ofNat_of_zero_le hcc.1
  have hcn : a.ctx = (cn : Int) := hcn
  have tcx : IntKind.u64.wrap (cn : Int) = (cn : Int) := IntWalk.u64_in _ (by omega)
  have ttk : IntKind.u64.wrap (a.tk : Int) = (a.tk : Int) := IntWalk.u64_in _ (by omega)
  have KT := hid (fun W => rHead_n 4 a.tk (by decide) (by omega) W)
  have KX := hid (fun W => rHead_n 0 cn (by decide) (by omega) W)
  have KE := hid (fun W => r10Item_ok a.src h5 W)
  have KB := hid (fun A W (hl : IsL W anyQ (eidT a.src) A) => rBytesI_any (eidT a.src) (eidT_ok h5).1 (eidT_ok h5).2.2.1 (eidT_ok h5).2.2.2 A 2 W hl)
  have lE : (eidT a.src).bytes.length ≤ 1000000 := by have := T.bytes_le (eidT a.src); have := (eidT_ok h5).2.2.2; omega
  have lP : (plT a.ps).bytes.length ≤ 1000000 := by have := T.bytes_le (plT a.ps); have := hsm.1; omega
  have lT := headL_le 4 a.tk
  have lC := headL_le 0 cn
  have HCT : Hid (∀ i, i ≤ a.tk → (catT a i).length ≤ 100000) := hid (fun i hi => by
    have h1 := cat_lt (f := fun i => headL 0 (a.tg i).toNat) (B := 1000) (k := a.tk) (fun j hj => by have := headL_le 0 (a.tg j).toNat; show (headL 0 (a.tg j).toNat).length ≤ _; omega) i hi
    unfold catT
    rw [List.length_append]
    omega)
  have lM : (midB a).length ≤ 3000000 := by
    unfold midB
    split <;> simp only [List.length_append, List.length_cons, List.length_nil] <;> omega
  have lPre : (preR a).length ≤ 4000000 := by
    have := HCT.out a.tk (Nat.le_refl _)
    have hcx : (headL 0 a.ctx.toNat).length ≤ 1000 := by have := headL_le 0 a.ctx.toNat; omega
    unfold preR
    simp only [List.length_append]
    omega
  have HCR : Hid (∀ i, i ≤ a.rk → (catR15 a i).length ≤ 200000000) := hid (fun i hi => by
    have h1 := cat_lt (f := fun i => (plT (a.rs i)).bytes) (B := 1000000) (k := a.rk) (fun j hj => by have := T.bytes_le (plT (a.rs j)); have := rs_size_mem (f := a.rs) hj; have := hsm.2; show (plT (a.rs j)).bytes.length ≤ _; omega) i hi
    unfold catR15
    rw [List.length_append]
    have h3 : i * 1000000 ≤ 16 * 1000000 := Nat.mul_le_mul_right _ (by omega)
    omega)
  have KP : Hid (∀ W, Ext (w.alloc (.cells (asbC a ⟨mt, mtc, mp, mpc, mr, mrc⟩) 29)) W → Calls Try.prog 80 #[.slice mp a.ps.k mpc] W (Ret (str (plT a.ps).bytes) W)) := hid (fun W hW => r15list_any a.ps (by omega) hw.2.2.2.1 h7 (fun i hi => by have := pl_size_mem hi; have := hsm.1; omega) mp mpc W (HL.out.p.ext hW))
  have HM0 : Hid (a.ps.k = 0 → midB a = [0] ++ (eidT a.src).bytes) := hid (fun h => by unfold midB; rw [if_pos h])
  have HM1 : Hid (a.ps.k ≠ 0 → midB a = ([1] ++ (eidT a.src).bytes) ++ (plT a.ps).bytes) := hid (fun h => by unfold midB; rw [if_neg h])
  have HPR : Hid (preR a = ((catT a a.tk ++ headL 0 cn) ++ midB a) ++ headL 4 a.tk) := hid (by unfold preR; rw [hcn]; rfl)
  have HC00 : Hid (catT a 0 = headL 4 a.tk) := hid (by simp [catT, T.cat])
  have HR00 : Hid (catR15 a 0 = preR a) := hid (by simp [catR15, T.cat])
  have pk0 : (a.ps.k : Int) ≤ 8 := by omega
  have HCN := hid hcn
  clear hw hsm hs h h1 h2 h3 h4 h5 h6 h7 h8 h9 hcc hcn
  go_enter Try.func47, Try.ntmps47
  go_upto_region 1 with fail
  generalize w.alloc (.cells (asbC a ⟨mt, mtc, mp, mpc, mr, mrc⟩) 29) = V at *
  have b0 : ∀ e : Later V, e.x.cell? ⟨w.heap.size, 0, none⟩ = some (.slice mt a.tk mtc) := HB0.out.cellL 0 rfl
  have b1 : ∀ e : Later V, e.x.cell? ⟨w.heap.size, 1, none⟩ = some (.int .i64 (cn : Int)) := HB0.out.cellL 1 (by rw [← HCN.out]; rfl)
  have b6 : ∀ e : Later V, e.x.cell? ⟨w.heap.size, 6, none⟩ = some (.slice mp a.ps.k mpc) := HB0.out.cellL 6 rfl
  have b7 : ∀ e : Later V, e.x.cell? ⟨w.heap.size, 7, none⟩ = some (.slice mr a.rk mrc) := HB0.out.cellL 7 rfl
  have HRE : Hid (∀ e : Later V, e.x.rangeAt w.heap.size 2 [.int .i64 a.src.sch, str a.src.name, .int .u64 (a.src.node : Int), .int .u64 (a.src.svc : Int)]) := HB0.out.range 2 4 (by rfl)
  obtain ⟨e, he⟩ := Later.self V
  rw [he]
  clear he
  go_upto_region 4 with (go_at_call 55; (try rw [ttk]); refine (Ret.later (KT.out _)).mono ?_; rintro x _ ⟨rfl, e, rfl⟩)
  go_loopw [4, 5] (fun s4 s5 wr => ∃ i : Nat, s5 = .int .i64 (i : Int) ∧ s4 = str (catT a i) ∧ Hid (i ≤ a.tk) ∧ ∃ e : Later V, wr = e.x) (fun _ s5 _ => a.tk - (intOf s5).toNat)
  case atStart => exact ⟨0, rfl, by rw [HC00.out], (show Hid _ from Nat.zero_le _), e, rfl⟩
  case round =>
    clear e
    obtain ⟨i, rfl, rfl, hi, e, rfl⟩ := hrel
    have i0 : (0 : Int) ≤ (i : Int) := by omega
    by_cases hlt : i < a.tk
    · obtain ⟨bA, oA, hA, hbA, hcA⟩ := HL.out.t (by omega)
      have hA : mt = some ⟨bA, oA, none⟩ := hA
      subst hA
      have hidn := HTG.out i hlt
      obtain ⟨nid, hnid⟩ := Int.eq_ofNat_of_zero_le hidn.1
      have hnid : a.tg i = (nid : Int) := hnid
      have cA : ∀ e : Later V, e.x.cell? ⟨bA, oA + i, none⟩ = some (.int .i64 (nid : Int)) := fun e => by rw [← hnid]; exact (e.h.cell hbA (by simp)).trans (hcA i hlt)
      have t2 : IntKind.u64.wrap (nid : Int) = (nid : Int) := IntWalk.u64_in _ (by omega)
      have KI := hid (fun W => rHead_n 0 nid (by decide) (by omega) W)
      have tc : decide (i < a.tk) = true := by simp [hlt]
      have i1 : (i : Int) < (a.tk : Int) := by omega
      have lX := HCT.out i (by omega)
      have lH := headL_le 0 nid
      have HC : Hid (catT a (i + 1) = catT a i ++ headL 0 nid) := hid (by unfold catT; rw [T.cat, ← List.append_assoc, hnid]; rfl)
      have HLT := hid hlt
      clear hlt hcA hbA hidn hnid HPR HR00 HC00
      generalize catT a i = X at *
      generalize headL 0 nid = HH at *
      go_wp2_with (first | (go_at_call 55; (try rw [t2]); refine (Ret.later (KI.out _)).mono ?_; rintro x _ ⟨rfl, e, rfl⟩) | (refine wpList_cat (by rfl) _ _ _ _ rfl _ _ rfl rfl (by (try simp only [List.length_append, List.length_cons, List.length_nil]); omega) ?_))
      go_roundw
      case rel => exact ⟨i + 1, by go_num, (by (rw [HC.out]) <;> (first | exact str_app _ _ | rfl | simp)), (show Hid _ from HLT.out), e, rfl⟩
      case measure => have := HLT.out; simp [intOf]; omega
    · have hik : i = a.tk := by have := hi.out; omega
      subst hik
      have tc : decide (a.tk < a.tk) = false := by simp
      have lX := HCT.out a.tk (Nat.le_refl _)
      generalize catT a a.tk = X at *
      generalize (eidT a.src).bytes = EB at *
      generalize (plT a.ps).bytes = PB at *
      generalize headL 0 cn = CH at *
      go_upto_region 9 with (first | (go_at_call 55; (try rw [tcx]); refine (Ret.later (KX.out _)).mono ?_; rintro x _ ⟨rfl, e, rfl⟩) | (refine wpList_cat (by rfl) _ _ _ _ rfl _ _ rfl rfl (by (try simp only [List.length_append, List.length_cons, List.length_nil]); omega) ?_) | (refine wpList_mid (by rfl) 26 _ rfl _ 2 rfl _ _ (HRE.out _) Try.underlying26 rfl (by kernel_rfl) ?_) | (go_at_call 58; refine (KE.out _).mono ?_; rintro x w6 ⟨As, rfl, hb6, hl6⟩; have H6 := hid (e.h.trans hb6); have HI6 := hid (IsL.weak (R := anyQ) (fun _ _ _ => trivial) _ hl6); clear hb6 hl6) | (go_at_call 57; refine (KB.out As w6 HI6.out).mono ?_; rintro x w7 ⟨rfl, hb7⟩; obtain ⟨e, rfl⟩ : ∃ e : Later V, w7 = e.x := ⟨⟨w7, H6.out.trans hb7⟩, rfl⟩; clear hb7))
      obtain ⟨M, hMM⟩ : ∃ M, midB a = M := ⟨_, rfl⟩
      rw [hMM] at HPR HM0 HM1 lM
      clear hMM
      have HFINAL : Hid (∀ (e : Later V), True) := hid (fun _ => trivial)
      by_cases hp : a.ps.k = 0
      case pos =>
        have HMX := hid (HM0.out hp)
        have paa : decide ((0 : Int) < (a.ps.k : Int)) = false := decide_eq_false (by omega)
        have pab : ((0 : Int) < (a.ps.k : Int)) = False := eq_false (by omega)
        have pba : decide (0 < a.ps.k) = false := decide_eq_false (by omega)
        have pbb : (0 < a.ps.k) = False := eq_false (by omega)
        clear hp HM0 HM1
        go_upto_region 14 with (first | (go_at_call 55; refine (Ret.later (KT.out _)).mono ?_; rintro x _ ⟨rfl, e, rfl⟩) | (refine wpList_cat (by rfl) _ _ _ _ rfl _ _ rfl rfl (by (try simp only [List.length_append, List.length_cons, List.length_nil]); omega) ?_))
        have HPRX : Hid (preR a = X ++ CH ++ (0 :: EB) ++ headL 4 a.tk) := hid (by rw [HPR.out, HMX.out]; simp)
        go_loopw [4, 7] (fun s4 s7 wr => ∃ i : Nat, s7 = .int .i64 (i : Int) ∧ s4 = str (catR15 a i) ∧ Hid (i ≤ a.rk) ∧ ∃ e : Later V, wr = e.x) (fun _ s7 _ => a.rk - (intOf s7).toNat)
        case atStart => exact ⟨0, rfl, (by (rw [HR00.out, HPRX.out]) <;> (first | rfl | simp)), (show Hid _ from Nat.zero_le _), e, rfl⟩
        case round =>
          clear e
          obtain ⟨i, rfl, rfl, hi, e, rfl⟩ := hrel
          have i0 : (0 : Int) ≤ (i : Int) := by omega
          by_cases hlt : i < a.rk
          · obtain ⟨bR, oR, Ai, ci, hR, hbR, qR, hkR, hPRR⟩ := HL.out.r.at (Mod.refl _ V) hlt
            have hR : mr = some ⟨bR, oR, none⟩ := hR
            subst hR
            have cR : ∀ e : Later V, e.x.cell? ⟨bR, oR + i, none⟩ = some (.slice Ai (a.rs i).k ci) := fun e => cellL qR e
            have KQ := hid (fun e : Later V => r15list_any (a.rs i) (by have := (resB_iff.1 (HRC.out i hlt)).1; omega) (HWR.out i hlt) (resB_iff.1 (HRC.out i hlt)).2 (fun j hj => by have := pl_size_mem hj; have := rs_size_mem (f := a.rs) hlt; have := HSR.out; omega) Ai ci e.x (hPRR.ext e.h))
            have tc : decide (i < a.rk) = true := by simp [hlt]
            have i1 : (i : Int) < (a.rk : Int) := by omega
            have lX := HCR.out i (by omega)
            have lB : (plT (a.rs i)).bytes.length ≤ 1000000 := by have := T.bytes_le (plT (a.rs i)); have := rs_size_mem (f := a.rs) hlt; have := HSR.out; omega
            have HC : Hid (catR15 a (i + 1) = catR15 a i ++ (plT (a.rs i)).bytes) := hid (by unfold catR15; rw [T.cat, ← List.append_assoc])
            have HLT := hid hlt
            clear hlt hPRR hkR hbR qR HPRX HPR HR00
            generalize catR15 a i = Y at *
            generalize (plT (a.rs i)).bytes = BB at *
            go_wp2_with (first | (go_at_call 80; refine (Ret.later (KQ.out _)).mono ?_; rintro x _ ⟨rfl, e, rfl⟩) | (refine wpList_cat (by rfl) _ _ _ _ rfl _ _ rfl rfl (by (try simp only [List.length_append, List.length_cons, List.length_nil]); omega) ?_))
            go_roundw
            case rel => exact ⟨i + 1, by go_num, (by (rw [HC.out]) <;> (first | exact str_app _ _ | rfl | simp)), (show Hid _ from HLT.out), e, rfl⟩
            case measure => have := HLT.out; simp [intOf]; omega
          · have hik : i = a.rk := by have := hi.out; omega
            subst hik
            have tc : decide (a.rk < a.rk) = false := by simp
            generalize catR15 a a.rk = Y at *
            go_wp2_with fail
            go_ret
            exact Ret.mk rfl (HE.out.trans e.h)
      have HMX := hid (HM1.out hp)
      have KP2 := hid (fun e : Later V => KP.out e.x e.h)
      have paa : decide ((0 : Int) < (a.ps.k : Int)) = true := decide_eq_true (by omega)
      have pab : ((0 : Int) < (a.ps.k : Int)) = True := eq_true (by omega)
      have pba : decide (0 < a.ps.k) = true := decide_eq_true (by omega)
      have pbb : (0 < a.ps.k) = True := eq_true (by omega)
      clear hp HM0 HM1
      go_upto_region 14 with (first | (go_at_call 80; refine (Ret.later (KP2.out _)).mono ?_; rintro x _ ⟨rfl, e, rfl⟩) | (go_at_call 55; refine (Ret.later (KT.out _)).mono ?_; rintro x _ ⟨rfl, e, rfl⟩) | (refine wpList_cat (by rfl) _ _ _ _ rfl _ _ rfl rfl (by (try simp only [List.length_append, List.length_cons, List.length_nil]); omega) ?_))
      have HPRX : Hid (preR a = X ++ CH ++ (1 :: EB ++ PB) ++ headL 4 a.tk) := hid (by rw [HPR.out, HMX.out]; simp)
      go_loopw [4, 7] (fun s4 s7 wr => ∃ i : Nat, s7 = .int .i64 (i : Int) ∧ s4 = str (catR15 a i) ∧ Hid (i ≤ a.rk) ∧ ∃ e : Later V, wr = e.x) (fun _ s7 _ => a.rk - (intOf s7).toNat)
      case atStart => exact ⟨0, rfl, (by (rw [HR00.out, HPRX.out]) <;> (first | rfl | simp)), (show Hid _ from Nat.zero_le _), e, rfl⟩
      case round =>
        clear e
        obtain ⟨i, rfl, rfl, hi, e, rfl⟩ := hrel
        have i0 : (0 : Int) ≤ (i : Int) := by omega
        by_cases hlt : i < a.rk
        · obtain ⟨bR, oR, Ai, ci, hR, hbR, qR, hkR, hPRR⟩ := HL.out.r.at (Mod.refl _ V) hlt
          have hR : mr = some ⟨bR, oR, none⟩ := hR
          subst hR
          have cR : ∀ e : Later V, e.x.cell? ⟨bR, oR + i, none⟩ = some (.slice Ai (a.rs i).k ci) := fun e => cellL qR e
          have KQ := hid (fun e : Later V => r15list_any (a.rs i) (by have := (resB_iff.1 (HRC.out i hlt)).1; omega) (HWR.out i hlt) (resB_iff.1 (HRC.out i hlt)).2 (fun j hj => by have := pl_size_mem hj; have := rs_size_mem (f := a.rs) hlt; have := HSR.out; omega) Ai ci e.x (hPRR.ext e.h))
          have tc : decide (i < a.rk) = true := by simp [hlt]
          have i1 : (i : Int) < (a.rk : Int) := by omega
          have lX := HCR.out i (by omega)
          have lB : (plT (a.rs i)).bytes.length ≤ 1000000 := by have := T.bytes_le (plT (a.rs i)); have := rs_size_mem (f := a.rs) hlt; have := HSR.out; omega
          have HC : Hid (catR15 a (i + 1) = catR15 a i ++ (plT (a.rs i)).bytes) := hid (by unfold catR15; rw [T.cat, ← List.append_assoc])
          have HLT := hid hlt
          clear hlt hPRR hkR hbR qR HPRX HPR HR00
          generalize catR15 a i = Y at *
          generalize (plT (a.rs i)).bytes = BB at *
          go_wp2_with (first | (go_at_call 80; refine (Ret.later (KQ.out _)).mono ?_; rintro x _ ⟨rfl, e, rfl⟩) | (refine wpList_cat (by rfl) _ _ _ _ rfl _ _ rfl rfl (by (try simp only [List.length_append, List.length_cons, List.length_nil]); omega) ?_))
          go_roundw
          case rel => exact ⟨i + 1, by go_num, (by (rw [HC.out]) <;> (first | exact str_app _ _ | rfl | simp)), (show Hid _ from HLT.out), e, rfl⟩
          case measure => have := HLT.out; simp [intOf]; omega
        · have hik : i = a.rk := by have := hi.out; omega
          subst hik
          have tc : decide (a.rk < a.rk) = false := by simp
          generalize catR15 a a.rk = Y at *
          go_wp2_with fail
          go_ret
          exact Ret.mk rfl (HE.out.trans e.h)
end Go.Proofs.Ytogjghmoankleaa


namespace Go.Proofs.Ytogjghmoankleaa
open Go.RowKit
set_option linter.unusedVariables false
set_option linter.unusedSimpArgs false

theorem av_length {a : AV} (hw : a.wf) (hsm : a.small) (hs : a.shaped = true) : a.bytes.length ≤ 6000000 := by
  have h1 := catL_le (L := a.items) (B := 1000000) (fun t ht => by have := T.bytes_le t; have := (AV.items_all hw hsm hs t ht).2.2; omega) a.items.length (Nat.le_refl _)
  have h2 : a.bytes = catL a.items a.items.length := by unfold AV.bytes catL; rw [List.take_length]
  have h3 := AV.items_length a
  rw [h2]; omega
set_option maxRecDepth 20000 in
set_option maxHeartbeats 4000000 in
theorem r15Right_any (a : AV) (hw : a.wf) (hsm : a.shaped = true → a.small) (m : AA) (w : World) (h : AsL w anyQ a m) : Calls Try.prog 20 #[asbV a m] w (Ret (.bool a.right) w) := by
  have HE := hid ((Mod.refl [] w).alloc (.cells (asbC a m) 29))
  have HB0 := hid (Blk.new w 29 (asbC a m))
  have HL := hid (h.ext HE.out)
  have HWF := hid hw
  have KS : Hid (∀ W, Ext (w.alloc (.cells (asbC a m) 29)) W → Calls Try.prog 46 #[asbV a m] W (Ret (.bool a.shaped) W)) := hid (fun W hW => r15Shaped_any a HWF.out m W (HL.out.ext hW))
  have KB : Hid (a.shaped = true → ∀ W, Ext (w.alloc (.cells (asbC a m) 29)) W → Calls Try.prog 47 #[asbV a m] W (Ret (str a.bytes) W)) := hid (fun hs W hW => r15Bytes_any a HWF.out (hsm hs) hs m W (HL.out.ext hW))
  have HR : Hid (a.right = (a.shaped && decide (a.bytes.length ≤ 4000))) := rfl
  have HBL : Hid (a.shaped = true → a.bytes.length ≤ 6000000) := hid (fun hs => av_length HWF.out (hsm hs) hs)
  clear hw hsm h
  cases hs : a.shaped with
  | false =>
    rw [hs] at KS
    have HX : Hid (a.right = false) := hid (by rw [HR.out, hs]; rfl)
    clear hs KB HBL
    go_enter Try.func20, Try.ntmps20
    go_upto_region 1 with fail
    generalize w.alloc (.cells (asbC a m) 29) = V at *
    obtain ⟨e, he⟩ := Later.self V
    rw [he]
    clear he
    have tk1 : True := trivial
    have tk2 : True := trivial
    go_wp2_with (first | (clear tk1; refine wpList_row (by rfl) 29 _ rfl _ rfl (HB0.out.later _) Try.underlying29 rfl (by kernel_rfl) ?_) | (go_at_call 46; refine (Ret.later (KS.out _ (Later.h _))).mono ?_; rintro x _ ⟨rfl, e, rfl⟩))
    go_ret
    exact Ret.mk (by rw [HX.out]; rfl) (HE.out.trans e.h)
  | true =>
    rw [hs] at KS
    have KB := hid (KB.out hs)
    have hbl := HBL.out hs
    have HX : Hid (a.right = decide (a.bytes.length ≤ 4000)) := hid (by rw [HR.out, hs]; rfl)
    clear hs HBL HR
    generalize a.bytes = BB at *
    go_enter Try.func20, Try.ntmps20
    go_upto_region 1 with fail
    generalize w.alloc (.cells (asbC a m) 29) = V at *
    obtain ⟨e, he⟩ := Later.self V
    rw [he]
    clear he
    have tk1 : True := trivial
    have tk2 : True := trivial
    go_wp2_with (first | (clear tk1; refine wpList_row (by rfl) 29 _ rfl _ rfl (HB0.out.later _) Try.underlying29 rfl (by kernel_rfl) ?_) | (go_at_call 46; refine (Ret.later (KS.out _ (Later.h _))).mono ?_; rintro x _ ⟨rfl, e, rfl⟩) | (clear tk2; refine wpList_row (by rfl) 29 _ rfl _ rfl (HB0.out.later _) Try.underlying29 rfl (by kernel_rfl) ?_) | (go_at_call 47; refine (Ret.later (KB.out _ (Later.h _))).mono ?_; rintro x _ ⟨rfl, e, rfl⟩))
    go_ret
    refine Ret.mk ?_ (HE.out.trans e.h)
    rw [HX.out]
    simp
    try omega
end Go.Proofs.Ytogjghmoankleaa


namespace Go.Proofs.Ytogjghmoankleaa
open Go.RowKit
set_option linter.unusedVariables false
set_option linter.unusedSimpArgs false

theorem fewP_size {p : PL} (h : fewP p = true) : p.k ≤ 10 ∧ ∀ i, i < p.k → (p.a i).t.size ≤ 1000 := by
  unfold fewP at h
  rw [Bool.and_eq_true, T.all_iff, decide_eq_true_eq] at h
  exact ⟨h.2, fun i hi => (few_size (h.1 i (by omega))).1⟩
theorem pl_size_le {p : PL} {n : Nat} (hk : p.k ≤ n) (h : ∀ i, i < p.k → (p.a i).t.size ≤ 1000) : (plT p).size ≤ 1 + n * 1002 := by
  unfold plT T.size
  have := sum_le_each (f := fun i => (pairT (p.a i)).size) (B := 1002) (k := p.k) (fun i hi => by have := pair_size (p := p.a i); have := h i hi; show (pairT (p.a i)).size ≤ _; omega)
  have h2 : p.k * 1002 ≤ n * 1002 := Nat.mul_le_mul_right _ hk
  show 1 + 0 + T.sum (fun i => (pairT (p.a i)).size) p.k ≤ 1 + n * 1002
  omega
theorem few_small {a : AV} (h : fewA a = true) (hs : a.shaped = true) : a.small := by
  obtain ⟨⟨h1, h2⟩, h3, h4, h5, h6, h7, h8, h9⟩ := AV.shaped_iff.1 hs
  unfold fewA at h
  simp only [Bool.and_eq_true, T.all_iff, decide_eq_true_eq] at h
  obtain ⟨f1, ⟨⟨f2, f3⟩, f4⟩, f5⟩ := h
  constructor
  · have := pl_size_le (n := 10) (fewP_size f4).1 (fewP_size f4).2
    omega
  · unfold rsT T.size
    have := sum_le_each (f := fun i => (plT (a.rs i)).size) (B := 4009) (k := a.rk) (fun i hi => by
      have e := resB_iff.1 (T.all_iff.1 h9 i hi)
      have := pl_size_le (n := 4) e.1.2 (fewP_size (f1 i (by omega))).2
      show (plT (a.rs i)).size ≤ _
      omega)
    have h2 : a.rk * 4009 ≤ 16 * 4009 := Nat.mul_le_mul_right _ (by omega)
    show 1 + 0 + T.sum (fun i => (plT (a.rs i)).size) a.rk ≤ 100000
    omega
/-- That one may write there hangs on no store. -/
theorem there_set {w : World} {b o n : Nat} (h : w.there b o n) (b2 o2 : Nat) (l : List Value) : (w.setCells b2 o2 l).there b o n := fun j hj => ⟨World.isSome_setCells b2 l o2 w _ (h j hj).1, by rw [World.frozen?_setCells]; exact (h j hj).2⟩
theorem there_cell {w : World} {b o n : Nat} (h : w.there b o n) (b2 o2 : Nat) (v : Value) : (w.setCell ⟨b2, o2, none⟩ v).there b o n := there_set h b2 o2 [v]
theorem PsL.there {w : World} {Q R : Nat → Prop} {A : Option Addr} {p : PL} (h : PsL w Q A p) (hs : softA w R A) (h0 : 0 < p.k) : ∃ b o, A = some ⟨b, o, none⟩ ∧ b < w.heap.size ∧ R b ∧ ∀ i, i < p.k → w.there b (o + i * 6) 6 := by
  obtain ⟨b, o, rfl, hb, hq, hc⟩ := h h0
  obtain ⟨h1, _, h3⟩ := hs _ rfl
  refine ⟨b, o, rfl, hb, h1, fun i hi j hj => ⟨?_, h3 _⟩⟩
  obtain ⟨Ai, ci, ⟨c0, c1, c2, c3, c4, c5⟩, _⟩ := hc i hi
  match j, hj with
  | 0, _ => rw [Nat.add_zero, c0]; rfl
  | 1, _ => rw [c1]; rfl
  | 2, _ => rw [c2]; rfl
  | 3, _ => rw [c3]; rfl
  | 4, _ => rw [c4]; rfl
  | 5, _ => rw [c5]; rfl
theorem NsL.there {w : World} {R : Nat → Prop} {A : Option Addr} {k : Nat} {f : Nat → Int} (h : NsL w A k f) (hs : softA w R A) (h0 : 0 < k) : ∃ b o, A = some ⟨b, o, none⟩ ∧ b < w.heap.size ∧ R b ∧ ∀ i, i < k → w.there b (o + i) 1 := by
  obtain ⟨b, o, rfl, hb, hc⟩ := h h0
  obtain ⟨h1, _, h3⟩ := hs _ rfl
  refine ⟨b, o, rfl, hb, h1, fun i hi j hj => ⟨?_, h3 _⟩⟩
  obtain rfl : j = 0 := by omega
  rw [Nat.add_zero, hc i hi]; rfl
theorem there_ext {w w' : World} {b o n : Nat} (h : w.there b o n) (hb : b < w.heap.size) (hm : Ext w w') : w'.there b o n := fun j hj => ⟨by rw [hm.cell hb (by simp)]; exact (h j hj).1, by rw [hm.frozen hb (by simp)]; exact (h j hj).2⟩
/-- What holds while the results are written over. -/
structure OwnI (V : World) (gz : Nat) (wo : AV) (nm : AA) (bl ol kl Z0 : Nat) (W : World) : Prop where
  ext : Ext V W
  box : Blk W gz 29 (asbC wo nm)
  l : ∀ j, j < kl → W.there bl (ol + j * 6) 6
  t : 0 < wo.tk → ∃ b o, nm.t = some ⟨b, o, none⟩ ∧ (V.heap.size ≤ b ∧ b < Z0 ∧ b ≠ gz) ∧ ∀ j, j < wo.tk → W.there b (o + j) 1
  p : 0 < wo.ps.k → ∃ b o, nm.p = some ⟨b, o, none⟩ ∧ (V.heap.size ≤ b ∧ b < Z0 ∧ b ≠ gz) ∧ ∀ j, j < wo.ps.k → W.there b (o + j * 6) 6
  r : 0 < wo.rk → ∃ b o, nm.r = some ⟨b, o, none⟩ ∧ Z0 ≤ b ∧ b < W.heap.size ∧ ∀ j, j < wo.rk → ∃ Ai ci, W.cell? ⟨b, o + j, none⟩ = some (.slice Ai (wo.rs j).k ci) ∧ (0 < (wo.rs j).k → ∃ bi oi, Ai = some ⟨bi, oi, none⟩ ∧ (V.heap.size ≤ bi ∧ bi ≠ gz ∧ bi ≠ b) ∧ ∀ m, m < (wo.rs j).k → W.there bi (oi + m * 6) 6)
theorem OwnI.set {V W : World} {gz bl ol kl Z0 : Nat} {wo : AV} {nm : AA} (h : OwnI V gz wo nm bl ol kl Z0 W) (b2 o2 : Nat) (l : List Value) (h1 : V.heap.size ≤ b2) (h2 : b2 ≠ gz) (h3 : 0 < wo.rk → ∀ g, nm.r = some g → b2 ≠ g.block) : OwnI V gz wo nm bl ol kl Z0 (W.setCells b2 o2 l) := by
  have hm : Mod [b2] W (W.setCells b2 o2 l) := setCells_mod _ _ (Mod.refl _ _) (.inl (by simp))
  refine ⟨setCells_mod _ _ h.ext (.inr h1), h.box.mod hm (by simpa using fun e => h2 e.symm), fun j hj => there_set (h.l j hj) _ _ _, fun h0 => ?_, fun h0 => ?_, fun h0 => ?_⟩
  · obtain ⟨b, o, q1, q2, q3⟩ := h.t h0
    exact ⟨b, o, q1, q2, fun j hj => there_set (q3 j hj) _ _ _⟩
  · obtain ⟨b, o, q1, q2, q3⟩ := h.p h0
    exact ⟨b, o, q1, q2, fun j hj => there_set (q3 j hj) _ _ _⟩
  · obtain ⟨b, o, q1, q2, q2b, q3⟩ := h.r h0
    refine ⟨b, o, q1, q2, Nat.lt_of_lt_of_le q2b hm.size, fun j hj => ?_⟩
    obtain ⟨Ai, ci, c1, c2⟩ := q3 j hj
    refine ⟨Ai, ci, (hm.cell q2b (by simpa using fun e => h3 h0 _ q1 e.symm)).trans c1, fun hk => ?_⟩
    obtain ⟨bi, oi, e1, e2, e3⟩ := c2 hk
    exact ⟨bi, oi, e1, e2, fun m hm => there_set (e3 m hm) _ _ _⟩
set_option maxRecDepth 20000 in
set_option maxHeartbeats 16000000 in
theorem asbOwn_any (a : AV) (hw : a.wf) (t : Int) (m : AA) (hmt : a.tk ≤ m.tc) (w : World) (h : AsL w anyQ a m) : Calls Try.prog 5 #[asbV a m, .int .i64 t] w (Ret (.bool true) w) := by
  obtain ⟨mt, mtc, mp, mpc, mr, mrc⟩ := m
  have HE := hid ((Mod.refl [] w).alloc (.cells (asbC a ⟨mt, mtc, mp, mpc, mr, mrc⟩) 29))
  have HB0 := hid (Blk.new w 29 (asbC a ⟨mt, mtc, mp, mpc, mr, mrc⟩))
  have HL := hid (h.ext HE.out)
  have HW := hid hw
  have HMT := hid hmt
  clear hw h hmt
  go_enter Try.func5, Try.ntmps5
  go_upto_region 1 with fail
  have HVS : Hid (w.heap.size + 1 = (w.alloc (.cells (asbC a ⟨mt, mtc, mp, mpc, mr, mrc⟩) 29)).heap.size) := hid (by simp)
  generalize w.alloc (.cells (asbC a ⟨mt, mtc, mp, mpc, mr, mrc⟩) 29) = V at *
  have KF := hid (fun e : Later V => few15_any a HW.out ⟨mt, mtc, mp, mpc, mr, mrc⟩ e.x (HL.out.ext e.h))
  obtain ⟨e, he⟩ := Later.self V
  rw [he]
  clear he
  have tk1 : True := trivial
  cases hfw : fewA a with
  | false =>
    rw [hfw] at KF
    clear hfw
    go_wp2_with (first | (go_at_call 10; refine (Ret.later (awake15_any _)).mono ?_; rintro x _ ⟨rfl, e, rfl⟩) | (clear tk1; refine wpList_row (by rfl) 29 _ rfl _ rfl (HB0.out.later _) Try.underlying29 rfl (by kernel_rfl) ?_) | (go_at_call 11; refine (Ret.later (KF.out _)).mono ?_; rintro x _ ⟨rfl, e, rfl⟩))
    go_ret
    exact Ret.mk rfl (HE.out.trans e.h)
  | true =>
  rw [hfw] at KF
  have HF := hid (fewA_fits hfw).1
  have HSM : Hid (a.shaped = true → a.small) := hid (few_small hfw)
  have tk20 : (a.tk : Int) ≤ 20 := by have := (fewA_fits hfw).2.1; omega
  have rk20 : (a.rk : Int) ≤ 20 := by have := (fewA_fits hfw).2.2; omega
  have pk10 : (a.ps.k : Int) ≤ 100000 := by have := HF.out.2.1.1; omega
  clear hfw
  have KRR := hid (fun e : Later V => r15Right_any a HW.out HSM.out ⟨mt, mtc, mp, mpc, mr, mrc⟩ e.x (HL.out.ext e.h))
  have tk2 : True := trivial
  cases hrt : a.right with
  | false =>
    rw [hrt] at KRR
    clear hrt
    go_wp2_with (first | (go_at_call 10; refine (Ret.later (awake15_any _)).mono ?_; rintro x _ ⟨rfl, e, rfl⟩) | (clear tk1; refine wpList_row (by rfl) 29 _ rfl _ rfl (HB0.out.later _) Try.underlying29 rfl (by kernel_rfl) ?_) | (go_at_call 11; refine (Ret.later (KF.out _)).mono ?_; rintro x _ ⟨rfl, e, rfl⟩) | (clear tk2; refine wpList_row (by rfl) 29 _ rfl _ rfl (HB0.out.later _) Try.underlying29 rfl (by kernel_rfl) ?_) | (go_at_call 20; refine (Ret.later (KRR.out _)).mono ?_; rintro x _ ⟨rfl, e, rfl⟩))
    go_ret
    exact Ret.mk rfl (HE.out.trans e.h)
  | true =>
  rw [hrt] at KRR
  have HSH : Hid (a.shaped = true) := hid (by unfold AV.right at hrt; rw [Bool.and_eq_true] at hrt; exact hrt.1)
  have KB : Hid (∀ e : Later V, Calls Try.prog 21 #[asbV a ⟨mt, mtc, mp, mpc, mr, mrc⟩] e.x (Ret (.tuple #[str a.bytes, .int .i64 0]) e.x)) := hid (fun e => by
    have := aBuild_any a HW.out HSM.out ⟨mt, mtc, mp, mpc, mr, mrc⟩ HMT.out e.x (HL.out.ext e.h)
    unfold abuildV at this
    rw [if_pos hrt] at this
    exact this)
  clear hrt
  generalize a.bytes = BB at *
  have tk3 : True := trivial
  go_upto_region 4 with (first | (go_at_call 10; refine (Ret.later (awake15_any _)).mono ?_; rintro x _ ⟨rfl, e, rfl⟩) | (clear tk1; refine wpList_row (by rfl) 29 _ rfl _ rfl (HB0.out.later _) Try.underlying29 rfl (by kernel_rfl) ?_) | (go_at_call 11; refine (Ret.later (KF.out _)).mono ?_; rintro x _ ⟨rfl, e, rfl⟩) | (clear tk2; refine wpList_row (by rfl) 29 _ rfl _ rfl (HB0.out.later _) Try.underlying29 rfl (by kernel_rfl) ?_) | (go_at_call 20; refine (Ret.later (KRR.out _)).mono ?_; rintro x _ ⟨rfl, e, rfl⟩) | (clear tk3; refine wpList_row (by rfl) 29 _ rfl _ rfl (HB0.out.later _) Try.underlying29 rfl (by kernel_rfl) ?_) | (go_at_call 21; refine (Ret.later (KB.out _)).mono ?_; rintro x _ ⟨rfl, e, rfl⟩))
  clear KRR KF
  cases hx : atT a t with
  | none =>
    have KR := hid (fun e : Later V => Result_none a HW.out HF.out t hx ⟨mt, mtc, mp, mpc, mr, mrc⟩ e.x (HL.out.ext e.h))
    have KW := hid (fun e : Later V => Without_none a HW.out t hx ⟨mt, mtc, mp, mpc, mr, mrc⟩ e.x (HL.out.ext e.h))
    have tk4 : True := trivial
    have tk5 : True := trivial
    clear hx
    go_upto_region 6 with (first | (clear tk4; refine wpList_row (by rfl) 29 _ rfl _ rfl (HB0.out.later _) Try.underlying29 rfl (by kernel_rfl) ?_) | (go_at_call 15; refine (Ret.later (KR.out _)).mono ?_; rintro x _ ⟨rfl, e, rfl⟩) | (clear tk5; refine wpList_row (by rfl) 29 _ rfl _ rfl (HB0.out.later _) Try.underlying29 rfl (by kernel_rfl) ?_) | (go_at_call 16; refine (Ret.later (KW.out _)).mono ?_; rintro x _ ⟨rfl, e, rfl⟩))
    generalize hZ : World.alloc e.x _ = Z
    have HBZ : Hid (Blk Z e.x.heap.size 29 (asbC zeroA zeroM)) := hid (by rw [← hZ]; exact Blk.new _ _ _)
    have HVZ : Hid (Ext V Z) := hid (by rw [← hZ]; exact e.h.alloc _)
    have HB0Z := hid (HB0.out.ext HVZ.out)
    have KBZ := hid (fun e : Later Z => KB.out ⟨e.x, HVZ.out.trans e.h⟩)
    clear hZ KR KW
    generalize e.x.heap.size = gz at *
    have c0 : Z.cell? ⟨gz, 0, none⟩ = some (.slice none 0 0) := HBZ.out.cell 0
    have c6 : Z.cell? ⟨gz, 6, none⟩ = some (.slice none 0 0) := HBZ.out.cell 6
    have c7 : Z.cell? ⟨gz, 7, none⟩ = some (.slice none 0 0) := HBZ.out.cell 7
    go_upto_region 7 with fail
    go_loopw [11] (fun s wr => s = .int .i64 0 ∧ wr = Z) (fun s _ => 0)
    case atStart => exact ⟨rfl, rfl⟩
    case round =>
      obtain ⟨rfl, hz⟩ := hrel
      rw [hz]
      clear hz
      go_upto_region 11 with fail
      go_loopw [12] (fun s wr => s = .int .i64 0 ∧ wr = Z) (fun s _ => 0)
      case atStart => exact ⟨rfl, rfl⟩
      case round =>
        obtain ⟨rfl, hz⟩ := hrel
        rw [hz]
        clear hz
        go_upto_region 15 with fail
        go_loopw [13] (fun s wr => s = .int .i64 0 ∧ wr = Z) (fun s _ => 0)
        case atStart => exact ⟨rfl, rfl⟩
        case round =>
          obtain ⟨rfl, hz⟩ := hrel
          rw [hz]
          clear hz
          go_upto_region 19 with fail
          go_loopw [14] (fun s wr => s = .int .i64 0 ∧ wr = Z) (fun s _ => 0)
          case atStart => exact ⟨rfl, rfl⟩
          case round =>
            obtain ⟨rfl, hz⟩ := hrel
            rw [hz]
            clear hz
            obtain ⟨ez, he⟩ := Later.self Z
            have c7 := cellL c7 ez
            rw [he]
            clear he
            have tk6 : True := trivial
            go_wp2_with (first | (clear tk6; refine wpList_row (by rfl) 29 _ rfl _ rfl (HB0Z.out.later _) Try.underlying29 rfl (by kernel_rfl) ?_) | (go_at_call 21; refine (Ret.later (KBZ.out _)).mono ?_; rintro x _ ⟨rfl, ez, rfl⟩))
            go_ret
            exact Ret.mk (by first | rfl | simp) ((HE.out.trans HVZ.out).trans ez.h)
  | some i =>
    obtain ⟨⟨g1, g2⟩, g3, g4, g5, g6, g7, g8, g9⟩ := AV.shaped_iff.1 HSH.out
    have hit : i < a.tk := (firstOf_spec hx).1
    have hir : i < a.rk := by omega
    have hk1 : 1 ≤ (a.rs i).k ∧ (a.rs i).k ≤ 4 := (resB_iff.1 (T.all_iff.1 g9 i hir)).1
    have HK1 := hid hk1
    have KR := hid (fun e : Later V => Result_some a HW.out HF.out t i hx hir ⟨mt, mtc, mp, mpc, mr, mrc⟩ e.x (HL.out.ext e.h))
    have tk4 : True := trivial
    have HATT := hid hx
    have HGR := hid g9
    have HRKK : Hid (a.rk ≤ 16) := hid (by omega)
    clear g1 g2 g3 g4 g5 g6 g7 g8 g9 hx
    go_upto_region 5 with (first | (clear tk4; refine wpList_row (by rfl) 29 _ rfl _ rfl (HB0.out.later _) Try.underlying29 rfl (by kernel_rfl) ?_) | (go_at_call 15; refine (KR.out e).mono ?_; rintro x w5 ⟨A5, c5, rfl, hb5, hp5, hs5⟩; have H5 := hid (e.h.trans hb5); have HP5 := hid (hp5.weak (R := fun b => V.heap.size ≤ b) (fun b _ hb => Nat.le_trans e.h.size hb)); have HS5 := hid (hs5.weak (R := fun b => V.heap.size ≤ b) (fun b _ hb => Nat.le_trans e.h.size hb)); clear hb5 hp5 hs5))
    clear KR
    have HE5 := hid (HE.out.trans H5.out)
    have HL5 := hid (HL.out.ext H5.out)
    have HB5 := hid (HB0.out.ext H5.out)
    obtain ⟨bl, ol, rfl, hbl, hRl, hTl⟩ := HP5.out.there HS5.out (by omega)
    have HBL := hid hbl
    have HRL := hid hRl
    have HTL := hid hTl
    have KW := hid (Without_some a HW.out HF.out t i HATT.out ⟨mt, mtc, mp, mpc, mr, mrc⟩ w5 HL5.out)
    have tk5 : True := trivial
    clear hbl hRl hTl HP5 HS5 hk1 hit hir
    go_upto_region 6 with (first | (clear tk5; refine wpList_row (by rfl) 29 _ rfl _ rfl HB5.out Try.underlying29 rfl (by kernel_rfl) ?_) | (go_at_call 16; refine KW.out.mono ?_; rintro x w6 ⟨hb6, ⟨nt, ntc, np, npc, nr, nrc⟩, rfl, ha6, Z0, hz0, st6, sp6, sr6⟩; have H6 := hid hb6; have HA6 := hid ha6; have HZ0 := hid hz0; have ST6 := hid st6; have SP6 := hid sp6; have SR6 := hid sr6; clear hb6 ha6 hz0 st6 sp6 sr6))
    clear KW
    generalize hZ : World.alloc w6 _ = Z
    have HBZ : Hid (Blk Z w6.heap.size 29 (asbC (a.wo i) ⟨nt, ntc, np, npc, nr, nrc⟩)) := hid (by rw [← hZ]; exact Blk.new _ _ _)
    have HXZ : Hid (Ext w6 Z) := hid (by rw [← hZ]; exact (Mod.refl [] _).alloc _)
    have HVZ : Hid (Ext V Z) := hid ((H5.out.trans H6.out).trans HXZ.out)
    have HWK : Hid ((a.wo i).tk ≤ 100000 ∧ (a.wo i).ps.k ≤ 100000 ∧ (a.wo i).rk ≤ 16 ∧ ∀ j, j < (a.wo i).rk → ((a.wo i).rs j).k ≤ 4) := hid ⟨by show a.tk - 1 ≤ _; have := HF.out.1; omega, HF.out.2.1.1, by show cntW i a.rk ≤ 16; have := HRKK.out; unfold cntW; split <;> omega, fun j hj => by
      have hj : j < cntW i a.rk := hj
      have hq : ∀ x, x < a.rk → (a.rs x).k ≤ 4 := fun x hx => (resB_iff.1 (T.all_iff.1 HGR.out x hx)).1.2
      show (woP a.rs i j).k ≤ 4
      unfold woP
      unfold cntW at hj
      split
      · exact hq j (by split at hj <;> omega)
      · exact hq (j + 1) (by split at hj <;> omega)⟩
    have HOI : Hid (OwnI V w6.heap.size (a.wo i) ⟨nt, ntc, np, npc, nr, nrc⟩ bl ol (a.rs i).k Z0 Z) := hid (by
      have hv5 := H5.out.size
      have h56 := H6.out.size
      have hz0 := HZ0.out
      refine ⟨HVZ.out, HBZ.out, fun j hj => there_ext (HTL.out j hj) HBL.out (H6.out.trans HXZ.out), fun h0 => ?_, fun h0 => ?_, fun h0 => ?_⟩
      · obtain ⟨b, o, q1, q2, q3, q4⟩ := HA6.out.t.there ST6.out h0
        exact ⟨b, o, q1, ⟨by have := q3.1; omega, q3.2, by omega⟩, fun j hj => there_ext (q4 j hj) q2 HXZ.out⟩
      · obtain ⟨b, o, q1, q2, q3, q4⟩ := HA6.out.p.there SP6.out h0
        exact ⟨b, o, q1, ⟨by have := q3.1; omega, q3.2, by omega⟩, fun j hj => there_ext (q4 j hj) q2 HXZ.out⟩
      · obtain ⟨b, o, q1, q2, q3, q4⟩ := SR6.out h0
        refine ⟨b, o, q1, q3, Nat.lt_of_lt_of_le q2 HXZ.out.size, fun j hj => ?_⟩
        obtain ⟨Ai, ci, c1, _, c3, c4, c5⟩ := q4 j hj
        refine ⟨Ai, ci, (HXZ.out.cell q2 (by simp)).trans c1, fun hk => ?_⟩
        obtain ⟨bi, oi, e1, e2, e3, e4⟩ := c3.there c4 hk
        have e3 : Z0 ≤ bi := e3
        exact ⟨bi, oi, e1, ⟨by omega, by omega, c5 _ e1⟩, fun m hm => there_ext (e4 m hm) e2 HXZ.out⟩)
    have HGZ : Hid (bl < w6.heap.size ∧ bl < Z0 ∧ V.heap.size ≤ bl) := hid ⟨by have := HBL.out; have := H6.out.size; omega, by have := HBL.out; have := HZ0.out; omega, HRL.out⟩
    have KBZ := hid (fun W (hW : Ext V W) => KB.out ⟨W, hW⟩)
    have HKL : Hid ((a.rs i).k ≤ 4) := hid HK1.out.2
    clear hZ HTL HBL HRL ST6 SP6 SR6 HA6 HXZ H6 HB5 HL5 HK1 KB HATT HGR HRKK HBZ
    generalize w6.heap.size = gz at *
    generalize a.wo i = wo at *
    generalize (a.rs i).k = kl at *
    have klb : (kl : Int) ≤ 4 := by have := HKL.out; omega
    have wtk : (wo.tk : Int) ≤ 100000 := by have := HWK.out.1; omega
    have wpk : (wo.ps.k : Int) ≤ 100000 := by have := HWK.out.2.1; omega
    have wrk : (wo.rk : Int) ≤ 16 := by have := HWK.out.2.2.1; omega
    go_upto_region 7 with fail
    go_loopw [11] (fun s wr => ∃ j : Nat, s = .int .i64 (j : Int) ∧ Hid (j ≤ kl ∧ OwnI V gz wo ⟨nt, ntc, np, npc, nr, nrc⟩ bl ol kl Z0 wr)) (fun s _ => kl - (intOf s).toNat)
    case atStart => exact ⟨0, rfl, (show Hid _ from ⟨Nat.zero_le _, HOI.out⟩)⟩
    case round =>
      obtain ⟨j, rfl, hS⟩ := hrel
      rename World => wr
      have j0 : (0 : Int) ≤ (j : Int) := by omega
      have HI := hid hS.out.2
      by_cases hlt : j < kl
      · have tc : decide (j < kl) = true := by simp [hlt]
        have j1 : (j : Int) < (kl : Int) := by omega
        have HLT := hid hlt
        have hth := HI.out.l j hlt
        have tks : True := trivial
        go_upto_region 8 with (clear tks; refine wpList_store_mid rfl 40 _ _ rfl bl (ol + j * 6) #[.int .i64 9, .int .i64 0, .int .u64 0, .string ⟨#[]⟩, .slice none 0 0, .bool false] (by rfl) (by rfl) hth (by kernel_rfl) (by simp [Value.oneCell']) ?_)
        clear hth
        generalize hW1 : World.setCells _ _ _ _ = W1
        have HJ := hid (hW1 ▸ HI.out.set bl (ol + j * 6) (#[.int .i64 9, .int .i64 0, .int .u64 0, .string ⟨#[]⟩, .slice none 0 0, .bool false] : Array Value).toList HGZ.out.2.2 (by have := HGZ.out.1; omega) (fun h0 g hg => by obtain ⟨b, o, q1, q2, _⟩ := HI.out.r h0; have q1 : nr = some ⟨b, o, none⟩ := q1; rw [q1] at hg; cases hg; have := HGZ.out.2.1; show bl ≠ b; omega))
        clear hW1
        go_wp2_with fail
        go_roundw
        case rel => exact ⟨j + 1, by go_num, (show Hid _ from ⟨HLT.out, HJ.out⟩)⟩
        case measure => have := HLT.out; simp [intOf]; omega
      · have hjk : kl = j := by have := hS.out.1; omega
        subst hjk
        have tc : decide (kl < kl) = false := by simp
        have c0 : wr.cell? ⟨gz, 0, none⟩ = some (.slice nt wo.tk ntc) := HI.out.box.cell 0
        clear hS
        go_upto_region 11 with fail
        go_loopw [12] (fun s wr => ∃ j : Nat, s = .int .i64 (j : Int) ∧ Hid (j ≤ wo.tk ∧ OwnI V gz wo ⟨nt, ntc, np, npc, nr, nrc⟩ bl ol kl Z0 wr)) (fun s _ => wo.tk - (intOf s).toNat)
        case atStart => exact ⟨0, rfl, (show Hid _ from ⟨Nat.zero_le _, HI.out⟩)⟩
        case round =>
          obtain ⟨j, rfl, hS⟩ := hrel
          rename World => wr
          have j0 : (0 : Int) ≤ (j : Int) := by omega
          have HI := hid hS.out.2
          by_cases hlt : j < wo.tk
          · have tc : decide (j < wo.tk) = true := by simp [hlt]
            have j1 : (j : Int) < (wo.tk : Int) := by omega
            have HLT := hid hlt
            obtain ⟨b2, o2, q1, q2, q3⟩ := HI.out.t (by omega)
            have q1 : nt = some ⟨b2, o2, none⟩ := q1
            subst q1
            have c0 : wr.cell? ⟨gz, 0, none⟩ = some (.slice (some ⟨b2, o2, none⟩) wo.tk ntc) := HI.out.box.cell 0
            obtain ⟨v2, hv2⟩ := Option.isSome_iff_exists.1 (q3 j hlt 0 (by omega)).1
            have f2 := (q3 j hlt 0 (by omega)).2
            rw [Nat.add_zero] at hv2 f2
            have HQ2 := hid q2
            clear hlt q2 q3
            go_upto_region 12 with fail
            clear c0 hv2 f2
            generalize hW1 : World.setCell wr _ _ = W1
            have HJ0 := (HI.out.set b2 (o2 + j) [.int .i64 77] HQ2.out.1 HQ2.out.2.2 (fun h0 g hg => by obtain ⟨b, o, q1, q2, _⟩ := HI.out.r h0; have q1 : nr = some ⟨b, o, none⟩ := q1; rw [q1] at hg; cases hg; have := HQ2.out.2.1; show b2 ≠ b; omega))
            have HJ : Hid (OwnI V gz wo _ bl ol kl Z0 W1) := hid (by rw [← hW1]; exact HJ0)
            clear hW1 HJ0
            go_wp2_with fail
            go_roundw
            case rel => exact ⟨j + 1, by go_num, (show Hid _ from ⟨HLT.out, HJ.out⟩)⟩
            case measure => have := HLT.out; simp [intOf]; omega
          · have hjk : wo.tk = j := by have := hS.out.1; omega
            subst hjk
            have tc : decide (wo.tk < wo.tk) = false := by simp
            have c0 : wr.cell? ⟨gz, 0, none⟩ = some (.slice nt wo.tk ntc) := HI.out.box.cell 0
            have c6 : wr.cell? ⟨gz, 6, none⟩ = some (.slice np wo.ps.k npc) := HI.out.box.cell 6
            clear hS
            go_upto_region 15 with fail
            go_loopw [13] (fun s wr => ∃ j : Nat, s = .int .i64 (j : Int) ∧ Hid (j ≤ wo.ps.k ∧ OwnI V gz wo ⟨nt, ntc, np, npc, nr, nrc⟩ bl ol kl Z0 wr)) (fun s _ => wo.ps.k - (intOf s).toNat)
            case atStart => exact ⟨0, rfl, (show Hid _ from ⟨Nat.zero_le _, HI.out⟩)⟩
            case round =>
              obtain ⟨j, rfl, hS⟩ := hrel
              rename World => wr
              have j0 : (0 : Int) ≤ (j : Int) := by omega
              have HI := hid hS.out.2
              by_cases hlt : j < wo.ps.k
              · have tc : decide (j < wo.ps.k) = true := by simp [hlt]
                have j1 : (j : Int) < (wo.ps.k : Int) := by omega
                have HLT := hid hlt
                obtain ⟨b3, o3, q1, q2, q3⟩ := HI.out.p (by omega)
                have q1 : np = some ⟨b3, o3, none⟩ := q1
                subst q1
                have c6 : wr.cell? ⟨gz, 6, none⟩ = some (.slice (some ⟨b3, o3, none⟩) wo.ps.k npc) := HI.out.box.cell 6
                have HQ3 := hid q2
                have HTH := hid (q3 j hlt)
                clear hlt q2 q3
                have hth := HTH.out
                have tks : True := trivial
                go_upto_region 16 with (clear tks; refine wpList_store_mid rfl 40 _ _ rfl b3 (o3 + j * 6) #[.int .i64 9, .int .i64 0, .int .u64 0, .string ⟨#[]⟩, .slice none 0 0, .bool false] (by rfl) (by rfl) hth (by kernel_rfl) (by simp [Value.oneCell']) ?_)
                clear hth
                generalize hW1 : World.setCells _ _ _ _ = W1
                have HJ := hid (hW1 ▸ HI.out.set b3 (o3 + j * 6) (#[.int .i64 9, .int .i64 0, .int .u64 0, .string ⟨#[]⟩, .slice none 0 0, .bool false] : Array Value).toList HQ3.out.1 HQ3.out.2.2 (fun h0 g hg => by obtain ⟨b, o, q1, q2, _⟩ := HI.out.r h0; have q1 : nr = some ⟨b, o, none⟩ := q1; rw [q1] at hg; cases hg; have := HQ3.out.2.1; show b3 ≠ b; omega))
                clear hW1
                go_wp2_with fail
                go_roundw
                case rel => exact ⟨j + 1, by go_num, (show Hid _ from ⟨HLT.out, HJ.out⟩)⟩
                case measure => have := HLT.out; simp [intOf]; omega
              · have hjk : wo.ps.k = j := by have := hS.out.1; omega
                subst hjk
                have tc : decide (wo.ps.k < wo.ps.k) = false := by simp
                have c7 : wr.cell? ⟨gz, 7, none⟩ = some (.slice nr wo.rk nrc) := HI.out.box.cell 7
                have c6 : wr.cell? ⟨gz, 6, none⟩ = some (.slice np wo.ps.k npc) := HI.out.box.cell 6
                clear hS
                go_upto_region 19 with fail
                go_loopw [14] (fun s wr => ∃ j : Nat, s = .int .i64 (j : Int) ∧ Hid (j ≤ wo.rk ∧ OwnI V gz wo ⟨nt, ntc, np, npc, nr, nrc⟩ bl ol kl Z0 wr)) (fun s _ => wo.rk - (intOf s).toNat)
                case atStart => exact ⟨0, rfl, (show Hid _ from ⟨Nat.zero_le _, HI.out⟩)⟩
                case round =>
                  obtain ⟨j, rfl, hS⟩ := hrel
                  rename World => wr
                  have j0 : (0 : Int) ≤ (j : Int) := by omega
                  have HI := hid hS.out.2
                  by_cases hlt : j < wo.rk
                  · have tc : decide (j < wo.rk) = true := by simp [hlt]
                    have j1 : (j : Int) < (wo.rk : Int) := by omega
                    have HLT := hid hlt
                    have c7 : wr.cell? ⟨gz, 7, none⟩ = some (.slice nr wo.rk nrc) := HI.out.box.cell 7
                    clear hlt
                    go_upto_region 22 with fail
                    clear c7
                    go_loopw [15] (fun s wr => ∃ x : Nat, s = .int .i64 (x : Int) ∧ Hid (x ≤ (wo.rs j).k ∧ OwnI V gz wo ⟨nt, ntc, np, npc, nr, nrc⟩ bl ol kl Z0 wr)) (fun s _ => (wo.rs j).k - (intOf s).toNat)
                    case atStart => exact ⟨0, rfl, (show Hid _ from ⟨Nat.zero_le _, HI.out⟩)⟩
                    case round =>
                      clear HI hS
                      obtain ⟨x, rfl, hS⟩ := hrel
                      rename World => wr
                      have x0 : (0 : Int) ≤ (x : Int) := by omega
                      have HI := hid hS.out.2
                      obtain ⟨b4, o4, q1, q2, q2b, q3⟩ := HI.out.r (by have := HLT.out; omega)
                      have q1 : nr = some ⟨b4, o4, none⟩ := q1
                      subst q1
                      obtain ⟨Ai, ci, c1, c2⟩ := q3 j HLT.out
                      have c7 : wr.cell? ⟨gz, 7, none⟩ = some (.slice (some ⟨b4, o4, none⟩) wo.rk nrc) := HI.out.box.cell 7
                      have HC2 := hid c2
                      have kxb : ((wo.rs j).k : Int) ≤ 4 := by have := HWK.out.2.2.2 j HLT.out; omega
                      clear q2 q2b q3 c2
                      by_cases hxl : x < (wo.rs j).k
                      · have tx : decide (x < (wo.rs j).k) = true := by simp [hxl]
                        have x1 : (x : Int) < ((wo.rs j).k : Int) := by omega
                        obtain ⟨bi, oi, e1, e2, e3⟩ := HC2.out (by omega)
                        subst e1
                        have HE2 := hid e2
                        have HXL := hid hxl
                        have HTH := hid (e3 x hxl)
                        clear hxl e2 e3
                        have hth := HTH.out
                        have tks : True := trivial
                        go_upto_region 23 with (clear tks; refine wpList_store_mid rfl 40 _ _ rfl bi (oi + x * 6) #[.int .i64 9, .int .i64 0, .int .u64 0, .string ⟨#[]⟩, .slice none 0 0, .bool false] (by rfl) (by rfl) hth (by kernel_rfl) (by simp [Value.oneCell']) ?_)
                        clear hth
                        generalize hW1 : World.setCells _ _ _ _ = W1
                        have HJ := hid (hW1 ▸ HI.out.set bi (oi + x * 6) (#[.int .i64 9, .int .i64 0, .int .u64 0, .string ⟨#[]⟩, .slice none 0 0, .bool false] : Array Value).toList HE2.out.1 HE2.out.2.1 (fun h0 g hg => by cases hg; exact HE2.out.2.2))
                        clear hW1
                        go_wp2_with fail
                        go_roundw
                        case rel => exact ⟨x + 1, by go_num, (show Hid _ from ⟨HXL.out, HJ.out⟩)⟩
                        case measure => have := HXL.out; simp [intOf]; omega
                      · have hxk : x = (wo.rs j).k := by have := hS.out.1; omega
                        subst hxk
                        have tx : decide ((wo.rs j).k < (wo.rs j).k) = false := by simp
                        go_wp2_with fail
                        go_roundw
                        case rel => exact ⟨j + 1, by go_num, (show Hid _ from ⟨HLT.out, HI.out⟩)⟩
                        case measure => have := HLT.out; simp [intOf]; omega
                  · have hjk : wo.rk = j := by have := hS.out.1; omega
                    subst hjk
                    have tc : decide (wo.rk < wo.rk) = false := by simp
                    have c7 : wr.cell? ⟨gz, 7, none⟩ = some (.slice nr wo.rk nrc) := HI.out.box.cell 7
                    have HBF := hid (HB0.out.ext HI.out.ext)
                    have HVF := hid HI.out.ext
                    have KBF := hid (KBZ.out wr HI.out.ext)
                    have tk6 : True := trivial
                    clear hS
                    go_wp2_with (first | (clear tk6; refine wpList_row (by rfl) 29 _ rfl _ rfl HBF.out Try.underlying29 rfl (by kernel_rfl) ?_) | (go_at_call 21; refine KBF.out.mono ?_; rintro x w9 ⟨rfl, hb9⟩; have H9 := hid hb9; clear hb9))
                    go_ret
                    exact Ret.mk (by first | rfl | simp) ((HE.out.trans HVF.out).trans H9.out)
end Go.Proofs.Ytogjghmoankleaa


namespace Go.Proofs.Ytogjghmoankleaa
open Go.ChangeShapes Go.WideShapes Go.ChangeAt Go.RowKit Go.Deep
set_option linter.unusedVariables false
set_option linter.unusedSimpArgs false

section
variable {H : Type} {enc : TypeId × Value → H} {w : World} {base b0 : Nat} {spare : Nat → Bool} {held : Bool} {r : Reach}
set_option maxRecDepth 100000 in
theorem trod_eid {fuel : Nat} {cs : List Value} {x : DataW H × List MemPlace} (h : DataW.trod enc Try.prog w base spare held fuel 26 cs = some x) :
    ∃ e : EV, cs = [.int .i64 e.sch, str e.name, .int .u64 (e.node : Int), .int .u64 (e.svc : Int)] ∧ e.node < 18446744073709551616 ∧ e.svc < 18446744073709551616 ∧ (-9223372036854775808 ≤ e.sch ∧ e.sch ≤ 9223372036854775807) := by
  obtain ⟨ys, n', hn', hy, hlen, hyl, hfl⟩ := DataW.trod_struct Try.underlying26 h
  match cs, hlen with
  | [c0, c1, c2, c3], _ =>
    have h0 := field_at (by kernel_rfl) hfl (i := 0) rfl rfl
    have h1 := field_at (by kernel_rfl) hfl (i := 1) rfl rfl
    have h2 := field_at (by kernel_rfl) hfl (i := 2) rfl rfl
    have h3 := field_at (by kernel_rfl) hfl (i := 3) rfl rfl
    clear hfl h
    match ys, hyl with
    | [y0, y1, y2, y3], _ =>
      obtain ⟨sch, e0, _, w0⟩ := DataW.trod_int (k := .i64) (by kernel_rfl) h0
      obtain ⟨s, e1, _, _⟩ := DataW.trod_string (by kernel_rfl) h1
      obtain ⟨a, e2, _, w2⟩ := DataW.trod_int (k := .u64) (by kernel_rfl) h2
      obtain ⟨b, e3, _, w3⟩ := DataW.trod_int (k := .u64) (by kernel_rfl) h3
      have q0 : c0 = .int .i64 sch := by have : [c0] = [Value.int .i64 sch] := e0; simpa using this
      have q1 : c1 = .string s := by have : [c1] = [Value.string s] := e1; simpa using this
      have q2 : c2 = .int .u64 a := by have : [c2] = [Value.int .u64 a] := e2; simpa using this
      have q3 : c3 = .int .u64 b := by have : [c3] = [Value.int .u64 b] := e3; simpa using this
      subst q0 q1 q2 q3
      have b0 : -9223372036854775808 ≤ sch ∧ sch ≤ 9223372036854775807 := by simpa [Lit.wf, IntKind.min, IntKind.max, IntKind.signed, IntKind.bits] using w0
      have b2 : 0 ≤ a ∧ a ≤ 18446744073709551615 := by simpa [Lit.wf, IntKind.min, IntKind.max, IntKind.signed, IntKind.bits] using w2
      have b3 : 0 ≤ b ∧ b ≤ 18446744073709551615 := by simpa [Lit.wf, IntKind.min, IntKind.max, IntKind.signed, IntKind.bits] using w3
      obtain ⟨a, rfl⟩ := Int.eq_ofNat_of_zero_le b2.1
      obtain ⟨b, rfl⟩ := Int.eq_ofNat_of_zero_le b3.1
      exact ⟨⟨sch, s.data.toList, a, b⟩, rfl, by show a < _; omega, by show b < _; omega, b0⟩

set_option maxRecDepth 100000 in
theorem open_eid {v : Value} {d : DataW H} {p : List MemPlace} (hval : Value.okWide Try.prog w r b0 26 v) (h : DataW.Trod enc Try.prog w base spare held 26 v d p) :
    ∃ e : EV, v = e.v ∧ e.node < 18446744073709551616 ∧ e.svc < 18446744073709551616 ∧ (-9223372036854775808 ≤ e.sch ∧ e.sch ≤ 9223372036854775807) := by
  obtain ⟨cs, rfl, hsz⟩ := okWide_struct Try.underlying26 hval
  obtain ⟨fuel, hf⟩ := h
  have hcs : (Value.agg cs).cells.toList = cs.toList := rfl
  rw [hcs] at hf
  obtain ⟨e, he, h1, h2, h3⟩ := trod_eid hf
  refine ⟨e, ?_, h1, h2, h3⟩
  have : cs = (cs.toList).toArray := by simp
  rw [this, he]
theorem okWide_arr {P : Program} {t e : TypeId} {n : Nat} {v : Value} (ht : P.underlying t = some (.array n e)) (h : Value.okWide P w r base t v) : ∃ cs, v = .agg cs ∧ cs.size = P.cellsOf t := by
  simp only [Value.okWide, ht] at h
  obtain ⟨cs, h1, h2, _⟩ := h
  exact ⟨cs, h1, h2⟩
theorem two_ints {P : Program} {t e : TypeId} {k : IntKind} {fuel : Nat} {c0 c1 : Value} {x : DataW H × List MemPlace} (ht : P.underlying t = some (.array 2 e)) (he : P.underlying e = some (.int k)) (hC : P.cellsOf e = 1)
    (h : DataW.trod enc P w base spare held fuel t [c0, c1] = some x) : ∃ a b, c0 = .int k a ∧ c1 = .int k b ∧ (Lit.int k a).wf = true ∧ (Lit.int k b).wf = true := by
  obtain ⟨xs, m, _, _, _, hlen, hg⟩ := DataW.trod_array ht h
  have h0 := hg 0 (by omega)
  have h1 := hg 1 (by omega)
  rw [hC] at h0 h1
  match xs, hlen with
  | [y0, y1], _ =>
    obtain ⟨a, ha, _, hwa⟩ := DataW.trod_int (k := k) he h0
    obtain ⟨b, hb, _, hwb⟩ := DataW.trod_int (k := k) he h1
    exact ⟨a, b, by simpa using ha, by simpa using hb, hwa, hwb⟩
end
end Go.Proofs.Ytogjghmoankleaa


namespace Go.Proofs.Ytogjghmoankleaa
open Go.ChangeShapes Go.WideShapes Go.ChangeAt Go.RowKit Go.Deep
set_option linter.unusedVariables false
set_option linter.unusedSimpArgs false

/-- What every slice's shape obeys. -/
def SlA (A : Option Addr) (k c : Nat) : Prop := (A = none → k = 0 ∧ c = 0) ∧ k ≤ c ∧ c ≤ maxLen
def EV.wf (e : EV) : Prop := (-9223372036854775808 ≤ e.sch ∧ e.sch ≤ 9223372036854775807) ∧ e.node < 18446744073709551616 ∧ e.svc < 18446744073709551616
def PV.wf (p : PV) : Prop := p.fl < 18446744073709551616 ∧ (-9223372036854775808 ≤ p.crc ∧ p.crc ≤ 9223372036854775807) ∧ p.d.wf ∧ p.s.wf ∧ p.r.wf ∧ p.t < 18446744073709551616 ∧ p.q < 18446744073709551616 ∧ p.l < 18446744073709551616 ∧ p.o < 18446744073709551616 ∧ p.n < 18446744073709551616
def BV.wf (b : BV) : Prop := (-9223372036854775808 ≤ b.ty ∧ b.ty ≤ 9223372036854775807) ∧ (-9223372036854775808 ≤ b.num ∧ b.num ≤ 9223372036854775807) ∧ b.fl < 18446744073709551616 ∧ (-9223372036854775808 ≤ b.crc ∧ b.crc ≤ 9223372036854775807)
section
variable {H : Type} {enc : TypeId × Value → H} {w : World} {base b0 : Nat} {spare : Nat → Bool} {held : Bool} {r : Reach}
theorem fldB {P : Program} {n k : Nat} {ty : TypeId} {l : List Value} {off : Nat} {y : Option (DataW H × List MemPlace)} (hk : P.cellsOf ty = k) (h : DataW.trod enc P w base spare held n ty ((l.drop off).take (P.cellsOf ty)) = y) : DataW.trod enc P w base spare held n ty ((l.drop off).take k) = y := by rw [hk] at h; exact h
set_option maxRecDepth 100000 in
theorem trod_priC {fuel : Nat} {L : List Value} {x : DataW H × List MemPlace} (h : DataW.trod enc Try.prog w base spare held fuel 68 L = some x) : ∃ p : PV, L = p.c.toList ∧ p.wf := by
  obtain ⟨ys, n', hn', hy, hlen, hyl, hfl⟩ := DataW.trod_struct Try.underlying68 h
  clear h
  have k1 : Try.prog.cellsOf 24 = 1 := by kernel_rfl
  have k2 : Try.prog.cellsOf 3 = 1 := by kernel_rfl
  have k3 : Try.prog.cellsOf 26 = 4 := by kernel_rfl
  match L, hlen with
  | [c0, c1, c2, c3, c4, c5, c6, c7, c8, c9, c10, c11, c12, c13, c14, c15, c16, c17, c18], _ =>
    match ys, hyl with
    | [y0, y1, y2, y3, y4, y5, y6, y7, y8, y9], _ =>
      have h0 : DataW.trod enc Try.prog w base spare held n' 24 [c0] = some y0 := fldB k1 (hfl 0 _ rfl)
      have h1 : DataW.trod enc Try.prog w base spare held n' 3 [c1] = some y1 := fldB k2 (hfl 1 _ rfl)
      have h2 : DataW.trod enc Try.prog w base spare held n' 26 [c2, c3, c4, c5] = some y2 := fldB k3 (hfl 2 _ rfl)
      have h3 : DataW.trod enc Try.prog w base spare held n' 26 [c6, c7, c8, c9] = some y3 := fldB k3 (hfl 3 _ rfl)
      have h4 : DataW.trod enc Try.prog w base spare held n' 26 [c10, c11, c12, c13] = some y4 := fldB k3 (hfl 4 _ rfl)
      have h5 : DataW.trod enc Try.prog w base spare held n' 24 [c14] = some y5 := fldB k1 (hfl 5 _ rfl)
      have h6 : DataW.trod enc Try.prog w base spare held n' 24 [c15] = some y6 := fldB k1 (hfl 6 _ rfl)
      have h7 : DataW.trod enc Try.prog w base spare held n' 24 [c16] = some y7 := fldB k1 (hfl 7 _ rfl)
      have h8 : DataW.trod enc Try.prog w base spare held n' 24 [c17] = some y8 := fldB k1 (hfl 8 _ rfl)
      have h9 : DataW.trod enc Try.prog w base spare held n' 24 [c18] = some y9 := fldB k1 (hfl 9 _ rfl)
      clear hfl
      obtain ⟨z1, e1, _, w1⟩ := DataW.trod_int (k := .i64) (by kernel_rfl) h1
      have b1 : -9223372036854775808 ≤ z1 ∧ z1 ≤ 9223372036854775807 := by simpa [Lit.wf, IntKind.min, IntKind.max, IntKind.signed, IntKind.bits] using w1
      obtain ⟨E2, e2, n2, s2, x2⟩ := trod_eid h2
      obtain ⟨E3, e3, n3, s3, x3⟩ := trod_eid h3
      obtain ⟨E4, e4, n4, s4, x4⟩ := trod_eid h4
      obtain ⟨z0, e0, _, w0⟩ := DataW.trod_int (k := .u64) (by kernel_rfl) h0
      have b0 : 0 ≤ z0 ∧ z0 ≤ 18446744073709551615 := by simpa [Lit.wf, IntKind.min, IntKind.max, IntKind.signed, IntKind.bits] using w0
      obtain ⟨z0, rfl⟩ := Int.eq_ofNat_of_zero_le b0.1
      obtain ⟨z5, e5, _, w5⟩ := DataW.trod_int (k := .u64) (by kernel_rfl) h5
      have b5 : 0 ≤ z5 ∧ z5 ≤ 18446744073709551615 := by simpa [Lit.wf, IntKind.min, IntKind.max, IntKind.signed, IntKind.bits] using w5
      obtain ⟨z5, rfl⟩ := Int.eq_ofNat_of_zero_le b5.1
      obtain ⟨z6, e6, _, w6⟩ := DataW.trod_int (k := .u64) (by kernel_rfl) h6
      have b6 : 0 ≤ z6 ∧ z6 ≤ 18446744073709551615 := by simpa [Lit.wf, IntKind.min, IntKind.max, IntKind.signed, IntKind.bits] using w6
      obtain ⟨z6, rfl⟩ := Int.eq_ofNat_of_zero_le b6.1
      obtain ⟨z7, e7, _, w7⟩ := DataW.trod_int (k := .u64) (by kernel_rfl) h7
      have b7 : 0 ≤ z7 ∧ z7 ≤ 18446744073709551615 := by simpa [Lit.wf, IntKind.min, IntKind.max, IntKind.signed, IntKind.bits] using w7
      obtain ⟨z7, rfl⟩ := Int.eq_ofNat_of_zero_le b7.1
      obtain ⟨z8, e8, _, w8⟩ := DataW.trod_int (k := .u64) (by kernel_rfl) h8
      have b8 : 0 ≤ z8 ∧ z8 ≤ 18446744073709551615 := by simpa [Lit.wf, IntKind.min, IntKind.max, IntKind.signed, IntKind.bits] using w8
      obtain ⟨z8, rfl⟩ := Int.eq_ofNat_of_zero_le b8.1
      obtain ⟨z9, e9, _, w9⟩ := DataW.trod_int (k := .u64) (by kernel_rfl) h9
      have b9 : 0 ≤ z9 ∧ z9 ≤ 18446744073709551615 := by simpa [Lit.wf, IntKind.min, IntKind.max, IntKind.signed, IntKind.bits] using w9
      obtain ⟨z9, rfl⟩ := Int.eq_ofNat_of_zero_le b9.1
      simp only [List.cons.injEq, and_true] at e0 e1 e2 e3 e4 e5 e6 e7 e8 e9
      obtain ⟨rfl, rfl, rfl, rfl⟩ := e2
      obtain ⟨rfl, rfl, rfl, rfl⟩ := e3
      obtain ⟨rfl, rfl, rfl, rfl⟩ := e4
      subst e0 e1 e5 e6 e7 e8 e9
      exact ⟨⟨z0, z1, E2, E3, E4, z5, z6, z7, z8, z9⟩, rfl, by show z0 < _; omega, b1, ⟨x2, n2, s2⟩, ⟨x3, n3, s3⟩, ⟨x4, n4, s4⟩, by show z5 < _; omega, by show z6 < _; omega, by show z7 < _; omega, by show z8 < _; omega, by show z9 < _; omega⟩
end
end Go.Proofs.Ytogjghmoankleaa
