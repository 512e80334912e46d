/-
  The law AsbParses: its walk.
-/
import Derived.Test.YtblfmokklfhklaaGreatDoorMAsbParsesCardj

namespace Go.Proofs.YtblfmokklfhklaaGreatDoor
open Go.RowKit
set_option linter.unusedVariables false
set_option linter.unusedSimpArgs false

theorem zeroA_wf : zeroA.wf := by
  refine ⟨⟨by show (0 : Nat) < 4611686018427387904; omega, fun i hi => absurd hi (Nat.not_lt_zero _)⟩, by show -9223372036854775808 ≤ (0 : Int) ∧ (0 : Int) ≤ 9223372036854775807; omega, by show (0 : Nat) < 4611686018427387904; omega, ⟨by show (0 : Nat) < 4611686018427387904; omega, fun i hi => absurd hi (Nat.not_lt_zero _)⟩, by show (0 : Nat) < 4611686018427387904; omega, fun i hi => absurd hi (Nat.not_lt_zero _)⟩
theorem zeroA_L (w : World) : AsL w anyQ zeroA zeroM := ⟨fun h => absurd h (Nat.lt_irrefl 0), fun _ _ _ h => absurd h (Nat.lt_irrefl 0), fun h => absurd h (Nat.lt_irrefl 0), fun h => absurd h (Nat.lt_irrefl 0)⟩
set_option maxRecDepth 20000 in
set_option maxHeartbeats 8000000 in
theorem asbParses_any (l : List UInt8) (hlm : l.length ≤ maxLen) (eb : Addr) (w : World) (hf : FormAt w eb) : Calls Tryz.prog 4 #[str l] w (Ret (.bool true) w) := by
  have HFO := hid (fun W (hW : Ext w W) => hf.ext hW)
  have l1 : (l.length : Int) ≤ 9223372036854775807 := by unfold maxLen at hlm; omega
  clear hf
  go_enter Tryz.func4, Tryz.ntmps4
  have tk0 : True := trivial
  by_cases hl : 600 < l.length
  · have u1a : decide ((600 : Int) < (l.length : Int)) = true := decide_eq_true (by omega)
    have u1b : ((600 : Int) < (l.length : Int)) = True := eq_true (by omega)
    have u2a : decide (600 < l.length) = true := decide_eq_true (by omega)
    have u2b : (600 < l.length) = True := eq_true (by omega)
    clear hl hlm
    go_wp2_with (first | (clear tk0; go_at_call 5; refine (Ret.laterW (Mod.refl [] w) (awake15_any _)).mono ?_; rintro x _ ⟨rfl, e, rfl⟩) | (go_at_call 5; refine (Ret.later (awake15_any _)).mono ?_; rintro x _ ⟨rfl, e, rfl⟩))
    go_ret
    exact Ret.mk rfl e.h
  have u1a : decide ((600 : Int) < (l.length : Int)) = false := decide_eq_false (by omega)
  have u1b : ((600 : Int) < (l.length : Int)) = False := eq_false (by omega)
  have u2a : decide (600 < l.length) = false := decide_eq_false (by omega)
  have u2b : (600 < l.length) = False := eq_false (by omega)
  have HL : Hid (l.length ≤ 10000) := hid (by omega)
  clear hl hlm
  by_cases hex : ∃ a, isAsb l a
  · have KP : Hid (∀ e : Later w, Calls Tryz.prog 10 #[str l] e.x (fun x w' => ∃ zc b m, Hid (asbC b m = zc) ∧ x = .returned (.tuple #[.agg zc, .int .i64 0]) ∧ Ext e.x w' ∧ Hid (isAsb l b) ∧ Hid (AsL w' anyQ b m))) := hid (fun e => (aparse_any l HL.out eb e.x (HFO.out _ e.h)).mono fun x w' h => by
      rcases h with ⟨h1, _⟩ | ⟨b, m, h1, _, h3, h4, h5, _⟩
      · obtain ⟨a, ha⟩ := hex; exact absurd ha (h1 a)
      · exact ⟨_, b, m, hid rfl, h3, h4, h1, h5⟩)
    have KQ : Hid (∀ W, Calls Tryz.prog 13 #[str l] W (fun x w' => ∃ zd c m, Hid (asbC c m = zd) ∧ x = .returned (.tuple #[.agg zd, .bool true]) ∧ Ext W w' ∧ Hid (∀ a, isAsb l a → a.Eqv c) ∧ Hid (AsL w' anyQ c m))) := hid (fun W => (r15parse_any l HL.out W).mono fun x w' h => by
      rcases h with ⟨h1, _⟩ | ⟨c, m, _, h2, h3, h4, h5⟩
      · obtain ⟨a, ha⟩ := hex; exact absurd ha (h1 a)
      · exact ⟨_, c, m, hid rfl, h3, h4, h2, h5⟩)
    clear hex
    have tk1 : True := trivial
    go_upto_region 4 with (first | (clear tk0; go_at_call 5; refine (Ret.laterW (Mod.refl [] w) (awake15_any _)).mono ?_; rintro x _ ⟨rfl, e, rfl⟩) | (go_at_call 10; refine (KP.out _).mono ?_; rintro x w2 ⟨zc, b, m, HZE, rfl, hb, HIS, HAL⟩; have HX := hid (e.h.trans hb); have HZC : Hid (ZC zc) := hid (by rw [← HZE.out]; exact ZC.mk' b m); clear hb) | (clear tk1; refine wpList_store_mid rfl 29 _ _ rfl w2.heap.size 0 zc (by rfl) (by rfl) ((Blk.new _ _ _).there (by rw [HZC.out.s]; exact Nat.le_refl 8)) HZC.out.i HZC.out.o ?_))
    generalize hV : World.setCells _ _ _ _ = V1
    have HXN : Hid (Ext w V1) := hid (by rw [← hV]; exact setCells_mod _ _ (HX.out.alloc _) (.inr HX.out.size))
    have HXW : Hid (Ext w2 V1) := hid (by rw [← hV]; exact setCells_mod _ _ ((Mod.refl [] w2).alloc _) (.inr (Nat.le_refl _)))
    have HBXV1 : Hid (Blk V1 w2.heap.size 29 zc) := hid (by rw [← hV]; exact setCells_all (ds := zc) (Blk.new _ _ _) (by rw [Array.length_toList, HZC.out.s]; rfl))
    have HEV := hid HXN.out
    have HALV := hid (HAL.out.ext HXW.out)
    clear hV HX HXN HXW HAL KP e
    generalize w2.heap.size = n2 at *
    obtain ⟨e, he⟩ := Later.self V1
    rw [he]
    clear he
    have tk2 : True := trivial
    go_upto_region 5 with (first | (go_at_call 13; refine (KQ.out _).mono ?_; rintro x w3 ⟨zd, c, m2, HZF, rfl, hb, HEQ, HAL2⟩; have HX := hid (e.h.trans hb); have HZD : Hid (ZC zd) := hid (by rw [← HZF.out]; exact ZC.mk' c m2); clear hb) | (clear tk2; refine wpList_store_mid rfl 29 _ _ rfl w3.heap.size 0 zd (by rfl) (by rfl) ((Blk.new _ _ _).there (by rw [HZD.out.s]; exact Nat.le_refl 8)) HZD.out.i HZD.out.o ?_))
    generalize hV : World.setCells _ _ _ _ = V2
    have HXN : Hid (Ext V1 V2) := hid (by rw [← hV]; exact setCells_mod _ _ (HX.out.alloc _) (.inr HX.out.size))
    have HXW : Hid (Ext w3 V2) := hid (by rw [← hV]; exact setCells_mod _ _ ((Mod.refl [] w3).alloc _) (.inr (Nat.le_refl _)))
    have HBXV2 : Hid (Blk V2 w3.heap.size 29 zd) := hid (by rw [← hV]; exact setCells_all (ds := zd) (Blk.new _ _ _) (by rw [Array.length_toList, HZD.out.s]; rfl))
    have HE2 := hid (HEV.out.trans HXN.out)
    have HE := hid (HEQ.out b HIS.out)
    have KS : Hid (∀ e : Later V2, Calls Tryz.prog 12 #[.agg zc, .agg zd] e.x (Ret (.bool true) e.x)) := hid (fun e => by
      have h := Same15_eq b HIS.out.1 m m2 e.x ((HALV.out.ext HXN.out).ext e.h) (((HAL2.out.ext HXW.out).ext e.h).eqv HE.out)
      rw [HE.out.val m2] at h
      rw [← HZE.out, ← HZF.out]
      exact h)
    have HR1 : Hid (∀ e : Later V2, Blk e.x n2 29 zc) := hid (fun e => (HBXV1.out.ext HXN.out).later e)
    have HR2 : Hid (∀ e : Later V2, Blk e.x w3.heap.size 29 zd) := hid (fun e => HBXV2.out.later e)
    clear hV HX HXN HXW HAL2 HALV KQ e HBXV1 HBXV2 HEQ HIS HE HZE HZF
    generalize w3.heap.size = n3 at *
    obtain ⟨e, he⟩ := Later.self V2
    rw [he]
    clear he
    have tk1 : True := trivial
    have tk2 : True := trivial
    go_wp2_with (first | (clear tk1; refine wpList_row (by rfl) 29 _ rfl _ rfl (HR1.out _) Tryz.underlying29 rfl HZC.out.i ?_) | (clear tk2; refine wpList_row (by rfl) 29 _ rfl _ rfl (HR2.out _) Tryz.underlying29 rfl HZD.out.i ?_) | (go_at_call 12; refine (Ret.later (KS.out _)).mono ?_; rintro x _ ⟨rfl, e, rfl⟩))
    go_ret
    exact Ret.mk rfl (HE2.out.trans e.h)
  · have KP : Hid (∀ e : Later w, Calls Tryz.prog 10 #[str l] e.x (fun x w' => ∃ zc, Hid (asbC zeroA zeroM = zc) ∧ x = .returned (.tuple #[.agg zc, .int .i64 2]) ∧ Ext e.x w')) := hid (fun e => (aparse_any l HL.out eb e.x (HFO.out _ e.h)).mono fun x w' h => by
      rcases h with ⟨_, h2, h3⟩ | ⟨b, m, h1, _⟩
      · exact ⟨_, hid rfl, h2, h3⟩
      · exact absurd ⟨b, h1⟩ hex)
    have KQ : Hid (∀ W, Calls Tryz.prog 13 #[str l] W (fun x w' => ∃ zd, Hid (asbC zeroA zeroM = zd) ∧ x = .returned (.tuple #[.agg zd, .bool false]) ∧ Ext W w')) := hid (fun W => (r15parse_any l HL.out W).mono fun x w' h => by
      rcases h with ⟨_, h2, h3⟩ | ⟨b, m, h1, _⟩
      · exact ⟨_, hid rfl, h2, h3⟩
      · exact absurd ⟨b, h1⟩ hex)
    clear hex
    have tk1 : True := trivial
    go_upto_region 4 with (first | (clear tk0; go_at_call 5; refine (Ret.laterW (Mod.refl [] w) (awake15_any _)).mono ?_; rintro x _ ⟨rfl, e, rfl⟩) | (go_at_call 10; refine (KP.out _).mono ?_; rintro x w2 ⟨zc, HZE, rfl, hb⟩; have HX := hid (e.h.trans hb); have HZC : Hid (ZC zc) := hid (by rw [← HZE.out]; exact ZC.mk' zeroA zeroM); clear hb) | (clear tk1; refine wpList_store_mid rfl 29 _ _ rfl w2.heap.size 0 zc (by rfl) (by rfl) ((Blk.new _ _ _).there (by rw [HZC.out.s]; exact Nat.le_refl 8)) HZC.out.i HZC.out.o ?_))
    generalize hV : World.setCells _ _ _ _ = V1
    have HXN : Hid (Ext w V1) := hid (by rw [← hV]; exact setCells_mod _ _ (HX.out.alloc _) (.inr HX.out.size))
    have HXW : Hid (Ext w2 V1) := hid (by rw [← hV]; exact setCells_mod _ _ ((Mod.refl [] w2).alloc _) (.inr (Nat.le_refl _)))
    have HBXV1 : Hid (Blk V1 w2.heap.size 29 zc) := hid (by rw [← hV]; exact setCells_all (ds := zc) (Blk.new _ _ _) (by rw [Array.length_toList, HZC.out.s]; rfl))
    have HEV := hid HXN.out
    clear hV HX HXN HXW KP e
    generalize w2.heap.size = n2 at *
    obtain ⟨e, he⟩ := Later.self V1
    rw [he]
    clear he
    have tk2 : True := trivial
    go_upto_region 5 with (first | (go_at_call 13; refine (KQ.out _).mono ?_; rintro x w3 ⟨zd, HZF, rfl, hb⟩; have HX := hid (e.h.trans hb); have HZD : Hid (ZC zd) := hid (by rw [← HZF.out]; exact ZC.mk' zeroA zeroM); clear hb) | (clear tk2; refine wpList_store_mid rfl 29 _ _ rfl w3.heap.size 0 zd (by rfl) (by rfl) ((Blk.new _ _ _).there (by rw [HZD.out.s]; exact Nat.le_refl 8)) HZD.out.i HZD.out.o ?_))
    generalize hV : World.setCells _ _ _ _ = V2
    have HXN : Hid (Ext V1 V2) := hid (by rw [← hV]; exact setCells_mod _ _ (HX.out.alloc _) (.inr HX.out.size))
    have HXW : Hid (Ext w3 V2) := hid (by rw [← hV]; exact setCells_mod _ _ ((Mod.refl [] w3).alloc _) (.inr (Nat.le_refl _)))
    have HBXV2 : Hid (Blk V2 w3.heap.size 29 zd) := hid (by rw [← hV]; exact setCells_all (ds := zd) (Blk.new _ _ _) (by rw [Array.length_toList, HZD.out.s]; rfl))
    have HE2 := hid (HEV.out.trans HXN.out)
    have KS : Hid (∀ e : Later V2, Calls Tryz.prog 12 #[.agg zc, .agg #[.slice none 0 0, .int .i64 0, .int .i64 0, .string ⟨#[]⟩, .int .u64 0, .int .u64 0, .slice none 0 0, .slice none 0 0]] e.x (Ret (.bool true) e.x)) := hid (fun e => by
      rw [← HZE.out]
      exact Same15_eq zeroA zeroA_wf zeroM zeroM e.x (zeroA_L _) (zeroA_L _))
    have HR1 : Hid (∀ e : Later V2, Blk e.x n2 29 zc) := hid (fun e => (HBXV1.out.ext HXN.out).later e)
    clear hV HX HXN HXW KQ e HBXV1 HBXV2 HZE HZF
    generalize w3.heap.size = n3 at *
    obtain ⟨e, he⟩ := Later.self V2
    rw [he]
    clear he
    have tk1 : True := trivial
    go_wp2_with (first | (clear tk1; refine wpList_row (by rfl) 29 _ rfl _ rfl (HR1.out _) Tryz.underlying29 rfl HZC.out.i ?_) | (go_at_call 12; refine (Ret.later (KS.out _)).mono ?_; rintro x _ ⟨rfl, e, rfl⟩))
    go_ret
    exact Ret.mk rfl (HE2.out.trans e.h)
end Go.Proofs.YtblfmokklfhklaaGreatDoor
