/-
  The reference's Get; the law KeysNew.
-/
import Derived.Test.YtmcehdinkghlfaaKeys6
namespace Go.Proofs.Ytmcehdinkghlfaa
open Go.RowKit Go.Shelf Go.Maps
set_option linter.unusedVariables false

theorem getR_hit {zs : List Key} {id : Int} {j : Nat} (hj : j < zs.length) (h : zs[j].1 = id) (hb : ∀ k (hk : k < j), zs[k].1 ≠ id) : getR zs id = (zs[j].2, 0) := by
  have : zs.find? (fun x => x.1 == id) = some zs[j] := by
    rw [List.find?_eq_some_iff_getElem]
    exact ⟨by simpa using h, j, hj, rfl, fun k hk => by simpa using hb k hk⟩
  unfold getR; rw [this]
theorem getR_miss {zs : List Key} {id : Int} (hb : ∀ k (hk : k < zs.length), zs[k].1 ≠ id) : getR zs id = ([], 6) := by
  have : zs.find? (fun x => x.1 == id) = none := by
    rw [List.find?_eq_none]
    intro x hx
    obtain ⟨k, hk, rfl⟩ := List.getElem_of_mem hx
    simpa using hb k hk
  unfold getR; rw [this]

set_option maxRecDepth 20000 in
set_option maxHeartbeats 800000 in
theorem RGet_any (node : Nat) (A : Option Addr) (zs : List Key) (cap : Nat) (gA : Option Addr) (gn gc : Nat) (id : Int) (hn : Hid (zs.length < 4611686018427387904)) (w : World) (hk : Hid (IsKeys w A zs)) :
    Calls Try.prog 14 #[.agg #[.int .u64 (node : Int), .slice A zs.length cap, .slice gA gn gc], .int .i64 id] w (Ret (.tuple #[str (getR zs id).1, .int .i64 (getR zs id).2]) w) := by
  have H0 : ∀ W, Ext (w.alloc (.cells #[.int .u64 (node : Int), .slice A zs.length cap, .slice gA gn gc] 43)) W → W.cell? ⟨w.heap.size, 1, none⟩ = some (.slice A zs.length cap) := fun W hW => (hW.cell (by simp) (by simp)).trans (by simp [go_sem])
  have HH := hid H0; clear H0
  go_enter Try.func14, Try.ntmps14
  go_wp2
  go_loopw [6] (fun s wr => ∃ j : Nat, j ≤ zs.length ∧ s = .int .i64 j ∧ Ext (w.alloc (.cells #[.int .u64 (node : Int), .slice A zs.length cap, .slice gA gn gc] 43)) wr ∧ Hid (∀ k (hk : k < j) (h : k < zs.length), zs[k].1 ≠ id)) (fun i _ => zs.length - (intOf i).toNat)
  case atStart => exact ⟨0, Nat.zero_le _, rfl, Mod.refl _ _, fun k h => absurd h (Nat.not_lt_zero _)⟩
  case round =>
    obtain ⟨j, hj, rfl, hE, hno⟩ := hrel
    have e1 := HH.out wr hE
    have hE0 : Ext w wr := ((Mod.refl [] w).alloc _).trans hE
    by_cases hlt : j < zs.length
    · obtain ⟨b, o, rfl, c0, c1⟩ := hk.out.cells hE0 hlt
      generalize hy : zs[j] = y at c0 c1
      obtain ⟨y0, y1⟩ := y
      have HY := hid hy; clear hy
      have hj1 : (0 : Int) ≤ (j : Int) := by omega
      have hj2 : (j : Int) < (zs.length : Int) := by omega
      have hj3 : (zs.length : Int) < 4611686018427387904 := by have := hn.out; omega
      have tj : decide (j < zs.length) = true := by simp [hlt]
      have HE := hid hE; clear hE
      cases e0 : (y0 == id)
      · have E0 := hid e0
        go_wp2
        go_roundw
        case rel =>
          refine ⟨j + 1, by omega, by go_num, HE.out, (show Hid _ from fun k hkj h => ?_)⟩
          by_cases ei : k = j
          · subst ei; rw [HY.out]; simpa using E0.out
          · exact hno.out k (by omega) h
        case measure => simp [intOf]; omega
      · have E0 := hid e0
        have hr : Hid (getR zs id = (y1, 0)) := by
          have := getR_hit hlt (id := id) (by rw [HY.out]; simpa using E0.out) (fun k hk => hno.out k hk (by omega))
          rw [HY.out] at this
          exact this
        go_wp2
        go_ret2
        rw [hr.out]
        exact Ret.mk rfl hE0
    · obtain rfl : j = zs.length := by omega
      have tj : decide (zs.length < zs.length) = false := by simp
      have hr : Hid (getR zs id = ([], 6)) := getR_miss (fun k hk => hno.out k hk hk)
      go_wp2
      go_ret2
      rw [hr.out]
      exact Ret.mk rfl hE0

set_option maxRecDepth 20000 in
set_option maxHeartbeats 1600000 in
theorem keysNew_walk (node : Nat) (A : Option Addr) (zs : List Key) (cap : Nat) (id : Int) (hid' : InI id) (hA0 : Hid (A = none → zs = [] ∧ cap = 0)) (hcap : Hid (zs.length ≤ cap)) (w : World) (hk : Hid (IsKeys w A zs)) :
    Calls Try.prog 4 #[.int .u64 (node : Int), .slice A zs.length cap, .int .i64 id] w (Ret (.bool true) w) := by
  go_enter Try.func4, Try.ntmps4
  go_wp2_with fail
  refine (awake20_any _).mono ?_; rintro e w1 ⟨rfl, hb1⟩
  go_wp2_with fail
  refine (Few_any A zs cap _ (hk.out.ext hb1)).mono ?_; rintro e w2 ⟨few, rfl, hfew, hb2⟩
  have hb02 := hb1.trans hb2
  cases few
  · go_wp2_with fail
    refine (awake20_any _).mono ?_; rintro e w3 ⟨rfl, hb3⟩
    go_wp2_with fail
    go_ret
    exact Ret.mk rfl (hb02.trans hb3)
  · have h12 := hid (hfew rfl)
    have HB := hid hb02
    have HI := hid hid'
    clear hfew hb1 hb2 hb02 hid'
    go_wp2_with fail
    refine (New_any node A zs cap hA0 hcap _ (hk.out.ext HB.out)).mono ?_; rintro e w3 hp
    by_cases hmay : May node zs
    · obtain ⟨s, m, rfl, hE, hs, hm, hst⟩ := hp.yes hmay
      have HM := hid hmay
      have HB3 := hid (HB.out.trans hE)
      have HST := hid hst
      clear hp hmay hE hst
      go_wp2_with fail
      refine (May_any node A zs cap (by have := h12.out; unfold Hid; omega) _ (hk.out.ext HB3.out)).mono ?_; rintro e w4 ⟨b, rfl, hbm, hb4⟩
      have hbt : b = true := hbm.2 HM.out
      subst hbt
      clear hbm
      have HB4 := hid (HB3.out.trans hb4)
      have HST4 := hid (HST.out.kept hb4)
      clear hb4
      go_wp2_with fail
      refine (Get_any s m 0 node zs _ id (by have := h12.out; unfold Hid; omega) _ (hid (HST4.out.kept ((Mod.refl _ _).alloc _)))).mono ?_; rintro e w5 ⟨rfl, hb5⟩
      have d0 : w5.cell? ⟨w4.heap.size, 0, none⟩ = some (.int .u64 (node : Int)) := (hb5.cell (by simp) (by simp)).trans (by simp [go_sem])
      have d1 : w5.cell? ⟨w4.heap.size, 1, none⟩ = some (.slice A zs.length cap) := (hb5.cell (by simp) (by simp)).trans (by simp [go_sem])
      have d2 : w5.cell? ⟨w4.heap.size, 2, none⟩ = some (.slice none 0 0) := (hb5.cell (by simp) (by simp)).trans (by simp [go_sem])
      have HB5 := hid ((HB4.out.alloc (.cells #[.int .u64 (node : Int), .slice A zs.length cap, .slice none 0 0] 43)).trans hb5)
      have HST5 := hid ((HST4.out.kept ((Mod.refl _ _).alloc _)).kept hb5)
      clear hb5
      go_wp2_with fail
      refine (RGet_any node A zs cap none 0 0 id (by have := h12.out; unfold Hid; omega) _ (hk.out.ext HB5.out)).mono ?_; rintro e w6 ⟨rfl, hb6⟩
      have HST6 := hid (HST5.out.kept hb6)
      go_wp2_with fail
      refine (Used_any s m 0 node zs _ id HI _ HST6).mono ?_; rintro e w7 ⟨rfl, hb7⟩
      go_wp2_with fail
      go_ret
      exact Ret.mk rfl ((HB5.out.trans hb6).trans hb7)
    · obtain ⟨hE, hno, _⟩ := hp
      obtain rfl := hno hmay
      have HM := hid hmay
      have HB3 := hid (HB.out.trans hE)
      clear hno hmay hE
      go_wp2_with fail
      refine (May_any node A zs cap (by have := h12.out; unfold Hid; omega) _ (hk.out.ext HB3.out)).mono ?_; rintro e w4 ⟨b, rfl, hbm, hb4⟩
      have hbt : b = false := by
        cases b
        · rfl
        · exact absurd (hbm.1 rfl) HM.out
      subst hbt
      clear hbm
      go_wp2_with fail
      go_ret
      exact Ret.mk rfl (HB3.out.trans hb4)
end Go.Proofs.Ytmcehdinkghlfaa
