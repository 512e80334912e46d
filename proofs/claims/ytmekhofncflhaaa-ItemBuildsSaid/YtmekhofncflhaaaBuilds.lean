/-
  The law ItemBuilds: its walk.
-/
import Derived.Test.YtmekhofncflhaaaCut
namespace Go.Proofs.Ytmekhofncflhaaa
open Go.RowKit
set_option linter.unusedVariables false

theorem parseR_bytes {x : T} (hx : x.right 8 = true) (hox : x.ok) : parseR x.bytes = (x.bytes.length, 0) := by
  have h := flt_bytes x 8 hx hox []
  rw [List.append_nil] at h
  unfold parseR
  rw [h]
  rw [if_neg (by rintro ⟨_, h⟩; exact Nat.lt_irrefl _ h)]

set_option maxRecDepth 20000 in
set_option maxHeartbeats 1600000 in
theorem itemBuilds_walk (a : T) (hoa : a.ok) (A : Option Addr) (c : Nat) (w : World) (ha : IsL w (fun _ => True) a A) :
    Calls Try.prog 11 #[itemV a A c] w (Ret (.bool true) w) := by
  have H := hid ha; have HO := hid hoa
  have HB := hid (Blk.new w 34 (itemC a A c))
  have HE0 := hid ((Mod.refl [] w).alloc (.cells (itemC a A c) 34))
  have HBV : Hid (a.right 8 = true → buildV a = .tuple #[str a.bytes, .int .i64 0]) := fun h => by rw [buildV, h]; rfl
  have HBN : Hid (a.right 8 = false → buildV a = .tuple #[str [], .int .i64 1]) := fun h => by rw [buildV, h]; rfl
  clear ha hoa
  go_enter Try.func11, Try.ntmps11
  go_wp2_with fail
  refine (awake2_any _).mono ?_
  rintro e w1 ⟨rfl, hb1⟩
  have HE1 := hid (HE0.out.trans hb1)
  have HB1 := hid (HB.out.ext hb1)
  obtain ⟨x0, x1, x2, x3, x4⟩ := cells5 HB1.out
  clear hb1
  go_wp2_with fail
  refine (iFew_any a 2000 (by omega) HO.out A c _ (H.out.ext HE1.out)).mono ?_
  rintro e w2 ⟨rfl, hb2⟩
  have HE2 := hid (HE1.out.trans hb2)
  have HB2 := hid (HB1.out.ext hb2)
  clear hb2 x0 x1 x2 x3 x4
  cases hfa : few a 2000
  · clear hfa
    go_wp2_with fail
    refine (awake2_any _).mono ?_
    rintro e w3 ⟨rfl, hb3⟩
    go_wp2_with fail
    go_ret
    exact Ret.mk rfl (HE2.out.trans hb3)
  have HFA := hid (few_size hfa)
  have HS : Hid (a.size ≤ 100000) := Nat.le_trans HFA.out.1 (by omega)
  clear hfa
  obtain ⟨x0, x1, x2, x3, x4⟩ := cells5 HB2.out
  go_wp2_with fail
  refine (rRight_any a HO.out A c _ (H.out.ext HE2.out)).mono ?_
  rintro e w3 ⟨rfl, hb3⟩
  have HE3 := hid (HE2.out.trans hb3)
  have HB3 := hid (HB2.out.ext hb3)
  clear hb3 x0 x1 x2 x3 x4
  obtain ⟨x0, x1, x2, x3, x4⟩ := cells5 HB3.out
  go_wp2_with fail
  refine (iBuild_any a HO.out HS.out A c _ (H.out.ext HE3.out)).mono ?_
  rintro e w4 ⟨rfl, hb4⟩
  have HE4 := hid (HE3.out.trans hb4)
  have HB4 := hid (HB3.out.ext hb4)
  clear hb4 x0 x1 x2 x3 x4
  obtain ⟨x0, x1, x2, x3, x4⟩ := cells5 HB4.out
  cases hra : a.right 8
  · have HRA := hid hra
    rw [HBN.out hra]
    clear hra
    go_wp2_with fail
    refine (iRight_any a HO.out A c _ (H.out.ext HE4.out)).mono ?_
    rintro e w5 ⟨rfl, hb5⟩
    rw [HRA.out]
    have HE5 := hid (HE4.out.trans hb5)
    have HB5 := hid (HB4.out.ext hb5)
    clear hb5 x0 x1 x2 x3 x4
    obtain ⟨x0, x1, x2, x3, x4⟩ := cells5 HB5.out
    go_wp2_with fail
    refine (Same_any a a HO.out HO.out A A c c _ (H.out.ext HE5.out) (H.out.ext HE5.out)).mono ?_
    rintro e w6 ⟨rfl, hb6⟩
    rw [HRA.out]
    have HE6 := hid (HE5.out.trans hb6)
    clear hb6 x0 x1 x2 x3 x4
    go_wp2_with fail
    go_ret
    exact Ret.mk rfl HE6.out
  · have HRA := hid hra
    rw [HBV.out hra]
    clear hra
    have HPA := hid (right_plain HRA.out)
    have HSS := hid (T.same_refl a)
    go_wp2_with fail
    refine (iRight_any a HO.out A c _ (H.out.ext HE4.out)).mono ?_
    rintro e w5 ⟨rfl, hb5⟩
    rw [HRA.out]
    have HE5 := hid (HE4.out.trans hb5)
    have HB5 := hid (HB4.out.ext hb5)
    clear hb5 x0 x1 x2 x3 x4
    obtain ⟨x0, x1, x2, x3, x4⟩ := cells5 HB5.out
    go_wp2_with fail
    refine (Same_any a a HO.out HO.out A A c c _ (H.out.ext HE5.out) (H.out.ext HE5.out)).mono ?_
    rintro e w6 ⟨rfl, hb6⟩
    rw [HRA.out, HSS.out]
    have HE6 := hid (HE5.out.trans hb6)
    have HB6 := hid (HB5.out.ext hb6)
    have HL2 : Hid (a.bytes.length ≤ 1073741824) := by have := T.bytes_le a; have := HS.out; unfold Hid; omega
    have HP := hid (parseR_bytes HRA.out HO.out)
    clear hb6 x0 x1 x2 x3 x4
    go_upto_region 9 with fail
    go_cut [6, 7, 8] (fun s6 s7 s8 wx => ∃ X t B d, s6 = .pointer (some ⟨X, 0, none⟩) ∧ s7 = .int .i64 (-1) ∧ s8 = .int .i64 0 ∧ Hid (Ext w wx ∧ Blk wx X 34 (itemC t B d) ∧ Blk wx w.heap.size 34 (itemC a A c) ∧ (t.right 8 = true ∧ t.ok) ∧ t.bytes = a.bytes ∧ IsL wx (fun _ => True) t B))
    case first =>
      go_wp2_with fail
      refine (parse_any a.bytes HL2 _).mono ?_
      rintro e w7 ⟨hb7, hPP⟩
      rw [HP.out] at hPP
      obtain ⟨h0, _⟩ | ⟨_, t, B, d, rfl, h1, h2, h3⟩ := hPP
      case inl => exact absurd rfl h0
      have HE7 := hid (HE6.out.trans hb7)
      have HB7 := hid (HB6.out.ext hb7)
      have H3 := hid (show (t.right 8 = true ∧ t.ok) ∧ t.bytes = a.bytes ∧ IsL w7 (fun _ => True) t B from ⟨h1, h2, h3⟩)
      clear hb7 h1 h2 h3
      go_wp2_with fail
      go_meet
      exact ⟨_, t, B, d, rfl, rfl, rfl, HE7.out.alloc _, Blk.new _ _ _, HB7.out.alloc _, H3.out.1, H3.out.2.1, H3.out.2.2.ext ((Mod.refl _ _).alloc _)⟩
    obtain ⟨X, t, B, d, rfl, rfl, rfl, hH⟩ := hcut
    have HPT := hid (right_plain hH.out.2.2.2.1.1)
    have HST : Hid (t.size ≤ 100000) := by have h := T.size_le t HPT.out; rw [hH.out.2.2.2.2.1] at h; have := T.bytes_le a; have := HFA.out.1; unfold Hid; omega
    have HSM : Hid (a.same t = true) := by unfold Hid; rw [same_law HO.out hH.out.2.2.2.1.2 HRA.out hH.out.2.2.2.1.1, hH.out.2.2.2.2.1]; simp
    obtain ⟨x0, x1, x2, x3, x4⟩ := cells5 hH.out.2.2.1
    obtain ⟨y0, y1, y2, y3, y4⟩ := cells5 hH.out.2.1
    go_wp2_with fail
    refine (rBytesI_any a HO.out HPA.out HS.out A c _ (H.out.ext hH.out.1)).mono ?_
    rintro e w8 ⟨rfl, hb8⟩
    have HE8 := hid (hH.out.1.trans hb8)
    have HX8 := hid (hH.out.2.1.ext hb8)
    have HB8 := hid (hH.out.2.2.1.ext hb8)
    have HI8 := hid (hH.out.2.2.2.2.2.ext hb8)
    clear hb8 x0 x1 x2 x3 x4 y0 y1 y2 y3 y4
    obtain ⟨x0, x1, x2, x3, x4⟩ := cells5 HB8.out
    obtain ⟨y0, y1, y2, y3, y4⟩ := cells5 HX8.out
    go_wp2_with fail
    refine (Same_any a t HO.out hH.out.2.2.2.1.2 A B c d _ (H.out.ext HE8.out) HI8.out).mono ?_
    rintro e w9 ⟨rfl, hb9⟩
    rw [HRA.out, hH.out.2.2.2.1.1, HSM.out]
    have HE9 := hid (HE8.out.trans hb9)
    have HX9 := hid (HX8.out.ext hb9)
    have HI9 := hid (HI8.out.ext hb9)
    clear hb9 x0 x1 x2 x3 x4 y0 y1 y2 y3 y4
    obtain ⟨y0, y1, y2, y3, y4⟩ := cells5 HX9.out
    go_wp2_with fail
    refine (rBytesI_any t hH.out.2.2.2.1.2 HPT.out HST.out B d _ HI9.out).mono ?_
    rintro e w10 ⟨rfl, hb10⟩
    rw [hH.out.2.2.2.2.1]
    have HE10 := hid (HE9.out.trans hb10)
    clear hb10 y0 y1 y2 y3 y4
    go_wp2_with fail
    go_ret
    exact Ret.mk (by simp) HE10.out
end Go.Proofs.Ytmekhofncflhaaa
