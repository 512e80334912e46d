/-
  The law ItemParses: its walk.
-/
import Derived.Test.YtmekhofncflhaaaPs7
import Derived.Test.YtmekhofncflhaaaItFault
import Derived.Test.YtmekhofncflhaaaItSame
namespace Go.Proofs.Ytmekhofncflhaaa
open Go.RowKit
set_option linter.unusedVariables false

theorem fault_any (l : List UInt8) (hl : l.length ≤ 1073741824) : ∀ d : Nat, d ≤ 9 → ∀ p, p ≤ l.length → ∀ w, Calls Try.prog 35 #[str l, .int .i64 (p : Int), .int .i64 (d : Int)] w (Ret (faultV p (flt d (l.drop p))) w) := by
  intro d
  induction d with
  | zero =>
    intro _ p hp w
    cases hr : readH (l.drop p) with
    | none => exact fault_none l p ⟨hp, hl⟩ 0 hr w
    | some x =>
      obtain ⟨sz, m, n, o⟩ := x
      have hm := (readH_some hr).m7
      have h8 : (m = 1 ∨ m = 5 ∨ m = 6 ∨ m = 7) ∨ (m = 0 ∨ m = 2 ∨ m = 3 ∨ m = 4) := by omega
      rcases h8 with h8 | h8
      · exact fault_noK l p ⟨hp, hl⟩ 0 sz m n o h8 hr w
      · exact fault_deep l p ⟨hp, hl⟩ sz m n o h8 hr w
  | succ d ih =>
    intro hd p hp w
    have ih' := ih (by omega)
    have e : ((d + 1 : Nat) : Int) = (d : Int) + 1 := by omega
    cases hr : readH (l.drop p) with
    | none => exact fault_none l p ⟨hp, hl⟩ (d + 1) hr w
    | some x =>
      obtain ⟨sz, m, n, o⟩ := x
      have hm := (readH_some hr).m7
      have h8 : (m = 1 ∨ m = 5 ∨ m = 6 ∨ m = 7) ∨ m = 0 ∨ (m = 2 ∨ m = 3) ∨ m = 4 := by omega
      rcases h8 with h8 | rfl | h8 | rfl
      · exact fault_noK l p ⟨hp, hl⟩ (d + 1) sz m n o h8 hr w
      · rw [e]; exact fault_num l p ⟨hp, hl⟩ d sz n o hr w
      · rw [e]
        cases o with
        | true => exact fault_str_open l p ⟨hp, hl⟩ d sz m n h8 hr w
        | false =>
          by_cases hb : (l.drop p).length - sz < n
          · exact fault_str_bad l p ⟨hp, hl⟩ d sz m n h8 hr hb w
          · exact fault_str_good l p ⟨hp, hl⟩ d sz m n h8 hr hb w
      · rw [e]
        cases o with
        | false =>
          by_cases hn : 1000 < n
          · exact fault_long l p ⟨hp, hl⟩ d sz n hn hr w
          · exact fault_arr_false l p ⟨hp, hl⟩ d sz n (by unfold Hid; omega) ih' (fun h => hn h.2) hr w
        | true => exact fault_arr_true l p ⟨hp, hl⟩ d sz n (by unfold Hid; omega) ih' (fun h => by cases h.1) hr w
theorem nul_count : nulT.count 2 = 1 := by decide
theorem nul_ok : nulT.ok := by unfold nulT T.ok; exact ⟨by omega, by omega, by simp, by omega, fun i hi => by omega⟩

set_option maxRecDepth 20000 in
set_option maxHeartbeats 1600000 in
theorem itemParses_walk (l : List UInt8) (w : World) : Calls Try.prog 8 #[str l] w (Ret (.bool true) w) := by
  by_cases hl : 800 < l.length
  · have tl : decide (800 < (l.length : Int)) = true := by simp; omega
    go_enter Try.func8, Try.ntmps8
    go_wp2_with fail
    refine (awake2_any _).mono ?_
    rintro e w1 ⟨rfl, hb1⟩
    go_wp2_with fail
    refine (awake2_any _).mono ?_
    rintro e w2 ⟨rfl, hb2⟩
    go_wp2_with fail
    go_ret
    exact Ret.mk rfl (hb1.trans hb2)
  have tl : decide (800 < (l.length : Int)) = false := by simp; omega
  have HL : Hid (l.length ≤ 800) := by unfold Hid; omega
  have HL2 : Hid (l.length ≤ 1073741824) := by unfold Hid; omega
  have hF0 : Hid (faultV 0 (flt 8 (l.drop 0)) = .tuple #[.int .i64 ((flt 8 l).1 : Int), .int .i64 (flt 8 l).2]) := by unfold Hid faultV; rw [List.drop_zero, Nat.zero_add]
  obtain ⟨E, hE⟩ : ∃ E, E = (flt 8 l).2 := ⟨_, rfl⟩
  obtain ⟨q, hq⟩ : ∃ q, q = (flt 8 l).1 := ⟨_, rfl⟩
  have HPR : Hid (parseR l = if E = 0 ∧ q < l.length then (q, 2) else (q, E)) := by unfold Hid parseR; rw [hE, hq]
  rw [← hE, ← hq] at hF0
  have hql : q ≤ l.length := by rw [hq]; exact flt_le 8 l
  have HQL := hid hql
  clear hE hq hl hql
  by_cases hE : E = 0
  · subst hE
    by_cases hlt : q < l.length
    · have tq : decide ((q : Int) < (l.length : Int)) = true := by simp [hlt]
      have tq2 : decide (q < l.length) = true := by simp [hlt]
      have HP : Hid (parseR l = (q, 2)) := by unfold Hid; rw [HPR.out, if_pos ⟨rfl, hlt⟩]
      clear hlt HPR
      go_enter Try.func8, Try.ntmps8
      go_wp2_with fail
      refine (awake2_any _).mono ?_
      rintro e w1 ⟨rfl, hb1⟩
      go_upto_region 3 with fail
      go_cut [3, 4, 5] (fun s3 s4 s5 wx => ∃ X, s3 = .pointer (some ⟨X, 0, none⟩) ∧ s4 = .int .i64 (q : Int) ∧ s5 = .int .i64 2 ∧ Hid (Ext w wx ∧ Blk wx X 34 (itemC nulT none 0)))
      case first =>
        go_wp2_with fail
        refine (parse_any l HL2 _).mono ?_
        rintro e w2 ⟨hb2, hPP⟩
        rw [HP.out] at hPP
        obtain ⟨_, rfl⟩ | ⟨h0, _⟩ := hPP
        case inr => exact absurd h0 (show ¬ ((2 : Int) = 0) by decide)
        dsimp only
        have HE2 := hid (hb1.trans hb2)
        clear hb1 hb2
        go_wp2_with fail
        go_meet
        exact ⟨_, rfl, rfl, rfl, HE2.out.alloc _, Blk.new _ _ _⟩
      clear hb1
      obtain ⟨X, rfl, rfl, rfl, hH⟩ := hcut
      go_wp2_with fail
      refine (fault_any l HL2.out 8 (by omega) 0 (by omega) _).mono ?_
      rintro e w3 ⟨rfl, hb3⟩
      rw [hF0.out]
      have HX := hid (hH.out.2.ext hb3)
      have HE3 := hid (hH.out.1.trans hb3)
      obtain ⟨x0, x1, x2, x3, x4⟩ := cells5 HX.out
      clear hb3
      go_wp2_with fail
      refine (Count_any nulT 2 (by omega) nul_ok none 0 _ IsL.leaf).mono ?_
      rintro e w4 ⟨rfl, hb4⟩
      rw [nul_count]
      have HE4 := hid (HE3.out.trans hb4)
      have HX4 := hid (HX.out.ext hb4)
      clear x0 x1 x2 x3 x4 hb4
      have x0 : w4.cell? ⟨X, 0, none⟩ = some (.int .i64 0) := HX4.out.cell 0
      have x1 : w4.cell? ⟨X, 1, none⟩ = some (.int .u64 0) := HX4.out.cell 1
      go_wp2_with fail
      go_ret
      exact Ret.mk rfl HE4.out
    · have tq : decide ((q : Int) < (l.length : Int)) = false := by simp; omega
      have tq2 : decide (q < l.length) = false := by simp [hlt]
      have HP : Hid (parseR l = (q, 0)) := by unfold Hid; rw [HPR.out, if_neg (fun h => hlt h.2)]
      clear hlt HPR
      go_enter Try.func8, Try.ntmps8
      go_wp2_with fail
      refine (awake2_any _).mono ?_
      rintro e w1 ⟨rfl, hb1⟩
      go_upto_region 3 with fail
      go_cut [3, 4, 5] (fun s3 s4 s5 wx => ∃ X t A c, s3 = .pointer (some ⟨X, 0, none⟩) ∧ s4 = .int .i64 (-1) ∧ s5 = .int .i64 0 ∧ Hid (Ext w wx ∧ Blk wx X 34 (itemC t A c) ∧ (t.right 8 = true ∧ t.ok) ∧ t.bytes = l ∧ IsL wx (fun _ => True) t A))
      case first =>
        go_wp2_with fail
        refine (parse_any l HL2 _).mono ?_
        rintro e w2 ⟨hb2, hPP⟩
        rw [HP.out] at hPP
        obtain ⟨h0, _⟩ | ⟨_, t, A, c, rfl, h1, h2, h3⟩ := hPP
        case inl => exact absurd rfl h0
        have HE2 := hid (hb1.trans hb2)
        have H3 := hid (show (t.right 8 = true ∧ t.ok) ∧ t.bytes = l ∧ IsL w2 (fun _ => True) t A from ⟨h1, h2, h3⟩)
        clear hb1 hb2 h1 h2 h3
        go_wp2_with fail
        go_meet
        exact ⟨_, t, A, c, rfl, rfl, rfl, HE2.out.alloc _, Blk.new _ _ _, H3.out.1, H3.out.2.1, H3.out.2.2.ext ((Mod.refl _ _).alloc _)⟩
      clear hb1
      obtain ⟨X, t, A, c, rfl, rfl, rfl, hH⟩ := hcut
      have HPL : Hid (t.plain = true) := by have h := hH.out.2.2.1.1; rw [T.right_eq] at h; simp at h; exact h.2
      have HSZ : Hid (t.size ≤ 100000) := by have h := T.size_le t HPL.out; rw [hH.out.2.2.2.1] at h; have := HL.out; unfold Hid; omega
      go_wp2_with fail
      refine (fault_any l HL2.out 8 (by omega) 0 (by omega) _).mono ?_
      rintro e w3 ⟨rfl, hb3⟩
      rw [hF0.out]
      have HX := hid (hH.out.2.1.ext hb3)
      have HE3 := hid (hH.out.1.trans hb3)
      have HI3 := hid (hH.out.2.2.2.2.ext hb3)
      obtain ⟨x0, x1, x2, x3, x4⟩ := cells5 HX.out
      clear hb3
      go_wp2_with fail
      refine (rRight_any t hH.out.2.2.1.2 A c _ HI3.out).mono ?_
      rintro e w4 ⟨rfl, hb4⟩
      rw [hH.out.2.2.1.1]
      have HE4 := hid (HE3.out.trans hb4)
      have HX4 := hid (HX.out.ext hb4)
      have HI4 := hid (HI3.out.ext hb4)
      clear x0 x1 x2 x3 x4 hb4
      obtain ⟨x0, x1, x2, x3, x4⟩ := cells5 HX4.out
      go_wp2_with fail
      refine (rBytesI_any t hH.out.2.2.1.2 HPL.out HSZ.out A c _ HI4.out).mono ?_
      rintro e w5 ⟨rfl, hb5⟩
      rw [hH.out.2.2.2.1]
      have HE5 := hid (HE4.out.trans hb5)
      clear x0 x1 x2 x3 x4 hb5
      go_wp2_with fail
      go_ret
      exact Ret.mk (by simp) HE5.out
  · have te : (E == 0) = false := by simp [hE]
    have te2 : (E = 0) = False := by simp [hE]
    have tn : (E != 0) = true := by simp [hE]
    have HP : Hid (parseR l = (q, E)) := by unfold Hid; rw [HPR.out, if_neg (fun h => hE h.1)]
    have HNE := hid hE
    clear hE HPR
    go_enter Try.func8, Try.ntmps8
    go_wp2_with fail
    refine (awake2_any _).mono ?_
    rintro e w1 ⟨rfl, hb1⟩
    go_upto_region 3 with fail
    go_cut [3, 4, 5] (fun s3 s4 s5 wx => ∃ X, s3 = .pointer (some ⟨X, 0, none⟩) ∧ s4 = .int .i64 (q : Int) ∧ s5 = .int .i64 E ∧ Hid (Ext w wx ∧ Blk wx X 34 (itemC nulT none 0)))
    case first =>
      go_wp2_with fail
      refine (parse_any l HL2 _).mono ?_
      rintro e w2 ⟨hb2, hPP⟩
      rw [HP.out] at hPP
      obtain ⟨_, rfl⟩ | ⟨h0, _⟩ := hPP
      case inr => exact absurd h0 (HNE.out)
      dsimp only
      have HE2 := hid (hb1.trans hb2)
      clear hb1 hb2
      go_wp2_with fail
      go_meet
      exact ⟨_, rfl, rfl, rfl, HE2.out.alloc _, Blk.new _ _ _⟩
    clear hb1
    obtain ⟨X, rfl, rfl, rfl, hH⟩ := hcut
    go_wp2_with fail
    refine (fault_any l HL2.out 8 (by omega) 0 (by omega) _).mono ?_
    rintro e w3 ⟨rfl, hb3⟩
    rw [hF0.out]
    have HX := hid (hH.out.2.ext hb3)
    have HE3 := hid (hH.out.1.trans hb3)
    obtain ⟨x0, x1, x2, x3, x4⟩ := cells5 HX.out
    clear hb3
    go_wp2_with fail
    refine (Count_any nulT 2 (by omega) nul_ok none 0 _ IsL.leaf).mono ?_
    rintro e w4 ⟨rfl, hb4⟩
    rw [nul_count]
    have HE4 := hid (HE3.out.trans hb4)
    have HX4 := hid (HX.out.ext hb4)
    clear x0 x1 x2 x3 x4 hb4
    have x0 : w4.cell? ⟨X, 0, none⟩ = some (.int .i64 0) := HX4.out.cell 0
    have x1 : w4.cell? ⟨X, 1, none⟩ = some (.int .u64 0) := HX4.out.cell 1
    go_wp2_with fail
    go_ret
    exact Ret.mk rfl HE4.out
end Go.Proofs.Ytmekhofncflhaaa
