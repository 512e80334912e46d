/-
  The law ItemCut: its walk.
-/
import Derived.Test.YtmekhofncflhaaaParses
namespace Go.Proofs.Ytmekhofncflhaaa
open Go.RowKit
set_option linter.unusedVariables false

theorem right_plain {t : T} (h : t.right 8 = true) : t.plain = true := by rw [T.right_eq] at h; simp at h; exact h.2
theorem cut_bad {x t : T} (hx : x.right 8 = true) (hox : x.ok) (ht : t.right 8 = true) (hot : t.ok) {k : Nat} (hk : k < x.bytes.length) (h : t.bytes = x.bytes.take k) : False := by
  have h1 := T.bytes_inj t x (right_plain ht) (right_plain hx) hot hox (x.bytes.drop k) [] (by rw [h, List.take_append_drop, List.append_nil])
  have h2 : (x.bytes.drop k).length = 0 := by rw [h1.2]; rfl
  rw [List.length_drop] at h2
  omega
theorem parseR_le (l : List UInt8) : (parseR l).1 ≤ l.length := by
  unfold parseR
  split
  · exact flt_le 8 l
  · exact flt_le 8 l

set_option maxRecDepth 20000 in
set_option maxHeartbeats 1600000 in
theorem itemCut_walk (a : T) (hoa : a.ok) (A : Option Addr) (c : Nat) (n : Nat) (hn : n < 65536) (w : World) (ha : IsL w (fun _ => True) a A) :
    Calls Try.prog 9 #[itemV a A c, .int .u16 (n : Int)] w (Ret (.bool true) w) := by
  have H := hid ha; have HO := hid hoa
  have HB := hid (Blk.new w 34 (itemC a A c))
  have HE0 := hid ((Mod.refl [] w).alloc (.cells (itemC a A c) 34))
  have n0 : (0 : Int) ≤ (n : Int) := by omega
  have n1 : (n : Int) < 65536 := by omega
  clear ha hoa hn
  go_enter Try.func9, Try.ntmps9
  go_wp2_with fail
  refine (awake2_any _).mono ?_
  rintro e w1 ⟨rfl, hb1⟩
  have HE1 := hid (HE0.out.trans hb1)
  have HB1 := hid (HB.out.ext hb1)
  obtain ⟨x0, x1, x2, x3, x4⟩ := cells5 HB1.out
  clear hb1
  go_wp2_with fail
  refine (iFew_any a 2000 (by omega) HO.out A c _ (H.out.ext HE1.out)).mono ?_
  rintro e w2 ⟨rfl, hb2⟩
  have HE2 := hid (HE1.out.trans hb2)
  have HB2 := hid (HB1.out.ext hb2)
  clear hb2 x0 x1 x2 x3 x4
  cases hfa : few a 2000
  · clear hfa
    go_wp2_with fail
    refine (awake2_any _).mono ?_
    rintro e w3 ⟨rfl, hb3⟩
    go_wp2_with fail
    go_ret
    exact Ret.mk rfl (HE2.out.trans hb3)
  have HFA := hid (few_size hfa)
  clear hfa
  obtain ⟨x0, x1, x2, x3, x4⟩ := cells5 HB2.out
  go_wp2_with fail
  refine (rRight_any a HO.out A c _ (H.out.ext HE2.out)).mono ?_
  rintro e w3 ⟨rfl, hb3⟩
  have HE3 := hid (HE2.out.trans hb3)
  have HB3 := hid (HB2.out.ext hb3)
  clear hb3 x0 x1 x2 x3 x4
  cases hra : a.right 8
  · clear hra
    go_wp2_with fail
    refine (awake2_any _).mono ?_
    rintro e w4 ⟨rfl, hb4⟩
    go_wp2_with fail
    go_ret
    exact Ret.mk rfl (HE3.out.trans hb4)
  have HRA := hid hra
  clear hra
  obtain ⟨x0, x1, x2, x3, x4⟩ := cells5 HB3.out
  have HPA := hid (right_plain HRA.out)
  have HS : Hid (a.size ≤ 100000) := Nat.le_trans HFA.out.1 (by omega)
  go_wp2_with fail
  refine (rBytesI_any a HO.out HPA.out HS.out A c _ (H.out.ext HE3.out)).mono ?_
  rintro e w4 ⟨rfl, hb4⟩
  have HE4 := hid (HE3.out.trans hb4)
  clear hb4 x0 x1 x2 x3 x4
  obtain ⟨s, hs⟩ : ∃ s, s = a.bytes := ⟨_, rfl⟩
  have hs1 : s.length ≤ 1000000 := by rw [hs]; have := T.bytes_le a; have := HS.out; omega
  have hs0 : 0 < s.length := by
    rw [hs]
    have h1 := T.size_le a HPA.out
    have h2 : 1 ≤ a.size := by
      cases a with
      | nil => cases HO.out
      | mk => unfold T.size; omega
    omega
  rw [← hs]
  have HSB := hid hs
  clear hs
  have s1 : (s.length : Int) ≤ 1000000 := by omega
  have s0 : (0 : Int) < (s.length : Int) := by omega
  have s2 : ((s.length : Int) == 0) = false := by rw [beq_eq_false_iff_ne]; omega
  have s3 : (s.length = 0) = False := propext ⟨fun h => absurd h (by omega), False.elim⟩
  have hk : (n : Int) % (s.length : Int) = ((n % s.length : Nat) : Int) := by omega
  have hkl : n % s.length < s.length := Nat.mod_lt _ hs0
  go_upto_region 5 with fail
  generalize hK : n % s.length = k at *
  rw [hk]
  clear hK
  have HKL := hid hkl
  have k0 : (0 : Int) ≤ (k : Int) := by omega
  have k1 : (k : Int) ≤ (s.length : Int) := by omega
  have HL2 : Hid ((s.take k).length ≤ 1073741824) := by unfold Hid; rw [List.length_take]; omega
  have HNO : Hid (∀ t : T, t.right 8 = true → t.ok → t.bytes ≠ s.take k) := fun t h1 h2 h3 => cut_bad HRA.out HO.out h1 h2 (k := k) (by have := HKL.out; rw [← HSB.out]; exact this) (by rw [← HSB.out]; exact h3)
  have HLE : Hid ((parseR (s.take k)).1 ≤ k) := by have := parseR_le (s.take k); rw [List.length_take] at this; unfold Hid; omega
  clear hk hkl hs0 hs1 s0 s2 s3 n0 n1
  obtain ⟨q, hq⟩ : ∃ q, q = (parseR (s.take k)).1 := ⟨_, rfl⟩
  obtain ⟨E, hE⟩ : ∃ E, E = (parseR (s.take k)).2 := ⟨_, rfl⟩
  rw [← hq] at HLE
  have HP : Hid (parseR (s.take k) = (q, E)) := by rw [hq, hE]; exact rfl
  clear hq hE
  go_cut [7, 8, 9] (fun s7 s8 s9 wx => ∃ X, s7 = .pointer (some ⟨X, 0, none⟩) ∧ s8 = .int .i64 (q : Int) ∧ s9 = .int .i64 E ∧ Hid (E ≠ 0 ∧ Ext w wx ∧ Blk wx X 34 (itemC nulT none 0)))
  case first =>
    go_wp2_with fail
    rw [extract_str, List.drop_zero, Nat.sub_zero]
    refine (parse_any (s.take k) HL2 _).mono ?_
    rintro e w5 ⟨hb5, hPP⟩
    rw [HP.out] at hPP
    obtain ⟨h0, rfl⟩ | ⟨_, t, _, _, _, h1, h2, _⟩ := hPP
    case inr => exact absurd h2 (HNO.out t h1.1 h1.2)
    dsimp only
    have HE5 := hid (HE4.out.trans hb5)
    have HN0 := hid h0
    clear hb5 h0
    go_wp2_with fail
    go_meet
    exact ⟨_, rfl, rfl, rfl, HN0.out, HE5.out.alloc _, Blk.new _ _ _⟩
  obtain ⟨X, rfl, rfl, rfl, hH⟩ := hcut
  have tn : (E != 0) = true := by have := hH.out.1; simp [this]
  have q0 : (0 : Int) ≤ (q : Int) := by omega
  have tq : decide ((0 : Int) ≤ (q : Int)) = true := by simp
  have tk : decide ((q : Int) ≤ (k : Int)) = true := by have := HLE.out; simp; omega
  have tk2 : decide (q ≤ k) = true := by have := HLE.out; simp; omega
  obtain ⟨x0, x1, x2, x3, x4⟩ := cells5 hH.out.2.2
  go_wp2_with fail
  refine (Count_any nulT 2 (by omega) nul_ok none 0 _ IsL.leaf).mono ?_
  rintro e w6 ⟨rfl, hb6⟩
  rw [nul_count]
  have HE6 := hid (hH.out.2.1.trans hb6)
  have HX6 := hid (hH.out.2.2.ext hb6)
  clear x0 x1 x2 x3 x4 hb6
  have x0 : w6.cell? ⟨X, 0, none⟩ = some (.int .i64 0) := HX6.out.cell 0
  have x1 : w6.cell? ⟨X, 1, none⟩ = some (.int .u64 0) := HX6.out.cell 1
  go_wp2_with fail
  go_ret
  exact Ret.mk rfl HE6.out
end Go.Proofs.Ytmekhofncflhaaa
