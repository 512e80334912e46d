/-
  Package keys: which keys may be (the reference's Few and May).
-/
import Derived.Test.YtmcehdinkghlfaaKeys3
namespace Go.Proofs.Ytmcehdinkghlfaa
open Go.RowKit Go.Shelf Go.Maps
set_option linter.unusedVariables false

def GoodK (k : Key) : Prop := 1 ≤ k.1 ∧ k.1 ≤ 65535 ∧ 1 ≤ k.2.length ∧ k.2.length ≤ 64
def Good (zs : List Key) (i : Nat) : Prop := ∀ h : i < zs.length, GoodK zs[i] ∧ ∀ k (hk : k < i), ¬ (zs[k].1 = zs[i].1 ∨ zs[k].2 = zs[i].2)
/-- May there be a store? -/
def May (node : Nat) (zs : List Key) : Prop := node ≤ 4294967295 ∧ zs.length ≤ 8 ∧ ∀ i, Good zs i

/-- The call tells whether P holds, and turns nothing. -/
def Tells (P : Prop) (w : World) (e : Ending) (w' : World) : Prop := ∃ b : Bool, e = .returned (.bool b) ∧ (b = true ↔ P) ∧ Ext w w'
/-- The call says true only if P holds, and turns nothing. -/
def Warns (P : Prop) (w : World) (e : Ending) (w' : World) : Prop := ∃ b : Bool, e = .returned (.bool b) ∧ (b = true → P) ∧ Ext w w'

theorem IsKeys.cells {w : World} {A : Option Addr} {zs : List Key} (h : IsKeys w A zs) {W : World} (hW : Ext w W) {j : Nat} (hj : j < zs.length) :
    ∃ b o, A = some ⟨b, o, none⟩ ∧ W.cell? ⟨b, o + j * 2, none⟩ = some (.int .i64 zs[j].1) ∧ W.cell? ⟨b, o + j * 2 + 1, none⟩ = some (str zs[j].2) := by
  obtain ⟨b, o, hA, hb, hc⟩ := h (by omega)
  refine ⟨b, o, hA, ?_, ?_⟩
  · rw [hW.cell hb (by simp)]; exact (hc j hj).1
  · rw [hW.cell hb (by simp)]; exact (hc j hj).2

set_option maxHeartbeats 800000 in
theorem Few_any (A : Option Addr) (zs : List Key) (cap : Nat) (w : World) (hk : Hid (IsKeys w A zs)) :
    Calls Try.prog 9 #[.slice A zs.length cap] w (Warns (zs.length ≤ 12) w) := by
  go_enter Try.func9, Try.ntmps9
  go_wp2
  go_loopw [3] (fun s wr => ∃ j : Nat, j ≤ zs.length ∧ j ≤ 20 ∧ s = .int .i64 j ∧ Ext w wr) (fun i _ => zs.length - (intOf i).toNat)
  case atStart => exact ⟨0, Nat.zero_le _, by omega, rfl, Mod.refl _ _⟩
  case round =>
    obtain ⟨j, hj, hj20, rfl, hE⟩ := hrel
    have last : Hid ((decide ((zs.length : Int) ≤ 12)) = true → zs.length ≤ 12) := by unfold Hid; simp; omega
    by_cases hlt : j < zs.length ∧ j < 20
    · obtain ⟨hlt, h20⟩ := hlt
      obtain ⟨b, o, rfl, c0, c1⟩ := hk.out.cells hE hlt
      generalize zs[j] = y at c0 c1
      obtain ⟨y0, y1⟩ := y
      have hj1 : (0 : Int) ≤ (j : Int) := by omega
      have hj2 : (j : Int) < (zs.length : Int) := by omega
      have tj : decide (j < zs.length) = true := by simp [hlt]
      have tk : decide ((j : Int) < 20) = true := by simp; omega
      by_cases hbig : 100 < y1.length
      · have tb : decide (100 < (y1.length : Int)) = true := by simp; omega
        have HB := hid hbig; clear hbig
        go_wp2
        go_ret
        exact ⟨false, rfl, by simp, hE⟩
      · have tb : decide (100 < (y1.length : Int)) = false := by simp; omega
        have HB := hid hbig; clear hbig
        go_wp2
        go_roundw
        case rel => exact ⟨j + 1, by omega, by omega, by go_num, hE⟩
        case measure => simp [intOf]; omega
    · by_cases hl : j < zs.length
      · have tj : decide (j < zs.length) = true := by simp [hl]
        have tk : decide ((j : Int) < 20) = false := by simp; omega
        have HL := hid hl; have HLT := hid hlt; clear hl hlt
        go_wp2
        go_ret
        exact ⟨_, rfl, last.out, hE⟩
      · have tj : decide (j < zs.length) = false := by simp [hl]
        have HL := hid hl; have HLT := hid hlt; clear hl hlt
        go_wp2
        go_ret
        exact ⟨_, rfl, last.out, hE⟩

set_option maxRecDepth 20000 in
set_option maxHeartbeats 1600000 in
theorem May_any (node : Nat) (A : Option Addr) (zs : List Key) (cap : Nat) (hn : Hid (zs.length < 4611686018427387904)) (w : World) (hk : Hid (IsKeys w A zs)) :
    Calls Try.prog 10 #[.int .u64 (node : Int), .slice A zs.length cap] w (Tells (May node zs) w) := by
  by_cases hm : node ≤ 4294967295 ∧ zs.length ≤ 8
  · obtain ⟨hm1, hm2⟩ := hm
    have t1 : decide (4294967295 < (node : Int)) = false := by simp; omega
    have t2 : decide (8 < (zs.length : Int)) = false := by simp; omega
    have hm3 : (zs.length : Int) ≤ 8 := by omega
    have HM1 := hid hm1; have HM2 := hid hm2; clear hm1 hm2
    go_enter Try.func10, Try.ntmps10
    go_wp2
    go_loopw [5] (fun s wr => ∃ j : Nat, j ≤ zs.length ∧ s = .int .i64 j ∧ Ext w wr ∧ Hid (∀ i, i < j → Good zs i)) (fun i _ => zs.length - (intOf i).toNat)
    case atStart => exact ⟨0, Nat.zero_le _, rfl, Mod.refl _ _, fun i h => absurd h (Nat.not_lt_zero _)⟩
    case round =>
      obtain ⟨j, hj, rfl, hE, hgood⟩ := hrel
      by_cases hlt : j < zs.length
      · obtain ⟨b, o, rfl, c0, c1⟩ := hk.out.cells hE hlt
        generalize hy : zs[j] = y at c0 c1
        obtain ⟨y0, y1⟩ := y
        have HY := hid hy; clear hy
        have hj1 : (0 : Int) ≤ (j : Int) := by omega
        have hj2 : (j : Int) < (zs.length : Int) := by omega
        have tj : decide (j < zs.length) = true := by simp [hlt]
        have bad : Hid (¬ GoodK (y0, y1) → ¬ May node zs) := fun hng hmay => hng (by have := (hmay.2.2 j hlt).1; rw [HY.out] at this; exact this)
        by_cases q1 : y0 < 1
        · have t3 : decide (y0 < 1) = true := by simp [q1]
          have Q1 := hid q1; clear q1
          go_wp2
          go_ret
          exact ⟨false, rfl, by simpa using bad.out (fun h => by have := h.1; have := Q1.out; simp at *; omega), hE⟩
        · have t3 : decide (y0 < 1) = false := by simp; omega
          by_cases q2 : 65535 < y0
          · have t4 : decide (65535 < y0) = true := by simp [q2]
            have Q1 := hid q1; have Q2 := hid q2; clear q1 q2
            go_wp2
            go_ret
            exact ⟨false, rfl, by simpa using bad.out (fun h => by have := h.2.1; have := Q2.out; simp at *; omega), hE⟩
          · have t4 : decide (65535 < y0) = false := by simp; omega
            by_cases q3 : y1.length < 1
            · have t5 : decide ((y1.length : Int) < 1) = true := by simp; omega
              have Q1 := hid q1; have Q2 := hid q2; have Q3 := hid q3; clear q1 q2 q3
              go_wp2
              go_ret
              exact ⟨false, rfl, by simpa using bad.out (fun h => by have := h.2.2.1; have := Q3.out; simp at *; omega), hE⟩
            · have t5 : decide ((y1.length : Int) < 1) = false := by simp; omega
              by_cases q4 : 64 < y1.length
              · have t6 : decide (64 < (y1.length : Int)) = true := by simp; omega
                have Q1 := hid q1; have Q2 := hid q2; have Q3 := hid q3; have Q4 := hid q4; clear q1 q2 q3 q4
                go_wp2
                go_ret
                exact ⟨false, rfl, by simpa using bad.out (fun h => by have := h.2.2.2; have := Q4.out; simp at *; omega), hE⟩
              · have t6 : decide (64 < (y1.length : Int)) = false := by simp; omega
                have gk : Hid (GoodK (y0, y1)) := ⟨by simp; omega, by simp; omega, by simp; omega, by simp; omega⟩
                have Q1 := hid q1; have Q2 := hid q2; have Q3 := hid q3; have Q4 := hid q4; clear q1 q2 q3 q4
                go_wp2
                clear c0 c1
                go_loopw [6] (fun s wr2 => ∃ k : Nat, k ≤ j ∧ s = .int .i64 k ∧ Ext w wr2 ∧ Hid (∀ i (h : i < k) (h2 : i < zs.length), ¬ (zs[i].1 = y0 ∨ zs[i].2 = y1))) (fun i _ => j - (intOf i).toNat)
                case atStart => exact ⟨0, Nat.zero_le _, rfl, hE, fun i h => absurd h (Nat.not_lt_zero _)⟩
                case round =>
                  obtain ⟨k, hkj, rfl, hE2, hno⟩ := hrel
                  by_cases hkl : k < j
                  · obtain ⟨b', o', hA, d0, d1⟩ := hk.out.cells hE2 (j := k) (by omega)
                    obtain ⟨rfl, rfl⟩ : b = b' ∧ o = o' := by simpa using hA
                    clear hA
                    obtain ⟨b', o', hA, c0, c1⟩ := hk.out.cells hE2 hlt
                    obtain ⟨rfl, rfl⟩ : b = b' ∧ o = o' := by simpa using hA
                    clear hA
                    rw [HY.out] at c0 c1
                    generalize hz : zs[k] = z at d0 d1
                    obtain ⟨z0, z1⟩ := z
                    have HZ := hid hz; clear hz
                    have hk1 : (0 : Int) ≤ (k : Int) := by omega
                    have hk2 : (k : Int) < (j : Int) := by omega
                    have hk3 : (k : Int) < (zs.length : Int) := by omega
                    have tk : decide (k < j) = true := by simp [hkl]
                    have bad2 : Hid (z0 = y0 ∨ z1 = y1 → ¬ May node zs) := fun hor hmay => by
                      have := (hmay.2.2 j hlt).2 k hkl
                      rw [HY.out, HZ.out] at this
                      exact this hor
                    cases e0 : (z0 == y0)
                    · cases e1 : (z1 == y1)
                      · have E0 := hid e0; have E1 := hid e1
                        go_upto_region 11 with fail
                        go_quiet (fail)
                        go_wp2
                        go_roundw
                        case rel =>
                          refine ⟨k + 1, by omega, by go_num, hE2.drewN _, (show Hid _ from fun i hi h2 => ?_)⟩
                          by_cases ei : i = k
                          · subst ei
                            rw [HZ.out]
                            have a0 := E0.out; have a1 := E1.out
                            simp at a0 a1
                            simp [a0, a1]
                          · exact hno.out i (by omega) h2
                        case measure => simp [intOf]; omega
                      · have E0 := hid e0; have E1 := hid e1
                        go_upto_region 11 with fail
                        go_quiet (fail)
                        go_wp2
                        go_ret
                        exact ⟨false, rfl, by simpa using bad2.out (.inr (by simpa using E1.out)), hE2.drewN _⟩
                    · have E0 := hid e0
                      go_upto_region 11 with fail
                      go_quiet (fail)
                      go_wp2
                      go_ret
                      exact ⟨false, rfl, by simpa using bad2.out (.inl (by simpa using E0.out)), hE2.drewN _⟩
                  · obtain rfl : k = j := by omega
                    have tk : decide (k < k) = false := by simp
                    go_wp2
                    go_roundw
                    case rel =>
                      refine ⟨k + 1, by omega, by go_num, hE2, (show Hid _ from fun i hi => ?_)⟩
                      by_cases ei : i = k
                      · subst ei
                        intro h
                        rw [HY.out]
                        exact ⟨gk.out, fun q hq => hno.out q hq (by omega)⟩
                      · exact hgood.out i (by omega)
                    case measure => simp [intOf]; omega
      · obtain rfl : j = zs.length := by omega
        have tj : decide (zs.length < zs.length) = false := by simp
        go_wp2
        go_ret
        refine ⟨true, rfl, ?_, hE⟩
        simp only [true_iff]
        exact ⟨HM1.out, HM2.out, fun i => by
          intro h
          exact hgood.out i h h⟩
  · by_cases h1 : node ≤ 4294967295
    · have t1 : decide (4294967295 < (node : Int)) = false := by simp; omega
      have t2 : decide (8 < (zs.length : Int)) = true := by simp; omega
      have HM := hid hm; have H1 := hid h1; clear hm h1
      go_enter Try.func10, Try.ntmps10
      go_wp2
      go_ret
      exact ⟨false, rfl, by simpa using fun h : May node zs => HM.out ⟨h.1, h.2.1⟩, Mod.refl _ _⟩
    · have t1 : decide (4294967295 < (node : Int)) = true := by simp; omega
      have HM := hid hm; have H1 := hid h1; clear hm h1
      go_enter Try.func10, Try.ntmps10
      go_wp2
      go_ret
      exact ⟨false, rfl, by simpa using fun h : May node zs => HM.out ⟨h.1, h.2.1⟩, Mod.refl _ _⟩
end Go.Proofs.Ytmcehdinkghlfaa
