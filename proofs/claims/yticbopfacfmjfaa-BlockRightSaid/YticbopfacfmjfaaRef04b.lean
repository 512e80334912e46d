/-
  The reference's sums, whole.
-/
import Derived.Test.YticbopfacfmjfaaRef04
namespace Go.Proofs.Yticbopfacfmjfaa
open Go.RowKit
set_option linter.unusedVariables false

theorem Crc.stepR_lt {m d r b : Nat} (hd : d < 2 ^ m) : Crc.stepR (2 ^ m) d r b < 2 ^ m := by
  have := Nat.mod_lt (r * 2) (Nat.two_pow_pos m)
  unfold Crc.stepR
  split
  · exact this
  · exact Nat.xor_lt_two_pow this hd

theorem Crc.x_16 (l : List UInt8) : Crc.rv 16 (65535 - Crc.divR 65536 4129 65535 l) = Crc.x25 l := Crc.sums (m := 15) (p := 33800) (by decide) l
theorem Crc.r_16 {r c : Nat} : Crc.stepR 65536 4129 r c = if r / 32768 = c then r * 2 % 65536 else (r * 2 % 65536) ^^^ 4129 := rfl
set_option maxHeartbeats 800000 in
theorem Sum16 (l : List UInt8) (hl : Hid (l.length < 1000000)) (w : World) : Calls Try.prog 41 #[.int .i64 16, str l] w (Ret (.int .u64 (Crc.x25 l : Nat)) w) := by
  obtain ⟨T, hT⟩ : ∃ T, T = Crc.divR 65536 4129 65535 l := ⟨_, rfl⟩
  have hX := Crc.x_16 l
  rw [← hT] at hX
  rw [← hX]
  have HT := hid hT; clear hT hX
  go_enter Try.func41, Try.ntmps41
  go_wp2_with fail
  go_loop [5, 6] (fun t i => ∃ j : Nat, j ≤ 16 ∧ i = .int .i64 j ∧ t = .int .u64 ((2 ^ j : Nat) : Int)) (fun _ i => 16 - (intOf i).toNat)
  case atStart => exact ⟨0, Nat.zero_le _, rfl, rfl⟩
  case round =>
    obtain ⟨j, hj, rfl, rfl⟩ := hrel
    have hp : 2 ^ j ≤ 4294967296 := show 2 ^ j ≤ 2 ^ 32 from Nat.pow_le_pow_right (by omega) (by omega)
    by_cases hlt : j < 16
    · have HS := hid (Nat.pow_succ 2 j)
      generalize 2 ^ j = x at *
      go_wp2_with fail
      go_round
      case rel => exact ⟨j + 1, by omega, by go_num, by rw [HS.out]; go_num⟩
      case measure => simp [intOf]; omega
    · obtain rfl : j = 16 := by omega
      have e2 : (2 : Nat) ^ 16 = 65536 := by decide
      rw [e2]
      clear e2 hp
      go_wp2_with fail
      refine (divisor_16 _).mono ?_
      rintro e w1 ⟨rfl, hb1⟩
      go_wp2_with fail
      go_loop [7, 9, 10, 11, 12, 13] (fun r i c k bt h => ∃ j x : Nat, j ≤ l.length ∧ x < 65536 ∧ i = .int .i64 j ∧ r = .int .u64 (x : Int) ∧ Hid (T = Crc.divR 65536 4129 x (l.drop j))) (fun _ i _ _ _ _ => l.length - (intOf i).toNat)
      case atStart => exact ⟨0, 65535, Nat.zero_le _, by omega, rfl, rfl, HT⟩
      case round =>
        obtain ⟨j, x, hj, hx, rfl, rfl, HR⟩ := hrel
        have hl2 : l.length < 1000000 := hl.out
        by_cases hlt : j < l.length
        · have HS : Hid (T = Crc.divR 65536 4129 (Crc.stepsR 65536 4129 8 x (l[j]).toNat) (l.drop (j + 1))) := by
            have h1 := HR.out
            rw [List.drop_eq_getElem_cons hlt] at h1
            exact h1
          clear HR
          have hc8 := (l[j]).toNat_lt
          go_wp2_with fail
          generalize hcn : (l[j]).toNat = cn at *
          have HCN := hid hcn; clear hcn
          go_loop [7, 10, 11, 12, 13] (fun r c k bt h => ∃ n y d : Nat, n ≤ 8 ∧ y < 65536 ∧ d < 256 ∧ k = .int .i64 n ∧ r = .int .u64 (y : Int) ∧ c = .int .i64 (d : Int) ∧ Hid (Crc.stepsR 65536 4129 (8 - n) y d = Crc.stepsR 65536 4129 8 x cn)) (fun _ _ k _ _ => 8 - (intOf k).toNat)
          case atStart => exact ⟨0, x, cn, by omega, hx, by omega, rfl, rfl, (by show Value.int .i64 (wrap64 ((l[j]).toNat : Int)) = _; rw [HCN.out]; congr 1; exact IntWalk.wrap64_in _ (by omega)), rfl⟩
          case round =>
            obtain ⟨n, y, d, hn, hy, hd, rfl, rfl, rfl, HQ⟩ := hrel
            by_cases hn8 : n < 8
            · have HN : Hid (Crc.stepsR 65536 4129 (8 - (n + 1)) (Crc.stepR 65536 4129 y (d % 2)) (d / 2) = Crc.stepsR 65536 4129 8 x cn) := by
                have h1 := HQ.out
                rw [show 8 - n = (8 - (n + 1)) + 1 by omega] at h1
                exact h1
              have hL := Crc.stepR_lt (m := 16) (d := 4129) (r := y) (b := d % 2) (by decide)
              clear HQ
              by_cases hbit : y / 32768 = d % 2
              · have hE : Crc.stepR 65536 4129 y (d % 2) = y * 2 % 65536 := by rw [Crc.r_16, if_pos hbit]
                rw [hE] at HN hL
                go_wp2_with fail
                go_round
                case rel => exact ⟨n + 1, _, d / 2, by omega, hL, by omega, by go_num, by simp, by simp, HN⟩
                case measure => simp [intOf]; omega
              · have hE : Crc.stepR 65536 4129 y (d % 2) = (y * 2 % 65536) ^^^ 4129 := by rw [Crc.r_16, if_neg hbit]
                have tX := u64_xor_nat (y * 2 % 65536) 4129 (by omega) (by omega)
                rw [hE] at HN hL
                go_wp2_with fail
                go_round
                case rel => exact ⟨n + 1, _, d / 2, by omega, hL, by omega, by go_num, by rw [← tX]; simp, by simp, HN⟩
                case measure => simp [intOf]; omega
            · obtain rfl : n = 8 := by omega
              have h1 : y = Crc.stepsR 65536 4129 8 x cn := HQ.out
              subst h1
              clear HQ
              go_wp2_with fail
              go_round
              case rel => exact ⟨j + 1, _, by omega, hy, by go_num, rfl, HS⟩
              case measure => simp [intOf]; omega
        · obtain rfl : j = l.length := by omega
          have h1 := HR.out
          rw [List.drop_length] at h1
          have h2 : T = x := h1
          subst h2
          clear HR h1
          go_wp2_with fail
          have K := hid (fun W => turn_n (65535 - T) (by unfold Hid; omega) 16 (by unfold Hid; omega) W)
          have e5 : ((65535 - T : Nat) : Int) = 65535 - (T : Int) := by omega
          rw [e5] at K
          refine (K.out _).mono ?_
          rintro e w2 ⟨rfl, hb2⟩
          go_wp2_with fail
          go_ret
          exact Ret.mk rfl (hb1.trans hb2)

theorem Crc.x_32 (l : List UInt8) : Crc.rv 32 (4294967295 - Crc.divR 4294967296 517762881 4294967295 l) = Crc.cast l := Crc.sums (m := 31) (p := 2197175160) (by decide) l
theorem Crc.r_32 {r c : Nat} : Crc.stepR 4294967296 517762881 r c = if r / 2147483648 = c then r * 2 % 4294967296 else (r * 2 % 4294967296) ^^^ 517762881 := rfl
set_option maxHeartbeats 800000 in
theorem Sum32 (l : List UInt8) (hl : Hid (l.length < 1000000)) (w : World) : Calls Try.prog 41 #[.int .i64 32, str l] w (Ret (.int .u64 (Crc.cast l : Nat)) w) := by
  obtain ⟨T, hT⟩ : ∃ T, T = Crc.divR 4294967296 517762881 4294967295 l := ⟨_, rfl⟩
  have hX := Crc.x_32 l
  rw [← hT] at hX
  rw [← hX]
  have HT := hid hT; clear hT hX
  go_enter Try.func41, Try.ntmps41
  go_wp2_with fail
  go_loop [5, 6] (fun t i => ∃ j : Nat, j ≤ 32 ∧ i = .int .i64 j ∧ t = .int .u64 ((2 ^ j : Nat) : Int)) (fun _ i => 32 - (intOf i).toNat)
  case atStart => exact ⟨0, Nat.zero_le _, rfl, rfl⟩
  case round =>
    obtain ⟨j, hj, rfl, rfl⟩ := hrel
    have hp : 2 ^ j ≤ 4294967296 := show 2 ^ j ≤ 2 ^ 32 from Nat.pow_le_pow_right (by omega) (by omega)
    by_cases hlt : j < 32
    · have HS := hid (Nat.pow_succ 2 j)
      generalize 2 ^ j = x at *
      go_wp2_with fail
      go_round
      case rel => exact ⟨j + 1, by omega, by go_num, by rw [HS.out]; go_num⟩
      case measure => simp [intOf]; omega
    · obtain rfl : j = 32 := by omega
      have e2 : (2 : Nat) ^ 32 = 4294967296 := by decide
      rw [e2]
      clear e2 hp
      go_wp2_with fail
      refine (divisor_32 _).mono ?_
      rintro e w1 ⟨rfl, hb1⟩
      go_wp2_with fail
      go_loop [7, 9, 10, 11, 12, 13] (fun r i c k bt h => ∃ j x : Nat, j ≤ l.length ∧ x < 4294967296 ∧ i = .int .i64 j ∧ r = .int .u64 (x : Int) ∧ Hid (T = Crc.divR 4294967296 517762881 x (l.drop j))) (fun _ i _ _ _ _ => l.length - (intOf i).toNat)
      case atStart => exact ⟨0, 4294967295, Nat.zero_le _, by omega, rfl, rfl, HT⟩
      case round =>
        obtain ⟨j, x, hj, hx, rfl, rfl, HR⟩ := hrel
        have hl2 : l.length < 1000000 := hl.out
        by_cases hlt : j < l.length
        · have HS : Hid (T = Crc.divR 4294967296 517762881 (Crc.stepsR 4294967296 517762881 8 x (l[j]).toNat) (l.drop (j + 1))) := by
            have h1 := HR.out
            rw [List.drop_eq_getElem_cons hlt] at h1
            exact h1
          clear HR
          have hc8 := (l[j]).toNat_lt
          go_wp2_with fail
          generalize hcn : (l[j]).toNat = cn at *
          have HCN := hid hcn; clear hcn
          go_loop [7, 10, 11, 12, 13] (fun r c k bt h => ∃ n y d : Nat, n ≤ 8 ∧ y < 4294967296 ∧ d < 256 ∧ k = .int .i64 n ∧ r = .int .u64 (y : Int) ∧ c = .int .i64 (d : Int) ∧ Hid (Crc.stepsR 4294967296 517762881 (8 - n) y d = Crc.stepsR 4294967296 517762881 8 x cn)) (fun _ _ k _ _ => 8 - (intOf k).toNat)
          case atStart => exact ⟨0, x, cn, by omega, hx, by omega, rfl, rfl, (by show Value.int .i64 (wrap64 ((l[j]).toNat : Int)) = _; rw [HCN.out]; congr 1; exact IntWalk.wrap64_in _ (by omega)), rfl⟩
          case round =>
            obtain ⟨n, y, d, hn, hy, hd, rfl, rfl, rfl, HQ⟩ := hrel
            by_cases hn8 : n < 8
            · have HN : Hid (Crc.stepsR 4294967296 517762881 (8 - (n + 1)) (Crc.stepR 4294967296 517762881 y (d % 2)) (d / 2) = Crc.stepsR 4294967296 517762881 8 x cn) := by
                have h1 := HQ.out
                rw [show 8 - n = (8 - (n + 1)) + 1 by omega] at h1
                exact h1
              have hL := Crc.stepR_lt (m := 32) (d := 517762881) (r := y) (b := d % 2) (by decide)
              clear HQ
              by_cases hbit : y / 2147483648 = d % 2
              · have hE : Crc.stepR 4294967296 517762881 y (d % 2) = y * 2 % 4294967296 := by rw [Crc.r_32, if_pos hbit]
                rw [hE] at HN hL
                go_wp2_with fail
                go_round
                case rel => exact ⟨n + 1, _, d / 2, by omega, hL, by omega, by go_num, by simp, by simp, HN⟩
                case measure => simp [intOf]; omega
              · have hE : Crc.stepR 4294967296 517762881 y (d % 2) = (y * 2 % 4294967296) ^^^ 517762881 := by rw [Crc.r_32, if_neg hbit]
                have tX := u64_xor_nat (y * 2 % 4294967296) 517762881 (by omega) (by omega)
                rw [hE] at HN hL
                go_wp2_with fail
                go_round
                case rel => exact ⟨n + 1, _, d / 2, by omega, hL, by omega, by go_num, by rw [← tX]; simp, by simp, HN⟩
                case measure => simp [intOf]; omega
            · obtain rfl : n = 8 := by omega
              have h1 : y = Crc.stepsR 4294967296 517762881 8 x cn := HQ.out
              subst h1
              clear HQ
              go_wp2_with fail
              go_round
              case rel => exact ⟨j + 1, _, by omega, hy, by go_num, rfl, HS⟩
              case measure => simp [intOf]; omega
        · obtain rfl : j = l.length := by omega
          have h1 := HR.out
          rw [List.drop_length] at h1
          have h2 : T = x := h1
          subst h2
          clear HR h1
          go_wp2_with fail
          have K := hid (fun W => turn_n (4294967295 - T) (by unfold Hid; omega) 32 (by unfold Hid; omega) W)
          have e5 : ((4294967295 - T : Nat) : Int) = 4294967295 - (T : Int) := by omega
          rw [e5] at K
          refine (K.out _).mono ?_
          rintro e w2 ⟨rfl, hb2⟩
          go_wp2_with fail
          go_ret
          exact Ret.mk rfl (hb1.trans hb2)
end Go.Proofs.Yticbopfacfmjfaa
