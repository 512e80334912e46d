/-
  The reference's sums.
-/
import Derived.Test.YticbopfacfmjfaaCrc2
namespace Go.Proofs.Yticbopfacfmjfaa
open Go.RowKit
set_option linter.unusedVariables false

theorem Crc.rv_succ : ∀ (i n : Nat), Crc.rv (i + 1) n = 2 * Crc.rv i n + n / 2 ^ i % 2
  | 0, n => by simp [Crc.rv]
  | i + 1, n => by
    have h := Crc.rv_succ i (n / 2)
    have e : n / 2 / 2 ^ i = n / 2 ^ (i + 1) := by rw [Nat.div_div_eq_div_mul, Nat.pow_succ, Nat.mul_comm]
    have e2 : 2 ^ (i + 1) * (n % 2) = 2 * (2 ^ i * (n % 2)) := by rw [Nat.pow_succ, Nat.mul_comm (2 ^ i) 2, Nat.mul_assoc]
    have e3 : Crc.rv (i + 1 + 1) n = 2 ^ (i + 1) * (n % 2) + Crc.rv (i + 1) (n / 2) := rfl
    have e4 : Crc.rv (i + 1) n = 2 ^ i * (n % 2) + Crc.rv i (n / 2) := rfl
    rw [e3, h, e4, e, e2]
    omega

set_option maxHeartbeats 400000 in
theorem turn_n (n : Nat) (hn : Hid (n < 4294967296)) (size : Nat) (hs : Hid (size ≤ 32)) (w : World) : Calls Try.prog 56 #[.int .u64 (n : Int), .int .i64 (size : Int)] w (Ret (.int .u64 (Crc.rv size n : Nat)) w) := by
  go_enter Try.func56, Try.ntmps56
  go_wp2
  go_loopw [0, 5, 6] (fun x o i wr => ∃ j : Nat, j ≤ size ∧ i = .int .i64 j ∧ o = .int .u64 ((Crc.rv j n : Nat) : Int) ∧ x = .int .u64 ((n / 2 ^ j : Nat) : Int) ∧ Ext w wr) (fun _ _ i _ => size - (intOf i).toNat)
  case atStart => exact ⟨0, Nat.zero_le _, rfl, rfl, by simp, Mod.refl _ _⟩
  case round =>
    obtain ⟨j, hj, rfl, rfl, rfl, hb⟩ := hrel
    by_cases hlt : j < size
    · have h32 := hs.out
      have HS := hid (Crc.rv_succ j n)
      have hx : n / 2 ^ (j + 1) = n / 2 ^ j / 2 := by rw [Nat.div_div_eq_div_mul, Nat.pow_succ]
      have HX := hid hx; clear hx
      have hr : Crc.rv j n < 4294967296 := Nat.lt_of_lt_of_le (Crc.rv_lt j n) (show 2 ^ j ≤ 2 ^ 32 from Nat.pow_le_pow_right (by omega) (by omega))
      have hq : n / 2 ^ j < 4294967296 := Nat.lt_of_le_of_lt (Nat.div_le_self _ _) hn.out
      generalize Crc.rv j n = r at *
      generalize n / 2 ^ j = q at *
      go_wp2
      go_roundw
      case rel => exact ⟨j + 1, by omega, by go_num, by rw [HS.out]; go_num, by rw [HX.out]; go_num, hb⟩
      case measure => simp [intOf]; omega
    · obtain rfl : j = size := by omega
      go_wp2
      go_ret
      exact ⟨rfl, hb⟩

set_option maxHeartbeats 400000 in
theorem divisor_16 (w : World) : Calls Try.prog 55 #[.int .i64 16] w (Ret (.int .u64 4129) w) := by
  go_enter Try.func55, Try.ntmps55
  go_wp2
  go_ret
  exact Ret.mk rfl (Mod.refl _ _)
def Crc.tab : List Nat := [28, 27, 26, 25, 23, 22, 20, 19, 18, 14, 13, 11, 10, 9, 8, 6, 0]
def Crc.dv (j : Nat) : Nat := ((Crc.tab.take j).map (2 ^ ·)).sum
theorem Crc.dv_succ : ∀ j : Fin 17, Crc.dv (j.val + 1) = Crc.dv j.val + 2 ^ (Crc.tab.getD j.val 0) ∧ Crc.dv j.val ≤ 517762881 ∧ Crc.tab.getD j.val 0 ≤ 28 := by decide
set_option maxHeartbeats 400000 in
theorem divisor_32 (w : World) : Calls Try.prog 55 #[.int .i64 32] w (Ret (.int .u64 517762881) w) := by
  go_enter Try.func55, Try.ntmps55
  go_wp2
  have hext := hid ((Mod.refl [] w).alloc (.cells ((Crc.tab.map fun (n : Nat) => Value.int .i64 (n : Int)).toArray) 92))
  have hcell : Hid (∀ j, j < 17 → (w.alloc (.cells ((Crc.tab.map fun (n : Nat) => Value.int .i64 (n : Int)).toArray) 92)).cell? ⟨w.heap.size, j, none⟩ = some (.int .i64 ((Crc.tab.getD j 0 : Nat) : Int))) := fun j hj => by
    rw [(Blk.new w 92 _).cell j]
    have h : j < Crc.tab.length := hj
    simp [h]
  have hW : ∃ W, W = w.alloc (.cells ((Crc.tab.map fun (n : Nat) => Value.int .i64 (n : Int)).toArray) 92) := ⟨_, rfl⟩
  obtain ⟨W, hW⟩ := hW
  rw [← hW] at hext hcell
  change Code.wp _ _ _ _ (w.alloc (.cells ((Crc.tab.map fun (n : Nat) => Value.int .i64 (n : Int)).toArray) 92))
  rw [← hW]
  clear hW
  go_loop [3, 5, 6, 7] (fun n i p k => ∃ j : Nat, j ≤ 17 ∧ i = .int .i64 j ∧ n = .int .u64 ((Crc.dv j : Nat) : Int)) (fun _ i _ _ => 17 - (intOf i).toNat)
  case atStart => exact ⟨0, Nat.zero_le _, rfl, rfl⟩
  case round =>
    obtain ⟨j, hj, rfl, rfl⟩ := hrel
    by_cases hlt : j < 17
    · have hc := hcell.out j hlt
      obtain ⟨hd, hd2, ht⟩ := Crc.dv_succ ⟨j, hlt⟩
      simp only [] at hd hd2 ht
      have HD := hid hd; clear hd
      generalize Crc.tab.getD j 0 = t at *
      generalize Crc.dv j = d at *
      go_wp2
      go_loop [6, 7] (fun p k => ∃ i : Nat, i ≤ t ∧ k = .int .i64 i ∧ p = .int .u64 ((2 ^ i : Nat) : Int)) (fun _ k => t - (intOf k).toNat)
      case atStart => exact ⟨0, Nat.zero_le _, rfl, rfl⟩
      case round =>
        obtain ⟨i, hi, rfl, rfl⟩ := hrel
        have hp : 2 ^ i ≤ 268435456 := show 2 ^ i ≤ 2 ^ 28 from Nat.pow_le_pow_right (by omega) (by omega)
        by_cases hil : i < t
        · have HS := hid (Nat.pow_succ 2 i)
          generalize 2 ^ i = x at *
          go_wp2
          go_round
          case rel => exact ⟨i + 1, by omega, by go_num, by rw [HS.out]; go_num⟩
          case measure => simp [intOf]; omega
        · obtain rfl : i = t := by omega
          generalize 2 ^ i = x at *
          go_wp2
          go_round
          case rel => exact ⟨j + 1, by omega, by go_num, by rw [HD.out]; go_num⟩
          case measure => simp [intOf]; omega
    · obtain rfl : j = 17 := by omega
      go_wp2
      go_ret
      have e : Crc.dv 17 = 517762881 := by decide
      refine ⟨?_, hext.out⟩
      show Ending.returned (.int .u64 ((Crc.dv 17 : Nat) : Int)) = _
      rw [e]; rfl
end Go.Proofs.Yticbopfacfmjfaa
