/-
  The walks of package cbor's spread, at its four types: a number's bytes, the greatest first.
-/
import Derived.Test.YtagjhkknefiieaaBase
namespace Go.Proofs.Ytagjhkknefiieaa
open Go.RowKit
set_option linter.unusedVariables false

theorem be_step (n k j i : Nat) (h : i ≠ j) : (if i < j then beC n k i else 0) = (if i < j + 1 then beC n k i else 0) := by
  by_cases e : i < j
  · rw [if_pos e, if_pos (by omega)]
  · rw [if_neg e, if_neg (by omega)]
theorem rel_step {wr : World} {b t n k j : Nat} (h : wr.rowIs b t k (fun a => .int .u8 ((if a < j then beC n k a else 0 : Nat) : Int))) :
    (wr.setCell ⟨b, j, none⟩ (.int .u8 ((beC n k j : Nat) : Int))).rowIs b t k (fun a => .int .u8 ((if a < j + 1 then beC n k a else 0 : Nat) : Int)) := by
  refine (h.set j _).congr ?_
  intro i hi
  by_cases e : i = j
  · subst e; simp
  · rw [if_neg e, be_step n k j i e]

theorem infoByte : (Try.prog.info? 5).map (fun i => (i.zero, i.size, i.bytes)) = some (some (.int .u8 0), 1, 1) := by kernel_rfl

set_option maxHeartbeats 400000 in
theorem spread_uint8_n (n : Nat) (hn : n < 256) (k : Nat) (hk : k ≤ 8) (w : World) :
    Calls Try.prog 85 #[.int .u8 n, .int .i64 k] w (Ret (str (be n k)) w) := by
  have hmk := run_make_row' (P := Try.prog) 97 5 (.int .u8 0) 1 Try.underlying97 infoByte rfl .i64 .i64 k (by omega) (by omega)
  go_enter Try.func85, Try.ntmps85
  go_wp2
  go_loopw [11] (fun i wr => ∃ j : Nat, j ≤ k ∧ i = .int .i64 j ∧ Ext w wr ∧ wr.rowIs w.heap.size 5 k (fun a => .int .u8 ((if a < j then beC n k a else 0 : Nat) : Int))) (fun i _ => k - (intOf i).toNat)
  case atStart => exact ⟨0, Nat.zero_le _, rfl, (Mod.refl _ _).alloc _, (World.rowIs_made w _ k 5).congr (by intros; simp)⟩
  case round =>
    obtain ⟨j, hj, rfl, hb, hrow⟩ := hrel
    by_cases hlt : j < k
    · have hcell : wr.cell? ⟨w.heap.size, j, none⟩ = some (.int .u8 0) := by simpa using hrow.cell hlt
      have hfr := hrow.frozen j
      go_wp2
      go_roundw
      case rel => exact ⟨j + 1, by omega, by go_num, hb.setCell (.inr (Nat.le_refl _)) _, by simpa [beC] using rel_step hrow⟩
      case measure => simp [intOf]; omega
    · obtain rfl : j = k := by omega
      have hrow2 := hrow.congr (g := fun a => .int .u8 ((beC n j a : Nat) : Int)) (fun i hi => by simp [hi])
      have hconv := run_row_string (P := Try.prog) wr 97 9 5 Try.underlying97 Try.underlying5 Try.underlying9 _ _ _ j _ hrow2
      clear hrow hrow2
      go_wp2
      go_ret
      exact ⟨rfl, hb⟩
theorem spread_uint8 (x k : Int) (hx : 0 ≤ x) (hx1 : x < 256) (hk : 0 ≤ k) (hk8 : k ≤ 8) (w : World) :
    Calls Try.prog 85 #[.int .u8 x, .int .i64 k] w (Ret (str (be x.toNat k.toNat)) w) := by
  obtain ⟨n, rfl⟩ := Int.eq_ofNat_of_zero_le hx
  obtain ⟨k, rfl⟩ := Int.eq_ofNat_of_zero_le hk
  exact spread_uint8_n n (by omega) k (by omega) w

set_option maxHeartbeats 400000 in
theorem spread_uint16_n (n : Nat) (hn : n < 65536) (k : Nat) (hk : k ≤ 8) (w : World) :
    Calls Try.prog 86 #[.int .u16 n, .int .i64 k] w (Ret (str (be n k)) w) := by
  have hmk := run_make_row' (P := Try.prog) 97 5 (.int .u8 0) 1 Try.underlying97 infoByte rfl .i64 .i64 k (by omega) (by omega)
  go_enter Try.func86, Try.ntmps86
  go_wp2
  go_loopw [11] (fun i wr => ∃ j : Nat, j ≤ k ∧ i = .int .i64 j ∧ Ext w wr ∧ wr.rowIs w.heap.size 5 k (fun a => .int .u8 ((if a < j then beC n k a else 0 : Nat) : Int))) (fun i _ => k - (intOf i).toNat)
  case atStart => exact ⟨0, Nat.zero_le _, rfl, (Mod.refl _ _).alloc _, (World.rowIs_made w _ k 5).congr (by intros; simp)⟩
  case round =>
    obtain ⟨j, hj, rfl, hb, hrow⟩ := hrel
    by_cases hlt : j < k
    · have hcell : wr.cell? ⟨w.heap.size, j, none⟩ = some (.int .u8 0) := by simpa using hrow.cell hlt
      have hfr := hrow.frozen j
      go_wp2
      go_roundw
      case rel => exact ⟨j + 1, by omega, by go_num, hb.setCell (.inr (Nat.le_refl _)) _, by simpa [beC] using rel_step hrow⟩
      case measure => simp [intOf]; omega
    · obtain rfl : j = k := by omega
      have hrow2 := hrow.congr (g := fun a => .int .u8 ((beC n j a : Nat) : Int)) (fun i hi => by simp [hi])
      have hconv := run_row_string (P := Try.prog) wr 97 9 5 Try.underlying97 Try.underlying5 Try.underlying9 _ _ _ j _ hrow2
      clear hrow hrow2
      go_wp2
      go_ret
      exact ⟨rfl, hb⟩
theorem spread_uint16 (x k : Int) (hx : 0 ≤ x) (hx1 : x < 65536) (hk : 0 ≤ k) (hk8 : k ≤ 8) (w : World) :
    Calls Try.prog 86 #[.int .u16 x, .int .i64 k] w (Ret (str (be x.toNat k.toNat)) w) := by
  obtain ⟨n, rfl⟩ := Int.eq_ofNat_of_zero_le hx
  obtain ⟨k, rfl⟩ := Int.eq_ofNat_of_zero_le hk
  exact spread_uint16_n n (by omega) k (by omega) w

set_option maxHeartbeats 400000 in
theorem spread_uint32_n (n : Nat) (hn : n < 4294967296) (k : Nat) (hk : k ≤ 8) (w : World) :
    Calls Try.prog 87 #[.int .u32 n, .int .i64 k] w (Ret (str (be n k)) w) := by
  have hmk := run_make_row' (P := Try.prog) 97 5 (.int .u8 0) 1 Try.underlying97 infoByte rfl .i64 .i64 k (by omega) (by omega)
  go_enter Try.func87, Try.ntmps87
  go_wp2
  go_loopw [11] (fun i wr => ∃ j : Nat, j ≤ k ∧ i = .int .i64 j ∧ Ext w wr ∧ wr.rowIs w.heap.size 5 k (fun a => .int .u8 ((if a < j then beC n k a else 0 : Nat) : Int))) (fun i _ => k - (intOf i).toNat)
  case atStart => exact ⟨0, Nat.zero_le _, rfl, (Mod.refl _ _).alloc _, (World.rowIs_made w _ k 5).congr (by intros; simp)⟩
  case round =>
    obtain ⟨j, hj, rfl, hb, hrow⟩ := hrel
    by_cases hlt : j < k
    · have hcell : wr.cell? ⟨w.heap.size, j, none⟩ = some (.int .u8 0) := by simpa using hrow.cell hlt
      have hfr := hrow.frozen j
      go_wp2
      go_roundw
      case rel => exact ⟨j + 1, by omega, by go_num, hb.setCell (.inr (Nat.le_refl _)) _, by simpa [beC] using rel_step hrow⟩
      case measure => simp [intOf]; omega
    · obtain rfl : j = k := by omega
      have hrow2 := hrow.congr (g := fun a => .int .u8 ((beC n j a : Nat) : Int)) (fun i hi => by simp [hi])
      have hconv := run_row_string (P := Try.prog) wr 97 9 5 Try.underlying97 Try.underlying5 Try.underlying9 _ _ _ j _ hrow2
      clear hrow hrow2
      go_wp2
      go_ret
      exact ⟨rfl, hb⟩
theorem spread_uint32 (x k : Int) (hx : 0 ≤ x) (hx1 : x < 4294967296) (hk : 0 ≤ k) (hk8 : k ≤ 8) (w : World) :
    Calls Try.prog 87 #[.int .u32 x, .int .i64 k] w (Ret (str (be x.toNat k.toNat)) w) := by
  obtain ⟨n, rfl⟩ := Int.eq_ofNat_of_zero_le hx
  obtain ⟨k, rfl⟩ := Int.eq_ofNat_of_zero_le hk
  exact spread_uint32_n n (by omega) k (by omega) w

set_option maxHeartbeats 400000 in
theorem spread_uint64_n (n : Nat) (hn : n < 18446744073709551616) (k : Nat) (hk : k ≤ 8) (w : World) :
    Calls Try.prog 88 #[.int .u64 n, .int .i64 k] w (Ret (str (be n k)) w) := by
  have hmk := run_make_row' (P := Try.prog) 97 5 (.int .u8 0) 1 Try.underlying97 infoByte rfl .i64 .i64 k (by omega) (by omega)
  go_enter Try.func88, Try.ntmps88
  go_wp2
  go_loopw [11] (fun i wr => ∃ j : Nat, j ≤ k ∧ i = .int .i64 j ∧ Ext w wr ∧ wr.rowIs w.heap.size 5 k (fun a => .int .u8 ((if a < j then beC n k a else 0 : Nat) : Int))) (fun i _ => k - (intOf i).toNat)
  case atStart => exact ⟨0, Nat.zero_le _, rfl, (Mod.refl _ _).alloc _, (World.rowIs_made w _ k 5).congr (by intros; simp)⟩
  case round =>
    obtain ⟨j, hj, rfl, hb, hrow⟩ := hrel
    by_cases hlt : j < k
    · have hcell : wr.cell? ⟨w.heap.size, j, none⟩ = some (.int .u8 0) := by simpa using hrow.cell hlt
      have hfr := hrow.frozen j
      go_wp2
      go_roundw
      case rel => exact ⟨j + 1, by omega, by go_num, hb.setCell (.inr (Nat.le_refl _)) _, by simpa [beC] using rel_step hrow⟩
      case measure => simp [intOf]; omega
    · obtain rfl : j = k := by omega
      have hrow2 := hrow.congr (g := fun a => .int .u8 ((beC n j a : Nat) : Int)) (fun i hi => by simp [hi])
      have hconv := run_row_string (P := Try.prog) wr 97 9 5 Try.underlying97 Try.underlying5 Try.underlying9 _ _ _ j _ hrow2
      clear hrow hrow2
      go_wp2
      go_ret
      exact ⟨rfl, hb⟩
theorem spread_uint64 (x k : Int) (hx : 0 ≤ x) (hx1 : x < 18446744073709551616) (hk : 0 ≤ k) (hk8 : k ≤ 8) (w : World) :
    Calls Try.prog 88 #[.int .u64 x, .int .i64 k] w (Ret (str (be x.toNat k.toNat)) w) := by
  obtain ⟨n, rfl⟩ := Int.eq_ofNat_of_zero_le hx
  obtain ⟨k, rfl⟩ := Int.eq_ofNat_of_zero_le hk
  exact spread_uint64_n n (by omega) k (by omega) w

end Go.Proofs.Ytagjhkknefiieaa
