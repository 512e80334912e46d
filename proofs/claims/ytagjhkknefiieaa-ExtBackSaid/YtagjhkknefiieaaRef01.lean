/-
  The walks of the reference's digits and Head.
-/
import Derived.Test.YtagjhkknefiieaaOpen
namespace Go.Proofs.Ytagjhkknefiieaa
open Go.RowKit
set_option linter.unusedVariables false

theorem digits_str {n j q : Nat} (h : n / 2 ^ (8 * j) = q) : Value.string ((⟨#[b8i ((q : Int) % 256)]⟩ : ByteArray) ++ ⟨(be n j).toArray⟩) = str (be n (j + 1)) := by
  rw [be_succ, h]; exact str_app [_] _
theorem digits_num {n j q : Nat} (hn : n < 18446744073709551616) (h : n / 2 ^ (8 * j) = q) : Value.int .u64 (IntKind.u64.wrap ((q : Int) / 256)) = .int .u64 ((n / 2 ^ (8 * (j + 1)) : Nat) : Int) := by
  have hq : q ≤ n := by rw [← h]; exact Nat.div_le_self _ _
  rw [IntWalk.u64_in _ (by omega), Nat.mul_add, Nat.pow_add, ← Nat.div_div_eq_div_mul, h]; rfl

set_option maxHeartbeats 400000 in
theorem digits_n (n : Nat) (hn : Hid (n < 18446744073709551616)) (k : Nat) (hk : k ≤ 8) (w : World) :
    Calls Try.prog 54 #[.int .u64 n, .int .i64 k] w (Ret (str (be n k)) w) := by
  have hcv := convByte
  go_enter Try.func54, Try.ntmps54
  go_wp2
  go_loopw [0, 5, 6] (fun x s i wr => ∃ j : Nat, j ≤ k ∧ i = .int .i64 j ∧ s = str (be n j) ∧ x = .int .u64 ((n / 2 ^ (8 * j) : Nat) : Int) ∧ Ext w wr) (fun _ _ i _ => k - (intOf i).toNat)
  case atStart => exact ⟨0, Nat.zero_le _, rfl, rfl, by simp, Mod.refl _ _⟩
  case round =>
    obtain ⟨j, hj, rfl, rfl, rfl, hb⟩ := hrel
    have hbl := be_length n j
    generalize hq : n / 2 ^ (8 * j) = q
    have HQ := hid hq; clear hq
    by_cases hlt : j < k
    · go_wp2
      go_roundw
      case rel => exact ⟨j + 1, by omega, by go_num, digits_str HQ.out, digits_num hn.out HQ.out, hb.alloc _⟩
      case measure => simp [intOf]; omega
    · obtain rfl : j = k := by omega
      go_wp2
      go_ret
      exact ⟨rfl, hb⟩
theorem digits_any (x k : Int) (hx : 0 ≤ x) (hx1 : x < 18446744073709551616) (hk : 0 ≤ k) (hk8 : k ≤ 8) (w : World) :
    Calls Try.prog 54 #[.int .u64 x, .int .i64 k] w (Ret (str (be x.toNat k.toNat)) w) := by
  obtain ⟨n, rfl⟩ := Int.eq_ofNat_of_zero_le hx
  obtain ⟨k, rfl⟩ := Int.eq_ofNat_of_zero_le hk
  exact digits_n n (by unfold Hid; omega) k (by omega) w

set_option maxHeartbeats 400000 in
theorem rhead_24 (m : Nat) (hm : m ≤ 7) (n : Nat) (hn : n < 24) (w : World) :
    Calls Try.prog 35 #[.int .i64 m, .int .u64 n] w (Ret (str [b8 (32 * m + n)]) w) := by
  have h2 : (decide ((n : Int) < 24)) = true := by simp; omega
  have hcv := convByte
  have hb8 : ∀ m n : Nat, b8i (32 * (m : Int) + n) = b8 (32 * m + n) := fun m n => by unfold b8i b8; congr 1
  go_enter Try.func35, Try.ntmps35
  go_wp2
  go_ret
  exact ⟨rfl, (Mod.refl _ _).alloc _⟩

set_option maxHeartbeats 400000 in
theorem rhead_c24 (m : Nat) (hm : m ≤ 7) (n : Nat) (h24 : Hid (24 ≤ n)) (hn : Hid (n < 256)) (w : World) :
    Calls Try.prog 35 #[.int .i64 m, .int .u64 n] w (Ret (str (b8 (32 * m + 24) :: be n 1)) w) := by
  have t0 : (decide ((n : Int) < 24)) = false := by have := h24.out; have := hn.out; simp; omega
  have t1 : (decide ((n : Int) < 256)) = true := by have := h24.out; have := hn.out; simp; omega
  have hcv := convByte
  have hb8 : ∀ m : Nat, b8i (32 * (m : Int) + 24) = b8 (32 * m + 24) := fun m => by unfold b8i b8; congr 1
  have hbl := be_length
  have hww : IntKind.u8.wrap (32 * (m : Int) + 24) = 32 * (m : Int) + 24 := by rw [IntKind.wrap_u8]; omega
  go_enter Try.func35, Try.ntmps35
  go_wp2
  clear t0 t1
  go_region_with ((go_at_call 54; refine (digits_any _ _ (by have := hn.out; omega) (by have := hn.out; omega) (by omega) (by omega) _).mono ?_; rintro e w' ⟨rfl, hb⟩; obtain ⟨hc, hf⟩ := ext_cells hb))
  all_goals go_wp2
  all_goals go_ret
  all_goals refine ⟨congrArg Ending.returned (str_app [_] _), ?_⟩
  all_goals clear hc hf
  all_goals repeat (first | exact Mod.refl _ _ | apply Mod.drew | apply Mod.alloc | (refine Mod.trans ?_ hb; clear hb))

set_option maxHeartbeats 400000 in
theorem rhead_c25 (m : Nat) (hm : m ≤ 7) (n : Nat) (h24 : Hid (256 ≤ n)) (hn : Hid (n < 65536)) (w : World) :
    Calls Try.prog 35 #[.int .i64 m, .int .u64 n] w (Ret (str (b8 (32 * m + 25) :: be n 2)) w) := by
  have t0 : (decide ((n : Int) < 24)) = false := by have := h24.out; have := hn.out; simp; omega
  have t1 : (decide ((n : Int) < 256)) = false := by have := h24.out; have := hn.out; simp; omega
  have t2 : (decide ((n : Int) < 65536)) = true := by have := h24.out; have := hn.out; simp; omega
  have hcv := convByte
  have hb8 : ∀ m : Nat, b8i (32 * (m : Int) + 25) = b8 (32 * m + 25) := fun m => by unfold b8i b8; congr 1
  have hbl := be_length
  have hww : IntKind.u8.wrap (32 * (m : Int) + 25) = 32 * (m : Int) + 25 := by rw [IntKind.wrap_u8]; omega
  go_enter Try.func35, Try.ntmps35
  go_wp2
  clear t0 t1 t2
  go_region_with ((go_at_call 54; refine (digits_any _ _ (by have := hn.out; omega) (by have := hn.out; omega) (by omega) (by omega) _).mono ?_; rintro e w' ⟨rfl, hb⟩; obtain ⟨hc, hf⟩ := ext_cells hb))
  all_goals go_wp2
  all_goals go_ret
  all_goals refine ⟨congrArg Ending.returned (str_app [_] _), ?_⟩
  all_goals clear hc hf
  all_goals repeat (first | exact Mod.refl _ _ | apply Mod.drew | apply Mod.alloc | (refine Mod.trans ?_ hb; clear hb))

set_option maxHeartbeats 400000 in
theorem rhead_c26 (m : Nat) (hm : m ≤ 7) (n : Nat) (h24 : Hid (65536 ≤ n)) (hn : Hid (n < 4294967296)) (w : World) :
    Calls Try.prog 35 #[.int .i64 m, .int .u64 n] w (Ret (str (b8 (32 * m + 26) :: be n 4)) w) := by
  have t0 : (decide ((n : Int) < 24)) = false := by have := h24.out; have := hn.out; simp; omega
  have t1 : (decide ((n : Int) < 256)) = false := by have := h24.out; have := hn.out; simp; omega
  have t2 : (decide ((n : Int) < 65536)) = false := by have := h24.out; have := hn.out; simp; omega
  have t3 : (decide ((n : Int) < 4294967296)) = true := by have := h24.out; have := hn.out; simp; omega
  have hcv := convByte
  have hb8 : ∀ m : Nat, b8i (32 * (m : Int) + 26) = b8 (32 * m + 26) := fun m => by unfold b8i b8; congr 1
  have hbl := be_length
  have hww : IntKind.u8.wrap (32 * (m : Int) + 26) = 32 * (m : Int) + 26 := by rw [IntKind.wrap_u8]; omega
  go_enter Try.func35, Try.ntmps35
  go_wp2
  clear t0 t1 t2 t3
  go_region_with ((go_at_call 54; refine (digits_any _ _ (by have := hn.out; omega) (by have := hn.out; omega) (by omega) (by omega) _).mono ?_; rintro e w' ⟨rfl, hb⟩; obtain ⟨hc, hf⟩ := ext_cells hb))
  all_goals go_wp2
  all_goals go_ret
  all_goals refine ⟨congrArg Ending.returned (str_app [_] _), ?_⟩
  all_goals clear hc hf
  all_goals repeat (first | exact Mod.refl _ _ | apply Mod.drew | apply Mod.alloc | (refine Mod.trans ?_ hb; clear hb))

set_option maxHeartbeats 400000 in
theorem rhead_c27 (m : Nat) (hm : m ≤ 7) (n : Nat) (h24 : Hid (4294967296 ≤ n)) (hn : Hid (n < 18446744073709551616)) (w : World) :
    Calls Try.prog 35 #[.int .i64 m, .int .u64 n] w (Ret (str (b8 (32 * m + 27) :: be n 8)) w) := by
  have t0 : (decide ((n : Int) < 24)) = false := by have := h24.out; have := hn.out; simp; omega
  have t1 : (decide ((n : Int) < 256)) = false := by have := h24.out; have := hn.out; simp; omega
  have t2 : (decide ((n : Int) < 65536)) = false := by have := h24.out; have := hn.out; simp; omega
  have t3 : (decide ((n : Int) < 4294967296)) = false := by have := h24.out; have := hn.out; simp; omega
  have hcv := convByte
  have hb8 : ∀ m : Nat, b8i (32 * (m : Int) + 27) = b8 (32 * m + 27) := fun m => by unfold b8i b8; congr 1
  have hbl := be_length
  have hww : IntKind.u8.wrap (32 * (m : Int) + 27) = 32 * (m : Int) + 27 := by rw [IntKind.wrap_u8]; omega
  go_enter Try.func35, Try.ntmps35
  go_wp2
  clear t0 t1 t2 t3
  go_region_with ((go_at_call 54; refine (digits_any _ _ (by have := hn.out; omega) (by have := hn.out; omega) (by omega) (by omega) _).mono ?_; rintro e w' ⟨rfl, hb⟩; obtain ⟨hc, hf⟩ := ext_cells hb))
  all_goals go_wp2
  all_goals go_ret
  all_goals refine ⟨congrArg Ending.returned (str_app [_] _), ?_⟩
  all_goals clear hc hf
  all_goals repeat (first | exact Mod.refl _ _ | apply Mod.drew | apply Mod.alloc | (refine Mod.trans ?_ hb; clear hb))

theorem rhead_in (m n : Int) (h0 : 0 ≤ m) (h7 : m ≤ 7) (hn0 : 0 ≤ n) (hn1 : n < 18446744073709551616) (w : World) :
    Calls Try.prog 35 #[.int .i64 m, .int .u64 n] w (Ret (str (headL m.toNat n.toNat)) w) := by
  obtain ⟨m, rfl⟩ := Int.eq_ofNat_of_zero_le h0
  obtain ⟨n, rfl⟩ := Int.eq_ofNat_of_zero_le hn0
  rw [Int.toNat_natCast, Int.toNat_natCast]
  unfold headL
  by_cases a : n < 24
  · rw [if_pos a]; exact rhead_24 m (by omega) n a w
  rw [if_neg a]
  by_cases b : n < 256
  · rw [if_pos b]; exact rhead_c24 m (by omega) n (Nat.le_of_not_lt a) b w
  rw [if_neg b]
  by_cases c : n < 65536
  · rw [if_pos c]; exact rhead_c25 m (by omega) n (Nat.le_of_not_lt b) c w
  rw [if_neg c]
  by_cases d : n < 4294967296
  · rw [if_pos d]; exact rhead_c26 m (by omega) n (Nat.le_of_not_lt c) d w
  rw [if_neg d]; exact rhead_c27 m (by omega) n (Nat.le_of_not_lt d) (by unfold Hid; omega) w
end Go.Proofs.Ytagjhkknefiieaa
