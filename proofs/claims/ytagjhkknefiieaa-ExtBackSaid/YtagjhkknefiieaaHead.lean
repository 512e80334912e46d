/-
  The walks of package cbor's Head, opens, Open: each returns the bytes of its plain Lean function, and turns nothing that was there.
-/
import Derived.Test.YtagjhkknefiieaaSpread
namespace Go.Proofs.Ytagjhkknefiieaa
open Go.RowKit
set_option linter.unusedVariables false

theorem or_small : ∀ m : Fin 8, ∀ k : Fin 32, bits .or .u8 ((m.val : Int) * 32) (k.val : Int) = ((32 * m.val + k.val : Nat) : Int) := by decide +kernel
theorem or_u8 (m : Nat) (k : Int) (hm : m ≤ 7) (h0 : 0 ≤ k) (hk : k < 32) : bits .or .u8 ((m : Int) * 32) k = 32 * (m : Int) + k := by
  obtain ⟨k, rfl⟩ := Int.eq_ofNat_of_zero_le h0
  have := or_small ⟨m, by omega⟩ ⟨k, by omega⟩
  simpa using this
theorem convByte : ∀ (a : Addr) (c : Nat) (w : World), (convert 97 9 (.slice (some a) 1 c)).run Try.prog w =
      match w.cell? a with
      | some (.int .u8 x) => .ok (str [b8i x]) w
      | _ => (Conv.bytesToString (.slice (some a) 1 c)).run Try.prog w :=
  run_byte_string (P := Try.prog) 97 9 5 Try.underlying97 Try.underlying5 Try.underlying9

def mjr (m : Int) : Nat := if 0 ≤ m ∧ m ≤ 7 then m.toNat else 0
theorem mjr_le (m : Int) : mjr m ≤ 7 := by unfold mjr; split <;> omega
def mjB (m : Int) : Bool := decide (m < 0) || decide (7 < m)
theorem mj_bool {b c : Bool} (h : b = c) : Value.bool b = .bool c := by rw [h]
theorem mjr_out {m : Int} (h : mjB m = true) : Value.int .i64 0 = .int .i64 ((mjr m : Nat) : Int) := by
  unfold mjr; unfold mjB at h; simp at h; rw [if_neg (by omega)]; rfl
theorem mjr_in {m : Int} (h : mjB m = false) : Value.int .i64 m = .int .i64 ((mjr m : Nat) : Int) := by
  unfold mjr; unfold mjB at h; simp at h; rw [if_pos ⟨h.1, h.2⟩]; congr 1; omega

set_option maxHeartbeats 400000 in
theorem head_24 (x : Int) (n : Nat) (hn : n < 24) (w : World) :
    Calls Try.prog 72 #[.int .i64 x, .int .u64 n] w (Ret (str [b8 (32 * mjr x + n)]) w) := by
  go_enter Try.func72, Try.ntmps72
  go_upto_region 1 with fail
  go_cut [11] (fun s wx => s = .bool (mjB x) ∧ wx = w)
  case first =>
    go_wp2
    all_goals (go_meet; exact ⟨mj_bool (by unfold mjB; simp [*]), rfl⟩)
  obtain ⟨rfl, rfl⟩ := hcut
  go_upto_if 11 with fail
  go_cut [0] (fun s0 wx => s0 = .int .i64 ((mjr x : Nat) : Int) ∧ wx = wc)
  case first =>
    cases h : mjB x
    · go_wp2
      go_meet
      exact ⟨mjr_in h, rfl⟩
    · go_wp2
      go_meet
      exact ⟨mjr_out h, rfl⟩
  obtain ⟨rfl, rfl⟩ := hcut
  have hm := mjr_le x
  generalize mjr x = m at *
  have h2 : (decide ((n : Int) < 24)) = true := by simp; omega
  have hor := or_u8 m n hm (by omega) (by omega)
  have hcv := convByte
  have hb8 : ∀ m n : Nat, b8i (32 * (m : Int) + n) = b8 (32 * m + n) := fun m n => by unfold b8i b8; congr 1
  go_wp2
  go_ret
  exact ⟨rfl, (Mod.refl _ _).alloc _⟩

set_option maxHeartbeats 400000 in
theorem head_c24 (x : Int) (n : Nat) (h24 : Hid (24 ≤ n)) (hn : Hid (n < 256)) (w : World) :
    Calls Try.prog 72 #[.int .i64 x, .int .u64 n] w (Ret (str (b8 (32 * mjr x + 24) :: be n 1)) w) := by
  go_enter Try.func72, Try.ntmps72
  go_upto_region 1 with fail
  go_cut [11] (fun s wx => s = .bool (mjB x) ∧ wx = w)
  case first =>
    go_wp2
    all_goals (go_meet; exact ⟨mj_bool (by unfold mjB; simp [*]), rfl⟩)
  obtain ⟨rfl, rfl⟩ := hcut
  go_upto_if 11 with fail
  go_cut [0] (fun s0 wx => s0 = .int .i64 ((mjr x : Nat) : Int) ∧ wx = wc)
  case first =>
    cases h : mjB x
    · go_wp2
      go_meet
      exact ⟨mjr_in h, rfl⟩
    · go_wp2
      go_meet
      exact ⟨mjr_out h, rfl⟩
  obtain ⟨rfl, rfl⟩ := hcut
  have hm := mjr_le x
  generalize mjr x = m at *
  have t0 : (decide ((n : Int) < 24)) = false := by have := h24.out; have := hn.out; simp; omega
  have t1 : (decide ((n : Int) < 256)) = true := by have := h24.out; have := hn.out; simp; omega
  have hor := or_u8 m 24 hm (by omega) (by omega)
  have hcv := convByte
  have hb8 : ∀ m : Nat, b8i (32 * (m : Int) + 24) = b8 (32 * m + 24) := fun m => by unfold b8i b8; congr 1
  have hbl := be_length
  have hw8 : IntKind.u8.wrap (n : Int) = n := by have := hn.out; rw [IntKind.wrap_u8]; omega
  go_wp2
  clear t0 t1
  go_region_with ((go_at_call 85; refine (spread_uint8 _ _ (by have := hn.out; omega) (by have := hn.out; omega) (by omega) (by omega) _).mono ?_; rintro e w' ⟨rfl, hb⟩; obtain ⟨hc, hf⟩ := ext_cells hb))
  all_goals go_wp2
  all_goals go_ret
  all_goals refine ⟨congrArg Ending.returned (str_app [_] _), ?_⟩
  all_goals clear hc hf
  all_goals repeat (first | exact Mod.refl _ _ | apply Mod.drew | apply Mod.alloc | (refine Mod.trans ?_ hb; clear hb))

set_option maxHeartbeats 400000 in
theorem head_c25 (x : Int) (n : Nat) (h24 : Hid (256 ≤ n)) (hn : Hid (n < 65536)) (w : World) :
    Calls Try.prog 72 #[.int .i64 x, .int .u64 n] w (Ret (str (b8 (32 * mjr x + 25) :: be n 2)) w) := by
  go_enter Try.func72, Try.ntmps72
  go_upto_region 1 with fail
  go_cut [11] (fun s wx => s = .bool (mjB x) ∧ wx = w)
  case first =>
    go_wp2
    all_goals (go_meet; exact ⟨mj_bool (by unfold mjB; simp [*]), rfl⟩)
  obtain ⟨rfl, rfl⟩ := hcut
  go_upto_if 11 with fail
  go_cut [0] (fun s0 wx => s0 = .int .i64 ((mjr x : Nat) : Int) ∧ wx = wc)
  case first =>
    cases h : mjB x
    · go_wp2
      go_meet
      exact ⟨mjr_in h, rfl⟩
    · go_wp2
      go_meet
      exact ⟨mjr_out h, rfl⟩
  obtain ⟨rfl, rfl⟩ := hcut
  have hm := mjr_le x
  generalize mjr x = m at *
  have t0 : (decide ((n : Int) < 24)) = false := by have := h24.out; have := hn.out; simp; omega
  have t1 : (decide ((n : Int) < 256)) = false := by have := h24.out; have := hn.out; simp; omega
  have t2 : (decide ((n : Int) < 65536)) = true := by have := h24.out; have := hn.out; simp; omega
  have hor := or_u8 m 25 hm (by omega) (by omega)
  have hcv := convByte
  have hb8 : ∀ m : Nat, b8i (32 * (m : Int) + 25) = b8 (32 * m + 25) := fun m => by unfold b8i b8; congr 1
  have hbl := be_length
  have hw8 : IntKind.u16.wrap (n : Int) = n := by have := hn.out; rw [IntKind.wrap_u16]; omega
  go_wp2
  clear t0 t1 t2
  go_region_with ((go_at_call 86; refine (spread_uint16 _ _ (by have := hn.out; omega) (by have := hn.out; omega) (by omega) (by omega) _).mono ?_; rintro e w' ⟨rfl, hb⟩; obtain ⟨hc, hf⟩ := ext_cells hb))
  all_goals go_wp2
  all_goals go_ret
  all_goals refine ⟨congrArg Ending.returned (str_app [_] _), ?_⟩
  all_goals clear hc hf
  all_goals repeat (first | exact Mod.refl _ _ | apply Mod.drew | apply Mod.alloc | (refine Mod.trans ?_ hb; clear hb))

set_option maxHeartbeats 400000 in
theorem head_c26 (x : Int) (n : Nat) (h24 : Hid (65536 ≤ n)) (hn : Hid (n < 4294967296)) (w : World) :
    Calls Try.prog 72 #[.int .i64 x, .int .u64 n] w (Ret (str (b8 (32 * mjr x + 26) :: be n 4)) w) := by
  go_enter Try.func72, Try.ntmps72
  go_upto_region 1 with fail
  go_cut [11] (fun s wx => s = .bool (mjB x) ∧ wx = w)
  case first =>
    go_wp2
    all_goals (go_meet; exact ⟨mj_bool (by unfold mjB; simp [*]), rfl⟩)
  obtain ⟨rfl, rfl⟩ := hcut
  go_upto_if 11 with fail
  go_cut [0] (fun s0 wx => s0 = .int .i64 ((mjr x : Nat) : Int) ∧ wx = wc)
  case first =>
    cases h : mjB x
    · go_wp2
      go_meet
      exact ⟨mjr_in h, rfl⟩
    · go_wp2
      go_meet
      exact ⟨mjr_out h, rfl⟩
  obtain ⟨rfl, rfl⟩ := hcut
  have hm := mjr_le x
  generalize mjr x = m at *
  have t0 : (decide ((n : Int) < 24)) = false := by have := h24.out; have := hn.out; simp; omega
  have t1 : (decide ((n : Int) < 256)) = false := by have := h24.out; have := hn.out; simp; omega
  have t2 : (decide ((n : Int) < 65536)) = false := by have := h24.out; have := hn.out; simp; omega
  have t3 : (decide ((n : Int) < 4294967296)) = true := by have := h24.out; have := hn.out; simp; omega
  have hor := or_u8 m 26 hm (by omega) (by omega)
  have hcv := convByte
  have hb8 : ∀ m : Nat, b8i (32 * (m : Int) + 26) = b8 (32 * m + 26) := fun m => by unfold b8i b8; congr 1
  have hbl := be_length
  have hw8 : IntKind.u32.wrap (n : Int) = n := by have := hn.out; rw [IntKind.wrap_u32]; omega
  go_wp2
  clear t0 t1 t2 t3
  go_region_with ((go_at_call 87; refine (spread_uint32 _ _ (by have := hn.out; omega) (by have := hn.out; omega) (by omega) (by omega) _).mono ?_; rintro e w' ⟨rfl, hb⟩; obtain ⟨hc, hf⟩ := ext_cells hb))
  all_goals go_wp2
  all_goals go_ret
  all_goals refine ⟨congrArg Ending.returned (str_app [_] _), ?_⟩
  all_goals clear hc hf
  all_goals repeat (first | exact Mod.refl _ _ | apply Mod.drew | apply Mod.alloc | (refine Mod.trans ?_ hb; clear hb))

set_option maxHeartbeats 400000 in
theorem head_c27 (x : Int) (n : Nat) (h24 : Hid (4294967296 ≤ n)) (hn : Hid (n < 18446744073709551616)) (w : World) :
    Calls Try.prog 72 #[.int .i64 x, .int .u64 n] w (Ret (str (b8 (32 * mjr x + 27) :: be n 8)) w) := by
  go_enter Try.func72, Try.ntmps72
  go_upto_region 1 with fail
  go_cut [11] (fun s wx => s = .bool (mjB x) ∧ wx = w)
  case first =>
    go_wp2
    all_goals (go_meet; exact ⟨mj_bool (by unfold mjB; simp [*]), rfl⟩)
  obtain ⟨rfl, rfl⟩ := hcut
  go_upto_if 11 with fail
  go_cut [0] (fun s0 wx => s0 = .int .i64 ((mjr x : Nat) : Int) ∧ wx = wc)
  case first =>
    cases h : mjB x
    · go_wp2
      go_meet
      exact ⟨mjr_in h, rfl⟩
    · go_wp2
      go_meet
      exact ⟨mjr_out h, rfl⟩
  obtain ⟨rfl, rfl⟩ := hcut
  have hm := mjr_le x
  generalize mjr x = m at *
  have t0 : (decide ((n : Int) < 24)) = false := by have := h24.out; have := hn.out; simp; omega
  have t1 : (decide ((n : Int) < 256)) = false := by have := h24.out; have := hn.out; simp; omega
  have t2 : (decide ((n : Int) < 65536)) = false := by have := h24.out; have := hn.out; simp; omega
  have t3 : (decide ((n : Int) < 4294967296)) = false := by have := h24.out; have := hn.out; simp; omega
  have hor := or_u8 m 27 hm (by omega) (by omega)
  have hcv := convByte
  have hb8 : ∀ m : Nat, b8i (32 * (m : Int) + 27) = b8 (32 * m + 27) := fun m => by unfold b8i b8; congr 1
  have hbl := be_length
  go_wp2
  clear t0 t1 t2 t3
  go_region_with ((go_at_call 88; refine (spread_uint64 _ _ (by have := hn.out; omega) (by have := hn.out; omega) (by omega) (by omega) _).mono ?_; rintro e w' ⟨rfl, hb⟩; obtain ⟨hc, hf⟩ := ext_cells hb))
  all_goals go_wp2
  all_goals go_ret
  all_goals refine ⟨congrArg Ending.returned (str_app [_] _), ?_⟩
  all_goals clear hc hf
  all_goals repeat (first | exact Mod.refl _ _ | apply Mod.drew | apply Mod.alloc | (refine Mod.trans ?_ hb; clear hb))

theorem head_any (m n : Int) (hn0 : 0 ≤ n) (hn1 : n < 18446744073709551616) (w : World) :
    Calls Try.prog 72 #[.int .i64 m, .int .u64 n] w (Ret (str (headL (mjr m) n.toNat)) w) := by
  obtain ⟨n, rfl⟩ := Int.eq_ofNat_of_zero_le hn0
  rw [Int.toNat_natCast]
  unfold headL
  by_cases a : n < 24
  · rw [if_pos a]; exact head_24 m n a w
  rw [if_neg a]
  by_cases b : n < 256
  · rw [if_pos b]; exact head_c24 m n (Nat.le_of_not_lt a) b w
  rw [if_neg b]
  by_cases c : n < 65536
  · rw [if_pos c]; exact head_c25 m n (Nat.le_of_not_lt b) c w
  rw [if_neg c]
  by_cases d : n < 4294967296
  · rw [if_pos d]; exact head_c26 m n (Nat.le_of_not_lt c) d w
  rw [if_neg d]; exact head_c27 m n (Nat.le_of_not_lt d) (by unfold Hid; omega) w

theorem head_in (m n : Int) (h0 : 0 ≤ m) (h7 : m ≤ 7) (hn0 : 0 ≤ n) (hn1 : n < 18446744073709551616) (w : World) :
    Calls Try.prog 72 #[.int .i64 m, .int .u64 n] w (Ret (str (headL m.toNat n.toNat)) w) := by
  have e : mjr m = m.toNat := by unfold mjr; rw [if_pos ⟨h0, h7⟩]
  rw [← e]; exact head_any m n hn0 hn1 w
end Go.Proofs.Ytagjhkknefiieaa
