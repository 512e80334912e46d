/-
  The walks of package cbor's Head, opens, Open: each returns the bytes of its plain Lean function, and turns nothing that was there.
  The walks of package cbor's opens, Open and NewReader.
  The walks of the reference's digits and Head.
  Items: right ones, few ones; the reference's bytes.
  The walks of cbor.Bytes, cbor.Text and of the reference's.
  Items: the code's Right, Build and Same.
  Items: the code's Build and Same.
  A right name's item, by the code and by the reference.
  Sums against chance, plainly: the code's (bits turned about, a byte at a time) and the reference's (bits in a row) are the same.
  Lists of items, plainly; a primary's items and bytes; why it is not right.
  Regions that draw their order, whose operations read and whose callees turn nothing that was there: walked once, in the order of the text.
  Later worlds: nothing that was there has turned; drawn regions of quiet operations over them.
  A block's cells, stored anew one by one.
  Reports, plainly; which are right.
  Bundles in memory.
-/
import Derived.Test.YtogjghmoankleaaGreatMReportNevera
import Init
import Derived.Laws.Rows
import Derived.Deep.Quiet
import Derived.Deep.MidRow
import Derived.Deep.RegionHeld3

namespace Go.Proofs.YtogjghmoankleaaGreat
open Go.RowKit
set_option linter.unusedVariables false
set_option linter.unusedSimpArgs false

theorem or_small : ∀ m : Fin 8, ∀ k : Fin 32, bits .or .u8 ((m.val : Int) * 32) (k.val : Int) = ((32 * m.val + k.val : Nat) : Int) := by decide +kernel
theorem or_u8 (m : Nat) (k : Int) (hm : m ≤ 7) (h0 : 0 ≤ k) (hk : k < 32) : bits .or .u8 ((m : Int) * 32) k = 32 * (m : Int) + k := by
  obtain ⟨k, rfl⟩ := Int.eq_ofNat_of_zero_le h0
  have := or_small ⟨m, by omega⟩ ⟨k, by omega⟩
  simpa using this
theorem convByte : ∀ (a : Addr) (c : Nat) (w : World), (convert 99 9 (.slice (some a) 1 c)).run Tryz.prog w =
      match w.cell? a with
      | some (.int .u8 x) => .ok (str [b8i x]) w
      | _ => (Conv.bytesToString (.slice (some a) 1 c)).run Tryz.prog w :=
  run_byte_string (P := Tryz.prog) 99 9 5 Tryz.underlying99 Tryz.underlying5 Tryz.underlying9

def mjr (m : Int) : Nat := if 0 ≤ m ∧ m ≤ 7 then m.toNat else 0
theorem mjr_le (m : Int) : mjr m ≤ 7 := by unfold mjr; split <;> omega
def mjB (m : Int) : Bool := decide (m < 0) || decide (7 < m)
theorem mj_bool {b c : Bool} (h : b = c) : Value.bool b = .bool c := by rw [h]
theorem mjr_out {m : Int} (h : mjB m = true) : Value.int .i64 0 = .int .i64 ((mjr m : Nat) : Int) := by
  unfold mjr; unfold mjB at h; simp at h; rw [if_neg (by omega)]; rfl
theorem mjr_in {m : Int} (h : mjB m = false) : Value.int .i64 m = .int .i64 ((mjr m : Nat) : Int) := by
  unfold mjr; unfold mjB at h; simp at h; rw [if_pos ⟨h.1, h.2⟩]; congr 1; omega

set_option maxHeartbeats 400000 in
theorem head_24 (x : Int) (n : Nat) (hn : n < 24) (w : World) :
    Calls Tryz.prog 71 #[.int .i64 x, .int .u64 n] w (Ret (str [b8 (32 * mjr x + n)]) w) := by
  go_enter Tryz.func71, Tryz.ntmps71
  go_upto_region 1 with fail
  go_cut [11] (fun s wx => s = .bool (mjB x) ∧ wx = w)
  case first =>
    go_wp2
    all_goals (go_meet; exact ⟨mj_bool (by unfold mjB; simp [*]), rfl⟩)
  obtain ⟨rfl, rfl⟩ := hcut
  go_upto_if 11 with fail
  go_cut [0] (fun s0 wx => s0 = .int .i64 ((mjr x : Nat) : Int) ∧ wx = wc)
  case first =>
    cases h : mjB x
    · go_wp2
      go_meet
      exact ⟨mjr_in h, rfl⟩
    · go_wp2
      go_meet
      exact ⟨mjr_out h, rfl⟩
  obtain ⟨rfl, rfl⟩ := hcut
  have hm := mjr_le x
  generalize mjr x = m at *
  have h2 : (decide ((n : Int) < 24)) = true := by simp; omega
  have hor := or_u8 m n hm (by omega) (by omega)
  have hcv := convByte
  have hb8 : ∀ m n : Nat, b8i (32 * (m : Int) + n) = b8 (32 * m + n) := fun m n => by unfold b8i b8; congr 1
  go_wp2
  go_ret
  exact ⟨rfl, (Mod.refl _ _).alloc _⟩

set_option maxHeartbeats 400000 in
theorem head_c24 (x : Int) (n : Nat) (h24 : Hid (24 ≤ n)) (hn : Hid (n < 256)) (w : World) :
    Calls Tryz.prog 71 #[.int .i64 x, .int .u64 n] w (Ret (str (b8 (32 * mjr x + 24) :: be n 1)) w) := by
  go_enter Tryz.func71, Tryz.ntmps71
  go_upto_region 1 with fail
  go_cut [11] (fun s wx => s = .bool (mjB x) ∧ wx = w)
  case first =>
    go_wp2
    all_goals (go_meet; exact ⟨mj_bool (by unfold mjB; simp [*]), rfl⟩)
  obtain ⟨rfl, rfl⟩ := hcut
  go_upto_if 11 with fail
  go_cut [0] (fun s0 wx => s0 = .int .i64 ((mjr x : Nat) : Int) ∧ wx = wc)
  case first =>
    cases h : mjB x
    · go_wp2
      go_meet
      exact ⟨mjr_in h, rfl⟩
    · go_wp2
      go_meet
      exact ⟨mjr_out h, rfl⟩
  obtain ⟨rfl, rfl⟩ := hcut
  have hm := mjr_le x
  generalize mjr x = m at *
  have t0 : (decide ((n : Int) < 24)) = false := by have := h24.out; have := hn.out; simp; omega
  have t1 : (decide ((n : Int) < 256)) = true := by have := h24.out; have := hn.out; simp; omega
  have hor := or_u8 m 24 hm (by omega) (by omega)
  have hcv := convByte
  have hb8 : ∀ m : Nat, b8i (32 * (m : Int) + 24) = b8 (32 * m + 24) := fun m => by unfold b8i b8; congr 1
  have hbl := be_length
  have hw8 : IntKind.u8.wrap (n : Int) = n := by have := hn.out; rw [IntKind.wrap_u8]; omega
  go_wp2
  clear t0 t1
  go_region_with ((go_at_call 94; refine (spread_uint8 _ _ (by have := hn.out; omega) (by have := hn.out; omega) (by omega) (by omega) _).mono ?_; rintro e w' ⟨rfl, hb⟩; obtain ⟨hc, hf⟩ := ext_cells hb))
  all_goals go_wp2
  all_goals go_ret
  all_goals refine ⟨congrArg Ending.returned (str_app [_] _), ?_⟩
  all_goals clear hc hf
  all_goals repeat (first | exact Mod.refl _ _ | apply Mod.drew | apply Mod.alloc | (refine Mod.trans ?_ hb; clear hb))

set_option maxHeartbeats 400000 in
theorem head_c25 (x : Int) (n : Nat) (h24 : Hid (256 ≤ n)) (hn : Hid (n < 65536)) (w : World) :
    Calls Tryz.prog 71 #[.int .i64 x, .int .u64 n] w (Ret (str (b8 (32 * mjr x + 25) :: be n 2)) w) := by
  go_enter Tryz.func71, Tryz.ntmps71
  go_upto_region 1 with fail
  go_cut [11] (fun s wx => s = .bool (mjB x) ∧ wx = w)
  case first =>
    go_wp2
    all_goals (go_meet; exact ⟨mj_bool (by unfold mjB; simp [*]), rfl⟩)
  obtain ⟨rfl, rfl⟩ := hcut
  go_upto_if 11 with fail
  go_cut [0] (fun s0 wx => s0 = .int .i64 ((mjr x : Nat) : Int) ∧ wx = wc)
  case first =>
    cases h : mjB x
    · go_wp2
      go_meet
      exact ⟨mjr_in h, rfl⟩
    · go_wp2
      go_meet
      exact ⟨mjr_out h, rfl⟩
  obtain ⟨rfl, rfl⟩ := hcut
  have hm := mjr_le x
  generalize mjr x = m at *
  have t0 : (decide ((n : Int) < 24)) = false := by have := h24.out; have := hn.out; simp; omega
  have t1 : (decide ((n : Int) < 256)) = false := by have := h24.out; have := hn.out; simp; omega
  have t2 : (decide ((n : Int) < 65536)) = true := by have := h24.out; have := hn.out; simp; omega
  have hor := or_u8 m 25 hm (by omega) (by omega)
  have hcv := convByte
  have hb8 : ∀ m : Nat, b8i (32 * (m : Int) + 25) = b8 (32 * m + 25) := fun m => by unfold b8i b8; congr 1
  have hbl := be_length
  have hw8 : IntKind.u16.wrap (n : Int) = n := by have := hn.out; rw [IntKind.wrap_u16]; omega
  go_wp2
  clear t0 t1 t2
  go_region_with ((go_at_call 95; refine (spread_uint16 _ _ (by have := hn.out; omega) (by have := hn.out; omega) (by omega) (by omega) _).mono ?_; rintro e w' ⟨rfl, hb⟩; obtain ⟨hc, hf⟩ := ext_cells hb))
  all_goals go_wp2
  all_goals go_ret
  all_goals refine ⟨congrArg Ending.returned (str_app [_] _), ?_⟩
  all_goals clear hc hf
  all_goals repeat (first | exact Mod.refl _ _ | apply Mod.drew | apply Mod.alloc | (refine Mod.trans ?_ hb; clear hb))

set_option maxHeartbeats 400000 in
theorem head_c26 (x : Int) (n : Nat) (h24 : Hid (65536 ≤ n)) (hn : Hid (n < 4294967296)) (w : World) :
    Calls Tryz.prog 71 #[.int .i64 x, .int .u64 n] w (Ret (str (b8 (32 * mjr x + 26) :: be n 4)) w) := by
  go_enter Tryz.func71, Tryz.ntmps71
  go_upto_region 1 with fail
  go_cut [11] (fun s wx => s = .bool (mjB x) ∧ wx = w)
  case first =>
    go_wp2
    all_goals (go_meet; exact ⟨mj_bool (by unfold mjB; simp [*]), rfl⟩)
  obtain ⟨rfl, rfl⟩ := hcut
  go_upto_if 11 with fail
  go_cut [0] (fun s0 wx => s0 = .int .i64 ((mjr x : Nat) : Int) ∧ wx = wc)
  case first =>
    cases h : mjB x
    · go_wp2
      go_meet
      exact ⟨mjr_in h, rfl⟩
    · go_wp2
      go_meet
      exact ⟨mjr_out h, rfl⟩
  obtain ⟨rfl, rfl⟩ := hcut
  have hm := mjr_le x
  generalize mjr x = m at *
  have t0 : (decide ((n : Int) < 24)) = false := by have := h24.out; have := hn.out; simp; omega
  have t1 : (decide ((n : Int) < 256)) = false := by have := h24.out; have := hn.out; simp; omega
  have t2 : (decide ((n : Int) < 65536)) = false := by have := h24.out; have := hn.out; simp; omega
  have t3 : (decide ((n : Int) < 4294967296)) = true := by have := h24.out; have := hn.out; simp; omega
  have hor := or_u8 m 26 hm (by omega) (by omega)
  have hcv := convByte
  have hb8 : ∀ m : Nat, b8i (32 * (m : Int) + 26) = b8 (32 * m + 26) := fun m => by unfold b8i b8; congr 1
  have hbl := be_length
  have hw8 : IntKind.u32.wrap (n : Int) = n := by have := hn.out; rw [IntKind.wrap_u32]; omega
  go_wp2
  clear t0 t1 t2 t3
  go_region_with ((go_at_call 96; refine (spread_uint32 _ _ (by have := hn.out; omega) (by have := hn.out; omega) (by omega) (by omega) _).mono ?_; rintro e w' ⟨rfl, hb⟩; obtain ⟨hc, hf⟩ := ext_cells hb))
  all_goals go_wp2
  all_goals go_ret
  all_goals refine ⟨congrArg Ending.returned (str_app [_] _), ?_⟩
  all_goals clear hc hf
  all_goals repeat (first | exact Mod.refl _ _ | apply Mod.drew | apply Mod.alloc | (refine Mod.trans ?_ hb; clear hb))

set_option maxHeartbeats 400000 in
theorem head_c27 (x : Int) (n : Nat) (h24 : Hid (4294967296 ≤ n)) (hn : Hid (n < 18446744073709551616)) (w : World) :
    Calls Tryz.prog 71 #[.int .i64 x, .int .u64 n] w (Ret (str (b8 (32 * mjr x + 27) :: be n 8)) w) := by
  go_enter Tryz.func71, Tryz.ntmps71
  go_upto_region 1 with fail
  go_cut [11] (fun s wx => s = .bool (mjB x) ∧ wx = w)
  case first =>
    go_wp2
    all_goals (go_meet; exact ⟨mj_bool (by unfold mjB; simp [*]), rfl⟩)
  obtain ⟨rfl, rfl⟩ := hcut
  go_upto_if 11 with fail
  go_cut [0] (fun s0 wx => s0 = .int .i64 ((mjr x : Nat) : Int) ∧ wx = wc)
  case first =>
    cases h : mjB x
    · go_wp2
      go_meet
      exact ⟨mjr_in h, rfl⟩
    · go_wp2
      go_meet
      exact ⟨mjr_out h, rfl⟩
  obtain ⟨rfl, rfl⟩ := hcut
  have hm := mjr_le x
  generalize mjr x = m at *
  have t0 : (decide ((n : Int) < 24)) = false := by have := h24.out; have := hn.out; simp; omega
  have t1 : (decide ((n : Int) < 256)) = false := by have := h24.out; have := hn.out; simp; omega
  have t2 : (decide ((n : Int) < 65536)) = false := by have := h24.out; have := hn.out; simp; omega
  have t3 : (decide ((n : Int) < 4294967296)) = false := by have := h24.out; have := hn.out; simp; omega
  have hor := or_u8 m 27 hm (by omega) (by omega)
  have hcv := convByte
  have hb8 : ∀ m : Nat, b8i (32 * (m : Int) + 27) = b8 (32 * m + 27) := fun m => by unfold b8i b8; congr 1
  have hbl := be_length
  go_wp2
  clear t0 t1 t2 t3
  go_region_with ((go_at_call 97; refine (spread_uint64 _ _ (by have := hn.out; omega) (by have := hn.out; omega) (by omega) (by omega) _).mono ?_; rintro e w' ⟨rfl, hb⟩; obtain ⟨hc, hf⟩ := ext_cells hb))
  all_goals go_wp2
  all_goals go_ret
  all_goals refine ⟨congrArg Ending.returned (str_app [_] _), ?_⟩
  all_goals clear hc hf
  all_goals repeat (first | exact Mod.refl _ _ | apply Mod.drew | apply Mod.alloc | (refine Mod.trans ?_ hb; clear hb))

theorem head_any (m n : Int) (hn0 : 0 ≤ n) (hn1 : n < 18446744073709551616) (w : World) :
    Calls Tryz.prog 71 #[.int .i64 m, .int .u64 n] w (Ret (str (headL (mjr m) n.toNat)) w) := by
  obtain ⟨n, rfl⟩ := Int.eq_ofNat_of_zero_le hn0
  rw [Int.toNat_natCast]
  unfold headL
  by_cases a : n < 24
  · rw [if_pos a]; exact head_24 m n a w
  rw [if_neg a]
  by_cases b : n < 256
  · rw [if_pos b]; exact head_c24 m n (Nat.le_of_not_lt a) b w
  rw [if_neg b]
  by_cases c : n < 65536
  · rw [if_pos c]; exact head_c25 m n (Nat.le_of_not_lt b) c w
  rw [if_neg c]
  by_cases d : n < 4294967296
  · rw [if_pos d]; exact head_c26 m n (Nat.le_of_not_lt c) d w
  rw [if_neg d]; exact head_c27 m n (Nat.le_of_not_lt d) (by unfold Hid; omega) w

theorem head_in (m n : Int) (h0 : 0 ≤ m) (h7 : m ≤ 7) (hn0 : 0 ≤ n) (hn1 : n < 18446744073709551616) (w : World) :
    Calls Tryz.prog 71 #[.int .i64 m, .int .u64 n] w (Ret (str (headL m.toNat n.toNat)) w) := by
  have e : mjr m = m.toNat := by unfold mjr; rw [if_pos ⟨h0, h7⟩]
  rw [← e]; exact head_any m n hn0 hn1 w
end Go.Proofs.YtogjghmoankleaaGreat


namespace Go.Proofs.YtogjghmoankleaaGreat
open Go.RowKit
set_option linter.unusedVariables false
set_option linter.unusedSimpArgs false

theorem ret_bool {b c : Bool} (h : b = c) : Ending.returned (.bool b) = .returned (.bool c) := by rw [h]
set_option maxHeartbeats 400000 in
theorem opens_any (m : Int) (w : World) : Calls Tryz.prog 98 #[.int .i64 m] w fun e w' => e = .returned (.bool (opensB m)) ∧ w = w' := by
  go_enter Tryz.func98, Tryz.ntmps98
  go_wp2
  all_goals go_ret
  all_goals exact ⟨ret_bool (by unfold opensB; rw [Bool.eq_iff_iff]; simp [*]; try omega), rfl⟩

theorem open_bits : ∀ m : Fin 8, bits .or .i64 ((m.val : Int) * 32) 31 = (m.val : Int) * 32 + 31 := by decide +kernel
set_option maxHeartbeats 400000 in
theorem open_yes (m : Nat) (h : opensB m = true) (w : World) : Calls Tryz.prog 74 #[.int .i64 m] w (Ret (str (openL m)) w) := by
  have hm : 2 ≤ m ∧ m ≤ 7 := by unfold opensB at h; simp at h; omega
  obtain ⟨h2, h7⟩ := hm
  have ho := open_bits ⟨m, by omega⟩
  dsimp only at ho
  have e : openL m = [b8i ((m : Int) * 32 + 31)] := by
    unfold openL b8 b8i; rw [if_pos h]; congr 2; omega
  have hcv := convByte
  rw [e]
  have hw : 0 ≤ (m : Int) * 32 + 31 := by omega
  go_enter Tryz.func74, Tryz.ntmps74
  go_wp2_with (go_at_call 98; refine (opens_any _ _).mono ?_; rintro e w' ⟨rfl, rfl⟩)
  go_ret
  exact ⟨rfl, (Mod.refl _ _).alloc _⟩
set_option maxHeartbeats 400000 in
theorem open_no (m : Int) (h : opensB m = false) (w : World) : Calls Tryz.prog 74 #[.int .i64 m] w (Ret (str (openL m)) w) := by
  have e : openL m = [] := by unfold openL; simp [h]
  rw [e]
  go_enter Tryz.func74, Tryz.ntmps74
  go_wp2_with (go_at_call 98; refine (opens_any _ _).mono ?_; rintro e w' ⟨rfl, rfl⟩)
  go_ret
  exact ⟨rfl, Mod.refl _ _⟩
theorem open_any (m : Int) (w : World) : Calls Tryz.prog 74 #[.int .i64 m] w (Ret (str (openL m)) w) := by
  cases h : opensB m with
  | false => exact open_no m h w
  | true =>
    have : 0 ≤ m := by unfold opensB at h; simp at h; omega
    obtain ⟨n, rfl⟩ := Int.eq_ofNat_of_zero_le this
    exact open_yes n h w

/-- The cells of a reader. -/
def rdr (s : List UInt8) (at_ bad e from_ : Int) : Array Value := #[str s, .int .i64 at_, .int .i64 bad, .int .i64 e, .int .i64 from_]
set_option maxHeartbeats 400000 in
theorem newReader_any (s : List UInt8) (w : World) : Calls Tryz.prog 86 #[str s] w fun e w' =>
    e = .returned (.pointer (some ⟨w.heap.size, 0, none⟩)) ∧ w' = w.alloc (.cells (rdr s 0 (-1) 0 0) 129) := by
  go_enter Tryz.func86, Tryz.ntmps86
  go_wp2
  go_ret
  exact ⟨rfl, rfl⟩
end Go.Proofs.YtogjghmoankleaaGreat


namespace Go.Proofs.YtogjghmoankleaaGreat
open Go.RowKit
set_option linter.unusedVariables false
set_option linter.unusedSimpArgs false

theorem digits_str {n j q : Nat} (h : n / 2 ^ (8 * j) = q) : Value.string ((⟨#[b8i ((q : Int) % 256)]⟩ : ByteArray) ++ ⟨(be n j).toArray⟩) = str (be n (j + 1)) := by
  rw [be_succ, h]; exact str_app [_] _
theorem digits_num {n j q : Nat} (hn : n < 18446744073709551616) (h : n / 2 ^ (8 * j) = q) : Value.int .u64 (IntKind.u64.wrap ((q : Int) / 256)) = .int .u64 ((n / 2 ^ (8 * (j + 1)) : Nat) : Int) := by
  have hq : q ≤ n := by rw [← h]; exact Nat.div_le_self _ _
  rw [IntWalk.u64_in _ (by omega), Nat.mul_add, Nat.pow_add, ← Nat.div_div_eq_div_mul, h]; rfl

set_option maxHeartbeats 400000 in
theorem digits_n (n : Nat) (hn : Hid (n < 18446744073709551616)) (k : Nat) (hk : k ≤ 8) (w : World) :
    Calls Tryz.prog 55 #[.int .u64 n, .int .i64 k] w (Ret (str (be n k)) w) := by
  have hcv := convByte
  go_enter Tryz.func55, Tryz.ntmps55
  go_wp2
  go_loopw [0, 5, 6] (fun x s i wr => ∃ j : Nat, j ≤ k ∧ i = .int .i64 j ∧ s = str (be n j) ∧ x = .int .u64 ((n / 2 ^ (8 * j) : Nat) : Int) ∧ Ext w wr) (fun _ _ i _ => k - (intOf i).toNat)
  case atStart => exact ⟨0, Nat.zero_le _, rfl, rfl, by simp, Mod.refl _ _⟩
  case round =>
    obtain ⟨j, hj, rfl, rfl, rfl, hb⟩ := hrel
    have hbl := be_length n j
    generalize hq : n / 2 ^ (8 * j) = q
    have HQ := hid hq; clear hq
    by_cases hlt : j < k
    · go_wp2
      go_roundw
      case rel => exact ⟨j + 1, by omega, by go_num, digits_str HQ.out, digits_num hn.out HQ.out, hb.alloc _⟩
      case measure => simp [intOf]; omega
    · obtain rfl : j = k := by omega
      go_wp2
      go_ret
      exact ⟨rfl, hb⟩
theorem digits_any (x k : Int) (hx : 0 ≤ x) (hx1 : x < 18446744073709551616) (hk : 0 ≤ k) (hk8 : k ≤ 8) (w : World) :
    Calls Tryz.prog 55 #[.int .u64 x, .int .i64 k] w (Ret (str (be x.toNat k.toNat)) w) := by
  obtain ⟨n, rfl⟩ := Int.eq_ofNat_of_zero_le hx
  obtain ⟨k, rfl⟩ := Int.eq_ofNat_of_zero_le hk
  exact digits_n n (by unfold Hid; omega) k (by omega) w

set_option maxHeartbeats 400000 in
theorem rhead_24 (m : Nat) (hm : m ≤ 7) (n : Nat) (hn : n < 24) (w : World) :
    Calls Tryz.prog 34 #[.int .i64 m, .int .u64 n] w (Ret (str [b8 (32 * m + n)]) w) := by
  have h2 : (decide ((n : Int) < 24)) = true := by simp; omega
  have hcv := convByte
  have hb8 : ∀ m n : Nat, b8i (32 * (m : Int) + n) = b8 (32 * m + n) := fun m n => by unfold b8i b8; congr 1
  go_enter Tryz.func34, Tryz.ntmps34
  go_wp2
  go_ret
  exact ⟨rfl, (Mod.refl _ _).alloc _⟩

set_option maxHeartbeats 400000 in
theorem rhead_c24 (m : Nat) (hm : m ≤ 7) (n : Nat) (h24 : Hid (24 ≤ n)) (hn : Hid (n < 256)) (w : World) :
    Calls Tryz.prog 34 #[.int .i64 m, .int .u64 n] w (Ret (str (b8 (32 * m + 24) :: be n 1)) w) := by
  have t0 : (decide ((n : Int) < 24)) = false := by have := h24.out; have := hn.out; simp; omega
  have t1 : (decide ((n : Int) < 256)) = true := by have := h24.out; have := hn.out; simp; omega
  have hcv := convByte
  have hb8 : ∀ m : Nat, b8i (32 * (m : Int) + 24) = b8 (32 * m + 24) := fun m => by unfold b8i b8; congr 1
  have hbl := be_length
  have hww : IntKind.u8.wrap (32 * (m : Int) + 24) = 32 * (m : Int) + 24 := by rw [IntKind.wrap_u8]; omega
  go_enter Tryz.func34, Tryz.ntmps34
  go_wp2
  clear t0 t1
  go_region_with ((go_at_call 55; refine (digits_any _ _ (by have := hn.out; omega) (by have := hn.out; omega) (by omega) (by omega) _).mono ?_; rintro e w' ⟨rfl, hb⟩; obtain ⟨hc, hf⟩ := ext_cells hb))
  all_goals go_wp2
  all_goals go_ret
  all_goals refine ⟨congrArg Ending.returned (str_app [_] _), ?_⟩
  all_goals clear hc hf
  all_goals repeat (first | exact Mod.refl _ _ | apply Mod.drew | apply Mod.alloc | (refine Mod.trans ?_ hb; clear hb))

set_option maxHeartbeats 400000 in
theorem rhead_c25 (m : Nat) (hm : m ≤ 7) (n : Nat) (h24 : Hid (256 ≤ n)) (hn : Hid (n < 65536)) (w : World) :
    Calls Tryz.prog 34 #[.int .i64 m, .int .u64 n] w (Ret (str (b8 (32 * m + 25) :: be n 2)) w) := by
  have t0 : (decide ((n : Int) < 24)) = false := by have := h24.out; have := hn.out; simp; omega
  have t1 : (decide ((n : Int) < 256)) = false := by have := h24.out; have := hn.out; simp; omega
  have t2 : (decide ((n : Int) < 65536)) = true := by have := h24.out; have := hn.out; simp; omega
  have hcv := convByte
  have hb8 : ∀ m : Nat, b8i (32 * (m : Int) + 25) = b8 (32 * m + 25) := fun m => by unfold b8i b8; congr 1
  have hbl := be_length
  have hww : IntKind.u8.wrap (32 * (m : Int) + 25) = 32 * (m : Int) + 25 := by rw [IntKind.wrap_u8]; omega
  go_enter Tryz.func34, Tryz.ntmps34
  go_wp2
  clear t0 t1 t2
  go_region_with ((go_at_call 55; refine (digits_any _ _ (by have := hn.out; omega) (by have := hn.out; omega) (by omega) (by omega) _).mono ?_; rintro e w' ⟨rfl, hb⟩; obtain ⟨hc, hf⟩ := ext_cells hb))
  all_goals go_wp2
  all_goals go_ret
  all_goals refine ⟨congrArg Ending.returned (str_app [_] _), ?_⟩
  all_goals clear hc hf
  all_goals repeat (first | exact Mod.refl _ _ | apply Mod.drew | apply Mod.alloc | (refine Mod.trans ?_ hb; clear hb))

set_option maxHeartbeats 400000 in
theorem rhead_c26 (m : Nat) (hm : m ≤ 7) (n : Nat) (h24 : Hid (65536 ≤ n)) (hn : Hid (n < 4294967296)) (w : World) :
    Calls Tryz.prog 34 #[.int .i64 m, .int .u64 n] w (Ret (str (b8 (32 * m + 26) :: be n 4)) w) := by
  have t0 : (decide ((n : Int) < 24)) = false := by have := h24.out; have := hn.out; simp; omega
  have t1 : (decide ((n : Int) < 256)) = false := by have := h24.out; have := hn.out; simp; omega
  have t2 : (decide ((n : Int) < 65536)) = false := by have := h24.out; have := hn.out; simp; omega
  have t3 : (decide ((n : Int) < 4294967296)) = true := by have := h24.out; have := hn.out; simp; omega
  have hcv := convByte
  have hb8 : ∀ m : Nat, b8i (32 * (m : Int) + 26) = b8 (32 * m + 26) := fun m => by unfold b8i b8; congr 1
  have hbl := be_length
  have hww : IntKind.u8.wrap (32 * (m : Int) + 26) = 32 * (m : Int) + 26 := by rw [IntKind.wrap_u8]; omega
  go_enter Tryz.func34, Tryz.ntmps34
  go_wp2
  clear t0 t1 t2 t3
  go_region_with ((go_at_call 55; refine (digits_any _ _ (by have := hn.out; omega) (by have := hn.out; omega) (by omega) (by omega) _).mono ?_; rintro e w' ⟨rfl, hb⟩; obtain ⟨hc, hf⟩ := ext_cells hb))
  all_goals go_wp2
  all_goals go_ret
  all_goals refine ⟨congrArg Ending.returned (str_app [_] _), ?_⟩
  all_goals clear hc hf
  all_goals repeat (first | exact Mod.refl _ _ | apply Mod.drew | apply Mod.alloc | (refine Mod.trans ?_ hb; clear hb))

set_option maxHeartbeats 400000 in
theorem rhead_c27 (m : Nat) (hm : m ≤ 7) (n : Nat) (h24 : Hid (4294967296 ≤ n)) (hn : Hid (n < 18446744073709551616)) (w : World) :
    Calls Tryz.prog 34 #[.int .i64 m, .int .u64 n] w (Ret (str (b8 (32 * m + 27) :: be n 8)) w) := by
  have t0 : (decide ((n : Int) < 24)) = false := by have := h24.out; have := hn.out; simp; omega
  have t1 : (decide ((n : Int) < 256)) = false := by have := h24.out; have := hn.out; simp; omega
  have t2 : (decide ((n : Int) < 65536)) = false := by have := h24.out; have := hn.out; simp; omega
  have t3 : (decide ((n : Int) < 4294967296)) = false := by have := h24.out; have := hn.out; simp; omega
  have hcv := convByte
  have hb8 : ∀ m : Nat, b8i (32 * (m : Int) + 27) = b8 (32 * m + 27) := fun m => by unfold b8i b8; congr 1
  have hbl := be_length
  have hww : IntKind.u8.wrap (32 * (m : Int) + 27) = 32 * (m : Int) + 27 := by rw [IntKind.wrap_u8]; omega
  go_enter Tryz.func34, Tryz.ntmps34
  go_wp2
  clear t0 t1 t2 t3
  go_region_with ((go_at_call 55; refine (digits_any _ _ (by have := hn.out; omega) (by have := hn.out; omega) (by omega) (by omega) _).mono ?_; rintro e w' ⟨rfl, hb⟩; obtain ⟨hc, hf⟩ := ext_cells hb))
  all_goals go_wp2
  all_goals go_ret
  all_goals refine ⟨congrArg Ending.returned (str_app [_] _), ?_⟩
  all_goals clear hc hf
  all_goals repeat (first | exact Mod.refl _ _ | apply Mod.drew | apply Mod.alloc | (refine Mod.trans ?_ hb; clear hb))

theorem rhead_in (m n : Int) (h0 : 0 ≤ m) (h7 : m ≤ 7) (hn0 : 0 ≤ n) (hn1 : n < 18446744073709551616) (w : World) :
    Calls Tryz.prog 34 #[.int .i64 m, .int .u64 n] w (Ret (str (headL m.toNat n.toNat)) w) := by
  obtain ⟨m, rfl⟩ := Int.eq_ofNat_of_zero_le h0
  obtain ⟨n, rfl⟩ := Int.eq_ofNat_of_zero_le hn0
  rw [Int.toNat_natCast, Int.toNat_natCast]
  unfold headL
  by_cases a : n < 24
  · rw [if_pos a]; exact rhead_24 m (by omega) n a w
  rw [if_neg a]
  by_cases b : n < 256
  · rw [if_pos b]; exact rhead_c24 m (by omega) n (Nat.le_of_not_lt a) b w
  rw [if_neg b]
  by_cases c : n < 65536
  · rw [if_pos c]; exact rhead_c25 m (by omega) n (Nat.le_of_not_lt b) c w
  rw [if_neg c]
  by_cases d : n < 4294967296
  · rw [if_pos d]; exact rhead_c26 m (by omega) n (Nat.le_of_not_lt c) d w
  rw [if_neg d]; exact rhead_c27 m (by omega) n (Nat.le_of_not_lt d) (by unfold Hid; omega) w
end Go.Proofs.YtogjghmoankleaaGreat


namespace Go.Proofs.YtogjghmoankleaaGreat
open Go.RowKit
set_option linter.unusedVariables false
set_option linter.unusedSimpArgs false

def few (t : T) (m : Nat) : Bool := decide (t.deep 9 ≤ 9) && decide (t.count m ≤ m)
theorem few_size {t : T} {m : Nat} (h : few t m = true) : t.size ≤ m ∧ t.deep 9 ≤ 9 := by
  unfold few at h
  simp at h
  rw [T.count_size t m h.2]
  exact ⟨h.2, h.1⟩

/-- What has been written of an array after its first j items. -/
def pre (kind : Int) (s : List UInt8) (op : Bool) (k : Nat) (ch : Nat → T) (j : Nat) : List UInt8 := (if op then [159] else headL 4 k) ++ T.cat (fun i => (ch i).bytes) j

theorem T.cat_mono {f : Nat → List UInt8} {j k : Nat} (h : j ≤ k) : (T.cat f j).length ≤ (T.cat f k).length := by
  induction k with
  | zero => have : j = 0 := by omega
            subst this; exact Nat.le_refl _
  | succ k ih =>
    by_cases e : j = k + 1
    · subst e; exact Nat.le_refl _
    · have := ih (by omega)
      rw [T.cat, List.length_append]; omega
theorem pre_succ (kind : Int) (s : List UInt8) (op : Bool) (k : Nat) (ch : Nat → T) (j : Nat) : pre kind s op k ch (j + 1) = pre kind s op k ch j ++ (ch j).bytes := by
  unfold pre; rw [T.cat, List.append_assoc]
theorem pre_le {n : Nat} {s : List UInt8} {op : Bool} {k : Nat} {ch : Nat → T} {j : Nat} (hj : j ≤ k) (h : (T.mk 4 n s op k ch).size ≤ 100000) : (pre 4 s op k ch j).length ≤ 1000000 := by
  have h1 := T.bytes_le (.mk 4 n s op k ch)
  have h2 : (T.mk 4 n s op k ch).bytes = (if op then [159] else headL 4 k) ++ (T.cat (fun i => (ch i).bytes) k ++ (if op then [255] else [])) := rfl
  have h3 := T.cat_mono (f := fun i => (ch i).bytes) hj
  rw [h2, List.length_append, List.length_append] at h1
  unfold pre
  rw [List.length_append]
  omega
theorem pre_end {n : Nat} {s : List UInt8} {op : Bool} {k : Nat} {ch : Nat → T} : (T.mk 4 n s op k ch).bytes = pre 4 s op k ch k ++ (if op then [255] else []) := by
  have h2 : (T.mk 4 n s op k ch).bytes = (if op then [159] else headL 4 k) ++ (T.cat (fun i => (ch i).bytes) k ++ (if op then [255] else [])) := rfl
  rw [h2, pre, List.append_assoc]

set_option maxRecDepth 20000 in
set_option maxHeartbeats 3200000 in
theorem rBytesI_any (t : T) : t.ok → t.plain = true → t.size ≤ 100000 → ∀ A c w, IsL w (fun _ => True) t A →
    Calls Tryz.prog 36 #[itemV t A c] w (Ret (str t.bytes) w) := by
  induction t with
  | nil => intro hok; cases hok
  | mk kind n s op k ch ih =>
    intro hok hpl hsz A c w h
    have H := hid h; have HO := hid hok; have HPL := hid hpl; have HSZ := hid hsz
    have HI := hid ih
    have hk : Hid (k < 4611686018427387904) := by unfold T.ok at hok; exact hok.2.2.2.1
    have hn64 : Hid (n < 18446744073709551616) := by unfold T.ok at hok; exact hok.2.1
    have hs64 : Hid (s.length < 4611686018427387904) := by unfold T.ok at hok; exact hok.2.2.1
    have hkd : kind = 0 ∨ kind = 2 ∨ kind = 3 ∨ kind = 4 := by unfold T.plain at hpl; rw [Bool.and_eq_true] at hpl; exact T.node_kind hpl.1
    have hpc : Hid (∀ i, i < k → (ch i).plain = true) := by unfold T.plain at hpl; rw [Bool.and_eq_true, T.all_iff] at hpl; exact hpl.2
    have HBL := hid (T.bytes_le (.mk kind n s op k ch))
    have hBy : (T.mk kind n s op k ch).bytes = if kind = 0 then headL 0 n else if kind < 4 then headL kind.toNat s.length ++ s else (if op then [159] else headL 4 k) ++ (T.cat (fun i => (ch i).bytes) k ++ (if op then [255] else [])) := rfl
    have HBy := hid hBy
    show Calls Tryz.prog 36 #[.agg #[.int .i64 kind, .int .u64 (n : Int), str s, .slice A k c, .bool op]] w (Ret (str (T.mk kind n s op k ch).bytes) w)
    have HB : Hid (Blk (w.alloc (.cells #[.int .i64 kind, .int .u64 (n : Int), str s, .slice A k c, .bool op] 64)) w.heap.size 64 #[.int .i64 kind, .int .u64 (n : Int), str s, .slice A k c, .bool op]) := Blk.new _ _ _
    have HE0 := hid ((Mod.refl [] w).alloc (.cells #[.int .i64 kind, .int .u64 (n : Int), str s, .slice A k c, .bool op] 64))
    clear h hok hpl hsz ih hBy
    by_cases k0 : kind = 0
    · subst k0
      rw [HBy.out, if_pos rfl]
      go_enter Tryz.func36, Tryz.ntmps36
      go_wp2_with fail
      refine (rhead_in 0 n (by omega) (by omega) (by omega) (by have := hn64.out; omega) _).mono ?_
      rintro e w2 ⟨rfl, hb2⟩
      go_wp2_with fail
      go_ret
      exact Ret.mk rfl (HE0.out.trans hb2)
    · by_cases k4 : kind < 4
      · rw [HBy.out, if_neg k0, if_pos k4]
        have b0 : (kind == 0) = false := by simp [k0]
        have b1 : (kind = 0) = False := by simp [k0]
        have b2 : decide (kind < 4) = true := by simp [k4]
        have HK : Hid (0 ≤ kind ∧ kind ≤ 3) := by unfold Hid; omega
        have s0 : (s.length : Int) < 9223372036854775808 := by have := hs64.out; omega
        have hno : (9223372036854775807 < (headL kind.toNat s.length).length + s.length) = False := by have := headL_le kind.toNat s.length; have := hs64.out; simp; omega
        clear k0 k4 hkd
        go_enter Tryz.func36, Tryz.ntmps36
        go_upto_region 1 with fail
        go_cut [5, 6, 7] (fun s5 s6 s7 wx => s7 = .bool false ∧ Hid (Ext w wx ∧ Blk wx w.heap.size 64 #[.int .i64 kind, .int .u64 (n : Int), str s, .slice A k c, .bool op]))
        case first =>
          go_wp2_with fail
          go_meet
          exact ⟨rfl, HE0.out, HB.out⟩
        obtain ⟨rfl, hX⟩ := hcut
        have HX : Hid (∀ W, Ext wc W → W.cell? ⟨w.heap.size, 0, none⟩ = some (.int .i64 kind) ∧ W.cell? ⟨w.heap.size, 2, none⟩ = some (str s)) := fun W hW => ⟨(hX.out.2.ext hW).cell 0, (hX.out.2.ext hW).cell 2⟩
        have tw : IntKind.u64.wrap (s.length : Int) = (s.length : Int) := IntWalk.u64_in _ (by have := hs64.out; omega)
        have y0 := (HX.out wc (Mod.refl _ _)).1
        have y2 := (HX.out wc (Mod.refl _ _)).2
        go_upto_region 4 with fail
        go_region_held3 (fun w' => w'.cell? ⟨w.heap.size, 0, none⟩ = some (.int .i64 kind) ∧ w'.cell? ⟨w.heap.size, 2, none⟩ = some (str s)) (go_keep)
          ((go_at_call 34; (try rw [tw]); refine (rhead_in kind (s.length : Int) HK.out.1 (by have := HK.out.2; omega) (by omega) (by have := hs64.out; omega) _).mono ?_; rintro e w3 ⟨rfl, hb3⟩; rw [Int.toNat_natCast]; have hx3 : Ext wc w3 := (by with_reducible refine Mod.trans ?_ hb3; (repeat (first | with_reducible assumption | with_reducible exact Mod.refl _ _ | with_reducible refine Mod.drew ?_))); have z0 := (HX.out w3 hx3).1; have z2 := (HX.out w3 hx3).2))
        all_goals go_wp2_with fail
        all_goals go_ret
        all_goals exact Ret.mk rfl (hX.out.1.trans hx3)
      · have hk4 : kind = 4 := by omega
        subst hk4
        clear HBy k0 k4 hkd HBL
        have K0 : (0 : Int) ≤ (k : Int) := by omega
        have K1 : (k : Int) < 9223372036854775808 := by have := hk.out; omega
        cases op
        · go_enter Tryz.func36, Tryz.ntmps36
          go_wp2_with fail
          refine (rhead_in 4 (k : Int) (by omega) (by omega) (by omega) (by have := hk.out; omega) _).mono ?_
          rintro e w2 ⟨rfl, hb2⟩
          rw [Int.toNat_natCast]
          have HE2 := hid (HE0.out.trans hb2)
          have HB2 := hid (HB.out.ext hb2)
          have c4 : w2.cell? ⟨w.heap.size, 4, none⟩ = some (.bool false) := HB2.out.cell 4
          clear hb2 K1
          go_wp2_with fail
          clear c4
          go_loopw [3, 4] (fun s3 s4 wr => ∃ i : Nat, i ≤ k ∧ s4 = .int .i64 (i : Int) ∧ s3 = str (pre 4 s false k ch i) ∧ Hid (Ext w wr ∧ Blk wr w.heap.size 64 #[.int .i64 4, .int .u64 (n : Int), str s, .slice A k c, .bool false])) (fun _ i _ => k - (intOf i).toNat)
          case atStart => exact ⟨0, Nat.zero_le _, rfl, by simp [pre, T.cat], HE2.out, HB2.out⟩
          case round =>
            obtain ⟨i, hi, rfl, rfl, hH⟩ := hrel
            have i0 : (0 : Int) ≤ (i : Int) := by omega
            have c3 : wr.cell? ⟨w.heap.size, 3, none⟩ = some (.slice A k c) := hH.out.2.cell 3
            have c4 : wr.cell? ⟨w.heap.size, 4, none⟩ = some (.bool false) := hH.out.2.cell 4
            have HP := hid (pre_le (op := false) hi HSZ.out)
            by_cases hlt : i < k
            · obtain ⟨b, o, Ai, ci, rfl, hb, ⟨k0, k1, k2, k3, k4⟩, hL⟩ := H.out.cells hH.out.1 hlt
              have i1 : (i : Int) < (k : Int) := by omega
              have ti : decide (i < k) = true := by simp [hlt]
              have HL := hid hL; have HLT := hid hlt
              have HOi : Hid (ch i).ok := by have := HO.out; unfold T.ok at this; exact this.2.2.2.2 i hlt
              have HZi : Hid ((ch i).size ≤ 100000) := Nat.le_trans (T.size_ch hlt) HSZ.out
              have HPS := hid (pre_succ 4 s false k ch i)
              have hno : (9223372036854775807 < (pre 4 s false k ch i).length + (ch i).bytes.length) = False := by
                have h1 := pre_le (op := false) (show i + 1 ≤ k by omega) HSZ.out
                rw [HPS.out, List.length_append] at h1
                simp; omega
              have hk2 : (k : Int) < 4611686018427387904 := by have := hk.out; omega
              clear hL hlt
              go_wp2_with fail
              refine (HI.out i HOi.out (hpc.out i HLT.out) HZi.out Ai ci _ HL.out).mono ?_
              rintro e w3 ⟨rfl, hb3⟩
              have HE3 := hid (hH.out.1.trans hb3)
              have HB3 := hid (hH.out.2.ext hb3)
              clear hb3
              go_wp2_with fail
              have hlt := HLT.out
              refine ⟨⟨i + 1, by omega, by simp, by rw [HPS.out]; exact str_app _ _, (show Hid _ from ⟨HE3.out, HB3.out⟩)⟩, ?_⟩
              simp only [intOf]; omega
            · obtain rfl : i = k := by omega
              have ti : decide (i < i) = false := by simp
              have HPE := hid (pre_end (n := n) (s := s) (op := false) (k := i) (ch := ch))
              have hno : (9223372036854775807 < (pre 4 s false i ch i).length + 1) = False := by have := HP.out; simp; omega
              go_wp2_with fail
              go_ret
              exact Ret.mk (by rw [HPE.out]; simp) hH.out.1
        · go_enter Tryz.func36, Tryz.ntmps36
          go_wp2_with fail
          refine (rhead_in 4 (k : Int) (by omega) (by omega) (by omega) (by have := hk.out; omega) _).mono ?_
          rintro e w2 ⟨rfl, hb2⟩
          rw [Int.toNat_natCast]
          have HE2 := hid (HE0.out.trans hb2)
          have HB2 := hid (HB.out.ext hb2)
          have c4 : w2.cell? ⟨w.heap.size, 4, none⟩ = some (.bool true) := HB2.out.cell 4
          clear hb2 K1
          go_wp2_with fail
          clear c4
          go_loopw [3, 4] (fun s3 s4 wr => ∃ i : Nat, i ≤ k ∧ s4 = .int .i64 (i : Int) ∧ s3 = str (pre 4 s true k ch i) ∧ Hid (Ext w wr ∧ Blk wr w.heap.size 64 #[.int .i64 4, .int .u64 (n : Int), str s, .slice A k c, .bool true])) (fun _ i _ => k - (intOf i).toNat)
          case atStart => exact ⟨0, Nat.zero_le _, rfl, by simp [pre, T.cat], HE2.out, HB2.out⟩
          case round =>
            obtain ⟨i, hi, rfl, rfl, hH⟩ := hrel
            have i0 : (0 : Int) ≤ (i : Int) := by omega
            have c3 : wr.cell? ⟨w.heap.size, 3, none⟩ = some (.slice A k c) := hH.out.2.cell 3
            have c4 : wr.cell? ⟨w.heap.size, 4, none⟩ = some (.bool true) := hH.out.2.cell 4
            have HP := hid (pre_le (op := true) hi HSZ.out)
            by_cases hlt : i < k
            · obtain ⟨b, o, Ai, ci, rfl, hb, ⟨k0, k1, k2, k3, k4⟩, hL⟩ := H.out.cells hH.out.1 hlt
              have i1 : (i : Int) < (k : Int) := by omega
              have ti : decide (i < k) = true := by simp [hlt]
              have HL := hid hL; have HLT := hid hlt
              have HOi : Hid (ch i).ok := by have := HO.out; unfold T.ok at this; exact this.2.2.2.2 i hlt
              have HZi : Hid ((ch i).size ≤ 100000) := Nat.le_trans (T.size_ch hlt) HSZ.out
              have HPS := hid (pre_succ 4 s true k ch i)
              have hno : (9223372036854775807 < (pre 4 s true k ch i).length + (ch i).bytes.length) = False := by
                have h1 := pre_le (op := true) (show i + 1 ≤ k by omega) HSZ.out
                rw [HPS.out, List.length_append] at h1
                simp; omega
              have hk2 : (k : Int) < 4611686018427387904 := by have := hk.out; omega
              clear hL hlt
              go_wp2_with fail
              refine (HI.out i HOi.out (hpc.out i HLT.out) HZi.out Ai ci _ HL.out).mono ?_
              rintro e w3 ⟨rfl, hb3⟩
              have HE3 := hid (hH.out.1.trans hb3)
              have HB3 := hid (hH.out.2.ext hb3)
              clear hb3
              go_wp2_with fail
              have hlt := HLT.out
              refine ⟨⟨i + 1, by omega, by simp, by rw [HPS.out]; exact str_app _ _, (show Hid _ from ⟨HE3.out, HB3.out⟩)⟩, ?_⟩
              simp only [intOf]; omega
            · obtain rfl : i = k := by omega
              have ti : decide (i < i) = false := by simp
              have HPE := hid (pre_end (n := n) (s := s) (op := true) (k := i) (ch := ch))
              have hno : (9223372036854775807 < (pre 4 s true i ch i).length + 1) = False := by have := HP.out; simp; omega
              go_wp2_with fail
              go_ret
              exact Ret.mk (by rw [HPE.out]; exact str_app _ [255]) hH.out.1
end Go.Proofs.YtogjghmoankleaaGreat


namespace Go.Proofs.YtogjghmoankleaaGreat
open Go.RowKit
set_option linter.unusedVariables false
set_option linter.unusedSimpArgs false

set_option maxRecDepth 20000 in
set_option maxHeartbeats 400000 in
theorem wBytes_any (l : List UInt8) (hl : Hid (l.length < 4611686018427387904)) (w : World) : Calls Tryz.prog 72 #[str l] w (Ret (str (headL 2 l.length ++ l)) w) := by
  have hw : IntKind.u64.wrap (l.length : Int) = (l.length : Int) := IntWalk.u64_in _ (by have := hl.out; omega)
  have hno : (9223372036854775807 < (headL 2 l.length).length + l.length) = False := by have h1 := hl.out; have h2 := headL_le 2 l.length; simp; omega
  go_enter Tryz.func72, Tryz.ntmps72
  go_wp2_with (go_at_call 71; refine (head_in _ _ (by omega) (by omega) (by omega) (by have := hl.out; omega) _).mono ?_; rintro x w1 ⟨rfl, hb⟩; simp only [Int.toNat_natCast, show Int.toNat 2 = 2 from rfl])
  go_ret
  exact Ret.mk (str_app _ _) hb

set_option maxRecDepth 20000 in
set_option maxHeartbeats 400000 in
theorem wText_any (l : List UInt8) (hl : Hid (l.length < 4611686018427387904)) (w : World) : Calls Tryz.prog 73 #[str l] w (Ret (str (headL 3 l.length ++ l)) w) := by
  have hw : IntKind.u64.wrap (l.length : Int) = (l.length : Int) := IntWalk.u64_in _ (by have := hl.out; omega)
  have hno : (9223372036854775807 < (headL 3 l.length).length + l.length) = False := by have h1 := hl.out; have h2 := headL_le 3 l.length; simp; omega
  go_enter Tryz.func73, Tryz.ntmps73
  go_wp2_with (go_at_call 71; refine (head_in _ _ (by omega) (by omega) (by omega) (by have := hl.out; omega) _).mono ?_; rintro x w1 ⟨rfl, hb⟩; simp only [Int.toNat_natCast, show Int.toNat 3 = 3 from rfl])
  go_ret
  exact Ret.mk (str_app _ _) hb

set_option maxRecDepth 20000 in
set_option maxHeartbeats 400000 in
theorem rBytes_any (l : List UInt8) (hl : Hid (l.length < 4611686018427387904)) (w : World) : Calls Tryz.prog 85 #[str l] w (Ret (str (headL 2 l.length ++ l)) w) := by
  have hw : IntKind.u64.wrap (l.length : Int) = (l.length : Int) := IntWalk.u64_in _ (by have := hl.out; omega)
  have hno : (9223372036854775807 < (headL 2 l.length).length + l.length) = False := by have h1 := hl.out; have h2 := headL_le 2 l.length; simp; omega
  go_enter Tryz.func85, Tryz.ntmps85
  go_wp2_with (go_at_call 34; refine (rhead_in _ _ (by omega) (by omega) (by omega) (by have := hl.out; omega) _).mono ?_; rintro x w1 ⟨rfl, hb⟩; simp only [Int.toNat_natCast, show Int.toNat 2 = 2 from rfl])
  go_ret
  exact Ret.mk (str_app _ _) hb

end Go.Proofs.YtogjghmoankleaaGreat


namespace Go.Proofs.YtogjghmoankleaaGreat
open Go.RowKit
set_option linter.unusedVariables false
set_option linter.unusedSimpArgs false

theorem T.leaf_all {kind : Int} {n : Nat} {s : List UInt8} {op : Bool} {k : Nat} {f : Nat → Bool} (h : kind ≠ 4) : (T.node kind n s op k && T.all f k) = T.node kind n s op k := by
  cases hn : T.node kind n s op k with
  | false => rfl
  | true =>
    unfold T.node at hn
    by_cases a : kind = 0
    · rw [if_pos a] at hn; simp at hn; rw [hn.1.2]; rfl
    · rw [if_neg a] at hn
      by_cases b : kind = 2 ∨ kind = 3
      · rw [if_pos b] at hn; simp at hn; rw [hn.1.2]; rfl
      · rw [if_neg b, if_neg h] at hn; cases hn

set_option maxRecDepth 20000 in
set_option maxHeartbeats 3200000 in
theorem right_any (t : T) : ∀ (d : Nat), d ≤ 9 → t.ok → ∀ A c w, IsL w (fun _ => True) t A →
    Calls Tryz.prog 70 #[itemV t A c, .int .i64 (d : Int)] w (Ret (.bool (t.right d)) w) := by
  induction t with
  | nil => intro m _ hok; cases hok
  | mk kind n s op k ch ih =>
    intro d hd hok A c w h
    have H := hid h; have HO := hid hok; have HD := hid hd
    have HI := hid ih
    have d0 : (0 : Int) ≤ (d : Int) := by omega
    have d1 : (d : Int) ≤ 9 := by omega
    have hk : Hid (k < 4611686018427387904) := by unfold T.ok at hok; exact hok.2.2.2.1
    have HR : Hid ((T.mk kind n s op k ch).right d = if d < 1 then false else T.node kind n s op k && T.all (fun i => (ch i).right (d - 1)) k) := rfl
    show Calls Tryz.prog 70 #[.agg #[.int .i64 kind, .int .u64 (n : Int), str s, .slice A k c, .bool op], .int .i64 (d : Int)] w (Ret (.bool ((T.mk kind n s op k ch).right d)) w)
    have HE0 := hid ((Mod.refl [] w).alloc (.cells #[.int .i64 kind, .int .u64 (n : Int), str s, .slice A k c, .bool op] 64))
    clear h hok ih hd
    by_cases hd0 : d < 1
    · obtain rfl : d = 0 := by omega
      rw [HR.out, if_pos (by omega)]
      go_enter Tryz.func70, Tryz.ntmps70
      go_wp2
      go_ret
      exact Ret.mk rfl HE0.out
    · rw [HR.out, if_neg hd0]
      have HD1 : Hid (1 ≤ d) := by unfold Hid; omega
      have td : decide ((d : Int) < 1) = false := by simp; omega
      have td2 : (d < 1) = False := by simp [hd0]
      have td3 : (d = 0) = False := by simp; omega
      have bs : s ≠ [] → (s == []) = false := fun h => by simp [h]
      have bS : s ≠ [] → (s = []) = False := fun h => by simp [h]
      have bn : n ≠ 0 → ((n : Int) == 0) = false := fun h => by simp [h]
      have bN : n ≠ 0 → (n = 0) = False := fun h => by simp [h]
      have bk : k ≠ 0 → ((k : Int) == 0) = false := fun h => by simp [h]
      have q1 : k ≠ 0 → (k = 0) = False := fun h => by simp [h]
      clear hd0
      by_cases a0 : kind = 0
      · subst a0
        go_enter Tryz.func70, Tryz.ntmps70
        by_cases hs : s = []
        · subst hs
          by_cases hk0 : k = 0
          · subst hk0
            cases op
            · skip
              go_wp2_with fail
              go_ret
              exact Ret.mk (by rw [T.leaf_all (by omega)]; simp [T.node]) HE0.out
            · skip
              go_wp2_with fail
              go_ret
              exact Ret.mk (by rw [T.leaf_all (by omega)]; simp [T.node]) HE0.out
          · have bk := bk hk0; have q1 := q1 hk0
            go_wp2_with fail
            go_ret
            exact Ret.mk (by rw [T.leaf_all (by omega)]; simp [T.node, hk0]) HE0.out
        · have bs := bs hs; have bS := bS hs
          go_wp2_with fail
          go_ret
          exact Ret.mk (by rw [T.leaf_all (by omega)]; simp [T.node, hs]) HE0.out
      · skip
        by_cases a2 : kind = 2
        · subst a2
          go_enter Tryz.func70, Tryz.ntmps70
          have hn : n = 0 ∨ n ≠ 0 := by omega
          rcases hn with rfl | hn
          · skip
            by_cases hk0 : k = 0
            · subst hk0
              cases op
              · skip
                go_wp2_with fail
                go_ret
                exact Ret.mk (by rw [T.leaf_all (by omega)]; simp [T.node]) HE0.out
              · skip
                go_wp2_with fail
                go_ret
                exact Ret.mk (by rw [T.leaf_all (by omega)]; simp [T.node]) HE0.out
            · have bk := bk hk0; have q1 := q1 hk0
              go_wp2_with fail
              go_ret
              exact Ret.mk (by rw [T.leaf_all (by omega)]; simp [T.node, hk0]) HE0.out
          · have bn := bn hn; have bN := bN hn
            go_wp2_with fail
            go_ret
            exact Ret.mk (by rw [T.leaf_all (by omega)]; simp [T.node, hn]) HE0.out
        · skip
          by_cases a3 : kind = 3
          · subst a3
            go_enter Tryz.func70, Tryz.ntmps70
            have hn : n = 0 ∨ n ≠ 0 := by omega
            rcases hn with rfl | hn
            · skip
              by_cases hk0 : k = 0
              · subst hk0
                cases op
                · skip
                  go_wp2_with fail
                  go_ret
                  exact Ret.mk (by rw [T.leaf_all (by omega)]; simp [T.node]) HE0.out
                · skip
                  go_wp2_with fail
                  go_ret
                  exact Ret.mk (by rw [T.leaf_all (by omega)]; simp [T.node]) HE0.out
              · have bk := bk hk0; have q1 := q1 hk0
                go_wp2_with fail
                go_ret
                exact Ret.mk (by rw [T.leaf_all (by omega)]; simp [T.node, hk0]) HE0.out
            · have bn := bn hn; have bN := bN hn
              go_wp2_with fail
              go_ret
              exact Ret.mk (by rw [T.leaf_all (by omega)]; simp [T.node, hn]) HE0.out
          · skip
            have e0 : (kind == 0) = false := by simp [a0]
            have e2 : (kind == 2) = false := by simp [a2]
            have e3 : (kind == 3) = false := by simp [a3]
            have f0 : (kind = 0) = False := by simp [a0]
            have f2 : (kind = 2) = False := by simp [a2]
            have f3 : (kind = 3) = False := by simp [a3]
            by_cases a4 : kind = 4
            · subst a4
              clear e0 e2 e3 f0 f2 f3 a0 a2 a3
              go_enter Tryz.func70, Tryz.ntmps70
              have hn : n = 0 ∨ n ≠ 0 := by omega
              rcases hn with rfl | hn
              · by_cases hs : s = []
                · subst hs
                  by_cases hk1 : 1000 < k
                  · have bK : decide (1000 < k) = true := by simp [hk1]
                    have z1 : decide (k ≤ 1000) = false := by simp; omega
                    go_wp2_with fail
                    go_ret
                    exact Ret.mk (by simp [T.node, z1]) HE0.out
                  · have bK : decide (1000 < k) = false := by simp; omega
                    have z1 : decide (k ≤ 1000) = true := by simp; omega
                    have HND : Hid (T.node 4 0 [] op k = true) := by unfold Hid; simp [T.node, z1]
                    have bK3 : (1000 < k) = False := by simp; omega
                    go_wp2_with fail
                    clear hk1 z1 bK bK3
                    go_loopw [63] (fun s63 wr => ∃ i : Nat, i ≤ k ∧ s63 = .int .i64 (i : Int) ∧ Hid (Ext w wr ∧ T.all (fun i => (ch i).right (d - 1)) i = true)) (fun i _ => k - (intOf i).toNat)
                    case atStart => exact ⟨0, Nat.zero_le _, rfl, HE0.out, rfl⟩
                    case round =>
                      obtain ⟨i, hi, rfl, hX⟩ := hrel
                      have i0 : (0 : Int) ≤ (i : Int) := by omega
                      by_cases hlt : i < k
                      · obtain ⟨b, o, Ai, ci, rfl, hb, ⟨k0, k1, k2, k3, k4⟩, hL⟩ := H.out.cells hX.out.1 hlt
                        have i1 : (i : Int) < (k : Int) := by omega
                        have hk2 : (k : Int) < 4611686018427387904 := by have := hk.out; omega
                        have ti : decide (i < k) = true := by simp [hlt]
                        have ha : (d : Int) - 1 = ((d - 1 : Nat) : Int) := by have := HD1.out; omega
                        have HL := hid hL; have HLT := hid hlt
                        have HOi : Hid (ch i).ok := by have := HO.out; unfold T.ok at this; exact this.2.2.2.2 i hlt
                        clear hL hlt
                        go_wp2_with fail
                        have HEa := hid ((Mod.refl [] wr).alloc (.cells (itemC (ch i) Ai ci) 64))
                        refine (HI.out i (d - 1) (by have := HD.out; omega) HOi.out Ai ci _ (HL.out.ext HEa.out)).mono ?_
                        rintro e w3 ⟨rfl, hb3⟩
                        have HE3 := hid ((hX.out.1.trans HEa.out).trans hb3)
                        clear hb3
                        cases hpl : (ch i).right (d - 1)
                        · have hno : T.all (fun i => (ch i).right (d - 1)) k = false := by
                            have hlt := HLT.out
                            cases hh : T.all (fun i => (ch i).right (d - 1)) k with
                            | false => rfl
                            | true => have := T.all_iff.1 hh i hlt; rw [hpl] at this; cases this
                          have HNO := hid hno
                          clear hno hpl
                          go_wp2_with fail
                          go_ret
                          exact Ret.mk (by rw [HND.out, HNO.out]; rfl) HE3.out
                        · have HPL := hid hpl
                          clear hpl
                          go_wp2_with fail
                          have hlt := HLT.out
                          refine ⟨⟨i + 1, by omega, by simp, (show Hid _ from ⟨HE3.out, by rw [T.all, hX.out.2, HPL.out]; rfl⟩)⟩, ?_⟩
                          simp only [intOf]; omega
                      · obtain rfl : i = k := by omega
                        have ti : decide (i < i) = false := by simp
                        go_wp2_with fail
                        go_ret
                        exact Ret.mk (by rw [HND.out, hX.out.2]; rfl) hX.out.1
                · have bs := bs hs; have bS := bS hs
                  go_wp2_with fail
                  go_ret
                  exact Ret.mk (by simp [T.node, hs]) HE0.out
              · have bn := bn hn; have bN := bN hn
                go_wp2_with fail
                go_ret
                exact Ret.mk (by simp [T.node, hn]) HE0.out
            · have e4 : (kind == 4) = false := by simp [a4]
              have f4 : (kind = 4) = False := by simp [a4]
              go_enter Tryz.func70, Tryz.ntmps70
              go_wp2_with fail
              go_ret
              exact Ret.mk (by simp [T.node, a0, a2, a3, a4]) HE0.out

set_option maxRecDepth 20000 in
set_option maxHeartbeats 1600000 in
theorem iRight_any (t : T) (hok : t.ok) (A : Option Addr) (c : Nat) (w : World) (h : IsL w (fun _ => True) t A) :
    Calls Tryz.prog 45 #[itemV t A c] w (Ret (.bool (t.right 8)) w) := by
  have H := hid h; have HO := hid hok
  clear h hok
  have HE0 := hid ((Mod.refl [] w).alloc (.cells (itemC t A c) 64))
  go_enter Tryz.func45, Tryz.ntmps45
  go_wp2_with fail
  refine (right_any t 8 (by omega) HO.out A c _ (H.out.ext HE0.out)).mono ?_
  rintro e w2 ⟨rfl, hb2⟩
  go_wp2_with fail
  go_ret
  exact Ret.mk rfl (HE0.out.trans hb2)
end Go.Proofs.YtogjghmoankleaaGreat


namespace Go.Proofs.YtogjghmoankleaaGreat
open Go.RowKit
set_option linter.unusedVariables false
set_option linter.unusedSimpArgs false

theorem Blk.new' (w : World) (t : TypeId) (cs : Array Value) {N : Nat} (h : w.heap.size = N) : Blk (w.alloc (.cells cs t)) N t cs := by subst h; exact Blk.new _ _ _
theorem openL4 : openL 4 = [159] := by decide
theorem openL7 : openL 7 = [255] := by decide

set_option maxRecDepth 20000 in
set_option maxHeartbeats 3200000 in
theorem build_any (t : T) : t.ok → t.plain = true → t.size ≤ 100000 → ∀ A c w, IsL w (fun _ => True) t A →
    Calls Tryz.prog 46 #[itemV t A c] w (Ret (str t.bytes) w) := by
  induction t with
  | nil => intro hok; cases hok
  | mk kind n s op k ch ih =>
    intro hok hpl hsz A c w h
    have H := hid h; have HO := hid hok; have HPL := hid hpl; have HSZ := hid hsz
    have HI := hid ih
    have hk : Hid (k < 4611686018427387904) := by unfold T.ok at hok; exact hok.2.2.2.1
    have hn64 : Hid (n < 18446744073709551616) := by unfold T.ok at hok; exact hok.2.1
    have hs64 : Hid (s.length < 4611686018427387904) := by unfold T.ok at hok; exact hok.2.2.1
    have hkd : kind = 0 ∨ kind = 2 ∨ kind = 3 ∨ kind = 4 := by unfold T.plain at hpl; rw [Bool.and_eq_true] at hpl; exact T.node_kind hpl.1
    have hpc : Hid (∀ i, i < k → (ch i).plain = true) := by unfold T.plain at hpl; rw [Bool.and_eq_true, T.all_iff] at hpl; exact hpl.2
    have hBy : (T.mk kind n s op k ch).bytes = if kind = 0 then headL 0 n else if kind < 4 then headL kind.toNat s.length ++ s else (if op then [159] else headL 4 k) ++ (T.cat (fun i => (ch i).bytes) k ++ (if op then [255] else [])) := rfl
    have HBy := hid hBy
    show Calls Tryz.prog 46 #[.agg #[.int .i64 kind, .int .u64 (n : Int), str s, .slice A k c, .bool op]] w (Ret (str (T.mk kind n s op k ch).bytes) w)
    have HB : Hid (Blk (w.alloc (.cells #[.int .i64 kind, .int .u64 (n : Int), str s, .slice A k c, .bool op] 64)) w.heap.size 64 #[.int .i64 kind, .int .u64 (n : Int), str s, .slice A k c, .bool op]) := Blk.new _ _ _
    have HE0 := hid ((Mod.refl [] w).alloc (.cells #[.int .i64 kind, .int .u64 (n : Int), str s, .slice A k c, .bool op] 64))
    clear h hok hpl hsz ih hBy
    rcases hkd with rfl | rfl | rfl | rfl
    · rw [HBy.out, if_pos rfl]
      go_enter Tryz.func46, Tryz.ntmps46
      go_wp2_with fail
      refine (head_in 0 n (by omega) (by omega) (by omega) (by have := hn64.out; omega) _).mono ?_
      rintro e w2 ⟨rfl, hb2⟩
      go_wp2_with fail
      go_ret
      exact Ret.mk rfl (HE0.out.trans hb2)
    · rw [HBy.out, if_neg (by omega), if_pos (by omega)]
      go_enter Tryz.func46, Tryz.ntmps46
      go_wp2_with fail
      refine (wBytes_any s hs64 _).mono ?_
      rintro e w2 ⟨rfl, hb2⟩
      go_wp2_with fail
      go_ret
      exact Ret.mk rfl (HE0.out.trans hb2)
    · rw [HBy.out, if_neg (by omega), if_pos (by omega)]
      go_enter Tryz.func46, Tryz.ntmps46
      go_wp2_with fail
      refine (wText_any s hs64 _).mono ?_
      rintro e w2 ⟨rfl, hb2⟩
      go_wp2_with fail
      go_ret
      exact Ret.mk rfl (HE0.out.trans hb2)
    · clear HBy
      have K0 : (0 : Int) ≤ (k : Int) := by omega
      have K1 : (k : Int) < 9223372036854775808 := by have := hk.out; omega
      cases op
      · go_enter Tryz.func46, Tryz.ntmps46
        go_wp2_with fail
        refine (head_in 4 (k : Int) (by omega) (by omega) (by omega) (by have := hk.out; omega) _).mono ?_
        rintro e w2 ⟨rfl, hb2⟩
        rw [Int.toNat_natCast]
        have HE2 := hid (HE0.out.trans hb2)
        have HB2 := hid (HB.out.ext hb2)
        have c4 : w2.cell? ⟨w.heap.size, 4, none⟩ = some (.bool false) := HB2.out.cell 4
        have c3 : w2.cell? ⟨w.heap.size, 3, none⟩ = some (.slice A k c) := HB2.out.cell 3
        clear hb2 K1
        go_wp2_with fail
        clear c4 c3
        go_loopw [3, 36] (fun s3 s36 wr => ∃ i : Nat, i ≤ k ∧ s36 = .int .i64 (i : Int) ∧ s3 = str (pre 4 s false k ch i) ∧ Hid (Ext w wr)) (fun _ i _ => k - (intOf i).toNat)
        case atStart => exact ⟨0, Nat.zero_le _, rfl, by simp [pre, T.cat], HE2.out⟩
        case round =>
          obtain ⟨i, hi, rfl, rfl, hH⟩ := hrel
          have i0 : (0 : Int) ≤ (i : Int) := by omega
          have HP := hid (pre_le (op := false) hi HSZ.out)
          by_cases hlt : i < k
          · obtain ⟨b, o, Ai, ci, rfl, hb, ⟨k0, k1, k2, k3, k4⟩, hL⟩ := H.out.cells hH.out hlt
            have i1 : (i : Int) < (k : Int) := by omega
            have ti : decide (i < k) = true := by simp [hlt]
            have HL := hid hL; have HLT := hid hlt
            have HOi : Hid (ch i).ok := by have := HO.out; unfold T.ok at this; exact this.2.2.2.2 i hlt
            have HZi : Hid ((ch i).size ≤ 100000) := Nat.le_trans (T.size_ch hlt) HSZ.out
            have HPS := hid (pre_succ 4 s false k ch i)
            have hno : (9223372036854775807 < (pre 4 s false k ch i).length + (ch i).bytes.length) = False := by
              have h1 := pre_le (op := false) (show i + 1 ≤ k by omega) HSZ.out
              rw [HPS.out, List.length_append] at h1
              simp; omega
            have hk2 : (k : Int) < 4611686018427387904 := by have := hk.out; omega
            have HEa := hid ((Mod.refl [] wr).alloc (.cells (itemC (ch i) Ai ci) 64))
            clear hL hlt
            go_wp2_with fail
            refine (HI.out i HOi.out (hpc.out i HLT.out) HZi.out Ai ci _ (HL.out.ext HEa.out)).mono ?_
            rintro e w3 ⟨rfl, hb3⟩
            have HE3 := hid ((hH.out.trans HEa.out).trans hb3)
            clear hb3
            go_wp2_with fail
            have hlt := HLT.out
            refine ⟨⟨i + 1, by omega, by simp, by rw [HPS.out]; exact str_app _ _, (show Hid _ from HE3.out)⟩, ?_⟩
            simp only [intOf]; omega
          · obtain rfl : i = k := by omega
            have ti : decide (i < i) = false := by simp
            have HPE := hid (pre_end (n := n) (s := s) (op := false) (k := i) (ch := ch))
            have hno : (9223372036854775807 < (pre 4 s false i ch i).length) = False := by have := HP.out; simp; omega
            go_wp2_with fail
            go_ret
            exact Ret.mk (by rw [HPE.out]; exact str_app _ []) hH.out
      · go_enter Tryz.func46, Tryz.ntmps46
        go_wp2_with fail
        refine (head_in 4 (k : Int) (by omega) (by omega) (by omega) (by have := hk.out; omega) _).mono ?_
        rintro e w2 ⟨rfl, hb2⟩
        rw [Int.toNat_natCast]
        have HE2 := hid (HE0.out.trans hb2)
        have HB2 := hid (HB.out.ext hb2)
        have c4 : w2.cell? ⟨w.heap.size, 4, none⟩ = some (.bool true) := HB2.out.cell 4
        have c3 : w2.cell? ⟨w.heap.size, 3, none⟩ = some (.slice A k c) := HB2.out.cell 3
        clear hb2 K1
        go_wp2_with fail
        refine (open_any 4 _).mono ?_
        rintro e w3 ⟨rfl, hb3⟩
        rw [openL4]
        go_wp2_with fail
        refine (open_any 7 _).mono ?_
        rintro e w4 ⟨rfl, hb4⟩
        rw [openL7]
        have HE4 := hid ((HE2.out.trans hb3).trans hb4)
        have HB4 := hid ((HB2.out.ext hb3).ext hb4)
        clear hb3 hb4 c3 c4 HE2 HB2
        have HE2 := HE4
        have c3 : w4.cell? ⟨w.heap.size, 3, none⟩ = some (.slice A k c) := HB4.out.cell 3
        have c4 : w4.cell? ⟨w.heap.size, 4, none⟩ = some (.bool true) := HB4.out.cell 4
        go_wp2_with fail
        clear c4 c3
        go_loopw [3, 36] (fun s3 s36 wr => ∃ i : Nat, i ≤ k ∧ s36 = .int .i64 (i : Int) ∧ s3 = str (pre 4 s true k ch i) ∧ Hid (Ext w wr)) (fun _ i _ => k - (intOf i).toNat)
        case atStart => exact ⟨0, Nat.zero_le _, rfl, by simp [pre, T.cat], HE2.out⟩
        case round =>
          obtain ⟨i, hi, rfl, rfl, hH⟩ := hrel
          have i0 : (0 : Int) ≤ (i : Int) := by omega
          have HP := hid (pre_le (op := true) hi HSZ.out)
          by_cases hlt : i < k
          · obtain ⟨b, o, Ai, ci, rfl, hb, ⟨k0, k1, k2, k3, k4⟩, hL⟩ := H.out.cells hH.out hlt
            have i1 : (i : Int) < (k : Int) := by omega
            have ti : decide (i < k) = true := by simp [hlt]
            have HL := hid hL; have HLT := hid hlt
            have HOi : Hid (ch i).ok := by have := HO.out; unfold T.ok at this; exact this.2.2.2.2 i hlt
            have HZi : Hid ((ch i).size ≤ 100000) := Nat.le_trans (T.size_ch hlt) HSZ.out
            have HPS := hid (pre_succ 4 s true k ch i)
            have hno : (9223372036854775807 < (pre 4 s true k ch i).length + (ch i).bytes.length) = False := by
              have h1 := pre_le (op := true) (show i + 1 ≤ k by omega) HSZ.out
              rw [HPS.out, List.length_append] at h1
              simp; omega
            have hk2 : (k : Int) < 4611686018427387904 := by have := hk.out; omega
            have HEa := hid ((Mod.refl [] wr).alloc (.cells (itemC (ch i) Ai ci) 64))
            clear hL hlt
            go_wp2_with fail
            refine (HI.out i HOi.out (hpc.out i HLT.out) HZi.out Ai ci _ (HL.out.ext HEa.out)).mono ?_
            rintro e w3 ⟨rfl, hb3⟩
            have HE3 := hid ((hH.out.trans HEa.out).trans hb3)
            clear hb3
            go_wp2_with fail
            have hlt := HLT.out
            refine ⟨⟨i + 1, by omega, by simp, by rw [HPS.out]; exact str_app _ _, (show Hid _ from HE3.out)⟩, ?_⟩
            simp only [intOf]; omega
          · obtain rfl : i = k := by omega
            have ti : decide (i < i) = false := by simp
            have HPE := hid (pre_end (n := n) (s := s) (op := true) (k := i) (ch := ch))
            have hno : (9223372036854775807 < (pre 4 s true i ch i).length + 1) = False := by have := HP.out; simp; omega
            go_wp2_with fail
            go_ret
            exact Ret.mk (by rw [HPE.out]; exact str_app _ [255]) hH.out

/-- What Build hands back. -/
def buildV (t : T) : Value := if t.right 8 then .tuple #[str t.bytes, .int .i64 0] else .tuple #[str [], .int .i64 1]
set_option maxRecDepth 20000 in
set_option maxHeartbeats 1600000 in
theorem iBuild_any (t : T) (hok : t.ok) (hsz : t.size ≤ 100000) (A : Option Addr) (c : Nat) (w : World) (h : IsL w (fun _ => True) t A) :
    Calls Tryz.prog 28 #[itemV t A c] w (Ret (buildV t) w) := by
  have H := hid h; have HO := hid hok; have HS := hid hsz
  have HB : Hid (Blk (w.alloc (.cells (itemC t A c) 64)) w.heap.size 64 (itemC t A c)) := Blk.new _ _ _
  have HE0 := hid ((Mod.refl [] w).alloc (.cells (itemC t A c) 64))
  have HPL : Hid (t.right 8 = true → t.plain = true) := fun h => by rw [T.right_eq] at h; simp at h; exact h.2
  clear h hok hsz
  go_enter Tryz.func28, Tryz.ntmps28
  go_wp2_with fail
  refine (iRight_any t HO.out A c _ (H.out.ext HE0.out)).mono ?_
  rintro e w2 ⟨rfl, hb2⟩
  have HE2 := hid (HE0.out.trans hb2)
  have hB2 := HB.out.ext hb2
  have c0 : w2.cell? ⟨w.heap.size, 0, none⟩ = some (.int .i64 t.kind) := hB2.cell 0
  have c1 : w2.cell? ⟨w.heap.size, 1, none⟩ = some (.int .u64 (t.n : Int)) := hB2.cell 1
  have c2 : w2.cell? ⟨w.heap.size, 2, none⟩ = some (str t.s) := hB2.cell 2
  have c3 : w2.cell? ⟨w.heap.size, 3, none⟩ = some (.slice A t.k c) := hB2.cell 3
  have c4 : w2.cell? ⟨w.heap.size, 4, none⟩ = some (.bool t.op) := hB2.cell 4
  clear hb2 hB2
  cases hr : t.right 8
  · have HR := hid hr
    clear hr
    go_wp2_with fail
    go_ret2
    exact Ret.mk (by rw [buildV, HR.out]; rfl) HE2.out
  · have HR := hid hr
    clear hr
    go_wp2_with fail
    refine (build_any t HO.out (HPL.out HR.out) HS.out A c _ (H.out.ext HE2.out)).mono ?_
    rintro e w3 ⟨rfl, hb3⟩
    go_wp2_with fail
    go_ret2
    exact Ret.mk (by rw [buildV, HR.out]; rfl) (HE2.out.trans hb3)
end Go.Proofs.YtogjghmoankleaaGreat


namespace Go.Proofs.YtogjghmoankleaaGreat
open Go.RowKit
set_option linter.unusedVariables false
set_option linter.unusedSimpArgs false

theorem EV.ok_cases {e : EV} (h : e.ok = true) : (e = ⟨1, [110, 111, 110, 101], 0, 0⟩) ∨ (∃ name, e = ⟨1, name, 0, 0⟩ ∧ name ≠ [110, 111, 110, 101] ∧ name.length ≤ 60) ∨ (∃ node svc, e = ⟨2, [], node, svc⟩ ∧ node ≤ 4294967295 ∧ svc ≤ 4294967295) := by
  obtain ⟨sch, name, node, svc⟩ := e
  unfold EV.ok at h
  simp only [] at h
  by_cases h1 : sch = 1
  · rw [if_pos h1] at h
    simp only [Bool.and_eq_true, decide_eq_true_eq] at h
    obtain ⟨⟨rfl, rfl⟩, hn⟩ := h
    subst h1
    by_cases h0 : name = [110, 111, 110, 101]
    · subst h0; exact .inl rfl
    · refine .inr (.inl ⟨name, rfl, h0, ?_⟩)
      have h00 : ¬ name = noneL := h0
      simp only [namedL, h00, decide_false, Bool.false_or, Bool.and_eq_true, decide_eq_true_eq] at hn
      by_cases hl : name.length ≤ 60
      · exact hl
      · exfalso
        apply hn.1
        unfold nodeN
        rw [if_neg (fun h => hl h.2)]
  · rw [if_neg h1] at h
    by_cases h2 : sch = 2
    · rw [if_pos h2] at h
      simp only [Bool.and_eq_true, decide_eq_true_eq] at h
      obtain ⟨⟨rfl, ha⟩, hb⟩ := h
      subst h2
      exact .inr (.inr ⟨node, svc, rfl, ha, hb⟩)
    · rw [if_neg h2] at h
      cases h
theorem eidItem_ok (e : EV) (ho : e.ok = true) (w : World) : Calls Tryz.prog 47 #[e.v] w (fun r w' => ∃ A, r = .returned (.tuple #[itemV (eidT e) A 2, .int .i64 0]) ∧ Ext w w' ∧ IsL w' (fun b => w.heap.size ≤ b) (eidT e) A) := by
  rcases EV.ok_cases ho with rfl | ⟨name, rfl, hn, hl⟩ | ⟨node, svc, rfl, ha, hb⟩
  · exact eidItem_none w
  · exact eidItem_dtn name (by unfold Hid; omega) hn ho w
  · have e1 : eidT ⟨2, [], node, svc⟩ = ipnT node svc := rfl
    rw [e1]
    exact eidItem_ipn node svc ha hb w
theorem text_ok {s : List UInt8} (h : s.length < 4611686018427387904) : (textT s).ok := by unfold textT T.ok; exact ⟨by omega, by omega, h, by omega, fun i hi => by omega⟩
theorem eidT_ok {e : EV} (ho : e.ok = true) : (eidT e).ok ∧ (∀ d, 3 ≤ d → (eidT e).right d = true) ∧ (eidT e).plain = true ∧ (eidT e).size ≤ 100000 := by
  rcases EV.ok_cases ho with rfl | ⟨name, rfl, hn, hl⟩ | ⟨node, svc, rfl, ha, hb⟩
  · refine ⟨?_, fun d hd => ?_, by decide, by decide⟩
    · unfold eidT T.ok
      exact ⟨by omega, by omega, by simp, by omega, fun i hi => by dsimp only; split; exact num_ok (by decide); exact num_ok (by decide)⟩
    · have h1 : ¬ d < 1 := by omega
      have h2 : ¬ d - 1 < 1 := by omega
      simp [eidT, twoT, noneL, T.right, h1, h2, T.node, T.all, numT]
  · have h0 : ¬ name = noneL := hn
    have e1 : twoT ⟨1, name, 0, 0⟩ = textT name := by simp [twoT, h0]
    refine ⟨?_, fun d hd => ?_, ?_, ?_⟩
    · unfold eidT T.ok
      exact ⟨by omega, by omega, by simp, by omega, fun i hi => by dsimp only; split; exact num_ok (by decide); rw [e1]; exact text_ok (by omega)⟩
    · have h1 : ¬ d < 1 := by omega
      have h2 : ¬ d - 1 < 1 := by omega
      simp [eidT, e1, T.right, h1, h2, T.node, T.all, numT, textT]
    · simp [eidT, e1, T.plain, T.node, T.all, numT, textT]
    · simp [eidT, e1, T.size, T.sum, numT, textT]; omega
  · refine ⟨?_, fun d hd => ?_, ?_, ?_⟩
    · unfold eidT T.ok
      refine ⟨by omega, by omega, by simp, by omega, fun i hi => ?_⟩
      dsimp only
      split
      · exact num_ok (by decide)
      · show (T.mk 4 0 [] false 2 (fun j => if j = 0 then numT node else numT svc)).ok
        unfold T.ok
        exact ⟨by omega, by omega, by simp, by omega, fun i hi => by dsimp only; split; exact num_ok (by omega); exact num_ok (by omega)⟩
    · have h1 : ¬ d < 1 := by omega
      have h2 : ¬ d - 1 < 1 := by omega
      have h3 : ¬ d - 1 - 1 < 1 := by omega
      simp [eidT, twoT, T.right, h1, h2, h3, T.node, T.all, numT]
    · simp [eidT, twoT, T.plain, T.node, T.all, numT]
    · simp [eidT, twoT, T.size, T.sum, numT]

theorem two_IsL {W : World} {Q : Nat → Prop} {g : Nat} (t0 t1 : T) (A0 A1 : Option Addr) (c0 c1 : Nat) (q : Q g)
    (h : Blk W g 64 #[.int .i64 t0.kind, .int .u64 (t0.n : Int), str t0.s, .slice A0 t0.k c0, .bool t0.op, .int .i64 t1.kind, .int .u64 (t1.n : Int), str t1.s, .slice A1 t1.k c1, .bool t1.op]) (h0 : IsL W Q t0 A0) (h1 : IsL W Q t1 A1) : IsL W Q (T.mk 4 0 [] false 2 fun i => if i = 0 then t0 else t1) (some ⟨g, 0, none⟩) := fun _ => ⟨g, 0, rfl, h.lt, q, fun i hi => by
  have hi2 : i = 0 ∨ i = 1 := by omega
  rcases hi2 with rfl | rfl
  · exact ⟨A0, c0, ⟨h.cell 0, h.cell 1, h.cell 2, h.cell 3, h.cell 4⟩, h0⟩
  · exact ⟨A1, c1, ⟨h.cell 5, h.cell 6, h.cell 7, h.cell 8, h.cell 9⟩, h1⟩⟩
theorem leaf_IsL {W : World} {Q : Nat → Prop} {t : T} {A : Option Addr} (h : t.k = 0) (hn : t ≠ T.nil) : IsL W Q t A := by
  cases t with
  | nil => exact absurd rfl hn
  | mk kind n s op k ch => intro h0; have : k = 0 := h; omega

set_option maxRecDepth 20000 in
set_option maxHeartbeats 1600000 in
theorem r10Item_none (w : World) : Calls Tryz.prog 37 #[EV.v ⟨1, [110, 111, 110, 101], 0, 0⟩] w (fun r w' => ∃ A, r = .returned (itemV (eidT ⟨1, [110, 111, 110, 101], 0, 0⟩) A 2) ∧ Ext w w' ∧ IsL w' (fun b => w.heap.size ≤ b) (eidT ⟨1, [110, 111, 110, 101], 0, 0⟩) A) := by
  go_enter Tryz.func37, Tryz.ntmps37
  go_wp2_with fail
  refine bodyPost_ret (v := itemV (eidT ⟨1, [110, 111, 110, 101], 0, 0⟩) (some ⟨w.heap.size + 1 + 1 + 1, 0, none⟩) 2) (by simp [results, Tryz.results37, go_sem]; exact ⟨rfl, rfl, rfl, rfl, rfl⟩) rfl ?_
  refine ⟨_, rfl, ((((Mod.refl _ _).alloc _).alloc _).alloc _).alloc _, ?_⟩
  exact two_IsL (numT 1) (numT 0) none none 0 0 (show w.heap.size ≤ w.heap.size + 1 + 1 + 1 by omega) (Blk.new' _ _ _ (by simp)) (leaf_IsL rfl (by simp [numT])) (leaf_IsL rfl (by simp [numT]))
set_option maxRecDepth 20000 in
set_option maxHeartbeats 1600000 in
theorem r10Item_dtn (name : List UInt8) (hn : name ≠ [110, 111, 110, 101]) (w : World) : Calls Tryz.prog 37 #[EV.v ⟨1, name, 0, 0⟩] w (fun r w' => ∃ A, r = .returned (itemV (eidT ⟨1, name, 0, 0⟩) A 2) ∧ Ext w w' ∧ IsL w' (fun b => w.heap.size ≤ b) (eidT ⟨1, name, 0, 0⟩) A) := by
  have h0 : ¬ name = noneL := hn
  have e1 : eidT ⟨1, name, 0, 0⟩ = T.mk 4 0 [] false 2 fun i => if i = 0 then numT 1 else textT name := by simp [eidT, twoT, h0]
  rw [e1]
  have n1 : (name == [110, 111, 110, 101]) = false := by simpa using hn
  have n2 : (name = [110, 111, 110, 101]) = False := by simpa using hn
  have n3 : (name != [110, 111, 110, 101]) = true := by simpa using hn
  clear e1 h0 hn
  go_enter Tryz.func37, Tryz.ntmps37
  go_wp2_with fail
  refine bodyPost_ret (v := itemV (T.mk 4 0 [] false 2 fun i => if i = 0 then numT 1 else textT name) (some ⟨w.heap.size + 1 + 1 + 1, 0, none⟩) 2) (by simp [results, Tryz.results37, go_sem]; exact ⟨rfl, rfl, rfl, rfl, rfl⟩) rfl ?_
  refine ⟨_, rfl, ((((Mod.refl _ _).alloc _).alloc _).alloc _).alloc _, ?_⟩
  exact two_IsL (numT 1) (textT name) none none 0 0 (show w.heap.size ≤ w.heap.size + 1 + 1 + 1 by omega) (Blk.new' _ _ _ (by simp)) (leaf_IsL rfl (by simp [numT])) (leaf_IsL rfl (by simp [textT]))
set_option maxRecDepth 20000 in
set_option maxHeartbeats 1600000 in
theorem r10Item_ipn (node svc : Nat) (w : World) : Calls Tryz.prog 37 #[EV.v ⟨2, [], node, svc⟩] w (fun r w' => ∃ A, r = .returned (itemV (eidT ⟨2, [], node, svc⟩) A 2) ∧ Ext w w' ∧ IsL w' (fun b => w.heap.size ≤ b) (eidT ⟨2, [], node, svc⟩) A) := by
  go_enter Tryz.func37, Tryz.ntmps37
  go_wp2_with fail
  refine bodyPost_ret (v := itemV (eidT ⟨2, [], node, svc⟩) (some ⟨w.heap.size + 1 + 1 + 1 + 1, 0, none⟩) 2) (by simp [results, Tryz.results37, go_sem]; exact ⟨rfl, rfl, rfl, rfl, rfl⟩) rfl ?_
  refine ⟨_, rfl, (((((Mod.refl _ _).alloc _).alloc _).alloc _).alloc _).alloc _, ?_⟩
  refine two_IsL (numT 2) (T.mk 4 0 [] false 2 (fun j => if j = 0 then numT node else numT svc)) none (some ⟨w.heap.size + 1 + 1 + 1, 0, none⟩) 0 2 (show w.heap.size ≤ w.heap.size + 1 + 1 + 1 + 1 by omega) (Blk.new' _ _ _ (by simp)) (leaf_IsL rfl (by simp [numT])) ?_
  exact two_IsL (numT node) (numT svc) none none 0 0 (show w.heap.size ≤ w.heap.size + 1 + 1 + 1 by omega) ((Blk.new' _ _ _ (by simp)).alloc _) (leaf_IsL rfl (by simp [numT])) (leaf_IsL rfl (by simp [numT]))
theorem r10Item_ok (e : EV) (ho : e.ok = true) (w : World) : Calls Tryz.prog 37 #[e.v] w (fun r w' => ∃ A, r = .returned (itemV (eidT e) A 2) ∧ Ext w w' ∧ IsL w' (fun b => w.heap.size ≤ b) (eidT e) A) := by
  rcases EV.ok_cases ho with rfl | ⟨name, rfl, hn, hl⟩ | ⟨node, svc, rfl, ha, hb⟩
  · exact r10Item_none w
  · exact r10Item_dtn name hn w
  · exact r10Item_ipn node svc w
end Go.Proofs.YtogjghmoankleaaGreat


namespace Go.Proofs.YtogjghmoankleaaGreat
set_option linter.unusedVariables false
set_option linter.unusedSimpArgs false
namespace Crc

/-- So many bits about. -/
def rv : Nat → Nat → Nat
  | 0, _ => 0
  | n + 1, x => 2 ^ n * (x % 2) + rv n (x / 2)
theorem rv_lt : ∀ (n x : Nat), rv n x < 2 ^ n
  | 0, _ => by simp [rv]
  | n + 1, x => by
    have h := rv_lt n (x / 2)
    have h2 : x % 2 < 2 := Nat.mod_lt _ (by omega)
    have : x % 2 = 0 ∨ x % 2 = 1 := by omega
    unfold rv
    rcases this with e | e <;> rw [e, Nat.pow_succ] <;> omega
theorem rv_bit : ∀ (n x i : Nat), (rv n x).testBit i = (decide (i < n) && x.testBit (n - 1 - i))
  | 0, x, i => by simp [rv]
  | n + 1, x, i => by
    have h := rv_bit n (x / 2) i
    have hl := rv_lt n (x / 2)
    unfold rv
    rw [Nat.testBit_two_pow_mul_add _ hl]
    by_cases hi : i < n
    · rw [if_pos hi, h]
      have e : n + 1 - 1 - i = (n - 1 - i) + 1 := by omega
      rw [e, Nat.testBit_succ]
      simp [hi, Nat.lt_succ_of_lt hi]
    · rw [if_neg hi]
      by_cases hin : i = n
      · subst hin
        simp [Nat.testBit_zero]
      · have h1 : ¬ i < n + 1 := by omega
        have h3 : i - n = (i - n - 1) + 1 := by omega
        have h4 : x % 2 / 2 = 0 := by omega
        simp only [h1, decide_false, Bool.false_and]
        rw [h3, Nat.testBit_succ, h4, Nat.zero_testBit]
theorem rv_xor (n x y : Nat) : rv n (x ^^^ y) = rv n x ^^^ rv n y := by
  apply Nat.eq_of_testBit_eq
  intro i
  rw [Nat.testBit_xor, rv_bit, rv_bit, rv_bit, Nat.testBit_xor]
  cases decide (i < n) <;> simp
theorem rv_rv (n x : Nat) (h : x < 2 ^ n) : rv n (rv n x) = x := by
  apply Nat.eq_of_testBit_eq
  intro i
  rw [rv_bit, rv_bit]
  by_cases hi : i < n
  · have e : n - 1 - (n - 1 - i) = i := by omega
    have e2 : n - 1 - i < n := by omega
    simp [hi, e, e2]
  · have : x < 2 ^ i := Nat.lt_of_lt_of_le h (Nat.pow_le_pow_right (by omega) (by omega))
    simp [hi, Nat.testBit_lt_two_pow this]
theorem rv_high (m x : Nat) : rv (m + 1) x / 2 ^ m = x % 2 := by
  unfold rv
  rw [Nat.mul_add_div (Nat.two_pow_pos m), Nat.div_eq_of_lt (rv_lt m _)]
  omega
theorem rv_half (m x : Nat) (h : x < 2 ^ (m + 1)) : rv (m + 1) (x / 2) = rv (m + 1) x * 2 % 2 ^ (m + 1) := by
  apply Nat.eq_of_testBit_eq
  intro i
  rw [rv_bit, Nat.testBit_mod_two_pow, ← Nat.testBit_succ]
  cases i with
  | zero =>
    have e : (m + 1 - 1 - 0).succ = m + 1 := by omega
    rw [e, Nat.testBit_lt_two_pow h]
    simp [Nat.testBit_zero]
  | succ i =>
    have t : (rv (m + 1) x * 2).testBit (i + 1) = (rv (m + 1) x).testBit i := by rw [Nat.testBit_succ, Nat.mul_div_cancel _ (by omega : 0 < 2)]
    rw [t, rv_bit]
    by_cases hi : i + 1 < m + 1
    · have e : (m + 1 - 1 - (i + 1)).succ = m + 1 - 1 - i := by omega
      have h2 : i < m + 1 := by omega
      simp only [hi, h2, e, decide_true, Bool.true_and]
    · simp [hi]

/-- The code's step, its byte, its row. -/
def stepC (p s : Nat) : Nat := if s % 2 = 1 then s / 2 ^^^ p else s / 2
def stepsC (p : Nat) : Nat → Nat → Nat
  | 0, s => s
  | k + 1, s => stepsC p k (stepC p s)
def divC (p : Nat) (s : Nat) (l : List UInt8) : Nat := l.foldl (fun s c => stepsC p 8 (s ^^^ c.toNat)) s
/-- The same step, with a bit of the row. -/
def stepB (p s b : Nat) : Nat := if s % 2 = b then s / 2 else s / 2 ^^^ p
def stepsB (p : Nat) : Nat → Nat → Nat → Nat
  | 0, s, _ => s
  | k + 1, s, c => stepsB p k (stepB p s (c % 2)) (c / 2)
/-- The reference's step, its byte, its row. -/
def stepR (top d r b : Nat) : Nat := if r / (top / 2) = b then r * 2 % top else (r * 2 % top) ^^^ d
def stepsR (top d : Nat) : Nat → Nat → Nat → Nat
  | 0, r, _ => r
  | k + 1, r, c => stepsR top d k (stepR top d r (c % 2)) (c / 2)
def divR (top d : Nat) (r : Nat) (l : List UInt8) : Nat := l.foldl (fun r c => stepsR top d 8 r c.toNat) r

theorem xor_mod (a b : Nat) : (a ^^^ b) % 2 = if a % 2 = b % 2 then 0 else 1 := by
  have h := Nat.testBit_xor a b 0
  simp only [Nat.testBit_zero] at h
  rcases Nat.mod_two_eq_zero_or_one a with ha | ha <;> rcases Nat.mod_two_eq_zero_or_one b with hb | hb <;> rcases Nat.mod_two_eq_zero_or_one (a ^^^ b) with hab | hab <;> simp [ha, hb, hab] at h ⊢
theorem xor_half (a b : Nat) : (a ^^^ b) / 2 = a / 2 ^^^ b / 2 := by
  apply Nat.eq_of_testBit_eq
  intro i
  rw [← Nat.testBit_succ, Nat.testBit_xor, Nat.testBit_xor, ← Nat.testBit_succ, ← Nat.testBit_succ]
theorem stepC_xor (p s c : Nat) : stepC p (s ^^^ c) = stepB p s (c % 2) ^^^ (c / 2) := by
  unfold stepC stepB
  rw [xor_mod, xor_half]
  by_cases h : s % 2 = c % 2
  · simp [h]
  · simp only [h, if_false, if_true]
    rw [Nat.xor_assoc, Nat.xor_comm (c / 2), ← Nat.xor_assoc]
theorem stepsC_xor (p : Nat) : ∀ (k s c : Nat), stepsC p k (s ^^^ c) = stepsB p k s c ^^^ (c / 2 ^ k)
  | 0, s, c => by simp [stepsC, stepsB]
  | k + 1, s, c => by
    show stepsC p k (stepC p (s ^^^ c)) = stepsB p k (stepB p s (c % 2)) (c / 2) ^^^ (c / 2 ^ (k + 1))
    rw [stepC_xor, stepsC_xor p k, Nat.div_div_eq_div_mul, Nat.pow_succ, Nat.mul_comm]
theorem stepB_lt {m p s b : Nat} (hp : p < 2 ^ (m + 1)) (hs : s < 2 ^ (m + 1)) : stepB p s b < 2 ^ (m + 1) := by
  unfold stepB
  split
  · omega
  · exact Nat.xor_lt_two_pow (by omega) hp
theorem stepsB_lt {m p : Nat} (hp : p < 2 ^ (m + 1)) : ∀ (k s c : Nat), s < 2 ^ (m + 1) → stepsB p k s c < 2 ^ (m + 1)
  | 0, s, c, h => h
  | k + 1, s, c, h => stepsB_lt hp k _ _ (stepB_lt hp h)
theorem stepR_rv {m p s b : Nat} (hs : s < 2 ^ (m + 1)) : stepR (2 ^ (m + 1)) (rv (m + 1) p) (rv (m + 1) s) b = rv (m + 1) (stepB p s b) := by
  have e : 2 ^ (m + 1) / 2 = 2 ^ m := by rw [Nat.pow_succ]; omega
  unfold stepR stepB
  rw [e, rv_high]
  split
  · rw [rv_half m s hs]
  · rw [rv_xor, rv_half m s hs]
theorem stepsR_rv {m p : Nat} (hp : p < 2 ^ (m + 1)) : ∀ (k s c : Nat), s < 2 ^ (m + 1) → stepsR (2 ^ (m + 1)) (rv (m + 1) p) k (rv (m + 1) s) c = rv (m + 1) (stepsB p k s c)
  | 0, s, c, h => rfl
  | k + 1, s, c, h => by
    show stepsR _ _ k (stepR _ _ _ _) _ = rv _ (stepsB p k (stepB p s _) _)
    rw [stepR_rv h]
    exact stepsR_rv hp k _ _ (stepB_lt hp h)
theorem byte_rv {m p s : Nat} (hp : p < 2 ^ (m + 1)) (hs : s < 2 ^ (m + 1)) (c : UInt8) :
    stepsR (2 ^ (m + 1)) (rv (m + 1) p) 8 (rv (m + 1) s) c.toNat = rv (m + 1) (stepsC p 8 (s ^^^ c.toNat)) ∧ stepsC p 8 (s ^^^ c.toNat) < 2 ^ (m + 1) := by
  have h0 : c.toNat / 2 ^ 8 = 0 := Nat.div_eq_of_lt c.toNat_lt
  have h := stepsC_xor p 8 s c.toNat
  rw [h0, Nat.xor_zero] at h
  rw [h]
  exact ⟨stepsR_rv hp 8 s _ hs, stepsB_lt hp 8 s _ hs⟩
theorem div_rv {m p : Nat} (hp : p < 2 ^ (m + 1)) : ∀ (l : List UInt8) (s : Nat), s < 2 ^ (m + 1) → divR (2 ^ (m + 1)) (rv (m + 1) p) (rv (m + 1) s) l = rv (m + 1) (divC p s l) ∧ divC p s l < 2 ^ (m + 1)
  | [], s, h => ⟨rfl, h⟩
  | c :: l, s, h => by
    have hb := byte_rv hp h c
    have ih := div_rv hp l _ hb.2
    unfold divR divC at ih ⊢
    simp only [List.foldl_cons]
    rw [hb.1]
    exact ih
theorem not_xor {n x : Nat} (h : x < 2 ^ n) : 2 ^ n - 1 - x = (2 ^ n - 1) ^^^ x := by
  apply Nat.eq_of_testBit_eq
  intro i
  have e : 2 ^ n - 1 - x = 2 ^ n - (x + 1) := by omega
  rw [e, Nat.testBit_two_pow_sub_succ h, Nat.testBit_xor, Nat.testBit_two_pow_sub_one]
  by_cases hi : i < n
  · simp [hi]
  · have : x < 2 ^ i := Nat.lt_of_lt_of_le h (Nat.pow_le_pow_right (by omega) (by omega))
    simp [hi, Nat.testBit_lt_two_pow this]
theorem rv_ones (n : Nat) : rv n (2 ^ n - 1) = 2 ^ n - 1 := by
  apply Nat.eq_of_testBit_eq
  intro i
  rw [rv_bit, Nat.testBit_two_pow_sub_one, Nat.testBit_two_pow_sub_one]
  by_cases hi : i < n
  · have : n - 1 - i < n := by omega
    simp [hi, this]
  · simp [hi]
/-- The two sums. -/
theorem sums {m p : Nat} (hp : p < 2 ^ (m + 1)) (l : List UInt8) :
    rv (m + 1) (2 ^ (m + 1) - 1 - divR (2 ^ (m + 1)) (rv (m + 1) p) (2 ^ (m + 1) - 1) l) = 2 ^ (m + 1) - 1 - divC p (2 ^ (m + 1) - 1) l := by
  have h0 : 2 ^ (m + 1) - 1 < 2 ^ (m + 1) := by have := Nat.two_pow_pos (m + 1); omega
  have h := div_rv hp l (2 ^ (m + 1) - 1) h0
  rw [rv_ones] at h
  rw [h.1, not_xor (rv_lt _ _), rv_xor, rv_ones, rv_rv _ _ h.2, ← not_xor h.2]
end Crc
end Go.Proofs.YtogjghmoankleaaGreat


namespace Go.Proofs.YtogjghmoankleaaGreat
open Go.RowKit
set_option linter.unusedVariables false
set_option linter.unusedSimpArgs false

/-- An array of these items. -/
def listT (L : List T) : T := T.mk 4 0 [] false L.length fun i => (L[i]?).getD T.nil
theorem catR_list (g : T → List UInt8) : ∀ L : List T, T.catR (fun i => g ((L[i]?).getD T.nil)) L.length = (L.map g).flatten
  | [] => rfl
  | x :: L => by
    rw [List.length_cons, T.catR, List.map_cons, List.flatten_cons, ← catR_list g L]
    rfl
theorem listT_bytes (L : List T) : (listT L).bytes = headL 4 L.length ++ (L.map T.bytes).flatten := by
  unfold listT
  rw [T.bytes, if_neg (by decide), if_neg (by decide), T.cat_eq, catR_list]
  simp
theorem getD_mem {L : List T} {i : Nat} (h : i < L.length) : (L[i]?).getD T.nil ∈ L := by
  rw [List.getElem?_eq_getElem h]; exact List.getElem_mem h
theorem listT_ok {L : List T} (hl : L.length < 4611686018427387904) (h : ∀ t ∈ L, t.ok) : (listT L).ok := by
  unfold listT T.ok
  exact ⟨by omega, by omega, by simp, hl, fun i hi => h _ (getD_mem hi)⟩
theorem listT_right {L : List T} {d : Nat} (hd : 1 ≤ d) (hl : L.length ≤ 1000) (h : ∀ t ∈ L, t.right (d - 1) = true) : (listT L).right d = true := by
  unfold listT T.right
  rw [if_neg (by omega), Bool.and_eq_true, T.all_iff]
  refine ⟨?_, fun i hi => h _ (getD_mem hi)⟩
  simp [T.node, hl]
theorem sum_le_each {f : Nat → Nat} {B k : Nat} (h : ∀ i, i < k → f i ≤ B) : T.sum f k ≤ k * B := by
  induction k with
  | zero => simp [T.sum]
  | succ k ih =>
    have := ih (fun i hi => h i (by omega))
    have := h k (by omega)
    rw [T.sum, Nat.succ_mul]; omega
theorem listT_size {L : List T} {B : Nat} (h : ∀ t ∈ L, t.size ≤ B) : (listT L).size ≤ 1 + L.length * B := by
  unfold listT T.size
  have := sum_le_each (f := fun i => ((L[i]?).getD T.nil).size) (B := B) (k := L.length) (fun i hi => h _ (getD_mem hi))
  simp; omega
theorem numT_all (n : Nat) (h : n < 18446744073709551616) : (numT n).ok ∧ (∀ d, 1 ≤ d → (numT n).right d = true) ∧ (numT n).size ≤ 100 ∧ (numT n).bytes = headL 0 n := by
  refine ⟨num_ok h, fun d hd => ?_, by simp [numT, T.size, T.sum], rfl⟩
  unfold numT T.right
  rw [if_neg (by omega)]
  simp [T.node, T.all]
theorem strT_all {s : List UInt8} (h : s.length ≤ 90) : (strT s).ok ∧ (∀ d, 1 ≤ d → (strT s).right d = true) ∧ (strT s).size ≤ 100 ∧ (strT s).bytes = headL 2 s.length ++ s := by
  refine ⟨str_ok (by omega), fun d hd => ?_, ?_, rfl⟩
  · unfold strT T.right
    rw [if_neg (by omega)]
    simp [T.node, T.all]
  · simp [strT, T.size, T.sum]; omega
theorem eidT_small {e : EV} (ho : e.ok = true) : (eidT e).size ≤ 100 := by
  rcases EV.ok_cases ho with rfl | ⟨name, rfl, hn, hl⟩ | ⟨node, svc, rfl, ha, hb⟩
  · decide
  · have h0 : ¬ name = noneL := hn
    have e1 : twoT ⟨1, name, 0, 0⟩ = textT name := by simp [twoT, h0]
    simp [eidT, e1, T.size, T.sum, numT, textT]; omega
  · simp [eidT, twoT, T.size, T.sum, numT]

/- A primary. -/
def PV.ranged (p : PV) : Bool := p.d.ok && (p.s.ok && (p.r.ok && decide (0 ≤ p.crc ∧ p.crc ≤ 2 ∧ p.fl < 2097152 ∧ p.t ≤ 1099511627776 ∧ p.q ≤ 1099511627776 ∧ p.l ≤ 1099511627776 ∧ p.o ≤ 1099511627776 ∧ p.n ≤ 1099511627776)))
def PV.none (p : PV) : Prop := p.s.sch = 1 ∧ p.s.name = noneL
instance (p : PV) : Decidable p.none := by unfold PV.none; infer_instance
def PV.right (p : PV) : Int :=
  if p.ranged = false then 1
  else if (p.fl % 2 = 1 ∧ (p.fl / 4 % 2 = 1 ∨ p.n ≤ p.o)) ∨ (¬ p.fl % 2 = 1 ∧ (0 < p.o ∨ 0 < p.n)) then 8
  else if ((p.fl / 16384 % 2 = 1 ∨ p.fl / 262144 % 2 = 1) ∧ (p.none ∨ p.fl / 2 % 2 = 1)) ∨ (p.none ∧ ¬ p.fl / 4 % 2 = 1) then 8
  else 0
theorem PV.ranged_spec {p : PV} (h : p.ranged = true) : p.d.ok = true ∧ p.s.ok = true ∧ p.r.ok = true ∧ 0 ≤ p.crc ∧ p.crc ≤ 2 ∧ p.fl < 2097152 ∧ p.t ≤ 1099511627776 ∧ p.q ≤ 1099511627776 ∧ p.l ≤ 1099511627776 ∧ p.o ≤ 1099511627776 ∧ p.n ≤ 1099511627776 := by
  unfold PV.ranged at h
  simp only [Bool.and_eq_true, decide_eq_true_eq] at h
  exact ⟨h.1, h.2.1, h.2.2.1, h.2.2.2⟩
theorem PV.right_ranged {p : PV} (h : p.right = 0) : p.ranged = true := by
  unfold PV.right at h
  cases hr : p.ranged with
  | true => rfl
  | false => rw [hr, if_pos rfl] at h; exact absurd h (by decide)
/-- Its items, with a sum. -/
def priL (p : PV) (k : Nat) (sum : List UInt8) : List T :=
  [numT 7, numT p.fl, numT k, eidT p.d, eidT p.s, eidT p.r, listT [numT p.t, numT p.q], numT p.l] ++ ((if p.fl % 2 = 1 then [numT p.o, numT p.n] else []) ++ (if k = 0 then [] else [strT sum]))
def priT (p : PV) (k : Nat) (sum : List UInt8) : T := listT (priL p k sum)
def priN (p : PV) (k : Nat) : Nat := 8 + ((if p.fl % 2 = 1 then 2 else 0) + (if k = 0 then 0 else 1))
theorem priL_length (p : PV) (k : Nat) (sum : List UInt8) : (priL p k sum).length = priN p k := by
  unfold priL priN
  split <;> split <;> simp
/-- Its bytes, with a sum. -/
def priB (p : PV) (k : Nat) (sum : List UInt8) : List UInt8 :=
  headL 4 (priN p k) ++ (headL 0 7 ++ (headL 0 p.fl ++ (headL 0 k ++ ((eidT p.d).bytes ++ ((eidT p.s).bytes ++ ((eidT p.r).bytes ++ (headL 4 2 ++ (headL 0 p.t ++ (headL 0 p.q ++ (headL 0 p.l ++
  ((if p.fl % 2 = 1 then headL 0 p.o ++ headL 0 p.n else []) ++ (if k = 0 then [] else headL 2 sum.length ++ sum))))))))))))
theorem priT_bytes (p : PV) (k : Nat) (sum : List UInt8) : (priT p k sum).bytes = priB p k sum := by
  unfold priT
  rw [listT_bytes, priL_length]
  unfold priL priB
  have e : (listT [numT p.t, numT p.q]).bytes = headL 4 2 ++ (headL 0 p.t ++ headL 0 p.q) := by
    rw [listT_bytes]; simp [show ∀ n, (numT n).bytes = headL 0 n from fun n => rfl]
  by_cases h1 : p.fl % 2 = 1 <;> by_cases h2 : k = 0 <;>
    simp [h1, h2, e, show ∀ n, (numT n).bytes = headL 0 n from fun n => rfl, show ∀ s, (strT s).bytes = headL 2 s.length ++ s from fun s => rfl]
theorem priT_all {p : PV} (h : p.ranged = true) {k : Nat} (hk : k ≤ 2) {sum : List UInt8} (hs : sum.length ≤ 90) : (priT p k sum).ok ∧ (∀ d, 4 ≤ d → (priT p k sum).right d = true) ∧ (priT p k sum).size ≤ 4000 := by
  obtain ⟨h1, h2, h3, h4, h5, h6, h7, h8, h9, h10, h11⟩ := PV.ranged_spec h
  have hm : ∀ t ∈ priL p k sum, t.ok ∧ (∀ d, 3 ≤ d → t.right d = true) ∧ t.size ≤ 350 := by
    intro t ht
    have num : ∀ n, n < 18446744073709551616 → (numT n).ok ∧ (∀ d, 3 ≤ d → (numT n).right d = true) ∧ (numT n).size ≤ 350 := fun n hn => by
      obtain ⟨a, b, c, _⟩ := numT_all n hn
      exact ⟨a, fun d hd => b d (by omega), by omega⟩
    have eid : ∀ e : EV, e.ok = true → (eidT e).ok ∧ (∀ d, 3 ≤ d → (eidT e).right d = true) ∧ (eidT e).size ≤ 350 := fun e he => by
      obtain ⟨a, b, _, _⟩ := eidT_ok he
      exact ⟨a, b, by have := eidT_small he; omega⟩
    unfold priL at ht
    rw [List.mem_append, List.mem_append] at ht
    rcases ht with ht | ht | ht
    · simp only [List.mem_cons, List.not_mem_nil, or_false] at ht
      rcases ht with rfl | rfl | rfl | rfl | rfl | rfl | rfl | rfl
      · exact num 7 (by decide)
      · exact num _ (by omega)
      · exact num _ (by omega)
      · exact eid _ h1
      · exact eid _ h2
      · exact eid _ h3
      · have a := numT_all p.t (by omega)
        have b := numT_all p.q (by omega)
        refine ⟨listT_ok (by simp) ?_, fun d hd => listT_right (by omega) (by simp) ?_, ?_⟩
        · intro t ht
          simp only [List.mem_cons, List.not_mem_nil, or_false] at ht
          rcases ht with rfl | rfl
          · exact a.1
          · exact b.1
        · intro t ht
          simp only [List.mem_cons, List.not_mem_nil, or_false] at ht
          rcases ht with rfl | rfl
          · exact a.2.1 _ (by omega)
          · exact b.2.1 _ (by omega)
        · have := listT_size (L := [numT p.t, numT p.q]) (B := 100) (by
            intro t ht
            simp only [List.mem_cons, List.not_mem_nil, or_false] at ht
            rcases ht with rfl | rfl
            · exact a.2.2.1
            · exact b.2.2.1)
          simp at this
          omega
      · exact num _ (by omega)
    · split at ht
      · simp only [List.mem_cons, List.not_mem_nil, or_false] at ht
        rcases ht with rfl | rfl
        · exact num _ (by omega)
        · exact num _ (by omega)
      · cases ht
    · split at ht
      · cases ht
      · simp only [List.mem_cons, List.not_mem_nil, or_false] at ht
        subst ht
        obtain ⟨a, b, c, _⟩ := strT_all hs
        exact ⟨a, fun d hd => b d (by omega), by omega⟩
  have hl : (priL p k sum).length ≤ 11 := by rw [priL_length]; unfold priN; split <;> split <;> omega
  refine ⟨listT_ok (by omega) fun t ht => (hm t ht).1, fun d hd => listT_right (by omega) (by omega) fun t ht => (hm t ht).2.1 _ (by omega), ?_⟩
  have := listT_size (L := priL p k sum) (B := 350) fun t ht => (hm t ht).2.2
  have h2 : (priL p k sum).length * 350 ≤ 11 * 350 := Nat.mul_le_mul_right _ hl
  show (listT (priL p k sum)).size ≤ 4000
  omega
/-- A number's bytes, as the first is the greatest. -/
def PV.sumK (f : Nat → List UInt8 → List UInt8) (p : PV) (k : Nat) : List UInt8 := if k = 0 then [] else f k (priB p k (List.replicate (2 * k) 0))
end Go.Proofs.YtogjghmoankleaaGreat


namespace Go.Proofs.YtogjghmoankleaaGreat
open Go.RowKit
set_option linter.unusedVariables false
set_option linter.unusedSimpArgs false

section
variable {P : Program} {ops : Array Oper} {C : World → Prop} {rest : List Oper} {o : Oper} {a : Act} {w : World}
/-- A drawn region, walked once: the class of worlds is 'nothing that was there has turned'. -/
theorem wp_region_ext {id : Nat} {Q : Exit → Act → World → Prop} {l : List Oper} (hm : P.follows .mixedOrders = true) (hB : Region.lexB .any l.toArray = true)
    (h : wpQuiet P l.toArray (Ext w) (fun a' => ∀ w', Ext w w' → Q .normal a' w') l a) : (Code.region id l.toArray true).wp P Q a w :=
  wp_region_quiet (C := Ext w) hm hB ((Mod.refl [] w).drew) (by simpa using h)
theorem q_skip {Q : Act → Prop} (hw : Region.wanted o (yielded ops a.tmps) = false) (h : wpQuiet P ops C Q rest (a.put o.dst undef)) : wpQuiet P ops C Q (o :: rest) a :=
  wpQuiet_step fun K hK => by rw [if_neg (by rw [hw]; exact Bool.false_ne_true)]; exact hK _ h
/-- A struct or array is loaded out of a block that is known whole. -/
theorem q_row {Q : Act → Prop} (hw : Region.wanted o (yielded ops a.tmps) = true) (ty : TypeId) (x : Operand) (ho : o.op = .load ty x) (g : Nat) (hx : a.eval x = .pointer (some ⟨g, 0, none⟩))
    {t : TypeId} {cs : Array Value} {d : TypeDesc} (hg : ∀ w, C w → Blk w g t cs) (hu : P.underlying ty = some d) (hd : (match d with | .struct _ | .array _ _ => true | _ => false) = true)
    (hi : (P.info? ty).map (·.size) = some cs.size) (h : wpQuiet P ops C Q rest (a.put o.dst (.agg cs))) : wpQuiet P ops C Q (o :: rest) a :=
  wpQuiet_step fun K hK => by
    rw [if_pos hw]
    refine ⟨.agg cs, fun w hw' => ?_, hK _ h⟩
    unfold Oper.quietAt execOp
    simp only [ho, hx, Instr.loadAt, Instr.sureAddr, Sem.run_bind, Sem.run_pure, Result.andThen_ok, run_loadVar_row w g t ty cs (0, 0) d (hg w hw') hu hd hi]
    exact ⟨rfl, rfl⟩
/-- A number, a string, a pointer is loaded out of a cell. -/
theorem q_load {Q : Act → Prop} (hw : Region.wanted o (yielded ops a.tmps) = true) (ty : TypeId) (x : Operand) (ho : o.op = .load ty x) (p : Addr) (hx : a.eval x = .pointer (some p))
    {v : Value} {d : TypeDesc} (hc : ∀ w, C w → w.cell? p = some v) (hu : P.underlying ty = some d) (hd : (match d with | .struct _ | .array _ _ => true | _ => false) = false)
    (h : wpQuiet P ops C Q rest (a.put o.dst v)) : wpQuiet P ops C Q (o :: rest) a :=
  wpQuiet_step fun K hK => by
    rw [if_pos hw]
    refine ⟨v, fun w hw' => ?_, hK _ h⟩
    have hagg : (isAgg ty).run P w = .ok false w := by
      unfold isAgg
      rw [Sem.run_bind, run_underlying hu w]
      cases d <;> simp_all
    have hl : (loadVar ty p).run P w = .ok v w := by
      simp [loadVar, Sem.run_bind, hagg, hc w hw']
    unfold Oper.quietAt execOp
    simp only [ho, hx, Instr.loadAt, Instr.sureAddr, Sem.run_bind, Sem.run_pure, Result.andThen_ok, hl]
    exact ⟨rfl, rfl⟩
/-- Two strings become one. -/
theorem q_cat {Q : Act → Prop} (hw : Region.wanted o (yielded ops a.tmps) = true) (ty t2 : TypeId) (x y : Operand) (ho : o.op = .binOp .add ty x y t2) (l1 l2 : List UInt8) (hx : a.eval x = str l1) (hy : a.eval y = str l2)
    (hl : l1.length + l2.length ≤ 9223372036854775807) (h : wpQuiet P ops C Q rest (a.put o.dst (str (l1 ++ l2)))) : wpQuiet P ops C Q (o :: rest) a :=
  wpQuiet_step fun K hK => by
    rw [if_pos hw]
    refine ⟨str (l1 ++ l2), fun w hw' => ?_, hK _ h⟩
    have hl' : ¬ 9223372036854775807 < l1.length + l2.length := by omega
    unfold Oper.quietAt execOp
    simp only [ho, hx, hy]
    simp [go_sem, hl']
    rw [ByteArray.mk_append_mk]
/-- A struct or array is loaded out of a block that is known whole, in a plain region. -/
theorem wpList_row {Q : Exit → Act → World → Prop} (hw : Region.wanted o (yielded ops a.tmps) = true) (ty : TypeId) (x : Operand) (ho : o.op = .load ty x)
    (g : Nat) (hx : a.eval x = .pointer (some ⟨g, 0, none⟩)) {t : TypeId} {cs : Array Value} {d : TypeDesc} (hg : Blk w g t cs)
    (hu : P.underlying ty = some d) (hd : (match d with | .struct _ | .array _ _ => true | _ => false) = true) (hi : (P.info? ty).map (·.size) = some cs.size)
    (h : wpList P ops Q rest (a.put o.dst (.agg cs)) w) : wpList P ops Q (o :: rest) a w :=
  wpList_step fun K hK => by rw [if_pos hw]; exact wp_load_row ty x ho g hx t cs (0, 0) d hg hu hd hi (hK _ _ h)
theorem Ret.ext {f : FuncId} {args : Array Value} {v : Value} {w W : World} (h : Calls P f args W (Ret v W)) (hW : Ext w W) : Calls P f args W (fun e w'' => e = .returned v ∧ Ext w w'') :=
  h.mono fun _ _ hh => ⟨hh.1, hW.trans hh.2⟩
end
end Go.Proofs.YtogjghmoankleaaGreat


namespace Go.Proofs.YtogjghmoankleaaGreat
open Go.RowKit
set_option linter.unusedVariables false
set_option linter.unusedSimpArgs false

/-- A later world. -/
structure Later (w : World) where
  x : World
  h : Ext w x
instance (w : World) : Nonempty (Later w) := ⟨⟨w, Mod.refl _ _⟩⟩
section
variable {P : Program} {w : World}
theorem Later.self (w : World) : ∃ e : Later w, w = e.x := ⟨⟨w, Mod.refl _ _⟩, rfl⟩
theorem Later.go (e : Later w) {y : World} (h : Ext e.x y) : ∃ e' : Later w, y = e'.x := ⟨⟨y, e.h.trans h⟩, rfl⟩
/-- What the walk keeps of a call that returns v. -/
def LRet (v : Value) (w : World) (e : Ending) (w' : World) : Prop := e = .returned v ∧ ∃ e' : Later w, w' = e'.x
theorem Ret.later {e : Later w} {f : FuncId} {args : Array Value} {v : Value} (h : Calls P f args e.x (Ret v e.x)) : Calls P f args e.x (fun r w' => r = .returned v ∧ ∃ e' : Later w, w' = e'.x) :=
  h.mono fun _ _ hh => ⟨hh.1, e.go hh.2⟩
theorem Ret.laterW {W : World} (hW : Ext w W) {f : FuncId} {args : Array Value} {v : Value} (h : Calls P f args W (Ret v W)) : Calls P f args W (fun r w' => r = .returned v ∧ ∃ e' : Later w, w' = e'.x) :=
  h.mono fun _ _ hh => ⟨hh.1, ⟨_, hW.trans hh.2⟩, rfl⟩
theorem Blk.later {g : Nat} {t : TypeId} {cs : Array Value} (h : Blk w g t cs) (e : Later w) : Blk e.x g t cs := h.ext e.h
theorem Blk.cellL {g : Nat} {t : TypeId} {cs : Array Value} (h : Blk w g t cs) (i : Nat) {v : Value} (hv : cs[i]? = some v) (e : Later w) : e.x.cell? ⟨g, i, none⟩ = some v := ((h.later e).cell i).trans hv
theorem Blk.newL (w : World) (t : TypeId) (cs : Array Value) {N : Nat} (h : w.heap.size = N) : Blk (w.alloc (.cells cs t)) N t cs := h ▸ Blk.new w t cs
theorem cellL {b o : Nat} {v : Value} (h : w.cell? ⟨b, o, none⟩ = some v) (e : Later w) : e.x.cell? ⟨b, o, none⟩ = some v := by
  have hb : b < w.heap.size := by
    rcases Nat.lt_or_ge b w.heap.size with hlt | hge
    · exact hlt
    · simp [World.cell?, Array.getElem?_eq_none hge] at h
  exact (e.h.cell hb (by simp)).trans h
/-- A drawn region of quiet operations, at a later world: one walk. -/
theorem wp_region_later {e : Later w} {id : Nat} {Q : Exit → Act → World → Prop} {a : Act} {l : List Oper} (hm : P.follows .mixedOrders = true) (hB : Region.lexB .any l.toArray = true)
    (h : wpQuiet P l.toArray (fun w' => ∃ e : Later w, w' = e.x) (fun a' => ∀ w', (∃ e : Later w, w' = e.x) → Q .normal a' w') l a) : (Code.region id l.toArray true).wp P Q a e.x :=
  wp_region_quiet (C := fun w' => ∃ e : Later w, w' = e.x) hm hB ⟨⟨_, e.h.drew⟩, rfl⟩ (by simpa using h)
/-- A struct is loaded out of the midst of a block. -/
theorem wpList_mid {ops : Array Oper} {rest : List Oper} {op : Oper} {a : Act} {W : World} {Q : Exit → Act → World → Prop} (hw : Region.wanted op (yielded ops a.tmps) = true) (ty : TypeId) (x : Operand) (ho : op.op = .load ty x)
    (b o : Nat) (hx : a.eval x = .pointer (some ⟨b, o, none⟩)) (cs : List Value) (d : TypeDesc) (hc : W.rangeAt b o cs)
    (hu : P.underlying ty = some d) (hd : d.isRow = true) (hi : (P.info? ty).map (·.size) = some cs.length)
    (h : wpList P ops Q rest (a.put op.dst (.agg cs.toArray)) W) : wpList P ops Q (op :: rest) a W :=
  wpList_step fun K hK => by rw [if_pos hw]; exact wp_load_mid ty x ho b o hx cs d hc hu hd hi (hK _ _ h)
theorem later_mid {ops : Array Oper} {rest : List Oper} {op : Oper} {a : Act} {Q : Act → Prop} (hw : Region.wanted op (yielded ops a.tmps) = true) (ty : TypeId) (x : Operand) (ho : op.op = .load ty x)
    (b o : Nat) (hx : a.eval x = .pointer (some ⟨b, o, none⟩)) (cs : List Value) (d : TypeDesc) (hc : ∀ e : Later w, e.x.rangeAt b o cs)
    (hu : P.underlying ty = some d) (hd : d.isRow = true) (hi : (P.info? ty).map (·.size) = some cs.length)
    (h : wpQuiet P ops (fun w' => ∃ e : Later w, w' = e.x) Q rest (a.put op.dst (.agg cs.toArray))) : wpQuiet P ops (fun w' => ∃ e : Later w, w' = e.x) Q (op :: rest) a :=
  wpQuiet_step fun K hK => by
    rw [if_pos hw]
    refine ⟨.agg cs.toArray, fun W ⟨e, he⟩ => ?_, hK _ h⟩
    subst he
    unfold Oper.quietAt execOp
    simp only [ho, hx, Instr.loadAt, Instr.sureAddr, Sem.run_bind, Sem.run_pure, Result.andThen_ok, run_loadVar_mid e.x b o ty cs d (hc e) hu hd hi]
    exact ⟨rfl, rfl⟩
/-- Part of a block that is known whole. -/
theorem Blk.range {g : Nat} {t : TypeId} {cs : Array Value} (h : Blk w g t cs) (o n : Nat) {l : List Value} (hl : (cs.extract o (o + n)).toList = l) (e : Later w) : e.x.rangeAt g o l := hl ▸ World.rangeAt_of_block (h.later e) o n
theorem yieldsIf_row {ops : Array Oper} {S : World → Prop} {op : Oper} {a : Act} (hw : Region.wanted op (yielded ops a.tmps) = true) (ty : TypeId) (x : Operand) (ho : op.op = .load ty x) (g : Nat) (hx : a.eval x = .pointer (some ⟨g, 0, none⟩))
    {t : TypeId} {cs : Array Value} {d : TypeDesc} (hS : ∀ w, S w → Blk w g t cs) (hu : P.underlying ty = some d) (hd : (match d with | .struct _ | .array _ _ => true | _ => false) = true)
    (hi : (P.info? ty).map (·.size) = some cs.size) : YieldsIf P ops S op (.agg cs) a :=
  .inl ⟨hw, fun w hw' => by
    unfold execOp
    simp only [ho, hx, Instr.loadAt, Instr.sureAddr, Sem.run_bind, Sem.run_pure, Result.andThen_ok, run_loadVar_row w g t ty cs (0, 0) d (hS w hw') hu hd hi]⟩
theorem yieldsIf_cat {ops : Array Oper} {S : World → Prop} {o : Oper} {a : Act} (hw : Region.wanted o (yielded ops a.tmps) = true) (ty t2 : TypeId) (x y : Operand) (ho : o.op = .binOp .add ty x y t2) (l1 l2 : List UInt8) (hx : a.eval x = str l1) (hy : a.eval y = str l2)
    (hl : l1.length + l2.length ≤ 9223372036854775807) : YieldsIf P ops S o (str (l1 ++ l2)) a :=
  .inl ⟨hw, fun w hw' => by
    have hl' : ¬ 9223372036854775807 < l1.length + l2.length := by omega
    unfold execOp
    simp only [ho, hx, hy]
    simp [go_sem, hl']
    rw [ByteArray.mk_append_mk]⟩
theorem later_row {ops : Array Oper} {rest : List Oper} {o : Oper} {a : Act} {Q : Act → Prop} (hw : Region.wanted o (yielded ops a.tmps) = true) (ty : TypeId) (x : Operand) (ho : o.op = .load ty x) (g : Nat) (hx : a.eval x = .pointer (some ⟨g, 0, none⟩))
    {t : TypeId} {cs : Array Value} {d : TypeDesc} (hg : ∀ e : Later w, Blk e.x g t cs) (hu : P.underlying ty = some d) (hd : (match d with | .struct _ | .array _ _ => true | _ => false) = true)
    (hi : (P.info? ty).map (·.size) = some cs.size) (h : wpQuiet P ops (fun w' => ∃ e : Later w, w' = e.x) Q rest (a.put o.dst (.agg cs))) : wpQuiet P ops (fun w' => ∃ e : Later w, w' = e.x) Q (o :: rest) a :=
  q_row hw ty x ho g hx (fun w ⟨e, he⟩ => he ▸ hg e) hu hd hi h
end
end Go.Proofs.YtogjghmoankleaaGreat


namespace Go.Proofs.YtogjghmoankleaaGreat
open Go.RowKit
set_option linter.unusedVariables false
set_option linter.unusedSimpArgs false

/-- The cells l, stored into block b from cell i on. -/
def setRow (W : World) (b : Nat) : Nat → List Value → World
  | _, [] => W
  | i, v :: l => setRow (W.setCell ⟨b, i, none⟩ v) b (i + 1) l
def writeFrom (cs : Array Value) : Nat → List Value → Array Value
  | _, [] => cs
  | i, v :: l => writeFrom (cs.setIfInBounds i v) (i + 1) l
theorem setRow_blk {t : TypeId} {b : Nat} : ∀ (l : List Value) (W : World) (i : Nat) (cs : Array Value), Blk W b t cs → Blk (setRow W b i l) b t (writeFrom cs i l)
  | [], _, _, _, h => h
  | v :: l, W, i, cs, h => setRow_blk l _ _ _ (h.set_ i v)
theorem writeFrom_size : ∀ (l : List Value) (i : Nat) (cs : Array Value), (writeFrom cs i l).size = cs.size
  | [], _, _ => rfl
  | v :: l, i, cs => by rw [writeFrom, writeFrom_size l]; simp
theorem writeFrom_get : ∀ (l : List Value) (i : Nat) (cs : Array Value) (j : Nat), i + l.length ≤ cs.size → (writeFrom cs i l)[j]? = if i ≤ j ∧ j < i + l.length then l[j - i]? else cs[j]?
  | [], i, cs, j, _ => by
    rw [writeFrom, if_neg (by simp)]
  | v :: l, i, cs, j, h => by
    have h2 : i + (l.length + 1) ≤ cs.size := h
    rw [writeFrom, writeFrom_get l (i + 1) _ j (by simp; omega)]
    by_cases e : j = i
    · subst e
      rw [if_neg (by omega), if_pos ⟨by omega, by simp⟩]
      simp [show j < cs.size by omega]
    · by_cases a : i + 1 ≤ j ∧ j < i + 1 + l.length
      · rw [if_pos a, if_pos ⟨by omega, by simp; omega⟩, show j - i = (j - (i + 1)) + 1 by omega, List.getElem?_cons_succ]
      · rw [if_neg a, if_neg (by simp; omega), Array.getElem?_setIfInBounds, if_neg (fun h => e h.symm)]
theorem writeFrom_all (cs : Array Value) (l : List Value) (h : l.length = cs.size) : writeFrom cs 0 l = l.toArray := by
  apply Array.ext_getElem?
  intro j
  rw [writeFrom_get l 0 cs j (by omega)]
  by_cases hj : j < l.length
  · rw [if_pos ⟨by omega, by omega⟩]; simp
  · rw [if_neg (by omega), Array.getElem?_eq_none (by omega), Array.getElem?_eq_none (by simp; omega)]
theorem setRow_all {t : TypeId} {b : Nat} {W : World} {cs ds : Array Value} (h : Blk W b t cs) (hs : ds.toList.length = cs.size) : Blk (setRow W b 0 ds.toList) b t ds := by
  have := setRow_blk ds.toList W 0 cs h
  rw [writeFrom_all cs ds.toList hs] at this
  simpa using this
theorem setRow_mod {w : World} {S : List Nat} {b : Nat} : ∀ (l : List Value) (W : World) (i : Nat), Mod S w W → (b ∈ S ∨ w.heap.size ≤ b) → Mod S w (setRow W b i l)
  | [], _, _, h, _ => h
  | v :: l, W, i, h, hb => setRow_mod l _ _ (h.setCell (p := ⟨b, i, none⟩) hb v) hb
theorem setRow_eq {b : Nat} : ∀ (l : List Value) (W : World) (i : Nat), setRow W b i l = W.setCells b i l
  | [], _, _ => rfl
  | v :: l, W, i => setRow_eq l _ _
theorem setCells_all {t : TypeId} {b : Nat} {W : World} {cs ds : Array Value} (h : Blk W b t cs) (hs : ds.toList.length = cs.size) : Blk (W.setCells b 0 ds.toList) b t ds := setRow_eq ds.toList W 0 ▸ setRow_all h hs
theorem setCells_mod {w W : World} {S : List Nat} {b : Nat} (l : List Value) (i : Nat) (h : Mod S w W) (hb : b ∈ S ∨ w.heap.size ≤ b) : Mod S w (W.setCells b i l) := setRow_eq l W i ▸ setRow_mod l W i h hb
theorem Blk.there {W : World} {b : Nat} {t : TypeId} {cs : Array Value} (h : Blk W b t cs) {n : Nat} (hn : n ≤ cs.size) : W.there b 0 n := fun j hj => by
  rw [Nat.zero_add]
  refine ⟨?_, h.frozen j⟩
  rw [h.cell j, Array.getElem?_eq_getElem (by omega)]; rfl
/-- A struct result lies in a block that is known whole. -/
theorem results_cell {P : Program} {fn : Func} {t : Tmp} {ty : TypeId} (h : fn.results = #[.cell t ty]) (tmps : Array Value) {g : Nat} (ht : tmps.getD t undef = .pointer (some ⟨g, 0, none⟩)) {W : World} {tt : TypeId} {cs : Array Value} {d : TypeDesc} (hb : Blk W g tt cs)
    (hu : P.underlying ty = some d) (hd : (match d with | .struct _ | .array _ _ => true | _ => false) = true) (hi : (P.info? ty).map (·.size) = some cs.size) : (results fn tmps).run P W = .ok (.agg cs) W := by
  have hl := run_loadVar_row (P := P) W g tt ty cs (0, 0) d hb hu hd hi
  have ht2 : tmps[t]?.getD undef = .pointer (some ⟨g, 0, none⟩) := by simpa using ht
  simp [results, h, ht2, asAddr, hl]
theorem results_cell2 {P : Program} {fn : Func} {t u : Tmp} {ty : TypeId} (h : fn.results = #[.cell t ty, .tmp u]) (tmps : Array Value) {g : Nat} (ht : tmps.getD t undef = .pointer (some ⟨g, 0, none⟩)) {v : Value} (hv : tmps.getD u undef = v) {W : World} {tt : TypeId} {cs : Array Value} {d : TypeDesc} (hb : Blk W g tt cs)
    (hu : P.underlying ty = some d) (hd : (match d with | .struct _ | .array _ _ => true | _ => false) = true) (hi : (P.info? ty).map (·.size) = some cs.size) : (results fn tmps).run P W = .ok (.tuple #[.agg cs, v]) W := by
  have hl := run_loadVar_row (P := P) W g tt ty cs (0, 0) d hb hu hd hi
  have ht2 : tmps[t]?.getD undef = .pointer (some ⟨g, 0, none⟩) := by simpa using ht
  have hv2 : tmps[u]?.getD undef = v := by simpa using hv
  simp [results, h, ht2, hv2, asAddr, hl, Result.andThen_ok]
end Go.Proofs.YtogjghmoankleaaGreat


namespace Go.Proofs.YtogjghmoankleaaGreat
open Go.RowKit
set_option linter.unusedVariables false
set_option linter.unusedSimpArgs false

/-- A name of a bundle; a report. -/
structure IDV where
  src : EV
  t : Nat
  q : Nat
  fr : Bool
  o : Nat
  n : Nat
structure RV where
  here : Bool
  gone : Bool
  reason : Int
  of : IDV
abbrev idC (i : IDV) : List Value := [.int .i64 i.src.sch, str i.src.name, .int .u64 (i.src.node : Int), .int .u64 (i.src.svc : Int), .int .u64 (i.t : Int), .int .u64 (i.q : Int), .bool i.fr, .int .u64 (i.o : Int), .int .u64 (i.n : Int)]
abbrev repC (r : RV) : Array Value := #[.bool r.here, .bool r.gone, .int .i64 r.reason, .int .i64 r.of.src.sch, str r.of.src.name, .int .u64 (r.of.src.node : Int), .int .u64 (r.of.src.svc : Int), .int .u64 (r.of.t : Int), .int .u64 (r.of.q : Int), .bool r.of.fr, .int .u64 (r.of.o : Int), .int .u64 (r.of.n : Int)]
abbrev repV (r : RV) : Value := .agg (repC r)
def IDV.wf (i : IDV) : Prop := i.t < 18446744073709551616 ∧ i.q < 18446744073709551616 ∧ i.o < 18446744073709551616 ∧ i.n < 18446744073709551616 ∧ i.src.name.length < 4611686018427387904
def IDV.low (i : IDV) : Bool := decide (i.t ≤ 1099511627776) && decide (i.q ≤ 1099511627776) && decide (i.n ≤ 1099511627776)
def IDV.named (i : IDV) : Bool := i.low && (i.src.ok && (if i.fr then decide (i.o < i.n) else decide (i.o = 0) && decide (i.n = 0)))
def RV.right (r : RV) : Bool := (r.here || r.gone) && decide (0 ≤ r.reason) && decide (r.reason ≤ 65535) && r.of.named
def bitT (b : Bool) : T := numT (if b then 1 else 0)
def RV.body (r : RV) : List T := [listT [bitT r.here, bitT r.gone], numT r.reason.toNat, eidT r.of.src, listT [numT r.of.t, numT r.of.q]] ++ (if r.of.fr then [numT r.of.o, numT r.of.n] else [])
def RV.tree (r : RV) : T := listT [numT 1, listT r.body]
def RV.bytes (r : RV) : List UInt8 := r.tree.bytes
theorem cast0 (n : Nat) : ((n : Int) == 0) = decide (n = 0) := by rw [Bool.eq_iff_iff]; simp; try omega
def nums3N (i : IDV) (j : Nat) : Nat := if j = 0 then i.t else if j = 1 then i.q else i.n
set_option maxRecDepth 20000 in
set_option maxHeartbeats 4000000 in
theorem rnamed_any (i : IDV) (hw : i.wf) (w : World) : Calls Tryz.prog 44 #[.agg (idC i).toArray] w (Ret (.bool i.named) w) := by
  have HE0 := hid ((Mod.refl [] w).alloc (.cells (idC i).toArray 27))
  have HB0 := hid (Blk.new w 27 (idC i).toArray)
  have KE := hid (fun W => eidRight_any i.src hw.2.2.2.2 W)
  have HNAM : Hid (i.named = (i.low && (i.src.ok && (if i.fr then decide (i.o < i.n) else decide (i.o = 0) && decide (i.n = 0))))) := rfl
  clear hw
  go_enter Tryz.func44, Tryz.ntmps44
  go_upto_region 1 with fail
  show Code.wp _ _ _ _ (w.alloc (.cells (idC i).toArray 27))
  generalize w.alloc (.cells (idC i).toArray 27) = V at *
  have b0 : ∀ e : Later V, e.x.cell? ⟨w.heap.size, 0, none⟩ = some (.int .i64 i.src.sch) := HB0.out.cellL 0 rfl
  have b1 : ∀ e : Later V, e.x.cell? ⟨w.heap.size, 1, none⟩ = some (str i.src.name) := HB0.out.cellL 1 rfl
  have b2 : ∀ e : Later V, e.x.cell? ⟨w.heap.size, 2, none⟩ = some (.int .u64 (i.src.node : Int)) := HB0.out.cellL 2 rfl
  have b3 : ∀ e : Later V, e.x.cell? ⟨w.heap.size, 3, none⟩ = some (.int .u64 (i.src.svc : Int)) := HB0.out.cellL 3 rfl
  have b4 : ∀ e : Later V, e.x.cell? ⟨w.heap.size, 4, none⟩ = some (.int .u64 (i.t : Int)) := HB0.out.cellL 4 rfl
  have b5 : ∀ e : Later V, e.x.cell? ⟨w.heap.size, 5, none⟩ = some (.int .u64 (i.q : Int)) := HB0.out.cellL 5 rfl
  have b6 : ∀ e : Later V, e.x.cell? ⟨w.heap.size, 6, none⟩ = some (.bool i.fr) := HB0.out.cellL 6 rfl
  have b7 : ∀ e : Later V, e.x.cell? ⟨w.heap.size, 7, none⟩ = some (.int .u64 (i.o : Int)) := HB0.out.cellL 7 rfl
  have b8 : ∀ e : Later V, e.x.cell? ⟨w.heap.size, 8, none⟩ = some (.int .u64 (i.n : Int)) := HB0.out.cellL 8 rfl
  have HRE : Hid (∀ e : Later V, e.x.rangeAt w.heap.size 0 [.int .i64 i.src.sch, str i.src.name, .int .u64 (i.src.node : Int), .int .u64 (i.src.svc : Int)]) := HB0.out.range 0 4 (by rfl)
  obtain ⟨e, he⟩ := Later.self V
  rw [he]
  clear he
  go_upto_region 2 with fail
  generalize hU : World.alloc e.x _ = U
  have HU : Hid (Blk U e.x.heap.size 22 #[.int .u64 (i.t : Int), .int .u64 (i.q : Int), .int .u64 (i.n : Int)]) := hid (by rw [← hU]; exact Blk.new _ _ _)
  have HVU : Hid (Ext V U) := hid (by rw [← hU]; exact e.h.alloc _)
  have HE : Hid (Ext w U) := hid (HE0.out.trans HVU.out)
  clear hU
  generalize e.x.heap.size = g at *
  have HNU : Hid (∀ (e : Later U) j, j < 3 → e.x.cell? ⟨g, j, none⟩ = some (.int .u64 (nums3N i j : Int))) := hid (fun e j hj => by
    match j, hj with
    | 0, _ => exact HU.out.cellL 0 rfl e
    | 1, _ => exact HU.out.cellL 1 rfl e
    | 2, _ => exact HU.out.cellL 2 rfl e)
  have b0 : ∀ e : Later U, e.x.cell? ⟨w.heap.size, 0, none⟩ = some (.int .i64 i.src.sch) := fun e => b0 ⟨e.x, HVU.out.trans e.h⟩
  have b1 : ∀ e : Later U, e.x.cell? ⟨w.heap.size, 1, none⟩ = some (str i.src.name) := fun e => b1 ⟨e.x, HVU.out.trans e.h⟩
  have b2 : ∀ e : Later U, e.x.cell? ⟨w.heap.size, 2, none⟩ = some (.int .u64 (i.src.node : Int)) := fun e => b2 ⟨e.x, HVU.out.trans e.h⟩
  have b3 : ∀ e : Later U, e.x.cell? ⟨w.heap.size, 3, none⟩ = some (.int .u64 (i.src.svc : Int)) := fun e => b3 ⟨e.x, HVU.out.trans e.h⟩
  have b4 : ∀ e : Later U, e.x.cell? ⟨w.heap.size, 4, none⟩ = some (.int .u64 (i.t : Int)) := fun e => b4 ⟨e.x, HVU.out.trans e.h⟩
  have b5 : ∀ e : Later U, e.x.cell? ⟨w.heap.size, 5, none⟩ = some (.int .u64 (i.q : Int)) := fun e => b5 ⟨e.x, HVU.out.trans e.h⟩
  have b6 : ∀ e : Later U, e.x.cell? ⟨w.heap.size, 6, none⟩ = some (.bool i.fr) := fun e => b6 ⟨e.x, HVU.out.trans e.h⟩
  have b7 : ∀ e : Later U, e.x.cell? ⟨w.heap.size, 7, none⟩ = some (.int .u64 (i.o : Int)) := fun e => b7 ⟨e.x, HVU.out.trans e.h⟩
  have b8 : ∀ e : Later U, e.x.cell? ⟨w.heap.size, 8, none⟩ = some (.int .u64 (i.n : Int)) := fun e => b8 ⟨e.x, HVU.out.trans e.h⟩
  have HRE := hid (fun e : Later U => HRE.out ⟨e.x, HVU.out.trans e.h⟩)
  obtain ⟨e, he⟩ := Later.self U
  rw [he]
  go_loopw [13] (fun s13 wr => ∃ j : Nat, s13 = .int .i64 (j : Int) ∧ Hid (j ≤ 3 ∧ ∀ x, x < j → nums3N i x ≤ 1099511627776) ∧ ∃ e : Later U, wr = e.x) (fun s13 _ => 3 - (intOf s13).toNat)
  case atStart => exact ⟨0, rfl, (show Hid _ from ⟨Nat.zero_le _, fun x hx => by omega⟩), e, rfl⟩
  case round =>
    clear he e
    obtain ⟨j, rfl, hj, e, rfl⟩ := hrel
    have j0 : (0 : Int) ≤ (j : Int) := by omega
    by_cases hlt : j < 3
    · have cj := HNU.out e j hlt
      have tc : decide (j < 3) = true := by simp [hlt]
      have j1 : (j : Int) < 3 := by omega
      have HLT := hid hlt
      clear hlt
      by_cases hbig : 1099511627776 < nums3N i j
      · have HX : Hid (i.named = false) := hid (by
          rw [HNAM.out]
          have : i.low = false := by
            unfold IDV.low
            unfold nums3N at hbig
            have h3 := HLT.out
            have hj3 : j = 0 ∨ j = 1 ∨ j = 2 := by omega
            rcases hj3 with rfl | rfl | rfl
            · rw [decide_eq_false (show ¬ i.t ≤ 1099511627776 by simpa using hbig)]; rfl
            · rw [decide_eq_false (show ¬ i.q ≤ 1099511627776 by simpa using hbig), Bool.and_false]; rfl
            · rw [decide_eq_false (show ¬ i.n ≤ 1099511627776 by simpa using hbig), Bool.and_false]
          rw [this]; rfl)
        have taa : decide (1099511627776 < nums3N i j) = true := decide_eq_true (by exact hbig)
        have tab : (1099511627776 < nums3N i j) = True := eq_true (by exact hbig)
        have tba : decide ((1099511627776 : Int) < (nums3N i j : Int)) = true := decide_eq_true (by omega)
        have tbb : ((1099511627776 : Int) < (nums3N i j : Int)) = True := eq_true (by omega)
        clear hbig
        generalize nums3N i j = N at *
        go_wp2_with fail
        go_ret
        exact Ret.mk (by rw [HX.out]; rfl) (HE.out.trans e.h)
      · have HB := hid hbig
        have taa : decide (1099511627776 < nums3N i j) = false := decide_eq_false (by exact hbig)
        have tab : (1099511627776 < nums3N i j) = False := eq_false (by exact hbig)
        have tba : decide ((1099511627776 : Int) < (nums3N i j : Int)) = false := decide_eq_false (by omega)
        have tbb : ((1099511627776 : Int) < (nums3N i j : Int)) = False := eq_false (by omega)
        clear hbig
        go_wp2_with fail
        go_roundw
        case rel => exact ⟨j + 1, by go_num, (show Hid _ from ⟨HLT.out, fun x hx => by
          by_cases e : x = j
          · subst e; have := HB.out; omega
          · exact hj.out.2 x (by omega)⟩), e, rfl⟩
        case measure => have := HLT.out; simp [intOf]; omega
    · have hj3 : 3 = j := by have := hj.out.1; omega
      subst hj3
      have HLOW : Hid (i.low = true) := hid (by
        have h0 := hj.out.2 0 (by decide)
        have h1 := hj.out.2 1 (by decide)
        have h2 := hj.out.2 2 (by decide)
        simp [nums3N] at h0 h1 h2
        simp [IDV.low, h0, h1, h2])
      have HNM : Hid (i.named = (i.src.ok && (if i.fr then decide (i.o < i.n) else decide (i.o = 0) && decide (i.n = 0)))) := hid (by rw [HNAM.out, HLOW.out]; rfl)
      clear HNAM
      have tk1 : True := trivial
      cases hfr : i.fr with
      | true =>
        rw [hfr] at b6
        cases hok : i.src.ok with
        | false =>
          rw [hok] at KE
          have HX : Hid (i.named = false) := hid (by rw [HNM.out, hok]; rfl)
          clear hfr hok
          go_wp2_with (first | (clear tk1; refine wpList_mid (by rfl) 24 _ rfl _ 0 rfl _ _ (HRE.out _) Tryz.underlying24 rfl (by kernel_rfl) ?_) | (go_at_call 69; refine (Ret.later (KE.out _)).mono ?_; rintro x _ ⟨rfl, e, rfl⟩))
          go_ret
          exact Ret.mk (by rw [HX.out]; rfl) (HE.out.trans e.h)
        | true =>
          rw [hok] at KE
          have HX : Hid (i.named = decide (i.o < i.n)) := hid (by rw [HNM.out, hok, hfr]; rfl)
          clear hfr hok
          go_wp2_with (first | (clear tk1; refine wpList_mid (by rfl) 24 _ rfl _ 0 rfl _ _ (HRE.out _) Tryz.underlying24 rfl (by kernel_rfl) ?_) | (go_at_call 69; refine (Ret.later (KE.out _)).mono ?_; rintro x _ ⟨rfl, e, rfl⟩))
          go_ret
          exact Ret.mk (by rw [HX.out]; first | rfl | (simp; done) | (simp; exact cast0 _)) (HE.out.trans e.h)
      | false =>
        rw [hfr] at b6
        cases hok : i.src.ok with
        | false =>
          rw [hok] at KE
          have HX : Hid (i.named = false) := hid (by rw [HNM.out, hok]; rfl)
          clear hfr hok
          go_wp2_with (first | (clear tk1; refine wpList_mid (by rfl) 24 _ rfl _ 0 rfl _ _ (HRE.out _) Tryz.underlying24 rfl (by kernel_rfl) ?_) | (go_at_call 69; refine (Ret.later (KE.out _)).mono ?_; rintro x _ ⟨rfl, e, rfl⟩))
          go_ret
          exact Ret.mk (by rw [HX.out]; rfl) (HE.out.trans e.h)
        | true =>
          rw [hok] at KE
          have HX : Hid (i.named = (decide (i.o = 0) && decide (i.n = 0))) := hid (by rw [HNM.out, hok, hfr]; rfl)
          clear hfr hok
          by_cases ho : i.o = 0
          · rw [decide_eq_true ho] at HX
            have oaa : (((i.o : Int)) == (0)) = true := by rw [beq_iff_eq]; omega
            have oab : (((i.o : Int)) = (0)) = True := eq_true (by omega)
            have oac : (((i.o : Int)) != (0)) = false := by rw [bne_eq_false_iff_eq]; omega
            have oba : ((i.o) == (0)) = true := by rw [beq_iff_eq]; exact ho
            have obb : ((i.o) = (0)) = True := eq_true (by exact ho)
            have obc : ((i.o) != (0)) = false := by rw [bne_eq_false_iff_eq]; exact ho
            clear ho
            go_wp2_with (first | (clear tk1; refine wpList_mid (by rfl) 24 _ rfl _ 0 rfl _ _ (HRE.out _) Tryz.underlying24 rfl (by kernel_rfl) ?_) | (go_at_call 69; refine (Ret.later (KE.out _)).mono ?_; rintro x _ ⟨rfl, e, rfl⟩))
            go_ret
            exact Ret.mk (by rw [HX.out]; first | rfl | (simp; done) | (simp; exact cast0 _)) (HE.out.trans e.h)
          · rw [decide_eq_false ho] at HX
            have oaa : (((i.o : Int)) == (0)) = false := by rw [beq_eq_false_iff_ne]; omega
            have oab : (((i.o : Int)) = (0)) = False := eq_false (by omega)
            have oac : (((i.o : Int)) != (0)) = true := by rw [bne_iff_ne]; omega
            have oba : ((i.o) == (0)) = false := by rw [beq_eq_false_iff_ne]; exact ho
            have obb : ((i.o) = (0)) = False := eq_false (by exact ho)
            have obc : ((i.o) != (0)) = true := by rw [bne_iff_ne]; exact ho
            clear ho
            go_wp2_with (first | (clear tk1; refine wpList_mid (by rfl) 24 _ rfl _ 0 rfl _ _ (HRE.out _) Tryz.underlying24 rfl (by kernel_rfl) ?_) | (go_at_call 69; refine (Ret.later (KE.out _)).mono ?_; rintro x _ ⟨rfl, e, rfl⟩))
            go_ret
            exact Ret.mk (by rw [HX.out]; rfl) (HE.out.trans e.h)
set_option maxRecDepth 20000 in
set_option maxHeartbeats 4000000 in
theorem repRight_any (r : RV) (hw : r.of.wf) (w : World) : Calls Tryz.prog 27 #[repV r] w (Ret (.bool r.right) w) := by
  have HE := hid ((Mod.refl [] w).alloc (.cells (repC r) 29))
  have HB0 := hid (Blk.new w 29 (repC r))
  have KN := hid (fun W => rnamed_any r.of hw W)
  have HR : Hid (r.right = ((r.here || r.gone) && decide (0 ≤ r.reason) && decide (r.reason ≤ 65535) && r.of.named)) := rfl
  clear hw
  go_enter Tryz.func27, Tryz.ntmps27
  go_upto_region 1 with fail
  generalize w.alloc (.cells (repC r) 29) = V at *
  have b0 : ∀ e : Later V, e.x.cell? ⟨w.heap.size, 0, none⟩ = some (.bool r.here) := HB0.out.cellL 0 rfl
  have b1 : ∀ e : Later V, e.x.cell? ⟨w.heap.size, 1, none⟩ = some (.bool r.gone) := HB0.out.cellL 1 rfl
  have b2 : ∀ e : Later V, e.x.cell? ⟨w.heap.size, 2, none⟩ = some (.int .i64 r.reason) := HB0.out.cellL 2 rfl
  have HRD : Hid (∀ e : Later V, e.x.rangeAt w.heap.size 3 (idC r.of)) := HB0.out.range 3 9 (by rfl)
  obtain ⟨e, he⟩ := Later.self V
  rw [he]
  clear he
  cases hh : r.here with
  | false =>
    rw [hh] at b0
    cases hg : r.gone with
    | false =>
      rw [hg] at b1
      have HX : Hid (r.right = false) := hid (by rw [HR.out, hh, hg]; rfl)
      clear hh hg
      go_wp2_with fail
      go_ret
      exact Ret.mk (by rw [HX.out]; rfl) (HE.out.trans e.h)
    | true =>
      rw [hg] at b1
      have HOR : Hid ((r.here || r.gone) = true) := hid (by rw [hh, hg]; rfl)
      clear hh hg
      by_cases h1 : 0 ≤ r.reason
      case neg =>
        have paa : decide (0 ≤ r.reason) = false := decide_eq_false (by exact h1)
        have pab : (0 ≤ r.reason) = False := eq_false (by exact h1)
        have HX : Hid (r.right = false) := hid (by rw [HR.out, decide_eq_false h1, Bool.and_false]; rfl)
        have tk1 : True := trivial
        go_wp2_with fail
        go_ret
        exact Ret.mk (by rw [HX.out]; first | rfl | simp) (HE.out.trans e.h)
      have paa : decide (0 ≤ r.reason) = true := decide_eq_true (by exact h1)
      have pab : (0 ≤ r.reason) = True := eq_true (by exact h1)
      by_cases h2 : r.reason ≤ 65535
      case neg =>
        have pba : decide (r.reason ≤ 65535) = false := decide_eq_false (by exact h2)
        have pbb : (r.reason ≤ 65535) = False := eq_false (by exact h2)
        have HX : Hid (r.right = false) := hid (by rw [HR.out, decide_eq_false h2, Bool.and_false]; rfl)
        have tk1 : True := trivial
        go_wp2_with fail
        go_ret
        exact Ret.mk (by rw [HX.out]; first | rfl | simp) (HE.out.trans e.h)
      have pba : decide (r.reason ≤ 65535) = true := decide_eq_true (by exact h2)
      have pbb : (r.reason ≤ 65535) = True := eq_true (by exact h2)
      have HX : Hid (r.right = r.of.named) := hid (by rw [HR.out, HOR.out, decide_eq_true h1, decide_eq_true h2]; rfl)
      have tk1 : True := trivial
      go_wp2_with (first | (clear tk1; refine wpList_mid (by rfl) 27 _ rfl _ 3 rfl _ _ (HRD.out _) Tryz.underlying27 rfl (by kernel_rfl) ?_) | (go_at_call 44; refine (Ret.later (KN.out _)).mono ?_; rintro x _ ⟨rfl, e, rfl⟩))
      go_ret
      exact Ret.mk (by rw [HX.out]; first | rfl | simp) (HE.out.trans e.h)
  | true =>
    rw [hh] at b0
    have HOR : Hid ((r.here || r.gone) = true) := hid (by rw [hh]; rfl)
    clear hh
    by_cases h1 : 0 ≤ r.reason
    case neg =>
      have paa : decide (0 ≤ r.reason) = false := decide_eq_false (by exact h1)
      have pab : (0 ≤ r.reason) = False := eq_false (by exact h1)
      have HX : Hid (r.right = false) := hid (by rw [HR.out, decide_eq_false h1, Bool.and_false]; rfl)
      have tk1 : True := trivial
      go_wp2_with fail
      go_ret
      exact Ret.mk (by rw [HX.out]; first | rfl | simp) (HE.out.trans e.h)
    have paa : decide (0 ≤ r.reason) = true := decide_eq_true (by exact h1)
    have pab : (0 ≤ r.reason) = True := eq_true (by exact h1)
    by_cases h2 : r.reason ≤ 65535
    case neg =>
      have pba : decide (r.reason ≤ 65535) = false := decide_eq_false (by exact h2)
      have pbb : (r.reason ≤ 65535) = False := eq_false (by exact h2)
      have HX : Hid (r.right = false) := hid (by rw [HR.out, decide_eq_false h2, Bool.and_false]; rfl)
      have tk1 : True := trivial
      go_wp2_with fail
      go_ret
      exact Ret.mk (by rw [HX.out]; first | rfl | simp) (HE.out.trans e.h)
    have pba : decide (r.reason ≤ 65535) = true := decide_eq_true (by exact h2)
    have pbb : (r.reason ≤ 65535) = True := eq_true (by exact h2)
    have HX : Hid (r.right = r.of.named) := hid (by rw [HR.out, HOR.out, decide_eq_true h1, decide_eq_true h2]; rfl)
    have tk1 : True := trivial
    go_wp2_with (first | (clear tk1; refine wpList_mid (by rfl) 27 _ rfl _ 3 rfl _ _ (HRD.out _) Tryz.underlying27 rfl (by kernel_rfl) ?_) | (go_at_call 44; refine (Ret.later (KN.out _)).mono ?_; rintro x _ ⟨rfl, e, rfl⟩))
    go_ret
    exact Ret.mk (by rw [HX.out]; first | rfl | simp) (HE.out.trans e.h)
set_option maxRecDepth 20000 in
set_option maxHeartbeats 4000000 in
theorem bit_any (b : Bool) (w : World) : Calls Tryz.prog 49 #[.bool b] w (Ret (itemV (bitT b) none 0) w) := by
  have HE := hid ((Mod.refl [] w).alloc (.cells #[.int .i64 0, .int .u64 0, .string ⟨#[]⟩, .slice none 0 0, .bool false] 64))
  have HB : Hid (Blk (w.alloc (.cells #[.int .i64 0, .int .u64 0, .string ⟨#[]⟩, .slice none 0 0, .bool false] 64)) w.heap.size 64 (itemC (numT 0) none 0)) := hid (Blk.new w 64 (itemC (numT 0) none 0))
  cases b with
  | false =>
    go_enter Tryz.func49, Tryz.ntmps49
    go_upto_region 1 with fail
    generalize w.alloc (.cells #[.int .i64 0, .int .u64 0, .string ⟨#[]⟩, .slice none 0 0, .bool false] 64) = V at *
    go_wp2_with (go_at_call 31; refine (NumI_any 0 _).mono ?_; rintro x w3 ⟨rfl, hb3⟩; obtain ⟨c0, c1, c2, c3, c4⟩ := cells5 (HB.out.ext hb3); have f0 := (HB.out.ext hb3).frozen 0; have f1 := (HB.out.ext hb3).frozen 1; have f2 := (HB.out.ext hb3).frozen 2; have f3 := (HB.out.ext hb3).frozen 3; have f4 := (HB.out.ext hb3).frozen 4)
    obtain ⟨d0, d1, d2, d3, d4⟩ := cells5 (set5_blk (t := numT 0) (A := none) (c := 0) (HB.out.ext hb3))
    clear c0 c1 c2 c3 c4 f0 f1 f2 f3 f4
    show bodyPost _ _ _ _ _ (set5 w3 w.heap.size (numT 0) none 0)
    have HBF := hid (set5_blk (t := numT 0) (A := none) (c := 0) (HB.out.ext hb3))
    refine bodyPost_ret (results_cell rfl _ (by rfl) HBF.out Tryz.underlying64 rfl (by kernel_rfl)) rfl ?_
    exact ⟨rfl, set5_mod (HE.out.trans hb3) (Nat.le_refl _)⟩
  | true =>
    go_enter Tryz.func49, Tryz.ntmps49
    go_upto_region 1 with fail
    generalize w.alloc (.cells #[.int .i64 0, .int .u64 0, .string ⟨#[]⟩, .slice none 0 0, .bool false] 64) = V at *
    go_wp2_with (go_at_call 31; refine (NumI_any 1 _).mono ?_; rintro x w3 ⟨rfl, hb3⟩; obtain ⟨c0, c1, c2, c3, c4⟩ := cells5 (HB.out.ext hb3); have f0 := (HB.out.ext hb3).frozen 0; have f1 := (HB.out.ext hb3).frozen 1; have f2 := (HB.out.ext hb3).frozen 2; have f3 := (HB.out.ext hb3).frozen 3; have f4 := (HB.out.ext hb3).frozen 4)
    obtain ⟨d0, d1, d2, d3, d4⟩ := cells5 (set5_blk (t := numT 1) (A := none) (c := 0) (HB.out.ext hb3))
    clear c0 c1 c2 c3 c4 f0 f1 f2 f3 f4
    show bodyPost _ _ _ _ _ (set5 w3 w.heap.size (numT 1) none 0)
    have HBF := hid (set5_blk (t := numT 1) (A := none) (c := 0) (HB.out.ext hb3))
    refine bodyPost_ret (results_cell rfl _ (by rfl) HBF.out Tryz.underlying64 rfl (by kernel_rfl)) rfl ?_
    exact ⟨rfl, set5_mod (HE.out.trans hb3) (Nat.le_refl _)⟩
end Go.Proofs.YtogjghmoankleaaGreat


namespace Go.Proofs.YtogjghmoankleaaGreat
open Go.RowKit
set_option linter.unusedVariables false
set_option linter.unusedSimpArgs false

def zeroB : BV := ⟨0, 0, 0, 0, []⟩
abbrev PV.c (p : PV) : Array Value := #[.int .u64 (p.fl : Int), .int .i64 p.crc, .int .i64 p.d.sch, str p.d.name, .int .u64 (p.d.node : Int), .int .u64 (p.d.svc : Int), .int .i64 p.s.sch, str p.s.name, .int .u64 (p.s.node : Int), .int .u64 (p.s.svc : Int), .int .i64 p.r.sch, str p.r.name, .int .u64 (p.r.node : Int), .int .u64 (p.r.svc : Int), .int .u64 (p.t : Int), .int .u64 (p.q : Int), .int .u64 (p.l : Int), .int .u64 (p.o : Int), .int .u64 (p.n : Int)]
abbrev PV.v (p : PV) : Value := .agg p.c
abbrev bunC (p : PV) (A : Option Addr) (k c : Nat) : Array Value := #[.int .u64 (p.fl : Int), .int .i64 p.crc, .int .i64 p.d.sch, str p.d.name, .int .u64 (p.d.node : Int), .int .u64 (p.d.svc : Int), .int .i64 p.s.sch, str p.s.name, .int .u64 (p.s.node : Int), .int .u64 (p.s.svc : Int), .int .i64 p.r.sch, str p.r.name, .int .u64 (p.r.node : Int), .int .u64 (p.r.svc : Int), .int .u64 (p.t : Int), .int .u64 (p.q : Int), .int .u64 (p.l : Int), .int .u64 (p.o : Int), .int .u64 (p.n : Int), .slice A k c]
abbrev bunV (p : PV) (A : Option Addr) (k c : Nat) : Value := .agg (bunC p A k c)
/-- A block's five cells in the midst of a memory block. -/
def BAt (w : World) (b o : Nat) (x : BV) : Prop :=
  w.cell? ⟨b, o, none⟩ = some (.int .i64 x.ty) ∧ w.cell? ⟨b, o + 1, none⟩ = some (.int .i64 x.num) ∧ w.cell? ⟨b, o + 2, none⟩ = some (.int .u64 (x.fl : Int)) ∧ w.cell? ⟨b, o + 3, none⟩ = some (.int .i64 x.crc) ∧ w.cell? ⟨b, o + 4, none⟩ = some (str x.data)
/-- k blocks lie in memory. -/
def BsL (w : World) (A : Option Addr) (k : Nat) (bs : Nat → BV) : Prop := 0 < k → ∃ b o, A = some ⟨b, o, none⟩ ∧ b < w.heap.size ∧ ∀ i, i < k → BAt w b (o + i * 5) (bs i)
theorem BAt.mod {w w' : World} {S : List Nat} {b o : Nat} {x : BV} (h : BAt w b o x) (hm : Mod S w w') (hb : b < w.heap.size) (hs : b ∉ S) : BAt w' b o x := by
  obtain ⟨h0, h1, h2, h3, h4⟩ := h
  exact ⟨(hm.cell hb hs).trans h0, (hm.cell hb hs).trans h1, (hm.cell hb hs).trans h2, (hm.cell hb hs).trans h3, (hm.cell hb hs).trans h4⟩
theorem BsL.ext {w w' : World} {A : Option Addr} {k : Nat} {bs : Nat → BV} (h : BsL w A k bs) (hm : Ext w w') : BsL w' A k bs := fun hk => by
  obtain ⟨b, o, hA, hb, hc⟩ := h hk
  exact ⟨b, o, hA, Nat.lt_of_lt_of_le hb hm.size, fun i hi => (hc i hi).mod hm hb (by simp)⟩
/-- A block's cells, whatever later world. -/
theorem BsL.cells {V : World} {A : Option Addr} {k : Nat} {bs : Nat → BV} (h : BsL V A k bs) {i : Nat} (hi : i < k) : ∃ b o, A = some ⟨b, o, none⟩ ∧ b < V.heap.size ∧
    (∀ e : Later V, e.x.cell? ⟨b, o + i * 5, none⟩ = some (.int .i64 (bs i).ty)) ∧ (∀ e : Later V, e.x.cell? ⟨b, o + i * 5 + 1, none⟩ = some (.int .i64 (bs i).num)) ∧ (∀ e : Later V, e.x.cell? ⟨b, o + i * 5 + 2, none⟩ = some (.int .u64 ((bs i).fl : Int))) ∧
    (∀ e : Later V, e.x.cell? ⟨b, o + i * 5 + 3, none⟩ = some (.int .i64 (bs i).crc)) ∧ (∀ e : Later V, e.x.cell? ⟨b, o + i * 5 + 4, none⟩ = some (str (bs i).data)) := by
  obtain ⟨b, o, hA, hb, hc⟩ := h (by omega)
  obtain ⟨h0, h1, h2, h3, h4⟩ := hc i hi
  exact ⟨b, o, hA, hb, cellL h0, cellL h1, cellL h2, cellL h3, cellL h4⟩
end Go.Proofs.YtogjghmoankleaaGreat
