/-
 The walks of package cbor's spread, at its four types: a number's bytes, the greatest first.
-/
import Derived.Test.YthecmnbkjchjmaaGreatMExtHopsaa
namespace Go.Proofs.YthecmnbkjchjmaaGreat
open Go.RowKit
set_option linter.unusedVariables false
set_option linter.unusedSimpArgs false
theorem be_step (n k j i : Nat) (h : i ≠ j) : (if i < j then beC n k i else 0) = (if i < j + 1 then beC n k i else 0) := by
 by_cases e : i < j
 . rw [if_pos e, if_pos (by omega)]
 . rw [if_neg e, if_neg (by omega)]
theorem rel_step {wr : World} {b t n k j : Nat} (h : wr.rowIs b t k (fun a => .int .u8 ((if a < j then beC n k a else 0 : Nat) : Int))) :
  (wr.setCell ⟨b, j, none⟩ (.int .u8 ((beC n k j : Nat) : Int))).rowIs b t k (fun a => .int .u8 ((if a < j + 1 then beC n k a else 0 : Nat) : Int)) := by
 refine (h.set j _).congr ?_
 intro i hi
 by_cases e : i = j
 . subst e; simp
 . rw [if_neg e, be_step n k j i e]
theorem infoByte : (Tryz.prog.info? 5).map (fun i => (i.zero, i.size, i.bytes)) = some (some (.int .u8 0), 1, 1) := by kernel_rfl
set_option maxHeartbeats 400000 in
theorem spread_uint8_n (n : Nat) (hn : n < 256) (k : Nat) (hk : k <= 8) (w : World) :
  Calls Tryz.prog 126 #[.int .u8 n, .int .i64 k] w (Ret (str (be n k)) w) := by
 have hmk := run_make_row' (P := Tryz.prog) 100 5 (.int .u8 0) 1 vqB infoByte rfl .i64 .i64 k (by omega) (by omega)
 go_enter Tryz.func126, Tryz.ntmps126
 go_wp2
 go_loopw [11] (fun i wr => ∃ j : Nat, j <= k /\ i = .int .i64 j /\ Ext w wr /\ wr.rowIs w.heap.size 5 k (fun a => .int .u8 ((if a < j then beC n k a else 0 : Nat) : Int))) (fun i _ => k - (intOf i).toNat)
 case atStart => exact ⟨0, Nat.zero_le _, rfl, (Mod.refl _ _).alloc _, (World.rowIs_made w _ k 5).congr (by intros; simp)⟩
 case round =>
  obtain ⟨j, hj, rfl, hb, hrow⟩ := hrel
  by_cases hlt : j < k
  .
   have hcell : wr.cell? ⟨w.heap.size, j, none⟩ = some (.int .u8 0) := by simpa using hrow.cell hlt
   have hfr := hrow.frozen j
   go_wp2
   go_roundw
   case rel => exact ⟨j + 1, by omega, by go_num, hb.setCell (.inr (Nat.le_refl _)) _, by simpa [beC] using rel_step hrow⟩
   case measure => simp [intOf]; omega
  .
   obtain rfl : j = k := by omega
   have hrow2 := hrow.congr (g := fun a => .int .u8 ((beC n j a : Nat) : Int)) (fun i hi => by simp [hi])
   have hconv := run_row_string (P := Tryz.prog) wr 100 9 5 vqB vqE vqD _ _ _ j _ hrow2
   clear hrow hrow2
   go_wp2
   go_ret
   exact ⟨rfl, hb⟩
theorem spread_uint8 (x k : Int) (hx : 0 <= x) (hx1 : x < 256) (hk : 0 <= k) (hk8 : k <= 8) (w : World) :
  Calls Tryz.prog 126 #[.int .u8 x, .int .i64 k] w (Ret (str (be x.toNat k.toNat)) w) := by
 obtain ⟨n, rfl⟩ := Int.eq_ofNat_of_zero_le hx
 obtain ⟨k, rfl⟩ := Int.eq_ofNat_of_zero_le hk
 exact spread_uint8_n n (by omega) k (by omega) w
set_option maxHeartbeats 400000 in
theorem spread_uint16_n (n : Nat) (hn : n < 65536) (k : Nat) (hk : k <= 8) (w : World) :
  Calls Tryz.prog 127 #[.int .u16 n, .int .i64 k] w (Ret (str (be n k)) w) := by
 have hmk := run_make_row' (P := Tryz.prog) 100 5 (.int .u8 0) 1 vqB infoByte rfl .i64 .i64 k (by omega) (by omega)
 go_enter Tryz.func127, Tryz.ntmps127
 go_wp2
 go_loopw [11] (fun i wr => ∃ j : Nat, j <= k /\ i = .int .i64 j /\ Ext w wr /\ wr.rowIs w.heap.size 5 k (fun a => .int .u8 ((if a < j then beC n k a else 0 : Nat) : Int))) (fun i _ => k - (intOf i).toNat)
 case atStart => exact ⟨0, Nat.zero_le _, rfl, (Mod.refl _ _).alloc _, (World.rowIs_made w _ k 5).congr (by intros; simp)⟩
 case round =>
  obtain ⟨j, hj, rfl, hb, hrow⟩ := hrel
  by_cases hlt : j < k
  .
   have hcell : wr.cell? ⟨w.heap.size, j, none⟩ = some (.int .u8 0) := by simpa using hrow.cell hlt
   have hfr := hrow.frozen j
   go_wp2
   go_roundw
   case rel => exact ⟨j + 1, by omega, by go_num, hb.setCell (.inr (Nat.le_refl _)) _, by simpa [beC] using rel_step hrow⟩
   case measure => simp [intOf]; omega
  .
   obtain rfl : j = k := by omega
   have hrow2 := hrow.congr (g := fun a => .int .u8 ((beC n j a : Nat) : Int)) (fun i hi => by simp [hi])
   have hconv := run_row_string (P := Tryz.prog) wr 100 9 5 vqB vqE vqD _ _ _ j _ hrow2
   clear hrow hrow2
   go_wp2
   go_ret
   exact ⟨rfl, hb⟩
theorem spread_uint16 (x k : Int) (hx : 0 <= x) (hx1 : x < 65536) (hk : 0 <= k) (hk8 : k <= 8) (w : World) :
  Calls Tryz.prog 127 #[.int .u16 x, .int .i64 k] w (Ret (str (be x.toNat k.toNat)) w) := by
 obtain ⟨n, rfl⟩ := Int.eq_ofNat_of_zero_le hx
 obtain ⟨k, rfl⟩ := Int.eq_ofNat_of_zero_le hk
 exact spread_uint16_n n (by omega) k (by omega) w
set_option maxHeartbeats 400000 in
theorem spread_uint32_n (n : Nat) (hn : n < 4294967296) (k : Nat) (hk : k <= 8) (w : World) :
  Calls Tryz.prog 128 #[.int .u32 n, .int .i64 k] w (Ret (str (be n k)) w) := by
 have hmk := run_make_row' (P := Tryz.prog) 100 5 (.int .u8 0) 1 vqB infoByte rfl .i64 .i64 k (by omega) (by omega)
 go_enter Tryz.func128, Tryz.ntmps128
 go_wp2
 go_loopw [11] (fun i wr => ∃ j : Nat, j <= k /\ i = .int .i64 j /\ Ext w wr /\ wr.rowIs w.heap.size 5 k (fun a => .int .u8 ((if a < j then beC n k a else 0 : Nat) : Int))) (fun i _ => k - (intOf i).toNat)
 case atStart => exact ⟨0, Nat.zero_le _, rfl, (Mod.refl _ _).alloc _, (World.rowIs_made w _ k 5).congr (by intros; simp)⟩
 case round =>
  obtain ⟨j, hj, rfl, hb, hrow⟩ := hrel
  by_cases hlt : j < k
  .
   have hcell : wr.cell? ⟨w.heap.size, j, none⟩ = some (.int .u8 0) := by simpa using hrow.cell hlt
   have hfr := hrow.frozen j
   go_wp2
   go_roundw
   case rel => exact ⟨j + 1, by omega, by go_num, hb.setCell (.inr (Nat.le_refl _)) _, by simpa [beC] using rel_step hrow⟩
   case measure => simp [intOf]; omega
  .
   obtain rfl : j = k := by omega
   have hrow2 := hrow.congr (g := fun a => .int .u8 ((beC n j a : Nat) : Int)) (fun i hi => by simp [hi])
   have hconv := run_row_string (P := Tryz.prog) wr 100 9 5 vqB vqE vqD _ _ _ j _ hrow2
   clear hrow hrow2
   go_wp2
   go_ret
   exact ⟨rfl, hb⟩
theorem spread_uint32 (x k : Int) (hx : 0 <= x) (hx1 : x < 4294967296) (hk : 0 <= k) (hk8 : k <= 8) (w : World) :
  Calls Tryz.prog 128 #[.int .u32 x, .int .i64 k] w (Ret (str (be x.toNat k.toNat)) w) := by
 obtain ⟨n, rfl⟩ := Int.eq_ofNat_of_zero_le hx
 obtain ⟨k, rfl⟩ := Int.eq_ofNat_of_zero_le hk
 exact spread_uint32_n n (by omega) k (by omega) w
set_option maxHeartbeats 400000 in
theorem spread_uint64_n (n : Nat) (hn : n < 18446744073709551616) (k : Nat) (hk : k <= 8) (w : World) :
  Calls Tryz.prog 129 #[.int .u64 n, .int .i64 k] w (Ret (str (be n k)) w) := by
 have hmk := run_make_row' (P := Tryz.prog) 100 5 (.int .u8 0) 1 vqB infoByte rfl .i64 .i64 k (by omega) (by omega)
 go_enter Tryz.func129, Tryz.ntmps129
 go_wp2
 go_loopw [11] (fun i wr => ∃ j : Nat, j <= k /\ i = .int .i64 j /\ Ext w wr /\ wr.rowIs w.heap.size 5 k (fun a => .int .u8 ((if a < j then beC n k a else 0 : Nat) : Int))) (fun i _ => k - (intOf i).toNat)
 case atStart => exact ⟨0, Nat.zero_le _, rfl, (Mod.refl _ _).alloc _, (World.rowIs_made w _ k 5).congr (by intros; simp)⟩
 case round =>
  obtain ⟨j, hj, rfl, hb, hrow⟩ := hrel
  by_cases hlt : j < k
  .
   have hcell : wr.cell? ⟨w.heap.size, j, none⟩ = some (.int .u8 0) := by simpa using hrow.cell hlt
   have hfr := hrow.frozen j
   go_wp2
   go_roundw
   case rel => exact ⟨j + 1, by omega, by go_num, hb.setCell (.inr (Nat.le_refl _)) _, by simpa [beC] using rel_step hrow⟩
   case measure => simp [intOf]; omega
  .
   obtain rfl : j = k := by omega
   have hrow2 := hrow.congr (g := fun a => .int .u8 ((beC n j a : Nat) : Int)) (fun i hi => by simp [hi])
   have hconv := run_row_string (P := Tryz.prog) wr 100 9 5 vqB vqE vqD _ _ _ j _ hrow2
   clear hrow hrow2
   go_wp2
   go_ret
   exact ⟨rfl, hb⟩
theorem spread_uint64 (x k : Int) (hx : 0 <= x) (hx1 : x < 18446744073709551616) (hk : 0 <= k) (hk8 : k <= 8) (w : World) :
  Calls Tryz.prog 129 #[.int .u64 x, .int .i64 k] w (Ret (str (be x.toNat k.toNat)) w) := by
 obtain ⟨n, rfl⟩ := Int.eq_ofNat_of_zero_le hx
 obtain ⟨k, rfl⟩ := Int.eq_ofNat_of_zero_le hk
 exact spread_uint64_n n (by omega) k (by omega) w
theorem or_small : ∀ m : Fin 8, ∀ k : Fin 32, bits .or .u8 ((m.val : Int) * 32) (k.val : Int) = ((32 * m.val + k.val : Nat) : Int) := by decide +kernel
theorem or_u8 (m : Nat) (k : Int) (hm : m <= 7) (h0 : 0 <= k) (hk : k < 32) : bits .or .u8 ((m : Int) * 32) k = 32 * (m : Int) + k := by
 obtain ⟨k, rfl⟩ := Int.eq_ofNat_of_zero_le h0
 have := or_small ⟨m, by omega⟩ ⟨k, by omega⟩
 simpa using this
theorem convByte : ∀ (a : Addr) (c : Nat) (w : World), (convert 100 9 (.slice (some a) 1 c)).run Tryz.prog w =
   match w.cell? a with
   | some (.int .u8 x) => .ok (str [b8i x]) w
   | _ => (Conv.bytesToString (.slice (some a) 1 c)).run Tryz.prog w :=
 run_byte_string (P := Tryz.prog) 100 9 5 vqB vqE vqD
def mjr (m : Int) : Nat := if 0 <= m /\ m <= 7 then m.toNat else 0
theorem mjr_le (m : Int) : mjr m <= 7 := by unfold mjr; split <;> omega
def mjB (m : Int) : Bool := decide (m < 0) || decide (7 < m)
theorem mj_bool {b c : Bool} (h : b = c) : Value.bool b = .bool c := by rw [h]
theorem mjr_out {m : Int} (h : mjB m = true) : Value.int .i64 0 = .int .i64 ((mjr m : Nat) : Int) := by
 unfold mjr; unfold mjB at h; simp at h; rw [if_neg (by omega)]; rfl
theorem mjr_in {m : Int} (h : mjB m = false) : Value.int .i64 m = .int .i64 ((mjr m : Nat) : Int) := by
 unfold mjr; unfold mjB at h; simp at h; rw [if_pos ⟨h.1, h.2⟩]; congr 1; omega
set_option maxHeartbeats 400000 in
theorem head_24 (x : Int) (n : Nat) (hn : n < 24) (w : World) :
  Calls Tryz.prog 103 #[.int .i64 x, .int .u64 n] w (Ret (str [b8 (32 * mjr x + n)]) w) := by
 go_enter Tryz.func103, Tryz.ntmps103
 go_upto_region 1 with fail
 go_cut [11] (fun s wx => s = .bool (mjB x) /\ wx = w)
 case first =>
  go_wp2
  all_goals (go_meet; exact ⟨mj_bool (by unfold mjB; simp [*]), rfl⟩)
 obtain ⟨rfl, rfl⟩ := hcut
 go_upto_if 11 with fail
 go_cut [0] (fun s0 wx => s0 = .int .i64 ((mjr x : Nat) : Int) /\ wx = wc)
 case first =>
  cases h : mjB x
  .
   go_wp2
   go_meet
   exact ⟨mjr_in h, rfl⟩
  .
   go_wp2
   go_meet
   exact ⟨mjr_out h, rfl⟩
 obtain ⟨rfl, rfl⟩ := hcut
 have hm := mjr_le x
 generalize mjr x = m at *
 have h2 : (decide ((n : Int) < 24)) = true := by simp; omega
 have hor := or_u8 m n hm (by omega) (by omega)
 have hcv := convByte
 have hb8 : ∀ m n : Nat, b8i (32 * (m : Int) + n) = b8 (32 * m + n) := fun m n => by unfold b8i b8; congr 1
 go_wp2
 go_ret
 exact ⟨rfl, (Mod.refl _ _).alloc _⟩
set_option maxHeartbeats 400000 in
theorem head_c24 (x : Int) (n : Nat) (h24 : Hid (24 <= n)) (hn : Hid (n < 256)) (w : World) :
  Calls Tryz.prog 103 #[.int .i64 x, .int .u64 n] w (Ret (str (b8 (32 * mjr x + 24) :: be n 1)) w) := by
 go_enter Tryz.func103, Tryz.ntmps103
 go_upto_region 1 with fail
 go_cut [11] (fun s wx => s = .bool (mjB x) /\ wx = w)
 case first =>
  go_wp2
  all_goals (go_meet; exact ⟨mj_bool (by unfold mjB; simp [*]), rfl⟩)
 obtain ⟨rfl, rfl⟩ := hcut
 go_upto_if 11 with fail
 go_cut [0] (fun s0 wx => s0 = .int .i64 ((mjr x : Nat) : Int) /\ wx = wc)
 case first =>
  cases h : mjB x
  .
   go_wp2
   go_meet
   exact ⟨mjr_in h, rfl⟩
  .
   go_wp2
   go_meet
   exact ⟨mjr_out h, rfl⟩
 obtain ⟨rfl, rfl⟩ := hcut
 have hm := mjr_le x
 generalize mjr x = m at *
 have t0 : (decide ((n : Int) < 24)) = false := by have := h24.out; have := hn.out; simp; omega
 have t1 : (decide ((n : Int) < 256)) = true := by have := h24.out; have := hn.out; simp; omega
 have hor := or_u8 m 24 hm (by omega) (by omega)
 have hcv := convByte
 have hb8 : ∀ m : Nat, b8i (32 * (m : Int) + 24) = b8 (32 * m + 24) := fun m => by unfold b8i b8; congr 1
 have hbl := be_length
 have hw8 : IntKind.u8.wrap (n : Int) = n := by have := hn.out; rw [IntKind.wrap_u8]; omega
 go_wp2
 clear t0 t1
 go_region_with ((go_at_call 126; refine (spread_uint8 _ _ (by have := hn.out; omega) (by have := hn.out; omega) (by omega) (by omega) _).mono ?_; rintro e w' ⟨rfl, hb⟩; obtain ⟨hc, hf⟩ := ext_cells hb))
 all_goals go_wp2
 all_goals go_ret
 all_goals refine ⟨congrArg Ending.returned (str_app [_] _), ?_⟩
 all_goals clear hc hf
 all_goals repeat (first | exact Mod.refl _ _ | apply Mod.drew | apply Mod.alloc | (refine Mod.trans ?_ hb; clear hb))
set_option maxHeartbeats 400000 in
theorem head_c25 (x : Int) (n : Nat) (h24 : Hid (256 <= n)) (hn : Hid (n < 65536)) (w : World) :
  Calls Tryz.prog 103 #[.int .i64 x, .int .u64 n] w (Ret (str (b8 (32 * mjr x + 25) :: be n 2)) w) := by
 go_enter Tryz.func103, Tryz.ntmps103
 go_upto_region 1 with fail
 go_cut [11] (fun s wx => s = .bool (mjB x) /\ wx = w)
 case first =>
  go_wp2
  all_goals (go_meet; exact ⟨mj_bool (by unfold mjB; simp [*]), rfl⟩)
 obtain ⟨rfl, rfl⟩ := hcut
 go_upto_if 11 with fail
 go_cut [0] (fun s0 wx => s0 = .int .i64 ((mjr x : Nat) : Int) /\ wx = wc)
 case first =>
  cases h : mjB x
  .
   go_wp2
   go_meet
   exact ⟨mjr_in h, rfl⟩
  .
   go_wp2
   go_meet
   exact ⟨mjr_out h, rfl⟩
 obtain ⟨rfl, rfl⟩ := hcut
 have hm := mjr_le x
 generalize mjr x = m at *
 have t0 : (decide ((n : Int) < 24)) = false := by have := h24.out; have := hn.out; simp; omega
 have t1 : (decide ((n : Int) < 256)) = false := by have := h24.out; have := hn.out; simp; omega
 have t2 : (decide ((n : Int) < 65536)) = true := by have := h24.out; have := hn.out; simp; omega
 have hor := or_u8 m 25 hm (by omega) (by omega)
 have hcv := convByte
 have hb8 : ∀ m : Nat, b8i (32 * (m : Int) + 25) = b8 (32 * m + 25) := fun m => by unfold b8i b8; congr 1
 have hbl := be_length
 have hw8 : IntKind.u16.wrap (n : Int) = n := by have := hn.out; rw [IntKind.wrap_u16]; omega
 go_wp2
 clear t0 t1 t2
 go_region_with ((go_at_call 127; refine (spread_uint16 _ _ (by have := hn.out; omega) (by have := hn.out; omega) (by omega) (by omega) _).mono ?_; rintro e w' ⟨rfl, hb⟩; obtain ⟨hc, hf⟩ := ext_cells hb))
 all_goals go_wp2
 all_goals go_ret
 all_goals refine ⟨congrArg Ending.returned (str_app [_] _), ?_⟩
 all_goals clear hc hf
 all_goals repeat (first | exact Mod.refl _ _ | apply Mod.drew | apply Mod.alloc | (refine Mod.trans ?_ hb; clear hb))
set_option maxHeartbeats 400000 in
theorem head_c26 (x : Int) (n : Nat) (h24 : Hid (65536 <= n)) (hn : Hid (n < 4294967296)) (w : World) :
  Calls Tryz.prog 103 #[.int .i64 x, .int .u64 n] w (Ret (str (b8 (32 * mjr x + 26) :: be n 4)) w) := by
 go_enter Tryz.func103, Tryz.ntmps103
 go_upto_region 1 with fail
 go_cut [11] (fun s wx => s = .bool (mjB x) /\ wx = w)
 case first =>
  go_wp2
  all_goals (go_meet; exact ⟨mj_bool (by unfold mjB; simp [*]), rfl⟩)
 obtain ⟨rfl, rfl⟩ := hcut
 go_upto_if 11 with fail
 go_cut [0] (fun s0 wx => s0 = .int .i64 ((mjr x : Nat) : Int) /\ wx = wc)
 case first =>
  cases h : mjB x
  .
   go_wp2
   go_meet
   exact ⟨mjr_in h, rfl⟩
  .
   go_wp2
   go_meet
   exact ⟨mjr_out h, rfl⟩
 obtain ⟨rfl, rfl⟩ := hcut
 have hm := mjr_le x
 generalize mjr x = m at *
 have t0 : (decide ((n : Int) < 24)) = false := by have := h24.out; have := hn.out; simp; omega
 have t1 : (decide ((n : Int) < 256)) = false := by have := h24.out; have := hn.out; simp; omega
 have t2 : (decide ((n : Int) < 65536)) = false := by have := h24.out; have := hn.out; simp; omega
 have t3 : (decide ((n : Int) < 4294967296)) = true := by have := h24.out; have := hn.out; simp; omega
 have hor := or_u8 m 26 hm (by omega) (by omega)
 have hcv := convByte
 have hb8 : ∀ m : Nat, b8i (32 * (m : Int) + 26) = b8 (32 * m + 26) := fun m => by unfold b8i b8; congr 1
 have hbl := be_length
 have hw8 : IntKind.u32.wrap (n : Int) = n := by have := hn.out; rw [IntKind.wrap_u32]; omega
 go_wp2
 clear t0 t1 t2 t3
 go_region_with ((go_at_call 128; refine (spread_uint32 _ _ (by have := hn.out; omega) (by have := hn.out; omega) (by omega) (by omega) _).mono ?_; rintro e w' ⟨rfl, hb⟩; obtain ⟨hc, hf⟩ := ext_cells hb))
 all_goals go_wp2
 all_goals go_ret
 all_goals refine ⟨congrArg Ending.returned (str_app [_] _), ?_⟩
 all_goals clear hc hf
 all_goals repeat (first | exact Mod.refl _ _ | apply Mod.drew | apply Mod.alloc | (refine Mod.trans ?_ hb; clear hb))
set_option maxHeartbeats 400000 in
theorem head_c27 (x : Int) (n : Nat) (h24 : Hid (4294967296 <= n)) (hn : Hid (n < 18446744073709551616)) (w : World) :
  Calls Tryz.prog 103 #[.int .i64 x, .int .u64 n] w (Ret (str (b8 (32 * mjr x + 27) :: be n 8)) w) := by
 go_enter Tryz.func103, Tryz.ntmps103
 go_upto_region 1 with fail
 go_cut [11] (fun s wx => s = .bool (mjB x) /\ wx = w)
 case first =>
  go_wp2
  all_goals (go_meet; exact ⟨mj_bool (by unfold mjB; simp [*]), rfl⟩)
 obtain ⟨rfl, rfl⟩ := hcut
 go_upto_if 11 with fail
 go_cut [0] (fun s0 wx => s0 = .int .i64 ((mjr x : Nat) : Int) /\ wx = wc)
 case first =>
  cases h : mjB x
  .
   go_wp2
   go_meet
   exact ⟨mjr_in h, rfl⟩
  .
   go_wp2
   go_meet
   exact ⟨mjr_out h, rfl⟩
 obtain ⟨rfl, rfl⟩ := hcut
 have hm := mjr_le x
 generalize mjr x = m at *
 have t0 : (decide ((n : Int) < 24)) = false := by have := h24.out; have := hn.out; simp; omega
 have t1 : (decide ((n : Int) < 256)) = false := by have := h24.out; have := hn.out; simp; omega
 have t2 : (decide ((n : Int) < 65536)) = false := by have := h24.out; have := hn.out; simp; omega
 have t3 : (decide ((n : Int) < 4294967296)) = false := by have := h24.out; have := hn.out; simp; omega
 have hor := or_u8 m 27 hm (by omega) (by omega)
 have hcv := convByte
 have hb8 : ∀ m : Nat, b8i (32 * (m : Int) + 27) = b8 (32 * m + 27) := fun m => by unfold b8i b8; congr 1
 have hbl := be_length
 go_wp2
 clear t0 t1 t2 t3
 go_region_with ((go_at_call 129; refine (spread_uint64 _ _ (by have := hn.out; omega) (by have := hn.out; omega) (by omega) (by omega) _).mono ?_; rintro e w' ⟨rfl, hb⟩; obtain ⟨hc, hf⟩ := ext_cells hb))
 all_goals go_wp2
 all_goals go_ret
 all_goals refine ⟨congrArg Ending.returned (str_app [_] _), ?_⟩
 all_goals clear hc hf
 all_goals repeat (first | exact Mod.refl _ _ | apply Mod.drew | apply Mod.alloc | (refine Mod.trans ?_ hb; clear hb))
theorem head_any (m n : Int) (hn0 : 0 <= n) (hn1 : n < 18446744073709551616) (w : World) :
  Calls Tryz.prog 103 #[.int .i64 m, .int .u64 n] w (Ret (str (headL (mjr m) n.toNat)) w) := by
 obtain ⟨n, rfl⟩ := Int.eq_ofNat_of_zero_le hn0
 rw [Int.toNat_natCast]
 unfold headL
 by_cases a : n < 24
 . rw [if_pos a]; exact head_24 m n a w
 rw [if_neg a]
 by_cases b : n < 256
 . rw [if_pos b]; exact head_c24 m n (Nat.le_of_not_lt a) b w
 rw [if_neg b]
 by_cases c : n < 65536
 . rw [if_pos c]; exact head_c25 m n (Nat.le_of_not_lt b) c w
 rw [if_neg c]
 by_cases d : n < 4294967296
 . rw [if_pos d]; exact head_c26 m n (Nat.le_of_not_lt c) d w
 rw [if_neg d]; exact head_c27 m n (Nat.le_of_not_lt d) (by unfold Hid; omega) w
theorem head_in (m n : Int) (h0 : 0 <= m) (h7 : m <= 7) (hn0 : 0 <= n) (hn1 : n < 18446744073709551616) (w : World) :
  Calls Tryz.prog 103 #[.int .i64 m, .int .u64 n] w (Ret (str (headL m.toNat n.toNat)) w) := by
 have e : mjr m = m.toNat := by unfold mjr; rw [if_pos ⟨h0, h7⟩]
 rw [<- e]; exact head_any m n hn0 hn1 w
theorem ret_bool {b c : Bool} (h : b = c) : Ending.returned (.bool b) = .returned (.bool c) := by rw [h]
set_option maxHeartbeats 400000 in
theorem opens_any (m : Int) (w : World) : Calls Tryz.prog 130 #[.int .i64 m] w fun e w' => e = .returned (.bool (opensB m)) /\ w = w' := by
 go_enter Tryz.func130, Tryz.ntmps130
 go_wp2
 all_goals go_ret
 all_goals exact ⟨ret_bool (by unfold opensB; rw [Bool.eq_iff_iff]; simp [*]; try omega), rfl⟩
theorem open_bits : ∀ m : Fin 8, bits .or .i64 ((m.val : Int) * 32) 31 = (m.val : Int) * 32 + 31 := by decide +kernel
set_option maxHeartbeats 400000 in
theorem open_yes (m : Nat) (h : opensB m = true) (w : World) : Calls Tryz.prog 106 #[.int .i64 m] w (Ret (str (openL m)) w) := by
 have hm : 2 <= m /\ m <= 7 := by unfold opensB at h; simp at h; omega
 obtain ⟨h2, h7⟩ := hm
 have ho := open_bits ⟨m, by omega⟩
 dsimp only at ho
 have e : openL m = [b8i ((m : Int) * 32 + 31)] := by
  unfold openL b8 b8i; rw [if_pos h]; congr 2; omega
 have hcv := convByte
 rw [e]
 have hw : 0 <= (m : Int) * 32 + 31 := by omega
 go_enter Tryz.func106, Tryz.ntmps106
 go_wp2_with (go_at_call 130; refine (opens_any _ _).mono ?_; rintro e w' ⟨rfl, rfl⟩)
 go_ret
 exact ⟨rfl, (Mod.refl _ _).alloc _⟩
set_option maxHeartbeats 400000 in
theorem open_no (m : Int) (h : opensB m = false) (w : World) : Calls Tryz.prog 106 #[.int .i64 m] w (Ret (str (openL m)) w) := by
 have e : openL m = [] := by unfold openL; simp [h]
 rw [e]
 go_enter Tryz.func106, Tryz.ntmps106
 go_wp2_with (go_at_call 130; refine (opens_any _ _).mono ?_; rintro e w' ⟨rfl, rfl⟩)
 go_ret
 exact ⟨rfl, Mod.refl _ _⟩
theorem open_any (m : Int) (w : World) : Calls Tryz.prog 106 #[.int .i64 m] w (Ret (str (openL m)) w) := by
 cases h : opensB m with
 | false => exact open_no m h w
 | true =>
  have : 0 <= m := by unfold opensB at h; simp at h; omega
  obtain ⟨n, rfl⟩ := Int.eq_ofNat_of_zero_le this
  exact open_yes n h w
def rdr (s : List UInt8) (at_ bad e from_ : Int) : Array Value := #[str s, .int .i64 at_, .int .i64 bad, .int .i64 e, .int .i64 from_]
set_option maxHeartbeats 400000 in
theorem newReader_any (s : List UInt8) (w : World) : Calls Tryz.prog 141 #[str s] w fun e w' =>
  e = .returned (.pointer (some ⟨w.heap.size, 0, none⟩)) /\ w' = w.alloc (.cells (rdr s 0 (-1) 0 0) 173) := by
 go_enter Tryz.func141, Tryz.ntmps141
 go_wp2
 go_ret
 exact ⟨rfl, rfl⟩
theorem digits_str {n j q : Nat} (h : n / 2 ^ (8 * j) = q) : Value.string ((⟨#[b8i ((q : Int) % 256)]⟩ : ByteArray) ++ ⟨(be n j).toArray⟩) = str (be n (j + 1)) := by
 rw [be_succ, h]; exact str_app [_] _
theorem digits_num {n j q : Nat} (hn : n < 18446744073709551616) (h : n / 2 ^ (8 * j) = q) : Value.int .u64 (IntKind.u64.wrap ((q : Int) / 256)) = .int .u64 ((n / 2 ^ (8 * (j + 1)) : Nat) : Int) := by
 have hq : q <= n := by rw [<- h]; exact Nat.div_le_self _ _
 rw [IntWalk.u64_in _ (by omega), Nat.mul_add, Nat.pow_add, <- Nat.div_div_eq_div_mul, h]; rfl
set_option maxHeartbeats 400000 in
theorem digits_n (n : Nat) (hn : Hid (n < 18446744073709551616)) (k : Nat) (hk : k <= 8) (w : World) :
  Calls Tryz.prog 57 #[.int .u64 n, .int .i64 k] w (Ret (str (be n k)) w) := by
 have hcv := convByte
 go_enter Tryz.func57, Tryz.ntmps57
 go_wp2
 go_loopw [0, 5, 6] (fun x s i wr => ∃ j : Nat, j <= k /\ i = .int .i64 j /\ s = str (be n j) /\ x = .int .u64 ((n / 2 ^ (8 * j) : Nat) : Int) /\ Ext w wr) (fun _ _ i _ => k - (intOf i).toNat)
 case atStart => exact ⟨0, Nat.zero_le _, rfl, rfl, by simp, Mod.refl _ _⟩
 case round =>
  obtain ⟨j, hj, rfl, rfl, rfl, hb⟩ := hrel
  have hbl := be_length n j
  generalize hq : n / 2 ^ (8 * j) = q
  have HQ := hid hq; clear hq
  by_cases hlt : j < k
  .
   go_wp2
   go_roundw
   case rel => exact ⟨j + 1, by omega, by go_num, digits_str HQ.out, digits_num hn.out HQ.out, hb.alloc _⟩
   case measure => simp [intOf]; omega
  .
   obtain rfl : j = k := by omega
   go_wp2
   go_ret
   exact ⟨rfl, hb⟩
theorem digits_any (x k : Int) (hx : 0 <= x) (hx1 : x < 18446744073709551616) (hk : 0 <= k) (hk8 : k <= 8) (w : World) :
  Calls Tryz.prog 57 #[.int .u64 x, .int .i64 k] w (Ret (str (be x.toNat k.toNat)) w) := by
 obtain ⟨n, rfl⟩ := Int.eq_ofNat_of_zero_le hx
 obtain ⟨k, rfl⟩ := Int.eq_ofNat_of_zero_le hk
 exact digits_n n (by unfold Hid; omega) k (by omega) w
set_option maxHeartbeats 400000 in
theorem rhead_24 (m : Nat) (hm : m <= 7) (n : Nat) (hn : n < 24) (w : World) :
  Calls Tryz.prog 28 #[.int .i64 m, .int .u64 n] w (Ret (str [b8 (32 * m + n)]) w) := by
 have h2 : (decide ((n : Int) < 24)) = true := by simp; omega
 have hcv := convByte
 have hb8 : ∀ m n : Nat, b8i (32 * (m : Int) + n) = b8 (32 * m + n) := fun m n => by unfold b8i b8; congr 1
 go_enter Tryz.func28, Tryz.ntmps28
 go_wp2
 go_ret
 exact ⟨rfl, (Mod.refl _ _).alloc _⟩
set_option maxHeartbeats 400000 in
theorem rhead_c24 (m : Nat) (hm : m <= 7) (n : Nat) (h24 : Hid (24 <= n)) (hn : Hid (n < 256)) (w : World) :
  Calls Tryz.prog 28 #[.int .i64 m, .int .u64 n] w (Ret (str (b8 (32 * m + 24) :: be n 1)) w) := by
 have t0 : (decide ((n : Int) < 24)) = false := by have := h24.out; have := hn.out; simp; omega
 have t1 : (decide ((n : Int) < 256)) = true := by have := h24.out; have := hn.out; simp; omega
 have hcv := convByte
 have hb8 : ∀ m : Nat, b8i (32 * (m : Int) + 24) = b8 (32 * m + 24) := fun m => by unfold b8i b8; congr 1
 have hbl := be_length
 have hww : IntKind.u8.wrap (32 * (m : Int) + 24) = 32 * (m : Int) + 24 := by rw [IntKind.wrap_u8]; omega
 go_enter Tryz.func28, Tryz.ntmps28
 go_wp2
 clear t0 t1
 go_region_with ((go_at_call 57; refine (digits_any _ _ (by have := hn.out; omega) (by have := hn.out; omega) (by omega) (by omega) _).mono ?_; rintro e w' ⟨rfl, hb⟩; obtain ⟨hc, hf⟩ := ext_cells hb))
 all_goals go_wp2
 all_goals go_ret
 all_goals refine ⟨congrArg Ending.returned (str_app [_] _), ?_⟩
 all_goals clear hc hf
 all_goals repeat (first | exact Mod.refl _ _ | apply Mod.drew | apply Mod.alloc | (refine Mod.trans ?_ hb; clear hb))
set_option maxHeartbeats 400000 in
theorem rhead_c25 (m : Nat) (hm : m <= 7) (n : Nat) (h24 : Hid (256 <= n)) (hn : Hid (n < 65536)) (w : World) :
  Calls Tryz.prog 28 #[.int .i64 m, .int .u64 n] w (Ret (str (b8 (32 * m + 25) :: be n 2)) w) := by
 have t0 : (decide ((n : Int) < 24)) = false := by have := h24.out; have := hn.out; simp; omega
 have t1 : (decide ((n : Int) < 256)) = false := by have := h24.out; have := hn.out; simp; omega
 have t2 : (decide ((n : Int) < 65536)) = true := by have := h24.out; have := hn.out; simp; omega
 have hcv := convByte
 have hb8 : ∀ m : Nat, b8i (32 * (m : Int) + 25) = b8 (32 * m + 25) := fun m => by unfold b8i b8; congr 1
 have hbl := be_length
 have hww : IntKind.u8.wrap (32 * (m : Int) + 25) = 32 * (m : Int) + 25 := by rw [IntKind.wrap_u8]; omega
 go_enter Tryz.func28, Tryz.ntmps28
 go_wp2
 clear t0 t1 t2
 go_region_with ((go_at_call 57; refine (digits_any _ _ (by have := hn.out; omega) (by have := hn.out; omega) (by omega) (by omega) _).mono ?_; rintro e w' ⟨rfl, hb⟩; obtain ⟨hc, hf⟩ := ext_cells hb))
 all_goals go_wp2
 all_goals go_ret
 all_goals refine ⟨congrArg Ending.returned (str_app [_] _), ?_⟩
 all_goals clear hc hf
 all_goals repeat (first | exact Mod.refl _ _ | apply Mod.drew | apply Mod.alloc | (refine Mod.trans ?_ hb; clear hb))
set_option maxHeartbeats 400000 in
theorem rhead_c26 (m : Nat) (hm : m <= 7) (n : Nat) (h24 : Hid (65536 <= n)) (hn : Hid (n < 4294967296)) (w : World) :
  Calls Tryz.prog 28 #[.int .i64 m, .int .u64 n] w (Ret (str (b8 (32 * m + 26) :: be n 4)) w) := by
 have t0 : (decide ((n : Int) < 24)) = false := by have := h24.out; have := hn.out; simp; omega
 have t1 : (decide ((n : Int) < 256)) = false := by have := h24.out; have := hn.out; simp; omega
 have t2 : (decide ((n : Int) < 65536)) = false := by have := h24.out; have := hn.out; simp; omega
 have t3 : (decide ((n : Int) < 4294967296)) = true := by have := h24.out; have := hn.out; simp; omega
 have hcv := convByte
 have hb8 : ∀ m : Nat, b8i (32 * (m : Int) + 26) = b8 (32 * m + 26) := fun m => by unfold b8i b8; congr 1
 have hbl := be_length
 have hww : IntKind.u8.wrap (32 * (m : Int) + 26) = 32 * (m : Int) + 26 := by rw [IntKind.wrap_u8]; omega
 go_enter Tryz.func28, Tryz.ntmps28
 go_wp2
 clear t0 t1 t2 t3
 go_region_with ((go_at_call 57; refine (digits_any _ _ (by have := hn.out; omega) (by have := hn.out; omega) (by omega) (by omega) _).mono ?_; rintro e w' ⟨rfl, hb⟩; obtain ⟨hc, hf⟩ := ext_cells hb))
 all_goals go_wp2
 all_goals go_ret
 all_goals refine ⟨congrArg Ending.returned (str_app [_] _), ?_⟩
 all_goals clear hc hf
 all_goals repeat (first | exact Mod.refl _ _ | apply Mod.drew | apply Mod.alloc | (refine Mod.trans ?_ hb; clear hb))
set_option maxHeartbeats 400000 in
theorem rhead_c27 (m : Nat) (hm : m <= 7) (n : Nat) (h24 : Hid (4294967296 <= n)) (hn : Hid (n < 18446744073709551616)) (w : World) :
  Calls Tryz.prog 28 #[.int .i64 m, .int .u64 n] w (Ret (str (b8 (32 * m + 27) :: be n 8)) w) := by
 have t0 : (decide ((n : Int) < 24)) = false := by have := h24.out; have := hn.out; simp; omega
 have t1 : (decide ((n : Int) < 256)) = false := by have := h24.out; have := hn.out; simp; omega
 have t2 : (decide ((n : Int) < 65536)) = false := by have := h24.out; have := hn.out; simp; omega
 have t3 : (decide ((n : Int) < 4294967296)) = false := by have := h24.out; have := hn.out; simp; omega
 have hcv := convByte
 have hb8 : ∀ m : Nat, b8i (32 * (m : Int) + 27) = b8 (32 * m + 27) := fun m => by unfold b8i b8; congr 1
 have hbl := be_length
 have hww : IntKind.u8.wrap (32 * (m : Int) + 27) = 32 * (m : Int) + 27 := by rw [IntKind.wrap_u8]; omega
 go_enter Tryz.func28, Tryz.ntmps28
 go_wp2
 clear t0 t1 t2 t3
 go_region_with ((go_at_call 57; refine (digits_any _ _ (by have := hn.out; omega) (by have := hn.out; omega) (by omega) (by omega) _).mono ?_; rintro e w' ⟨rfl, hb⟩; obtain ⟨hc, hf⟩ := ext_cells hb))
 all_goals go_wp2
 all_goals go_ret
 all_goals refine ⟨congrArg Ending.returned (str_app [_] _), ?_⟩
 all_goals clear hc hf
 all_goals repeat (first | exact Mod.refl _ _ | apply Mod.drew | apply Mod.alloc | (refine Mod.trans ?_ hb; clear hb))
theorem rhead_in (m n : Int) (h0 : 0 <= m) (h7 : m <= 7) (hn0 : 0 <= n) (hn1 : n < 18446744073709551616) (w : World) :
  Calls Tryz.prog 28 #[.int .i64 m, .int .u64 n] w (Ret (str (headL m.toNat n.toNat)) w) := by
 obtain ⟨m, rfl⟩ := Int.eq_ofNat_of_zero_le h0
 obtain ⟨n, rfl⟩ := Int.eq_ofNat_of_zero_le hn0
 rw [Int.toNat_natCast, Int.toNat_natCast]
 unfold headL
 by_cases a : n < 24
 . rw [if_pos a]; exact rhead_24 m (by omega) n a w
 rw [if_neg a]
 by_cases b : n < 256
 . rw [if_pos b]; exact rhead_c24 m (by omega) n (Nat.le_of_not_lt a) b w
 rw [if_neg b]
 by_cases c : n < 65536
 . rw [if_pos c]; exact rhead_c25 m (by omega) n (Nat.le_of_not_lt b) c w
 rw [if_neg c]
 by_cases d : n < 4294967296
 . rw [if_pos d]; exact rhead_c26 m (by omega) n (Nat.le_of_not_lt c) d w
 rw [if_neg d]; exact rhead_c27 m (by omega) n (Nat.le_of_not_lt d) (by unfold Hid; omega) w
end Go.Proofs.YthecmnbkjchjmaaGreat
