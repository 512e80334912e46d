/-
  Why a block is not right, as the code and the reference tell it.
  A block's header.
  A block's item, without a sum.
  A block without a sum: its item, its bytes; the block that the laws wake the program by.
  A block's bytes; the block that the laws wake the program by.
  An item with the right sum as its last part.
  A block's item and bytes, whatever its sum.
  Bundles: the first block of a type, as the code finds it.
  An argument api.Bundle, opened: its primary's cells; its blocks lie in memory.
  An argument api.Block, opened: its five cells.
  Which names, primaries and bundles are of a size that is looked at.
  The reference's sums.
  The reference's sums, whole.
  The reference's blocks: bytes, header.
  The reference's blocks, built.
-/
import Derived.Test.YtkeabdfgacicaaaMScopeApartd

namespace Go.Proofs.Ytkeabdfgacicaaa
open Go.RowKit
set_option linter.unusedVariables false
set_option linter.unusedSimpArgs false

abbrev BV.c (b : BV) : Array Value := #[.int .i64 b.ty, .int .i64 b.num, .int .u64 (b.fl : Int), .int .i64 b.crc, str b.data]
abbrev BV.v (b : BV) : Value := .agg b.c
set_option maxRecDepth 20000 in
theorem cRight_0 (ty : Int) (num : Int) (fl : Nat) (crc : Int) (data : List UInt8) (h : ty < 1) (w : World) : Calls Try.prog 35 #[BV.v ⟨ty, num, fl, crc, data⟩] w (Ret (.int .i64 1) w) := by
  have t0 : decide (ty < 1) = true := by simp; omega
  have t1 : decide (1 ≤ ty) = false := by simp; omega
  clear h
  go_enter Try.func35, Try.ntmps35
  go_wp2
  go_ret
  exact Ret.mk rfl ((Mod.refl _ _).alloc _)
set_option maxRecDepth 20000 in
theorem cRight_1 (ty : Int) (num : Int) (fl : Nat) (crc : Int) (data : List UInt8) (a1 : 1 ≤ ty) (h : 65535 < ty) (w : World) : Calls Try.prog 35 #[BV.v ⟨ty, num, fl, crc, data⟩] w (Ret (.int .i64 1) w) := by
  have t0 : decide (ty < 1) = false := by simp; omega
  have t1 : decide (1 ≤ ty) = true := by simp; omega
  have t2 : decide (65535 < ty) = true := by simp; omega
  have t3 : decide (ty ≤ 65535) = false := by simp; omega
  clear a1 h
  go_enter Try.func35, Try.ntmps35
  go_wp2
  go_ret
  exact Ret.mk rfl ((Mod.refl _ _).alloc _)
set_option maxRecDepth 20000 in
theorem cRight_2 (ty : Int) (num : Int) (fl : Nat) (crc : Int) (data : List UInt8) (a1 : 1 ≤ ty) (a2 : ty ≤ 65535) (h : num < 1) (w : World) : Calls Try.prog 35 #[BV.v ⟨ty, num, fl, crc, data⟩] w (Ret (.int .i64 1) w) := by
  have t0 : decide (ty < 1) = false := by simp; omega
  have t1 : decide (1 ≤ ty) = true := by simp; omega
  have t2 : decide (65535 < ty) = false := by simp; omega
  have t3 : decide (ty ≤ 65535) = true := by simp; omega
  have t4 : decide (num < 1) = true := by simp; omega
  have t5 : decide (1 ≤ num) = false := by simp; omega
  clear a1 a2 h
  go_enter Try.func35, Try.ntmps35
  go_wp2
  go_ret
  exact Ret.mk rfl ((Mod.refl _ _).alloc _)
set_option maxRecDepth 20000 in
theorem cRight_3 (ty : Int) (num : Int) (fl : Nat) (crc : Int) (data : List UInt8) (a1 : 1 ≤ ty) (a2 : ty ≤ 65535) (a3 : 1 ≤ num) (h : 65535 < num) (w : World) : Calls Try.prog 35 #[BV.v ⟨ty, num, fl, crc, data⟩] w (Ret (.int .i64 1) w) := by
  have t0 : decide (ty < 1) = false := by simp; omega
  have t1 : decide (1 ≤ ty) = true := by simp; omega
  have t2 : decide (65535 < ty) = false := by simp; omega
  have t3 : decide (ty ≤ 65535) = true := by simp; omega
  have t4 : decide (num < 1) = false := by simp; omega
  have t5 : decide (1 ≤ num) = true := by simp; omega
  have t6 : decide (65535 < num) = true := by simp; omega
  have t7 : decide (num ≤ 65535) = false := by simp; omega
  clear a1 a2 a3 h
  go_enter Try.func35, Try.ntmps35
  go_wp2
  go_ret
  exact Ret.mk rfl ((Mod.refl _ _).alloc _)
set_option maxRecDepth 20000 in
theorem cRight_4 (ty : Int) (num : Int) (fl : Nat) (crc : Int) (data : List UInt8) (a1 : 1 ≤ ty) (a2 : ty ≤ 65535) (a3 : 1 ≤ num) (a4 : num ≤ 65535) (h : 255 < fl) (w : World) : Calls Try.prog 35 #[BV.v ⟨ty, num, fl, crc, data⟩] w (Ret (.int .i64 1) w) := by
  have t0 : decide (ty < 1) = false := by simp; omega
  have t1 : decide (1 ≤ ty) = true := by simp; omega
  have t2 : decide (65535 < ty) = false := by simp; omega
  have t3 : decide (ty ≤ 65535) = true := by simp; omega
  have t4 : decide (num < 1) = false := by simp; omega
  have t5 : decide (1 ≤ num) = true := by simp; omega
  have t6 : decide (65535 < num) = false := by simp; omega
  have t7 : decide (num ≤ 65535) = true := by simp; omega
  have t8 : decide (255 < (fl : Int)) = true := by simp; omega
  have t9 : decide ((fl : Int) ≤ 255) = false := by simp; omega
  clear a1 a2 a3 a4 h
  go_enter Try.func35, Try.ntmps35
  go_wp2
  go_ret
  exact Ret.mk rfl ((Mod.refl _ _).alloc _)
set_option maxRecDepth 20000 in
theorem cRight_5 (ty : Int) (num : Int) (fl : Nat) (crc : Int) (data : List UInt8) (a1 : 1 ≤ ty) (a2 : ty ≤ 65535) (a3 : 1 ≤ num) (a4 : num ≤ 65535) (a5 : fl ≤ 255) (h : crc < 0) (w : World) : Calls Try.prog 35 #[BV.v ⟨ty, num, fl, crc, data⟩] w (Ret (.int .i64 1) w) := by
  have t0 : decide (ty < 1) = false := by simp; omega
  have t1 : decide (1 ≤ ty) = true := by simp; omega
  have t2 : decide (65535 < ty) = false := by simp; omega
  have t3 : decide (ty ≤ 65535) = true := by simp; omega
  have t4 : decide (num < 1) = false := by simp; omega
  have t5 : decide (1 ≤ num) = true := by simp; omega
  have t6 : decide (65535 < num) = false := by simp; omega
  have t7 : decide (num ≤ 65535) = true := by simp; omega
  have t8 : decide (255 < (fl : Int)) = false := by simp; omega
  have t9 : decide ((fl : Int) ≤ 255) = true := by simp; omega
  have t10 : decide (crc < 0) = true := by simp; omega
  have t11 : decide (0 ≤ crc) = false := by simp; omega
  clear a1 a2 a3 a4 a5 h
  go_enter Try.func35, Try.ntmps35
  go_wp2
  go_ret
  exact Ret.mk rfl ((Mod.refl _ _).alloc _)
set_option maxRecDepth 20000 in
theorem cRight_6 (ty : Int) (num : Int) (fl : Nat) (crc : Int) (data : List UInt8) (a1 : 1 ≤ ty) (a2 : ty ≤ 65535) (a3 : 1 ≤ num) (a4 : num ≤ 65535) (a5 : fl ≤ 255) (a6 : 0 ≤ crc) (h : 2 < crc) (w : World) : Calls Try.prog 35 #[BV.v ⟨ty, num, fl, crc, data⟩] w (Ret (.int .i64 1) w) := by
  have t0 : decide (ty < 1) = false := by simp; omega
  have t1 : decide (1 ≤ ty) = true := by simp; omega
  have t2 : decide (65535 < ty) = false := by simp; omega
  have t3 : decide (ty ≤ 65535) = true := by simp; omega
  have t4 : decide (num < 1) = false := by simp; omega
  have t5 : decide (1 ≤ num) = true := by simp; omega
  have t6 : decide (65535 < num) = false := by simp; omega
  have t7 : decide (num ≤ 65535) = true := by simp; omega
  have t8 : decide (255 < (fl : Int)) = false := by simp; omega
  have t9 : decide ((fl : Int) ≤ 255) = true := by simp; omega
  have t10 : decide (crc < 0) = false := by simp; omega
  have t11 : decide (0 ≤ crc) = true := by simp; omega
  have t12 : decide (2 < crc) = true := by simp; omega
  have t13 : decide (crc ≤ 2) = false := by simp; omega
  clear a1 a2 a3 a4 a5 a6 h
  go_enter Try.func35, Try.ntmps35
  go_wp2
  go_ret
  exact Ret.mk rfl ((Mod.refl _ _).alloc _)
set_option maxRecDepth 20000 in
theorem cRight_7 (ty : Int) (num : Int) (fl : Nat) (crc : Int) (data : List UInt8) (a1 : 1 ≤ ty) (a2 : ty ≤ 65535) (a3 : 1 ≤ num) (a4 : num ≤ 65535) (a5 : fl ≤ 255) (a6 : 0 ≤ crc) (a7 : crc ≤ 2) (h : 4000 < data.length) (w : World) : Calls Try.prog 35 #[BV.v ⟨ty, num, fl, crc, data⟩] w (Ret (.int .i64 4) w) := by
  have t0 : decide (ty < 1) = false := by simp; omega
  have t1 : decide (1 ≤ ty) = true := by simp; omega
  have t2 : decide (65535 < ty) = false := by simp; omega
  have t3 : decide (ty ≤ 65535) = true := by simp; omega
  have t4 : decide (num < 1) = false := by simp; omega
  have t5 : decide (1 ≤ num) = true := by simp; omega
  have t6 : decide (65535 < num) = false := by simp; omega
  have t7 : decide (num ≤ 65535) = true := by simp; omega
  have t8 : decide (255 < (fl : Int)) = false := by simp; omega
  have t9 : decide ((fl : Int) ≤ 255) = true := by simp; omega
  have t10 : decide (crc < 0) = false := by simp; omega
  have t11 : decide (0 ≤ crc) = true := by simp; omega
  have t12 : decide (2 < crc) = false := by simp; omega
  have t13 : decide (crc ≤ 2) = true := by simp; omega
  have t14 : decide (4000 < (data.length : Int)) = true := by simp; omega
  have t15 : decide ((data.length : Int) ≤ 4000) = false := by simp; omega
  clear a1 a2 a3 a4 a5 a6 a7 h
  go_enter Try.func35, Try.ntmps35
  go_wp2
  go_ret
  exact Ret.mk rfl ((Mod.refl _ _).alloc _)
set_option maxRecDepth 20000 in
theorem cRight_8 (num : Int) (fl : Nat) (crc : Int) (data : List UInt8) (a3 : 1 ≤ num) (a4 : num ≤ 65535) (a5 : fl ≤ 255) (a6 : 0 ≤ crc) (a7 : crc ≤ 2) (a8 : data.length ≤ 4000) (b2 : num ≠ 1) (w : World) : Calls Try.prog 35 #[BV.v ⟨1, num, fl, crc, data⟩] w (Ret (.int .i64 8) w) := by
  have t0 : decide (num < 1) = false := by simp; omega
  have t1 : decide (1 ≤ num) = true := by simp; omega
  have t2 : decide (65535 < num) = false := by simp; omega
  have t3 : decide (num ≤ 65535) = true := by simp; omega
  have t4 : decide (255 < (fl : Int)) = false := by simp; omega
  have t5 : decide ((fl : Int) ≤ 255) = true := by simp; omega
  have t6 : decide (crc < 0) = false := by simp; omega
  have t7 : decide (0 ≤ crc) = true := by simp; omega
  have t8 : decide (2 < crc) = false := by simp; omega
  have t9 : decide (crc ≤ 2) = true := by simp; omega
  have t10 : decide (4000 < (data.length : Int)) = false := by simp; omega
  have t11 : decide ((data.length : Int) ≤ 4000) = true := by simp; omega
  have e3 : (num = 1) = False := by simp [b2]
  have e4 : (num == 1) = false := by simp [b2]
  clear a3 a4 a5 a6 a7 a8 b2
  go_enter Try.func35, Try.ntmps35
  go_wp2
  go_ret
  exact Ret.mk rfl ((Mod.refl _ _).alloc _)
set_option maxRecDepth 20000 in
theorem cRight_9 (ty : Int) (fl : Nat) (crc : Int) (data : List UInt8) (a1 : 1 ≤ ty) (a2 : ty ≤ 65535) (a5 : fl ≤ 255) (a6 : 0 ≤ crc) (a7 : crc ≤ 2) (a8 : data.length ≤ 4000) (b1 : ty ≠ 1) (w : World) : Calls Try.prog 35 #[BV.v ⟨ty, 1, fl, crc, data⟩] w (Ret (.int .i64 8) w) := by
  have t0 : decide (ty < 1) = false := by simp; omega
  have t1 : decide (1 ≤ ty) = true := by simp; omega
  have t2 : decide (65535 < ty) = false := by simp; omega
  have t3 : decide (ty ≤ 65535) = true := by simp; omega
  have t4 : decide (255 < (fl : Int)) = false := by simp; omega
  have t5 : decide ((fl : Int) ≤ 255) = true := by simp; omega
  have t6 : decide (crc < 0) = false := by simp; omega
  have t7 : decide (0 ≤ crc) = true := by simp; omega
  have t8 : decide (2 < crc) = false := by simp; omega
  have t9 : decide (crc ≤ 2) = true := by simp; omega
  have t10 : decide (4000 < (data.length : Int)) = false := by simp; omega
  have t11 : decide ((data.length : Int) ≤ 4000) = true := by simp; omega
  have e1 : (ty = 1) = False := by simp [b1]
  have e2 : (ty == 1) = false := by simp [b1]
  clear a1 a2 a5 a6 a7 a8 b1
  go_enter Try.func35, Try.ntmps35
  go_wp2
  go_ret
  exact Ret.mk rfl ((Mod.refl _ _).alloc _)
set_option maxRecDepth 20000 in
theorem cRight_10  (fl : Nat) (crc : Int) (data : List UInt8) (a5 : fl ≤ 255) (a6 : 0 ≤ crc) (a7 : crc ≤ 2) (a8 : data.length ≤ 4000) (w : World) : Calls Try.prog 35 #[BV.v ⟨1, 1, fl, crc, data⟩] w (Ret (.int .i64 0) w) := by
  have t0 : decide (255 < (fl : Int)) = false := by simp; omega
  have t1 : decide ((fl : Int) ≤ 255) = true := by simp; omega
  have t2 : decide (crc < 0) = false := by simp; omega
  have t3 : decide (0 ≤ crc) = true := by simp; omega
  have t4 : decide (2 < crc) = false := by simp; omega
  have t5 : decide (crc ≤ 2) = true := by simp; omega
  have t6 : decide (4000 < (data.length : Int)) = false := by simp; omega
  have t7 : decide ((data.length : Int) ≤ 4000) = true := by simp; omega
  clear a5 a6 a7 a8
  go_enter Try.func35, Try.ntmps35
  go_wp2
  go_ret
  exact Ret.mk rfl ((Mod.refl _ _).alloc _)
set_option maxRecDepth 20000 in
theorem cRight_11 (ty : Int) (num : Int) (fl : Nat) (crc : Int) (data : List UInt8) (a1 : 1 ≤ ty) (a2 : ty ≤ 65535) (a3 : 1 ≤ num) (a4 : num ≤ 65535) (a5 : fl ≤ 255) (a6 : 0 ≤ crc) (a7 : crc ≤ 2) (a8 : data.length ≤ 4000) (b1 : ty ≠ 1) (b2 : num ≠ 1) (w : World) : Calls Try.prog 35 #[BV.v ⟨ty, num, fl, crc, data⟩] w (Ret (.int .i64 0) w) := by
  have t0 : decide (ty < 1) = false := by simp; omega
  have t1 : decide (1 ≤ ty) = true := by simp; omega
  have t2 : decide (65535 < ty) = false := by simp; omega
  have t3 : decide (ty ≤ 65535) = true := by simp; omega
  have t4 : decide (num < 1) = false := by simp; omega
  have t5 : decide (1 ≤ num) = true := by simp; omega
  have t6 : decide (65535 < num) = false := by simp; omega
  have t7 : decide (num ≤ 65535) = true := by simp; omega
  have t8 : decide (255 < (fl : Int)) = false := by simp; omega
  have t9 : decide ((fl : Int) ≤ 255) = true := by simp; omega
  have t10 : decide (crc < 0) = false := by simp; omega
  have t11 : decide (0 ≤ crc) = true := by simp; omega
  have t12 : decide (2 < crc) = false := by simp; omega
  have t13 : decide (crc ≤ 2) = true := by simp; omega
  have t14 : decide (4000 < (data.length : Int)) = false := by simp; omega
  have t15 : decide ((data.length : Int) ≤ 4000) = true := by simp; omega
  have e1 : (ty = 1) = False := by simp [b1]
  have e2 : (ty == 1) = false := by simp [b1]
  have e3 : (num = 1) = False := by simp [b2]
  have e4 : (num == 1) = false := by simp [b2]
  clear a1 a2 a3 a4 a5 a6 a7 a8 b1 b2
  go_enter Try.func35, Try.ntmps35
  go_wp2
  go_ret
  exact Ret.mk rfl ((Mod.refl _ _).alloc _)
set_option maxRecDepth 20000 in
theorem rRight_0 (ty : Int) (num : Int) (fl : Nat) (crc : Int) (data : List UInt8) (h : ty < 1) (w : World) : Calls Try.prog 17 #[BV.v ⟨ty, num, fl, crc, data⟩] w (Ret (.int .i64 1) w) := by
  have t0 : decide (ty < 1) = true := by simp; omega
  have t1 : decide (1 ≤ ty) = false := by simp; omega
  clear h
  go_enter Try.func17, Try.ntmps17
  go_wp2
  go_ret
  exact Ret.mk rfl ((Mod.refl _ _).alloc _)
set_option maxRecDepth 20000 in
theorem rRight_1 (ty : Int) (num : Int) (fl : Nat) (crc : Int) (data : List UInt8) (a1 : 1 ≤ ty) (h : 65535 < ty) (w : World) : Calls Try.prog 17 #[BV.v ⟨ty, num, fl, crc, data⟩] w (Ret (.int .i64 1) w) := by
  have t0 : decide (ty < 1) = false := by simp; omega
  have t1 : decide (1 ≤ ty) = true := by simp; omega
  have t2 : decide (65535 < ty) = true := by simp; omega
  have t3 : decide (ty ≤ 65535) = false := by simp; omega
  clear a1 h
  go_enter Try.func17, Try.ntmps17
  go_wp2
  go_ret
  exact Ret.mk rfl ((Mod.refl _ _).alloc _)
set_option maxRecDepth 20000 in
theorem rRight_2 (ty : Int) (num : Int) (fl : Nat) (crc : Int) (data : List UInt8) (a1 : 1 ≤ ty) (a2 : ty ≤ 65535) (h : num < 1) (w : World) : Calls Try.prog 17 #[BV.v ⟨ty, num, fl, crc, data⟩] w (Ret (.int .i64 1) w) := by
  have t0 : decide (ty < 1) = false := by simp; omega
  have t1 : decide (1 ≤ ty) = true := by simp; omega
  have t2 : decide (65535 < ty) = false := by simp; omega
  have t3 : decide (ty ≤ 65535) = true := by simp; omega
  have t4 : decide (num < 1) = true := by simp; omega
  have t5 : decide (1 ≤ num) = false := by simp; omega
  clear a1 a2 h
  go_enter Try.func17, Try.ntmps17
  go_wp2
  go_ret
  exact Ret.mk rfl ((Mod.refl _ _).alloc _)
set_option maxRecDepth 20000 in
theorem rRight_3 (ty : Int) (num : Int) (fl : Nat) (crc : Int) (data : List UInt8) (a1 : 1 ≤ ty) (a2 : ty ≤ 65535) (a3 : 1 ≤ num) (h : 65535 < num) (w : World) : Calls Try.prog 17 #[BV.v ⟨ty, num, fl, crc, data⟩] w (Ret (.int .i64 1) w) := by
  have t0 : decide (ty < 1) = false := by simp; omega
  have t1 : decide (1 ≤ ty) = true := by simp; omega
  have t2 : decide (65535 < ty) = false := by simp; omega
  have t3 : decide (ty ≤ 65535) = true := by simp; omega
  have t4 : decide (num < 1) = false := by simp; omega
  have t5 : decide (1 ≤ num) = true := by simp; omega
  have t6 : decide (65535 < num) = true := by simp; omega
  have t7 : decide (num ≤ 65535) = false := by simp; omega
  clear a1 a2 a3 h
  go_enter Try.func17, Try.ntmps17
  go_wp2
  go_ret
  exact Ret.mk rfl ((Mod.refl _ _).alloc _)
set_option maxRecDepth 20000 in
theorem rRight_4 (ty : Int) (num : Int) (fl : Nat) (crc : Int) (data : List UInt8) (a1 : 1 ≤ ty) (a2 : ty ≤ 65535) (a3 : 1 ≤ num) (a4 : num ≤ 65535) (h : 255 < fl) (w : World) : Calls Try.prog 17 #[BV.v ⟨ty, num, fl, crc, data⟩] w (Ret (.int .i64 1) w) := by
  have t0 : decide (ty < 1) = false := by simp; omega
  have t1 : decide (1 ≤ ty) = true := by simp; omega
  have t2 : decide (65535 < ty) = false := by simp; omega
  have t3 : decide (ty ≤ 65535) = true := by simp; omega
  have t4 : decide (num < 1) = false := by simp; omega
  have t5 : decide (1 ≤ num) = true := by simp; omega
  have t6 : decide (65535 < num) = false := by simp; omega
  have t7 : decide (num ≤ 65535) = true := by simp; omega
  have t8 : decide (255 < (fl : Int)) = true := by simp; omega
  have t9 : decide ((fl : Int) ≤ 255) = false := by simp; omega
  clear a1 a2 a3 a4 h
  go_enter Try.func17, Try.ntmps17
  go_wp2
  go_ret
  exact Ret.mk rfl ((Mod.refl _ _).alloc _)
set_option maxRecDepth 20000 in
theorem rRight_5 (ty : Int) (num : Int) (fl : Nat) (crc : Int) (data : List UInt8) (a1 : 1 ≤ ty) (a2 : ty ≤ 65535) (a3 : 1 ≤ num) (a4 : num ≤ 65535) (a5 : fl ≤ 255) (h : crc < 0) (w : World) : Calls Try.prog 17 #[BV.v ⟨ty, num, fl, crc, data⟩] w (Ret (.int .i64 1) w) := by
  have t0 : decide (ty < 1) = false := by simp; omega
  have t1 : decide (1 ≤ ty) = true := by simp; omega
  have t2 : decide (65535 < ty) = false := by simp; omega
  have t3 : decide (ty ≤ 65535) = true := by simp; omega
  have t4 : decide (num < 1) = false := by simp; omega
  have t5 : decide (1 ≤ num) = true := by simp; omega
  have t6 : decide (65535 < num) = false := by simp; omega
  have t7 : decide (num ≤ 65535) = true := by simp; omega
  have t8 : decide (255 < (fl : Int)) = false := by simp; omega
  have t9 : decide ((fl : Int) ≤ 255) = true := by simp; omega
  have t10 : decide (crc < 0) = true := by simp; omega
  have t11 : decide (0 ≤ crc) = false := by simp; omega
  clear a1 a2 a3 a4 a5 h
  go_enter Try.func17, Try.ntmps17
  go_wp2
  go_ret
  exact Ret.mk rfl ((Mod.refl _ _).alloc _)
set_option maxRecDepth 20000 in
theorem rRight_6 (ty : Int) (num : Int) (fl : Nat) (crc : Int) (data : List UInt8) (a1 : 1 ≤ ty) (a2 : ty ≤ 65535) (a3 : 1 ≤ num) (a4 : num ≤ 65535) (a5 : fl ≤ 255) (a6 : 0 ≤ crc) (h : 2 < crc) (w : World) : Calls Try.prog 17 #[BV.v ⟨ty, num, fl, crc, data⟩] w (Ret (.int .i64 1) w) := by
  have t0 : decide (ty < 1) = false := by simp; omega
  have t1 : decide (1 ≤ ty) = true := by simp; omega
  have t2 : decide (65535 < ty) = false := by simp; omega
  have t3 : decide (ty ≤ 65535) = true := by simp; omega
  have t4 : decide (num < 1) = false := by simp; omega
  have t5 : decide (1 ≤ num) = true := by simp; omega
  have t6 : decide (65535 < num) = false := by simp; omega
  have t7 : decide (num ≤ 65535) = true := by simp; omega
  have t8 : decide (255 < (fl : Int)) = false := by simp; omega
  have t9 : decide ((fl : Int) ≤ 255) = true := by simp; omega
  have t10 : decide (crc < 0) = false := by simp; omega
  have t11 : decide (0 ≤ crc) = true := by simp; omega
  have t12 : decide (2 < crc) = true := by simp; omega
  have t13 : decide (crc ≤ 2) = false := by simp; omega
  clear a1 a2 a3 a4 a5 a6 h
  go_enter Try.func17, Try.ntmps17
  go_wp2
  go_ret
  exact Ret.mk rfl ((Mod.refl _ _).alloc _)
set_option maxRecDepth 20000 in
theorem rRight_7 (ty : Int) (num : Int) (fl : Nat) (crc : Int) (data : List UInt8) (a1 : 1 ≤ ty) (a2 : ty ≤ 65535) (a3 : 1 ≤ num) (a4 : num ≤ 65535) (a5 : fl ≤ 255) (a6 : 0 ≤ crc) (a7 : crc ≤ 2) (h : 4000 < data.length) (w : World) : Calls Try.prog 17 #[BV.v ⟨ty, num, fl, crc, data⟩] w (Ret (.int .i64 4) w) := by
  have t0 : decide (ty < 1) = false := by simp; omega
  have t1 : decide (1 ≤ ty) = true := by simp; omega
  have t2 : decide (65535 < ty) = false := by simp; omega
  have t3 : decide (ty ≤ 65535) = true := by simp; omega
  have t4 : decide (num < 1) = false := by simp; omega
  have t5 : decide (1 ≤ num) = true := by simp; omega
  have t6 : decide (65535 < num) = false := by simp; omega
  have t7 : decide (num ≤ 65535) = true := by simp; omega
  have t8 : decide (255 < (fl : Int)) = false := by simp; omega
  have t9 : decide ((fl : Int) ≤ 255) = true := by simp; omega
  have t10 : decide (crc < 0) = false := by simp; omega
  have t11 : decide (0 ≤ crc) = true := by simp; omega
  have t12 : decide (2 < crc) = false := by simp; omega
  have t13 : decide (crc ≤ 2) = true := by simp; omega
  have t14 : decide (4000 < (data.length : Int)) = true := by simp; omega
  have t15 : decide ((data.length : Int) ≤ 4000) = false := by simp; omega
  clear a1 a2 a3 a4 a5 a6 a7 h
  go_enter Try.func17, Try.ntmps17
  go_wp2
  go_ret
  exact Ret.mk rfl ((Mod.refl _ _).alloc _)
set_option maxRecDepth 20000 in
theorem rRight_8 (num : Int) (fl : Nat) (crc : Int) (data : List UInt8) (a3 : 1 ≤ num) (a4 : num ≤ 65535) (a5 : fl ≤ 255) (a6 : 0 ≤ crc) (a7 : crc ≤ 2) (a8 : data.length ≤ 4000) (b2 : num ≠ 1) (w : World) : Calls Try.prog 17 #[BV.v ⟨1, num, fl, crc, data⟩] w (Ret (.int .i64 8) w) := by
  have t0 : decide (num < 1) = false := by simp; omega
  have t1 : decide (1 ≤ num) = true := by simp; omega
  have t2 : decide (65535 < num) = false := by simp; omega
  have t3 : decide (num ≤ 65535) = true := by simp; omega
  have t4 : decide (255 < (fl : Int)) = false := by simp; omega
  have t5 : decide ((fl : Int) ≤ 255) = true := by simp; omega
  have t6 : decide (crc < 0) = false := by simp; omega
  have t7 : decide (0 ≤ crc) = true := by simp; omega
  have t8 : decide (2 < crc) = false := by simp; omega
  have t9 : decide (crc ≤ 2) = true := by simp; omega
  have t10 : decide (4000 < (data.length : Int)) = false := by simp; omega
  have t11 : decide ((data.length : Int) ≤ 4000) = true := by simp; omega
  have e3 : (num = 1) = False := by simp [b2]
  have e4 : (num == 1) = false := by simp [b2]
  clear a3 a4 a5 a6 a7 a8 b2
  go_enter Try.func17, Try.ntmps17
  go_wp2
  go_ret
  exact Ret.mk rfl ((Mod.refl _ _).alloc _)
set_option maxRecDepth 20000 in
theorem rRight_9 (ty : Int) (fl : Nat) (crc : Int) (data : List UInt8) (a1 : 1 ≤ ty) (a2 : ty ≤ 65535) (a5 : fl ≤ 255) (a6 : 0 ≤ crc) (a7 : crc ≤ 2) (a8 : data.length ≤ 4000) (b1 : ty ≠ 1) (w : World) : Calls Try.prog 17 #[BV.v ⟨ty, 1, fl, crc, data⟩] w (Ret (.int .i64 8) w) := by
  have t0 : decide (ty < 1) = false := by simp; omega
  have t1 : decide (1 ≤ ty) = true := by simp; omega
  have t2 : decide (65535 < ty) = false := by simp; omega
  have t3 : decide (ty ≤ 65535) = true := by simp; omega
  have t4 : decide (255 < (fl : Int)) = false := by simp; omega
  have t5 : decide ((fl : Int) ≤ 255) = true := by simp; omega
  have t6 : decide (crc < 0) = false := by simp; omega
  have t7 : decide (0 ≤ crc) = true := by simp; omega
  have t8 : decide (2 < crc) = false := by simp; omega
  have t9 : decide (crc ≤ 2) = true := by simp; omega
  have t10 : decide (4000 < (data.length : Int)) = false := by simp; omega
  have t11 : decide ((data.length : Int) ≤ 4000) = true := by simp; omega
  have e1 : (ty = 1) = False := by simp [b1]
  have e2 : (ty == 1) = false := by simp [b1]
  clear a1 a2 a5 a6 a7 a8 b1
  go_enter Try.func17, Try.ntmps17
  go_wp2
  go_ret
  exact Ret.mk rfl ((Mod.refl _ _).alloc _)
set_option maxRecDepth 20000 in
theorem rRight_10  (fl : Nat) (crc : Int) (data : List UInt8) (a5 : fl ≤ 255) (a6 : 0 ≤ crc) (a7 : crc ≤ 2) (a8 : data.length ≤ 4000) (w : World) : Calls Try.prog 17 #[BV.v ⟨1, 1, fl, crc, data⟩] w (Ret (.int .i64 0) w) := by
  have t0 : decide (255 < (fl : Int)) = false := by simp; omega
  have t1 : decide ((fl : Int) ≤ 255) = true := by simp; omega
  have t2 : decide (crc < 0) = false := by simp; omega
  have t3 : decide (0 ≤ crc) = true := by simp; omega
  have t4 : decide (2 < crc) = false := by simp; omega
  have t5 : decide (crc ≤ 2) = true := by simp; omega
  have t6 : decide (4000 < (data.length : Int)) = false := by simp; omega
  have t7 : decide ((data.length : Int) ≤ 4000) = true := by simp; omega
  clear a5 a6 a7 a8
  go_enter Try.func17, Try.ntmps17
  go_wp2
  go_ret
  exact Ret.mk rfl ((Mod.refl _ _).alloc _)
set_option maxRecDepth 20000 in
theorem rRight_11 (ty : Int) (num : Int) (fl : Nat) (crc : Int) (data : List UInt8) (a1 : 1 ≤ ty) (a2 : ty ≤ 65535) (a3 : 1 ≤ num) (a4 : num ≤ 65535) (a5 : fl ≤ 255) (a6 : 0 ≤ crc) (a7 : crc ≤ 2) (a8 : data.length ≤ 4000) (b1 : ty ≠ 1) (b2 : num ≠ 1) (w : World) : Calls Try.prog 17 #[BV.v ⟨ty, num, fl, crc, data⟩] w (Ret (.int .i64 0) w) := by
  have t0 : decide (ty < 1) = false := by simp; omega
  have t1 : decide (1 ≤ ty) = true := by simp; omega
  have t2 : decide (65535 < ty) = false := by simp; omega
  have t3 : decide (ty ≤ 65535) = true := by simp; omega
  have t4 : decide (num < 1) = false := by simp; omega
  have t5 : decide (1 ≤ num) = true := by simp; omega
  have t6 : decide (65535 < num) = false := by simp; omega
  have t7 : decide (num ≤ 65535) = true := by simp; omega
  have t8 : decide (255 < (fl : Int)) = false := by simp; omega
  have t9 : decide ((fl : Int) ≤ 255) = true := by simp; omega
  have t10 : decide (crc < 0) = false := by simp; omega
  have t11 : decide (0 ≤ crc) = true := by simp; omega
  have t12 : decide (2 < crc) = false := by simp; omega
  have t13 : decide (crc ≤ 2) = true := by simp; omega
  have t14 : decide (4000 < (data.length : Int)) = false := by simp; omega
  have t15 : decide ((data.length : Int) ≤ 4000) = true := by simp; omega
  have e1 : (ty = 1) = False := by simp [b1]
  have e2 : (ty == 1) = false := by simp [b1]
  have e3 : (num = 1) = False := by simp [b2]
  have e4 : (num == 1) = false := by simp [b2]
  clear a1 a2 a3 a4 a5 a6 a7 a8 b1 b2
  go_enter Try.func17, Try.ntmps17
  go_wp2
  go_ret
  exact Ret.mk rfl ((Mod.refl _ _).alloc _)
theorem cbRight_any (b : BV) (w : World) : Calls Try.prog 35 #[b.v] w (Ret (.int .i64 b.right) w) := by
  obtain ⟨ty, num, fl, crc, data⟩ := b
  have go : ∀ (k : Int), Calls Try.prog 35 #[BV.v ⟨ty, num, fl, crc, data⟩] w (Ret (.int .i64 k) w) → BV.right ⟨ty, num, fl, crc, data⟩ = k → Calls Try.prog 35 #[BV.v ⟨ty, num, fl, crc, data⟩] w (Ret (.int .i64 (BV.right ⟨ty, num, fl, crc, data⟩)) w) := fun k h e => by rw [e]; exact h
  by_cases h0 : ty < 1
  · exact go _ (cRight_0 ty num fl crc data (by omega) w) (by unfold BV.right; simp only []; rw [if_pos (by omega)])
  by_cases h1 : 65535 < ty
  · exact go _ (cRight_1 ty num fl crc data (by omega) (by omega) w) (by unfold BV.right; simp only []; rw [if_pos (by omega)])
  by_cases h2 : num < 1
  · exact go _ (cRight_2 ty num fl crc data (by omega) (by omega) (by omega) w) (by unfold BV.right; simp only []; rw [if_pos (by omega)])
  by_cases h3 : 65535 < num
  · exact go _ (cRight_3 ty num fl crc data (by omega) (by omega) (by omega) (by omega) w) (by unfold BV.right; simp only []; rw [if_pos (by omega)])
  by_cases h4 : 255 < fl
  · exact go _ (cRight_4 ty num fl crc data (by omega) (by omega) (by omega) (by omega) (by omega) w) (by unfold BV.right; simp only []; rw [if_pos (by omega)])
  by_cases h5 : crc < 0
  · exact go _ (cRight_5 ty num fl crc data (by omega) (by omega) (by omega) (by omega) (by omega) (by omega) w) (by unfold BV.right; simp only []; rw [if_pos (by omega)])
  by_cases h6 : 2 < crc
  · exact go _ (cRight_6 ty num fl crc data (by omega) (by omega) (by omega) (by omega) (by omega) (by omega) (by omega) w) (by unfold BV.right; simp only []; rw [if_pos (by omega)])
  by_cases h7 : 4000 < data.length
  · exact go _ (cRight_7 ty num fl crc data (by omega) (by omega) (by omega) (by omega) (by omega) (by omega) (by omega) (by omega) w) (by unfold BV.right; simp only []; rw [if_neg (by omega), if_pos (by omega)])
  by_cases k1 : ty = 1
  · subst k1
    by_cases k2 : num = 1
    · subst k2
      exact go _ (cRight_10 fl crc data (by omega) (by omega) (by omega) (by omega) w) (by unfold BV.right; simp only []; rw [if_neg (by omega), if_neg (by omega), if_neg (by omega)])
    · exact go _ (cRight_8 num fl crc data (by omega) (by omega) (by omega) (by omega) (by omega) (by omega) k2 w) (by unfold BV.right; simp only []; rw [if_neg (by omega), if_neg (by omega), if_pos (by simp [k2])])
  · by_cases k2 : num = 1
    · subst k2
      exact go _ (cRight_9 ty fl crc data (by omega) (by omega) (by omega) (by omega) (by omega) (by omega) k1 w) (by unfold BV.right; simp only []; rw [if_neg (by omega), if_neg (by omega), if_pos (by simp [k1])])
    · exact go _ (cRight_11 ty num fl crc data (by omega) (by omega) (by omega) (by omega) (by omega) (by omega) (by omega) (by omega) k1 k2 w) (by unfold BV.right; simp only []; rw [if_neg (by omega), if_neg (by omega), if_neg (by omega)])
theorem rbRight_any (b : BV) (w : World) : Calls Try.prog 17 #[b.v] w (Ret (.int .i64 b.right) w) := by
  obtain ⟨ty, num, fl, crc, data⟩ := b
  have go : ∀ (k : Int), Calls Try.prog 17 #[BV.v ⟨ty, num, fl, crc, data⟩] w (Ret (.int .i64 k) w) → BV.right ⟨ty, num, fl, crc, data⟩ = k → Calls Try.prog 17 #[BV.v ⟨ty, num, fl, crc, data⟩] w (Ret (.int .i64 (BV.right ⟨ty, num, fl, crc, data⟩)) w) := fun k h e => by rw [e]; exact h
  by_cases h0 : ty < 1
  · exact go _ (rRight_0 ty num fl crc data (by omega) w) (by unfold BV.right; simp only []; rw [if_pos (by omega)])
  by_cases h1 : 65535 < ty
  · exact go _ (rRight_1 ty num fl crc data (by omega) (by omega) w) (by unfold BV.right; simp only []; rw [if_pos (by omega)])
  by_cases h2 : num < 1
  · exact go _ (rRight_2 ty num fl crc data (by omega) (by omega) (by omega) w) (by unfold BV.right; simp only []; rw [if_pos (by omega)])
  by_cases h3 : 65535 < num
  · exact go _ (rRight_3 ty num fl crc data (by omega) (by omega) (by omega) (by omega) w) (by unfold BV.right; simp only []; rw [if_pos (by omega)])
  by_cases h4 : 255 < fl
  · exact go _ (rRight_4 ty num fl crc data (by omega) (by omega) (by omega) (by omega) (by omega) w) (by unfold BV.right; simp only []; rw [if_pos (by omega)])
  by_cases h5 : crc < 0
  · exact go _ (rRight_5 ty num fl crc data (by omega) (by omega) (by omega) (by omega) (by omega) (by omega) w) (by unfold BV.right; simp only []; rw [if_pos (by omega)])
  by_cases h6 : 2 < crc
  · exact go _ (rRight_6 ty num fl crc data (by omega) (by omega) (by omega) (by omega) (by omega) (by omega) (by omega) w) (by unfold BV.right; simp only []; rw [if_pos (by omega)])
  by_cases h7 : 4000 < data.length
  · exact go _ (rRight_7 ty num fl crc data (by omega) (by omega) (by omega) (by omega) (by omega) (by omega) (by omega) (by omega) w) (by unfold BV.right; simp only []; rw [if_neg (by omega), if_pos (by omega)])
  by_cases k1 : ty = 1
  · subst k1
    by_cases k2 : num = 1
    · subst k2
      exact go _ (rRight_10 fl crc data (by omega) (by omega) (by omega) (by omega) w) (by unfold BV.right; simp only []; rw [if_neg (by omega), if_neg (by omega), if_neg (by omega)])
    · exact go _ (rRight_8 num fl crc data (by omega) (by omega) (by omega) (by omega) (by omega) (by omega) k2 w) (by unfold BV.right; simp only []; rw [if_neg (by omega), if_neg (by omega), if_pos (by simp [k2])])
  · by_cases k2 : num = 1
    · subst k2
      exact go _ (rRight_9 ty fl crc data (by omega) (by omega) (by omega) (by omega) (by omega) (by omega) k1 w) (by unfold BV.right; simp only []; rw [if_neg (by omega), if_neg (by omega), if_pos (by simp [k1])])
    · exact go _ (rRight_11 ty num fl crc data (by omega) (by omega) (by omega) (by omega) (by omega) (by omega) (by omega) (by omega) k1 k2 w) (by unfold BV.right; simp only []; rw [if_neg (by omega), if_neg (by omega), if_neg (by omega)])
end Go.Proofs.Ytkeabdfgacicaaa


namespace Go.Proofs.Ytkeabdfgacicaaa
open Go.RowKit
set_option linter.unusedVariables false
set_option linter.unusedSimpArgs false

set_option maxRecDepth 20000 in
set_option maxHeartbeats 800000 in
theorem cHeader_bad (b : BV) (hb : b.right ≠ 0) (w : World) : Calls Try.prog 58 #[b.v] w (Ret (.tuple #[str [], .int .i64 b.right]) w) := by
  have HB := hid (Blk.new w 32 b.c)
  have HE0 := hid ((Mod.refl [] w).alloc (.cells b.c 32))
  have k1 : Hid (∀ W, Calls Try.prog 35 #[b.v] W (Ret (.int .i64 b.right) W)) := fun W => cbRight_any b W
  generalize b.right = r at *
  have e1 : (r = 0) = False := by simp [hb]
  have e2 : (r == 0) = false := by simp [hb]
  go_enter Try.func58, Try.ntmps58
  go_wp2_with fail
  refine (k1.out _).mono ?_
  rintro e w1 ⟨rfl, hb1⟩
  have HE1 := hid (HE0.out.trans hb1)
  clear hb1
  go_wp2_with fail
  refine bodyPost_ret (v := .tuple #[str [], .int .i64 r]) ?_ rfl (Ret.mk rfl HE1.out)
  simp [results, Try.results58, go_sem]

set_option maxRecDepth 20000 in
set_option maxHeartbeats 800000 in
theorem cHeader_ok (ty num : Nat) (fl : Nat) (crc : Int) (data : List UInt8) (hb : BV.right ⟨ty, num, fl, crc, data⟩ = 0) (w : World) : Calls Try.prog 58 #[BV.v ⟨ty, num, fl, crc, data⟩] w (Ret (.tuple #[str (headL 0 ty ++ headL 0 num ++ headL 0 fl), .int .i64 0]) w) := by
  have h := BV.right_zero hb
  simp only [] at h
  have HB := hid (Blk.new w 32 (BV.c ⟨ty, num, fl, crc, data⟩))
  have HE0 := hid ((Mod.refl [] w).alloc (.cells (BV.c ⟨ty, num, fl, crc, data⟩) 32))
  have k1 : Hid (∀ W, Calls Try.prog 35 #[BV.v ⟨ty, num, fl, crc, data⟩] W (Ret (.int .i64 0) W)) := fun W => by have := cbRight_any ⟨ty, num, fl, crc, data⟩ W; rw [hb] at this; exact this
  have t1 : IntKind.u64.wrap (ty : Int) = (ty : Int) := IntWalk.u64_in _ (by omega)
  have t2 : IntKind.u64.wrap (num : Int) = (num : Int) := IntWalk.u64_in _ (by omega)
  have k2 : Hid (∀ W, Calls Try.prog 60 #[.int .i64 0, .int .u64 (ty : Int)] W (Ret (str (headL 0 ty)) W)) := fun W => by simpa using head_in 0 (ty : Int) (by omega) (by omega) (by omega) (by omega) W
  have k3 : Hid (∀ W, Calls Try.prog 60 #[.int .i64 0, .int .u64 (num : Int)] W (Ret (str (headL 0 num)) W)) := fun W => by simpa using head_in 0 (num : Int) (by omega) (by omega) (by omega) (by omega) W
  have k4 : Hid (∀ W, Calls Try.prog 60 #[.int .i64 0, .int .u64 (fl : Int)] W (Ret (str (headL 0 fl)) W)) := fun W => by simpa using head_in 0 (fl : Int) (by omega) (by omega) (by omega) (by omega) W
  clear h hb
  go_enter Try.func58, Try.ntmps58
  go_wp2_with fail
  refine (k1.out _).mono ?_
  rintro e w1 ⟨rfl, hb1⟩
  have HE1 := hid (HE0.out.trans hb1)
  have HC := hid (HB.out.ext hb1)
  clear hb1
  have HS : Hid (∀ W, Ext w1 W → W.cell? ⟨w.heap.size, 0, none⟩ = some (.int .i64 (ty : Int)) ∧ W.cell? ⟨w.heap.size, 1, none⟩ = some (.int .i64 (num : Int)) ∧ W.cell? ⟨w.heap.size, 2, none⟩ = some (.int .u64 (fl : Int))) := fun W hW => by
    have b1 := HC.out.ext hW
    exact ⟨b1.cell 0, b1.cell 1, b1.cell 2⟩
  go_upto_region 4 with fail
  refine wp_region_ext (by kernel_rfl) (by kernel_rfl) ?_
  repeat (first
    | refine q_skip (by rfl) ?_
    | (refine q_load (by rfl) _ _ rfl ⟨w.heap.size, 0, none⟩ rfl (fun W hW => (HS.out W hW).1) Try.underlying3 rfl ?_; (try simp only [Act.put, List.setIfInBounds_toArray, List.set_cons_zero, List.set_cons_succ]))
    | (refine q_load (by rfl) _ _ rfl ⟨w.heap.size, 1, none⟩ rfl (fun W hW => (HS.out W hW).2.1) Try.underlying3 rfl ?_; (try simp only [Act.put, List.setIfInBounds_toArray, List.set_cons_zero, List.set_cons_succ]))
    | (refine q_load (by rfl) _ _ rfl ⟨w.heap.size, 2, none⟩ rfl (fun W hW => (HS.out W hW).2.2) Try.underlying22 rfl ?_; (try simp only [Act.put, List.setIfInBounds_toArray, List.set_cons_zero, List.set_cons_succ]))
    | (refine q_cat (by rfl) _ _ _ _ rfl _ _ rfl rfl (by have g1 := headL_le 0 ty; have g2 := headL_le 0 num; have g3 := headL_le 0 fl; (try simp only [List.length_append]); omega) ?_; (try simp only [Act.put, List.setIfInBounds_toArray, List.set_cons_zero, List.set_cons_succ]))
    | (refine wpQuiet_step (fun K hK => ?_); go_simp; (try rw [t1]); (try rw [t2]); refine hK _ ?_; clear hK K)
    | (refine wpQuiet_step (fun K hK => ?_); go_simp; (try rw [t1]); (try rw [t2]); refine ⟨_, fun _ _ => (by with_reducible rfl), hK _ ?_⟩; clear hK K)
    | (refine wpQuiet_step (fun K hK => ?_); go_simp; apply Exists.intro; refine ⟨fun W hW => ?_, hK _ ?_⟩; (first | with_reducible exact Ret.ext (k2.out _) hW | with_reducible exact Ret.ext (k3.out _) hW | with_reducible exact Ret.ext (k4.out _) hW); clear hK K))
  refine wpQuiet_nil ?_
  intro w3 hw3
  go_wp2_with fail
  refine bodyPost_ret (v := .tuple #[str (headL 0 ty ++ headL 0 num ++ headL 0 fl), .int .i64 0]) ?_ rfl (Ret.mk rfl (HE1.out.trans hw3))
  simp [results, Try.results58, go_sem]
theorem bv_nat {b : BV} (h : b.right = 0) : ∃ ty num : Nat, b = ⟨ty, num, b.fl, b.crc, b.data⟩ := by
  obtain ⟨ty, num, fl, crc, data⟩ := b
  have h := BV.right_zero h
  simp only [] at h
  obtain ⟨ty, rfl⟩ := Int.eq_ofNat_of_zero_le (show 0 ≤ ty by omega)
  obtain ⟨num, rfl⟩ := Int.eq_ofNat_of_zero_le (show 0 ≤ num by omega)
  exact ⟨ty, num, rfl⟩
theorem hdr_call {b : BV} (h : b.right = 0) (w : World) : Calls Try.prog 58 #[b.v] w (Ret (.tuple #[str b.hdr, .int .i64 0]) w) := by
  obtain ⟨ty, num, e⟩ := bv_nat h
  rw [e] at h ⊢
  simpa [BV.hdr] using cHeader_ok ty num b.fl b.crc b.data h w
end Go.Proofs.Ytkeabdfgacicaaa


namespace Go.Proofs.Ytkeabdfgacicaaa
open Go.RowKit
set_option linter.unusedVariables false
set_option linter.unusedSimpArgs false

/-- Its item: five parts, or six. -/
def blkT (ty num fl crc : Nat) (data sum : List UInt8) : T := T.mk 4 0 [] false (if crc = 0 then 5 else 6) fun i => if i = 0 then numT ty else if i = 1 then numT num else if i = 2 then numT fl else if i = 3 then numT crc else if i = 4 then strT data else if i = 5 then strT sum else T.nil

/-- The cells of its first five parts. -/
abbrev blk5 (ty num fl crc : Nat) (data : List UInt8) : Array Value := #[.int .i64 0, .int .u64 (ty : Int), str [], .slice none 0 0, .bool false, .int .i64 0, .int .u64 (num : Int), str [], .slice none 0 0, .bool false, .int .i64 0, .int .u64 (fl : Int), str [], .slice none 0 0, .bool false, .int .i64 0, .int .u64 (crc : Int), str [], .slice none 0 0, .bool false, .int .i64 2, .int .u64 0, str data, .slice none 0 0, .bool false]

theorem blk5_IsL {W : World} {Q : Nat → Prop} {g : Nat} {ty num fl : Nat} {data sum : List UInt8} (q : Q g) (h : Blk W g 48 (blk5 ty num fl 0 data)) : IsL W Q (blkT ty num fl 0 data sum) (some ⟨g, 0, none⟩) := fun _ => ⟨g, 0, rfl, h.lt, q, fun j hj => by
  have hj2 : j = 0 ∨ j = 1 ∨ j = 2 ∨ j = 3 ∨ j = 4 := by simp at hj; omega
  rcases hj2 with rfl | rfl | rfl | rfl | rfl
  · exact ⟨none, 0, ⟨h.cell 0, h.cell 1, h.cell 2, h.cell 3, h.cell 4⟩, fun h => absurd h (by decide)⟩
  · exact ⟨none, 0, ⟨h.cell 5, h.cell 6, h.cell 7, h.cell 8, h.cell 9⟩, fun h => absurd h (by decide)⟩
  · exact ⟨none, 0, ⟨h.cell 10, h.cell 11, h.cell 12, h.cell 13, h.cell 14⟩, fun h => absurd h (by decide)⟩
  · exact ⟨none, 0, ⟨h.cell 15, h.cell 16, h.cell 17, h.cell 18, h.cell 19⟩, fun h => absurd h (by decide)⟩
  · exact ⟨none, 0, ⟨h.cell 20, h.cell 21, h.cell 22, h.cell 23, h.cell 24⟩, fun h => absurd h (by decide)⟩⟩
theorem blk6_IsL {W : World} {Q : Nat → Prop} {base g c : Nat} {ty num fl crc : Nat} {data sum : List UInt8} (hc : ¬ crc = 0) (q : Q g) (hlt : g < W.heap.size) (h : W.ownsRow base 48 5 (.slice (some ⟨g, 0, none⟩) (5 + 1) c) (5 + 1) ((blk5 ty num fl crc data).toList ++ [Value.int .i64 (strT sum).kind, .int .u64 ((strT sum).n : Int), str (strT sum).s, .slice none (strT sum).k 0, .bool (strT sum).op])) : IsL W Q (blkT ty num fl crc data sum) (some ⟨g, 0, none⟩) := by
  unfold blkT
  rw [if_neg hc]
  refine fun _ => ⟨g, 0, rfl, hlt, q, fun j hj => ?_⟩
  have hj2 : j = 0 ∨ j = 1 ∨ j = 2 ∨ j = 3 ∨ j = 4 ∨ j = 5 := by omega
  rcases hj2 with rfl | rfl | rfl | rfl | rfl | rfl
  · exact ⟨none, 0, ⟨own_cells (j := 0) h rfl, own_cells (j := 1) h rfl, own_cells (j := 2) h rfl, own_cells (j := 3) h rfl, own_cells (j := 4) h rfl⟩, fun h => absurd h (by decide)⟩
  · exact ⟨none, 0, ⟨own_cells (j := 5) h rfl, own_cells (j := 6) h rfl, own_cells (j := 7) h rfl, own_cells (j := 8) h rfl, own_cells (j := 9) h rfl⟩, fun h => absurd h (by decide)⟩
  · exact ⟨none, 0, ⟨own_cells (j := 10) h rfl, own_cells (j := 11) h rfl, own_cells (j := 12) h rfl, own_cells (j := 13) h rfl, own_cells (j := 14) h rfl⟩, fun h => absurd h (by decide)⟩
  · exact ⟨none, 0, ⟨own_cells (j := 15) h rfl, own_cells (j := 16) h rfl, own_cells (j := 17) h rfl, own_cells (j := 18) h rfl, own_cells (j := 19) h rfl⟩, fun h => absurd h (by decide)⟩
  · exact ⟨none, 0, ⟨own_cells (j := 20) h rfl, own_cells (j := 21) h rfl, own_cells (j := 22) h rfl, own_cells (j := 23) h rfl, own_cells (j := 24) h rfl⟩, fun h => absurd h (by decide)⟩
  · exact ⟨none, 0, ⟨own_cells (j := 25) h rfl, own_cells (j := 26) h rfl, own_cells (j := 27) h rfl, own_cells (j := 28) h rfl, own_cells (j := 29) h rfl⟩, fun h => absurd h (by decide)⟩
set_option maxRecDepth 20000 in
set_option maxHeartbeats 800000 in
theorem with_any (ty num fl crc : Nat) (data sum : List UInt8) (h1 : ty ≤ 65535) (h2 : num ≤ 65535) (h3 : crc ≤ 2) (w : World) : Calls Try.prog 37 #[BV.v ⟨ty, num, fl, crc, data⟩, str sum] w (fun e w' => ∃ A c, e = .returned (itemV (blkT ty num fl crc data sum) A c) ∧ Ext w w' ∧ IsL w' (fun b => w.heap.size ≤ b) (blkT ty num fl crc data sum) A) := by
  have HB := hid ((Blk.new w 32 (BV.c ⟨ty, num, fl, crc, data⟩)).alloc (.cells #[.int .i64 0, .int .u64 0, .string ⟨#[]⟩, .slice none 0 0, .bool false] 48))
  have HR : Hid (Blk ((w.alloc (.cells (BV.c ⟨ty, num, fl, crc, data⟩) 32)).alloc (.cells #[.int .i64 0, .int .u64 0, .string ⟨#[]⟩, .slice none 0 0, .bool false] 48)) (w.heap.size + 1) 48 #[.int .i64 0, .int .u64 0, .string ⟨#[]⟩, .slice none 0 0, .bool false]) := by
    have := Blk.new (w.alloc (.cells (BV.c ⟨ty, num, fl, crc, data⟩) 32)) 48 #[.int .i64 0, .int .u64 0, .string ⟨#[]⟩, .slice none 0 0, .bool false]
    unfold Hid
    simpa using this
  have HE := hid (((Mod.refl [] w).alloc (.cells (BV.c ⟨ty, num, fl, crc, data⟩) 32)).alloc (.cells #[.int .i64 0, .int .u64 0, .string ⟨#[]⟩, .slice none 0 0, .bool false] 48))
  have t1 : IntKind.u64.wrap (ty : Int) = (ty : Int) := IntWalk.u64_in _ (by omega)
  have t2 : IntKind.u64.wrap (num : Int) = (num : Int) := IntWalk.u64_in _ (by omega)
  have t3 : IntKind.u64.wrap (crc : Int) = (crc : Int) := IntWalk.u64_in _ (by omega)
  go_enter Try.func37, Try.ntmps37
  go_upto_region 1 with fail
  generalize ((w.alloc (.cells (BV.c ⟨ty, num, fl, crc, data⟩) 32)).alloc (.cells #[.int .i64 0, .int .u64 0, .string ⟨#[]⟩, .slice none 0 0, .bool false] 48)) = V at *
  have HS : Hid (∀ w', Ext V w' → w'.cell? ⟨w.heap.size, 0, none⟩ = some (.int .i64 (ty : Int)) ∧ w'.cell? ⟨w.heap.size, 1, none⟩ = some (.int .i64 (num : Int)) ∧ w'.cell? ⟨w.heap.size, 2, none⟩ = some (.int .u64 (fl : Int)) ∧ w'.cell? ⟨w.heap.size, 3, none⟩ = some (.int .i64 (crc : Int)) ∧ w'.cell? ⟨w.heap.size, 4, none⟩ = some (str data)) := fun W hW => by
    have b1 := HB.out.ext hW
    exact ⟨b1.cell 0, b1.cell 1, b1.cell 2, b1.cell 3, b1.cell 4⟩
  obtain ⟨p0, p1, p2, p3, p4⟩ := HS.out V (Mod.refl _ _)
  go_cut [5] (fun s3 wx => ∃ g3, s3 = .slice (some ⟨g3, 0, none⟩) 5 5 ∧ Hid (Ext V wx ∧ Blk wx g3 48 (blk5 ty num fl crc data) ∧ w.heap.size + 2 ≤ g3))
  case first =>
    go_region_held3 (fun w' => w'.cell? ⟨w.heap.size, 0, none⟩ = some (.int .i64 (ty : Int)) ∧ w'.cell? ⟨w.heap.size, 1, none⟩ = some (.int .i64 (num : Int)) ∧ w'.cell? ⟨w.heap.size, 2, none⟩ = some (.int .u64 (fl : Int)) ∧ w'.cell? ⟨w.heap.size, 3, none⟩ = some (.int .i64 (crc : Int)) ∧ w'.cell? ⟨w.heap.size, 4, none⟩ = some (str data)) (go_keep)
        (first
          | (go_at_call 66; (try rw [t1]); (try rw [t2]); (try rw [t3]); refine (NumI_any _ _).mono ?_; rintro x w3 ⟨rfl, hb3⟩; have hx : Ext V w3 := (by (with_reducible refine Mod.trans ?_ hb3); (repeat (first | with_reducible assumption | with_reducible exact Mod.refl _ _ | with_reducible refine Mod.drew ?_ | with_reducible refine Mod.alloc ?_ _))); have z := HS.out w3 hx)
          | (go_at_call 50; refine (StrV_any _ _).mono ?_; rintro x w3 ⟨rfl, hb3⟩; have hx : Ext V w3 := (by (with_reducible refine Mod.trans ?_ hb3); (repeat (first | with_reducible assumption | with_reducible exact Mod.refl _ _ | with_reducible refine Mod.drew ?_ | with_reducible refine Mod.alloc ?_ _))); have z := HS.out w3 hx))
    all_goals go_wp2_with fail
    all_goals go_meet
    all_goals exact ⟨_, rfl, Mod.alloc hx _, Blk.new _ _ _, Nat.le_trans (Nat.succ_le_of_lt HR.out.lt) (Mod.size (S := []) (w := V) (by assumption))⟩
  obtain ⟨g3, rfl, hG⟩ := hcut
  have HE1 := hid (HE.out.trans hG.out.1)
  have HB1 := hid (HB.out.ext hG.out.1)
  have HR1 := hid (HR.out.ext hG.out.1)
  have q3 : wc.cell? ⟨w.heap.size, 3, none⟩ = some (.int .i64 (crc : Int)) := HB1.out.cell 3
  clear p0 p1 p2 p3 p4 HS t1 t2 t3 HE HB HR
  by_cases hc : crc = 0
  · subst hc
    go_wp2_with fail
    refine (ListV_any 5 _ 5 _).mono ?_
    rintro e w8 ⟨rfl, hb8⟩
    have HE8 := hid (HE1.out.trans hb8)
    have HR8 : Hid (Blk w8 (w.heap.size + 1) 48 (itemC (T.mk 0 0 [] false 0 fun _ => T.nil) none 0)) := hid (HR1.out.ext hb8)
    have HG8 := hid (hG.out.2.1.ext hb8)
    obtain ⟨c0, c1, c2, c3, c4⟩ := cells5 HR8.out
    have f0 := Blk.frozen HR8.out 0
    have f1 := Blk.frozen HR8.out 1
    have f2 := Blk.frozen HR8.out 2
    have f3 := Blk.frozen HR8.out 3
    have f4 := Blk.frozen HR8.out 4
    clear hb8 q3
    go_wp2_with fail
    obtain ⟨d0, d1, d2, d3, d4⟩ := cells5 (set5_blk (t := blkT ty num fl 0 data sum) (A := some ⟨g3, 0, none⟩) (c := 5) HR8.out)
    clear c0 c1 c2 c3 c4 f0 f1 f2 f3 f4
    show bodyPost _ _ _ _ _ (set5 w8 (w.heap.size + 1) (blkT ty num fl 0 data sum) (some ⟨g3, 0, none⟩) 5)
    refine bodyPost_ret (v := itemV (blkT ty num fl 0 data sum) (some ⟨g3, 0, none⟩) 5) (by simp [results, Try.results37, go_sem, d0, d1, d2, d3, d4]) rfl ?_
    refine ⟨_, 5, rfl, set5_mod HE8.out (by omega), IsL.weak (fun _ _ h => by have : w.heap.size + 2 ≤ _ := h; omega) _ (IsL.mod (Q := fun b => w.heap.size + 2 ≤ b) set5_modb (fun k hq hk hm => by rw [List.mem_singleton] at hm; have : w.heap.size + 2 ≤ k := hq; omega) _ (blk5_IsL hG.out.2.2 HG8.out))⟩
  · have hc2 : ((crc : Int) = 0) = False := by simp [hc]
    have hc3 : ((crc : Int) == 0) = false := by simp [hc]
    obtain ⟨i0, hi, hz0, hz1, hz2⟩ := info_parts infoItem
    go_wp2_with fail
    refine (StrV_any sum _).mono ?_
    rintro e w8 ⟨rfl, hb8⟩
    have HE8 := hid (HE1.out.trans hb8)
    have HR8 := hid (HR1.out.ext hb8)
    have hown8 := own_of_blk (base := w.heap.size + 2) (n := 5) (size := 5) (hG.out.2.1.ext hb8) hG.out.2.2 (by decide) rfl
    clear hb8 q3
    go_wp2_with (at_builtin; refine wpList_append_own _ rfl _ _ 46 rfl (w.heap.size + 2) 48 i0 _ 5 64 Try.underlying46 hi hz0 hz1 hz2 rfl (by decide) _ _ _ rfl (hown8.alloc _) ⟨w8.heap.size, 0, none⟩ 1 1 [Value.int .i64 (strT sum).kind, .int .u64 ((strT sum).n : Int), str (strT sum).s, .slice none (strT sum).k 0, .bool (strT sum).op] rfl rfl (news5 w8 (strT sum) none 0) (one5 (strT sum) none 0) (by decide) (by decide) (by have := HR8.out.lt; simp; omega) ?_; intro v' w9 hown' hgrow _)
    obtain ⟨g4, k4, rfl, hg4, hlt4⟩ := own_form hown'
    have HE9 := hid ((HE8.out.alloc _).grown hgrow (fun k hk => by obtain rfl : g3 = k := Option.some.inj hk; right; have := hG.out.2.2; omega))
    have HR9 := hid ((HR8.out.alloc _).mod (Mod.grown (S := [g3]) (Mod.refl _ _) hgrow (fun k hk => by obtain rfl : g3 = k := Option.some.inj hk; left; simp)) (by have := hG.out.2.2; simp; omega))
    have HL9 := hid (blk6_IsL (sum := sum) (Q := fun b => w.heap.size + 2 ≤ b) hc (show w.heap.size + 2 ≤ g4 by omega) hlt4 hown')
    clear hown8 hown' hgrow hlt4 hz0 hz1 hz2 hi
    go_wp2_with fail
    refine (ListV_any 6 _ k4 _).mono ?_
    rintro e wA ⟨rfl, hbA⟩
    have HEA := hid (HE9.out.trans hbA)
    have HRA : Hid (Blk wA (w.heap.size + 1) 48 (itemC (T.mk 0 0 [] false 0 fun _ => T.nil) none 0)) := hid (HR9.out.ext hbA)
    have HLA := hid (HL9.out.ext hbA)
    obtain ⟨c0, c1, c2, c3, c4⟩ := cells5 HRA.out
    have f0 := Blk.frozen HRA.out 0
    have f1 := Blk.frozen HRA.out 1
    have f2 := Blk.frozen HRA.out 2
    have f3 := Blk.frozen HRA.out 3
    have f4 := Blk.frozen HRA.out 4
    clear hbA
    go_wp2_with fail
    obtain ⟨d0, d1, d2, d3, d4⟩ := cells5 (set5_blk (t := T.mk 4 0 [] false 6 fun _ => T.nil) (A := some ⟨g4, 0, none⟩) (c := k4) HRA.out)
    clear c0 c1 c2 c3 c4 f0 f1 f2 f3 f4
    show bodyPost _ _ _ _ _ (set5 wA (w.heap.size + 1) (T.mk 4 0 [] false 6 fun _ => T.nil) (some ⟨g4, 0, none⟩) k4)
    refine bodyPost_ret (v := itemV (T.mk 4 0 [] false 6 fun _ => T.nil) (some ⟨g4, 0, none⟩) k4) (by simp [results, Try.results37, go_sem, d0, d1, d2, d3, d4]) rfl ?_
    refine ⟨some ⟨g4, 0, none⟩, k4, ?_, set5_mod HEA.out (by omega), IsL.weak (fun _ _ h => by have : w.heap.size + 2 ≤ _ := h; omega) _ (IsL.mod (Q := fun b => w.heap.size + 2 ≤ b) set5_modb (fun k hq hk hm => by rw [List.mem_singleton] at hm; have : w.heap.size + 2 ≤ k := hq; omega) _ HLA.out)⟩
    simp only [blkT, if_neg hc]
    rfl
end Go.Proofs.Ytkeabdfgacicaaa


namespace Go.Proofs.Ytkeabdfgacicaaa
open Go.RowKit
set_option linter.unusedVariables false
set_option linter.unusedSimpArgs false

theorem blkT_ok {ty num fl crc : Nat} {data sum : List UInt8} (h1 : ty ≤ 65535) (h2 : num ≤ 65535) (h3 : fl ≤ 255) (h4 : crc ≤ 2) (h5 : data.length ≤ 4000) (h6 : sum.length ≤ 4000) : (blkT ty num fl crc data sum).ok := by
  unfold blkT T.ok
  refine ⟨by omega, by omega, by simp, by split <;> omega, fun i hi => ?_⟩
  dsimp only
  split
  · exact num_ok (by omega)
  · split
    · exact num_ok (by omega)
    · split
      · exact num_ok (by omega)
      · split
        · exact num_ok (by omega)
        · split
          · exact str_ok (by omega)
          · split
            · exact str_ok (by omega)
            · have : i < 6 := by split at hi <;> omega
              omega

set_option maxRecDepth 20000 in
theorem summed_0 (t : T) (A : Option Addr) (c : Nat) (w : World) : Calls Try.prog 36 #[.int .i64 0, itemV t A c] w (Ret (itemV t A c) w) := by
  have HB := hid (Blk.new w 48 (itemC t A c))
  go_enter Try.func36, Try.ntmps36
  go_wp2_with fail
  refine bodyPost_ret (v := itemV t A c) (by simp [results, Try.results36, go_sem]) rfl (Ret.mk rfl (((Mod.refl _ _).alloc _).alloc _))

set_option maxRecDepth 20000 in
set_option maxHeartbeats 800000 in
theorem Item_bad (b : BV) (hb : b.right ≠ 0) (w : World) : Calls Try.prog 18 #[b.v] w (Ret (.tuple #[itemV (numT 0) none 0, .int .i64 b.right]) w) := by
  have HB := hid (Blk.new w 32 b.c)
  have HE0 := hid (((Mod.refl [] w).alloc (.cells b.c 32)).alloc (.cells #[.int .i64 0, .int .u64 0, .string ⟨#[]⟩, .slice none 0 0, .bool false] 48))
  have HR : Hid (Blk ((w.alloc (.cells b.c 32)).alloc (.cells #[.int .i64 0, .int .u64 0, .string ⟨#[]⟩, .slice none 0 0, .bool false] 48)) (w.heap.size + 1) 48 (itemC (numT 0) none 0)) := by
    have := Blk.new (w.alloc (.cells b.c 32)) 48 (itemC (numT 0) none 0)
    unfold Hid
    simpa [itemC, numT, T.kind, T.n, T.s, T.k, T.op] using this
  have k1 : Hid (∀ W, Calls Try.prog 35 #[b.v] W (Ret (.int .i64 b.right) W)) := fun W => cbRight_any b W
  generalize b.right = r at *
  have e1 : (r = 0) = False := by simp [hb]
  have e2 : (r == 0) = false := by simp [hb]
  go_enter Try.func18, Try.ntmps18
  go_wp2_with fail
  refine (k1.out _).mono ?_
  rintro e w1 ⟨rfl, hb1⟩
  have HE1 := hid (HE0.out.trans hb1)
  have HR1 := hid (HR.out.ext hb1)
  obtain ⟨c0, c1, c2, c3, c4⟩ := cells5 HR1.out
  have f0 := Blk.frozen HR1.out 0
  have f1 := Blk.frozen HR1.out 1
  have f2 := Blk.frozen HR1.out 2
  have f3 := Blk.frozen HR1.out 3
  have f4 := Blk.frozen HR1.out 4
  clear hb1
  go_wp2_with fail
  obtain ⟨d0, d1, d2, d3, d4⟩ := cells5 (set5_blk (t := numT 0) (A := none) (c := 0) HR1.out)
  clear c0 c1 c2 c3 c4 f0 f1 f2 f3 f4
  show bodyPost _ _ _ _ _ (set5 w1 (w.heap.size + 1) (numT 0) none 0)
  refine bodyPost_ret (v := .tuple #[itemV (numT 0) none 0, .int .i64 r]) (by simp [results, Try.results18, go_sem, d0, d1, d2, d3, d4]) rfl ?_
  exact Ret.mk rfl (set5_mod HE1.out (by omega))
set_option maxRecDepth 20000 in
set_option maxHeartbeats 800000 in
theorem Item_ok (ty num fl crc : Nat) (data : List UInt8) (hb : BV.right ⟨ty, num, fl, crc, data⟩ = 0) (t : T) (KS : Hid (∀ N A c W, N ≤ W.heap.size → IsL W (fun b => N ≤ b) (blkT ty num fl crc data []) A → Calls Try.prog 36 #[.int .i64 (crc : Int), itemV (blkT ty num fl crc data []) A c] W (fun e w' => ∃ A c, e = .returned (itemV t A c) ∧ Ext W w' ∧ IsL w' (fun b => N ≤ b) t A))) (w : World) : Calls Try.prog 18 #[BV.v ⟨ty, num, fl, crc, data⟩] w (fun e w' => ∃ A c, e = .returned (.tuple #[itemV t A c, .int .i64 0]) ∧ Ext w w' ∧ IsL w' (fun b => w.heap.size ≤ b) t A) := by
  have h := BV.right_zero hb
  simp only [] at h
  have HB := hid ((Blk.new w 32 (BV.c ⟨ty, num, fl, crc, data⟩)).alloc (.cells #[.int .i64 0, .int .u64 0, .string ⟨#[]⟩, .slice none 0 0, .bool false] 48))
  have HE0 := hid (((Mod.refl [] w).alloc (.cells (BV.c ⟨ty, num, fl, crc, data⟩) 32)).alloc (.cells #[.int .i64 0, .int .u64 0, .string ⟨#[]⟩, .slice none 0 0, .bool false] 48))
  have HR : Hid (Blk ((w.alloc (.cells (BV.c ⟨ty, num, fl, crc, data⟩) 32)).alloc (.cells #[.int .i64 0, .int .u64 0, .string ⟨#[]⟩, .slice none 0 0, .bool false] 48)) (w.heap.size + 1) 48 (itemC (numT 0) none 0)) := by
    have := Blk.new (w.alloc (.cells (BV.c ⟨ty, num, fl, crc, data⟩) 32)) 48 (itemC (numT 0) none 0)
    unfold Hid
    simpa [itemC, numT, T.kind, T.n, T.s, T.k, T.op] using this
  have k1 : Hid (∀ W, Calls Try.prog 35 #[BV.v ⟨ty, num, fl, crc, data⟩] W (Ret (.int .i64 0) W)) := fun W => by have := cbRight_any ⟨ty, num, fl, crc, data⟩ W; rw [hb] at this; exact this
  go_enter Try.func18, Try.ntmps18
  go_wp2_with fail
  refine (k1.out _).mono ?_
  rintro e w1 ⟨rfl, hb1⟩
  have HE1 := hid (HE0.out.trans hb1)
  have HR1 := hid (HR.out.ext hb1)
  have HC := hid (HB.out.ext hb1)
  obtain ⟨c0, c1, c2, c3, c4⟩ : w1.cell? ⟨w.heap.size, 0, none⟩ = some (.int .i64 (ty : Int)) ∧ w1.cell? ⟨w.heap.size, 1, none⟩ = some (.int .i64 (num : Int)) ∧ w1.cell? ⟨w.heap.size, 2, none⟩ = some (.int .u64 (fl : Int)) ∧ w1.cell? ⟨w.heap.size, 3, none⟩ = some (.int .i64 (crc : Int)) ∧ w1.cell? ⟨w.heap.size, 4, none⟩ = some (str data) := ⟨HC.out.cell 0, HC.out.cell 1, HC.out.cell 2, HC.out.cell 3, HC.out.cell 4⟩
  clear hb1
  have HN : Hid (w.heap.size + 2 ≤ w1.heap.size) := Nat.succ_le_of_lt HR1.out.lt
  go_upto_region 4 with fail
  have HS : Hid (∀ w', Ext w1 w' → w'.cell? ⟨w.heap.size, 0, none⟩ = some (.int .i64 (ty : Int)) ∧ w'.cell? ⟨w.heap.size, 1, none⟩ = some (.int .i64 (num : Int)) ∧ w'.cell? ⟨w.heap.size, 2, none⟩ = some (.int .u64 (fl : Int)) ∧ w'.cell? ⟨w.heap.size, 3, none⟩ = some (.int .i64 (crc : Int)) ∧ w'.cell? ⟨w.heap.size, 4, none⟩ = some (str data)) := fun W hW => by
    have b1 := HC.out.ext hW
    exact ⟨b1.cell 0, b1.cell 1, b1.cell 2, b1.cell 3, b1.cell 4⟩
  obtain ⟨g0, g1, g2, g3, g4⟩ := cells5 HR1.out
  have f0 := Blk.frozen HR1.out 0
  have f1 := Blk.frozen HR1.out 1
  have f2 := Blk.frozen HR1.out 2
  have f3 := Blk.frozen HR1.out 3
  have f4 := Blk.frozen HR1.out 4
  go_region_held3 (fun w' => w'.cell? ⟨w.heap.size, 0, none⟩ = some (.int .i64 (ty : Int)) ∧ w'.cell? ⟨w.heap.size, 1, none⟩ = some (.int .i64 (num : Int)) ∧ w'.cell? ⟨w.heap.size, 2, none⟩ = some (.int .u64 (fl : Int)) ∧ w'.cell? ⟨w.heap.size, 3, none⟩ = some (.int .i64 (crc : Int)) ∧ w'.cell? ⟨w.heap.size, 4, none⟩ = some (str data)) (go_keep)
      (first
        | (go_at_call 37; refine (with_any ty num fl crc data [] (by omega) (by omega) (by omega) _).mono ?_; rintro x w3 ⟨A, c, rfl, hb3, hl3⟩; have hl3 := IsL.weak (R := fun b => w.heap.size + 2 ≤ b) (fun k _ hq => Nat.le_trans (Nat.le_trans HN.out (Mod.size (S := []) (by first | with_reducible exact Mod.refl _ _ | with_reducible exact (Mod.refl _ _).drew))) hq) _ hl3; have hx : Ext w1 w3 := (by (with_reducible refine Mod.trans ?_ hb3); (repeat (first | with_reducible assumption | with_reducible exact Mod.refl _ _ | with_reducible refine Mod.drew ?_ | with_reducible refine Mod.alloc ?_ _))); have z := HS.out w3 hx)
        | (go_at_call 36; refine (KS.out (w.heap.size + 2) _ _ _ (Nat.le_trans HN.out (Mod.size hx)) hl3).mono ?_; rintro x w4 ⟨A2, c2, rfl, hb4, hl4⟩; have hx : Ext w1 w4 := (by (with_reducible refine Mod.trans ?_ hb4); (repeat (first | with_reducible assumption | with_reducible exact Mod.refl _ _ | with_reducible refine Mod.drew ?_ | with_reducible refine Mod.alloc ?_ _))); have z := HS.out w4 hx; have HR4 := hid (HR1.out.ext hx); obtain ⟨g0, g1, g2, g3, g4⟩ := cells5 HR4.out; have f0 := Blk.frozen HR4.out 0; have f1 := Blk.frozen HR4.out 1; have f2 := Blk.frozen HR4.out 2; have f3 := Blk.frozen HR4.out 3; have f4 := Blk.frozen HR4.out 4))
  all_goals go_wp2_with fail
  all_goals obtain ⟨d0, d1, d2, d3, d4⟩ := cells5 (set5_blk (t := t) (A := A2) (c := c2) HR4.out)
  all_goals clear g0 g1 g2 g3 g4 f0 f1 f2 f3 f4
  all_goals show bodyPost _ _ _ _ _ (set5 w4 (w.heap.size + 1) t A2 c2)
  all_goals refine bodyPost_ret (v := .tuple #[itemV t A2 c2, .int .i64 0]) (by simp [results, Try.results18, go_sem, d0, d1, d2, d3, d4]) rfl ?_
  all_goals exact ⟨A2, c2, rfl, set5_mod (HE1.out.trans hx) (by omega), IsL.weak (fun _ _ h => by have : w.heap.size + 2 ≤ _ := h; omega) _ (IsL.mod (Q := fun b => w.heap.size + 2 ≤ b) set5_modb (fun k hq hk hm => by rw [List.mem_singleton] at hm; have : w.heap.size + 2 ≤ k := hq; omega) _ hl4)⟩
end Go.Proofs.Ytkeabdfgacicaaa


namespace Go.Proofs.Ytkeabdfgacicaaa
open Go.RowKit
set_option linter.unusedVariables false
set_option linter.unusedSimpArgs false

set_option maxRecDepth 20000 in
set_option maxHeartbeats 800000 in
theorem Build_bad (b : BV) (hb : b.right ≠ 0) (w : World) : Calls Try.prog 20 #[b.v] w (Ret (.tuple #[str [], .int .i64 b.right]) w) := by
  have HE0 := hid ((Mod.refl [] w).alloc (.cells b.c 32))
  have k1 : Hid (∀ W, Calls Try.prog 18 #[b.v] W (Ret (.tuple #[itemV (numT 0) none 0, .int .i64 b.right]) W)) := fun W => Item_bad b hb W
  generalize b.right = r at *
  have e1 : (r = 0) = False := by simp [hb]
  have e2 : (r == 0) = false := by simp [hb]
  go_enter Try.func20, Try.ntmps20
  go_wp2_with fail
  refine (k1.out _).mono ?_
  rintro e w1 ⟨rfl, hb1⟩
  have HE1 := hid (HE0.out.trans hb1)
  clear hb1
  go_wp2_with fail
  refine bodyPost_ret (v := .tuple #[str [], .int .i64 r]) (by simp [results, Try.results20, go_sem]) rfl (Ret.mk rfl (HE1.out.alloc _))
set_option maxRecDepth 20000 in
set_option maxHeartbeats 800000 in
theorem Build_ok (ty num fl crc : Nat) (data : List UInt8) (hb : BV.right ⟨ty, num, fl, crc, data⟩ = 0) (t : T) (hok : t.ok) (hsz : t.size ≤ 100000) (KS : Hid (∀ N A c W, N ≤ W.heap.size → IsL W (fun b => N ≤ b) (blkT ty num fl crc data []) A → Calls Try.prog 36 #[.int .i64 (crc : Int), itemV (blkT ty num fl crc data []) A c] W (fun e w' => ∃ A c, e = .returned (itemV t A c) ∧ Ext W w' ∧ IsL w' (fun b => N ≤ b) t A))) (w : World) : Calls Try.prog 20 #[BV.v ⟨ty, num, fl, crc, data⟩] w (Ret (buildV t) w) := by
  have HE0 := hid ((Mod.refl [] w).alloc (.cells (BV.c ⟨ty, num, fl, crc, data⟩) 32))
  go_enter Try.func20, Try.ntmps20
  go_wp2_with fail
  refine (Item_ok ty num fl crc data hb t KS _).mono ?_
  rintro e w1 ⟨A, c, rfl, hb1, hl1⟩
  have HE1 := hid (HE0.out.trans hb1)
  have HL1 := hid hl1
  clear hb1 hl1
  go_wp2_with fail
  refine (iBuild_any t hok hsz A c _ (IsL.ext (IsL.weak (fun _ _ _ => trivial) _ HL1.out) ((Mod.refl _ _).alloc _))).mono ?_
  rintro e w2 ⟨rfl, hb2⟩
  have HE2 := hid ((HE1.out.alloc _).trans hb2)
  clear hb2
  obtain ⟨s, E, hV⟩ : ∃ s E, buildV t = .tuple #[str s, .int .i64 E] := by unfold buildV; split; exact ⟨_, _, rfl⟩; exact ⟨_, _, rfl⟩
  rw [hV]
  go_wp2_with fail
  refine bodyPost_ret (v := .tuple #[str s, .int .i64 E]) (by simp [results, Try.results20, go_sem]) rfl (Ret.mk hV.symm HE2.out)

set_option maxRecDepth 20000 in
theorem awake12_any (w : World) : Calls Try.prog 16 #[] w (Ret (.bool true) w) := by
  have K : Hid (∀ W, Calls Try.prog 20 #[BV.v ⟨1, 1, 0, 0, [104, 105]⟩] W (Ret (.tuple #[str [133, 1, 1, 0, 0, 66, 104, 105], .int .i64 0]) W)) := fun W => by
    have h := Build_ok 1 1 0 0 [104, 105] (by decide) (blkT 1 1 0 0 [104, 105] []) (blkT_ok (by omega) (by omega) (by omega) (by omega) (by decide) (by decide)) (by decide) (fun N A c W hN hl => (summed_0 _ A c W).mono fun e w' ⟨he, hb⟩ => ⟨A, c, he, hb, hl.ext hb⟩) W
    have e : buildV (blkT 1 1 0 0 [104, 105] []) = .tuple #[str [133, 1, 1, 0, 0, 66, 104, 105], .int .i64 0] := by
      have h1 : (blkT 1 1 0 0 [104, 105] []).right 8 = true := by decide
      have h2 : (blkT 1 1 0 0 [104, 105] []).bytes = [133, 1, 1, 0, 0, 66, 104, 105] := by decide
      rw [buildV, h1, h2]; rfl
    rw [e] at h
    exact h
  go_enter Try.func16, Try.ntmps16
  go_wp2_with fail
  refine (K.out _).mono ?_
  rintro e w1 ⟨rfl, hb1⟩
  go_wp2_with fail
  go_ret
  exact Ret.mk rfl hb1
end Go.Proofs.Ytkeabdfgacicaaa


namespace Go.Proofs.Ytkeabdfgacicaaa
open Go.RowKit
set_option linter.unusedVariables false
set_option linter.unusedSimpArgs false

/-- An array of six, with another last part. -/
def lastT (ch : Nat → T) (s : List UInt8) : T := T.mk 4 0 [] false 6 fun i => if i = 5 then strT s else ch i
/-- Its bytes, as they are built. -/
def bldL (t : T) : List UInt8 := if t.right 8 then t.bytes else []
theorem buildV_bld (t : T) : ∃ E, buildV t = .tuple #[str (bldL t), .int .i64 E] := by
  unfold buildV bldL
  split
  · exact ⟨_, rfl⟩
  · exact ⟨_, rfl⟩
theorem lastK {W W' : World} {g : Nat} {Q : Nat → Prop} {ch : Nat → T} {ac : Nat → Option Addr × Nat} (hm : Mod [g] W W') (hq : ∀ b, Q b → b ≠ g) (h : ∀ i, i < 6 → IsL W Q (ch i) (ac i).1) (s : List UInt8) :
    ∀ i, i < 6 → IsL W' Q ((fun i => if i = 5 then strT s else ch i) i) ((fun i => if i = 5 then ((none : Option Addr), 0) else ac i) i).1 := by
  intro i hi
  by_cases e : i = 5
  · subst e; simp only [if_true]; exact fun h => absurd h (by decide)
  · simp only [if_neg e]
    exact IsL.mod hm (fun k hk _ hm => by rw [List.mem_singleton] at hm; exact hq k hk hm) _ (h i hi)

set_option maxRecDepth 20000 in
set_option maxHeartbeats 1600000 in
theorem summed_any (ch : Nat → T) (kind : Nat) (k1 : Hid (1 ≤ kind)) (k2 : Hid (kind ≤ 2)) (hok : Hid ((lastT ch (List.replicate (2 * kind) 0)).ok ∧ (lastT ch (List.replicate (2 * kind) 0)).size ≤ 100000)) (hbl : Hid ((bldL (lastT ch (List.replicate (2 * kind) 0))).length < 1000000)) (N : Nat) (A : Option Addr) (c : Nat) (w : World) (hN : Hid (N ≤ w.heap.size)) (h : IsL w (fun b => N ≤ b) (T.mk 4 0 [] false 6 ch) A) :
    Calls Try.prog 36 #[.int .i64 (kind : Int), .agg #[.int .i64 4, .int .u64 0, str [], .slice A 6 c, .bool false]] w (fun e w' => ∃ A c, e = .returned (itemV (lastT ch (Crc.sumL kind (bldL (lastT ch (List.replicate (2 * kind) 0))))) A c) ∧ Ext w w' ∧ IsL w' (fun b => N ≤ b) (lastT ch (Crc.sumL kind (bldL (lastT ch (List.replicate (2 * kind) 0))))) A) := by
  have e1 : ((kind : Int) = 0) = False := by have := k1.out; simp; omega
  have e2 : ((kind : Int) == 0) = false := by have := k1.out; simp; omega
  have HI : Hid (IsL w (fun b => N ≤ b ∧ b < w.heap.size) (T.mk 4 0 [] false 6 ch) A) := IsL.weak (fun k hk hq => ⟨hq, hk⟩) _ h
  clear h
  have KR := hid (fun W => Repeat_zero (2 * kind) (by have := k2.out; omega) W)
  have KS := hid (fun W => Sum_any kind k1.out k2.out (bldL (lastT ch (List.replicate (2 * kind) 0))) hbl W)
  obtain ⟨E, hE⟩ := buildV_bld (lastT ch (List.replicate (2 * kind) 0))
  have HV := hid hE; clear hE
  have hTk : (lastT ch (List.replicate (2 * kind) 0)) = T.mk 4 0 [] false 6 (fun i => if i = 5 then strT (List.replicate (2 * kind) 0) else ch i) := rfl
  have HT := hid hTk; clear hTk
  generalize bldL (lastT ch (List.replicate (2 * kind) 0)) = B at *
  have HU : Hid (lastT ch (Crc.sumL kind B) = T.mk 4 0 [] false 6 (fun i => if i = 5 then strT (Crc.sumL kind B) else if i = 5 then strT (List.replicate (2 * kind) 0) else ch i)) := by
    unfold Hid lastT
    congr 1
    funext i
    split <;> rfl
  generalize lastT ch (Crc.sumL kind B) = U at *
  generalize lastT ch (List.replicate (2 * kind) 0) = Y at *
  generalize List.replicate (2 * kind) (0 : UInt8) = Z at *
  generalize Crc.sumL kind B = S at *
  have HE := hid (((Mod.refl [] w).alloc (.cells #[.int .i64 4, .int .u64 0, str [], .slice A 6 c, .bool false] 48)).alloc (.cells #[.int .i64 0, .int .u64 0, .string ⟨#[]⟩, .slice none 0 0, .bool false] 48))
  have HR : Hid (Blk ((w.alloc (.cells #[.int .i64 4, .int .u64 0, str [], .slice A 6 c, .bool false] 48)).alloc (.cells #[.int .i64 0, .int .u64 0, .string ⟨#[]⟩, .slice none 0 0, .bool false] 48)) (w.heap.size + 1) 48 (itemC (numT 0) none 0)) := by
    have := Blk.new (w.alloc (.cells #[.int .i64 4, .int .u64 0, str [], .slice A 6 c, .bool false] 48)) 48 (itemC (numT 0) none 0)
    unfold Hid
    simpa [itemC, numT, T.kind, T.n, T.s, T.k, T.op] using this
  go_enter Try.func36, Try.ntmps36
  go_wp2_with fail
  refine (CloneI_any ch 6 (by unfold Hid; omega) A c _ (HI.out.ext HE.out)).mono ?_
  rintro e w1 ⟨g, c', ac, rfl, hb1, hg1, hlt1, hown1, hk1⟩
  have HE1 := hid (HE.out.trans hb1)
  have HR1 := hid (HR.out.ext hb1)
  have HO1 := hid hown1
  have HK1 := hid hk1
  have HG : Hid (w.heap.size + 2 ≤ g) := by unfold Hid; simpa using hg1
  have HL1 := hid hlt1
  clear hb1 hg1 hlt1 hown1 hk1 HE HR HI
  go_wp2_with fail
  refine (Size_any kind k2.out _).mono ?_
  rintro e w2 ⟨rfl, hb2⟩
  have HE2 := hid (HE1.out.trans hb2)
  have HR2 := hid (HR1.out.ext hb2)
  have HO2 := hid (ownsRow_mod HO1.out hb2 (by simp))
  have HK2 : Hid (∀ i, i < 6 → IsL w2 (fun b => N ≤ b ∧ b < w.heap.size) (ch i) (ac i).1) := fun i hi => (HK1.out i hi).ext hb2
  have HL2 := hid (Nat.lt_of_lt_of_le HL1.out hb2.size)
  clear hb2 HE1 HR1 HO1 HK1 HL1
  go_wp2_with fail
  refine (KR.out _).mono ?_
  rintro e w3 ⟨rfl, hb3⟩
  have HE3 := hid (HE2.out.trans hb3)
  have HR3 := hid (HR2.out.ext hb3)
  have HO3 := hid (ownsRow_mod HO2.out hb3 (by simp))
  have HK3 : Hid (∀ i, i < 6 → IsL w3 (fun b => N ≤ b ∧ b < w.heap.size) (ch i) (ac i).1) := fun i hi => (HK2.out i hi).ext hb3
  have HL3 := hid (Nat.lt_of_lt_of_le HL2.out hb3.size)
  clear hb3 HE2 HR2 HO2 HK2 HL2
  go_wp2_with fail
  refine (StrV_any _ _).mono ?_
  rintro e w4 ⟨rfl, hb4⟩
  have HE4 := hid (HE3.out.trans hb4)
  have HR4 := hid (HR3.out.ext hb4)
  have HO4 := hid (ownsRow_mod HO3.out hb4 (by simp))
  have HK4 : Hid (∀ i, i < 6 → IsL w4 (fun b => N ≤ b ∧ b < w.heap.size) (ch i) (ac i).1) := fun i hi => (HK3.out i hi).ext hb4
  have HL4 := hid (Nat.lt_of_lt_of_le HL3.out hb4.size)
  clear hb4 HE3 HR3 HO3 HK3 HL3
  obtain ⟨x0, x1, x2, x3, x4⟩ := flatC_get ch ac 6 5 (by omega)
  have y0 := own_cells HO4.out x0
  have y1 := own_cells HO4.out x1
  have y2 := own_cells HO4.out x2
  have y3 := own_cells HO4.out x3
  have y4 := own_cells HO4.out x4
  clear x0 x1 x2 x3 x4
  have z0 := HO4.out.frozenAt 25
  have z1 := HO4.out.frozenAt 26
  have z2 := HO4.out.frozenAt 27
  have z3 := HO4.out.frozenAt 28
  have z4 := HO4.out.frozenAt 29
  go_wp2_with fail
  clear y0 y1 y2 y3 y4 z0 z1 z2 z3 z4
  have HO5 := hid (own_last (n := 5) (strT Z) none 0 HO4.out)
  have HM5 := hid (((((((Mod.refl [g] w4).setCell (p := ⟨g, 25, none⟩) (.inl (by simp)) (.int .i64 2)).setCell (p := ⟨g, 26, none⟩) (.inl (by simp)) (.int .u64 0)).setCell (p := ⟨g, 27, none⟩) (.inl (by simp)) (str Z)).setCell (p := ⟨g, 28, none⟩) (.inl (by simp)) (.slice none 0 0)).setCell (p := ⟨g, 29, none⟩) (.inl (by simp)) (.bool false)))
  have HE5 := hid (((((HE4.out.setCell (p := ⟨g, 25, none⟩) (.inr (by have := HG.out; show w.heap.size ≤ g; omega)) (.int .i64 2)).setCell (p := ⟨g, 26, none⟩) (.inr (by have := HG.out; show w.heap.size ≤ g; omega)) (.int .u64 0)).setCell (p := ⟨g, 27, none⟩) (.inr (by have := HG.out; show w.heap.size ≤ g; omega)) (str Z)).setCell (p := ⟨g, 28, none⟩) (.inr (by have := HG.out; show w.heap.size ≤ g; omega)) (.slice none 0 0)).setCell (p := ⟨g, 29, none⟩) (.inr (by have := HG.out; show w.heap.size ≤ g; omega)) (.bool false))
  change Hid (World.ownsRow (((((w4.setCell ⟨g, 25, none⟩ (.int .i64 2)).setCell ⟨g, 26, none⟩ (.int .u64 0)).setCell ⟨g, 27, none⟩ (str Z)).setCell ⟨g, 28, none⟩ (.slice none 0 0)).setCell ⟨g, 29, none⟩ (.bool false)) _ _ _ _ _ _) at HO5
  change Hid (Mod [g] w4 (((((w4.setCell ⟨g, 25, none⟩ (.int .i64 2)).setCell ⟨g, 26, none⟩ (.int .u64 0)).setCell ⟨g, 27, none⟩ (str Z)).setCell ⟨g, 28, none⟩ (.slice none 0 0)).setCell ⟨g, 29, none⟩ (.bool false))) at HM5
  change Hid (Mod [] w (((((w4.setCell ⟨g, 25, none⟩ (.int .i64 2)).setCell ⟨g, 26, none⟩ (.int .u64 0)).setCell ⟨g, 27, none⟩ (str Z)).setCell ⟨g, 28, none⟩ (.slice none 0 0)).setCell ⟨g, 29, none⟩ (.bool false))) at HE5
  generalize (((((w4.setCell ⟨g, 25, none⟩ (.int .i64 2)).setCell ⟨g, 26, none⟩ (.int .u64 0)).setCell ⟨g, 27, none⟩ (str Z)).setCell ⟨g, 28, none⟩ (.slice none 0 0)).setCell ⟨g, 29, none⟩ (.bool false)) = w5 at *
  have HR5 := hid (HR4.out.mod HM5.out (by have := HG.out; simp; omega))
  have HK5 := hid (lastK HM5.out (fun b hb => by have := HG.out; omega) HK4.out Z)
  have HL5 := hid (Nat.lt_of_lt_of_le HL4.out HM5.out.size)
  clear HE4 HR4 HO4 HK4 HL4 HM5
  generalize hch : (fun i => if i = 5 then strT Z else ch i) = ch5 at *
  generalize hac : (fun i => if i = 5 then ((none : Option Addr), 0) else ac i) = ac5 at *
  have Hch5 := hid hch; clear hch; clear hac
  refine (ListV_any 6 _ c' _).mono ?_
  rintro e w6 ⟨rfl, hb6⟩
  have HE6 := hid (HE5.out.trans hb6)
  have HR6 := hid (HR5.out.ext hb6)
  have HO6 := hid (ownsRow_mod HO5.out hb6 (by simp))
  have HK6 : Hid (∀ i, i < 6 → IsL w6 (fun b => N ≤ b ∧ b < w.heap.size) (ch5 i) (ac5 i).1) := fun i hi => (HK5.out i hi).ext hb6
  have HL6 := hid (Nat.lt_of_lt_of_le HL5.out hb6.size)
  clear hb6 HE5 HR5 HO5 HK5 HL5
  have HY : Hid (Y = T.mk 4 0 [] false 6 ch5) := HT.out
  have HIY : Hid (IsL w6 (fun _ => True) Y (some ⟨g, 0, none⟩)) := by
    rw [HY.out]
    exact own_IsL HL6.out trivial HO6.out (fun i hi => IsL.weak (fun _ _ _ => trivial) _ (HK6.out i hi))
  have HBY : Hid (∀ W, IsL W (fun _ => True) Y (some ⟨g, 0, none⟩) → Calls Try.prog 40 #[.agg #[.int .i64 4, .int .u64 0, str [], .slice (some ⟨g, 0, none⟩) 6 c', .bool false]] W (Ret (.tuple #[str B, .int .i64 E]) W)) := fun W hW => by
    have := iBuild_any Y hok.out.1 hok.out.2 (some ⟨g, 0, none⟩) c' W hW
    rw [HV.out, HY.out] at this
    exact this
  go_wp2_with fail
  refine (HBY.out _ HIY.out).mono ?_
  rintro e w7 ⟨rfl, hb7⟩
  have HE7 := hid (HE6.out.trans hb7)
  have HR7 := hid (HR6.out.ext hb7)
  have HO7 := hid (ownsRow_mod HO6.out hb7 (by simp))
  have HK7 : Hid (∀ i, i < 6 → IsL w7 (fun b => N ≤ b ∧ b < w.heap.size) (ch5 i) (ac5 i).1) := fun i hi => (HK6.out i hi).ext hb7
  have HL7 := hid (Nat.lt_of_lt_of_le HL6.out hb7.size)
  clear hb7 HE6 HR6 HO6 HK6 HL6
  clear HIY HBY HV
  go_wp2_with fail
  refine (KS.out _).mono ?_
  rintro e w8 ⟨rfl, hb8⟩
  have HE8 := hid (HE7.out.trans hb8)
  have HR8 := hid (HR7.out.ext hb8)
  have HO8 := hid (ownsRow_mod HO7.out hb8 (by simp))
  have HK8 : Hid (∀ i, i < 6 → IsL w8 (fun b => N ≤ b ∧ b < w.heap.size) (ch5 i) (ac5 i).1) := fun i hi => (HK7.out i hi).ext hb8
  have HL8 := hid (Nat.lt_of_lt_of_le HL7.out hb8.size)
  clear hb8 HE7 HR7 HO7 HK7 HL7
  go_wp2_with fail
  refine (StrV_any _ _).mono ?_
  rintro e w9 ⟨rfl, hb9⟩
  have HE9 := hid (HE8.out.trans hb9)
  have HR9 := hid (HR8.out.ext hb9)
  have HO9 := hid (ownsRow_mod HO8.out hb9 (by simp))
  have HK9 : Hid (∀ i, i < 6 → IsL w9 (fun b => N ≤ b ∧ b < w.heap.size) (ch5 i) (ac5 i).1) := fun i hi => (HK8.out i hi).ext hb9
  have HL9 := hid (Nat.lt_of_lt_of_le HL8.out hb9.size)
  clear hb9 HE8 HR8 HO8 HK8 HL8
  obtain ⟨x0, x1, x2, x3, x4⟩ := flatC_get ch5 ac5 6 5 (by omega)
  have y0 := own_cells HO9.out x0
  have y1 := own_cells HO9.out x1
  have y2 := own_cells HO9.out x2
  have y3 := own_cells HO9.out x3
  have y4 := own_cells HO9.out x4
  clear x0 x1 x2 x3 x4
  have z0 := HO9.out.frozenAt 25
  have z1 := HO9.out.frozenAt 26
  have z2 := HO9.out.frozenAt 27
  have z3 := HO9.out.frozenAt 28
  have z4 := HO9.out.frozenAt 29
  go_wp2_with fail
  clear y0 y1 y2 y3 y4 z0 z1 z2 z3 z4
  have HO10 := hid (own_last (n := 5) (strT S) none 0 HO9.out)
  have HM10 := hid (((((((Mod.refl [g] w9).setCell (p := ⟨g, 25, none⟩) (.inl (by simp)) (.int .i64 2)).setCell (p := ⟨g, 26, none⟩) (.inl (by simp)) (.int .u64 0)).setCell (p := ⟨g, 27, none⟩) (.inl (by simp)) (str S)).setCell (p := ⟨g, 28, none⟩) (.inl (by simp)) (.slice none 0 0)).setCell (p := ⟨g, 29, none⟩) (.inl (by simp)) (.bool false)))
  have HE10 := hid (((((HE9.out.setCell (p := ⟨g, 25, none⟩) (.inr (by have := HG.out; show w.heap.size ≤ g; omega)) (.int .i64 2)).setCell (p := ⟨g, 26, none⟩) (.inr (by have := HG.out; show w.heap.size ≤ g; omega)) (.int .u64 0)).setCell (p := ⟨g, 27, none⟩) (.inr (by have := HG.out; show w.heap.size ≤ g; omega)) (str S)).setCell (p := ⟨g, 28, none⟩) (.inr (by have := HG.out; show w.heap.size ≤ g; omega)) (.slice none 0 0)).setCell (p := ⟨g, 29, none⟩) (.inr (by have := HG.out; show w.heap.size ≤ g; omega)) (.bool false))
  change Hid (World.ownsRow (((((w9.setCell ⟨g, 25, none⟩ (.int .i64 2)).setCell ⟨g, 26, none⟩ (.int .u64 0)).setCell ⟨g, 27, none⟩ (str S)).setCell ⟨g, 28, none⟩ (.slice none 0 0)).setCell ⟨g, 29, none⟩ (.bool false)) _ _ _ _ _ _) at HO10
  change Hid (Mod [g] w9 (((((w9.setCell ⟨g, 25, none⟩ (.int .i64 2)).setCell ⟨g, 26, none⟩ (.int .u64 0)).setCell ⟨g, 27, none⟩ (str S)).setCell ⟨g, 28, none⟩ (.slice none 0 0)).setCell ⟨g, 29, none⟩ (.bool false))) at HM10
  change Hid (Mod [] w (((((w9.setCell ⟨g, 25, none⟩ (.int .i64 2)).setCell ⟨g, 26, none⟩ (.int .u64 0)).setCell ⟨g, 27, none⟩ (str S)).setCell ⟨g, 28, none⟩ (.slice none 0 0)).setCell ⟨g, 29, none⟩ (.bool false))) at HE10
  generalize (((((w9.setCell ⟨g, 25, none⟩ (.int .i64 2)).setCell ⟨g, 26, none⟩ (.int .u64 0)).setCell ⟨g, 27, none⟩ (str S)).setCell ⟨g, 28, none⟩ (.slice none 0 0)).setCell ⟨g, 29, none⟩ (.bool false)) = w10 at *
  have HR10 := hid (HR9.out.mod HM10.out (by have := HG.out; simp; omega))
  have HK10 := hid (lastK HM10.out (fun b hb => by have := HG.out; omega) HK9.out S)
  have HL10 := hid (Nat.lt_of_lt_of_le HL9.out HM10.out.size)
  clear HE9 HR9 HO9 HK9 HL9 HM10
  generalize hch : (fun i => if i = 5 then strT S else ch5 i) = ch10 at *
  generalize hac : (fun i => if i = 5 then ((none : Option Addr), 0) else ac5 i) = ac10 at *
  have Hch10 := hid hch; clear hch; clear hac
  refine (ListV_any 6 _ c' _).mono ?_
  rintro e w11 ⟨rfl, hb11⟩
  have HE11 := hid (HE10.out.trans hb11)
  have HR11 := hid (HR10.out.ext hb11)
  have HO11 := hid (ownsRow_mod HO10.out hb11 (by simp))
  have HK11 : Hid (∀ i, i < 6 → IsL w11 (fun b => N ≤ b ∧ b < w.heap.size) (ch10 i) (ac10 i).1) := fun i hi => (HK10.out i hi).ext hb11
  have HL11 := hid (Nat.lt_of_lt_of_le HL10.out hb11.size)
  clear hb11 HE10 HR10 HO10 HK10 HL10
  have HU2 : U = T.mk 4 0 [] false 6 ch10 := by rw [HU.out, ← Hch10.out, ← Hch5.out]
  have HIU : Hid (IsL w11 (fun b => b ≠ w.heap.size + 1 ∧ N ≤ b) U (some ⟨g, 0, none⟩)) := by
    rw [HU2]
    exact own_IsL HL11.out (by have := HG.out; have := hN.out; omega) HO11.out (fun i hi => IsL.weak (fun k _ hq => ⟨by omega, hq.1⟩) _ (HK11.out i hi))
  obtain ⟨c0, c1, c2, c3, c4⟩ := cells5 HR11.out
  have f0 := Blk.frozen HR11.out 0
  have f1 := Blk.frozen HR11.out 1
  have f2 := Blk.frozen HR11.out 2
  have f3 := Blk.frozen HR11.out 3
  have f4 := Blk.frozen HR11.out 4
  go_wp2_with fail
  obtain ⟨d0, d1, d2, d3, d4⟩ := cells5 (set5_blk (t := T.mk 4 0 [] false 6 ch10) (A := some ⟨g, 0, none⟩) (c := c') HR11.out)
  clear c0 c1 c2 c3 c4 f0 f1 f2 f3 f4
  show bodyPost _ _ _ _ _ (set5 w11 (w.heap.size + 1) (T.mk 4 0 [] false 6 ch10) (some ⟨g, 0, none⟩) c')
  refine bodyPost_ret (v := itemV (T.mk 4 0 [] false 6 ch10) (some ⟨g, 0, none⟩) c') (by simp [results, Try.results36, go_sem, d0, d1, d2, d3, d4]) rfl ?_
  refine ⟨some ⟨g, 0, none⟩, c', by rw [HU2], set5_mod HE11.out (by omega), ?_⟩
  refine IsL.weak (fun _ _ h => h.2) _ (IsL.mod (Q := fun b => b ≠ w.heap.size + 1 ∧ N ≤ b) set5_modb (fun k hq hk hm => by rw [List.mem_singleton] at hm; exact hq.1 hm) _ HIU.out)
end Go.Proofs.Ytkeabdfgacicaaa


namespace Go.Proofs.Ytkeabdfgacicaaa
open Go.RowKit
set_option linter.unusedVariables false
set_option linter.unusedSimpArgs false

theorem blkT_last {ty num fl crc : Nat} {data s t : List UInt8} (hc : ¬ crc = 0) (ch : Nat → T) (hch : blkT ty num fl crc data s = T.mk 4 0 [] false 6 ch) : lastT ch t = blkT ty num fl crc data t := by
  unfold blkT at hch ⊢
  rw [if_neg hc] at hch ⊢
  have h := (T.mk.inj hch).2.2.2.2.2
  subst h
  unfold lastT
  congr 1
  funext i
  by_cases e : i = 5
  · subst e; simp
  · simp [e]
theorem blkT_right {ty num fl crc : Nat} {data s : List UInt8} (d : Nat) (hd : 2 ≤ d) : (blkT ty num fl crc data s).right d = true := by
  unfold blkT T.right
  rw [if_neg (by omega)]
  simp only [Bool.and_eq_true]
  constructor
  · split <;> rfl
  · rw [T.all_iff]
    intro i hi
    have hi6 : i < 6 := by split at hi <;> omega
    have hd1 : ¬ d - 1 < 1 := by omega
    have h6 : i = 0 ∨ i = 1 ∨ i = 2 ∨ i = 3 ∨ i = 4 ∨ i = 5 := by omega
    rcases h6 with rfl | rfl | rfl | rfl | rfl | rfl <;> simp [numT, strT, T.right, hd1, T.node, T.all]
theorem blkT_plain {ty num fl crc : Nat} {data s : List UInt8} : (blkT ty num fl crc data s).plain = true := by
  unfold blkT T.plain
  simp only [Bool.and_eq_true]
  constructor
  · split <;> rfl
  · rw [T.all_iff]
    intro i hi
    have hi6 : i < 6 := by split at hi <;> omega
    have h6 : i = 0 ∨ i = 1 ∨ i = 2 ∨ i = 3 ∨ i = 4 ∨ i = 5 := by omega
    rcases h6 with rfl | rfl | rfl | rfl | rfl | rfl <;> simp [numT, strT, T.plain, T.node, T.all]
theorem sum_le {f : Nat → Nat} {B : Nat} (h : ∀ i, f i ≤ B) : ∀ k, T.sum f k ≤ k * B
  | 0 => by simp [T.sum]
  | k + 1 => by have := sum_le h k; have := h k; rw [T.sum, Nat.succ_mul]; omega
theorem blkT_size {ty num fl crc : Nat} {data s : List UInt8} (h5 : data.length ≤ 4000) (h6 : s.length ≤ 4000) : (blkT ty num fl crc data s).size ≤ 100000 := by
  have hs : ∀ k, k ≤ 6 → ∀ f : Nat → Nat, (∀ i, f i ≤ 4001) → 1 + ([] : List UInt8).length + T.sum f k ≤ 100000 := fun k hk f hf => by
    have := sum_le hf k
    have : k * 4001 ≤ 6 * 4001 := Nat.mul_le_mul_right _ hk
    simp
    omega
  unfold blkT T.size
  refine hs _ (by split <;> omega) _ (fun i => ?_)
  dsimp only
  split
  · simp [numT, T.size, T.sum]
  · split
    · simp [numT, T.size, T.sum]
    · split
      · simp [numT, T.size, T.sum]
      · split
        · simp [numT, T.size, T.sum]
        · split
          · simp [strT, T.size, T.sum]; omega
          · split
            · simp [strT, T.size, T.sum]; omega
            · simp [T.size]

/-- A block's item's bytes. -/
def blkB (ty num fl crc : Nat) (data sum : List UInt8) : List UInt8 :=
  headL 4 (if crc = 0 then 5 else 6) ++ headL 0 ty ++ headL 0 num ++ headL 0 fl ++ headL 0 crc ++ (headL 2 data.length ++ data) ++ (if crc = 0 then [] else headL 2 sum.length ++ sum)
theorem blkT_bytes (ty num fl crc : Nat) (data sum : List UInt8) : (blkT ty num fl crc data sum).bytes = blkB ty num fl crc data sum := by
  unfold blkT blkB
  by_cases hc : crc = 0
  · subst hc
    simp [T.bytes, T.cat, numT, strT]
  · simp [hc, T.bytes, T.cat, numT, strT]
theorem blkB_length {ty num fl crc : Nat} {data sum : List UInt8} (h5 : data.length ≤ 4000) (h6 : sum.length ≤ 4000) : (blkB ty num fl crc data sum).length < 1000000 := by
  have a1 := headL_le 4 5
  have a0 := headL_le 4 6
  have a2 := headL_le 0 ty
  have a3 := headL_le 0 num
  have a4 := headL_le 0 fl
  have a5 := headL_le 0 crc
  have a6 := headL_le 2 data.length
  have a7 := headL_le 2 sum.length
  unfold blkB
  simp only [List.length_append]
  split <;> simp <;> omega
/-- The right sum of a block. -/
def sumB (ty num fl crc : Nat) (data : List UInt8) : List UInt8 := if crc = 0 then [] else Crc.sumL crc (blkB ty num fl crc data (List.replicate (2 * crc) 0))
def finT (ty num fl crc : Nat) (data : List UInt8) : T := blkT ty num fl crc data (sumB ty num fl crc data)
theorem sumB_length {ty num fl crc : Nat} {data : List UInt8} (hc : crc ≤ 2) : (sumB ty num fl crc data).length = 2 * crc := by
  unfold sumB
  split
  · subst crc; rfl
  · exact Crc.sumL_length (by omega) hc _
theorem sumOf {ty num fl crc : Nat} {data : List UInt8} (h1 : ty ≤ 65535) (h2 : num ≤ 65535) (h3 : fl ≤ 255) (h4 : crc ≤ 2) (h5 : data.length ≤ 4000) :
    Hid (∀ N A c W, N ≤ W.heap.size → IsL W (fun b => N ≤ b) (blkT ty num fl crc data []) A → Calls Try.prog 36 #[.int .i64 (crc : Int), itemV (blkT ty num fl crc data []) A c] W (fun e w' => ∃ A c, e = .returned (itemV (finT ty num fl crc data) A c) ∧ Ext W w' ∧ IsL w' (fun b => N ≤ b) (finT ty num fl crc data) A)) := by
  intro N A c W hN hI
  by_cases hc : crc = 0
  · subst hc
    exact (summed_0 _ A c W).mono fun e w' ⟨he, hb⟩ => ⟨A, c, he, hb, hI.ext hb⟩
  · obtain ⟨ch, hch⟩ : ∃ ch, blkT ty num fl crc data [] = T.mk 4 0 [] false 6 ch := ⟨_, by unfold blkT; rw [if_neg hc]⟩
    have hl : ∀ t, lastT ch t = blkT ty num fl crc data t := fun t => blkT_last hc ch hch
    have hZ : (List.replicate (2 * crc) (0 : UInt8)).length ≤ 4000 := by simp; omega
    have hB : bldL (lastT ch (List.replicate (2 * crc) 0)) = blkB ty num fl crc data (List.replicate (2 * crc) 0) := by
      rw [hl, bldL, blkT_right 8 (by omega), if_pos rfl, blkT_bytes]
    have h := summed_any ch crc (by unfold Hid; omega) h4 (by rw [hl]; exact ⟨blkT_ok h1 h2 h3 h4 h5 hZ, blkT_size h5 hZ⟩) (by rw [hB]; exact blkB_length h5 hZ) N A c W hN (by rw [hch] at hI; exact hI)
    rw [hB, hl] at h
    have he : finT ty num fl crc data = blkT ty num fl crc data (Crc.sumL crc (blkB ty num fl crc data (List.replicate (2 * crc) 0))) := by unfold finT sumB; rw [if_neg hc]
    rw [← he] at h
    rw [hch]
    exact h
theorem finV {ty num fl crc : Nat} {data : List UInt8} : buildV (finT ty num fl crc data) = .tuple #[str (blkB ty num fl crc data (sumB ty num fl crc data)), .int .i64 0] := by
  unfold buildV finT
  rw [blkT_right 8 (by omega), if_pos rfl, blkT_bytes]
theorem Build_any (ty num fl crc : Nat) (data : List UInt8) (hb : BV.right ⟨ty, num, fl, crc, data⟩ = 0) (w : World) : Calls Try.prog 20 #[BV.v ⟨ty, num, fl, crc, data⟩] w (Ret (.tuple #[str (blkB ty num fl crc data (sumB ty num fl crc data)), .int .i64 0]) w) := by
  have h := BV.right_zero hb
  simp only [] at h
  have hs := sumB_length (ty := ty) (num := num) (fl := fl) (data := data) (show crc ≤ 2 by omega)
  rw [← finV]
  exact Build_ok ty num fl crc data hb (finT ty num fl crc data) (blkT_ok (by omega) (by omega) (by omega) (by omega) (by omega) (by omega)) (blkT_size (by omega) (by omega)) (sumOf (by omega) (by omega) (by omega) (by omega) (by omega)) w
theorem Item_any (ty num fl crc : Nat) (data : List UInt8) (hb : BV.right ⟨ty, num, fl, crc, data⟩ = 0) (w : World) : Calls Try.prog 18 #[BV.v ⟨ty, num, fl, crc, data⟩] w (fun e w' => ∃ A c, e = .returned (.tuple #[itemV (finT ty num fl crc data) A c, .int .i64 0]) ∧ Ext w w' ∧ IsL w' (fun b => w.heap.size ≤ b) (finT ty num fl crc data) A) := by
  have h := BV.right_zero hb
  simp only [] at h
  exact Item_ok ty num fl crc data hb _ (sumOf (by omega) (by omega) (by omega) (by omega) (by omega)) w
end Go.Proofs.Ytkeabdfgacicaaa


namespace Go.Proofs.Ytkeabdfgacicaaa
open Go.RowKit
set_option linter.unusedVariables false
set_option linter.unusedSimpArgs false

def tyB (bs : Nat → BV) (typ : Int) (i : Nat) : Bool := decide ((bs i).ty = typ)
theorem tyB_no {bs : Nat → BV} {typ : Int} {i : Nat} (h : (bs i).ty ≠ typ) : tyB bs typ i = false := by unfold tyB; simp [h]
theorem tyB_yes {bs : Nat → BV} {typ : Int} {i : Nat} (h : (bs i).ty = typ) : tyB bs typ i = true := by unfold tyB; simp [h]
/-- A block's five cells, stored anew. -/
def setB (W : World) (g : Nat) (b : BV) : World := ((((W.setCell ⟨g, 0, none⟩ (.int .i64 b.ty)).setCell ⟨g, 1, none⟩ (.int .i64 b.num)).setCell ⟨g, 2, none⟩ (.int .u64 (b.fl : Int))).setCell ⟨g, 3, none⟩ (.int .i64 b.crc)).setCell ⟨g, 4, none⟩ (str b.data)
section
variable {W : World} {g : Nat} {b0 b : BV}
theorem setB_blk (h : Blk W g 32 b0.c) : Blk (setB W g b) g 32 b.c := by
  have := ((((h.set_ 0 (.int .i64 b.ty)).set_ 1 (.int .i64 b.num)).set_ 2 (.int .u64 (b.fl : Int))).set_ 3 (.int .i64 b.crc)).set_ 4 (str b.data)
  unfold setB
  simpa using this
theorem setB_mod {w : World} {S : List Nat} (h : Mod S w W) (hb : w.heap.size ≤ g) : Mod S w (setB W g b) :=
  ((((h.setCell (.inr hb) _).setCell (.inr hb) _).setCell (.inr hb) _).setCell (.inr hb) _).setCell (.inr hb) _
theorem cellsB (h : Blk W g 32 b.c) : W.cell? ⟨g, 0, none⟩ = some (.int .i64 b.ty) ∧ W.cell? ⟨g, 1, none⟩ = some (.int .i64 b.num) ∧ W.cell? ⟨g, 2, none⟩ = some (.int .u64 (b.fl : Int)) ∧
    W.cell? ⟨g, 3, none⟩ = some (.int .i64 b.crc) ∧ W.cell? ⟨g, 4, none⟩ = some (str b.data) := ⟨h.cell 0, h.cell 1, h.cell 2, h.cell 3, h.cell 4⟩
end
/-- What Find hands back. -/
def findV (bs : Nat → BV) (typ : Int) (k : Nat) : Value := match firstOf (tyB bs typ) k with | some i => .tuple #[(bs i).v, .bool true] | none => .tuple #[zeroB.v, .bool false]
end Go.Proofs.Ytkeabdfgacicaaa


namespace Go.Proofs.Ytkeabdfgacicaaa
open Go.ChangeShapes Go.WideShapes Go.ChangeAt Go.RowKit Go.Deep
set_option linter.unusedVariables false
set_option linter.unusedSimpArgs false

/-- What every slice's shape obeys. -/
def SlA (A : Option Addr) (k c : Nat) : Prop := (A = none → k = 0 ∧ c = 0) ∧ k ≤ c ∧ c ≤ maxLen
def EV.wf (e : EV) : Prop := (-9223372036854775808 ≤ e.sch ∧ e.sch ≤ 9223372036854775807) ∧ e.node < 18446744073709551616 ∧ e.svc < 18446744073709551616
def PV.wf (p : PV) : Prop := p.fl < 18446744073709551616 ∧ (-9223372036854775808 ≤ p.crc ∧ p.crc ≤ 9223372036854775807) ∧ p.d.wf ∧ p.s.wf ∧ p.r.wf ∧ p.t < 18446744073709551616 ∧ p.q < 18446744073709551616 ∧ p.l < 18446744073709551616 ∧ p.o < 18446744073709551616 ∧ p.n < 18446744073709551616
def BV.wf (b : BV) : Prop := (-9223372036854775808 ≤ b.ty ∧ b.ty ≤ 9223372036854775807) ∧ (-9223372036854775808 ≤ b.num ∧ b.num ≤ 9223372036854775807) ∧ b.fl < 18446744073709551616 ∧ (-9223372036854775808 ≤ b.crc ∧ b.crc ≤ 9223372036854775807)
section
variable {H : Type} {enc : TypeId × Value → H} {w : World} {base b0 : Nat} {spare : Nat → Bool} {held : Bool} {r : Reach}
theorem fldB {P : Program} {n k : Nat} {ty : TypeId} {l : List Value} {off : Nat} {y : Option (DataW H × List MemPlace)} (hk : P.cellsOf ty = k) (h : DataW.trod enc P w base spare held n ty ((l.drop off).take (P.cellsOf ty)) = y) : DataW.trod enc P w base spare held n ty ((l.drop off).take k) = y := by rw [hk] at h; exact h
set_option maxRecDepth 100000 in
theorem trod_blkC {fuel : Nat} {L : List Value} {x : DataW H × List MemPlace} (h : DataW.trod enc Try.prog w base spare held fuel 32 L = some x) : ∃ b : BV, L = [.int .i64 b.ty, .int .i64 b.num, .int .u64 (b.fl : Int), .int .i64 b.crc, str b.data] ∧ b.wf := by
  obtain ⟨ys, n', hn', hy, hlen, hyl, hfl⟩ := DataW.trod_struct Try.underlying32 h
  clear h
  match L, hlen with
  | [c0, c1, c2, c3, c4], _ =>
    have h0 := field_at (by kernel_rfl) hfl (i := 0) rfl rfl
    have h1 := field_at (by kernel_rfl) hfl (i := 1) rfl rfl
    have h2 := field_at (by kernel_rfl) hfl (i := 2) rfl rfl
    have h3 := field_at (by kernel_rfl) hfl (i := 3) rfl rfl
    have h4 := field_at (by kernel_rfl) hfl (i := 4) rfl rfl
    clear hfl
    match ys, hyl with
    | [y0, y1, y2, y3, y4], _ =>
      obtain ⟨ty, e0, _, w0⟩ := DataW.trod_int (k := .i64) (by kernel_rfl) h0
      obtain ⟨num, e1, _, w1⟩ := DataW.trod_int (k := .i64) (by kernel_rfl) h1
      obtain ⟨fl, e2, _, w2⟩ := DataW.trod_int (k := .u64) (by kernel_rfl) h2
      obtain ⟨crc, e3, _, w3⟩ := DataW.trod_int (k := .i64) (by kernel_rfl) h3
      obtain ⟨s, e4, _, _⟩ := DataW.trod_string (by kernel_rfl) h4
      have q0 : c0 = .int .i64 ty := by have : [c0] = [Value.int .i64 ty] := e0; simpa using this
      have q1 : c1 = .int .i64 num := by have : [c1] = [Value.int .i64 num] := e1; simpa using this
      have q2 : c2 = .int .u64 fl := by have : [c2] = [Value.int .u64 fl] := e2; simpa using this
      have q3 : c3 = .int .i64 crc := by have : [c3] = [Value.int .i64 crc] := e3; simpa using this
      have q4 : c4 = .string s := by have : [c4] = [Value.string s] := e4; simpa using this
      subst q0 q1 q2 q3 q4
      have b0 : -9223372036854775808 ≤ ty ∧ ty ≤ 9223372036854775807 := by simpa [Lit.wf, IntKind.min, IntKind.max, IntKind.signed, IntKind.bits] using w0
      have b1 : -9223372036854775808 ≤ num ∧ num ≤ 9223372036854775807 := by simpa [Lit.wf, IntKind.min, IntKind.max, IntKind.signed, IntKind.bits] using w1
      have b2 : 0 ≤ fl ∧ fl ≤ 18446744073709551615 := by simpa [Lit.wf, IntKind.min, IntKind.max, IntKind.signed, IntKind.bits] using w2
      have b3 : -9223372036854775808 ≤ crc ∧ crc ≤ 9223372036854775807 := by simpa [Lit.wf, IntKind.min, IntKind.max, IntKind.signed, IntKind.bits] using w3
      obtain ⟨fl, rfl⟩ := Int.eq_ofNat_of_zero_le b2.1
      exact ⟨⟨ty, num, fl, crc, s.data.toList⟩, rfl, b0, b1, by show fl < _; omega, b3⟩
set_option maxRecDepth 100000 in
theorem trod_priC {fuel : Nat} {L : List Value} {x : DataW H × List MemPlace} (h : DataW.trod enc Try.prog w base spare held fuel 26 L = some x) : ∃ p : PV, L = p.c.toList ∧ p.wf := by
  obtain ⟨ys, n', hn', hy, hlen, hyl, hfl⟩ := DataW.trod_struct Try.underlying26 h
  clear h
  have k1 : Try.prog.cellsOf 22 = 1 := by kernel_rfl
  have k2 : Try.prog.cellsOf 3 = 1 := by kernel_rfl
  have k3 : Try.prog.cellsOf 24 = 4 := by kernel_rfl
  match L, hlen with
  | [c0, c1, c2, c3, c4, c5, c6, c7, c8, c9, c10, c11, c12, c13, c14, c15, c16, c17, c18], _ =>
    match ys, hyl with
    | [y0, y1, y2, y3, y4, y5, y6, y7, y8, y9], _ =>
      have h0 : DataW.trod enc Try.prog w base spare held n' 22 [c0] = some y0 := fldB k1 (hfl 0 _ rfl)
      have h1 : DataW.trod enc Try.prog w base spare held n' 3 [c1] = some y1 := fldB k2 (hfl 1 _ rfl)
      have h2 : DataW.trod enc Try.prog w base spare held n' 24 [c2, c3, c4, c5] = some y2 := fldB k3 (hfl 2 _ rfl)
      have h3 : DataW.trod enc Try.prog w base spare held n' 24 [c6, c7, c8, c9] = some y3 := fldB k3 (hfl 3 _ rfl)
      have h4 : DataW.trod enc Try.prog w base spare held n' 24 [c10, c11, c12, c13] = some y4 := fldB k3 (hfl 4 _ rfl)
      have h5 : DataW.trod enc Try.prog w base spare held n' 22 [c14] = some y5 := fldB k1 (hfl 5 _ rfl)
      have h6 : DataW.trod enc Try.prog w base spare held n' 22 [c15] = some y6 := fldB k1 (hfl 6 _ rfl)
      have h7 : DataW.trod enc Try.prog w base spare held n' 22 [c16] = some y7 := fldB k1 (hfl 7 _ rfl)
      have h8 : DataW.trod enc Try.prog w base spare held n' 22 [c17] = some y8 := fldB k1 (hfl 8 _ rfl)
      have h9 : DataW.trod enc Try.prog w base spare held n' 22 [c18] = some y9 := fldB k1 (hfl 9 _ rfl)
      clear hfl
      obtain ⟨z1, e1, _, w1⟩ := DataW.trod_int (k := .i64) (by kernel_rfl) h1
      have b1 : -9223372036854775808 ≤ z1 ∧ z1 ≤ 9223372036854775807 := by simpa [Lit.wf, IntKind.min, IntKind.max, IntKind.signed, IntKind.bits] using w1
      obtain ⟨E2, e2, n2, s2, x2⟩ := trod_eid h2
      obtain ⟨E3, e3, n3, s3, x3⟩ := trod_eid h3
      obtain ⟨E4, e4, n4, s4, x4⟩ := trod_eid h4
      obtain ⟨z0, e0, _, w0⟩ := DataW.trod_int (k := .u64) (by kernel_rfl) h0
      have b0 : 0 ≤ z0 ∧ z0 ≤ 18446744073709551615 := by simpa [Lit.wf, IntKind.min, IntKind.max, IntKind.signed, IntKind.bits] using w0
      obtain ⟨z0, rfl⟩ := Int.eq_ofNat_of_zero_le b0.1
      obtain ⟨z5, e5, _, w5⟩ := DataW.trod_int (k := .u64) (by kernel_rfl) h5
      have b5 : 0 ≤ z5 ∧ z5 ≤ 18446744073709551615 := by simpa [Lit.wf, IntKind.min, IntKind.max, IntKind.signed, IntKind.bits] using w5
      obtain ⟨z5, rfl⟩ := Int.eq_ofNat_of_zero_le b5.1
      obtain ⟨z6, e6, _, w6⟩ := DataW.trod_int (k := .u64) (by kernel_rfl) h6
      have b6 : 0 ≤ z6 ∧ z6 ≤ 18446744073709551615 := by simpa [Lit.wf, IntKind.min, IntKind.max, IntKind.signed, IntKind.bits] using w6
      obtain ⟨z6, rfl⟩ := Int.eq_ofNat_of_zero_le b6.1
      obtain ⟨z7, e7, _, w7⟩ := DataW.trod_int (k := .u64) (by kernel_rfl) h7
      have b7 : 0 ≤ z7 ∧ z7 ≤ 18446744073709551615 := by simpa [Lit.wf, IntKind.min, IntKind.max, IntKind.signed, IntKind.bits] using w7
      obtain ⟨z7, rfl⟩ := Int.eq_ofNat_of_zero_le b7.1
      obtain ⟨z8, e8, _, w8⟩ := DataW.trod_int (k := .u64) (by kernel_rfl) h8
      have b8 : 0 ≤ z8 ∧ z8 ≤ 18446744073709551615 := by simpa [Lit.wf, IntKind.min, IntKind.max, IntKind.signed, IntKind.bits] using w8
      obtain ⟨z8, rfl⟩ := Int.eq_ofNat_of_zero_le b8.1
      obtain ⟨z9, e9, _, w9⟩ := DataW.trod_int (k := .u64) (by kernel_rfl) h9
      have b9 : 0 ≤ z9 ∧ z9 ≤ 18446744073709551615 := by simpa [Lit.wf, IntKind.min, IntKind.max, IntKind.signed, IntKind.bits] using w9
      obtain ⟨z9, rfl⟩ := Int.eq_ofNat_of_zero_le b9.1
      simp only [List.cons.injEq, and_true] at e0 e1 e2 e3 e4 e5 e6 e7 e8 e9
      obtain ⟨rfl, rfl, rfl, rfl⟩ := e2
      obtain ⟨rfl, rfl, rfl, rfl⟩ := e3
      obtain ⟨rfl, rfl, rfl, rfl⟩ := e4
      subst e0 e1 e5 e6 e7 e8 e9
      exact ⟨⟨z0, z1, E2, E3, E4, z5, z6, z7, z8, z9⟩, rfl, by show z0 < _; omega, b1, ⟨x2, n2, s2⟩, ⟨x3, n3, s3⟩, ⟨x4, n4, s4⟩, by show z5 < _; omega, by show z6 < _; omega, by show z7 < _; omega, by show z8 < _; omega, by show z9 < _; omega⟩
/-- A slice of blocks. -/
theorem trod_blksS {fuel : Nat} {c3 : Value} {y : DataW H × List MemPlace} (h3 : DataW.trod enc Try.prog w base spare held fuel 27 [c3] = some y) (hz : ∀ n ∈ y.1.weights Try.prog 27, n ≤ reachBytes) :
    ∃ (A : Option Addr) (k c : Nat) (bs : Nat → BV), c3 = .slice A k c ∧ k < 4611686018427387904 ∧ BsL w A k bs ∧ (∀ i, i < k → (bs i).wf) ∧ SlA A k c := by
  have hR : reachBytes < 140737488355328 := by decide
  rcases DataW.trod_slice (e := 32) (by kernel_rfl) h3 with ⟨hcs, _⟩ | ⟨a, len, cap', elems, rest, f, hf, hcs, hx, hb, hl, hm, hlen, hel, _, _⟩
  · have e3 : c3 = .slice none 0 0 := by simpa using hcs
    subst e3
    exact ⟨none, 0, 0, fun _ => zeroB, rfl, by omega, fun h => by omega, fun i hi => by omega, fun _ => ⟨rfl, rfl⟩, Nat.le_refl _, Nat.zero_le _⟩
  · have e3 : c3 = .slice (some a) len cap' := by simpa using hcs
    subst e3
    have hC : Try.prog.cellsOf 32 = 5 := by kernel_rfl
    have hBy : Try.prog.bytesOf 32 = 48 := by kernel_rfl
    have hzs := hz
    rw [hx] at hzs
    simp only [DataW.weights, Try.underlying27] at hzs
    have bl : len < 4611686018427387904 := by
      have h8 := hzs _ List.mem_cons_self
      rw [hBy, List.length_map, hlen] at h8
      have h9 : len * 48 ≤ (len + (List.map (fun x => x.1) rest).length) * 48 := Nat.mul_le_mul_right _ (Nat.le_add_right _ _)
      omega
    have key : ∀ i, i < len → ∃ t : BV, (w.cell? ((a.add (i * 5)).add 0) = some (.int .i64 t.ty) ∧ w.cell? ((a.add (i * 5)).add 1) = some (.int .i64 t.num) ∧ w.cell? ((a.add (i * 5)).add 2) = some (.int .u64 (t.fl : Int)) ∧ w.cell? ((a.add (i * 5)).add 3) = some (.int .i64 t.crc) ∧ w.cell? ((a.add (i * 5)).add 4) = some (str t.data)) ∧ t.wf := by
      intro i hin
      have hi := hel i hin
      rw [List.getElem?_eq_getElem (by omega)] at hi
      obtain ⟨cs', hc, ht⟩ := Option.bind_eq_some_iff.1 hi
      obtain ⟨t, rfl, hw⟩ := trod_blkC ht
      rw [hC] at hc
      obtain ⟨_, hcl, hat⟩ := World.cells?_some hc
      exact ⟨t, ⟨hat 0 (by simp), hat 1 (by simp), hat 2 (by simp), hat 3 (by simp), hat 4 (by simp)⟩, hw⟩
    have key2 : ∀ i, ∃ t : BV, i < len → (w.cell? ((a.add (i * 5)).add 0) = some (.int .i64 t.ty) ∧ w.cell? ((a.add (i * 5)).add 1) = some (.int .i64 t.num) ∧ w.cell? ((a.add (i * 5)).add 2) = some (.int .u64 (t.fl : Int)) ∧ w.cell? ((a.add (i * 5)).add 3) = some (.int .i64 t.crc) ∧ w.cell? ((a.add (i * 5)).add 4) = some (str t.data)) ∧ t.wf := fun i => by
      by_cases hin : i < len
      · obtain ⟨t, h5⟩ := key i hin
        exact ⟨t, fun _ => h5⟩
      · exact ⟨zeroB, fun h => absurd h hin⟩
    obtain ⟨g, hg⟩ : ∃ g : Nat → BV, ∀ i, i < len → (w.cell? ((a.add (i * 5)).add 0) = some (.int .i64 (g i).ty) ∧ w.cell? ((a.add (i * 5)).add 1) = some (.int .i64 (g i).num) ∧ w.cell? ((a.add (i * 5)).add 2) = some (.int .u64 ((g i).fl : Int)) ∧ w.cell? ((a.add (i * 5)).add 3) = some (.int .i64 (g i).crc) ∧ w.cell? ((a.add (i * 5)).add 4) = some (str (g i).data)) ∧ (g i).wf :=
      ⟨fun i => Classical.choose (key2 i), fun i => Classical.choose_spec (key2 i)⟩
    refine ⟨some a, len, cap', g, rfl, bl, fun h0 => ?_, fun i hi => (hg i hi).2, (fun h => by cases h), hl, hm⟩
    obtain ⟨⟨z0, _⟩, _⟩ := hg 0 h0
    have z1 : w.cell? a = some (.int .i64 (g 0).ty) := by simpa [Addr.add] using z0
    have hsp := World.cell?_spot z1
    obtain ⟨ab, ao, sp⟩ := a
    simp only at hsp
    subst hsp
    refine ⟨ab, ao, rfl, World.block_lt_of_cell? w _ z1, fun i hin => ?_⟩
    obtain ⟨⟨g0, g1, g2, g3, g4⟩, _⟩ := hg i hin
    rw [addr_add, addr_add] at g0 g1 g2 g3 g4
    exact ⟨g0, g1, g2, g3, g4⟩
set_option maxRecDepth 100000 in
theorem open_bundleS {v : Value} {d : DataW H} {q : List MemPlace} (hval : Value.okWide Try.prog w r b0 29 v) (h : DataW.Trod enc Try.prog w base spare held 29 v d q) (hz : ∀ n ∈ d.weights Try.prog 29, n ≤ reachBytes) :
    ∃ (p : PV) (A : Option Addr) (k c : Nat) (bs : Nat → BV), v = bunV p A k c ∧ p.wf ∧ k < 4611686018427387904 ∧ BsL w A k bs ∧ (∀ i, i < k → (bs i).wf) ∧ SlA A k c := by
  obtain ⟨cs, rfl, hsz⟩ := okWide_struct Try.underlying29 hval
  obtain ⟨fuel, hf⟩ := h
  obtain ⟨ys, n', hn', hy, hlen, hyl, hfl⟩ := DataW.trod_struct Try.underlying29 hf
  have hcs : (Value.agg cs).cells.toList = cs.toList := rfl
  rw [hcs] at hlen hfl
  obtain ⟨L, hL⟩ : ∃ L, L = cs.toList := ⟨_, rfl⟩
  rw [← hL] at hlen hfl
  have hcsL : cs = L.toArray := by rw [hL]
  subst hcsL
  have hd : d = .agg (ys.map (·.1)) := by simpa using congrArg Prod.fst hy
  have hz' : ∀ n ∈ DataW.weightsEach Try.prog [26, 27] (ys.map (·.1)), n ≤ reachBytes := by
    intro n hn
    apply hz
    rw [hd]
    simp only [DataW.weights, Try.underlying29]
    exact hn
  clear hL hcs hf hval hsz hz
  have k1 : Try.prog.cellsOf 26 = 19 := by kernel_rfl
  have k2 : Try.prog.cellsOf 27 = 1 := by kernel_rfl
  match L, hlen with
  | [c0, c1, c2, c3, c4, c5, c6, c7, c8, c9, c10, c11, c12, c13, c14, c15, c16, c17, c18, c19], _ =>
    obtain ⟨y0, y1, rfl⟩ : ∃ y0 y1, ys = [y0, y1] := by clear hd hz' hy hfl; match ys, hyl with | [a, b], _ => exact ⟨a, b, rfl⟩
    · have h0 : DataW.trod enc Try.prog w base spare held n' 26 [c0, c1, c2, c3, c4, c5, c6, c7, c8, c9, c10, c11, c12, c13, c14, c15, c16, c17, c18] = some y0 := fldB k1 (hfl 0 _ rfl)
      have h1 : DataW.trod enc Try.prog w base spare held n' 27 [c19] = some y1 := fldB k2 (hfl 1 _ rfl)
      clear hfl
      obtain ⟨p, hp, hw⟩ := trod_priC h0
      obtain ⟨A, k, c, bs, rfl, hk, hL, hbw⟩ := trod_blksS h1 (fun n hn => hz' n (DataW.weights_mem_each (j := 1) rfl rfl n hn))
      refine ⟨p, A, k, c, bs, ?_, hw, hk, hL, hbw⟩
      simp only [PV.c, List.cons.injEq, and_true] at hp
      obtain ⟨rfl, rfl, rfl, rfl, rfl, rfl, rfl, rfl, rfl, rfl, rfl, rfl, rfl, rfl, rfl, rfl, rfl, rfl, rfl⟩ := hp
      rfl
set_option maxRecDepth 100000 in
theorem open_bundle {v : Value} {d : DataW H} {q : List MemPlace} (hval : Value.okWide Try.prog w r b0 29 v) (h : DataW.Trod enc Try.prog w base spare held 29 v d q) (hz : ∀ n ∈ d.weights Try.prog 29, n ≤ reachBytes) :
    ∃ (p : PV) (A : Option Addr) (k c : Nat) (bs : Nat → BV), v = bunV p A k c ∧ p.wf ∧ k < 4611686018427387904 ∧ BsL w A k bs ∧ ∀ i, i < k → (bs i).wf := by
  obtain ⟨p, A, k, c, bs, h1, h2, h3, h4, h5, _⟩ := open_bundleS hval h hz
  exact ⟨p, A, k, c, bs, h1, h2, h3, h4, h5⟩
end
end Go.Proofs.Ytkeabdfgacicaaa


namespace Go.Proofs.Ytkeabdfgacicaaa
open Go.ChangeShapes Go.WideShapes Go.ChangeAt Go.RowKit Go.Deep
set_option linter.unusedVariables false
set_option linter.unusedSimpArgs false

section
variable {H : Type} {enc : TypeId × Value → H} {w : World} {base b0 : Nat} {spare : Nat → Bool} {held : Bool} {r : Reach}
set_option maxRecDepth 100000 in
theorem open_block {v : Value} {d : DataW H} {p : List MemPlace} (hval : Value.okWide Try.prog w r b0 32 v) (h : DataW.Trod enc Try.prog w base spare held 32 v d p) :
    ∃ b : BV, v = b.v ∧ (-9223372036854775808 ≤ b.ty ∧ b.ty ≤ 9223372036854775807) ∧ (-9223372036854775808 ≤ b.num ∧ b.num ≤ 9223372036854775807) ∧ b.fl < 18446744073709551616 ∧ (-9223372036854775808 ≤ b.crc ∧ b.crc ≤ 9223372036854775807) := by
  obtain ⟨cs, rfl, hsz⟩ := okWide_struct Try.underlying32 hval
  obtain ⟨fuel, hf⟩ := h
  obtain ⟨ys, n', hn', hy, hlen, hyl, hfl⟩ := DataW.trod_struct Try.underlying32 hf
  have hcs : (Value.agg cs).cells.toList = cs.toList := rfl
  rw [hcs] at hlen hfl
  obtain ⟨L, hL⟩ : ∃ L, L = cs.toList := ⟨_, rfl⟩
  rw [← hL] at hlen hfl
  have hcsL : cs = L.toArray := by rw [hL]
  subst hcsL
  clear hL hcs hf hval hsz
  match L, hlen with
  | [c0, c1, c2, c3, c4], _ =>
    have h0 := field_at (by kernel_rfl) hfl (i := 0) rfl rfl
    have h1 := field_at (by kernel_rfl) hfl (i := 1) rfl rfl
    have h2 := field_at (by kernel_rfl) hfl (i := 2) rfl rfl
    have h3 := field_at (by kernel_rfl) hfl (i := 3) rfl rfl
    have h4 := field_at (by kernel_rfl) hfl (i := 4) rfl rfl
    clear hfl
    match ys, hyl with
    | [y0, y1, y2, y3, y4], _ =>
      obtain ⟨ty, e0, _, w0⟩ := DataW.trod_int (k := .i64) (by kernel_rfl) h0
      obtain ⟨num, e1, _, w1⟩ := DataW.trod_int (k := .i64) (by kernel_rfl) h1
      obtain ⟨fl, e2, _, w2⟩ := DataW.trod_int (k := .u64) (by kernel_rfl) h2
      obtain ⟨crc, e3, _, w3⟩ := DataW.trod_int (k := .i64) (by kernel_rfl) h3
      obtain ⟨s, e4, _, _⟩ := DataW.trod_string (by kernel_rfl) h4
      have q0 : c0 = .int .i64 ty := by have : [c0] = [Value.int .i64 ty] := e0; simpa using this
      have q1 : c1 = .int .i64 num := by have : [c1] = [Value.int .i64 num] := e1; simpa using this
      have q2 : c2 = .int .u64 fl := by have : [c2] = [Value.int .u64 fl] := e2; simpa using this
      have q3 : c3 = .int .i64 crc := by have : [c3] = [Value.int .i64 crc] := e3; simpa using this
      have q4 : c4 = .string s := by have : [c4] = [Value.string s] := e4; simpa using this
      subst q0 q1 q2 q3 q4
      have b0 : -9223372036854775808 ≤ ty ∧ ty ≤ 9223372036854775807 := by simpa [Lit.wf, IntKind.min, IntKind.max, IntKind.signed, IntKind.bits] using w0
      have b1 : -9223372036854775808 ≤ num ∧ num ≤ 9223372036854775807 := by simpa [Lit.wf, IntKind.min, IntKind.max, IntKind.signed, IntKind.bits] using w1
      have b2 : 0 ≤ fl ∧ fl ≤ 18446744073709551615 := by simpa [Lit.wf, IntKind.min, IntKind.max, IntKind.signed, IntKind.bits] using w2
      have b3 : -9223372036854775808 ≤ crc ∧ crc ≤ 9223372036854775807 := by simpa [Lit.wf, IntKind.min, IntKind.max, IntKind.signed, IntKind.bits] using w3
      obtain ⟨fl, rfl⟩ := Int.eq_ofNat_of_zero_le b2.1
      exact ⟨⟨ty, num, fl, crc, s.data.toList⟩, rfl, b0, b1, by show fl < _; omega, b3⟩
end
end Go.Proofs.Ytkeabdfgacicaaa


namespace Go.Proofs.Ytkeabdfgacicaaa
open Go.RowKit
set_option linter.unusedVariables false
set_option linter.unusedSimpArgs false

theorem few10L_any (e : EV) (w : World) : Calls Try.prog 45 #[.agg #[.int .i64 e.sch, str e.name, .int .u64 (e.node : Int), .int .u64 (e.svc : Int)]] w (Ret (.bool (decide (e.name.length ≤ 100))) w) := by
  go_enter Try.func45, Try.ntmps45
  go_wp2
  go_ret
  refine Ret.mk ?_ ((Mod.refl _ _).alloc _)
  simp
  omega
def PV.few (p : PV) : Bool := decide (p.d.name.length ≤ 100) && decide (p.s.name.length ≤ 100) && decide (p.r.name.length ≤ 100)
set_option maxRecDepth 20000 in
set_option maxHeartbeats 800000 in
theorem few11P_any (p : PV) (w : World) : Calls Try.prog 23 #[.agg p.c] w (Ret (.bool p.few) w) := by
  have HE := hid ((Mod.refl [] w).alloc (.cells p.c 26))
  have HB := hid (Blk.new w 26 p.c)
  have HF : Hid (p.few = (decide (p.d.name.length ≤ 100) && decide (p.s.name.length ≤ 100) && decide (p.r.name.length ≤ 100))) := rfl
  have K1 := hid (fun W => few10L_any p.d W)
  have K2 := hid (fun W => few10L_any p.s W)
  have K3 := hid (fun W => few10L_any p.r W)
  cases h1 : decide (p.d.name.length ≤ 100)
  all_goals cases h2 : decide (p.s.name.length ≤ 100)
  all_goals cases h3 : decide (p.r.name.length ≤ 100)
  all_goals rw [h1] at K1 HF
  all_goals rw [h2] at K2 HF
  all_goals rw [h3] at K3 HF
  all_goals clear h1 h2 h3
  all_goals go_enter Try.func23, Try.ntmps23
  all_goals go_upto_region 1 with fail
  all_goals generalize w.alloc (.cells p.c 26) = V at *
  all_goals have b2 : ∀ e : Later V, e.x.cell? ⟨w.heap.size, 2, none⟩ = some (.int .i64 p.d.sch) := HB.out.cellL 2 rfl
  all_goals have b3 : ∀ e : Later V, e.x.cell? ⟨w.heap.size, 3, none⟩ = some (str p.d.name) := HB.out.cellL 3 rfl
  all_goals have b4 : ∀ e : Later V, e.x.cell? ⟨w.heap.size, 4, none⟩ = some (.int .u64 (p.d.node : Int)) := HB.out.cellL 4 rfl
  all_goals have b5 : ∀ e : Later V, e.x.cell? ⟨w.heap.size, 5, none⟩ = some (.int .u64 (p.d.svc : Int)) := HB.out.cellL 5 rfl
  all_goals have b6 : ∀ e : Later V, e.x.cell? ⟨w.heap.size, 6, none⟩ = some (.int .i64 p.s.sch) := HB.out.cellL 6 rfl
  all_goals have b7 : ∀ e : Later V, e.x.cell? ⟨w.heap.size, 7, none⟩ = some (str p.s.name) := HB.out.cellL 7 rfl
  all_goals have b8 : ∀ e : Later V, e.x.cell? ⟨w.heap.size, 8, none⟩ = some (.int .u64 (p.s.node : Int)) := HB.out.cellL 8 rfl
  all_goals have b9 : ∀ e : Later V, e.x.cell? ⟨w.heap.size, 9, none⟩ = some (.int .u64 (p.s.svc : Int)) := HB.out.cellL 9 rfl
  all_goals have b10 : ∀ e : Later V, e.x.cell? ⟨w.heap.size, 10, none⟩ = some (.int .i64 p.r.sch) := HB.out.cellL 10 rfl
  all_goals have b11 : ∀ e : Later V, e.x.cell? ⟨w.heap.size, 11, none⟩ = some (str p.r.name) := HB.out.cellL 11 rfl
  all_goals have b12 : ∀ e : Later V, e.x.cell? ⟨w.heap.size, 12, none⟩ = some (.int .u64 (p.r.node : Int)) := HB.out.cellL 12 rfl
  all_goals have b13 : ∀ e : Later V, e.x.cell? ⟨w.heap.size, 13, none⟩ = some (.int .u64 (p.r.svc : Int)) := HB.out.cellL 13 rfl
  all_goals obtain ⟨e0, he0⟩ := Later.self V
  all_goals rw [he0]
  all_goals clear he0
  all_goals go_wp2_with (go_at_call 45; first | ((with_reducible refine (Ret.later (K1.out _)).mono ?_); rintro x _ ⟨rfl, e1, rfl⟩) | ((with_reducible refine (Ret.later (K2.out _)).mono ?_); rintro x _ ⟨rfl, e1, rfl⟩) | ((with_reducible refine (Ret.later (K3.out _)).mono ?_); rintro x _ ⟨rfl, e1, rfl⟩))
  all_goals go_ret
  all_goals exact Ret.mk (by rw [HF.out]; rfl) (HE.out.trans e1.h)
def bsFew (bs : Nat → BV) (i : Nat) : Bool := decide (4100 < (bs i).data.length)
def bunFew (p : PV) (bs : Nat → BV) (k : Nat) : Bool := decide (k ≤ 20) && ((firstOf (bsFew bs) k).isNone && p.few)
theorem bunFew_spec {p : PV} {bs : Nat → BV} {k : Nat} (h : bunFew p bs k = true) : k ≤ 20 ∧ p.few = true ∧ ∀ i, i < k → (bs i).data.length ≤ 4100 := by
  unfold bunFew at h
  simp only [Bool.and_eq_true, decide_eq_true_eq] at h
  refine ⟨h.1, h.2.2, fun i hi => ?_⟩
  cases hf : firstOf (bsFew bs) k with
  | some x => rw [hf] at h; simp at h
  | none =>
    have := firstOf_no hf i hi
    unfold bsFew at this
    simp at this
    exact this
theorem bunFew_long {p : PV} {bs : Nat → BV} {k i : Nat} (hi : i < k) (h : 4100 < (bs i).data.length) : bunFew p bs k = false := by
  cases hb : bunFew p bs k with
  | false => rfl
  | true => have := (bunFew_spec hb).2.2 i hi; omega
set_option maxRecDepth 20000 in
set_option maxHeartbeats 800000 in
theorem few13_any (p : PV) (bs : Nat → BV) (k c : Nat) (A : Option Addr) (hk : k < 4611686018427387904) (w : World) (h : BsL w A k bs) : Calls Try.prog 9 #[bunV p A k c] w (Ret (.bool (bunFew p bs k)) w) := by
  have KF := hid (fun W => few11P_any p W)
  have HE := hid ((Mod.refl [] w).alloc (.cells (bunC p A k c) 29))
  have HB := hid (Blk.new w 29 (bunC p A k c))
  have HL := hid (BsL.ext h HE.out)
  have k1 : (k : Int) < 4611686018427387904 := by omega
  have HK := hid hk
  clear h hk
  go_enter Try.func9, Try.ntmps9
  go_wp2_with fail
  generalize w.alloc (.cells (bunC p A k c) 29) = V at *
  have b19 : ∀ e : Later V, e.x.cell? ⟨w.heap.size, 19, none⟩ = some (.slice A k c) := HB.out.cellL 19 rfl
  obtain ⟨e0, he0⟩ := Later.self V
  go_loopw [3] (fun s3 wr => ∃ i : Nat, s3 = .int .i64 (i : Int) ∧ Hid (i ≤ k ∧ i ≤ 30 ∧ ∀ j, j < i → (bs j).data.length ≤ 4100) ∧ ∃ e : Later V, wr = e.x) (fun s3 _ => 30 - (intOf s3).toNat)
  case atStart => exact ⟨0, rfl, (show Hid _ from ⟨by omega, by omega, fun j hj => by omega⟩), e0, he0⟩
  case round =>
    clear he0 e0
    obtain ⟨i, rfl, hi, e, rfl⟩ := hrel
    have i0 : (0 : Int) ≤ (i : Int) := by omega
    by_cases hlt : i < k ∧ i < 30
    · obtain ⟨hlt, hl30⟩ := hlt
      obtain ⟨b, o, rfl, hb, q0, q1, q2, q3, q4⟩ := HL.out.cells hlt
      have tc : decide (i < k) = true := by simp [hlt]
      have tc3 : decide ((i : Int) < 30) = true := by simp; omega
      have i1 : (i : Int) < (k : Int) := by omega
      have HLT := hid hlt
      have HL30 := hid hl30
      clear hlt hl30 q0 q1 q2 q3
      by_cases ht : 4100 < (bs i).data.length
      · have t1 : decide (4100 < ((bs i).data.length : Int)) = true := by simp; omega
        have t2 : (4100 < (bs i).data.length) = True := by simp; omega
        have HF := hid (bunFew_long (p := p) HLT.out ht)
        clear ht
        go_wp2_with fail
        go_ret
        exact Ret.mk (by rw [HF.out]; rfl) (HE.out.trans e.h)
      · have t1 : decide (4100 < ((bs i).data.length : Int)) = false := by simp; omega
        have t2 : (4100 < (bs i).data.length) = False := by simp; omega
        have HN := hid ht
        clear ht
        go_wp2_with fail
        go_roundw
        case rel => exact ⟨i + 1, by go_num, (show Hid _ from ⟨HLT.out, HL30.out, fun j hj => by
          by_cases hji : j = i
          · subst hji; have := HN.out; omega
          · exact hi.out.2.2 j (by omega)⟩), e, rfl⟩
        case measure => have := HL30.out; simp [intOf]; omega
    · by_cases hk20 : k ≤ 20
      · obtain rfl : i = k := by have := hi.out; omega
        have tc : decide (i < i) = false := by simp
        have t20 : decide ((i : Int) ≤ 20) = true := by simp; omega
        have HF : Hid (bunFew p bs i = p.few) := by
          unfold Hid bunFew
          rw [firstOf_none (fun j hj => by unfold bsFew; have := hi.out.2.2 j hj; simp; omega)]
          simp [hk20]
        clear hlt hk20
        have HPR : Hid (∀ e : Later V, e.x.rangeAt w.heap.size 0 p.c.toList) := HB.out.range 0 19 (by rw [Array.toList_extract]; rfl)
        go_wp2_with (first | (refine wpList_mid (by rfl) 26 _ rfl _ 0 rfl _ _ (HPR.out e) Try.underlying26 rfl (by kernel_rfl) ?_) | (go_at_call 23; refine (Ret.later (KF.out _)).mono ?_; rintro x _ ⟨rfl, e1, rfl⟩))
        go_ret
        exact Ret.mk (by rw [HF.out]; rfl) (HE.out.trans e1.h)
      · have t20 : decide ((k : Int) ≤ 20) = false := by simp; omega
        have HF : Hid (bunFew p bs k = false) := by unfold Hid bunFew; simp [hk20]
        by_cases hik : i < k
        · have tc : decide (i < k) = true := by simp [hik]
          have tc3 : decide ((i : Int) < 30) = false := by have := hi.out; simp; omega
          clear hlt hk20 hik
          go_wp2_with fail
          go_ret
          exact Ret.mk (by rw [HF.out]; rfl) (HE.out.trans e.h)
        · obtain rfl : i = k := by have := hi.out; omega
          have tc : decide (i < i) = false := by simp
          clear hlt hk20 hik
          go_wp2_with fail
          go_ret
          exact Ret.mk (by rw [HF.out]; rfl) (HE.out.trans e.h)
end Go.Proofs.Ytkeabdfgacicaaa


namespace Go.Proofs.Ytkeabdfgacicaaa
open Go.RowKit
set_option linter.unusedVariables false
set_option linter.unusedSimpArgs false

theorem Crc.rv_succ : ∀ (i n : Nat), Crc.rv (i + 1) n = 2 * Crc.rv i n + n / 2 ^ i % 2
  | 0, n => by simp [Crc.rv]
  | i + 1, n => by
    have h := Crc.rv_succ i (n / 2)
    have e : n / 2 / 2 ^ i = n / 2 ^ (i + 1) := by rw [Nat.div_div_eq_div_mul, Nat.pow_succ, Nat.mul_comm]
    have e2 : 2 ^ (i + 1) * (n % 2) = 2 * (2 ^ i * (n % 2)) := by rw [Nat.pow_succ, Nat.mul_comm (2 ^ i) 2, Nat.mul_assoc]
    have e3 : Crc.rv (i + 1 + 1) n = 2 ^ (i + 1) * (n % 2) + Crc.rv (i + 1) (n / 2) := rfl
    have e4 : Crc.rv (i + 1) n = 2 ^ i * (n % 2) + Crc.rv i (n / 2) := rfl
    rw [e3, h, e4, e, e2]
    omega

set_option maxHeartbeats 400000 in
theorem turn_n (n : Nat) (hn : Hid (n < 4294967296)) (size : Nat) (hs : Hid (size ≤ 32)) (w : World) : Calls Try.prog 140 #[.int .u64 (n : Int), .int .i64 (size : Int)] w (Ret (.int .u64 (Crc.rv size n : Nat)) w) := by
  go_enter Try.func140, Try.ntmps140
  go_wp2
  go_loopw [0, 5, 6] (fun x o i wr => ∃ j : Nat, j ≤ size ∧ i = .int .i64 j ∧ o = .int .u64 ((Crc.rv j n : Nat) : Int) ∧ x = .int .u64 ((n / 2 ^ j : Nat) : Int) ∧ Ext w wr) (fun _ _ i _ => size - (intOf i).toNat)
  case atStart => exact ⟨0, Nat.zero_le _, rfl, rfl, by simp, Mod.refl _ _⟩
  case round =>
    obtain ⟨j, hj, rfl, rfl, rfl, hb⟩ := hrel
    by_cases hlt : j < size
    · have h32 := hs.out
      have HS := hid (Crc.rv_succ j n)
      have hx : n / 2 ^ (j + 1) = n / 2 ^ j / 2 := by rw [Nat.div_div_eq_div_mul, Nat.pow_succ]
      have HX := hid hx; clear hx
      have hr : Crc.rv j n < 4294967296 := Nat.lt_of_lt_of_le (Crc.rv_lt j n) (show 2 ^ j ≤ 2 ^ 32 from Nat.pow_le_pow_right (by omega) (by omega))
      have hq : n / 2 ^ j < 4294967296 := Nat.lt_of_le_of_lt (Nat.div_le_self _ _) hn.out
      generalize Crc.rv j n = r at *
      generalize n / 2 ^ j = q at *
      go_wp2
      go_roundw
      case rel => exact ⟨j + 1, by omega, by go_num, by rw [HS.out]; go_num, by rw [HX.out]; go_num, hb⟩
      case measure => simp [intOf]; omega
    · obtain rfl : j = size := by omega
      go_wp2
      go_ret
      exact ⟨rfl, hb⟩

set_option maxHeartbeats 400000 in
theorem divisor_16 (w : World) : Calls Try.prog 139 #[.int .i64 16] w (Ret (.int .u64 4129) w) := by
  go_enter Try.func139, Try.ntmps139
  go_wp2
  go_ret
  exact Ret.mk rfl (Mod.refl _ _)
def Crc.tab : List Nat := [28, 27, 26, 25, 23, 22, 20, 19, 18, 14, 13, 11, 10, 9, 8, 6, 0]
def Crc.dv (j : Nat) : Nat := ((Crc.tab.take j).map (2 ^ ·)).sum
theorem Crc.dv_succ : ∀ j : Fin 17, Crc.dv (j.val + 1) = Crc.dv j.val + 2 ^ (Crc.tab.getD j.val 0) ∧ Crc.dv j.val ≤ 517762881 ∧ Crc.tab.getD j.val 0 ≤ 28 := by decide
set_option maxHeartbeats 400000 in
theorem divisor_32 (w : World) : Calls Try.prog 139 #[.int .i64 32] w (Ret (.int .u64 517762881) w) := by
  go_enter Try.func139, Try.ntmps139
  go_wp2
  have hext := hid ((Mod.refl [] w).alloc (.cells ((Crc.tab.map fun (n : Nat) => Value.int .i64 (n : Int)).toArray) 187))
  have hcell : Hid (∀ j, j < 17 → (w.alloc (.cells ((Crc.tab.map fun (n : Nat) => Value.int .i64 (n : Int)).toArray) 187)).cell? ⟨w.heap.size, j, none⟩ = some (.int .i64 ((Crc.tab.getD j 0 : Nat) : Int))) := fun j hj => by
    rw [(Blk.new w 187 _).cell j]
    have h : j < Crc.tab.length := hj
    simp [h]
  have hW : ∃ W, W = w.alloc (.cells ((Crc.tab.map fun (n : Nat) => Value.int .i64 (n : Int)).toArray) 187) := ⟨_, rfl⟩
  obtain ⟨W, hW⟩ := hW
  rw [← hW] at hext hcell
  change Code.wp _ _ _ _ (w.alloc (.cells ((Crc.tab.map fun (n : Nat) => Value.int .i64 (n : Int)).toArray) 187))
  rw [← hW]
  clear hW
  go_loop [3, 5, 6, 7] (fun n i p k => ∃ j : Nat, j ≤ 17 ∧ i = .int .i64 j ∧ n = .int .u64 ((Crc.dv j : Nat) : Int)) (fun _ i _ _ => 17 - (intOf i).toNat)
  case atStart => exact ⟨0, Nat.zero_le _, rfl, rfl⟩
  case round =>
    obtain ⟨j, hj, rfl, rfl⟩ := hrel
    by_cases hlt : j < 17
    · have hc := hcell.out j hlt
      obtain ⟨hd, hd2, ht⟩ := Crc.dv_succ ⟨j, hlt⟩
      simp only [] at hd hd2 ht
      have HD := hid hd; clear hd
      generalize Crc.tab.getD j 0 = t at *
      generalize Crc.dv j = d at *
      go_wp2
      go_loop [6, 7] (fun p k => ∃ i : Nat, i ≤ t ∧ k = .int .i64 i ∧ p = .int .u64 ((2 ^ i : Nat) : Int)) (fun _ k => t - (intOf k).toNat)
      case atStart => exact ⟨0, Nat.zero_le _, rfl, rfl⟩
      case round =>
        obtain ⟨i, hi, rfl, rfl⟩ := hrel
        have hp : 2 ^ i ≤ 268435456 := show 2 ^ i ≤ 2 ^ 28 from Nat.pow_le_pow_right (by omega) (by omega)
        by_cases hil : i < t
        · have HS := hid (Nat.pow_succ 2 i)
          generalize 2 ^ i = x at *
          go_wp2
          go_round
          case rel => exact ⟨i + 1, by omega, by go_num, by rw [HS.out]; go_num⟩
          case measure => simp [intOf]; omega
        · obtain rfl : i = t := by omega
          generalize 2 ^ i = x at *
          go_wp2
          go_round
          case rel => exact ⟨j + 1, by omega, by go_num, by rw [HD.out]; go_num⟩
          case measure => simp [intOf]; omega
    · obtain rfl : j = 17 := by omega
      go_wp2
      go_ret
      have e : Crc.dv 17 = 517762881 := by decide
      refine ⟨?_, hext.out⟩
      show Ending.returned (.int .u64 ((Crc.dv 17 : Nat) : Int)) = _
      rw [e]; rfl
end Go.Proofs.Ytkeabdfgacicaaa


namespace Go.Proofs.Ytkeabdfgacicaaa
open Go.RowKit
set_option linter.unusedVariables false
set_option linter.unusedSimpArgs false

theorem Crc.stepR_lt {m d r b : Nat} (hd : d < 2 ^ m) : Crc.stepR (2 ^ m) d r b < 2 ^ m := by
  have := Nat.mod_lt (r * 2) (Nat.two_pow_pos m)
  unfold Crc.stepR
  split
  · exact this
  · exact Nat.xor_lt_two_pow this hd

theorem Crc.x_16 (l : List UInt8) : Crc.rv 16 (65535 - Crc.divR 65536 4129 65535 l) = Crc.x25 l := Crc.sums (m := 15) (p := 33800) (by decide) l
theorem Crc.r_16 {r c : Nat} : Crc.stepR 65536 4129 r c = if r / 32768 = c then r * 2 % 65536 else (r * 2 % 65536) ^^^ 4129 := rfl
set_option maxHeartbeats 800000 in
theorem Sum16 (l : List UInt8) (hl : Hid (l.length < 1000000)) (w : World) : Calls Try.prog 134 #[.int .i64 16, str l] w (Ret (.int .u64 (Crc.x25 l : Nat)) w) := by
  obtain ⟨T, hT⟩ : ∃ T, T = Crc.divR 65536 4129 65535 l := ⟨_, rfl⟩
  have hX := Crc.x_16 l
  rw [← hT] at hX
  rw [← hX]
  have HT := hid hT; clear hT hX
  go_enter Try.func134, Try.ntmps134
  go_wp2_with fail
  go_loop [5, 6] (fun t i => ∃ j : Nat, j ≤ 16 ∧ i = .int .i64 j ∧ t = .int .u64 ((2 ^ j : Nat) : Int)) (fun _ i => 16 - (intOf i).toNat)
  case atStart => exact ⟨0, Nat.zero_le _, rfl, rfl⟩
  case round =>
    obtain ⟨j, hj, rfl, rfl⟩ := hrel
    have hp : 2 ^ j ≤ 4294967296 := show 2 ^ j ≤ 2 ^ 32 from Nat.pow_le_pow_right (by omega) (by omega)
    by_cases hlt : j < 16
    · have HS := hid (Nat.pow_succ 2 j)
      generalize 2 ^ j = x at *
      go_wp2_with fail
      go_round
      case rel => exact ⟨j + 1, by omega, by go_num, by rw [HS.out]; go_num⟩
      case measure => simp [intOf]; omega
    · obtain rfl : j = 16 := by omega
      have e2 : (2 : Nat) ^ 16 = 65536 := by decide
      rw [e2]
      clear e2 hp
      go_wp2_with fail
      refine (divisor_16 _).mono ?_
      rintro e w1 ⟨rfl, hb1⟩
      go_wp2_with fail
      go_loop [7, 9, 10, 11, 12, 13] (fun r i c k bt h => ∃ j x : Nat, j ≤ l.length ∧ x < 65536 ∧ i = .int .i64 j ∧ r = .int .u64 (x : Int) ∧ Hid (T = Crc.divR 65536 4129 x (l.drop j))) (fun _ i _ _ _ _ => l.length - (intOf i).toNat)
      case atStart => exact ⟨0, 65535, Nat.zero_le _, by omega, rfl, rfl, HT⟩
      case round =>
        obtain ⟨j, x, hj, hx, rfl, rfl, HR⟩ := hrel
        have hl2 : l.length < 1000000 := hl.out
        by_cases hlt : j < l.length
        · have HS : Hid (T = Crc.divR 65536 4129 (Crc.stepsR 65536 4129 8 x (l[j]).toNat) (l.drop (j + 1))) := by
            have h1 := HR.out
            rw [List.drop_eq_getElem_cons hlt] at h1
            exact h1
          clear HR
          have hc8 := (l[j]).toNat_lt
          go_wp2_with fail
          generalize hcn : (l[j]).toNat = cn at *
          have HCN := hid hcn; clear hcn
          go_loop [7, 10, 11, 12, 13] (fun r c k bt h => ∃ n y d : Nat, n ≤ 8 ∧ y < 65536 ∧ d < 256 ∧ k = .int .i64 n ∧ r = .int .u64 (y : Int) ∧ c = .int .i64 (d : Int) ∧ Hid (Crc.stepsR 65536 4129 (8 - n) y d = Crc.stepsR 65536 4129 8 x cn)) (fun _ _ k _ _ => 8 - (intOf k).toNat)
          case atStart => exact ⟨0, x, cn, by omega, hx, by omega, rfl, rfl, (by show Value.int .i64 (wrap64 ((l[j]).toNat : Int)) = _; rw [HCN.out]; congr 1; exact IntWalk.wrap64_in _ (by omega)), rfl⟩
          case round =>
            obtain ⟨n, y, d, hn, hy, hd, rfl, rfl, rfl, HQ⟩ := hrel
            by_cases hn8 : n < 8
            · have HN : Hid (Crc.stepsR 65536 4129 (8 - (n + 1)) (Crc.stepR 65536 4129 y (d % 2)) (d / 2) = Crc.stepsR 65536 4129 8 x cn) := by
                have h1 := HQ.out
                rw [show 8 - n = (8 - (n + 1)) + 1 by omega] at h1
                exact h1
              have hL := Crc.stepR_lt (m := 16) (d := 4129) (r := y) (b := d % 2) (by decide)
              clear HQ
              by_cases hbit : y / 32768 = d % 2
              · have hE : Crc.stepR 65536 4129 y (d % 2) = y * 2 % 65536 := by rw [Crc.r_16, if_pos hbit]
                rw [hE] at HN hL
                go_wp2_with fail
                go_round
                case rel => exact ⟨n + 1, _, d / 2, by omega, hL, by omega, by go_num, by simp, by simp, HN⟩
                case measure => simp [intOf]; omega
              · have hE : Crc.stepR 65536 4129 y (d % 2) = (y * 2 % 65536) ^^^ 4129 := by rw [Crc.r_16, if_neg hbit]
                have tX := u64_xor_nat (y * 2 % 65536) 4129 (by omega) (by omega)
                rw [hE] at HN hL
                go_wp2_with fail
                go_round
                case rel => exact ⟨n + 1, _, d / 2, by omega, hL, by omega, by go_num, by rw [← tX]; simp, by simp, HN⟩
                case measure => simp [intOf]; omega
            · obtain rfl : n = 8 := by omega
              have h1 : y = Crc.stepsR 65536 4129 8 x cn := HQ.out
              subst h1
              clear HQ
              go_wp2_with fail
              go_round
              case rel => exact ⟨j + 1, _, by omega, hy, by go_num, rfl, HS⟩
              case measure => simp [intOf]; omega
        · obtain rfl : j = l.length := by omega
          have h1 := HR.out
          rw [List.drop_length] at h1
          have h2 : T = x := h1
          subst h2
          clear HR h1
          go_wp2_with fail
          have K := hid (fun W => turn_n (65535 - T) (by unfold Hid; omega) 16 (by unfold Hid; omega) W)
          have e5 : ((65535 - T : Nat) : Int) = 65535 - (T : Int) := by omega
          rw [e5] at K
          refine (K.out _).mono ?_
          rintro e w2 ⟨rfl, hb2⟩
          go_wp2_with fail
          go_ret
          exact Ret.mk rfl (hb1.trans hb2)

theorem Crc.x_32 (l : List UInt8) : Crc.rv 32 (4294967295 - Crc.divR 4294967296 517762881 4294967295 l) = Crc.cast l := Crc.sums (m := 31) (p := 2197175160) (by decide) l
theorem Crc.r_32 {r c : Nat} : Crc.stepR 4294967296 517762881 r c = if r / 2147483648 = c then r * 2 % 4294967296 else (r * 2 % 4294967296) ^^^ 517762881 := rfl
set_option maxHeartbeats 800000 in
theorem Sum32 (l : List UInt8) (hl : Hid (l.length < 1000000)) (w : World) : Calls Try.prog 134 #[.int .i64 32, str l] w (Ret (.int .u64 (Crc.cast l : Nat)) w) := by
  obtain ⟨T, hT⟩ : ∃ T, T = Crc.divR 4294967296 517762881 4294967295 l := ⟨_, rfl⟩
  have hX := Crc.x_32 l
  rw [← hT] at hX
  rw [← hX]
  have HT := hid hT; clear hT hX
  go_enter Try.func134, Try.ntmps134
  go_wp2_with fail
  go_loop [5, 6] (fun t i => ∃ j : Nat, j ≤ 32 ∧ i = .int .i64 j ∧ t = .int .u64 ((2 ^ j : Nat) : Int)) (fun _ i => 32 - (intOf i).toNat)
  case atStart => exact ⟨0, Nat.zero_le _, rfl, rfl⟩
  case round =>
    obtain ⟨j, hj, rfl, rfl⟩ := hrel
    have hp : 2 ^ j ≤ 4294967296 := show 2 ^ j ≤ 2 ^ 32 from Nat.pow_le_pow_right (by omega) (by omega)
    by_cases hlt : j < 32
    · have HS := hid (Nat.pow_succ 2 j)
      generalize 2 ^ j = x at *
      go_wp2_with fail
      go_round
      case rel => exact ⟨j + 1, by omega, by go_num, by rw [HS.out]; go_num⟩
      case measure => simp [intOf]; omega
    · obtain rfl : j = 32 := by omega
      have e2 : (2 : Nat) ^ 32 = 4294967296 := by decide
      rw [e2]
      clear e2 hp
      go_wp2_with fail
      refine (divisor_32 _).mono ?_
      rintro e w1 ⟨rfl, hb1⟩
      go_wp2_with fail
      go_loop [7, 9, 10, 11, 12, 13] (fun r i c k bt h => ∃ j x : Nat, j ≤ l.length ∧ x < 4294967296 ∧ i = .int .i64 j ∧ r = .int .u64 (x : Int) ∧ Hid (T = Crc.divR 4294967296 517762881 x (l.drop j))) (fun _ i _ _ _ _ => l.length - (intOf i).toNat)
      case atStart => exact ⟨0, 4294967295, Nat.zero_le _, by omega, rfl, rfl, HT⟩
      case round =>
        obtain ⟨j, x, hj, hx, rfl, rfl, HR⟩ := hrel
        have hl2 : l.length < 1000000 := hl.out
        by_cases hlt : j < l.length
        · have HS : Hid (T = Crc.divR 4294967296 517762881 (Crc.stepsR 4294967296 517762881 8 x (l[j]).toNat) (l.drop (j + 1))) := by
            have h1 := HR.out
            rw [List.drop_eq_getElem_cons hlt] at h1
            exact h1
          clear HR
          have hc8 := (l[j]).toNat_lt
          go_wp2_with fail
          generalize hcn : (l[j]).toNat = cn at *
          have HCN := hid hcn; clear hcn
          go_loop [7, 10, 11, 12, 13] (fun r c k bt h => ∃ n y d : Nat, n ≤ 8 ∧ y < 4294967296 ∧ d < 256 ∧ k = .int .i64 n ∧ r = .int .u64 (y : Int) ∧ c = .int .i64 (d : Int) ∧ Hid (Crc.stepsR 4294967296 517762881 (8 - n) y d = Crc.stepsR 4294967296 517762881 8 x cn)) (fun _ _ k _ _ => 8 - (intOf k).toNat)
          case atStart => exact ⟨0, x, cn, by omega, hx, by omega, rfl, rfl, (by show Value.int .i64 (wrap64 ((l[j]).toNat : Int)) = _; rw [HCN.out]; congr 1; exact IntWalk.wrap64_in _ (by omega)), rfl⟩
          case round =>
            obtain ⟨n, y, d, hn, hy, hd, rfl, rfl, rfl, HQ⟩ := hrel
            by_cases hn8 : n < 8
            · have HN : Hid (Crc.stepsR 4294967296 517762881 (8 - (n + 1)) (Crc.stepR 4294967296 517762881 y (d % 2)) (d / 2) = Crc.stepsR 4294967296 517762881 8 x cn) := by
                have h1 := HQ.out
                rw [show 8 - n = (8 - (n + 1)) + 1 by omega] at h1
                exact h1
              have hL := Crc.stepR_lt (m := 32) (d := 517762881) (r := y) (b := d % 2) (by decide)
              clear HQ
              by_cases hbit : y / 2147483648 = d % 2
              · have hE : Crc.stepR 4294967296 517762881 y (d % 2) = y * 2 % 4294967296 := by rw [Crc.r_32, if_pos hbit]
                rw [hE] at HN hL
                go_wp2_with fail
                go_round
                case rel => exact ⟨n + 1, _, d / 2, by omega, hL, by omega, by go_num, by simp, by simp, HN⟩
                case measure => simp [intOf]; omega
              · have hE : Crc.stepR 4294967296 517762881 y (d % 2) = (y * 2 % 4294967296) ^^^ 517762881 := by rw [Crc.r_32, if_neg hbit]
                have tX := u64_xor_nat (y * 2 % 4294967296) 517762881 (by omega) (by omega)
                rw [hE] at HN hL
                go_wp2_with fail
                go_round
                case rel => exact ⟨n + 1, _, d / 2, by omega, hL, by omega, by go_num, by rw [← tX]; simp, by simp, HN⟩
                case measure => simp [intOf]; omega
            · obtain rfl : n = 8 := by omega
              have h1 : y = Crc.stepsR 4294967296 517762881 8 x cn := HQ.out
              subst h1
              clear HQ
              go_wp2_with fail
              go_round
              case rel => exact ⟨j + 1, _, by omega, hy, by go_num, rfl, HS⟩
              case measure => simp [intOf]; omega
        · obtain rfl : j = l.length := by omega
          have h1 := HR.out
          rw [List.drop_length] at h1
          have h2 : T = x := h1
          subst h2
          clear HR h1
          go_wp2_with fail
          have K := hid (fun W => turn_n (4294967295 - T) (by unfold Hid; omega) 32 (by unfold Hid; omega) W)
          have e5 : ((4294967295 - T : Nat) : Int) = 4294967295 - (T : Int) := by omega
          rw [e5] at K
          refine (K.out _).mono ?_
          rintro e w2 ⟨rfl, hb2⟩
          go_wp2_with fail
          go_ret
          exact Ret.mk rfl (hb1.trans hb2)
end Go.Proofs.Ytkeabdfgacicaaa


namespace Go.Proofs.Ytkeabdfgacicaaa
open Go.RowKit
set_option linter.unusedVariables false
set_option linter.unusedSimpArgs false

set_option maxRecDepth 20000 in
theorem R4B_1 (l : List UInt8) (hl : Hid (l.length < 1000000)) (w : World) : Calls Try.prog 122 #[.int .i64 1, str l] w (Ret (str (be (Crc.x25 l) 2)) w) := by
  have hd : Crc.x25 l < 65536 := by unfold Crc.x25; omega
  have K := hid (fun W => Sum16 l hl W)
  generalize Crc.x25 l = d at *
  have hcv : ∀ W : World, (convert 58 9 (.slice (some ⟨W.heap.size, 0, none⟩) 2 2)).run Try.prog (W.alloc (.cells #[.int .u8 ((d : Int) / 256), .int .u8 ((d : Int) % 256)] 5)) = .ok (str (be d 2)) (W.alloc (.cells #[.int .u8 ((d : Int) / 256), .int .u8 ((d : Int) % 256)] 5)) := fun W => by
    have := conv_new (be d 2) 2 W
    rw [be_length, be2 hd] at this
    simpa [b8_cast (show d / 256 < 256 by omega), b8_cast (show d % 256 < 256 by omega), be2 hd] using this
  go_enter Try.func122, Try.ntmps122
  go_wp2_with fail
  refine (K.out _).mono ?_
  rintro e w1 ⟨rfl, hb1⟩
  go_wp2_with fail
  go_ret
  exact Ret.mk rfl (hb1.alloc _)
set_option maxRecDepth 20000 in
theorem R4B_2 (l : List UInt8) (hl : Hid (l.length < 1000000)) (w : World) : Calls Try.prog 122 #[.int .i64 2, str l] w (Ret (str (be (Crc.cast l) 4)) w) := by
  have hd : Crc.cast l < 4294967296 := by unfold Crc.cast; omega
  have K := hid (fun W => Sum32 l hl W)
  generalize Crc.cast l = d at *
  have hcv : ∀ W : World, (convert 58 9 (.slice (some ⟨W.heap.size, 0, none⟩) 4 4)).run Try.prog (W.alloc (.cells #[.int .u8 ((d : Int) / 16777216), .int .u8 ((d : Int) / 65536 % 256), .int .u8 ((d : Int) / 256 % 256), .int .u8 ((d : Int) % 256)] 5)) = .ok (str (be d 4)) (W.alloc (.cells #[.int .u8 ((d : Int) / 16777216), .int .u8 ((d : Int) / 65536 % 256), .int .u8 ((d : Int) / 256 % 256), .int .u8 ((d : Int) % 256)] 5)) := fun W => by
    have := conv_new (be d 4) 4 W
    rw [be_length, be4 hd] at this
    simpa [b8_cast (show d / 16777216 < 256 by omega), b8_cast (show d / 65536 % 256 < 256 by omega), b8_cast (show d / 256 % 256 < 256 by omega), b8_cast (show d % 256 < 256 by omega), be4 hd] using this
  go_enter Try.func122, Try.ntmps122
  go_wp2_with fail
  refine (K.out _).mono ?_
  rintro e w1 ⟨rfl, hb1⟩
  go_wp2_with fail
  go_ret
  exact Ret.mk rfl (hb1.alloc _)
theorem R4B_0 (l : List UInt8) (w : World) : Calls Try.prog 122 #[.int .i64 0, str l] w (Ret (str []) w) := by
  go_enter Try.func122, Try.ntmps122
  go_wp2_with fail
  go_ret
  exact Ret.mk rfl (Mod.refl _ _)
theorem R4B_any (k : Nat) (h2 : k ≤ 2) (l : List UInt8) (hl : Hid (l.length < 1000000)) (w : World) : Calls Try.prog 122 #[.int .i64 (k : Int), str l] w (Ret (str (if k = 0 then [] else Crc.sumL k l)) w) := by
  have : k = 0 ∨ k = 1 ∨ k = 2 := by omega
  rcases this with rfl | rfl | rfl
  · exact R4B_0 l w
  · exact R4B_1 l hl w
  · exact R4B_2 l hl w

abbrev numsV (ty num fl crc : Nat) : Value := .agg #[.int .u64 (ty : Int), .int .u64 (num : Int), .int .u64 (fl : Int), .int .u64 (crc : Int)]
def num4 (ty num fl crc i : Nat) : Nat := if i = 0 then ty else if i = 1 then num else if i = 2 then fl else crc
def cat4 (ty num fl crc : Nat) (j : Nat) : List UInt8 := T.cat (fun i => headL 0 (num4 ty num fl crc i)) j
theorem cat4_le (ty num fl crc : Nat) : ∀ j, (cat4 ty num fl crc j).length ≤ 9 * j
  | 0 => by simp [cat4, T.cat]
  | j + 1 => by
    have h := cat4_le ty num fl crc j
    have := headL_le 0 (num4 ty num fl crc j)
    unfold cat4 at h ⊢
    rw [T.cat, List.length_append]
    omega
theorem rHead_n (m n : Nat) (hm : m ≤ 7) (hn : n < 18446744073709551616) (w : World) : Calls Try.prog 101 #[.int .i64 (m : Int), .int .u64 (n : Int)] w (Ret (str (headL m n)) w) := by
  simpa using rhead_in (m : Int) (n : Int) (by omega) (by omega) (by omega) (by omega) w

end Go.Proofs.Ytkeabdfgacicaaa


namespace Go.Proofs.Ytkeabdfgacicaaa
open Go.RowKit
set_option linter.unusedVariables false
set_option linter.unusedSimpArgs false

set_option maxRecDepth 20000 in
set_option maxHeartbeats 800000 in
theorem rHeader_ok (ty num fl : Nat) (crc : Int) (data : List UInt8) (h1 : Hid (ty ≤ 65535)) (h2 : Hid (num ≤ 65535)) (h3 : Hid (fl ≤ 255)) (w : World) : Calls Try.prog 63 #[BV.v ⟨ty, num, fl, crc, data⟩] w (Ret (str (headL 0 ty ++ headL 0 num ++ headL 0 fl)) w) := by
  have HB := hid (Blk.new w 32 (BV.c ⟨ty, num, fl, crc, data⟩))
  have HE0 := hid ((Mod.refl [] w).alloc (.cells (BV.c ⟨ty, num, fl, crc, data⟩) 32))
  have t1 : IntKind.u64.wrap (ty : Int) = (ty : Int) := IntWalk.u64_in _ (by have := h1.out; omega)
  have t2 : IntKind.u64.wrap (num : Int) = (num : Int) := IntWalk.u64_in _ (by have := h2.out; omega)
  have k2 : Hid (∀ W, Calls Try.prog 101 #[.int .i64 0, .int .u64 (ty : Int)] W (Ret (str (headL 0 ty)) W)) := fun W => rHead_n 0 ty (by omega) (by have := h1.out; omega) W
  have k3 : Hid (∀ W, Calls Try.prog 101 #[.int .i64 0, .int .u64 (num : Int)] W (Ret (str (headL 0 num)) W)) := fun W => rHead_n 0 num (by omega) (by have := h2.out; omega) W
  have k4 : Hid (∀ W, Calls Try.prog 101 #[.int .i64 0, .int .u64 (fl : Int)] W (Ret (str (headL 0 fl)) W)) := fun W => rHead_n 0 fl (by omega) (by have := h3.out; omega) W
  go_enter Try.func63, Try.ntmps63
  go_upto_region 1 with fail
  generalize w.alloc (.cells (BV.c ⟨ty, num, fl, crc, data⟩) 32) = w1 at *
  have HS : Hid (∀ W, Ext w1 W → W.cell? ⟨w.heap.size, 0, none⟩ = some (.int .i64 (ty : Int)) ∧ W.cell? ⟨w.heap.size, 1, none⟩ = some (.int .i64 (num : Int)) ∧ W.cell? ⟨w.heap.size, 2, none⟩ = some (.int .u64 (fl : Int))) := fun W hW => by
    have b1 := HB.out.ext hW
    exact ⟨b1.cell 0, b1.cell 1, b1.cell 2⟩
  refine wp_region_ext (by kernel_rfl) (by kernel_rfl) ?_
  repeat (first
    | refine q_skip (by rfl) ?_
    | (refine q_load (by rfl) _ _ rfl ⟨w.heap.size, 0, none⟩ rfl (fun W hW => (HS.out W hW).1) Try.underlying3 rfl ?_; (try simp only [Act.put, List.setIfInBounds_toArray, List.set_cons_zero, List.set_cons_succ]))
    | (refine q_load (by rfl) _ _ rfl ⟨w.heap.size, 1, none⟩ rfl (fun W hW => (HS.out W hW).2.1) Try.underlying3 rfl ?_; (try simp only [Act.put, List.setIfInBounds_toArray, List.set_cons_zero, List.set_cons_succ]))
    | (refine q_load (by rfl) _ _ rfl ⟨w.heap.size, 2, none⟩ rfl (fun W hW => (HS.out W hW).2.2) Try.underlying22 rfl ?_; (try simp only [Act.put, List.setIfInBounds_toArray, List.set_cons_zero, List.set_cons_succ]))
    | (refine q_cat (by rfl) _ _ _ _ rfl _ _ rfl rfl (by have g1 := headL_le 0 ty; have g2 := headL_le 0 num; have g3 := headL_le 0 fl; (try simp only [List.length_append]); omega) ?_; (try simp only [Act.put, List.setIfInBounds_toArray, List.set_cons_zero, List.set_cons_succ]))
    | (refine wpQuiet_step (fun K hK => ?_); go_simp; (try rw [t1]); (try rw [t2]); refine hK _ ?_; clear hK K)
    | (refine wpQuiet_step (fun K hK => ?_); go_simp; (try rw [t1]); (try rw [t2]); refine ⟨_, fun _ _ => (by with_reducible rfl), hK _ ?_⟩; clear hK K)
    | (refine wpQuiet_step (fun K hK => ?_); go_simp; apply Exists.intro; refine ⟨fun W hW => ?_, hK _ ?_⟩; (first | with_reducible exact Ret.ext (k2.out _) hW | with_reducible exact Ret.ext (k3.out _) hW | with_reducible exact Ret.ext (k4.out _) hW); clear hK K))
  refine wpQuiet_nil ?_
  intro w3 hw3
  go_wp2_with fail
  go_ret
  exact Ret.mk (by simp) (HE0.out.trans hw3)

theorem infoByte8 : (Try.prog.info? 5).map (fun i => (i.zero, i.size, i.bytes)) = some (some (.int .u8 0), 1, 1) := by kernel_rfl
/-- Bytes made, as a string. -/
theorem conv_made (k c : Nat) (W : World) : (convert 58 9 (.slice (some ⟨W.heap.size, 0, none⟩) k c)).run Try.prog (W.alloc (.cells (madeCells #[.int .u8 0] k) 5)) = .ok (str (List.replicate k 0)) (W.alloc (.cells (madeCells #[.int .u8 0] k) 5)) := by
  have h := run_convert_bytes_back (P := Try.prog) (W.alloc (.cells (madeCells #[.int .u8 0] k) 5)) 58 9 5 ⟨W.heap.size, 0, none⟩ c (List.replicate k 0) Try.underlying58 Try.underlying5 Try.underlying9 (fun j hj => by
    rw [addr_add, Nat.zero_add, (Blk.new W 5 _).cell j]
    rw [List.length_replicate] at hj
    have := toList_madeCells_one (.int .u8 0) k
    rw [← Array.getElem?_toList, this, List.getElem?_replicate, if_pos hj]
    simp)
  rw [List.length_replicate] at h
  exact h
end Go.Proofs.Ytkeabdfgacicaaa
