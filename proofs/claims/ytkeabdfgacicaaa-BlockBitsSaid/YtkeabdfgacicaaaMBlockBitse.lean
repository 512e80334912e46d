/-
  Why a block is not right, as the code and the reference tell it.
  A block's item, without a sum.
  A block without a sum: its item, its bytes; the block that the laws wake the program by.
  A block's bytes; the block that the laws wake the program by.
  An item with the right sum as its last part.
  A block's item and bytes, whatever its sum.
  An argument api.Block, opened: its five cells.
  block.Of: what gives up, and what is read.
-/
import Derived.Test.YtkeabdfgacicaaaMBlockBitsd
import Derived.StillTailTactics
import Derived.Defers
import Derived.Recover

namespace Go.Proofs.Ytkeabdfgacicaaa
open Go.RowKit
set_option linter.unusedVariables false
set_option linter.unusedSimpArgs false

abbrev BV.c (b : BV) : Array Value := #[.int .i64 b.ty, .int .i64 b.num, .int .u64 (b.fl : Int), .int .i64 b.crc, str b.data]
abbrev BV.v (b : BV) : Value := .agg b.c
set_option maxRecDepth 20000 in
theorem cRight_0 (ty : Int) (num : Int) (fl : Nat) (crc : Int) (data : List UInt8) (h : ty < 1) (w : World) : Calls Try.prog 35 #[BV.v ⟨ty, num, fl, crc, data⟩] w (Ret (.int .i64 1) w) := by
  have t0 : decide (ty < 1) = true := by simp; omega
  have t1 : decide (1 ≤ ty) = false := by simp; omega
  clear h
  go_enter Try.func35, Try.ntmps35
  go_wp2
  go_ret
  exact Ret.mk rfl ((Mod.refl _ _).alloc _)
set_option maxRecDepth 20000 in
theorem cRight_1 (ty : Int) (num : Int) (fl : Nat) (crc : Int) (data : List UInt8) (a1 : 1 ≤ ty) (h : 65535 < ty) (w : World) : Calls Try.prog 35 #[BV.v ⟨ty, num, fl, crc, data⟩] w (Ret (.int .i64 1) w) := by
  have t0 : decide (ty < 1) = false := by simp; omega
  have t1 : decide (1 ≤ ty) = true := by simp; omega
  have t2 : decide (65535 < ty) = true := by simp; omega
  have t3 : decide (ty ≤ 65535) = false := by simp; omega
  clear a1 h
  go_enter Try.func35, Try.ntmps35
  go_wp2
  go_ret
  exact Ret.mk rfl ((Mod.refl _ _).alloc _)
set_option maxRecDepth 20000 in
theorem cRight_2 (ty : Int) (num : Int) (fl : Nat) (crc : Int) (data : List UInt8) (a1 : 1 ≤ ty) (a2 : ty ≤ 65535) (h : num < 1) (w : World) : Calls Try.prog 35 #[BV.v ⟨ty, num, fl, crc, data⟩] w (Ret (.int .i64 1) w) := by
  have t0 : decide (ty < 1) = false := by simp; omega
  have t1 : decide (1 ≤ ty) = true := by simp; omega
  have t2 : decide (65535 < ty) = false := by simp; omega
  have t3 : decide (ty ≤ 65535) = true := by simp; omega
  have t4 : decide (num < 1) = true := by simp; omega
  have t5 : decide (1 ≤ num) = false := by simp; omega
  clear a1 a2 h
  go_enter Try.func35, Try.ntmps35
  go_wp2
  go_ret
  exact Ret.mk rfl ((Mod.refl _ _).alloc _)
set_option maxRecDepth 20000 in
theorem cRight_3 (ty : Int) (num : Int) (fl : Nat) (crc : Int) (data : List UInt8) (a1 : 1 ≤ ty) (a2 : ty ≤ 65535) (a3 : 1 ≤ num) (h : 65535 < num) (w : World) : Calls Try.prog 35 #[BV.v ⟨ty, num, fl, crc, data⟩] w (Ret (.int .i64 1) w) := by
  have t0 : decide (ty < 1) = false := by simp; omega
  have t1 : decide (1 ≤ ty) = true := by simp; omega
  have t2 : decide (65535 < ty) = false := by simp; omega
  have t3 : decide (ty ≤ 65535) = true := by simp; omega
  have t4 : decide (num < 1) = false := by simp; omega
  have t5 : decide (1 ≤ num) = true := by simp; omega
  have t6 : decide (65535 < num) = true := by simp; omega
  have t7 : decide (num ≤ 65535) = false := by simp; omega
  clear a1 a2 a3 h
  go_enter Try.func35, Try.ntmps35
  go_wp2
  go_ret
  exact Ret.mk rfl ((Mod.refl _ _).alloc _)
set_option maxRecDepth 20000 in
theorem cRight_4 (ty : Int) (num : Int) (fl : Nat) (crc : Int) (data : List UInt8) (a1 : 1 ≤ ty) (a2 : ty ≤ 65535) (a3 : 1 ≤ num) (a4 : num ≤ 65535) (h : 255 < fl) (w : World) : Calls Try.prog 35 #[BV.v ⟨ty, num, fl, crc, data⟩] w (Ret (.int .i64 1) w) := by
  have t0 : decide (ty < 1) = false := by simp; omega
  have t1 : decide (1 ≤ ty) = true := by simp; omega
  have t2 : decide (65535 < ty) = false := by simp; omega
  have t3 : decide (ty ≤ 65535) = true := by simp; omega
  have t4 : decide (num < 1) = false := by simp; omega
  have t5 : decide (1 ≤ num) = true := by simp; omega
  have t6 : decide (65535 < num) = false := by simp; omega
  have t7 : decide (num ≤ 65535) = true := by simp; omega
  have t8 : decide (255 < (fl : Int)) = true := by simp; omega
  have t9 : decide ((fl : Int) ≤ 255) = false := by simp; omega
  clear a1 a2 a3 a4 h
  go_enter Try.func35, Try.ntmps35
  go_wp2
  go_ret
  exact Ret.mk rfl ((Mod.refl _ _).alloc _)
set_option maxRecDepth 20000 in
theorem cRight_5 (ty : Int) (num : Int) (fl : Nat) (crc : Int) (data : List UInt8) (a1 : 1 ≤ ty) (a2 : ty ≤ 65535) (a3 : 1 ≤ num) (a4 : num ≤ 65535) (a5 : fl ≤ 255) (h : crc < 0) (w : World) : Calls Try.prog 35 #[BV.v ⟨ty, num, fl, crc, data⟩] w (Ret (.int .i64 1) w) := by
  have t0 : decide (ty < 1) = false := by simp; omega
  have t1 : decide (1 ≤ ty) = true := by simp; omega
  have t2 : decide (65535 < ty) = false := by simp; omega
  have t3 : decide (ty ≤ 65535) = true := by simp; omega
  have t4 : decide (num < 1) = false := by simp; omega
  have t5 : decide (1 ≤ num) = true := by simp; omega
  have t6 : decide (65535 < num) = false := by simp; omega
  have t7 : decide (num ≤ 65535) = true := by simp; omega
  have t8 : decide (255 < (fl : Int)) = false := by simp; omega
  have t9 : decide ((fl : Int) ≤ 255) = true := by simp; omega
  have t10 : decide (crc < 0) = true := by simp; omega
  have t11 : decide (0 ≤ crc) = false := by simp; omega
  clear a1 a2 a3 a4 a5 h
  go_enter Try.func35, Try.ntmps35
  go_wp2
  go_ret
  exact Ret.mk rfl ((Mod.refl _ _).alloc _)
set_option maxRecDepth 20000 in
theorem cRight_6 (ty : Int) (num : Int) (fl : Nat) (crc : Int) (data : List UInt8) (a1 : 1 ≤ ty) (a2 : ty ≤ 65535) (a3 : 1 ≤ num) (a4 : num ≤ 65535) (a5 : fl ≤ 255) (a6 : 0 ≤ crc) (h : 2 < crc) (w : World) : Calls Try.prog 35 #[BV.v ⟨ty, num, fl, crc, data⟩] w (Ret (.int .i64 1) w) := by
  have t0 : decide (ty < 1) = false := by simp; omega
  have t1 : decide (1 ≤ ty) = true := by simp; omega
  have t2 : decide (65535 < ty) = false := by simp; omega
  have t3 : decide (ty ≤ 65535) = true := by simp; omega
  have t4 : decide (num < 1) = false := by simp; omega
  have t5 : decide (1 ≤ num) = true := by simp; omega
  have t6 : decide (65535 < num) = false := by simp; omega
  have t7 : decide (num ≤ 65535) = true := by simp; omega
  have t8 : decide (255 < (fl : Int)) = false := by simp; omega
  have t9 : decide ((fl : Int) ≤ 255) = true := by simp; omega
  have t10 : decide (crc < 0) = false := by simp; omega
  have t11 : decide (0 ≤ crc) = true := by simp; omega
  have t12 : decide (2 < crc) = true := by simp; omega
  have t13 : decide (crc ≤ 2) = false := by simp; omega
  clear a1 a2 a3 a4 a5 a6 h
  go_enter Try.func35, Try.ntmps35
  go_wp2
  go_ret
  exact Ret.mk rfl ((Mod.refl _ _).alloc _)
set_option maxRecDepth 20000 in
theorem cRight_7 (ty : Int) (num : Int) (fl : Nat) (crc : Int) (data : List UInt8) (a1 : 1 ≤ ty) (a2 : ty ≤ 65535) (a3 : 1 ≤ num) (a4 : num ≤ 65535) (a5 : fl ≤ 255) (a6 : 0 ≤ crc) (a7 : crc ≤ 2) (h : 4000 < data.length) (w : World) : Calls Try.prog 35 #[BV.v ⟨ty, num, fl, crc, data⟩] w (Ret (.int .i64 4) w) := by
  have t0 : decide (ty < 1) = false := by simp; omega
  have t1 : decide (1 ≤ ty) = true := by simp; omega
  have t2 : decide (65535 < ty) = false := by simp; omega
  have t3 : decide (ty ≤ 65535) = true := by simp; omega
  have t4 : decide (num < 1) = false := by simp; omega
  have t5 : decide (1 ≤ num) = true := by simp; omega
  have t6 : decide (65535 < num) = false := by simp; omega
  have t7 : decide (num ≤ 65535) = true := by simp; omega
  have t8 : decide (255 < (fl : Int)) = false := by simp; omega
  have t9 : decide ((fl : Int) ≤ 255) = true := by simp; omega
  have t10 : decide (crc < 0) = false := by simp; omega
  have t11 : decide (0 ≤ crc) = true := by simp; omega
  have t12 : decide (2 < crc) = false := by simp; omega
  have t13 : decide (crc ≤ 2) = true := by simp; omega
  have t14 : decide (4000 < (data.length : Int)) = true := by simp; omega
  have t15 : decide ((data.length : Int) ≤ 4000) = false := by simp; omega
  clear a1 a2 a3 a4 a5 a6 a7 h
  go_enter Try.func35, Try.ntmps35
  go_wp2
  go_ret
  exact Ret.mk rfl ((Mod.refl _ _).alloc _)
set_option maxRecDepth 20000 in
theorem cRight_8 (num : Int) (fl : Nat) (crc : Int) (data : List UInt8) (a3 : 1 ≤ num) (a4 : num ≤ 65535) (a5 : fl ≤ 255) (a6 : 0 ≤ crc) (a7 : crc ≤ 2) (a8 : data.length ≤ 4000) (b2 : num ≠ 1) (w : World) : Calls Try.prog 35 #[BV.v ⟨1, num, fl, crc, data⟩] w (Ret (.int .i64 8) w) := by
  have t0 : decide (num < 1) = false := by simp; omega
  have t1 : decide (1 ≤ num) = true := by simp; omega
  have t2 : decide (65535 < num) = false := by simp; omega
  have t3 : decide (num ≤ 65535) = true := by simp; omega
  have t4 : decide (255 < (fl : Int)) = false := by simp; omega
  have t5 : decide ((fl : Int) ≤ 255) = true := by simp; omega
  have t6 : decide (crc < 0) = false := by simp; omega
  have t7 : decide (0 ≤ crc) = true := by simp; omega
  have t8 : decide (2 < crc) = false := by simp; omega
  have t9 : decide (crc ≤ 2) = true := by simp; omega
  have t10 : decide (4000 < (data.length : Int)) = false := by simp; omega
  have t11 : decide ((data.length : Int) ≤ 4000) = true := by simp; omega
  have e3 : (num = 1) = False := by simp [b2]
  have e4 : (num == 1) = false := by simp [b2]
  clear a3 a4 a5 a6 a7 a8 b2
  go_enter Try.func35, Try.ntmps35
  go_wp2
  go_ret
  exact Ret.mk rfl ((Mod.refl _ _).alloc _)
set_option maxRecDepth 20000 in
theorem cRight_9 (ty : Int) (fl : Nat) (crc : Int) (data : List UInt8) (a1 : 1 ≤ ty) (a2 : ty ≤ 65535) (a5 : fl ≤ 255) (a6 : 0 ≤ crc) (a7 : crc ≤ 2) (a8 : data.length ≤ 4000) (b1 : ty ≠ 1) (w : World) : Calls Try.prog 35 #[BV.v ⟨ty, 1, fl, crc, data⟩] w (Ret (.int .i64 8) w) := by
  have t0 : decide (ty < 1) = false := by simp; omega
  have t1 : decide (1 ≤ ty) = true := by simp; omega
  have t2 : decide (65535 < ty) = false := by simp; omega
  have t3 : decide (ty ≤ 65535) = true := by simp; omega
  have t4 : decide (255 < (fl : Int)) = false := by simp; omega
  have t5 : decide ((fl : Int) ≤ 255) = true := by simp; omega
  have t6 : decide (crc < 0) = false := by simp; omega
  have t7 : decide (0 ≤ crc) = true := by simp; omega
  have t8 : decide (2 < crc) = false := by simp; omega
  have t9 : decide (crc ≤ 2) = true := by simp; omega
  have t10 : decide (4000 < (data.length : Int)) = false := by simp; omega
  have t11 : decide ((data.length : Int) ≤ 4000) = true := by simp; omega
  have e1 : (ty = 1) = False := by simp [b1]
  have e2 : (ty == 1) = false := by simp [b1]
  clear a1 a2 a5 a6 a7 a8 b1
  go_enter Try.func35, Try.ntmps35
  go_wp2
  go_ret
  exact Ret.mk rfl ((Mod.refl _ _).alloc _)
set_option maxRecDepth 20000 in
theorem cRight_10  (fl : Nat) (crc : Int) (data : List UInt8) (a5 : fl ≤ 255) (a6 : 0 ≤ crc) (a7 : crc ≤ 2) (a8 : data.length ≤ 4000) (w : World) : Calls Try.prog 35 #[BV.v ⟨1, 1, fl, crc, data⟩] w (Ret (.int .i64 0) w) := by
  have t0 : decide (255 < (fl : Int)) = false := by simp; omega
  have t1 : decide ((fl : Int) ≤ 255) = true := by simp; omega
  have t2 : decide (crc < 0) = false := by simp; omega
  have t3 : decide (0 ≤ crc) = true := by simp; omega
  have t4 : decide (2 < crc) = false := by simp; omega
  have t5 : decide (crc ≤ 2) = true := by simp; omega
  have t6 : decide (4000 < (data.length : Int)) = false := by simp; omega
  have t7 : decide ((data.length : Int) ≤ 4000) = true := by simp; omega
  clear a5 a6 a7 a8
  go_enter Try.func35, Try.ntmps35
  go_wp2
  go_ret
  exact Ret.mk rfl ((Mod.refl _ _).alloc _)
set_option maxRecDepth 20000 in
theorem cRight_11 (ty : Int) (num : Int) (fl : Nat) (crc : Int) (data : List UInt8) (a1 : 1 ≤ ty) (a2 : ty ≤ 65535) (a3 : 1 ≤ num) (a4 : num ≤ 65535) (a5 : fl ≤ 255) (a6 : 0 ≤ crc) (a7 : crc ≤ 2) (a8 : data.length ≤ 4000) (b1 : ty ≠ 1) (b2 : num ≠ 1) (w : World) : Calls Try.prog 35 #[BV.v ⟨ty, num, fl, crc, data⟩] w (Ret (.int .i64 0) w) := by
  have t0 : decide (ty < 1) = false := by simp; omega
  have t1 : decide (1 ≤ ty) = true := by simp; omega
  have t2 : decide (65535 < ty) = false := by simp; omega
  have t3 : decide (ty ≤ 65535) = true := by simp; omega
  have t4 : decide (num < 1) = false := by simp; omega
  have t5 : decide (1 ≤ num) = true := by simp; omega
  have t6 : decide (65535 < num) = false := by simp; omega
  have t7 : decide (num ≤ 65535) = true := by simp; omega
  have t8 : decide (255 < (fl : Int)) = false := by simp; omega
  have t9 : decide ((fl : Int) ≤ 255) = true := by simp; omega
  have t10 : decide (crc < 0) = false := by simp; omega
  have t11 : decide (0 ≤ crc) = true := by simp; omega
  have t12 : decide (2 < crc) = false := by simp; omega
  have t13 : decide (crc ≤ 2) = true := by simp; omega
  have t14 : decide (4000 < (data.length : Int)) = false := by simp; omega
  have t15 : decide ((data.length : Int) ≤ 4000) = true := by simp; omega
  have e1 : (ty = 1) = False := by simp [b1]
  have e2 : (ty == 1) = false := by simp [b1]
  have e3 : (num = 1) = False := by simp [b2]
  have e4 : (num == 1) = false := by simp [b2]
  clear a1 a2 a3 a4 a5 a6 a7 a8 b1 b2
  go_enter Try.func35, Try.ntmps35
  go_wp2
  go_ret
  exact Ret.mk rfl ((Mod.refl _ _).alloc _)
set_option maxRecDepth 20000 in
theorem rRight_0 (ty : Int) (num : Int) (fl : Nat) (crc : Int) (data : List UInt8) (h : ty < 1) (w : World) : Calls Try.prog 17 #[BV.v ⟨ty, num, fl, crc, data⟩] w (Ret (.int .i64 1) w) := by
  have t0 : decide (ty < 1) = true := by simp; omega
  have t1 : decide (1 ≤ ty) = false := by simp; omega
  clear h
  go_enter Try.func17, Try.ntmps17
  go_wp2
  go_ret
  exact Ret.mk rfl ((Mod.refl _ _).alloc _)
set_option maxRecDepth 20000 in
theorem rRight_1 (ty : Int) (num : Int) (fl : Nat) (crc : Int) (data : List UInt8) (a1 : 1 ≤ ty) (h : 65535 < ty) (w : World) : Calls Try.prog 17 #[BV.v ⟨ty, num, fl, crc, data⟩] w (Ret (.int .i64 1) w) := by
  have t0 : decide (ty < 1) = false := by simp; omega
  have t1 : decide (1 ≤ ty) = true := by simp; omega
  have t2 : decide (65535 < ty) = true := by simp; omega
  have t3 : decide (ty ≤ 65535) = false := by simp; omega
  clear a1 h
  go_enter Try.func17, Try.ntmps17
  go_wp2
  go_ret
  exact Ret.mk rfl ((Mod.refl _ _).alloc _)
set_option maxRecDepth 20000 in
theorem rRight_2 (ty : Int) (num : Int) (fl : Nat) (crc : Int) (data : List UInt8) (a1 : 1 ≤ ty) (a2 : ty ≤ 65535) (h : num < 1) (w : World) : Calls Try.prog 17 #[BV.v ⟨ty, num, fl, crc, data⟩] w (Ret (.int .i64 1) w) := by
  have t0 : decide (ty < 1) = false := by simp; omega
  have t1 : decide (1 ≤ ty) = true := by simp; omega
  have t2 : decide (65535 < ty) = false := by simp; omega
  have t3 : decide (ty ≤ 65535) = true := by simp; omega
  have t4 : decide (num < 1) = true := by simp; omega
  have t5 : decide (1 ≤ num) = false := by simp; omega
  clear a1 a2 h
  go_enter Try.func17, Try.ntmps17
  go_wp2
  go_ret
  exact Ret.mk rfl ((Mod.refl _ _).alloc _)
set_option maxRecDepth 20000 in
theorem rRight_3 (ty : Int) (num : Int) (fl : Nat) (crc : Int) (data : List UInt8) (a1 : 1 ≤ ty) (a2 : ty ≤ 65535) (a3 : 1 ≤ num) (h : 65535 < num) (w : World) : Calls Try.prog 17 #[BV.v ⟨ty, num, fl, crc, data⟩] w (Ret (.int .i64 1) w) := by
  have t0 : decide (ty < 1) = false := by simp; omega
  have t1 : decide (1 ≤ ty) = true := by simp; omega
  have t2 : decide (65535 < ty) = false := by simp; omega
  have t3 : decide (ty ≤ 65535) = true := by simp; omega
  have t4 : decide (num < 1) = false := by simp; omega
  have t5 : decide (1 ≤ num) = true := by simp; omega
  have t6 : decide (65535 < num) = true := by simp; omega
  have t7 : decide (num ≤ 65535) = false := by simp; omega
  clear a1 a2 a3 h
  go_enter Try.func17, Try.ntmps17
  go_wp2
  go_ret
  exact Ret.mk rfl ((Mod.refl _ _).alloc _)
set_option maxRecDepth 20000 in
theorem rRight_4 (ty : Int) (num : Int) (fl : Nat) (crc : Int) (data : List UInt8) (a1 : 1 ≤ ty) (a2 : ty ≤ 65535) (a3 : 1 ≤ num) (a4 : num ≤ 65535) (h : 255 < fl) (w : World) : Calls Try.prog 17 #[BV.v ⟨ty, num, fl, crc, data⟩] w (Ret (.int .i64 1) w) := by
  have t0 : decide (ty < 1) = false := by simp; omega
  have t1 : decide (1 ≤ ty) = true := by simp; omega
  have t2 : decide (65535 < ty) = false := by simp; omega
  have t3 : decide (ty ≤ 65535) = true := by simp; omega
  have t4 : decide (num < 1) = false := by simp; omega
  have t5 : decide (1 ≤ num) = true := by simp; omega
  have t6 : decide (65535 < num) = false := by simp; omega
  have t7 : decide (num ≤ 65535) = true := by simp; omega
  have t8 : decide (255 < (fl : Int)) = true := by simp; omega
  have t9 : decide ((fl : Int) ≤ 255) = false := by simp; omega
  clear a1 a2 a3 a4 h
  go_enter Try.func17, Try.ntmps17
  go_wp2
  go_ret
  exact Ret.mk rfl ((Mod.refl _ _).alloc _)
set_option maxRecDepth 20000 in
theorem rRight_5 (ty : Int) (num : Int) (fl : Nat) (crc : Int) (data : List UInt8) (a1 : 1 ≤ ty) (a2 : ty ≤ 65535) (a3 : 1 ≤ num) (a4 : num ≤ 65535) (a5 : fl ≤ 255) (h : crc < 0) (w : World) : Calls Try.prog 17 #[BV.v ⟨ty, num, fl, crc, data⟩] w (Ret (.int .i64 1) w) := by
  have t0 : decide (ty < 1) = false := by simp; omega
  have t1 : decide (1 ≤ ty) = true := by simp; omega
  have t2 : decide (65535 < ty) = false := by simp; omega
  have t3 : decide (ty ≤ 65535) = true := by simp; omega
  have t4 : decide (num < 1) = false := by simp; omega
  have t5 : decide (1 ≤ num) = true := by simp; omega
  have t6 : decide (65535 < num) = false := by simp; omega
  have t7 : decide (num ≤ 65535) = true := by simp; omega
  have t8 : decide (255 < (fl : Int)) = false := by simp; omega
  have t9 : decide ((fl : Int) ≤ 255) = true := by simp; omega
  have t10 : decide (crc < 0) = true := by simp; omega
  have t11 : decide (0 ≤ crc) = false := by simp; omega
  clear a1 a2 a3 a4 a5 h
  go_enter Try.func17, Try.ntmps17
  go_wp2
  go_ret
  exact Ret.mk rfl ((Mod.refl _ _).alloc _)
set_option maxRecDepth 20000 in
theorem rRight_6 (ty : Int) (num : Int) (fl : Nat) (crc : Int) (data : List UInt8) (a1 : 1 ≤ ty) (a2 : ty ≤ 65535) (a3 : 1 ≤ num) (a4 : num ≤ 65535) (a5 : fl ≤ 255) (a6 : 0 ≤ crc) (h : 2 < crc) (w : World) : Calls Try.prog 17 #[BV.v ⟨ty, num, fl, crc, data⟩] w (Ret (.int .i64 1) w) := by
  have t0 : decide (ty < 1) = false := by simp; omega
  have t1 : decide (1 ≤ ty) = true := by simp; omega
  have t2 : decide (65535 < ty) = false := by simp; omega
  have t3 : decide (ty ≤ 65535) = true := by simp; omega
  have t4 : decide (num < 1) = false := by simp; omega
  have t5 : decide (1 ≤ num) = true := by simp; omega
  have t6 : decide (65535 < num) = false := by simp; omega
  have t7 : decide (num ≤ 65535) = true := by simp; omega
  have t8 : decide (255 < (fl : Int)) = false := by simp; omega
  have t9 : decide ((fl : Int) ≤ 255) = true := by simp; omega
  have t10 : decide (crc < 0) = false := by simp; omega
  have t11 : decide (0 ≤ crc) = true := by simp; omega
  have t12 : decide (2 < crc) = true := by simp; omega
  have t13 : decide (crc ≤ 2) = false := by simp; omega
  clear a1 a2 a3 a4 a5 a6 h
  go_enter Try.func17, Try.ntmps17
  go_wp2
  go_ret
  exact Ret.mk rfl ((Mod.refl _ _).alloc _)
set_option maxRecDepth 20000 in
theorem rRight_7 (ty : Int) (num : Int) (fl : Nat) (crc : Int) (data : List UInt8) (a1 : 1 ≤ ty) (a2 : ty ≤ 65535) (a3 : 1 ≤ num) (a4 : num ≤ 65535) (a5 : fl ≤ 255) (a6 : 0 ≤ crc) (a7 : crc ≤ 2) (h : 4000 < data.length) (w : World) : Calls Try.prog 17 #[BV.v ⟨ty, num, fl, crc, data⟩] w (Ret (.int .i64 4) w) := by
  have t0 : decide (ty < 1) = false := by simp; omega
  have t1 : decide (1 ≤ ty) = true := by simp; omega
  have t2 : decide (65535 < ty) = false := by simp; omega
  have t3 : decide (ty ≤ 65535) = true := by simp; omega
  have t4 : decide (num < 1) = false := by simp; omega
  have t5 : decide (1 ≤ num) = true := by simp; omega
  have t6 : decide (65535 < num) = false := by simp; omega
  have t7 : decide (num ≤ 65535) = true := by simp; omega
  have t8 : decide (255 < (fl : Int)) = false := by simp; omega
  have t9 : decide ((fl : Int) ≤ 255) = true := by simp; omega
  have t10 : decide (crc < 0) = false := by simp; omega
  have t11 : decide (0 ≤ crc) = true := by simp; omega
  have t12 : decide (2 < crc) = false := by simp; omega
  have t13 : decide (crc ≤ 2) = true := by simp; omega
  have t14 : decide (4000 < (data.length : Int)) = true := by simp; omega
  have t15 : decide ((data.length : Int) ≤ 4000) = false := by simp; omega
  clear a1 a2 a3 a4 a5 a6 a7 h
  go_enter Try.func17, Try.ntmps17
  go_wp2
  go_ret
  exact Ret.mk rfl ((Mod.refl _ _).alloc _)
set_option maxRecDepth 20000 in
theorem rRight_8 (num : Int) (fl : Nat) (crc : Int) (data : List UInt8) (a3 : 1 ≤ num) (a4 : num ≤ 65535) (a5 : fl ≤ 255) (a6 : 0 ≤ crc) (a7 : crc ≤ 2) (a8 : data.length ≤ 4000) (b2 : num ≠ 1) (w : World) : Calls Try.prog 17 #[BV.v ⟨1, num, fl, crc, data⟩] w (Ret (.int .i64 8) w) := by
  have t0 : decide (num < 1) = false := by simp; omega
  have t1 : decide (1 ≤ num) = true := by simp; omega
  have t2 : decide (65535 < num) = false := by simp; omega
  have t3 : decide (num ≤ 65535) = true := by simp; omega
  have t4 : decide (255 < (fl : Int)) = false := by simp; omega
  have t5 : decide ((fl : Int) ≤ 255) = true := by simp; omega
  have t6 : decide (crc < 0) = false := by simp; omega
  have t7 : decide (0 ≤ crc) = true := by simp; omega
  have t8 : decide (2 < crc) = false := by simp; omega
  have t9 : decide (crc ≤ 2) = true := by simp; omega
  have t10 : decide (4000 < (data.length : Int)) = false := by simp; omega
  have t11 : decide ((data.length : Int) ≤ 4000) = true := by simp; omega
  have e3 : (num = 1) = False := by simp [b2]
  have e4 : (num == 1) = false := by simp [b2]
  clear a3 a4 a5 a6 a7 a8 b2
  go_enter Try.func17, Try.ntmps17
  go_wp2
  go_ret
  exact Ret.mk rfl ((Mod.refl _ _).alloc _)
set_option maxRecDepth 20000 in
theorem rRight_9 (ty : Int) (fl : Nat) (crc : Int) (data : List UInt8) (a1 : 1 ≤ ty) (a2 : ty ≤ 65535) (a5 : fl ≤ 255) (a6 : 0 ≤ crc) (a7 : crc ≤ 2) (a8 : data.length ≤ 4000) (b1 : ty ≠ 1) (w : World) : Calls Try.prog 17 #[BV.v ⟨ty, 1, fl, crc, data⟩] w (Ret (.int .i64 8) w) := by
  have t0 : decide (ty < 1) = false := by simp; omega
  have t1 : decide (1 ≤ ty) = true := by simp; omega
  have t2 : decide (65535 < ty) = false := by simp; omega
  have t3 : decide (ty ≤ 65535) = true := by simp; omega
  have t4 : decide (255 < (fl : Int)) = false := by simp; omega
  have t5 : decide ((fl : Int) ≤ 255) = true := by simp; omega
  have t6 : decide (crc < 0) = false := by simp; omega
  have t7 : decide (0 ≤ crc) = true := by simp; omega
  have t8 : decide (2 < crc) = false := by simp; omega
  have t9 : decide (crc ≤ 2) = true := by simp; omega
  have t10 : decide (4000 < (data.length : Int)) = false := by simp; omega
  have t11 : decide ((data.length : Int) ≤ 4000) = true := by simp; omega
  have e1 : (ty = 1) = False := by simp [b1]
  have e2 : (ty == 1) = false := by simp [b1]
  clear a1 a2 a5 a6 a7 a8 b1
  go_enter Try.func17, Try.ntmps17
  go_wp2
  go_ret
  exact Ret.mk rfl ((Mod.refl _ _).alloc _)
set_option maxRecDepth 20000 in
theorem rRight_10  (fl : Nat) (crc : Int) (data : List UInt8) (a5 : fl ≤ 255) (a6 : 0 ≤ crc) (a7 : crc ≤ 2) (a8 : data.length ≤ 4000) (w : World) : Calls Try.prog 17 #[BV.v ⟨1, 1, fl, crc, data⟩] w (Ret (.int .i64 0) w) := by
  have t0 : decide (255 < (fl : Int)) = false := by simp; omega
  have t1 : decide ((fl : Int) ≤ 255) = true := by simp; omega
  have t2 : decide (crc < 0) = false := by simp; omega
  have t3 : decide (0 ≤ crc) = true := by simp; omega
  have t4 : decide (2 < crc) = false := by simp; omega
  have t5 : decide (crc ≤ 2) = true := by simp; omega
  have t6 : decide (4000 < (data.length : Int)) = false := by simp; omega
  have t7 : decide ((data.length : Int) ≤ 4000) = true := by simp; omega
  clear a5 a6 a7 a8
  go_enter Try.func17, Try.ntmps17
  go_wp2
  go_ret
  exact Ret.mk rfl ((Mod.refl _ _).alloc _)
set_option maxRecDepth 20000 in
theorem rRight_11 (ty : Int) (num : Int) (fl : Nat) (crc : Int) (data : List UInt8) (a1 : 1 ≤ ty) (a2 : ty ≤ 65535) (a3 : 1 ≤ num) (a4 : num ≤ 65535) (a5 : fl ≤ 255) (a6 : 0 ≤ crc) (a7 : crc ≤ 2) (a8 : data.length ≤ 4000) (b1 : ty ≠ 1) (b2 : num ≠ 1) (w : World) : Calls Try.prog 17 #[BV.v ⟨ty, num, fl, crc, data⟩] w (Ret (.int .i64 0) w) := by
  have t0 : decide (ty < 1) = false := by simp; omega
  have t1 : decide (1 ≤ ty) = true := by simp; omega
  have t2 : decide (65535 < ty) = false := by simp; omega
  have t3 : decide (ty ≤ 65535) = true := by simp; omega
  have t4 : decide (num < 1) = false := by simp; omega
  have t5 : decide (1 ≤ num) = true := by simp; omega
  have t6 : decide (65535 < num) = false := by simp; omega
  have t7 : decide (num ≤ 65535) = true := by simp; omega
  have t8 : decide (255 < (fl : Int)) = false := by simp; omega
  have t9 : decide ((fl : Int) ≤ 255) = true := by simp; omega
  have t10 : decide (crc < 0) = false := by simp; omega
  have t11 : decide (0 ≤ crc) = true := by simp; omega
  have t12 : decide (2 < crc) = false := by simp; omega
  have t13 : decide (crc ≤ 2) = true := by simp; omega
  have t14 : decide (4000 < (data.length : Int)) = false := by simp; omega
  have t15 : decide ((data.length : Int) ≤ 4000) = true := by simp; omega
  have e1 : (ty = 1) = False := by simp [b1]
  have e2 : (ty == 1) = false := by simp [b1]
  have e3 : (num = 1) = False := by simp [b2]
  have e4 : (num == 1) = false := by simp [b2]
  clear a1 a2 a3 a4 a5 a6 a7 a8 b1 b2
  go_enter Try.func17, Try.ntmps17
  go_wp2
  go_ret
  exact Ret.mk rfl ((Mod.refl _ _).alloc _)
theorem cbRight_any (b : BV) (w : World) : Calls Try.prog 35 #[b.v] w (Ret (.int .i64 b.right) w) := by
  obtain ⟨ty, num, fl, crc, data⟩ := b
  have go : ∀ (k : Int), Calls Try.prog 35 #[BV.v ⟨ty, num, fl, crc, data⟩] w (Ret (.int .i64 k) w) → BV.right ⟨ty, num, fl, crc, data⟩ = k → Calls Try.prog 35 #[BV.v ⟨ty, num, fl, crc, data⟩] w (Ret (.int .i64 (BV.right ⟨ty, num, fl, crc, data⟩)) w) := fun k h e => by rw [e]; exact h
  by_cases h0 : ty < 1
  · exact go _ (cRight_0 ty num fl crc data (by omega) w) (by unfold BV.right; simp only []; rw [if_pos (by omega)])
  by_cases h1 : 65535 < ty
  · exact go _ (cRight_1 ty num fl crc data (by omega) (by omega) w) (by unfold BV.right; simp only []; rw [if_pos (by omega)])
  by_cases h2 : num < 1
  · exact go _ (cRight_2 ty num fl crc data (by omega) (by omega) (by omega) w) (by unfold BV.right; simp only []; rw [if_pos (by omega)])
  by_cases h3 : 65535 < num
  · exact go _ (cRight_3 ty num fl crc data (by omega) (by omega) (by omega) (by omega) w) (by unfold BV.right; simp only []; rw [if_pos (by omega)])
  by_cases h4 : 255 < fl
  · exact go _ (cRight_4 ty num fl crc data (by omega) (by omega) (by omega) (by omega) (by omega) w) (by unfold BV.right; simp only []; rw [if_pos (by omega)])
  by_cases h5 : crc < 0
  · exact go _ (cRight_5 ty num fl crc data (by omega) (by omega) (by omega) (by omega) (by omega) (by omega) w) (by unfold BV.right; simp only []; rw [if_pos (by omega)])
  by_cases h6 : 2 < crc
  · exact go _ (cRight_6 ty num fl crc data (by omega) (by omega) (by omega) (by omega) (by omega) (by omega) (by omega) w) (by unfold BV.right; simp only []; rw [if_pos (by omega)])
  by_cases h7 : 4000 < data.length
  · exact go _ (cRight_7 ty num fl crc data (by omega) (by omega) (by omega) (by omega) (by omega) (by omega) (by omega) (by omega) w) (by unfold BV.right; simp only []; rw [if_neg (by omega), if_pos (by omega)])
  by_cases k1 : ty = 1
  · subst k1
    by_cases k2 : num = 1
    · subst k2
      exact go _ (cRight_10 fl crc data (by omega) (by omega) (by omega) (by omega) w) (by unfold BV.right; simp only []; rw [if_neg (by omega), if_neg (by omega), if_neg (by omega)])
    · exact go _ (cRight_8 num fl crc data (by omega) (by omega) (by omega) (by omega) (by omega) (by omega) k2 w) (by unfold BV.right; simp only []; rw [if_neg (by omega), if_neg (by omega), if_pos (by simp [k2])])
  · by_cases k2 : num = 1
    · subst k2
      exact go _ (cRight_9 ty fl crc data (by omega) (by omega) (by omega) (by omega) (by omega) (by omega) k1 w) (by unfold BV.right; simp only []; rw [if_neg (by omega), if_neg (by omega), if_pos (by simp [k1])])
    · exact go _ (cRight_11 ty num fl crc data (by omega) (by omega) (by omega) (by omega) (by omega) (by omega) (by omega) (by omega) k1 k2 w) (by unfold BV.right; simp only []; rw [if_neg (by omega), if_neg (by omega), if_neg (by omega)])
theorem rbRight_any (b : BV) (w : World) : Calls Try.prog 17 #[b.v] w (Ret (.int .i64 b.right) w) := by
  obtain ⟨ty, num, fl, crc, data⟩ := b
  have go : ∀ (k : Int), Calls Try.prog 17 #[BV.v ⟨ty, num, fl, crc, data⟩] w (Ret (.int .i64 k) w) → BV.right ⟨ty, num, fl, crc, data⟩ = k → Calls Try.prog 17 #[BV.v ⟨ty, num, fl, crc, data⟩] w (Ret (.int .i64 (BV.right ⟨ty, num, fl, crc, data⟩)) w) := fun k h e => by rw [e]; exact h
  by_cases h0 : ty < 1
  · exact go _ (rRight_0 ty num fl crc data (by omega) w) (by unfold BV.right; simp only []; rw [if_pos (by omega)])
  by_cases h1 : 65535 < ty
  · exact go _ (rRight_1 ty num fl crc data (by omega) (by omega) w) (by unfold BV.right; simp only []; rw [if_pos (by omega)])
  by_cases h2 : num < 1
  · exact go _ (rRight_2 ty num fl crc data (by omega) (by omega) (by omega) w) (by unfold BV.right; simp only []; rw [if_pos (by omega)])
  by_cases h3 : 65535 < num
  · exact go _ (rRight_3 ty num fl crc data (by omega) (by omega) (by omega) (by omega) w) (by unfold BV.right; simp only []; rw [if_pos (by omega)])
  by_cases h4 : 255 < fl
  · exact go _ (rRight_4 ty num fl crc data (by omega) (by omega) (by omega) (by omega) (by omega) w) (by unfold BV.right; simp only []; rw [if_pos (by omega)])
  by_cases h5 : crc < 0
  · exact go _ (rRight_5 ty num fl crc data (by omega) (by omega) (by omega) (by omega) (by omega) (by omega) w) (by unfold BV.right; simp only []; rw [if_pos (by omega)])
  by_cases h6 : 2 < crc
  · exact go _ (rRight_6 ty num fl crc data (by omega) (by omega) (by omega) (by omega) (by omega) (by omega) (by omega) w) (by unfold BV.right; simp only []; rw [if_pos (by omega)])
  by_cases h7 : 4000 < data.length
  · exact go _ (rRight_7 ty num fl crc data (by omega) (by omega) (by omega) (by omega) (by omega) (by omega) (by omega) (by omega) w) (by unfold BV.right; simp only []; rw [if_neg (by omega), if_pos (by omega)])
  by_cases k1 : ty = 1
  · subst k1
    by_cases k2 : num = 1
    · subst k2
      exact go _ (rRight_10 fl crc data (by omega) (by omega) (by omega) (by omega) w) (by unfold BV.right; simp only []; rw [if_neg (by omega), if_neg (by omega), if_neg (by omega)])
    · exact go _ (rRight_8 num fl crc data (by omega) (by omega) (by omega) (by omega) (by omega) (by omega) k2 w) (by unfold BV.right; simp only []; rw [if_neg (by omega), if_neg (by omega), if_pos (by simp [k2])])
  · by_cases k2 : num = 1
    · subst k2
      exact go _ (rRight_9 ty fl crc data (by omega) (by omega) (by omega) (by omega) (by omega) (by omega) k1 w) (by unfold BV.right; simp only []; rw [if_neg (by omega), if_neg (by omega), if_pos (by simp [k1])])
    · exact go _ (rRight_11 ty num fl crc data (by omega) (by omega) (by omega) (by omega) (by omega) (by omega) (by omega) (by omega) k1 k2 w) (by unfold BV.right; simp only []; rw [if_neg (by omega), if_neg (by omega), if_neg (by omega)])
end Go.Proofs.Ytkeabdfgacicaaa


namespace Go.Proofs.Ytkeabdfgacicaaa
open Go.RowKit
set_option linter.unusedVariables false
set_option linter.unusedSimpArgs false

/-- Its item: five parts, or six. -/
def blkT (ty num fl crc : Nat) (data sum : List UInt8) : T := T.mk 4 0 [] false (if crc = 0 then 5 else 6) fun i => if i = 0 then numT ty else if i = 1 then numT num else if i = 2 then numT fl else if i = 3 then numT crc else if i = 4 then strT data else if i = 5 then strT sum else T.nil

/-- The cells of its first five parts. -/
abbrev blk5 (ty num fl crc : Nat) (data : List UInt8) : Array Value := #[.int .i64 0, .int .u64 (ty : Int), str [], .slice none 0 0, .bool false, .int .i64 0, .int .u64 (num : Int), str [], .slice none 0 0, .bool false, .int .i64 0, .int .u64 (fl : Int), str [], .slice none 0 0, .bool false, .int .i64 0, .int .u64 (crc : Int), str [], .slice none 0 0, .bool false, .int .i64 2, .int .u64 0, str data, .slice none 0 0, .bool false]

theorem blk5_IsL {W : World} {Q : Nat → Prop} {g : Nat} {ty num fl : Nat} {data sum : List UInt8} (q : Q g) (h : Blk W g 48 (blk5 ty num fl 0 data)) : IsL W Q (blkT ty num fl 0 data sum) (some ⟨g, 0, none⟩) := fun _ => ⟨g, 0, rfl, h.lt, q, fun j hj => by
  have hj2 : j = 0 ∨ j = 1 ∨ j = 2 ∨ j = 3 ∨ j = 4 := by simp at hj; omega
  rcases hj2 with rfl | rfl | rfl | rfl | rfl
  · exact ⟨none, 0, ⟨h.cell 0, h.cell 1, h.cell 2, h.cell 3, h.cell 4⟩, fun h => absurd h (by decide)⟩
  · exact ⟨none, 0, ⟨h.cell 5, h.cell 6, h.cell 7, h.cell 8, h.cell 9⟩, fun h => absurd h (by decide)⟩
  · exact ⟨none, 0, ⟨h.cell 10, h.cell 11, h.cell 12, h.cell 13, h.cell 14⟩, fun h => absurd h (by decide)⟩
  · exact ⟨none, 0, ⟨h.cell 15, h.cell 16, h.cell 17, h.cell 18, h.cell 19⟩, fun h => absurd h (by decide)⟩
  · exact ⟨none, 0, ⟨h.cell 20, h.cell 21, h.cell 22, h.cell 23, h.cell 24⟩, fun h => absurd h (by decide)⟩⟩
theorem blk6_IsL {W : World} {Q : Nat → Prop} {base g c : Nat} {ty num fl crc : Nat} {data sum : List UInt8} (hc : ¬ crc = 0) (q : Q g) (hlt : g < W.heap.size) (h : W.ownsRow base 48 5 (.slice (some ⟨g, 0, none⟩) (5 + 1) c) (5 + 1) ((blk5 ty num fl crc data).toList ++ [Value.int .i64 (strT sum).kind, .int .u64 ((strT sum).n : Int), str (strT sum).s, .slice none (strT sum).k 0, .bool (strT sum).op])) : IsL W Q (blkT ty num fl crc data sum) (some ⟨g, 0, none⟩) := by
  unfold blkT
  rw [if_neg hc]
  refine fun _ => ⟨g, 0, rfl, hlt, q, fun j hj => ?_⟩
  have hj2 : j = 0 ∨ j = 1 ∨ j = 2 ∨ j = 3 ∨ j = 4 ∨ j = 5 := by omega
  rcases hj2 with rfl | rfl | rfl | rfl | rfl | rfl
  · exact ⟨none, 0, ⟨own_cells (j := 0) h rfl, own_cells (j := 1) h rfl, own_cells (j := 2) h rfl, own_cells (j := 3) h rfl, own_cells (j := 4) h rfl⟩, fun h => absurd h (by decide)⟩
  · exact ⟨none, 0, ⟨own_cells (j := 5) h rfl, own_cells (j := 6) h rfl, own_cells (j := 7) h rfl, own_cells (j := 8) h rfl, own_cells (j := 9) h rfl⟩, fun h => absurd h (by decide)⟩
  · exact ⟨none, 0, ⟨own_cells (j := 10) h rfl, own_cells (j := 11) h rfl, own_cells (j := 12) h rfl, own_cells (j := 13) h rfl, own_cells (j := 14) h rfl⟩, fun h => absurd h (by decide)⟩
  · exact ⟨none, 0, ⟨own_cells (j := 15) h rfl, own_cells (j := 16) h rfl, own_cells (j := 17) h rfl, own_cells (j := 18) h rfl, own_cells (j := 19) h rfl⟩, fun h => absurd h (by decide)⟩
  · exact ⟨none, 0, ⟨own_cells (j := 20) h rfl, own_cells (j := 21) h rfl, own_cells (j := 22) h rfl, own_cells (j := 23) h rfl, own_cells (j := 24) h rfl⟩, fun h => absurd h (by decide)⟩
  · exact ⟨none, 0, ⟨own_cells (j := 25) h rfl, own_cells (j := 26) h rfl, own_cells (j := 27) h rfl, own_cells (j := 28) h rfl, own_cells (j := 29) h rfl⟩, fun h => absurd h (by decide)⟩
set_option maxRecDepth 20000 in
set_option maxHeartbeats 800000 in
theorem with_any (ty num fl crc : Nat) (data sum : List UInt8) (h1 : ty ≤ 65535) (h2 : num ≤ 65535) (h3 : crc ≤ 2) (w : World) : Calls Try.prog 37 #[BV.v ⟨ty, num, fl, crc, data⟩, str sum] w (fun e w' => ∃ A c, e = .returned (itemV (blkT ty num fl crc data sum) A c) ∧ Ext w w' ∧ IsL w' (fun b => w.heap.size ≤ b) (blkT ty num fl crc data sum) A) := by
  have HB := hid ((Blk.new w 32 (BV.c ⟨ty, num, fl, crc, data⟩)).alloc (.cells #[.int .i64 0, .int .u64 0, .string ⟨#[]⟩, .slice none 0 0, .bool false] 48))
  have HR : Hid (Blk ((w.alloc (.cells (BV.c ⟨ty, num, fl, crc, data⟩) 32)).alloc (.cells #[.int .i64 0, .int .u64 0, .string ⟨#[]⟩, .slice none 0 0, .bool false] 48)) (w.heap.size + 1) 48 #[.int .i64 0, .int .u64 0, .string ⟨#[]⟩, .slice none 0 0, .bool false]) := by
    have := Blk.new (w.alloc (.cells (BV.c ⟨ty, num, fl, crc, data⟩) 32)) 48 #[.int .i64 0, .int .u64 0, .string ⟨#[]⟩, .slice none 0 0, .bool false]
    unfold Hid
    simpa using this
  have HE := hid (((Mod.refl [] w).alloc (.cells (BV.c ⟨ty, num, fl, crc, data⟩) 32)).alloc (.cells #[.int .i64 0, .int .u64 0, .string ⟨#[]⟩, .slice none 0 0, .bool false] 48))
  have t1 : IntKind.u64.wrap (ty : Int) = (ty : Int) := IntWalk.u64_in _ (by omega)
  have t2 : IntKind.u64.wrap (num : Int) = (num : Int) := IntWalk.u64_in _ (by omega)
  have t3 : IntKind.u64.wrap (crc : Int) = (crc : Int) := IntWalk.u64_in _ (by omega)
  go_enter Try.func37, Try.ntmps37
  go_upto_region 1 with fail
  generalize ((w.alloc (.cells (BV.c ⟨ty, num, fl, crc, data⟩) 32)).alloc (.cells #[.int .i64 0, .int .u64 0, .string ⟨#[]⟩, .slice none 0 0, .bool false] 48)) = V at *
  have HS : Hid (∀ w', Ext V w' → w'.cell? ⟨w.heap.size, 0, none⟩ = some (.int .i64 (ty : Int)) ∧ w'.cell? ⟨w.heap.size, 1, none⟩ = some (.int .i64 (num : Int)) ∧ w'.cell? ⟨w.heap.size, 2, none⟩ = some (.int .u64 (fl : Int)) ∧ w'.cell? ⟨w.heap.size, 3, none⟩ = some (.int .i64 (crc : Int)) ∧ w'.cell? ⟨w.heap.size, 4, none⟩ = some (str data)) := fun W hW => by
    have b1 := HB.out.ext hW
    exact ⟨b1.cell 0, b1.cell 1, b1.cell 2, b1.cell 3, b1.cell 4⟩
  obtain ⟨p0, p1, p2, p3, p4⟩ := HS.out V (Mod.refl _ _)
  go_cut [5] (fun s3 wx => ∃ g3, s3 = .slice (some ⟨g3, 0, none⟩) 5 5 ∧ Hid (Ext V wx ∧ Blk wx g3 48 (blk5 ty num fl crc data) ∧ w.heap.size + 2 ≤ g3))
  case first =>
    go_region_held3 (fun w' => w'.cell? ⟨w.heap.size, 0, none⟩ = some (.int .i64 (ty : Int)) ∧ w'.cell? ⟨w.heap.size, 1, none⟩ = some (.int .i64 (num : Int)) ∧ w'.cell? ⟨w.heap.size, 2, none⟩ = some (.int .u64 (fl : Int)) ∧ w'.cell? ⟨w.heap.size, 3, none⟩ = some (.int .i64 (crc : Int)) ∧ w'.cell? ⟨w.heap.size, 4, none⟩ = some (str data)) (go_keep)
        (first
          | (go_at_call 66; (try rw [t1]); (try rw [t2]); (try rw [t3]); refine (NumI_any _ _).mono ?_; rintro x w3 ⟨rfl, hb3⟩; have hx : Ext V w3 := (by (with_reducible refine Mod.trans ?_ hb3); (repeat (first | with_reducible assumption | with_reducible exact Mod.refl _ _ | with_reducible refine Mod.drew ?_ | with_reducible refine Mod.alloc ?_ _))); have z := HS.out w3 hx)
          | (go_at_call 50; refine (StrV_any _ _).mono ?_; rintro x w3 ⟨rfl, hb3⟩; have hx : Ext V w3 := (by (with_reducible refine Mod.trans ?_ hb3); (repeat (first | with_reducible assumption | with_reducible exact Mod.refl _ _ | with_reducible refine Mod.drew ?_ | with_reducible refine Mod.alloc ?_ _))); have z := HS.out w3 hx))
    all_goals go_wp2_with fail
    all_goals go_meet
    all_goals exact ⟨_, rfl, Mod.alloc hx _, Blk.new _ _ _, Nat.le_trans (Nat.succ_le_of_lt HR.out.lt) (Mod.size (S := []) (w := V) (by assumption))⟩
  obtain ⟨g3, rfl, hG⟩ := hcut
  have HE1 := hid (HE.out.trans hG.out.1)
  have HB1 := hid (HB.out.ext hG.out.1)
  have HR1 := hid (HR.out.ext hG.out.1)
  have q3 : wc.cell? ⟨w.heap.size, 3, none⟩ = some (.int .i64 (crc : Int)) := HB1.out.cell 3
  clear p0 p1 p2 p3 p4 HS t1 t2 t3 HE HB HR
  by_cases hc : crc = 0
  · subst hc
    go_wp2_with fail
    refine (ListV_any 5 _ 5 _).mono ?_
    rintro e w8 ⟨rfl, hb8⟩
    have HE8 := hid (HE1.out.trans hb8)
    have HR8 : Hid (Blk w8 (w.heap.size + 1) 48 (itemC (T.mk 0 0 [] false 0 fun _ => T.nil) none 0)) := hid (HR1.out.ext hb8)
    have HG8 := hid (hG.out.2.1.ext hb8)
    obtain ⟨c0, c1, c2, c3, c4⟩ := cells5 HR8.out
    have f0 := Blk.frozen HR8.out 0
    have f1 := Blk.frozen HR8.out 1
    have f2 := Blk.frozen HR8.out 2
    have f3 := Blk.frozen HR8.out 3
    have f4 := Blk.frozen HR8.out 4
    clear hb8 q3
    go_wp2_with fail
    obtain ⟨d0, d1, d2, d3, d4⟩ := cells5 (set5_blk (t := blkT ty num fl 0 data sum) (A := some ⟨g3, 0, none⟩) (c := 5) HR8.out)
    clear c0 c1 c2 c3 c4 f0 f1 f2 f3 f4
    show bodyPost _ _ _ _ _ (set5 w8 (w.heap.size + 1) (blkT ty num fl 0 data sum) (some ⟨g3, 0, none⟩) 5)
    refine bodyPost_ret (v := itemV (blkT ty num fl 0 data sum) (some ⟨g3, 0, none⟩) 5) (by simp [results, Try.results37, go_sem, d0, d1, d2, d3, d4]) rfl ?_
    refine ⟨_, 5, rfl, set5_mod HE8.out (by omega), IsL.weak (fun _ _ h => by have : w.heap.size + 2 ≤ _ := h; omega) _ (IsL.mod (Q := fun b => w.heap.size + 2 ≤ b) set5_modb (fun k hq hk hm => by rw [List.mem_singleton] at hm; have : w.heap.size + 2 ≤ k := hq; omega) _ (blk5_IsL hG.out.2.2 HG8.out))⟩
  · have hc2 : ((crc : Int) = 0) = False := by simp [hc]
    have hc3 : ((crc : Int) == 0) = false := by simp [hc]
    obtain ⟨i0, hi, hz0, hz1, hz2⟩ := info_parts infoItem
    go_wp2_with fail
    refine (StrV_any sum _).mono ?_
    rintro e w8 ⟨rfl, hb8⟩
    have HE8 := hid (HE1.out.trans hb8)
    have HR8 := hid (HR1.out.ext hb8)
    have hown8 := own_of_blk (base := w.heap.size + 2) (n := 5) (size := 5) (hG.out.2.1.ext hb8) hG.out.2.2 (by decide) rfl
    clear hb8 q3
    go_wp2_with (at_builtin; refine wpList_append_own _ rfl _ _ 46 rfl (w.heap.size + 2) 48 i0 _ 5 64 Try.underlying46 hi hz0 hz1 hz2 rfl (by decide) _ _ _ rfl (hown8.alloc _) ⟨w8.heap.size, 0, none⟩ 1 1 [Value.int .i64 (strT sum).kind, .int .u64 ((strT sum).n : Int), str (strT sum).s, .slice none (strT sum).k 0, .bool (strT sum).op] rfl rfl (news5 w8 (strT sum) none 0) (one5 (strT sum) none 0) (by decide) (by decide) (by have := HR8.out.lt; simp; omega) ?_; intro v' w9 hown' hgrow _)
    obtain ⟨g4, k4, rfl, hg4, hlt4⟩ := own_form hown'
    have HE9 := hid ((HE8.out.alloc _).grown hgrow (fun k hk => by obtain rfl : g3 = k := Option.some.inj hk; right; have := hG.out.2.2; omega))
    have HR9 := hid ((HR8.out.alloc _).mod (Mod.grown (S := [g3]) (Mod.refl _ _) hgrow (fun k hk => by obtain rfl : g3 = k := Option.some.inj hk; left; simp)) (by have := hG.out.2.2; simp; omega))
    have HL9 := hid (blk6_IsL (sum := sum) (Q := fun b => w.heap.size + 2 ≤ b) hc (show w.heap.size + 2 ≤ g4 by omega) hlt4 hown')
    clear hown8 hown' hgrow hlt4 hz0 hz1 hz2 hi
    go_wp2_with fail
    refine (ListV_any 6 _ k4 _).mono ?_
    rintro e wA ⟨rfl, hbA⟩
    have HEA := hid (HE9.out.trans hbA)
    have HRA : Hid (Blk wA (w.heap.size + 1) 48 (itemC (T.mk 0 0 [] false 0 fun _ => T.nil) none 0)) := hid (HR9.out.ext hbA)
    have HLA := hid (HL9.out.ext hbA)
    obtain ⟨c0, c1, c2, c3, c4⟩ := cells5 HRA.out
    have f0 := Blk.frozen HRA.out 0
    have f1 := Blk.frozen HRA.out 1
    have f2 := Blk.frozen HRA.out 2
    have f3 := Blk.frozen HRA.out 3
    have f4 := Blk.frozen HRA.out 4
    clear hbA
    go_wp2_with fail
    obtain ⟨d0, d1, d2, d3, d4⟩ := cells5 (set5_blk (t := T.mk 4 0 [] false 6 fun _ => T.nil) (A := some ⟨g4, 0, none⟩) (c := k4) HRA.out)
    clear c0 c1 c2 c3 c4 f0 f1 f2 f3 f4
    show bodyPost _ _ _ _ _ (set5 wA (w.heap.size + 1) (T.mk 4 0 [] false 6 fun _ => T.nil) (some ⟨g4, 0, none⟩) k4)
    refine bodyPost_ret (v := itemV (T.mk 4 0 [] false 6 fun _ => T.nil) (some ⟨g4, 0, none⟩) k4) (by simp [results, Try.results37, go_sem, d0, d1, d2, d3, d4]) rfl ?_
    refine ⟨some ⟨g4, 0, none⟩, k4, ?_, set5_mod HEA.out (by omega), IsL.weak (fun _ _ h => by have : w.heap.size + 2 ≤ _ := h; omega) _ (IsL.mod (Q := fun b => w.heap.size + 2 ≤ b) set5_modb (fun k hq hk hm => by rw [List.mem_singleton] at hm; have : w.heap.size + 2 ≤ k := hq; omega) _ HLA.out)⟩
    simp only [blkT, if_neg hc]
    rfl
end Go.Proofs.Ytkeabdfgacicaaa


namespace Go.Proofs.Ytkeabdfgacicaaa
open Go.RowKit
set_option linter.unusedVariables false
set_option linter.unusedSimpArgs false

theorem blkT_ok {ty num fl crc : Nat} {data sum : List UInt8} (h1 : ty ≤ 65535) (h2 : num ≤ 65535) (h3 : fl ≤ 255) (h4 : crc ≤ 2) (h5 : data.length ≤ 4000) (h6 : sum.length ≤ 4000) : (blkT ty num fl crc data sum).ok := by
  unfold blkT T.ok
  refine ⟨by omega, by omega, by simp, by split <;> omega, fun i hi => ?_⟩
  dsimp only
  split
  · exact num_ok (by omega)
  · split
    · exact num_ok (by omega)
    · split
      · exact num_ok (by omega)
      · split
        · exact num_ok (by omega)
        · split
          · exact str_ok (by omega)
          · split
            · exact str_ok (by omega)
            · have : i < 6 := by split at hi <;> omega
              omega

set_option maxRecDepth 20000 in
theorem summed_0 (t : T) (A : Option Addr) (c : Nat) (w : World) : Calls Try.prog 36 #[.int .i64 0, itemV t A c] w (Ret (itemV t A c) w) := by
  have HB := hid (Blk.new w 48 (itemC t A c))
  go_enter Try.func36, Try.ntmps36
  go_wp2_with fail
  refine bodyPost_ret (v := itemV t A c) (by simp [results, Try.results36, go_sem]) rfl (Ret.mk rfl (((Mod.refl _ _).alloc _).alloc _))

set_option maxRecDepth 20000 in
set_option maxHeartbeats 800000 in
theorem Item_bad (b : BV) (hb : b.right ≠ 0) (w : World) : Calls Try.prog 18 #[b.v] w (Ret (.tuple #[itemV (numT 0) none 0, .int .i64 b.right]) w) := by
  have HB := hid (Blk.new w 32 b.c)
  have HE0 := hid (((Mod.refl [] w).alloc (.cells b.c 32)).alloc (.cells #[.int .i64 0, .int .u64 0, .string ⟨#[]⟩, .slice none 0 0, .bool false] 48))
  have HR : Hid (Blk ((w.alloc (.cells b.c 32)).alloc (.cells #[.int .i64 0, .int .u64 0, .string ⟨#[]⟩, .slice none 0 0, .bool false] 48)) (w.heap.size + 1) 48 (itemC (numT 0) none 0)) := by
    have := Blk.new (w.alloc (.cells b.c 32)) 48 (itemC (numT 0) none 0)
    unfold Hid
    simpa [itemC, numT, T.kind, T.n, T.s, T.k, T.op] using this
  have k1 : Hid (∀ W, Calls Try.prog 35 #[b.v] W (Ret (.int .i64 b.right) W)) := fun W => cbRight_any b W
  generalize b.right = r at *
  have e1 : (r = 0) = False := by simp [hb]
  have e2 : (r == 0) = false := by simp [hb]
  go_enter Try.func18, Try.ntmps18
  go_wp2_with fail
  refine (k1.out _).mono ?_
  rintro e w1 ⟨rfl, hb1⟩
  have HE1 := hid (HE0.out.trans hb1)
  have HR1 := hid (HR.out.ext hb1)
  obtain ⟨c0, c1, c2, c3, c4⟩ := cells5 HR1.out
  have f0 := Blk.frozen HR1.out 0
  have f1 := Blk.frozen HR1.out 1
  have f2 := Blk.frozen HR1.out 2
  have f3 := Blk.frozen HR1.out 3
  have f4 := Blk.frozen HR1.out 4
  clear hb1
  go_wp2_with fail
  obtain ⟨d0, d1, d2, d3, d4⟩ := cells5 (set5_blk (t := numT 0) (A := none) (c := 0) HR1.out)
  clear c0 c1 c2 c3 c4 f0 f1 f2 f3 f4
  show bodyPost _ _ _ _ _ (set5 w1 (w.heap.size + 1) (numT 0) none 0)
  refine bodyPost_ret (v := .tuple #[itemV (numT 0) none 0, .int .i64 r]) (by simp [results, Try.results18, go_sem, d0, d1, d2, d3, d4]) rfl ?_
  exact Ret.mk rfl (set5_mod HE1.out (by omega))
set_option maxRecDepth 20000 in
set_option maxHeartbeats 800000 in
theorem Item_ok (ty num fl crc : Nat) (data : List UInt8) (hb : BV.right ⟨ty, num, fl, crc, data⟩ = 0) (t : T) (KS : Hid (∀ N A c W, N ≤ W.heap.size → IsL W (fun b => N ≤ b) (blkT ty num fl crc data []) A → Calls Try.prog 36 #[.int .i64 (crc : Int), itemV (blkT ty num fl crc data []) A c] W (fun e w' => ∃ A c, e = .returned (itemV t A c) ∧ Ext W w' ∧ IsL w' (fun b => N ≤ b) t A))) (w : World) : Calls Try.prog 18 #[BV.v ⟨ty, num, fl, crc, data⟩] w (fun e w' => ∃ A c, e = .returned (.tuple #[itemV t A c, .int .i64 0]) ∧ Ext w w' ∧ IsL w' (fun b => w.heap.size ≤ b) t A) := by
  have h := BV.right_zero hb
  simp only [] at h
  have HB := hid ((Blk.new w 32 (BV.c ⟨ty, num, fl, crc, data⟩)).alloc (.cells #[.int .i64 0, .int .u64 0, .string ⟨#[]⟩, .slice none 0 0, .bool false] 48))
  have HE0 := hid (((Mod.refl [] w).alloc (.cells (BV.c ⟨ty, num, fl, crc, data⟩) 32)).alloc (.cells #[.int .i64 0, .int .u64 0, .string ⟨#[]⟩, .slice none 0 0, .bool false] 48))
  have HR : Hid (Blk ((w.alloc (.cells (BV.c ⟨ty, num, fl, crc, data⟩) 32)).alloc (.cells #[.int .i64 0, .int .u64 0, .string ⟨#[]⟩, .slice none 0 0, .bool false] 48)) (w.heap.size + 1) 48 (itemC (numT 0) none 0)) := by
    have := Blk.new (w.alloc (.cells (BV.c ⟨ty, num, fl, crc, data⟩) 32)) 48 (itemC (numT 0) none 0)
    unfold Hid
    simpa [itemC, numT, T.kind, T.n, T.s, T.k, T.op] using this
  have k1 : Hid (∀ W, Calls Try.prog 35 #[BV.v ⟨ty, num, fl, crc, data⟩] W (Ret (.int .i64 0) W)) := fun W => by have := cbRight_any ⟨ty, num, fl, crc, data⟩ W; rw [hb] at this; exact this
  go_enter Try.func18, Try.ntmps18
  go_wp2_with fail
  refine (k1.out _).mono ?_
  rintro e w1 ⟨rfl, hb1⟩
  have HE1 := hid (HE0.out.trans hb1)
  have HR1 := hid (HR.out.ext hb1)
  have HC := hid (HB.out.ext hb1)
  obtain ⟨c0, c1, c2, c3, c4⟩ : w1.cell? ⟨w.heap.size, 0, none⟩ = some (.int .i64 (ty : Int)) ∧ w1.cell? ⟨w.heap.size, 1, none⟩ = some (.int .i64 (num : Int)) ∧ w1.cell? ⟨w.heap.size, 2, none⟩ = some (.int .u64 (fl : Int)) ∧ w1.cell? ⟨w.heap.size, 3, none⟩ = some (.int .i64 (crc : Int)) ∧ w1.cell? ⟨w.heap.size, 4, none⟩ = some (str data) := ⟨HC.out.cell 0, HC.out.cell 1, HC.out.cell 2, HC.out.cell 3, HC.out.cell 4⟩
  clear hb1
  have HN : Hid (w.heap.size + 2 ≤ w1.heap.size) := Nat.succ_le_of_lt HR1.out.lt
  go_upto_region 4 with fail
  have HS : Hid (∀ w', Ext w1 w' → w'.cell? ⟨w.heap.size, 0, none⟩ = some (.int .i64 (ty : Int)) ∧ w'.cell? ⟨w.heap.size, 1, none⟩ = some (.int .i64 (num : Int)) ∧ w'.cell? ⟨w.heap.size, 2, none⟩ = some (.int .u64 (fl : Int)) ∧ w'.cell? ⟨w.heap.size, 3, none⟩ = some (.int .i64 (crc : Int)) ∧ w'.cell? ⟨w.heap.size, 4, none⟩ = some (str data)) := fun W hW => by
    have b1 := HC.out.ext hW
    exact ⟨b1.cell 0, b1.cell 1, b1.cell 2, b1.cell 3, b1.cell 4⟩
  obtain ⟨g0, g1, g2, g3, g4⟩ := cells5 HR1.out
  have f0 := Blk.frozen HR1.out 0
  have f1 := Blk.frozen HR1.out 1
  have f2 := Blk.frozen HR1.out 2
  have f3 := Blk.frozen HR1.out 3
  have f4 := Blk.frozen HR1.out 4
  go_region_held3 (fun w' => w'.cell? ⟨w.heap.size, 0, none⟩ = some (.int .i64 (ty : Int)) ∧ w'.cell? ⟨w.heap.size, 1, none⟩ = some (.int .i64 (num : Int)) ∧ w'.cell? ⟨w.heap.size, 2, none⟩ = some (.int .u64 (fl : Int)) ∧ w'.cell? ⟨w.heap.size, 3, none⟩ = some (.int .i64 (crc : Int)) ∧ w'.cell? ⟨w.heap.size, 4, none⟩ = some (str data)) (go_keep)
      (first
        | (go_at_call 37; refine (with_any ty num fl crc data [] (by omega) (by omega) (by omega) _).mono ?_; rintro x w3 ⟨A, c, rfl, hb3, hl3⟩; have hl3 := IsL.weak (R := fun b => w.heap.size + 2 ≤ b) (fun k _ hq => Nat.le_trans (Nat.le_trans HN.out (Mod.size (S := []) (by first | with_reducible exact Mod.refl _ _ | with_reducible exact (Mod.refl _ _).drew))) hq) _ hl3; have hx : Ext w1 w3 := (by (with_reducible refine Mod.trans ?_ hb3); (repeat (first | with_reducible assumption | with_reducible exact Mod.refl _ _ | with_reducible refine Mod.drew ?_ | with_reducible refine Mod.alloc ?_ _))); have z := HS.out w3 hx)
        | (go_at_call 36; refine (KS.out (w.heap.size + 2) _ _ _ (Nat.le_trans HN.out (Mod.size hx)) hl3).mono ?_; rintro x w4 ⟨A2, c2, rfl, hb4, hl4⟩; have hx : Ext w1 w4 := (by (with_reducible refine Mod.trans ?_ hb4); (repeat (first | with_reducible assumption | with_reducible exact Mod.refl _ _ | with_reducible refine Mod.drew ?_ | with_reducible refine Mod.alloc ?_ _))); have z := HS.out w4 hx; have HR4 := hid (HR1.out.ext hx); obtain ⟨g0, g1, g2, g3, g4⟩ := cells5 HR4.out; have f0 := Blk.frozen HR4.out 0; have f1 := Blk.frozen HR4.out 1; have f2 := Blk.frozen HR4.out 2; have f3 := Blk.frozen HR4.out 3; have f4 := Blk.frozen HR4.out 4))
  all_goals go_wp2_with fail
  all_goals obtain ⟨d0, d1, d2, d3, d4⟩ := cells5 (set5_blk (t := t) (A := A2) (c := c2) HR4.out)
  all_goals clear g0 g1 g2 g3 g4 f0 f1 f2 f3 f4
  all_goals show bodyPost _ _ _ _ _ (set5 w4 (w.heap.size + 1) t A2 c2)
  all_goals refine bodyPost_ret (v := .tuple #[itemV t A2 c2, .int .i64 0]) (by simp [results, Try.results18, go_sem, d0, d1, d2, d3, d4]) rfl ?_
  all_goals exact ⟨A2, c2, rfl, set5_mod (HE1.out.trans hx) (by omega), IsL.weak (fun _ _ h => by have : w.heap.size + 2 ≤ _ := h; omega) _ (IsL.mod (Q := fun b => w.heap.size + 2 ≤ b) set5_modb (fun k hq hk hm => by rw [List.mem_singleton] at hm; have : w.heap.size + 2 ≤ k := hq; omega) _ hl4)⟩
end Go.Proofs.Ytkeabdfgacicaaa


namespace Go.Proofs.Ytkeabdfgacicaaa
open Go.RowKit
set_option linter.unusedVariables false
set_option linter.unusedSimpArgs false

set_option maxRecDepth 20000 in
set_option maxHeartbeats 800000 in
theorem Build_bad (b : BV) (hb : b.right ≠ 0) (w : World) : Calls Try.prog 20 #[b.v] w (Ret (.tuple #[str [], .int .i64 b.right]) w) := by
  have HE0 := hid ((Mod.refl [] w).alloc (.cells b.c 32))
  have k1 : Hid (∀ W, Calls Try.prog 18 #[b.v] W (Ret (.tuple #[itemV (numT 0) none 0, .int .i64 b.right]) W)) := fun W => Item_bad b hb W
  generalize b.right = r at *
  have e1 : (r = 0) = False := by simp [hb]
  have e2 : (r == 0) = false := by simp [hb]
  go_enter Try.func20, Try.ntmps20
  go_wp2_with fail
  refine (k1.out _).mono ?_
  rintro e w1 ⟨rfl, hb1⟩
  have HE1 := hid (HE0.out.trans hb1)
  clear hb1
  go_wp2_with fail
  refine bodyPost_ret (v := .tuple #[str [], .int .i64 r]) (by simp [results, Try.results20, go_sem]) rfl (Ret.mk rfl (HE1.out.alloc _))
set_option maxRecDepth 20000 in
set_option maxHeartbeats 800000 in
theorem Build_ok (ty num fl crc : Nat) (data : List UInt8) (hb : BV.right ⟨ty, num, fl, crc, data⟩ = 0) (t : T) (hok : t.ok) (hsz : t.size ≤ 100000) (KS : Hid (∀ N A c W, N ≤ W.heap.size → IsL W (fun b => N ≤ b) (blkT ty num fl crc data []) A → Calls Try.prog 36 #[.int .i64 (crc : Int), itemV (blkT ty num fl crc data []) A c] W (fun e w' => ∃ A c, e = .returned (itemV t A c) ∧ Ext W w' ∧ IsL w' (fun b => N ≤ b) t A))) (w : World) : Calls Try.prog 20 #[BV.v ⟨ty, num, fl, crc, data⟩] w (Ret (buildV t) w) := by
  have HE0 := hid ((Mod.refl [] w).alloc (.cells (BV.c ⟨ty, num, fl, crc, data⟩) 32))
  go_enter Try.func20, Try.ntmps20
  go_wp2_with fail
  refine (Item_ok ty num fl crc data hb t KS _).mono ?_
  rintro e w1 ⟨A, c, rfl, hb1, hl1⟩
  have HE1 := hid (HE0.out.trans hb1)
  have HL1 := hid hl1
  clear hb1 hl1
  go_wp2_with fail
  refine (iBuild_any t hok hsz A c _ (IsL.ext (IsL.weak (fun _ _ _ => trivial) _ HL1.out) ((Mod.refl _ _).alloc _))).mono ?_
  rintro e w2 ⟨rfl, hb2⟩
  have HE2 := hid ((HE1.out.alloc _).trans hb2)
  clear hb2
  obtain ⟨s, E, hV⟩ : ∃ s E, buildV t = .tuple #[str s, .int .i64 E] := by unfold buildV; split; exact ⟨_, _, rfl⟩; exact ⟨_, _, rfl⟩
  rw [hV]
  go_wp2_with fail
  refine bodyPost_ret (v := .tuple #[str s, .int .i64 E]) (by simp [results, Try.results20, go_sem]) rfl (Ret.mk hV.symm HE2.out)

set_option maxRecDepth 20000 in
theorem awake12_any (w : World) : Calls Try.prog 16 #[] w (Ret (.bool true) w) := by
  have K : Hid (∀ W, Calls Try.prog 20 #[BV.v ⟨1, 1, 0, 0, [104, 105]⟩] W (Ret (.tuple #[str [133, 1, 1, 0, 0, 66, 104, 105], .int .i64 0]) W)) := fun W => by
    have h := Build_ok 1 1 0 0 [104, 105] (by decide) (blkT 1 1 0 0 [104, 105] []) (blkT_ok (by omega) (by omega) (by omega) (by omega) (by decide) (by decide)) (by decide) (fun N A c W hN hl => (summed_0 _ A c W).mono fun e w' ⟨he, hb⟩ => ⟨A, c, he, hb, hl.ext hb⟩) W
    have e : buildV (blkT 1 1 0 0 [104, 105] []) = .tuple #[str [133, 1, 1, 0, 0, 66, 104, 105], .int .i64 0] := by
      have h1 : (blkT 1 1 0 0 [104, 105] []).right 8 = true := by decide
      have h2 : (blkT 1 1 0 0 [104, 105] []).bytes = [133, 1, 1, 0, 0, 66, 104, 105] := by decide
      rw [buildV, h1, h2]; rfl
    rw [e] at h
    exact h
  go_enter Try.func16, Try.ntmps16
  go_wp2_with fail
  refine (K.out _).mono ?_
  rintro e w1 ⟨rfl, hb1⟩
  go_wp2_with fail
  go_ret
  exact Ret.mk rfl hb1
end Go.Proofs.Ytkeabdfgacicaaa


namespace Go.Proofs.Ytkeabdfgacicaaa
open Go.RowKit
set_option linter.unusedVariables false
set_option linter.unusedSimpArgs false

/-- An array of six, with another last part. -/
def lastT (ch : Nat → T) (s : List UInt8) : T := T.mk 4 0 [] false 6 fun i => if i = 5 then strT s else ch i
/-- Its bytes, as they are built. -/
def bldL (t : T) : List UInt8 := if t.right 8 then t.bytes else []
theorem buildV_bld (t : T) : ∃ E, buildV t = .tuple #[str (bldL t), .int .i64 E] := by
  unfold buildV bldL
  split
  · exact ⟨_, rfl⟩
  · exact ⟨_, rfl⟩
theorem lastK {W W' : World} {g : Nat} {Q : Nat → Prop} {ch : Nat → T} {ac : Nat → Option Addr × Nat} (hm : Mod [g] W W') (hq : ∀ b, Q b → b ≠ g) (h : ∀ i, i < 6 → IsL W Q (ch i) (ac i).1) (s : List UInt8) :
    ∀ i, i < 6 → IsL W' Q ((fun i => if i = 5 then strT s else ch i) i) ((fun i => if i = 5 then ((none : Option Addr), 0) else ac i) i).1 := by
  intro i hi
  by_cases e : i = 5
  · subst e; simp only [if_true]; exact fun h => absurd h (by decide)
  · simp only [if_neg e]
    exact IsL.mod hm (fun k hk _ hm => by rw [List.mem_singleton] at hm; exact hq k hk hm) _ (h i hi)

set_option maxRecDepth 20000 in
set_option maxHeartbeats 1600000 in
theorem summed_any (ch : Nat → T) (kind : Nat) (k1 : Hid (1 ≤ kind)) (k2 : Hid (kind ≤ 2)) (hok : Hid ((lastT ch (List.replicate (2 * kind) 0)).ok ∧ (lastT ch (List.replicate (2 * kind) 0)).size ≤ 100000)) (hbl : Hid ((bldL (lastT ch (List.replicate (2 * kind) 0))).length < 1000000)) (N : Nat) (A : Option Addr) (c : Nat) (w : World) (hN : Hid (N ≤ w.heap.size)) (h : IsL w (fun b => N ≤ b) (T.mk 4 0 [] false 6 ch) A) :
    Calls Try.prog 36 #[.int .i64 (kind : Int), .agg #[.int .i64 4, .int .u64 0, str [], .slice A 6 c, .bool false]] w (fun e w' => ∃ A c, e = .returned (itemV (lastT ch (Crc.sumL kind (bldL (lastT ch (List.replicate (2 * kind) 0))))) A c) ∧ Ext w w' ∧ IsL w' (fun b => N ≤ b) (lastT ch (Crc.sumL kind (bldL (lastT ch (List.replicate (2 * kind) 0))))) A) := by
  have e1 : ((kind : Int) = 0) = False := by have := k1.out; simp; omega
  have e2 : ((kind : Int) == 0) = false := by have := k1.out; simp; omega
  have HI : Hid (IsL w (fun b => N ≤ b ∧ b < w.heap.size) (T.mk 4 0 [] false 6 ch) A) := IsL.weak (fun k hk hq => ⟨hq, hk⟩) _ h
  clear h
  have KR := hid (fun W => Repeat_zero (2 * kind) (by have := k2.out; omega) W)
  have KS := hid (fun W => Sum_any kind k1.out k2.out (bldL (lastT ch (List.replicate (2 * kind) 0))) hbl W)
  obtain ⟨E, hE⟩ := buildV_bld (lastT ch (List.replicate (2 * kind) 0))
  have HV := hid hE; clear hE
  have hTk : (lastT ch (List.replicate (2 * kind) 0)) = T.mk 4 0 [] false 6 (fun i => if i = 5 then strT (List.replicate (2 * kind) 0) else ch i) := rfl
  have HT := hid hTk; clear hTk
  generalize bldL (lastT ch (List.replicate (2 * kind) 0)) = B at *
  have HU : Hid (lastT ch (Crc.sumL kind B) = T.mk 4 0 [] false 6 (fun i => if i = 5 then strT (Crc.sumL kind B) else if i = 5 then strT (List.replicate (2 * kind) 0) else ch i)) := by
    unfold Hid lastT
    congr 1
    funext i
    split <;> rfl
  generalize lastT ch (Crc.sumL kind B) = U at *
  generalize lastT ch (List.replicate (2 * kind) 0) = Y at *
  generalize List.replicate (2 * kind) (0 : UInt8) = Z at *
  generalize Crc.sumL kind B = S at *
  have HE := hid (((Mod.refl [] w).alloc (.cells #[.int .i64 4, .int .u64 0, str [], .slice A 6 c, .bool false] 48)).alloc (.cells #[.int .i64 0, .int .u64 0, .string ⟨#[]⟩, .slice none 0 0, .bool false] 48))
  have HR : Hid (Blk ((w.alloc (.cells #[.int .i64 4, .int .u64 0, str [], .slice A 6 c, .bool false] 48)).alloc (.cells #[.int .i64 0, .int .u64 0, .string ⟨#[]⟩, .slice none 0 0, .bool false] 48)) (w.heap.size + 1) 48 (itemC (numT 0) none 0)) := by
    have := Blk.new (w.alloc (.cells #[.int .i64 4, .int .u64 0, str [], .slice A 6 c, .bool false] 48)) 48 (itemC (numT 0) none 0)
    unfold Hid
    simpa [itemC, numT, T.kind, T.n, T.s, T.k, T.op] using this
  go_enter Try.func36, Try.ntmps36
  go_wp2_with fail
  refine (CloneI_any ch 6 (by unfold Hid; omega) A c _ (HI.out.ext HE.out)).mono ?_
  rintro e w1 ⟨g, c', ac, rfl, hb1, hg1, hlt1, hown1, hk1⟩
  have HE1 := hid (HE.out.trans hb1)
  have HR1 := hid (HR.out.ext hb1)
  have HO1 := hid hown1
  have HK1 := hid hk1
  have HG : Hid (w.heap.size + 2 ≤ g) := by unfold Hid; simpa using hg1
  have HL1 := hid hlt1
  clear hb1 hg1 hlt1 hown1 hk1 HE HR HI
  go_wp2_with fail
  refine (Size_any kind k2.out _).mono ?_
  rintro e w2 ⟨rfl, hb2⟩
  have HE2 := hid (HE1.out.trans hb2)
  have HR2 := hid (HR1.out.ext hb2)
  have HO2 := hid (ownsRow_mod HO1.out hb2 (by simp))
  have HK2 : Hid (∀ i, i < 6 → IsL w2 (fun b => N ≤ b ∧ b < w.heap.size) (ch i) (ac i).1) := fun i hi => (HK1.out i hi).ext hb2
  have HL2 := hid (Nat.lt_of_lt_of_le HL1.out hb2.size)
  clear hb2 HE1 HR1 HO1 HK1 HL1
  go_wp2_with fail
  refine (KR.out _).mono ?_
  rintro e w3 ⟨rfl, hb3⟩
  have HE3 := hid (HE2.out.trans hb3)
  have HR3 := hid (HR2.out.ext hb3)
  have HO3 := hid (ownsRow_mod HO2.out hb3 (by simp))
  have HK3 : Hid (∀ i, i < 6 → IsL w3 (fun b => N ≤ b ∧ b < w.heap.size) (ch i) (ac i).1) := fun i hi => (HK2.out i hi).ext hb3
  have HL3 := hid (Nat.lt_of_lt_of_le HL2.out hb3.size)
  clear hb3 HE2 HR2 HO2 HK2 HL2
  go_wp2_with fail
  refine (StrV_any _ _).mono ?_
  rintro e w4 ⟨rfl, hb4⟩
  have HE4 := hid (HE3.out.trans hb4)
  have HR4 := hid (HR3.out.ext hb4)
  have HO4 := hid (ownsRow_mod HO3.out hb4 (by simp))
  have HK4 : Hid (∀ i, i < 6 → IsL w4 (fun b => N ≤ b ∧ b < w.heap.size) (ch i) (ac i).1) := fun i hi => (HK3.out i hi).ext hb4
  have HL4 := hid (Nat.lt_of_lt_of_le HL3.out hb4.size)
  clear hb4 HE3 HR3 HO3 HK3 HL3
  obtain ⟨x0, x1, x2, x3, x4⟩ := flatC_get ch ac 6 5 (by omega)
  have y0 := own_cells HO4.out x0
  have y1 := own_cells HO4.out x1
  have y2 := own_cells HO4.out x2
  have y3 := own_cells HO4.out x3
  have y4 := own_cells HO4.out x4
  clear x0 x1 x2 x3 x4
  have z0 := HO4.out.frozenAt 25
  have z1 := HO4.out.frozenAt 26
  have z2 := HO4.out.frozenAt 27
  have z3 := HO4.out.frozenAt 28
  have z4 := HO4.out.frozenAt 29
  go_wp2_with fail
  clear y0 y1 y2 y3 y4 z0 z1 z2 z3 z4
  have HO5 := hid (own_last (n := 5) (strT Z) none 0 HO4.out)
  have HM5 := hid (((((((Mod.refl [g] w4).setCell (p := ⟨g, 25, none⟩) (.inl (by simp)) (.int .i64 2)).setCell (p := ⟨g, 26, none⟩) (.inl (by simp)) (.int .u64 0)).setCell (p := ⟨g, 27, none⟩) (.inl (by simp)) (str Z)).setCell (p := ⟨g, 28, none⟩) (.inl (by simp)) (.slice none 0 0)).setCell (p := ⟨g, 29, none⟩) (.inl (by simp)) (.bool false)))
  have HE5 := hid (((((HE4.out.setCell (p := ⟨g, 25, none⟩) (.inr (by have := HG.out; show w.heap.size ≤ g; omega)) (.int .i64 2)).setCell (p := ⟨g, 26, none⟩) (.inr (by have := HG.out; show w.heap.size ≤ g; omega)) (.int .u64 0)).setCell (p := ⟨g, 27, none⟩) (.inr (by have := HG.out; show w.heap.size ≤ g; omega)) (str Z)).setCell (p := ⟨g, 28, none⟩) (.inr (by have := HG.out; show w.heap.size ≤ g; omega)) (.slice none 0 0)).setCell (p := ⟨g, 29, none⟩) (.inr (by have := HG.out; show w.heap.size ≤ g; omega)) (.bool false))
  change Hid (World.ownsRow (((((w4.setCell ⟨g, 25, none⟩ (.int .i64 2)).setCell ⟨g, 26, none⟩ (.int .u64 0)).setCell ⟨g, 27, none⟩ (str Z)).setCell ⟨g, 28, none⟩ (.slice none 0 0)).setCell ⟨g, 29, none⟩ (.bool false)) _ _ _ _ _ _) at HO5
  change Hid (Mod [g] w4 (((((w4.setCell ⟨g, 25, none⟩ (.int .i64 2)).setCell ⟨g, 26, none⟩ (.int .u64 0)).setCell ⟨g, 27, none⟩ (str Z)).setCell ⟨g, 28, none⟩ (.slice none 0 0)).setCell ⟨g, 29, none⟩ (.bool false))) at HM5
  change Hid (Mod [] w (((((w4.setCell ⟨g, 25, none⟩ (.int .i64 2)).setCell ⟨g, 26, none⟩ (.int .u64 0)).setCell ⟨g, 27, none⟩ (str Z)).setCell ⟨g, 28, none⟩ (.slice none 0 0)).setCell ⟨g, 29, none⟩ (.bool false))) at HE5
  generalize (((((w4.setCell ⟨g, 25, none⟩ (.int .i64 2)).setCell ⟨g, 26, none⟩ (.int .u64 0)).setCell ⟨g, 27, none⟩ (str Z)).setCell ⟨g, 28, none⟩ (.slice none 0 0)).setCell ⟨g, 29, none⟩ (.bool false)) = w5 at *
  have HR5 := hid (HR4.out.mod HM5.out (by have := HG.out; simp; omega))
  have HK5 := hid (lastK HM5.out (fun b hb => by have := HG.out; omega) HK4.out Z)
  have HL5 := hid (Nat.lt_of_lt_of_le HL4.out HM5.out.size)
  clear HE4 HR4 HO4 HK4 HL4 HM5
  generalize hch : (fun i => if i = 5 then strT Z else ch i) = ch5 at *
  generalize hac : (fun i => if i = 5 then ((none : Option Addr), 0) else ac i) = ac5 at *
  have Hch5 := hid hch; clear hch; clear hac
  refine (ListV_any 6 _ c' _).mono ?_
  rintro e w6 ⟨rfl, hb6⟩
  have HE6 := hid (HE5.out.trans hb6)
  have HR6 := hid (HR5.out.ext hb6)
  have HO6 := hid (ownsRow_mod HO5.out hb6 (by simp))
  have HK6 : Hid (∀ i, i < 6 → IsL w6 (fun b => N ≤ b ∧ b < w.heap.size) (ch5 i) (ac5 i).1) := fun i hi => (HK5.out i hi).ext hb6
  have HL6 := hid (Nat.lt_of_lt_of_le HL5.out hb6.size)
  clear hb6 HE5 HR5 HO5 HK5 HL5
  have HY : Hid (Y = T.mk 4 0 [] false 6 ch5) := HT.out
  have HIY : Hid (IsL w6 (fun _ => True) Y (some ⟨g, 0, none⟩)) := by
    rw [HY.out]
    exact own_IsL HL6.out trivial HO6.out (fun i hi => IsL.weak (fun _ _ _ => trivial) _ (HK6.out i hi))
  have HBY : Hid (∀ W, IsL W (fun _ => True) Y (some ⟨g, 0, none⟩) → Calls Try.prog 40 #[.agg #[.int .i64 4, .int .u64 0, str [], .slice (some ⟨g, 0, none⟩) 6 c', .bool false]] W (Ret (.tuple #[str B, .int .i64 E]) W)) := fun W hW => by
    have := iBuild_any Y hok.out.1 hok.out.2 (some ⟨g, 0, none⟩) c' W hW
    rw [HV.out, HY.out] at this
    exact this
  go_wp2_with fail
  refine (HBY.out _ HIY.out).mono ?_
  rintro e w7 ⟨rfl, hb7⟩
  have HE7 := hid (HE6.out.trans hb7)
  have HR7 := hid (HR6.out.ext hb7)
  have HO7 := hid (ownsRow_mod HO6.out hb7 (by simp))
  have HK7 : Hid (∀ i, i < 6 → IsL w7 (fun b => N ≤ b ∧ b < w.heap.size) (ch5 i) (ac5 i).1) := fun i hi => (HK6.out i hi).ext hb7
  have HL7 := hid (Nat.lt_of_lt_of_le HL6.out hb7.size)
  clear hb7 HE6 HR6 HO6 HK6 HL6
  clear HIY HBY HV
  go_wp2_with fail
  refine (KS.out _).mono ?_
  rintro e w8 ⟨rfl, hb8⟩
  have HE8 := hid (HE7.out.trans hb8)
  have HR8 := hid (HR7.out.ext hb8)
  have HO8 := hid (ownsRow_mod HO7.out hb8 (by simp))
  have HK8 : Hid (∀ i, i < 6 → IsL w8 (fun b => N ≤ b ∧ b < w.heap.size) (ch5 i) (ac5 i).1) := fun i hi => (HK7.out i hi).ext hb8
  have HL8 := hid (Nat.lt_of_lt_of_le HL7.out hb8.size)
  clear hb8 HE7 HR7 HO7 HK7 HL7
  go_wp2_with fail
  refine (StrV_any _ _).mono ?_
  rintro e w9 ⟨rfl, hb9⟩
  have HE9 := hid (HE8.out.trans hb9)
  have HR9 := hid (HR8.out.ext hb9)
  have HO9 := hid (ownsRow_mod HO8.out hb9 (by simp))
  have HK9 : Hid (∀ i, i < 6 → IsL w9 (fun b => N ≤ b ∧ b < w.heap.size) (ch5 i) (ac5 i).1) := fun i hi => (HK8.out i hi).ext hb9
  have HL9 := hid (Nat.lt_of_lt_of_le HL8.out hb9.size)
  clear hb9 HE8 HR8 HO8 HK8 HL8
  obtain ⟨x0, x1, x2, x3, x4⟩ := flatC_get ch5 ac5 6 5 (by omega)
  have y0 := own_cells HO9.out x0
  have y1 := own_cells HO9.out x1
  have y2 := own_cells HO9.out x2
  have y3 := own_cells HO9.out x3
  have y4 := own_cells HO9.out x4
  clear x0 x1 x2 x3 x4
  have z0 := HO9.out.frozenAt 25
  have z1 := HO9.out.frozenAt 26
  have z2 := HO9.out.frozenAt 27
  have z3 := HO9.out.frozenAt 28
  have z4 := HO9.out.frozenAt 29
  go_wp2_with fail
  clear y0 y1 y2 y3 y4 z0 z1 z2 z3 z4
  have HO10 := hid (own_last (n := 5) (strT S) none 0 HO9.out)
  have HM10 := hid (((((((Mod.refl [g] w9).setCell (p := ⟨g, 25, none⟩) (.inl (by simp)) (.int .i64 2)).setCell (p := ⟨g, 26, none⟩) (.inl (by simp)) (.int .u64 0)).setCell (p := ⟨g, 27, none⟩) (.inl (by simp)) (str S)).setCell (p := ⟨g, 28, none⟩) (.inl (by simp)) (.slice none 0 0)).setCell (p := ⟨g, 29, none⟩) (.inl (by simp)) (.bool false)))
  have HE10 := hid (((((HE9.out.setCell (p := ⟨g, 25, none⟩) (.inr (by have := HG.out; show w.heap.size ≤ g; omega)) (.int .i64 2)).setCell (p := ⟨g, 26, none⟩) (.inr (by have := HG.out; show w.heap.size ≤ g; omega)) (.int .u64 0)).setCell (p := ⟨g, 27, none⟩) (.inr (by have := HG.out; show w.heap.size ≤ g; omega)) (str S)).setCell (p := ⟨g, 28, none⟩) (.inr (by have := HG.out; show w.heap.size ≤ g; omega)) (.slice none 0 0)).setCell (p := ⟨g, 29, none⟩) (.inr (by have := HG.out; show w.heap.size ≤ g; omega)) (.bool false))
  change Hid (World.ownsRow (((((w9.setCell ⟨g, 25, none⟩ (.int .i64 2)).setCell ⟨g, 26, none⟩ (.int .u64 0)).setCell ⟨g, 27, none⟩ (str S)).setCell ⟨g, 28, none⟩ (.slice none 0 0)).setCell ⟨g, 29, none⟩ (.bool false)) _ _ _ _ _ _) at HO10
  change Hid (Mod [g] w9 (((((w9.setCell ⟨g, 25, none⟩ (.int .i64 2)).setCell ⟨g, 26, none⟩ (.int .u64 0)).setCell ⟨g, 27, none⟩ (str S)).setCell ⟨g, 28, none⟩ (.slice none 0 0)).setCell ⟨g, 29, none⟩ (.bool false))) at HM10
  change Hid (Mod [] w (((((w9.setCell ⟨g, 25, none⟩ (.int .i64 2)).setCell ⟨g, 26, none⟩ (.int .u64 0)).setCell ⟨g, 27, none⟩ (str S)).setCell ⟨g, 28, none⟩ (.slice none 0 0)).setCell ⟨g, 29, none⟩ (.bool false))) at HE10
  generalize (((((w9.setCell ⟨g, 25, none⟩ (.int .i64 2)).setCell ⟨g, 26, none⟩ (.int .u64 0)).setCell ⟨g, 27, none⟩ (str S)).setCell ⟨g, 28, none⟩ (.slice none 0 0)).setCell ⟨g, 29, none⟩ (.bool false)) = w10 at *
  have HR10 := hid (HR9.out.mod HM10.out (by have := HG.out; simp; omega))
  have HK10 := hid (lastK HM10.out (fun b hb => by have := HG.out; omega) HK9.out S)
  have HL10 := hid (Nat.lt_of_lt_of_le HL9.out HM10.out.size)
  clear HE9 HR9 HO9 HK9 HL9 HM10
  generalize hch : (fun i => if i = 5 then strT S else ch5 i) = ch10 at *
  generalize hac : (fun i => if i = 5 then ((none : Option Addr), 0) else ac5 i) = ac10 at *
  have Hch10 := hid hch; clear hch; clear hac
  refine (ListV_any 6 _ c' _).mono ?_
  rintro e w11 ⟨rfl, hb11⟩
  have HE11 := hid (HE10.out.trans hb11)
  have HR11 := hid (HR10.out.ext hb11)
  have HO11 := hid (ownsRow_mod HO10.out hb11 (by simp))
  have HK11 : Hid (∀ i, i < 6 → IsL w11 (fun b => N ≤ b ∧ b < w.heap.size) (ch10 i) (ac10 i).1) := fun i hi => (HK10.out i hi).ext hb11
  have HL11 := hid (Nat.lt_of_lt_of_le HL10.out hb11.size)
  clear hb11 HE10 HR10 HO10 HK10 HL10
  have HU2 : U = T.mk 4 0 [] false 6 ch10 := by rw [HU.out, ← Hch10.out, ← Hch5.out]
  have HIU : Hid (IsL w11 (fun b => b ≠ w.heap.size + 1 ∧ N ≤ b) U (some ⟨g, 0, none⟩)) := by
    rw [HU2]
    exact own_IsL HL11.out (by have := HG.out; have := hN.out; omega) HO11.out (fun i hi => IsL.weak (fun k _ hq => ⟨by omega, hq.1⟩) _ (HK11.out i hi))
  obtain ⟨c0, c1, c2, c3, c4⟩ := cells5 HR11.out
  have f0 := Blk.frozen HR11.out 0
  have f1 := Blk.frozen HR11.out 1
  have f2 := Blk.frozen HR11.out 2
  have f3 := Blk.frozen HR11.out 3
  have f4 := Blk.frozen HR11.out 4
  go_wp2_with fail
  obtain ⟨d0, d1, d2, d3, d4⟩ := cells5 (set5_blk (t := T.mk 4 0 [] false 6 ch10) (A := some ⟨g, 0, none⟩) (c := c') HR11.out)
  clear c0 c1 c2 c3 c4 f0 f1 f2 f3 f4
  show bodyPost _ _ _ _ _ (set5 w11 (w.heap.size + 1) (T.mk 4 0 [] false 6 ch10) (some ⟨g, 0, none⟩) c')
  refine bodyPost_ret (v := itemV (T.mk 4 0 [] false 6 ch10) (some ⟨g, 0, none⟩) c') (by simp [results, Try.results36, go_sem, d0, d1, d2, d3, d4]) rfl ?_
  refine ⟨some ⟨g, 0, none⟩, c', by rw [HU2], set5_mod HE11.out (by omega), ?_⟩
  refine IsL.weak (fun _ _ h => h.2) _ (IsL.mod (Q := fun b => b ≠ w.heap.size + 1 ∧ N ≤ b) set5_modb (fun k hq hk hm => by rw [List.mem_singleton] at hm; exact hq.1 hm) _ HIU.out)
end Go.Proofs.Ytkeabdfgacicaaa


namespace Go.Proofs.Ytkeabdfgacicaaa
open Go.RowKit
set_option linter.unusedVariables false
set_option linter.unusedSimpArgs false

theorem blkT_last {ty num fl crc : Nat} {data s t : List UInt8} (hc : ¬ crc = 0) (ch : Nat → T) (hch : blkT ty num fl crc data s = T.mk 4 0 [] false 6 ch) : lastT ch t = blkT ty num fl crc data t := by
  unfold blkT at hch ⊢
  rw [if_neg hc] at hch ⊢
  have h := (T.mk.inj hch).2.2.2.2.2
  subst h
  unfold lastT
  congr 1
  funext i
  by_cases e : i = 5
  · subst e; simp
  · simp [e]
theorem blkT_right {ty num fl crc : Nat} {data s : List UInt8} (d : Nat) (hd : 2 ≤ d) : (blkT ty num fl crc data s).right d = true := by
  unfold blkT T.right
  rw [if_neg (by omega)]
  simp only [Bool.and_eq_true]
  constructor
  · split <;> rfl
  · rw [T.all_iff]
    intro i hi
    have hi6 : i < 6 := by split at hi <;> omega
    have hd1 : ¬ d - 1 < 1 := by omega
    have h6 : i = 0 ∨ i = 1 ∨ i = 2 ∨ i = 3 ∨ i = 4 ∨ i = 5 := by omega
    rcases h6 with rfl | rfl | rfl | rfl | rfl | rfl <;> simp [numT, strT, T.right, hd1, T.node, T.all]
theorem blkT_plain {ty num fl crc : Nat} {data s : List UInt8} : (blkT ty num fl crc data s).plain = true := by
  unfold blkT T.plain
  simp only [Bool.and_eq_true]
  constructor
  · split <;> rfl
  · rw [T.all_iff]
    intro i hi
    have hi6 : i < 6 := by split at hi <;> omega
    have h6 : i = 0 ∨ i = 1 ∨ i = 2 ∨ i = 3 ∨ i = 4 ∨ i = 5 := by omega
    rcases h6 with rfl | rfl | rfl | rfl | rfl | rfl <;> simp [numT, strT, T.plain, T.node, T.all]
theorem sum_le {f : Nat → Nat} {B : Nat} (h : ∀ i, f i ≤ B) : ∀ k, T.sum f k ≤ k * B
  | 0 => by simp [T.sum]
  | k + 1 => by have := sum_le h k; have := h k; rw [T.sum, Nat.succ_mul]; omega
theorem blkT_size {ty num fl crc : Nat} {data s : List UInt8} (h5 : data.length ≤ 4000) (h6 : s.length ≤ 4000) : (blkT ty num fl crc data s).size ≤ 100000 := by
  have hs : ∀ k, k ≤ 6 → ∀ f : Nat → Nat, (∀ i, f i ≤ 4001) → 1 + ([] : List UInt8).length + T.sum f k ≤ 100000 := fun k hk f hf => by
    have := sum_le hf k
    have : k * 4001 ≤ 6 * 4001 := Nat.mul_le_mul_right _ hk
    simp
    omega
  unfold blkT T.size
  refine hs _ (by split <;> omega) _ (fun i => ?_)
  dsimp only
  split
  · simp [numT, T.size, T.sum]
  · split
    · simp [numT, T.size, T.sum]
    · split
      · simp [numT, T.size, T.sum]
      · split
        · simp [numT, T.size, T.sum]
        · split
          · simp [strT, T.size, T.sum]; omega
          · split
            · simp [strT, T.size, T.sum]; omega
            · simp [T.size]

/-- A block's item's bytes. -/
def blkB (ty num fl crc : Nat) (data sum : List UInt8) : List UInt8 :=
  headL 4 (if crc = 0 then 5 else 6) ++ headL 0 ty ++ headL 0 num ++ headL 0 fl ++ headL 0 crc ++ (headL 2 data.length ++ data) ++ (if crc = 0 then [] else headL 2 sum.length ++ sum)
theorem blkT_bytes (ty num fl crc : Nat) (data sum : List UInt8) : (blkT ty num fl crc data sum).bytes = blkB ty num fl crc data sum := by
  unfold blkT blkB
  by_cases hc : crc = 0
  · subst hc
    simp [T.bytes, T.cat, numT, strT]
  · simp [hc, T.bytes, T.cat, numT, strT]
theorem blkB_length {ty num fl crc : Nat} {data sum : List UInt8} (h5 : data.length ≤ 4000) (h6 : sum.length ≤ 4000) : (blkB ty num fl crc data sum).length < 1000000 := by
  have a1 := headL_le 4 5
  have a0 := headL_le 4 6
  have a2 := headL_le 0 ty
  have a3 := headL_le 0 num
  have a4 := headL_le 0 fl
  have a5 := headL_le 0 crc
  have a6 := headL_le 2 data.length
  have a7 := headL_le 2 sum.length
  unfold blkB
  simp only [List.length_append]
  split <;> simp <;> omega
/-- The right sum of a block. -/
def sumB (ty num fl crc : Nat) (data : List UInt8) : List UInt8 := if crc = 0 then [] else Crc.sumL crc (blkB ty num fl crc data (List.replicate (2 * crc) 0))
def finT (ty num fl crc : Nat) (data : List UInt8) : T := blkT ty num fl crc data (sumB ty num fl crc data)
theorem sumB_length {ty num fl crc : Nat} {data : List UInt8} (hc : crc ≤ 2) : (sumB ty num fl crc data).length = 2 * crc := by
  unfold sumB
  split
  · subst crc; rfl
  · exact Crc.sumL_length (by omega) hc _
theorem sumOf {ty num fl crc : Nat} {data : List UInt8} (h1 : ty ≤ 65535) (h2 : num ≤ 65535) (h3 : fl ≤ 255) (h4 : crc ≤ 2) (h5 : data.length ≤ 4000) :
    Hid (∀ N A c W, N ≤ W.heap.size → IsL W (fun b => N ≤ b) (blkT ty num fl crc data []) A → Calls Try.prog 36 #[.int .i64 (crc : Int), itemV (blkT ty num fl crc data []) A c] W (fun e w' => ∃ A c, e = .returned (itemV (finT ty num fl crc data) A c) ∧ Ext W w' ∧ IsL w' (fun b => N ≤ b) (finT ty num fl crc data) A)) := by
  intro N A c W hN hI
  by_cases hc : crc = 0
  · subst hc
    exact (summed_0 _ A c W).mono fun e w' ⟨he, hb⟩ => ⟨A, c, he, hb, hI.ext hb⟩
  · obtain ⟨ch, hch⟩ : ∃ ch, blkT ty num fl crc data [] = T.mk 4 0 [] false 6 ch := ⟨_, by unfold blkT; rw [if_neg hc]⟩
    have hl : ∀ t, lastT ch t = blkT ty num fl crc data t := fun t => blkT_last hc ch hch
    have hZ : (List.replicate (2 * crc) (0 : UInt8)).length ≤ 4000 := by simp; omega
    have hB : bldL (lastT ch (List.replicate (2 * crc) 0)) = blkB ty num fl crc data (List.replicate (2 * crc) 0) := by
      rw [hl, bldL, blkT_right 8 (by omega), if_pos rfl, blkT_bytes]
    have h := summed_any ch crc (by unfold Hid; omega) h4 (by rw [hl]; exact ⟨blkT_ok h1 h2 h3 h4 h5 hZ, blkT_size h5 hZ⟩) (by rw [hB]; exact blkB_length h5 hZ) N A c W hN (by rw [hch] at hI; exact hI)
    rw [hB, hl] at h
    have he : finT ty num fl crc data = blkT ty num fl crc data (Crc.sumL crc (blkB ty num fl crc data (List.replicate (2 * crc) 0))) := by unfold finT sumB; rw [if_neg hc]
    rw [← he] at h
    rw [hch]
    exact h
theorem finV {ty num fl crc : Nat} {data : List UInt8} : buildV (finT ty num fl crc data) = .tuple #[str (blkB ty num fl crc data (sumB ty num fl crc data)), .int .i64 0] := by
  unfold buildV finT
  rw [blkT_right 8 (by omega), if_pos rfl, blkT_bytes]
theorem Build_any (ty num fl crc : Nat) (data : List UInt8) (hb : BV.right ⟨ty, num, fl, crc, data⟩ = 0) (w : World) : Calls Try.prog 20 #[BV.v ⟨ty, num, fl, crc, data⟩] w (Ret (.tuple #[str (blkB ty num fl crc data (sumB ty num fl crc data)), .int .i64 0]) w) := by
  have h := BV.right_zero hb
  simp only [] at h
  have hs := sumB_length (ty := ty) (num := num) (fl := fl) (data := data) (show crc ≤ 2 by omega)
  rw [← finV]
  exact Build_ok ty num fl crc data hb (finT ty num fl crc data) (blkT_ok (by omega) (by omega) (by omega) (by omega) (by omega) (by omega)) (blkT_size (by omega) (by omega)) (sumOf (by omega) (by omega) (by omega) (by omega) (by omega)) w
theorem Item_any (ty num fl crc : Nat) (data : List UInt8) (hb : BV.right ⟨ty, num, fl, crc, data⟩ = 0) (w : World) : Calls Try.prog 18 #[BV.v ⟨ty, num, fl, crc, data⟩] w (fun e w' => ∃ A c, e = .returned (.tuple #[itemV (finT ty num fl crc data) A c, .int .i64 0]) ∧ Ext w w' ∧ IsL w' (fun b => w.heap.size ≤ b) (finT ty num fl crc data) A) := by
  have h := BV.right_zero hb
  simp only [] at h
  exact Item_ok ty num fl crc data hb _ (sumOf (by omega) (by omega) (by omega) (by omega) (by omega)) w
end Go.Proofs.Ytkeabdfgacicaaa


namespace Go.Proofs.Ytkeabdfgacicaaa
open Go.ChangeShapes Go.WideShapes Go.ChangeAt Go.RowKit Go.Deep
set_option linter.unusedVariables false
set_option linter.unusedSimpArgs false

section
variable {H : Type} {enc : TypeId × Value → H} {w : World} {base b0 : Nat} {spare : Nat → Bool} {held : Bool} {r : Reach}
set_option maxRecDepth 100000 in
theorem open_block {v : Value} {d : DataW H} {p : List MemPlace} (hval : Value.okWide Try.prog w r b0 32 v) (h : DataW.Trod enc Try.prog w base spare held 32 v d p) :
    ∃ b : BV, v = b.v ∧ (-9223372036854775808 ≤ b.ty ∧ b.ty ≤ 9223372036854775807) ∧ (-9223372036854775808 ≤ b.num ∧ b.num ≤ 9223372036854775807) ∧ b.fl < 18446744073709551616 ∧ (-9223372036854775808 ≤ b.crc ∧ b.crc ≤ 9223372036854775807) := by
  obtain ⟨cs, rfl, hsz⟩ := okWide_struct Try.underlying32 hval
  obtain ⟨fuel, hf⟩ := h
  obtain ⟨ys, n', hn', hy, hlen, hyl, hfl⟩ := DataW.trod_struct Try.underlying32 hf
  have hcs : (Value.agg cs).cells.toList = cs.toList := rfl
  rw [hcs] at hlen hfl
  obtain ⟨L, hL⟩ : ∃ L, L = cs.toList := ⟨_, rfl⟩
  rw [← hL] at hlen hfl
  have hcsL : cs = L.toArray := by rw [hL]
  subst hcsL
  clear hL hcs hf hval hsz
  match L, hlen with
  | [c0, c1, c2, c3, c4], _ =>
    have h0 := field_at (by kernel_rfl) hfl (i := 0) rfl rfl
    have h1 := field_at (by kernel_rfl) hfl (i := 1) rfl rfl
    have h2 := field_at (by kernel_rfl) hfl (i := 2) rfl rfl
    have h3 := field_at (by kernel_rfl) hfl (i := 3) rfl rfl
    have h4 := field_at (by kernel_rfl) hfl (i := 4) rfl rfl
    clear hfl
    match ys, hyl with
    | [y0, y1, y2, y3, y4], _ =>
      obtain ⟨ty, e0, _, w0⟩ := DataW.trod_int (k := .i64) (by kernel_rfl) h0
      obtain ⟨num, e1, _, w1⟩ := DataW.trod_int (k := .i64) (by kernel_rfl) h1
      obtain ⟨fl, e2, _, w2⟩ := DataW.trod_int (k := .u64) (by kernel_rfl) h2
      obtain ⟨crc, e3, _, w3⟩ := DataW.trod_int (k := .i64) (by kernel_rfl) h3
      obtain ⟨s, e4, _, _⟩ := DataW.trod_string (by kernel_rfl) h4
      have q0 : c0 = .int .i64 ty := by have : [c0] = [Value.int .i64 ty] := e0; simpa using this
      have q1 : c1 = .int .i64 num := by have : [c1] = [Value.int .i64 num] := e1; simpa using this
      have q2 : c2 = .int .u64 fl := by have : [c2] = [Value.int .u64 fl] := e2; simpa using this
      have q3 : c3 = .int .i64 crc := by have : [c3] = [Value.int .i64 crc] := e3; simpa using this
      have q4 : c4 = .string s := by have : [c4] = [Value.string s] := e4; simpa using this
      subst q0 q1 q2 q3 q4
      have b0 : -9223372036854775808 ≤ ty ∧ ty ≤ 9223372036854775807 := by simpa [Lit.wf, IntKind.min, IntKind.max, IntKind.signed, IntKind.bits] using w0
      have b1 : -9223372036854775808 ≤ num ∧ num ≤ 9223372036854775807 := by simpa [Lit.wf, IntKind.min, IntKind.max, IntKind.signed, IntKind.bits] using w1
      have b2 : 0 ≤ fl ∧ fl ≤ 18446744073709551615 := by simpa [Lit.wf, IntKind.min, IntKind.max, IntKind.signed, IntKind.bits] using w2
      have b3 : -9223372036854775808 ≤ crc ∧ crc ≤ 9223372036854775807 := by simpa [Lit.wf, IntKind.min, IntKind.max, IntKind.signed, IntKind.bits] using w3
      obtain ⟨fl, rfl⟩ := Int.eq_ofNat_of_zero_le b2.1
      exact ⟨⟨ty, num, fl, crc, s.data.toList⟩, rfl, b0, b1, by show fl < _; omega, b3⟩
end
end Go.Proofs.Ytkeabdfgacicaaa


namespace Go.Proofs.Ytkeabdfgacicaaa
open Go.RowKit
set_option linter.unusedVariables false
set_option linter.unusedSimpArgs false

/-- The call gives up with an error. -/
def Pan (r : Int) (w : World) (e : Ending) (w' : World) : Prop := e = .panicked [{ v := .iface 81 (.agg #[.int .i64 r]), recovered := false }] ∧ Ext w w'
set_option maxRecDepth 20000 in
theorem need_yes (r : Int) (w : World) : Calls Try.prog 67 #[.bool true, .int .i64 r] w (Ret (.tuple #[]) w) := by
  go_enter Try.func67, Try.ntmps67
  go_wp2_with fail
  refine bodyPost_ret (results_none rfl _ _ _) rfl ?_
  exact Ret.mk rfl (Mod.refl [] w)
set_option maxRecDepth 20000 in
theorem need_no (r : Int) (w : World) : Calls Try.prog 67 #[.bool false, .int .i64 r] w (Pan r w) := by
  go_enter Try.func67, Try.ntmps67
  go_wp2_with fail
  exact ⟨rfl, rfl, Mod.refl [] w⟩
/-- What a number says, or one that is too great. -/
def numO (n : Nat) : Int := if n < 65536 then (n : Int) else 65536
set_option maxRecDepth 20000 in
theorem bnum_few (K : Int) (N : Nat) (s : List UInt8) (op : Bool) (k : Nat) (A : Option Addr) (c : Nat) (hk : K = 0) (hn : N < 65536) (w : World) : Calls Try.prog 69 #[.agg #[.int .i64 K, .int .u64 (N : Int), str s, .slice A k c, .bool op]] w (Ret (.int .i64 (numO N)) w) := by
  have KN := hid (fun W => need_yes 2 W)
  have HE := hid ((Mod.refl [] w).alloc (.cells #[.int .i64 K, .int .u64 (N : Int), str s, .slice A k c, .bool op] 48))
  have HB0 : Hid (Blk (w.alloc (.cells #[.int .i64 K, .int .u64 (N : Int), str s, .slice A k c, .bool op] 48)) w.heap.size 48 #[.int .i64 K, .int .u64 (N : Int), str s, .slice A k c, .bool op]) := hid (Blk.new w _ _)
  have t1 : (K == 0) = true := by rw [hk]; rfl
  have t2 : (K = 0) = True := eq_true hk
  have n0 : (0 : Int) ≤ (N : Int) := by omega
  have m0 : (N : Int) < 65536 := by omega
  have m1 : (65536 < (N : Int)) = False := eq_false (by omega)
  have m2 : ((N : Int) < 65536) = True := eq_true (by omega)
  have HR : Hid (min (N : Int) 65536 = numO N) := hid (by unfold numO; rw [if_pos hn]; omega)
  clear hk hn
  go_enter Try.func69, Try.ntmps69
  go_upto_region 1 with fail
  generalize (w.alloc (.cells #[.int .i64 K, .int .u64 (N : Int), str s, .slice A k c, .bool op] 48)) = V at *
  have c0 : ∀ e : Later V, e.x.cell? ⟨w.heap.size, 0, none⟩ = some (.int .i64 K) := HB0.out.cellL 0 rfl
  have c1 : ∀ e : Later V, e.x.cell? ⟨w.heap.size, 1, none⟩ = some (.int .u64 (N : Int)) := HB0.out.cellL 1 rfl
  obtain ⟨e, he⟩ := Later.self V
  rw [he]
  clear he
  go_upto_region 2 with (go_at_call 67; refine (Ret.later (KN.out _)).mono ?_; rintro x _ ⟨rfl, e, rfl⟩)
  go_wp2_with fail
  go_ret
  exact Ret.mk (by show Value.int .i64 (min (N : Int) 65536) = _; rw [HR.out]) (HE.out.trans e.h)
set_option maxRecDepth 20000 in
theorem bnum_many (K : Int) (N : Nat) (s : List UInt8) (op : Bool) (k : Nat) (A : Option Addr) (c : Nat) (hk : K = 0) (hn : ¬ N < 65536) (hok : N < 18446744073709551616) (w : World) : Calls Try.prog 69 #[.agg #[.int .i64 K, .int .u64 (N : Int), str s, .slice A k c, .bool op]] w (Ret (.int .i64 (numO N)) w) := by
  have KN := hid (fun W => need_yes 2 W)
  have HE := hid ((Mod.refl [] w).alloc (.cells #[.int .i64 K, .int .u64 (N : Int), str s, .slice A k c, .bool op] 48))
  have HB0 : Hid (Blk (w.alloc (.cells #[.int .i64 K, .int .u64 (N : Int), str s, .slice A k c, .bool op] 48)) w.heap.size 48 #[.int .i64 K, .int .u64 (N : Int), str s, .slice A k c, .bool op]) := hid (Blk.new w _ _)
  have t1 : (K == 0) = true := by rw [hk]; rfl
  have t2 : (K = 0) = True := eq_true hk
  have HR : Hid (min (N : Int) 65536 = numO N) := hid (by unfold numO; rw [if_neg hn]; omega)
  clear hk hn hok
  go_enter Try.func69, Try.ntmps69
  go_upto_region 1 with fail
  generalize (w.alloc (.cells #[.int .i64 K, .int .u64 (N : Int), str s, .slice A k c, .bool op] 48)) = V at *
  have c0 : ∀ e : Later V, e.x.cell? ⟨w.heap.size, 0, none⟩ = some (.int .i64 K) := HB0.out.cellL 0 rfl
  have c1 : ∀ e : Later V, e.x.cell? ⟨w.heap.size, 1, none⟩ = some (.int .u64 (N : Int)) := HB0.out.cellL 1 rfl
  obtain ⟨e, he⟩ := Later.self V
  rw [he]
  clear he
  go_upto_region 2 with (go_at_call 67; refine (Ret.later (KN.out _)).mono ?_; rintro x _ ⟨rfl, e, rfl⟩)
  go_wp2_with fail
  go_ret
  exact Ret.mk (by show Value.int .i64 (min (N : Int) 65536) = _; rw [HR.out]) (HE.out.trans e.h)
theorem bnum_yes (t : T) (A : Option Addr) (c : Nat) (hk : t.kind = 0) (hok : t.n < 18446744073709551616) (w : World) : Calls Try.prog 69 #[itemV t A c] w (Ret (.int .i64 (numO t.n)) w) := by
  by_cases h : t.n < 65536
  · exact bnum_few _ _ _ _ _ A c hk h w
  · exact bnum_many _ _ _ _ _ A c hk h hok w
set_option maxRecDepth 20000 in
theorem bnum_no (t : T) (A : Option Addr) (c : Nat) (hk : t.kind ≠ 0) (w : World) : Calls Try.prog 69 #[itemV t A c] w (Pan 2 w) := by
  have KN := hid (fun W => need_no 2 W)
  have HE := hid ((Mod.refl [] w).alloc (.cells (itemC t A c) 48))
  have HB0 : Hid (Blk (w.alloc (.cells (itemC t A c) 48)) w.heap.size 48 (itemC t A c)) := hid (Blk.new w 48 (itemC t A c))
  have t1 : (t.kind == 0) = false := by rw [beq_eq_false_iff_ne]; exact hk
  have t2 : (t.kind = 0) = False := eq_false hk
  clear hk
  go_enter Try.func69, Try.ntmps69
  go_upto_region 1 with fail
  generalize (w.alloc (.cells (itemC t A c) 48)) = V at *
  have c0 : ∀ e : Later V, e.x.cell? ⟨w.heap.size, 0, none⟩ = some (.int .i64 t.kind) := HB0.out.cellL 0 rfl
  obtain ⟨e, he⟩ := Later.self V
  rw [he]
  clear he
  go_upto_region 2 with (go_at_call 67; refine (KN.out _).mono ?_; rintro x w1 ⟨rfl, hb1⟩)
  exact ⟨rfl, rfl, HE.out.trans (e.h.trans hb1)⟩
set_option maxRecDepth 20000 in
set_option maxHeartbeats 1600000 in
theorem ofc_panic (b e : Nat) (r : Int) (bl : Array Value) (w : World) (hbe : b ≠ e) (hb : Blk w b 32 bl) (hl : bl.size = 5) (he : Blk w e 38 #[.int .i64 0]) :
    CallsD Try.prog 38 #[.pointer (some ⟨b, 0, none⟩), .pointer (some ⟨e, 0, none⟩)] (.panicking [{ v := .iface 81 (.agg #[.int .i64 r]), recovered := false }]) w fun x u' w' =>
      x = .returned (.tuple #[]) ∧ u' = .panicking [{ v := .iface 81 (.agg #[.int .i64 r]), recovered := true }] ∧ Mod [b, e] w w' ∧ Blk w' b 32 (BV.c zeroB) ∧ Blk w' e 38 #[.int .i64 r] := by
  have hta : ∀ (I : TypeId) (W : World), (Instr.typeAssert (.iface 81 (.agg #[.int .i64 r])) I 81 true).run Try.prog W = .ok (.tuple #[.agg #[.int .i64 r], .bool true]) W := fun I W => by kernel_rfl
  refine callsD_of_wpS Try.func38 rfl fun c₀ cs hu => ?_
  apply wpS_seq
  apply wpS_region
  simp [wpOpsS, go_sem, recoverD, hu, hta, Try.ntmps38, Exit.thenS, Array.replicate, List.replicate]
  refine wpS_of_wp ?_
  have HB0 : Hid (Blk (w.alloc (.cells #[.int .i64 r] 81)) w.heap.size 81 #[.int .i64 r]) := hid (Blk.new w _ _)
  have HE : Hid (Ext w (w.alloc (.cells #[.int .i64 r] 81))) := hid ((Mod.refl [] w).alloc _)
  have HBb := hid (hb.ext HE.out)
  have HBe := hid (he.ext HE.out)
  generalize w.alloc (.cells #[.int .i64 r] 81) = V at *
  clear hta
  go_upto_region 2 with fail
  have HC : Hid (∀ W, Mod [b, e] V W → W.cell? ⟨w.heap.size, 0, none⟩ = some (.int .i64 r)) := hid (fun W hW => (HB0.out.mod hW (by have := hb.lt; have := he.lt; simp; omega)).cell 0)
  refine wp_region_held_drew (S := fun w' => Mod [b, e] V w' ∧ (∃ cs, Blk w' b 32 cs ∧ cs.size = 5) ∧ ∃ z, Blk w' e 38 #[z]) (by kernel_rfl) ⟨(Mod.refl _ _).drew, ⟨bl, HBb.out.drew, hl⟩, ⟨_, HBe.out.drew⟩⟩ (fun hHeld => ?_)
  refine' wpAnyH_take (i := 0) (v := _) rfl (by kernel_rfl) (by kernel_rfl) (by kernel_rfl) (fun _ _ _ h => h) (Or.inl ⟨by rfl, ?hy⟩) hHeld ?rest
  case hy => (rintro W ⟨hM, _⟩; go_simp; (try with_reducible rfl))
  case rest =>
  (try simp only [Act.put, List.getElem_toArray, List.getElem_cons_zero, List.getElem_cons_succ, List.setIfInBounds_toArray, List.set_cons_zero, List.set_cons_succ])
  refine' wpAnyH_take (i := 1) (v := _) rfl (by kernel_rfl) (by kernel_rfl) (by kernel_rfl) (fun _ _ _ h => h) (Or.inl ⟨by rfl, ?hy⟩) hHeld ?rest
  case hy => (rintro W ⟨hM, _⟩; go_simp; (try with_reducible rfl))
  case rest =>
  (try simp only [Act.put, List.getElem_toArray, List.getElem_cons_zero, List.getElem_cons_succ, List.setIfInBounds_toArray, List.set_cons_zero, List.set_cons_succ])
  refine' wpAnyH_take (i := 2) (v := _) rfl (by kernel_rfl) (by kernel_rfl) (by kernel_rfl) (fun _ _ _ h => h) (Or.inl ⟨by rfl, ?hy⟩) hHeld ?rest
  case hy => (rintro W ⟨hM, _⟩; have x1 := HC.out W hM; go_simp; (try with_reducible rfl))
  case rest =>
  (try simp only [Act.put, List.getElem_toArray, List.getElem_cons_zero, List.getElem_cons_succ, List.setIfInBounds_toArray, List.set_cons_zero, List.set_cons_succ])
  refine wpAnyH_ready (rs := [3]) (by kernel_rfl) (by simp) ?_
  refine AllReadyH.cons rfl (fun K hK => ?_) AllReadyH.nil
  obtain ⟨hM0, ⟨cs0, hb0, hc0⟩, z0, he0⟩ := hHeld
  refine wp_store_mid 32 _ _ rfl b 0 (BV.c zeroB) (by rfl) (by rfl) (hb0.there (by rw [hc0]; exact Nat.le_refl _)) (by kernel_rfl) (by simp [Value.oneCell']) ?_
  have hZB := setCells_all (ds := BV.c zeroB) hb0 (by rw [hc0]; rfl)
  have hZE := he0.mod (setCells_mod (w := V.drew) (W := V.drew) (S := [b]) (b := b) (BV.c zeroB).toList 0 (Mod.refl _ _) (.inl (by simp))) (by simp; omega)
  have hZM := setCells_mod (b := b) (BV.c zeroB).toList 0 hM0 (.inl (by simp))
  generalize hZ : World.setCells _ b 0 (BV.c zeroB).toList = Z at *
  clear hZ
  refine hK.out _ _ ⟨hZM, ⟨_, hZB, rfl⟩, _, hZE⟩ (fun hHeld => ?_)
  clear hK K
  (try simp only [Act.put, List.getElem_toArray, List.getElem_cons_zero, List.getElem_cons_succ, List.setIfInBounds_toArray, List.set_cons_zero, List.set_cons_succ])
  refine wpAnyH_ready (rs := [4]) (by kernel_rfl) (by simp) ?_
  refine AllReadyH.cons rfl (fun K hK => ?_) AllReadyH.nil
  have y1 : Z.cell? ⟨e, 0, none⟩ = some z0 := hZE.cell 0
  have y2 : Z.frozen? ⟨e, 0, none⟩ = false := hZE.frozen 0
  go_simp
  have hYE := hZE.set_ 0 (.int .i64 r)
  have hYB := hZB.far (p := ⟨e, 0, none⟩) hbe (.int .i64 r)
  have hYM := hZM.setCell (p := ⟨e, 0, none⟩) (.inl (by simp)) (.int .i64 r)
  generalize hY : Z.setCell ⟨e, 0, none⟩ (.int .i64 r) = Y at *
  clear hY
  refine hK.out _ _ ⟨hYM, ⟨_, hYB, rfl⟩, _, hYE⟩ (fun hHeld => ?_)
  clear hK K
  (try simp only [Act.put, List.getElem_toArray, List.getElem_cons_zero, List.getElem_cons_succ, List.setIfInBounds_toArray, List.set_cons_zero, List.set_cons_succ])
  refine wpAnyH_done (by kernel_rfl) ?_ _
  go_wp2_with fail
  refine ⟨rfl, _, rfl, .tuple #[], results_none rfl _ _ _, rfl, rfl, HE.out.of_ext.trans hYM, hYB, hYE⟩
theorem ofc_idle (b e : Nat) (w : World) :
    CallsD Try.prog 38 #[.pointer (some ⟨b, 0, none⟩), .pointer (some ⟨e, 0, none⟩)] .returning w fun x u' w' => x = .returned (.tuple #[]) ∧ u' = .returning ∧ Ext w w' := by
  have hta : ∀ (I : TypeId) (W : World), (Instr.typeAssert .nilIface I 81 true).run Try.prog W = .ok (.tuple #[.agg #[.int .i64 0], .bool false]) W := fun I W => by kernel_rfl
  refine callsD_of_wpS Try.func38 rfl fun c₀ cs hu => ?_
  apply wpS_seq
  apply wpS_region
  simp [wpOpsS, go_sem, recoverD, hu, hta, Try.ntmps38, Exit.thenS, Array.replicate, List.replicate]
  refine wpS_of_wp ?_
  have HE : Hid (Ext w (w.alloc (.cells #[.int .i64 0] 81))) := hid ((Mod.refl [] w).alloc _)
  generalize w.alloc (.cells #[.int .i64 0] 81) = V at *
  clear hta
  go_wp2_with fail
  cases c₀
  simp only at hu
  subst hu
  exact ⟨rfl, _, rfl, .tuple #[], results_none rfl _ _ _, rfl, rfl, HE.out⟩
end Go.Proofs.Ytkeabdfgacicaaa
