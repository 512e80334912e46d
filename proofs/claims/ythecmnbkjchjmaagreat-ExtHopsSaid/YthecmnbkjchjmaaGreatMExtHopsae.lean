/-
 Why a block is not right, as the code and the reference tell it.
-/
import Derived.Test.YthecmnbkjchjmaaGreatMExtHopsad
namespace Go.Proofs.YthecmnbkjchjmaaGreat
open Go.RowKit
set_option linter.unusedVariables false
set_option linter.unusedSimpArgs false
abbrev BV.c (b : BV) : Array Value := #[.int .i64 b.ty, .int .i64 b.num, .int .u64 (b.fl : Int), .int .i64 b.crc, str b.data]
abbrev BV.v (b : BV) : Value := .agg b.c
set_option maxRecDepth 20000 in
theorem cRight_0 (ty : Int) (num : Int) (fl : Nat) (crc : Int) (data : List UInt8) (h : ty < 1) (w : World) : Calls Tryz.prog 109 #[BV.v ⟨ty, num, fl, crc, data⟩] w (Ret (.int .i64 1) w) := by
 have t0 : decide (ty < 1) = true := by simp; omega
 have t1 : decide (1 <= ty) = false := by simp; omega
 clear h
 go_enter Tryz.func109, Tryz.ntmps109
 go_wp2
 go_ret
 exact Ret.mk rfl ((Mod.refl _ _).alloc _)
set_option maxRecDepth 20000 in
theorem cRight_1 (ty : Int) (num : Int) (fl : Nat) (crc : Int) (data : List UInt8) (a1 : 1 <= ty) (h : 65535 < ty) (w : World) : Calls Tryz.prog 109 #[BV.v ⟨ty, num, fl, crc, data⟩] w (Ret (.int .i64 1) w) := by
 have t0 : decide (ty < 1) = false := by simp; omega
 have t1 : decide (1 <= ty) = true := by simp; omega
 have t2 : decide (65535 < ty) = true := by simp; omega
 have t3 : decide (ty <= 65535) = false := by simp; omega
 clear a1 h
 go_enter Tryz.func109, Tryz.ntmps109
 go_wp2
 go_ret
 exact Ret.mk rfl ((Mod.refl _ _).alloc _)
set_option maxRecDepth 20000 in
theorem cRight_2 (ty : Int) (num : Int) (fl : Nat) (crc : Int) (data : List UInt8) (a1 : 1 <= ty) (a2 : ty <= 65535) (h : num < 1) (w : World) : Calls Tryz.prog 109 #[BV.v ⟨ty, num, fl, crc, data⟩] w (Ret (.int .i64 1) w) := by
 have t0 : decide (ty < 1) = false := by simp; omega
 have t1 : decide (1 <= ty) = true := by simp; omega
 have t2 : decide (65535 < ty) = false := by simp; omega
 have t3 : decide (ty <= 65535) = true := by simp; omega
 have t4 : decide (num < 1) = true := by simp; omega
 have t5 : decide (1 <= num) = false := by simp; omega
 clear a1 a2 h
 go_enter Tryz.func109, Tryz.ntmps109
 go_wp2
 go_ret
 exact Ret.mk rfl ((Mod.refl _ _).alloc _)
set_option maxRecDepth 20000 in
theorem cRight_3 (ty : Int) (num : Int) (fl : Nat) (crc : Int) (data : List UInt8) (a1 : 1 <= ty) (a2 : ty <= 65535) (a3 : 1 <= num) (h : 65535 < num) (w : World) : Calls Tryz.prog 109 #[BV.v ⟨ty, num, fl, crc, data⟩] w (Ret (.int .i64 1) w) := by
 have t0 : decide (ty < 1) = false := by simp; omega
 have t1 : decide (1 <= ty) = true := by simp; omega
 have t2 : decide (65535 < ty) = false := by simp; omega
 have t3 : decide (ty <= 65535) = true := by simp; omega
 have t4 : decide (num < 1) = false := by simp; omega
 have t5 : decide (1 <= num) = true := by simp; omega
 have t6 : decide (65535 < num) = true := by simp; omega
 have t7 : decide (num <= 65535) = false := by simp; omega
 clear a1 a2 a3 h
 go_enter Tryz.func109, Tryz.ntmps109
 go_wp2
 go_ret
 exact Ret.mk rfl ((Mod.refl _ _).alloc _)
set_option maxRecDepth 20000 in
theorem cRight_4 (ty : Int) (num : Int) (fl : Nat) (crc : Int) (data : List UInt8) (a1 : 1 <= ty) (a2 : ty <= 65535) (a3 : 1 <= num) (a4 : num <= 65535) (h : 255 < fl) (w : World) : Calls Tryz.prog 109 #[BV.v ⟨ty, num, fl, crc, data⟩] w (Ret (.int .i64 1) w) := by
 have t0 : decide (ty < 1) = false := by simp; omega
 have t1 : decide (1 <= ty) = true := by simp; omega
 have t2 : decide (65535 < ty) = false := by simp; omega
 have t3 : decide (ty <= 65535) = true := by simp; omega
 have t4 : decide (num < 1) = false := by simp; omega
 have t5 : decide (1 <= num) = true := by simp; omega
 have t6 : decide (65535 < num) = false := by simp; omega
 have t7 : decide (num <= 65535) = true := by simp; omega
 have t8 : decide (255 < (fl : Int)) = true := by simp; omega
 have t9 : decide ((fl : Int) <= 255) = false := by simp; omega
 clear a1 a2 a3 a4 h
 go_enter Tryz.func109, Tryz.ntmps109
 go_wp2
 go_ret
 exact Ret.mk rfl ((Mod.refl _ _).alloc _)
set_option maxRecDepth 20000 in
theorem cRight_5 (ty : Int) (num : Int) (fl : Nat) (crc : Int) (data : List UInt8) (a1 : 1 <= ty) (a2 : ty <= 65535) (a3 : 1 <= num) (a4 : num <= 65535) (a5 : fl <= 255) (h : crc < 0) (w : World) : Calls Tryz.prog 109 #[BV.v ⟨ty, num, fl, crc, data⟩] w (Ret (.int .i64 1) w) := by
 have t0 : decide (ty < 1) = false := by simp; omega
 have t1 : decide (1 <= ty) = true := by simp; omega
 have t2 : decide (65535 < ty) = false := by simp; omega
 have t3 : decide (ty <= 65535) = true := by simp; omega
 have t4 : decide (num < 1) = false := by simp; omega
 have t5 : decide (1 <= num) = true := by simp; omega
 have t6 : decide (65535 < num) = false := by simp; omega
 have t7 : decide (num <= 65535) = true := by simp; omega
 have t8 : decide (255 < (fl : Int)) = false := by simp; omega
 have t9 : decide ((fl : Int) <= 255) = true := by simp; omega
 have t10 : decide (crc < 0) = true := by simp; omega
 have t11 : decide (0 <= crc) = false := by simp; omega
 clear a1 a2 a3 a4 a5 h
 go_enter Tryz.func109, Tryz.ntmps109
 go_wp2
 go_ret
 exact Ret.mk rfl ((Mod.refl _ _).alloc _)
set_option maxRecDepth 20000 in
theorem cRight_6 (ty : Int) (num : Int) (fl : Nat) (crc : Int) (data : List UInt8) (a1 : 1 <= ty) (a2 : ty <= 65535) (a3 : 1 <= num) (a4 : num <= 65535) (a5 : fl <= 255) (a6 : 0 <= crc) (h : 2 < crc) (w : World) : Calls Tryz.prog 109 #[BV.v ⟨ty, num, fl, crc, data⟩] w (Ret (.int .i64 1) w) := by
 have t0 : decide (ty < 1) = false := by simp; omega
 have t1 : decide (1 <= ty) = true := by simp; omega
 have t2 : decide (65535 < ty) = false := by simp; omega
 have t3 : decide (ty <= 65535) = true := by simp; omega
 have t4 : decide (num < 1) = false := by simp; omega
 have t5 : decide (1 <= num) = true := by simp; omega
 have t6 : decide (65535 < num) = false := by simp; omega
 have t7 : decide (num <= 65535) = true := by simp; omega
 have t8 : decide (255 < (fl : Int)) = false := by simp; omega
 have t9 : decide ((fl : Int) <= 255) = true := by simp; omega
 have t10 : decide (crc < 0) = false := by simp; omega
 have t11 : decide (0 <= crc) = true := by simp; omega
 have t12 : decide (2 < crc) = true := by simp; omega
 have t13 : decide (crc <= 2) = false := by simp; omega
 clear a1 a2 a3 a4 a5 a6 h
 go_enter Tryz.func109, Tryz.ntmps109
 go_wp2
 go_ret
 exact Ret.mk rfl ((Mod.refl _ _).alloc _)
set_option maxRecDepth 20000 in
theorem cRight_7 (ty : Int) (num : Int) (fl : Nat) (crc : Int) (data : List UInt8) (a1 : 1 <= ty) (a2 : ty <= 65535) (a3 : 1 <= num) (a4 : num <= 65535) (a5 : fl <= 255) (a6 : 0 <= crc) (a7 : crc <= 2) (h : 4000 < data.length) (w : World) : Calls Tryz.prog 109 #[BV.v ⟨ty, num, fl, crc, data⟩] w (Ret (.int .i64 4) w) := by
 have t0 : decide (ty < 1) = false := by simp; omega
 have t1 : decide (1 <= ty) = true := by simp; omega
 have t2 : decide (65535 < ty) = false := by simp; omega
 have t3 : decide (ty <= 65535) = true := by simp; omega
 have t4 : decide (num < 1) = false := by simp; omega
 have t5 : decide (1 <= num) = true := by simp; omega
 have t6 : decide (65535 < num) = false := by simp; omega
 have t7 : decide (num <= 65535) = true := by simp; omega
 have t8 : decide (255 < (fl : Int)) = false := by simp; omega
 have t9 : decide ((fl : Int) <= 255) = true := by simp; omega
 have t10 : decide (crc < 0) = false := by simp; omega
 have t11 : decide (0 <= crc) = true := by simp; omega
 have t12 : decide (2 < crc) = false := by simp; omega
 have t13 : decide (crc <= 2) = true := by simp; omega
 have t14 : decide (4000 < (data.length : Int)) = true := by simp; omega
 have t15 : decide ((data.length : Int) <= 4000) = false := by simp; omega
 clear a1 a2 a3 a4 a5 a6 a7 h
 go_enter Tryz.func109, Tryz.ntmps109
 go_wp2
 go_ret
 exact Ret.mk rfl ((Mod.refl _ _).alloc _)
set_option maxRecDepth 20000 in
theorem cRight_8 (num : Int) (fl : Nat) (crc : Int) (data : List UInt8) (a3 : 1 <= num) (a4 : num <= 65535) (a5 : fl <= 255) (a6 : 0 <= crc) (a7 : crc <= 2) (a8 : data.length <= 4000) (b2 : num ≠ 1) (w : World) : Calls Tryz.prog 109 #[BV.v ⟨1, num, fl, crc, data⟩] w (Ret (.int .i64 8) w) := by
 have t0 : decide (num < 1) = false := by simp; omega
 have t1 : decide (1 <= num) = true := by simp; omega
 have t2 : decide (65535 < num) = false := by simp; omega
 have t3 : decide (num <= 65535) = true := by simp; omega
 have t4 : decide (255 < (fl : Int)) = false := by simp; omega
 have t5 : decide ((fl : Int) <= 255) = true := by simp; omega
 have t6 : decide (crc < 0) = false := by simp; omega
 have t7 : decide (0 <= crc) = true := by simp; omega
 have t8 : decide (2 < crc) = false := by simp; omega
 have t9 : decide (crc <= 2) = true := by simp; omega
 have t10 : decide (4000 < (data.length : Int)) = false := by simp; omega
 have t11 : decide ((data.length : Int) <= 4000) = true := by simp; omega
 have e3 : (num = 1) = False := by simp [b2]
 have e4 : (num == 1) = false := by simp [b2]
 clear a3 a4 a5 a6 a7 a8 b2
 go_enter Tryz.func109, Tryz.ntmps109
 go_wp2
 go_ret
 exact Ret.mk rfl ((Mod.refl _ _).alloc _)
set_option maxRecDepth 20000 in
theorem cRight_9 (ty : Int) (fl : Nat) (crc : Int) (data : List UInt8) (a1 : 1 <= ty) (a2 : ty <= 65535) (a5 : fl <= 255) (a6 : 0 <= crc) (a7 : crc <= 2) (a8 : data.length <= 4000) (b1 : ty ≠ 1) (w : World) : Calls Tryz.prog 109 #[BV.v ⟨ty, 1, fl, crc, data⟩] w (Ret (.int .i64 8) w) := by
 have t0 : decide (ty < 1) = false := by simp; omega
 have t1 : decide (1 <= ty) = true := by simp; omega
 have t2 : decide (65535 < ty) = false := by simp; omega
 have t3 : decide (ty <= 65535) = true := by simp; omega
 have t4 : decide (255 < (fl : Int)) = false := by simp; omega
 have t5 : decide ((fl : Int) <= 255) = true := by simp; omega
 have t6 : decide (crc < 0) = false := by simp; omega
 have t7 : decide (0 <= crc) = true := by simp; omega
 have t8 : decide (2 < crc) = false := by simp; omega
 have t9 : decide (crc <= 2) = true := by simp; omega
 have t10 : decide (4000 < (data.length : Int)) = false := by simp; omega
 have t11 : decide ((data.length : Int) <= 4000) = true := by simp; omega
 have e1 : (ty = 1) = False := by simp [b1]
 have e2 : (ty == 1) = false := by simp [b1]
 clear a1 a2 a5 a6 a7 a8 b1
 go_enter Tryz.func109, Tryz.ntmps109
 go_wp2
 go_ret
 exact Ret.mk rfl ((Mod.refl _ _).alloc _)
set_option maxRecDepth 20000 in
theorem cRight_10  (fl : Nat) (crc : Int) (data : List UInt8) (a5 : fl <= 255) (a6 : 0 <= crc) (a7 : crc <= 2) (a8 : data.length <= 4000) (w : World) : Calls Tryz.prog 109 #[BV.v ⟨1, 1, fl, crc, data⟩] w (Ret (.int .i64 0) w) := by
 have t0 : decide (255 < (fl : Int)) = false := by simp; omega
 have t1 : decide ((fl : Int) <= 255) = true := by simp; omega
 have t2 : decide (crc < 0) = false := by simp; omega
 have t3 : decide (0 <= crc) = true := by simp; omega
 have t4 : decide (2 < crc) = false := by simp; omega
 have t5 : decide (crc <= 2) = true := by simp; omega
 have t6 : decide (4000 < (data.length : Int)) = false := by simp; omega
 have t7 : decide ((data.length : Int) <= 4000) = true := by simp; omega
 clear a5 a6 a7 a8
 go_enter Tryz.func109, Tryz.ntmps109
 go_wp2
 go_ret
 exact Ret.mk rfl ((Mod.refl _ _).alloc _)
set_option maxRecDepth 20000 in
theorem cRight_11 (ty : Int) (num : Int) (fl : Nat) (crc : Int) (data : List UInt8) (a1 : 1 <= ty) (a2 : ty <= 65535) (a3 : 1 <= num) (a4 : num <= 65535) (a5 : fl <= 255) (a6 : 0 <= crc) (a7 : crc <= 2) (a8 : data.length <= 4000) (b1 : ty ≠ 1) (b2 : num ≠ 1) (w : World) : Calls Tryz.prog 109 #[BV.v ⟨ty, num, fl, crc, data⟩] w (Ret (.int .i64 0) w) := by
 have t0 : decide (ty < 1) = false := by simp; omega
 have t1 : decide (1 <= ty) = true := by simp; omega
 have t2 : decide (65535 < ty) = false := by simp; omega
 have t3 : decide (ty <= 65535) = true := by simp; omega
 have t4 : decide (num < 1) = false := by simp; omega
 have t5 : decide (1 <= num) = true := by simp; omega
 have t6 : decide (65535 < num) = false := by simp; omega
 have t7 : decide (num <= 65535) = true := by simp; omega
 have t8 : decide (255 < (fl : Int)) = false := by simp; omega
 have t9 : decide ((fl : Int) <= 255) = true := by simp; omega
 have t10 : decide (crc < 0) = false := by simp; omega
 have t11 : decide (0 <= crc) = true := by simp; omega
 have t12 : decide (2 < crc) = false := by simp; omega
 have t13 : decide (crc <= 2) = true := by simp; omega
 have t14 : decide (4000 < (data.length : Int)) = false := by simp; omega
 have t15 : decide ((data.length : Int) <= 4000) = true := by simp; omega
 have e1 : (ty = 1) = False := by simp [b1]
 have e2 : (ty == 1) = false := by simp [b1]
 have e3 : (num = 1) = False := by simp [b2]
 have e4 : (num == 1) = false := by simp [b2]
 clear a1 a2 a3 a4 a5 a6 a7 a8 b1 b2
 go_enter Tryz.func109, Tryz.ntmps109
 go_wp2
 go_ret
 exact Ret.mk rfl ((Mod.refl _ _).alloc _)
set_option maxRecDepth 20000 in
theorem rRight_0 (ty : Int) (num : Int) (fl : Nat) (crc : Int) (data : List UInt8) (h : ty < 1) (w : World) : Calls Tryz.prog 19 #[BV.v ⟨ty, num, fl, crc, data⟩] w (Ret (.int .i64 1) w) := by
 have t0 : decide (ty < 1) = true := by simp; omega
 have t1 : decide (1 <= ty) = false := by simp; omega
 clear h
 go_enter Tryz.func19, Tryz.ntmps19
 go_wp2
 go_ret
 exact Ret.mk rfl ((Mod.refl _ _).alloc _)
set_option maxRecDepth 20000 in
theorem rRight_1 (ty : Int) (num : Int) (fl : Nat) (crc : Int) (data : List UInt8) (a1 : 1 <= ty) (h : 65535 < ty) (w : World) : Calls Tryz.prog 19 #[BV.v ⟨ty, num, fl, crc, data⟩] w (Ret (.int .i64 1) w) := by
 have t0 : decide (ty < 1) = false := by simp; omega
 have t1 : decide (1 <= ty) = true := by simp; omega
 have t2 : decide (65535 < ty) = true := by simp; omega
 have t3 : decide (ty <= 65535) = false := by simp; omega
 clear a1 h
 go_enter Tryz.func19, Tryz.ntmps19
 go_wp2
 go_ret
 exact Ret.mk rfl ((Mod.refl _ _).alloc _)
set_option maxRecDepth 20000 in
theorem rRight_2 (ty : Int) (num : Int) (fl : Nat) (crc : Int) (data : List UInt8) (a1 : 1 <= ty) (a2 : ty <= 65535) (h : num < 1) (w : World) : Calls Tryz.prog 19 #[BV.v ⟨ty, num, fl, crc, data⟩] w (Ret (.int .i64 1) w) := by
 have t0 : decide (ty < 1) = false := by simp; omega
 have t1 : decide (1 <= ty) = true := by simp; omega
 have t2 : decide (65535 < ty) = false := by simp; omega
 have t3 : decide (ty <= 65535) = true := by simp; omega
 have t4 : decide (num < 1) = true := by simp; omega
 have t5 : decide (1 <= num) = false := by simp; omega
 clear a1 a2 h
 go_enter Tryz.func19, Tryz.ntmps19
 go_wp2
 go_ret
 exact Ret.mk rfl ((Mod.refl _ _).alloc _)
set_option maxRecDepth 20000 in
theorem rRight_3 (ty : Int) (num : Int) (fl : Nat) (crc : Int) (data : List UInt8) (a1 : 1 <= ty) (a2 : ty <= 65535) (a3 : 1 <= num) (h : 65535 < num) (w : World) : Calls Tryz.prog 19 #[BV.v ⟨ty, num, fl, crc, data⟩] w (Ret (.int .i64 1) w) := by
 have t0 : decide (ty < 1) = false := by simp; omega
 have t1 : decide (1 <= ty) = true := by simp; omega
 have t2 : decide (65535 < ty) = false := by simp; omega
 have t3 : decide (ty <= 65535) = true := by simp; omega
 have t4 : decide (num < 1) = false := by simp; omega
 have t5 : decide (1 <= num) = true := by simp; omega
 have t6 : decide (65535 < num) = true := by simp; omega
 have t7 : decide (num <= 65535) = false := by simp; omega
 clear a1 a2 a3 h
 go_enter Tryz.func19, Tryz.ntmps19
 go_wp2
 go_ret
 exact Ret.mk rfl ((Mod.refl _ _).alloc _)
set_option maxRecDepth 20000 in
theorem rRight_4 (ty : Int) (num : Int) (fl : Nat) (crc : Int) (data : List UInt8) (a1 : 1 <= ty) (a2 : ty <= 65535) (a3 : 1 <= num) (a4 : num <= 65535) (h : 255 < fl) (w : World) : Calls Tryz.prog 19 #[BV.v ⟨ty, num, fl, crc, data⟩] w (Ret (.int .i64 1) w) := by
 have t0 : decide (ty < 1) = false := by simp; omega
 have t1 : decide (1 <= ty) = true := by simp; omega
 have t2 : decide (65535 < ty) = false := by simp; omega
 have t3 : decide (ty <= 65535) = true := by simp; omega
 have t4 : decide (num < 1) = false := by simp; omega
 have t5 : decide (1 <= num) = true := by simp; omega
 have t6 : decide (65535 < num) = false := by simp; omega
 have t7 : decide (num <= 65535) = true := by simp; omega
 have t8 : decide (255 < (fl : Int)) = true := by simp; omega
 have t9 : decide ((fl : Int) <= 255) = false := by simp; omega
 clear a1 a2 a3 a4 h
 go_enter Tryz.func19, Tryz.ntmps19
 go_wp2
 go_ret
 exact Ret.mk rfl ((Mod.refl _ _).alloc _)
set_option maxRecDepth 20000 in
theorem rRight_5 (ty : Int) (num : Int) (fl : Nat) (crc : Int) (data : List UInt8) (a1 : 1 <= ty) (a2 : ty <= 65535) (a3 : 1 <= num) (a4 : num <= 65535) (a5 : fl <= 255) (h : crc < 0) (w : World) : Calls Tryz.prog 19 #[BV.v ⟨ty, num, fl, crc, data⟩] w (Ret (.int .i64 1) w) := by
 have t0 : decide (ty < 1) = false := by simp; omega
 have t1 : decide (1 <= ty) = true := by simp; omega
 have t2 : decide (65535 < ty) = false := by simp; omega
 have t3 : decide (ty <= 65535) = true := by simp; omega
 have t4 : decide (num < 1) = false := by simp; omega
 have t5 : decide (1 <= num) = true := by simp; omega
 have t6 : decide (65535 < num) = false := by simp; omega
 have t7 : decide (num <= 65535) = true := by simp; omega
 have t8 : decide (255 < (fl : Int)) = false := by simp; omega
 have t9 : decide ((fl : Int) <= 255) = true := by simp; omega
 have t10 : decide (crc < 0) = true := by simp; omega
 have t11 : decide (0 <= crc) = false := by simp; omega
 clear a1 a2 a3 a4 a5 h
 go_enter Tryz.func19, Tryz.ntmps19
 go_wp2
 go_ret
 exact Ret.mk rfl ((Mod.refl _ _).alloc _)
set_option maxRecDepth 20000 in
theorem rRight_6 (ty : Int) (num : Int) (fl : Nat) (crc : Int) (data : List UInt8) (a1 : 1 <= ty) (a2 : ty <= 65535) (a3 : 1 <= num) (a4 : num <= 65535) (a5 : fl <= 255) (a6 : 0 <= crc) (h : 2 < crc) (w : World) : Calls Tryz.prog 19 #[BV.v ⟨ty, num, fl, crc, data⟩] w (Ret (.int .i64 1) w) := by
 have t0 : decide (ty < 1) = false := by simp; omega
 have t1 : decide (1 <= ty) = true := by simp; omega
 have t2 : decide (65535 < ty) = false := by simp; omega
 have t3 : decide (ty <= 65535) = true := by simp; omega
 have t4 : decide (num < 1) = false := by simp; omega
 have t5 : decide (1 <= num) = true := by simp; omega
 have t6 : decide (65535 < num) = false := by simp; omega
 have t7 : decide (num <= 65535) = true := by simp; omega
 have t8 : decide (255 < (fl : Int)) = false := by simp; omega
 have t9 : decide ((fl : Int) <= 255) = true := by simp; omega
 have t10 : decide (crc < 0) = false := by simp; omega
 have t11 : decide (0 <= crc) = true := by simp; omega
 have t12 : decide (2 < crc) = true := by simp; omega
 have t13 : decide (crc <= 2) = false := by simp; omega
 clear a1 a2 a3 a4 a5 a6 h
 go_enter Tryz.func19, Tryz.ntmps19
 go_wp2
 go_ret
 exact Ret.mk rfl ((Mod.refl _ _).alloc _)
set_option maxRecDepth 20000 in
theorem rRight_7 (ty : Int) (num : Int) (fl : Nat) (crc : Int) (data : List UInt8) (a1 : 1 <= ty) (a2 : ty <= 65535) (a3 : 1 <= num) (a4 : num <= 65535) (a5 : fl <= 255) (a6 : 0 <= crc) (a7 : crc <= 2) (h : 4000 < data.length) (w : World) : Calls Tryz.prog 19 #[BV.v ⟨ty, num, fl, crc, data⟩] w (Ret (.int .i64 4) w) := by
 have t0 : decide (ty < 1) = false := by simp; omega
 have t1 : decide (1 <= ty) = true := by simp; omega
 have t2 : decide (65535 < ty) = false := by simp; omega
 have t3 : decide (ty <= 65535) = true := by simp; omega
 have t4 : decide (num < 1) = false := by simp; omega
 have t5 : decide (1 <= num) = true := by simp; omega
 have t6 : decide (65535 < num) = false := by simp; omega
 have t7 : decide (num <= 65535) = true := by simp; omega
 have t8 : decide (255 < (fl : Int)) = false := by simp; omega
 have t9 : decide ((fl : Int) <= 255) = true := by simp; omega
 have t10 : decide (crc < 0) = false := by simp; omega
 have t11 : decide (0 <= crc) = true := by simp; omega
 have t12 : decide (2 < crc) = false := by simp; omega
 have t13 : decide (crc <= 2) = true := by simp; omega
 have t14 : decide (4000 < (data.length : Int)) = true := by simp; omega
 have t15 : decide ((data.length : Int) <= 4000) = false := by simp; omega
 clear a1 a2 a3 a4 a5 a6 a7 h
 go_enter Tryz.func19, Tryz.ntmps19
 go_wp2
 go_ret
 exact Ret.mk rfl ((Mod.refl _ _).alloc _)
set_option maxRecDepth 20000 in
theorem rRight_8 (num : Int) (fl : Nat) (crc : Int) (data : List UInt8) (a3 : 1 <= num) (a4 : num <= 65535) (a5 : fl <= 255) (a6 : 0 <= crc) (a7 : crc <= 2) (a8 : data.length <= 4000) (b2 : num ≠ 1) (w : World) : Calls Tryz.prog 19 #[BV.v ⟨1, num, fl, crc, data⟩] w (Ret (.int .i64 8) w) := by
 have t0 : decide (num < 1) = false := by simp; omega
 have t1 : decide (1 <= num) = true := by simp; omega
 have t2 : decide (65535 < num) = false := by simp; omega
 have t3 : decide (num <= 65535) = true := by simp; omega
 have t4 : decide (255 < (fl : Int)) = false := by simp; omega
 have t5 : decide ((fl : Int) <= 255) = true := by simp; omega
 have t6 : decide (crc < 0) = false := by simp; omega
 have t7 : decide (0 <= crc) = true := by simp; omega
 have t8 : decide (2 < crc) = false := by simp; omega
 have t9 : decide (crc <= 2) = true := by simp; omega
 have t10 : decide (4000 < (data.length : Int)) = false := by simp; omega
 have t11 : decide ((data.length : Int) <= 4000) = true := by simp; omega
 have e3 : (num = 1) = False := by simp [b2]
 have e4 : (num == 1) = false := by simp [b2]
 clear a3 a4 a5 a6 a7 a8 b2
 go_enter Tryz.func19, Tryz.ntmps19
 go_wp2
 go_ret
 exact Ret.mk rfl ((Mod.refl _ _).alloc _)
set_option maxRecDepth 20000 in
theorem rRight_9 (ty : Int) (fl : Nat) (crc : Int) (data : List UInt8) (a1 : 1 <= ty) (a2 : ty <= 65535) (a5 : fl <= 255) (a6 : 0 <= crc) (a7 : crc <= 2) (a8 : data.length <= 4000) (b1 : ty ≠ 1) (w : World) : Calls Tryz.prog 19 #[BV.v ⟨ty, 1, fl, crc, data⟩] w (Ret (.int .i64 8) w) := by
 have t0 : decide (ty < 1) = false := by simp; omega
 have t1 : decide (1 <= ty) = true := by simp; omega
 have t2 : decide (65535 < ty) = false := by simp; omega
 have t3 : decide (ty <= 65535) = true := by simp; omega
 have t4 : decide (255 < (fl : Int)) = false := by simp; omega
 have t5 : decide ((fl : Int) <= 255) = true := by simp; omega
 have t6 : decide (crc < 0) = false := by simp; omega
 have t7 : decide (0 <= crc) = true := by simp; omega
 have t8 : decide (2 < crc) = false := by simp; omega
 have t9 : decide (crc <= 2) = true := by simp; omega
 have t10 : decide (4000 < (data.length : Int)) = false := by simp; omega
 have t11 : decide ((data.length : Int) <= 4000) = true := by simp; omega
 have e1 : (ty = 1) = False := by simp [b1]
 have e2 : (ty == 1) = false := by simp [b1]
 clear a1 a2 a5 a6 a7 a8 b1
 go_enter Tryz.func19, Tryz.ntmps19
 go_wp2
 go_ret
 exact Ret.mk rfl ((Mod.refl _ _).alloc _)
set_option maxRecDepth 20000 in
theorem rRight_10  (fl : Nat) (crc : Int) (data : List UInt8) (a5 : fl <= 255) (a6 : 0 <= crc) (a7 : crc <= 2) (a8 : data.length <= 4000) (w : World) : Calls Tryz.prog 19 #[BV.v ⟨1, 1, fl, crc, data⟩] w (Ret (.int .i64 0) w) := by
 have t0 : decide (255 < (fl : Int)) = false := by simp; omega
 have t1 : decide ((fl : Int) <= 255) = true := by simp; omega
 have t2 : decide (crc < 0) = false := by simp; omega
 have t3 : decide (0 <= crc) = true := by simp; omega
 have t4 : decide (2 < crc) = false := by simp; omega
 have t5 : decide (crc <= 2) = true := by simp; omega
 have t6 : decide (4000 < (data.length : Int)) = false := by simp; omega
 have t7 : decide ((data.length : Int) <= 4000) = true := by simp; omega
 clear a5 a6 a7 a8
 go_enter Tryz.func19, Tryz.ntmps19
 go_wp2
 go_ret
 exact Ret.mk rfl ((Mod.refl _ _).alloc _)
set_option maxRecDepth 20000 in
theorem rRight_11 (ty : Int) (num : Int) (fl : Nat) (crc : Int) (data : List UInt8) (a1 : 1 <= ty) (a2 : ty <= 65535) (a3 : 1 <= num) (a4 : num <= 65535) (a5 : fl <= 255) (a6 : 0 <= crc) (a7 : crc <= 2) (a8 : data.length <= 4000) (b1 : ty ≠ 1) (b2 : num ≠ 1) (w : World) : Calls Tryz.prog 19 #[BV.v ⟨ty, num, fl, crc, data⟩] w (Ret (.int .i64 0) w) := by
 have t0 : decide (ty < 1) = false := by simp; omega
 have t1 : decide (1 <= ty) = true := by simp; omega
 have t2 : decide (65535 < ty) = false := by simp; omega
 have t3 : decide (ty <= 65535) = true := by simp; omega
 have t4 : decide (num < 1) = false := by simp; omega
 have t5 : decide (1 <= num) = true := by simp; omega
 have t6 : decide (65535 < num) = false := by simp; omega
 have t7 : decide (num <= 65535) = true := by simp; omega
 have t8 : decide (255 < (fl : Int)) = false := by simp; omega
 have t9 : decide ((fl : Int) <= 255) = true := by simp; omega
 have t10 : decide (crc < 0) = false := by simp; omega
 have t11 : decide (0 <= crc) = true := by simp; omega
 have t12 : decide (2 < crc) = false := by simp; omega
 have t13 : decide (crc <= 2) = true := by simp; omega
 have t14 : decide (4000 < (data.length : Int)) = false := by simp; omega
 have t15 : decide ((data.length : Int) <= 4000) = true := by simp; omega
 have e1 : (ty = 1) = False := by simp [b1]
 have e2 : (ty == 1) = false := by simp [b1]
 have e3 : (num = 1) = False := by simp [b2]
 have e4 : (num == 1) = false := by simp [b2]
 clear a1 a2 a3 a4 a5 a6 a7 a8 b1 b2
 go_enter Tryz.func19, Tryz.ntmps19
 go_wp2
 go_ret
 exact Ret.mk rfl ((Mod.refl _ _).alloc _)
theorem cbRight_any (b : BV) (w : World) : Calls Tryz.prog 109 #[b.v] w (Ret (.int .i64 b.right) w) := by
 obtain ⟨ty, num, fl, crc, data⟩ := b
 have go : ∀ (k : Int), Calls Tryz.prog 109 #[BV.v ⟨ty, num, fl, crc, data⟩] w (Ret (.int .i64 k) w) -> BV.right ⟨ty, num, fl, crc, data⟩ = k -> Calls Tryz.prog 109 #[BV.v ⟨ty, num, fl, crc, data⟩] w (Ret (.int .i64 (BV.right ⟨ty, num, fl, crc, data⟩)) w) := fun k h e => by rw [e]; exact h
 by_cases h0 : ty < 1
 . exact go _ (cRight_0 ty num fl crc data (by omega) w) (by unfold BV.right; simp only []; rw [if_pos (by omega)])
 by_cases h1 : 65535 < ty
 . exact go _ (cRight_1 ty num fl crc data (by omega) (by omega) w) (by unfold BV.right; simp only []; rw [if_pos (by omega)])
 by_cases h2 : num < 1
 . exact go _ (cRight_2 ty num fl crc data (by omega) (by omega) (by omega) w) (by unfold BV.right; simp only []; rw [if_pos (by omega)])
 by_cases h3 : 65535 < num
 . exact go _ (cRight_3 ty num fl crc data (by omega) (by omega) (by omega) (by omega) w) (by unfold BV.right; simp only []; rw [if_pos (by omega)])
 by_cases h4 : 255 < fl
 . exact go _ (cRight_4 ty num fl crc data (by omega) (by omega) (by omega) (by omega) (by omega) w) (by unfold BV.right; simp only []; rw [if_pos (by omega)])
 by_cases h5 : crc < 0
 . exact go _ (cRight_5 ty num fl crc data (by omega) (by omega) (by omega) (by omega) (by omega) (by omega) w) (by unfold BV.right; simp only []; rw [if_pos (by omega)])
 by_cases h6 : 2 < crc
 . exact go _ (cRight_6 ty num fl crc data (by omega) (by omega) (by omega) (by omega) (by omega) (by omega) (by omega) w) (by unfold BV.right; simp only []; rw [if_pos (by omega)])
 by_cases h7 : 4000 < data.length
 . exact go _ (cRight_7 ty num fl crc data (by omega) (by omega) (by omega) (by omega) (by omega) (by omega) (by omega) (by omega) w) (by unfold BV.right; simp only []; rw [if_neg (by omega), if_pos (by omega)])
 by_cases k1 : ty = 1
 .
  subst k1
  by_cases k2 : num = 1
  .
   subst k2
   exact go _ (cRight_10 fl crc data (by omega) (by omega) (by omega) (by omega) w) (by unfold BV.right; simp only []; rw [if_neg (by omega), if_neg (by omega), if_neg (by omega)])
  . exact go _ (cRight_8 num fl crc data (by omega) (by omega) (by omega) (by omega) (by omega) (by omega) k2 w) (by unfold BV.right; simp only []; rw [if_neg (by omega), if_neg (by omega), if_pos (by simp [k2])])
 .
  by_cases k2 : num = 1
  .
   subst k2
   exact go _ (cRight_9 ty fl crc data (by omega) (by omega) (by omega) (by omega) (by omega) (by omega) k1 w) (by unfold BV.right; simp only []; rw [if_neg (by omega), if_neg (by omega), if_pos (by simp [k1])])
  . exact go _ (cRight_11 ty num fl crc data (by omega) (by omega) (by omega) (by omega) (by omega) (by omega) (by omega) (by omega) k1 k2 w) (by unfold BV.right; simp only []; rw [if_neg (by omega), if_neg (by omega), if_neg (by omega)])
theorem rbRight_any (b : BV) (w : World) : Calls Tryz.prog 19 #[b.v] w (Ret (.int .i64 b.right) w) := by
 obtain ⟨ty, num, fl, crc, data⟩ := b
 have go : ∀ (k : Int), Calls Tryz.prog 19 #[BV.v ⟨ty, num, fl, crc, data⟩] w (Ret (.int .i64 k) w) -> BV.right ⟨ty, num, fl, crc, data⟩ = k -> Calls Tryz.prog 19 #[BV.v ⟨ty, num, fl, crc, data⟩] w (Ret (.int .i64 (BV.right ⟨ty, num, fl, crc, data⟩)) w) := fun k h e => by rw [e]; exact h
 by_cases h0 : ty < 1
 . exact go _ (rRight_0 ty num fl crc data (by omega) w) (by unfold BV.right; simp only []; rw [if_pos (by omega)])
 by_cases h1 : 65535 < ty
 . exact go _ (rRight_1 ty num fl crc data (by omega) (by omega) w) (by unfold BV.right; simp only []; rw [if_pos (by omega)])
 by_cases h2 : num < 1
 . exact go _ (rRight_2 ty num fl crc data (by omega) (by omega) (by omega) w) (by unfold BV.right; simp only []; rw [if_pos (by omega)])
 by_cases h3 : 65535 < num
 . exact go _ (rRight_3 ty num fl crc data (by omega) (by omega) (by omega) (by omega) w) (by unfold BV.right; simp only []; rw [if_pos (by omega)])
 by_cases h4 : 255 < fl
 . exact go _ (rRight_4 ty num fl crc data (by omega) (by omega) (by omega) (by omega) (by omega) w) (by unfold BV.right; simp only []; rw [if_pos (by omega)])
 by_cases h5 : crc < 0
 . exact go _ (rRight_5 ty num fl crc data (by omega) (by omega) (by omega) (by omega) (by omega) (by omega) w) (by unfold BV.right; simp only []; rw [if_pos (by omega)])
 by_cases h6 : 2 < crc
 . exact go _ (rRight_6 ty num fl crc data (by omega) (by omega) (by omega) (by omega) (by omega) (by omega) (by omega) w) (by unfold BV.right; simp only []; rw [if_pos (by omega)])
 by_cases h7 : 4000 < data.length
 . exact go _ (rRight_7 ty num fl crc data (by omega) (by omega) (by omega) (by omega) (by omega) (by omega) (by omega) (by omega) w) (by unfold BV.right; simp only []; rw [if_neg (by omega), if_pos (by omega)])
 by_cases k1 : ty = 1
 .
  subst k1
  by_cases k2 : num = 1
  .
   subst k2
   exact go _ (rRight_10 fl crc data (by omega) (by omega) (by omega) (by omega) w) (by unfold BV.right; simp only []; rw [if_neg (by omega), if_neg (by omega), if_neg (by omega)])
  . exact go _ (rRight_8 num fl crc data (by omega) (by omega) (by omega) (by omega) (by omega) (by omega) k2 w) (by unfold BV.right; simp only []; rw [if_neg (by omega), if_neg (by omega), if_pos (by simp [k2])])
 .
  by_cases k2 : num = 1
  .
   subst k2
   exact go _ (rRight_9 ty fl crc data (by omega) (by omega) (by omega) (by omega) (by omega) (by omega) k1 w) (by unfold BV.right; simp only []; rw [if_neg (by omega), if_neg (by omega), if_pos (by simp [k1])])
  . exact go _ (rRight_11 ty num fl crc data (by omega) (by omega) (by omega) (by omega) (by omega) (by omega) (by omega) (by omega) k1 k2 w) (by unfold BV.right; simp only []; rw [if_neg (by omega), if_neg (by omega), if_neg (by omega)])
end Go.Proofs.YthecmnbkjchjmaaGreat
