/-
  Items: a number, bytes, an array, made.
-/
import Derived.Test.YticbopfacfmjfaaItMem
namespace Go.Proofs.Yticbopfacfmjfaa
open Go.RowKit
set_option linter.unusedVariables false

/-- A number; bytes. -/
def numT (n : Nat) : T := T.mk 0 n [] false 0 fun _ => T.nil
def strT (s : List UInt8) : T := T.mk 2 0 s false 0 fun _ => T.nil

theorem Num_any (n : Nat) (w : World) : Calls Try.prog 33 #[.int .u64 (n : Int)] w (Ret (itemV (numT n) none 0) w) := by
  go_enter Try.func33, Try.ntmps33
  go_wp2
  refine bodyPost_ret (v := itemV (numT n) none 0) ?_ rfl (Ret.mk rfl ((Mod.refl _ _).alloc _))
  simp [results, Try.results33, go_sem]
  exact ⟨rfl, rfl, rfl, rfl, rfl⟩
theorem Str_any (s : List UInt8) (w : World) : Calls Try.prog 28 #[str s] w (Ret (itemV (strT s) none 0) w) := by
  go_enter Try.func28, Try.ntmps28
  go_wp2
  refine bodyPost_ret (v := itemV (strT s) none 0) ?_ rfl (Ret.mk rfl ((Mod.refl _ _).alloc _))
  simp [results, Try.results28, go_sem]
  exact ⟨rfl, rfl, rfl, rfl, rfl⟩
theorem List_any (ch : Nat → T) (k : Nat) (A : Option Addr) (c : Nat) (w : World) : Calls Try.prog 31 #[.slice A k c] w (Ret (itemV (T.mk 4 0 [] false k ch) A c) w) := by
  go_enter Try.func31, Try.ntmps31
  go_wp2
  refine bodyPost_ret (v := itemV (T.mk 4 0 [] false k ch) A c) ?_ rfl (Ret.mk rfl ((Mod.refl _ _).alloc _))
  simp [results, Try.results31, go_sem]
  exact ⟨rfl, rfl, rfl, rfl, rfl⟩
theorem NumI_any (n : Int) (w : World) : Calls Try.prog 33 #[.int .u64 n] w (Ret (.agg #[.int .i64 0, .int .u64 n, str [], .slice none 0 0, .bool false]) w) := by
  go_enter Try.func33, Try.ntmps33
  go_wp2
  refine bodyPost_ret (v := .agg #[.int .i64 0, .int .u64 n, str [], .slice none 0 0, .bool false]) ?_ rfl (Ret.mk rfl ((Mod.refl _ _).alloc _))
  simp [results, Try.results33, go_sem]
/-- A list's value, whatever its items. -/
theorem ListV_any (k : Nat) (A : Option Addr) (c : Nat) (w : World) : Calls Try.prog 31 #[.slice A k c] w (Ret (.agg #[.int .i64 4, .int .u64 0, str [], .slice A k c, .bool false]) w) := List_any (fun _ => T.nil) k A c w
/-- Bytes' value. -/
theorem StrV_any (s : List UInt8) (w : World) : Calls Try.prog 28 #[str s] w (Ret (.agg #[.int .i64 2, .int .u64 0, str s, .slice none 0 0, .bool false]) w) := Str_any s w
theorem num_ok {n : Nat} (h : n < 18446744073709551616) : (numT n).ok := by unfold numT T.ok; exact ⟨by omega, h, by simp, by omega, fun i hi => by omega⟩
theorem str_ok {s : List UInt8} (h : s.length < 4611686018427387904) : (strT s).ok := by unfold strT T.ok; exact ⟨by omega, by omega, h, by omega, fun i hi => by omega⟩
end Go.Proofs.Yticbopfacfmjfaa
