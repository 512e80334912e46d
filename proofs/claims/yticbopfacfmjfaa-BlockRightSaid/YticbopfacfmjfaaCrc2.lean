/-
  The code's sums' bytes.
-/
import Derived.Test.YticbopfacfmjfaaCrc1
import Derived.Test.YticbopfacfmjfaaPlain01
namespace Go.Proofs.Yticbopfacfmjfaa
open Go.RowKit
set_option linter.unusedVariables false

def Crc.x25 (l : List UInt8) : Nat := 65535 - Crc.divC 33800 65535 l
def Crc.cast (l : List UInt8) : Nat := 4294967295 - Crc.divC 2197175160 4294967295 l
def Crc.sumL (kind : Nat) (l : List UInt8) : List UInt8 := if kind = 1 then be (Crc.x25 l) 2 else if kind = 2 then be (Crc.cast l) 4 else []

theorem Size_any (k : Nat) (hk : k ≤ 2) (w : World) : Calls Try.prog 30 #[.int .i64 (k : Int)] w (Ret (.int .i64 ((2 * k : Nat) : Int)) w) := by
  go_enter Try.func30, Try.ntmps30
  go_wp2
  go_ret
  exact Ret.mk (by simp) (Mod.refl _ _)

theorem X25_any (l : List UInt8) (hl : Hid (l.length < 1000000)) (w : World) : Calls Try.prog 49 #[str l] w (Ret (.int .u16 (Crc.x25 l : Nat)) w) := by
  have hd : Crc.divC 33800 65535 l < 65536 := Crc.divC_lt (m := 16) (by decide) l 65535 (by decide) (by decide)
  have tx : bits .xor .u16 IntKind.u16.max (Crc.divC 33800 65535 l : Int) = ((65535 - Crc.divC 33800 65535 l : Nat) : Int) := by
    rw [Crc.not_xor (n := 16) hd]
    exact u16_xor_nat 65535 _ (by decide) hd
  have K := hid (fun W => divide16 33800 65535 (by unfold Hid; decide) (by unfold Hid; decide) l hl W)
  unfold Crc.x25
  generalize Crc.divC 33800 65535 l = d at *
  go_enter Try.func49, Try.ntmps49
  go_wp2_with fail
  refine (K.out _).mono ?_
  rintro e w1 ⟨rfl, hb1⟩
  go_wp2_with fail
  go_ret
  exact Ret.mk (by simp) hb1
theorem Castagnoli_any (l : List UInt8) (hl : Hid (l.length < 1000000)) (w : World) : Calls Try.prog 50 #[str l] w (Ret (.int .u32 (Crc.cast l : Nat)) w) := by
  have hd : Crc.divC 2197175160 4294967295 l < 4294967296 := Crc.divC_lt (m := 32) (by decide) l 4294967295 (by decide) (by decide)
  have tx : bits .xor .u32 IntKind.u32.max (Crc.divC 2197175160 4294967295 l : Int) = ((4294967295 - Crc.divC 2197175160 4294967295 l : Nat) : Int) := by
    rw [Crc.not_xor (n := 32) hd]
    exact u32_xor_nat 4294967295 _ (by decide) hd
  have K := hid (fun W => divide32 2197175160 4294967295 (by unfold Hid; decide) (by unfold Hid; decide) l hl W)
  unfold Crc.cast
  generalize Crc.divC 2197175160 4294967295 l = d at *
  go_enter Try.func50, Try.ntmps50
  go_wp2_with fail
  refine (K.out _).mono ?_
  rintro e w1 ⟨rfl, hb1⟩
  go_wp2_with fail
  go_ret
  exact Ret.mk (by simp) hb1
theorem be2 {n : Nat} (h : n < 65536) : be n 2 = [b8 (n / 256), b8 (n % 256)] := by
  have e : n / 256 % 256 = n / 256 := by omega
  rw [be_succ, be_succ, be_zero]
  simp [e]
theorem be4 {n : Nat} (h : n < 4294967296) : be n 4 = [b8 (n / 16777216), b8 (n / 65536 % 256), b8 (n / 256 % 256), b8 (n % 256)] := by
  have e : n / 16777216 % 256 = n / 16777216 := by omega
  rw [be_succ, be_succ, be_succ, be_succ, be_zero]
  simp [e]
theorem b8_cast {n : Nat} (h : n < 256) : ((b8 n).toNat : Int) = (n : Int) := by
  simp [b8]
  omega
/-- Bytes laid in a new block, as a string. -/
theorem conv_new (l : List UInt8) (c : Nat) (W : World) : (convert 27 9 (.slice (some ⟨W.heap.size, 0, none⟩) l.length c)).run Try.prog (W.alloc (.cells (l.map fun b => Value.int .u8 (b.toNat : Int)).toArray 5)) = .ok (str l) (W.alloc (.cells (l.map fun b => Value.int .u8 (b.toNat : Int)).toArray 5)) := by
  refine run_convert_bytes_back (P := Try.prog) _ 27 9 5 _ c l Try.underlying27 Try.underlying5 Try.underlying9 (fun j hj => ?_)
  rw [addr_add, Nat.zero_add, (Blk.new W 5 _).cell j]
  simp [hj]
theorem Sum_1 (l : List UInt8) (hl : Hid (l.length < 1000000)) (w : World) : Calls Try.prog 32 #[.int .i64 1, str l] w (Ret (str (be (Crc.x25 l) 2)) w) := by
  have hd : Crc.x25 l < 65536 := by unfold Crc.x25; omega
  have K := hid (fun W => X25_any l hl W)
  generalize Crc.x25 l = d at *
  have hcv : ∀ W : World, (convert 27 9 (.slice (some ⟨W.heap.size, 0, none⟩) 2 2)).run Try.prog (W.alloc (.cells #[.int .u8 ((d : Int) / 256), .int .u8 ((d : Int) % 256)] 5)) = .ok (str (be d 2)) (W.alloc (.cells #[.int .u8 ((d : Int) / 256), .int .u8 ((d : Int) % 256)] 5)) := fun W => by
    have := conv_new (be d 2) 2 W
    rw [be_length, be2 hd] at this
    simpa [b8_cast (show d / 256 < 256 by omega), b8_cast (show d % 256 < 256 by omega), be2 hd] using this
  go_enter Try.func32, Try.ntmps32
  go_wp2_with fail
  refine (K.out _).mono ?_
  rintro e w1 ⟨rfl, hb1⟩
  go_wp2_with fail
  go_ret
  exact Ret.mk rfl (hb1.alloc _)
theorem Sum_2 (l : List UInt8) (hl : Hid (l.length < 1000000)) (w : World) : Calls Try.prog 32 #[.int .i64 2, str l] w (Ret (str (be (Crc.cast l) 4)) w) := by
  have hd : Crc.cast l < 4294967296 := by unfold Crc.cast; omega
  have K := hid (fun W => Castagnoli_any l hl W)
  generalize Crc.cast l = d at *
  have hcv : ∀ W : World, (convert 27 9 (.slice (some ⟨W.heap.size, 0, none⟩) 4 4)).run Try.prog (W.alloc (.cells #[.int .u8 ((d : Int) / 16777216), .int .u8 ((d : Int) / 65536 % 256), .int .u8 ((d : Int) / 256 % 256), .int .u8 ((d : Int) % 256)] 5)) = .ok (str (be d 4)) (W.alloc (.cells #[.int .u8 ((d : Int) / 16777216), .int .u8 ((d : Int) / 65536 % 256), .int .u8 ((d : Int) / 256 % 256), .int .u8 ((d : Int) % 256)] 5)) := fun W => by
    have := conv_new (be d 4) 4 W
    rw [be_length, be4 hd] at this
    simpa [b8_cast (show d / 16777216 < 256 by omega), b8_cast (show d / 65536 % 256 < 256 by omega), b8_cast (show d / 256 % 256 < 256 by omega), b8_cast (show d % 256 < 256 by omega), be4 hd] using this
  go_enter Try.func32, Try.ntmps32
  go_wp2_with fail
  refine (K.out _).mono ?_
  rintro e w1 ⟨rfl, hb1⟩
  go_wp2_with fail
  go_ret
  exact Ret.mk rfl (hb1.alloc _)
theorem Sum_any (k : Nat) (h1 : 1 ≤ k) (h2 : k ≤ 2) (l : List UInt8) (hl : Hid (l.length < 1000000)) (w : World) : Calls Try.prog 32 #[.int .i64 (k : Int), str l] w (Ret (str (Crc.sumL k l)) w) := by
  have : k = 1 ∨ k = 2 := by omega
  rcases this with rfl | rfl
  · exact Sum_1 l hl w
  · exact Sum_2 l hl w
theorem Crc.sumL_length {k : Nat} (h1 : 1 ≤ k) (h2 : k ≤ 2) (l : List UInt8) : (Crc.sumL k l).length = 2 * k := by
  have : k = 1 ∨ k = 2 := by omega
  rcases this with rfl | rfl
  · exact be_length _ _
  · exact be_length _ _
end Go.Proofs.Yticbopfacfmjfaa
