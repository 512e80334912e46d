/-
  Blocks, plainly: why one is not right; its header.
-/
import Derived.Test.YticbopfacfmjfaaPlain01
namespace Go.Proofs.Yticbopfacfmjfaa
set_option linter.unusedVariables false

/-- A block: its type, number, flags, kind of sum, and data. -/
structure BV where
  ty : Int
  num : Int
  fl : Nat
  crc : Int
  data : List UInt8
/-- Why it is not right. -/
def BV.right (b : BV) : Int :=
  if b.ty < 1 ∨ 65535 < b.ty ∨ b.num < 1 ∨ 65535 < b.num ∨ 255 < b.fl ∨ b.crc < 0 ∨ 2 < b.crc then 1 else if 4000 < b.data.length then 4
  else if (b.ty = 1 ∧ b.num ≠ 1) ∨ (b.ty ≠ 1 ∧ b.num = 1) then 8 else 0
def BV.hdr (b : BV) : List UInt8 := headL 0 b.ty.toNat ++ headL 0 b.num.toNat ++ headL 0 b.fl

theorem BV.right_zero {b : BV} (h : b.right = 0) : 1 ≤ b.ty ∧ b.ty ≤ 65535 ∧ 1 ≤ b.num ∧ b.num ≤ 65535 ∧ b.fl ≤ 255 ∧ 0 ≤ b.crc ∧ b.crc ≤ 2 ∧ b.data.length ≤ 4000 ∧ (b.ty = 1 ↔ b.num = 1) := by
  unfold BV.right at h
  split at h
  · omega
  · split at h
    · omega
    · split at h
      · omega
      · omega
theorem headL_inj {a b : Nat} (ha : a < 18446744073709551616) (hb : b < 18446744073709551616) {s t : List UInt8} (h : headL 0 a ++ s = headL 0 b ++ t) : a = b ∧ s = t := by
  have h1 := readH_head (m := 0) (by omega) ha s
  rw [h, readH_head (m := 0) (by omega) hb t] at h1
  simp only [Option.some.injEq, Prod.mk.injEq] at h1
  obtain ⟨_, _, rfl, _⟩ := h1
  exact ⟨rfl, List.append_cancel_left h⟩
theorem BV.hdr_eq {b c : BV} (hb : b.right = 0) (hc : c.right = 0) : b.hdr = c.hdr ↔ b.ty = c.ty ∧ b.num = c.num ∧ b.fl = c.fl := by
  have h1 := right_zero hb
  have h2 := right_zero hc
  constructor
  · intro h
    unfold BV.hdr at h
    simp only [List.append_assoc] at h
    obtain ⟨e1, h⟩ := headL_inj (by omega) (by omega) h
    obtain ⟨e2, h⟩ := headL_inj (by omega) (by omega) h
    obtain ⟨e3, _⟩ := headL_inj (a := b.fl) (b := c.fl) (s := []) (t := []) (by omega) (by omega) (by simpa using h)
    exact ⟨by omega, by omega, e3⟩
  · rintro ⟨e1, e2, e3⟩
    simp only [BV.hdr, e1, e2, e3]
theorem BV.hdr_ne (b : BV) : b.hdr ≠ [] := by
  intro h
  have h0 := headL_pos 0 b.ty.toNat
  have h1 : b.hdr.length = 0 := by rw [h]; rfl
  simp only [BV.hdr, List.length_append] at h1
  omega
end Go.Proofs.Yticbopfacfmjfaa
