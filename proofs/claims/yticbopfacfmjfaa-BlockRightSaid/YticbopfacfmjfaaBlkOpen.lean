/-
  An argument api.Block, opened: its five cells.
-/
import Derived.Test.YticbopfacfmjfaaBlk1
import Derived.Test.YticbopfacfmjfaaItOpen
namespace Go.Proofs.Yticbopfacfmjfaa
open Go.ChangeShapes Go.WideShapes Go.ChangeAt Go.RowKit Go.Deep
set_option linter.unusedVariables false

section
variable {H : Type} {enc : TypeId × Value → H} {w : World} {base b0 : Nat} {spare : Nat → Bool} {held : Bool} {r : Reach}
set_option maxRecDepth 100000 in
theorem open_block {v : Value} {d : DataW H} {p : List MemPlace} (hval : Value.okWide Try.prog w r b0 24 v) (h : DataW.Trod enc Try.prog w base spare held 24 v d p) :
    ∃ b : BV, v = b.v ∧ (-9223372036854775808 ≤ b.ty ∧ b.ty ≤ 9223372036854775807) ∧ (-9223372036854775808 ≤ b.num ∧ b.num ≤ 9223372036854775807) ∧ b.fl < 18446744073709551616 ∧ (-9223372036854775808 ≤ b.crc ∧ b.crc ≤ 9223372036854775807) := by
  obtain ⟨cs, rfl, hsz⟩ := okWide_struct Try.underlying24 hval
  obtain ⟨fuel, hf⟩ := h
  obtain ⟨ys, n', hn', hy, hlen, hyl, hfl⟩ := DataW.trod_struct Try.underlying24 hf
  have hcs : (Value.agg cs).cells.toList = cs.toList := rfl
  rw [hcs] at hlen hfl
  obtain ⟨L, hL⟩ : ∃ L, L = cs.toList := ⟨_, rfl⟩
  rw [← hL] at hlen hfl
  have hcsL : cs = L.toArray := by rw [hL]
  subst hcsL
  clear hL hcs hf hval hsz
  match L, hlen with
  | [c0, c1, c2, c3, c4], _ =>
    have h0 := field_at (by kernel_rfl) hfl (i := 0) rfl rfl
    have h1 := field_at (by kernel_rfl) hfl (i := 1) rfl rfl
    have h2 := field_at (by kernel_rfl) hfl (i := 2) rfl rfl
    have h3 := field_at (by kernel_rfl) hfl (i := 3) rfl rfl
    have h4 := field_at (by kernel_rfl) hfl (i := 4) rfl rfl
    clear hfl
    match ys, hyl with
    | [y0, y1, y2, y3, y4], _ =>
      obtain ⟨ty, e0, _, w0⟩ := DataW.trod_int (k := .i64) (by kernel_rfl) h0
      obtain ⟨num, e1, _, w1⟩ := DataW.trod_int (k := .i64) (by kernel_rfl) h1
      obtain ⟨fl, e2, _, w2⟩ := DataW.trod_int (k := .u64) (by kernel_rfl) h2
      obtain ⟨crc, e3, _, w3⟩ := DataW.trod_int (k := .i64) (by kernel_rfl) h3
      obtain ⟨s, e4, _, _⟩ := DataW.trod_string (by kernel_rfl) h4
      have q0 : c0 = .int .i64 ty := by have : [c0] = [Value.int .i64 ty] := e0; simpa using this
      have q1 : c1 = .int .i64 num := by have : [c1] = [Value.int .i64 num] := e1; simpa using this
      have q2 : c2 = .int .u64 fl := by have : [c2] = [Value.int .u64 fl] := e2; simpa using this
      have q3 : c3 = .int .i64 crc := by have : [c3] = [Value.int .i64 crc] := e3; simpa using this
      have q4 : c4 = .string s := by have : [c4] = [Value.string s] := e4; simpa using this
      subst q0 q1 q2 q3 q4
      have b0 : -9223372036854775808 ≤ ty ∧ ty ≤ 9223372036854775807 := by simpa [Lit.wf, IntKind.min, IntKind.max, IntKind.signed, IntKind.bits] using w0
      have b1 : -9223372036854775808 ≤ num ∧ num ≤ 9223372036854775807 := by simpa [Lit.wf, IntKind.min, IntKind.max, IntKind.signed, IntKind.bits] using w1
      have b2 : 0 ≤ fl ∧ fl ≤ 18446744073709551615 := by simpa [Lit.wf, IntKind.min, IntKind.max, IntKind.signed, IntKind.bits] using w2
      have b3 : -9223372036854775808 ≤ crc ∧ crc ≤ 9223372036854775807 := by simpa [Lit.wf, IntKind.min, IntKind.max, IntKind.signed, IntKind.bits] using w3
      obtain ⟨fl, rfl⟩ := Int.eq_ofNat_of_zero_le b2.1
      exact ⟨⟨ty, num, fl, crc, s.data.toList⟩, rfl, b0, b1, by show fl < _; omega, b3⟩
end
end Go.Proofs.Yticbopfacfmjfaa
