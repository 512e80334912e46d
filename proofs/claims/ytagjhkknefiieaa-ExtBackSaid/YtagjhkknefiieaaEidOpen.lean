/-
  An argument api.EID, opened; two numbers in a row.
-/
import Derived.Test.YtagjhkknefiieaaEid2
import Derived.Test.YtagjhkknefiieaaItOpen
import Derived.OpenShut
namespace Go.Proofs.Ytagjhkknefiieaa
open Go.ChangeShapes Go.WideShapes Go.ChangeAt Go.RowKit Go.Deep
set_option linter.unusedVariables false

section
variable {H : Type} {enc : TypeId × Value → H} {w : World} {base b0 : Nat} {spare : Nat → Bool} {held : Bool} {r : Reach}
set_option maxRecDepth 100000 in
theorem trod_eid {fuel : Nat} {cs : List Value} {x : DataW H × List MemPlace} (h : DataW.trod enc Try.prog w base spare held fuel 24 cs = some x) :
    ∃ e : EV, cs = [.int .i64 e.sch, str e.name, .int .u64 (e.node : Int), .int .u64 (e.svc : Int)] ∧ e.node < 18446744073709551616 ∧ e.svc < 18446744073709551616 ∧ (-9223372036854775808 ≤ e.sch ∧ e.sch ≤ 9223372036854775807) := by
  obtain ⟨ys, n', hn', hy, hlen, hyl, hfl⟩ := DataW.trod_struct Try.underlying24 h
  match cs, hlen with
  | [c0, c1, c2, c3], _ =>
    have h0 := field_at (by kernel_rfl) hfl (i := 0) rfl rfl
    have h1 := field_at (by kernel_rfl) hfl (i := 1) rfl rfl
    have h2 := field_at (by kernel_rfl) hfl (i := 2) rfl rfl
    have h3 := field_at (by kernel_rfl) hfl (i := 3) rfl rfl
    clear hfl h
    match ys, hyl with
    | [y0, y1, y2, y3], _ =>
      obtain ⟨sch, e0, _, w0⟩ := DataW.trod_int (k := .i64) (by kernel_rfl) h0
      obtain ⟨s, e1, _, _⟩ := DataW.trod_string (by kernel_rfl) h1
      obtain ⟨a, e2, _, w2⟩ := DataW.trod_int (k := .u64) (by kernel_rfl) h2
      obtain ⟨b, e3, _, w3⟩ := DataW.trod_int (k := .u64) (by kernel_rfl) h3
      have q0 : c0 = .int .i64 sch := by have : [c0] = [Value.int .i64 sch] := e0; simpa using this
      have q1 : c1 = .string s := by have : [c1] = [Value.string s] := e1; simpa using this
      have q2 : c2 = .int .u64 a := by have : [c2] = [Value.int .u64 a] := e2; simpa using this
      have q3 : c3 = .int .u64 b := by have : [c3] = [Value.int .u64 b] := e3; simpa using this
      subst q0 q1 q2 q3
      have b0 : -9223372036854775808 ≤ sch ∧ sch ≤ 9223372036854775807 := by simpa [Lit.wf, IntKind.min, IntKind.max, IntKind.signed, IntKind.bits] using w0
      have b2 : 0 ≤ a ∧ a ≤ 18446744073709551615 := by simpa [Lit.wf, IntKind.min, IntKind.max, IntKind.signed, IntKind.bits] using w2
      have b3 : 0 ≤ b ∧ b ≤ 18446744073709551615 := by simpa [Lit.wf, IntKind.min, IntKind.max, IntKind.signed, IntKind.bits] using w3
      obtain ⟨a, rfl⟩ := Int.eq_ofNat_of_zero_le b2.1
      obtain ⟨b, rfl⟩ := Int.eq_ofNat_of_zero_le b3.1
      exact ⟨⟨sch, s.data.toList, a, b⟩, rfl, by show a < _; omega, by show b < _; omega, b0⟩

set_option maxRecDepth 100000 in
theorem open_eid {v : Value} {d : DataW H} {p : List MemPlace} (hval : Value.okWide Try.prog w r b0 24 v) (h : DataW.Trod enc Try.prog w base spare held 24 v d p) :
    ∃ e : EV, v = e.v ∧ e.node < 18446744073709551616 ∧ e.svc < 18446744073709551616 ∧ (-9223372036854775808 ≤ e.sch ∧ e.sch ≤ 9223372036854775807) := by
  obtain ⟨cs, rfl, hsz⟩ := okWide_struct Try.underlying24 hval
  obtain ⟨fuel, hf⟩ := h
  have hcs : (Value.agg cs).cells.toList = cs.toList := rfl
  rw [hcs] at hf
  obtain ⟨e, he, h1, h2, h3⟩ := trod_eid hf
  refine ⟨e, ?_, h1, h2, h3⟩
  have : cs = (cs.toList).toArray := by simp
  rw [this, he]
theorem okWide_arr {P : Program} {t e : TypeId} {n : Nat} {v : Value} (ht : P.underlying t = some (.array n e)) (h : Value.okWide P w r base t v) : ∃ cs, v = .agg cs ∧ cs.size = P.cellsOf t := by
  simp only [Value.okWide, ht] at h
  obtain ⟨cs, h1, h2, _⟩ := h
  exact ⟨cs, h1, h2⟩
theorem two_ints {P : Program} {t e : TypeId} {k : IntKind} {fuel : Nat} {c0 c1 : Value} {x : DataW H × List MemPlace} (ht : P.underlying t = some (.array 2 e)) (he : P.underlying e = some (.int k)) (hC : P.cellsOf e = 1)
    (h : DataW.trod enc P w base spare held fuel t [c0, c1] = some x) : ∃ a b, c0 = .int k a ∧ c1 = .int k b ∧ (Lit.int k a).wf = true ∧ (Lit.int k b).wf = true := by
  obtain ⟨xs, m, _, _, _, hlen, hg⟩ := DataW.trod_array ht h
  have h0 := hg 0 (by omega)
  have h1 := hg 1 (by omega)
  rw [hC] at h0 h1
  match xs, hlen with
  | [y0, y1], _ =>
    obtain ⟨a, ha, _, hwa⟩ := DataW.trod_int (k := k) he h0
    obtain ⟨b, hb, _, hwb⟩ := DataW.trod_int (k := k) he h1
    exact ⟨a, b, by simpa using ha, by simpa using hb, hwa, hwb⟩
set_option maxRecDepth 100000 in
theorem open_two {v : Value} {d : DataW H} {p : List MemPlace} (hval : Value.okWide Try.prog w r b0 25 v) (h : DataW.Trod enc Try.prog w base spare held 25 v d p) :
    ∃ n0 n1 : Int, v = .agg #[.int .i64 n0, .int .i64 n1] := by
  obtain ⟨cs, rfl, hsz⟩ := okWide_arr Try.underlying25 hval
  have hC : Try.prog.cellsOf 25 = 2 := by kernel_rfl
  have hC1 : Try.prog.cellsOf 3 = 1 := by kernel_rfl
  rw [hC] at hsz
  obtain ⟨fuel, hf⟩ := h
  obtain ⟨l⟩ := cs
  match l, hsz with
  | [c0, c1], _ =>
    obtain ⟨a, b, rfl, rfl, wa, wb⟩ := two_ints Try.underlying25 Try.underlying3 hC1 (c0 := c0) (c1 := c1) (by simpa [Value.cells] using hf)
    exact ⟨a, b, rfl⟩
set_option maxRecDepth 100000 in
theorem open_two8 {v : Value} {d : DataW H} {p : List MemPlace} (hval : Value.okWide Try.prog w r b0 50 v) (h : DataW.Trod enc Try.prog w base spare held 50 v d p) :
    ∃ n0 n1 : Nat, v = .agg #[.int .u8 (n0 : Int), .int .u8 (n1 : Int)] ∧ n0 ≤ 255 ∧ n1 ≤ 255 := by
  obtain ⟨cs, rfl, hsz⟩ := okWide_arr Try.underlying50 hval
  have hC : Try.prog.cellsOf 50 = 2 := by kernel_rfl
  have hC1 : Try.prog.cellsOf 5 = 1 := by kernel_rfl
  rw [hC] at hsz
  obtain ⟨fuel, hf⟩ := h
  obtain ⟨l⟩ := cs
  match l, hsz with
  | [c0, c1], _ =>
    obtain ⟨a, b, rfl, rfl, wa, wb⟩ := two_ints Try.underlying50 Try.underlying5 hC1 (c0 := c0) (c1 := c1) (by simpa [Value.cells] using hf)
    have ba : 0 ≤ a ∧ a ≤ 255 := by simpa [Lit.wf, IntKind.min, IntKind.max, IntKind.signed, IntKind.bits] using wa
    have bb : 0 ≤ b ∧ b ≤ 255 := by simpa [Lit.wf, IntKind.min, IntKind.max, IntKind.signed, IntKind.bits] using wb
    obtain ⟨n, rfl⟩ := Int.eq_ofNat_of_zero_le ba.1
    obtain ⟨m, rfl⟩ := Int.eq_ofNat_of_zero_le bb.1
    exact ⟨n, m, rfl, by omega, by omega⟩
end
end Go.Proofs.Ytagjhkknefiieaa
