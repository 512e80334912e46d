/-
  An argument []dromondref01.Op, opened: its cells are the kinds and the numbers of a list of calls.
-/
import Derived.Test.YtmekhofncflhaaaReads
import Derived.Test.YtmekhofncflhaaaLaw
import Derived.Deep.Slices
import Derived.Deep.Fields
import Derived.ChangeSame
namespace Go.Proofs.Ytmekhofncflhaaa
open Go.ChangeShapes Go.WideShapes Go.ChangeAt Go.RowKit Go.Deep
set_option linter.unusedVariables false

section
variable {H : Type} {enc : TypeId × Value → H} {w : World} {base b0 : Nat} {spare : Nat → Bool} {held : Bool} {r : Reach}
/-- A field of one cell, read alone. -/
theorem field_at {P : Program} {fs : Array Field} {cs : List Value} {ys : List (DataW H × List MemPlace)} {n : Nat} (hone : oneCellFields P fs = true)
    (hfl : ∀ (i : Nat) (f : Field), fs[i]? = some f → DataW.trod enc P w base spare held n f.type ((cs.drop f.offset).take (P.cellsOf f.type)) = ys[i]?)
    {i : Nat} {f : Field} (h : fs[i]? = some f) {c : Value} (hc : cs[i]? = some c) : DataW.trod enc P w base spare held n f.type [c] = ys[i]? := by
  obtain ⟨ho, hk⟩ := hone_of hone i f h
  have := hfl i f h
  rw [ho, hk] at this
  obtain ⟨hlt, hv⟩ := List.getElem?_eq_some_iff.1 hc
  rw [List.drop_eq_getElem_cons hlt, hv] at this
  exact this

theorem open_ops {v : Value} {d : DataW H} {p : List MemPlace} (hval : Value.okWide Try.prog w r b0 42 v) (h : DataW.Trod enc Try.prog w base spare held 42 v d p) :
    ∃ A n cap, v = .slice A n cap ∧ n ≤ maxLen ∧ ∃ xs : List (Nat × Int), xs.length = n ∧ IsOps w A xs := by
  obtain ⟨A, n, cap, rfl⟩ := okWide_slice Try.underlying42 hval
  obtain ⟨fuel, hf⟩ := h
  refine ⟨A, n, cap, rfl, ?_⟩
  rcases open_slice Try.underlying42 hf with ⟨hcs, _⟩ | ⟨a, len, cap', m, f, D, Pl, hcs, hb, hl, hm, hmm, hx, hi⟩
  · simp [Value.cells] at hcs
    obtain ⟨rfl, rfl, rfl⟩ := hcs
    exact ⟨Nat.zero_le _, [], rfl, fun h => absurd h (by simp)⟩
  · simp [Value.cells] at hcs
    obtain ⟨rfl, rfl, rfl⟩ := hcs
    refine ⟨Nat.le_trans hl hm, ?_⟩
    have hC : Try.prog.cellsOf 51 = 2 := by kernel_rfl
    have hnm : n ≤ m := by rw [hmm]; split <;> omega
    have key : ∀ i, i < n → ∃ (k : Nat) (N : Int), k < 256 ∧ N < 9223372036854775808 ∧ w.cell? (a.add (i * 2)) = some (.int .u8 (k : Int)) ∧ w.cell? ((a.add (i * 2)).add 1) = some (.int .i64 N) := by
      intro i hin
      obtain ⟨cs', hc, ht⟩ := hi i (by omega)
      rw [hC] at hc
      obtain ⟨ys, n', hn', hy, hlen, hyl, hfl⟩ := DataW.trod_struct Try.underlying51 ht
      obtain ⟨_, hcl, hat⟩ := World.cells?_some hc
      match cs', hcl with
      | [c0, c1], _ =>
        have h0 := field_at (by kernel_rfl) hfl (i := 0) rfl rfl
        have h1 := field_at (by kernel_rfl) hfl (i := 1) rfl rfl
        match ys, hyl with
        | [y0, y1], _ =>
          obtain ⟨k, hk, _, hkw⟩ := DataW.trod_int (k := .u8) (by kernel_rfl) h0
          obtain ⟨N, hN, _, hNw⟩ := DataW.trod_int (k := .i64) (by kernel_rfl) h1
          have e0 : c0 = .int .u8 k := by
            have : [c0] = [Value.int .u8 k] := hk
            simpa using this
          have e1 : c1 = .int .i64 N := by
            have : [c1] = [Value.int .i64 N] := hN
            simpa using this
          subst e0 e1
          have b0 : 0 ≤ k ∧ k ≤ 255 := by simpa [Lit.wf, IntKind.min, IntKind.max, IntKind.signed, IntKind.bits] using hkw
          have b1 : -9223372036854775808 ≤ N ∧ N ≤ 9223372036854775807 := by simpa [Lit.wf, IntKind.min, IntKind.max, IntKind.signed, IntKind.bits] using hNw
          obtain ⟨q, rfl⟩ := Int.eq_ofNat_of_zero_le b0.1
          exact ⟨q, N, by omega, by omega, by simpa [Addr.add] using hat 0 (by omega), by simpa using hat 1 (by omega)⟩
    have key2 : ∀ i, ∃ x : Nat × Int, i < n → x.1 < 256 ∧ x.2 < 9223372036854775808 ∧ w.cell? (a.add (i * 2)) = some (.int .u8 (x.1 : Int)) ∧ w.cell? ((a.add (i * 2)).add 1) = some (.int .i64 x.2) := fun i => by
      by_cases hin : i < n
      · obtain ⟨k, N, h1, h2, h3, h4⟩ := key i hin
        exact ⟨(k, N), fun _ => ⟨h1, h2, h3, h4⟩⟩
      · exact ⟨(0, 0), fun h => absurd h hin⟩
    let g : Nat → Nat × Int := fun i => Classical.choose (key2 i)
    have hg : ∀ i, i < n → (g i).1 < 256 ∧ (g i).2 < 9223372036854775808 ∧ w.cell? (a.add (i * 2)) = some (.int .u8 ((g i).1 : Int)) ∧ w.cell? ((a.add (i * 2)).add 1) = some (.int .i64 (g i).2) := fun i => Classical.choose_spec (key2 i)
    refine ⟨(List.range n).map g, by simp, fun h0 => ?_⟩
    have hn : 0 < n := by simpa using h0
    obtain ⟨_, _, z0, _⟩ := hg 0 hn
    have z1 : w.cell? a = some (.int .u8 ((g 0).1 : Int)) := by simpa [Addr.add] using z0
    have hs := World.cell?_spot z1
    obtain ⟨ab, ao, sp⟩ := a
    simp only at hs
    subst hs
    refine ⟨ab, ao, rfl, World.block_lt_of_cell? w _ z1, fun i hin => ?_⟩
    have hin' : i < n := by simpa using hin
    obtain ⟨g1, g2, g3, g4⟩ := hg i hin'
    rw [addr_add] at g3 g4
    rw [addr_add] at g4
    simp only [List.getElem_map, List.getElem_range]
    exact ⟨g1, g2, g3, g4⟩
end
end Go.Proofs.Ytmekhofncflhaaa
