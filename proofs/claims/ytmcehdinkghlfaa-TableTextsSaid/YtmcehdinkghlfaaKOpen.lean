/-
  An argument []api.Key, opened: its cells are the numbers and the bytes of a list of keys.
-/
import Derived.Test.YtmcehdinkghlfaaKeys7
import Derived.Test.YtmcehdinkghlfaaLaw
import Derived.Deep.Slices
import Derived.Deep.Fields
import Derived.ChangeSame
namespace Go.Proofs.Ytmcehdinkghlfaa
open Go.ChangeShapes Go.WideShapes Go.ChangeAt Go.RowKit Go.Deep
set_option linter.unusedVariables false

section
variable {H : Type} {enc : TypeId × Value → H} {w : World} {base b0 : Nat} {spare : Nat → Bool} {held : Bool} {r : Reach}
/-- A field of one cell, read alone. -/
theorem field_at {P : Program} {fs : Array Field} {cs : List Value} {ys : List (DataW H × List MemPlace)} {n : Nat} (hone : oneCellFields P fs = true)
    (hfl : ∀ (i : Nat) (f : Field), fs[i]? = some f → DataW.trod enc P w base spare held n f.type ((cs.drop f.offset).take (P.cellsOf f.type)) = ys[i]?)
    {i : Nat} {f : Field} (h : fs[i]? = some f) {c : Value} (hc : cs[i]? = some c) : DataW.trod enc P w base spare held n f.type [c] = ys[i]? := by
  obtain ⟨ho, hk⟩ := hone_of hone i f h
  have := hfl i f h
  rw [ho, hk] at this
  obtain ⟨hlt, hv⟩ := List.getElem?_eq_some_iff.1 hc
  rw [List.drop_eq_getElem_cons hlt, hv] at this
  exact this

set_option maxRecDepth 100000 in
theorem open_keys {v : Value} {d : DataW H} {p : List MemPlace} (hval : Value.okWide Try.prog w r b0 24 v) (h : DataW.Trod enc Try.prog w base spare held 24 v d p) :
    ∃ (A : Option Addr) (cap : Nat) (zs : List (Int × List UInt8)), v = Value.slice A zs.length cap ∧ zs.length ≤ cap ∧ (A = none → zs = [] ∧ cap = 0) ∧ IsKeys w A zs := by
  obtain ⟨A, n, cap, rfl⟩ := okWide_slice Try.underlying24 hval
  obtain ⟨fuel, hf⟩ := h
  rcases open_slice Try.underlying24 hf with ⟨hcs, _⟩ | ⟨a, len, cap', m, f, D, Pl, hcs, hb, hl, hm, hmm, hx, hi⟩
  · simp [Value.cells] at hcs
    obtain ⟨rfl, rfl, rfl⟩ := hcs
    exact ⟨none, 0, [], rfl, Nat.le_refl _, fun _ => ⟨rfl, rfl⟩, fun h => absurd h (by simp)⟩
  · simp [Value.cells] at hcs
    obtain ⟨rfl, rfl, rfl⟩ := hcs
    have hC : Try.prog.cellsOf 37 = 2 := by kernel_rfl
    have hnm : n ≤ m := by rw [hmm]; split <;> omega
    have key : ∀ i, i < n → ∃ z : Key, w.cell? (a.add (i * 2)) = some (.int .i64 z.1) ∧ w.cell? ((a.add (i * 2)).add 1) = some (str z.2) := by
      intro i hin
      obtain ⟨cs', hc, ht⟩ := hi i (by omega)
      rw [hC] at hc
      obtain ⟨ys, n', hn', hy, hlen, hyl, hfl⟩ := DataW.trod_struct Try.underlying37 ht
      obtain ⟨_, hcl, hat⟩ := World.cells?_some hc
      match cs', hcl with
      | [c0, c1], _ =>
        have h0 := field_at (by kernel_rfl) hfl (i := 0) rfl rfl
        have h1 := field_at (by kernel_rfl) hfl (i := 1) rfl rfl
        match ys, hyl with
        | [y0, y1], _ =>
          obtain ⟨k, hk, _, hkw⟩ := DataW.trod_int (k := .i64) (by kernel_rfl) h0
          obtain ⟨s, hs, _, hsw⟩ := DataW.trod_string (by kernel_rfl) h1
          have e0 : c0 = .int .i64 k := by
            have : [c0] = [Value.int .i64 k] := hk
            simpa using this
          have e1 : c1 = .string s := by
            have : [c1] = [Value.string s] := hs
            simpa using this
          subst e0 e1
          exact ⟨(k, s.data.toList), by simpa [Addr.add] using hat 0 (by omega), by simpa using hat 1 (by omega)⟩
    have key2 : ∀ i, ∃ z : Key, i < n → w.cell? (a.add (i * 2)) = some (.int .i64 z.1) ∧ w.cell? ((a.add (i * 2)).add 1) = some (str z.2) := fun i => by
      by_cases hin : i < n
      · obtain ⟨z, h3, h4⟩ := key i hin
        exact ⟨z, fun _ => ⟨h3, h4⟩⟩
      · exact ⟨(0, []), fun h => absurd h hin⟩
    have hg0 : ∃ g : Nat → Key, ∀ i, i < n → w.cell? (a.add (i * 2)) = some (.int .i64 (g i).1) ∧ w.cell? ((a.add (i * 2)).add 1) = some (str (g i).2) :=
      ⟨fun i => Classical.choose (key2 i), fun i => Classical.choose_spec (key2 i)⟩
    obtain ⟨g, hg⟩ := hg0
    refine ⟨some a, cap, (List.range n).map g, by simp, by simpa using hl, fun h => (by cases h), fun h0 => ?_⟩
    have hn : 0 < n := by simpa using h0
    obtain ⟨z0, _⟩ := hg 0 hn
    have z1 : w.cell? a = some (.int .i64 (g 0).1) := by simpa [Addr.add] using z0
    have hs := World.cell?_spot z1
    obtain ⟨ab, ao, sp⟩ := a
    simp only at hs
    subst hs
    refine ⟨ab, ao, rfl, World.block_lt_of_cell? w _ z1, fun i hin => ?_⟩
    have hin' : i < n := by simpa using hin
    obtain ⟨g3, g4⟩ := hg i hin'
    rw [addr_add] at g3 g4
    rw [addr_add] at g4
    simp only [List.getElem_map, List.getElem_range]
    exact ⟨g3, g4⟩
end
end Go.Proofs.Ytmcehdinkghlfaa
