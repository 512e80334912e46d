/-
  The argument []int, opened.
-/
import Derived.Test.YtmcehdinkghlfaaKeys12
import Derived.Test.YtmcehdinkghlfaaKOpen
namespace Go.Proofs.Ytmcehdinkghlfaa
open Go.ChangeShapes Go.WideShapes Go.ChangeAt Go.RowKit Go.Deep
set_option linter.unusedVariables false

section
variable {H : Type} {enc : TypeId × Value → H} {w : World} {base b0 : Nat} {spare : Nat → Bool} {held : Bool} {r : Reach}

set_option maxRecDepth 100000 in
theorem open_ids {v : Value} {d : DataW H} {p : List MemPlace} (hval : Value.okWide Try.prog w r b0 41 v) (h : DataW.Trod enc Try.prog w base spare held 41 v d p) :
    ∃ (A : Option Addr) (cap : Nat) (xs : List Int), v = Value.slice A xs.length cap ∧ (∀ x ∈ xs, InI x) ∧ IsInts w A xs := by
  obtain ⟨A, n, cap, rfl⟩ := okWide_slice Try.underlying41 hval
  obtain ⟨fuel, hf⟩ := h
  rcases open_slice Try.underlying41 hf with ⟨hcs, _⟩ | ⟨a, len, cap', m, f, D, Pl, hcs, hb, hl, hm, hmm, hx, hi⟩
  · simp [Value.cells] at hcs
    obtain ⟨rfl, rfl, rfl⟩ := hcs
    exact ⟨none, 0, [], rfl, by simp, fun h => absurd h (by simp)⟩
  · simp [Value.cells] at hcs
    obtain ⟨rfl, rfl, rfl⟩ := hcs
    have hC : Try.prog.cellsOf 3 = 1 := by kernel_rfl
    have hnm : n ≤ m := by rw [hmm]; split <;> omega
    have key : ∀ i, i < n → ∃ x : Int, InI x ∧ w.cell? (a.add i) = some (.int .i64 x) := by
      intro i hin
      obtain ⟨cs', hc, ht⟩ := hi i (by omega)
      rw [hC] at hc
      obtain ⟨_, hcl, hat⟩ := World.cells?_some hc
      match cs', hcl with
      | [c0], _ =>
        obtain ⟨x, hx, _, hw⟩ := DataW.trod_int (k := .i64) Try.underlying3 ht
        have e0 : c0 = .int .i64 x := by simpa using hx
        subst e0
        have bx : -9223372036854775808 ≤ x ∧ x ≤ 9223372036854775807 := by simpa [Lit.wf, IntKind.min, IntKind.max, IntKind.signed, IntKind.bits] using hw
        exact ⟨x, bx, by simpa [Addr.add] using hat 0 (by omega)⟩
    have key2 : ∀ i, ∃ x : Int, i < n → InI x ∧ w.cell? (a.add i) = some (.int .i64 x) := fun i => by
      by_cases hin : i < n
      · obtain ⟨z, h3⟩ := key i hin
        exact ⟨z, fun _ => h3⟩
      · exact ⟨0, fun h => absurd h hin⟩
    have hg0 : ∃ g : Nat → Int, ∀ i, i < n → InI (g i) ∧ w.cell? (a.add i) = some (.int .i64 (g i)) :=
      ⟨fun i => Classical.choose (key2 i), fun i => Classical.choose_spec (key2 i)⟩
    obtain ⟨g, hg⟩ := hg0
    refine ⟨some a, cap, (List.range n).map g, by simp, fun x hx => ?_, fun h0 => ?_⟩
    · simp at hx
      obtain ⟨i, hi, rfl⟩ := hx
      exact (hg i hi).1
    · have hn : 0 < n := by simpa using h0
      obtain ⟨_, z0⟩ := hg 0 hn
      have z1 : w.cell? a = some (.int .i64 (g 0)) := by simpa [Addr.add] using z0
      have hs := World.cell?_spot z1
      obtain ⟨ab, ao, sp⟩ := a
      simp only at hs
      subst hs
      refine ⟨ab, ao, rfl, World.block_lt_of_cell? w _ z1, fun i hin => ?_⟩
      have hin' : i < n := by simpa using hin
      obtain ⟨_, g3⟩ := hg i hin'
      rw [addr_add] at g3
      simp only [List.getElem_map, List.getElem_range]
      exact g3
end
end Go.Proofs.Ytmcehdinkghlfaa
