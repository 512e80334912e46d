/-
  The arguments [2]uint32 and [][2]uint8, opened.
-/
import Derived.Test.YtmcehdinkghlfaaKeys9
import Derived.Test.YtmcehdinkghlfaaKOpen
import Derived.OpenShut
namespace Go.Proofs.Ytmcehdinkghlfaa
open Go.ChangeShapes Go.WideShapes Go.ChangeAt Go.RowKit Go.Deep
set_option linter.unusedVariables false

section
variable {H : Type} {enc : TypeId × Value → H} {w : World} {base b0 : Nat} {spare : Nat → Bool} {held : Bool} {r : Reach}

theorem okWide_arr {P : Program} {t e : TypeId} {n : Nat} {v : Value} (ht : P.underlying t = some (.array n e)) (h : Value.okWide P w r base t v) : ∃ cs, v = .agg cs ∧ cs.size = P.cellsOf t := by
  simp only [Value.okWide, ht] at h
  obtain ⟨cs, h1, h2, _⟩ := h
  exact ⟨cs, h1, h2⟩

/-- Two integers in an array, read from their cells. -/
theorem two_ints {P : Program} {t e : TypeId} {k : IntKind} {fuel : Nat} {c0 c1 : Value} {x : DataW H × List MemPlace} (ht : P.underlying t = some (.array 2 e)) (he : P.underlying e = some (.int k)) (hC : P.cellsOf e = 1)
    (h : DataW.trod enc P w base spare held fuel t [c0, c1] = some x) : ∃ a b, c0 = .int k a ∧ c1 = .int k b ∧ (Lit.int k a).wf = true ∧ (Lit.int k b).wf = true := by
  obtain ⟨xs, m, _, _, _, hlen, hg⟩ := DataW.trod_array ht h
  have h0 := hg 0 (by omega)
  have h1 := hg 1 (by omega)
  rw [hC] at h0 h1
  match xs, hlen with
  | [y0, y1], _ =>
    obtain ⟨a, ha, _, hwa⟩ := DataW.trod_int (k := k) he h0
    obtain ⟨b, hb, _, hwb⟩ := DataW.trod_int (k := k) he h1
    exact ⟨a, b, by simpa using ha, by simpa using hb, hwa, hwb⟩

set_option maxRecDepth 100000 in
theorem open_nodes {v : Value} {d : DataW H} {p : List MemPlace} (hval : Value.okWide Try.prog w r b0 23 v) (h : DataW.Trod enc Try.prog w base spare held 23 v d p) :
    ∃ n0 n1 : Nat, v = .agg #[.int .u32 (n0 : Int), .int .u32 (n1 : Int)] ∧ n0 ≤ 4294967295 ∧ n1 ≤ 4294967295 := by
  obtain ⟨cs, rfl, hsz⟩ := okWide_arr Try.underlying23 hval
  have hC : Try.prog.cellsOf 23 = 2 := by kernel_rfl
  have hC1 : Try.prog.cellsOf 22 = 1 := by kernel_rfl
  rw [hC] at hsz
  obtain ⟨fuel, hf⟩ := h
  obtain ⟨l⟩ := cs
  match l, hsz with
  | [c0, c1], _ =>
    obtain ⟨a, b, rfl, rfl, wa, wb⟩ := two_ints Try.underlying23 Try.underlying22 hC1 (c0 := c0) (c1 := c1) (by simpa [Value.cells] using hf)
    have ba : 0 ≤ a ∧ a ≤ 4294967295 := by simpa [Lit.wf, IntKind.min, IntKind.max, IntKind.signed, IntKind.bits] using wa
    have bb : 0 ≤ b ∧ b ≤ 4294967295 := by simpa [Lit.wf, IntKind.min, IntKind.max, IntKind.signed, IntKind.bits] using wb
    obtain ⟨n, rfl⟩ := Int.eq_ofNat_of_zero_le ba.1
    obtain ⟨m, rfl⟩ := Int.eq_ofNat_of_zero_le bb.1
    exact ⟨n, m, rfl, by omega, by omega⟩

set_option maxRecDepth 100000 in
theorem open_pairs {v : Value} {d : DataW H} {p : List MemPlace} (hval : Value.okWide Try.prog w r b0 25 v) (h : DataW.Trod enc Try.prog w base spare held 25 v d p) :
    ∃ (A : Option Addr) (cap : Nat) (zs : List (Nat × Nat)), v = Value.slice A zs.length cap ∧ IsPairs w A zs := by
  obtain ⟨A, n, cap, rfl⟩ := okWide_slice Try.underlying25 hval
  obtain ⟨fuel, hf⟩ := h
  rcases open_slice Try.underlying25 hf with ⟨hcs, _⟩ | ⟨a, len, cap', m, f, D, Pl, hcs, hb, hl, hm, hmm, hx, hi⟩
  · simp [Value.cells] at hcs
    obtain ⟨rfl, rfl, rfl⟩ := hcs
    exact ⟨none, 0, [], rfl, fun h => absurd h (by simp)⟩
  · simp [Value.cells] at hcs
    obtain ⟨rfl, rfl, rfl⟩ := hcs
    have hC : Try.prog.cellsOf 35 = 2 := by kernel_rfl
    have hC1 : Try.prog.cellsOf 5 = 1 := by kernel_rfl
    have hnm : n ≤ m := by rw [hmm]; split <;> omega
    have key : ∀ i, i < n → ∃ z : Nat × Nat, z.1 < 256 ∧ z.2 < 256 ∧ w.cell? (a.add (i * 2)) = some (.int .u8 (z.1 : Int)) ∧ w.cell? ((a.add (i * 2)).add 1) = some (.int .u8 (z.2 : Int)) := by
      intro i hin
      obtain ⟨cs', hc, ht⟩ := hi i (by omega)
      rw [hC] at hc
      obtain ⟨_, hcl, hat⟩ := World.cells?_some hc
      match cs', hcl with
      | [c0, c1], _ =>
        obtain ⟨x, y, rfl, rfl, wx, wy⟩ := two_ints Try.underlying35 Try.underlying5 hC1 ht
        have bx : 0 ≤ x ∧ x ≤ 255 := by simpa [Lit.wf, IntKind.min, IntKind.max, IntKind.signed, IntKind.bits] using wx
        have hby : 0 ≤ y ∧ y ≤ 255 := by simpa [Lit.wf, IntKind.min, IntKind.max, IntKind.signed, IntKind.bits] using wy
        obtain ⟨x, rfl⟩ := Int.eq_ofNat_of_zero_le bx.1
        obtain ⟨y, rfl⟩ := Int.eq_ofNat_of_zero_le hby.1
        exact ⟨(x, y), by simp only; omega, by simp only; omega, by simpa [Addr.add] using hat 0 (by omega), by simpa using hat 1 (by omega)⟩
    have key2 : ∀ i, ∃ z : Nat × Nat, i < n → z.1 < 256 ∧ z.2 < 256 ∧ w.cell? (a.add (i * 2)) = some (.int .u8 (z.1 : Int)) ∧ w.cell? ((a.add (i * 2)).add 1) = some (.int .u8 (z.2 : Int)) := fun i => by
      by_cases hin : i < n
      · obtain ⟨z, h3⟩ := key i hin
        exact ⟨z, fun _ => h3⟩
      · exact ⟨(0, 0), fun h => absurd h hin⟩
    have hg0 : ∃ g : Nat → Nat × Nat, ∀ i, i < n → (g i).1 < 256 ∧ (g i).2 < 256 ∧ w.cell? (a.add (i * 2)) = some (.int .u8 ((g i).1 : Int)) ∧ w.cell? ((a.add (i * 2)).add 1) = some (.int .u8 ((g i).2 : Int)) :=
      ⟨fun i => Classical.choose (key2 i), fun i => Classical.choose_spec (key2 i)⟩
    obtain ⟨g, hg⟩ := hg0
    refine ⟨some a, cap, (List.range n).map g, by simp, fun h0 => ?_⟩
    have hn : 0 < n := by simpa using h0
    obtain ⟨_, _, z0, _⟩ := hg 0 hn
    have z1 : w.cell? a = some (.int .u8 ((g 0).1 : Int)) := by simpa [Addr.add] using z0
    have hs := World.cell?_spot z1
    obtain ⟨ab, ao, sp⟩ := a
    simp only at hs
    subst hs
    refine ⟨ab, ao, rfl, World.block_lt_of_cell? w _ z1, fun i hin => ?_⟩
    have hin' : i < n := by simpa using hin
    obtain ⟨g1, g2, g3, g4⟩ := hg i hin'
    rw [addr_add] at g3 g4
    rw [addr_add] at g4
    simp only [List.getElem_map, List.getElem_range]
    exact ⟨g1, g2, g3, g4⟩
end
end Go.Proofs.Ytmcehdinkghlfaa
