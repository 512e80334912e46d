/-
  The arguments []dromondref03.Op and []string, opened.
-/
import Derived.Test.YtmcehdinkghlfaaTabTexts
import Derived.Test.YtmcehdinkghlfaaKOpen
namespace Go.Proofs.Ytmcehdinkghlfaa
open Go.ChangeShapes Go.WideShapes Go.ChangeAt Go.RowKit Go.Deep
set_option linter.unusedVariables false

section
variable {H : Type} {enc : TypeId × Value → H} {w : World} {base b0 : Nat} {spare : Nat → Bool} {held : Bool} {r : Reach}

set_option maxRecDepth 100000 in
theorem open_strs {v : Value} {d : DataW H} {p : List MemPlace} (hval : Value.okWide Try.prog w r b0 34 v) (h : DataW.Trod enc Try.prog w base spare held 34 v d p) :
    ∃ (A : Option Addr) (cap : Nat) (xs : List (List UInt8)), v = Value.slice A xs.length cap ∧ IsStrs w A xs := by
  obtain ⟨A, n, cap, rfl⟩ := okWide_slice Try.underlying34 hval
  obtain ⟨fuel, hf⟩ := h
  rcases open_slice Try.underlying34 hf with ⟨hcs, _⟩ | ⟨a, len, cap', m, f, D, Pl, hcs, hb, hl, hm, hmm, hx, hi⟩
  · simp [Value.cells] at hcs
    obtain ⟨rfl, rfl, rfl⟩ := hcs
    exact ⟨none, 0, [], rfl, fun h => absurd h (by simp)⟩
  · simp [Value.cells] at hcs
    obtain ⟨rfl, rfl, rfl⟩ := hcs
    have hC : Try.prog.cellsOf 9 = 1 := by kernel_rfl
    have hnm : n ≤ m := by rw [hmm]; split <;> omega
    have key : ∀ i, i < n → ∃ x : List UInt8, w.cell? (a.add i) = some (str x) := by
      intro i hin
      obtain ⟨cs', hc, ht⟩ := hi i (by omega)
      rw [hC] at hc
      obtain ⟨_, hcl, hat⟩ := World.cells?_some hc
      match cs', hcl with
      | [c0], _ =>
        obtain ⟨x, hx, _, hw⟩ := DataW.trod_string Try.underlying9 ht
        have e0 : c0 = .string x := by simpa using hx
        subst e0
        exact ⟨x.data.toList, by simpa [Addr.add, str] using hat 0 (by omega)⟩
    have key2 : ∀ i, ∃ x : List UInt8, i < n → w.cell? (a.add i) = some (str x) := fun i => by
      by_cases hin : i < n
      · obtain ⟨z, h3⟩ := key i hin
        exact ⟨z, fun _ => h3⟩
      · exact ⟨[], fun h => absurd h hin⟩
    have hg0 : ∃ g : Nat → List UInt8, ∀ i, i < n → w.cell? (a.add i) = some (str (g i)) :=
      ⟨fun i => Classical.choose (key2 i), fun i => Classical.choose_spec (key2 i)⟩
    obtain ⟨g, hg⟩ := hg0
    refine ⟨some a, cap, (List.range n).map g, by simp, fun h0 => ?_⟩
    have hn : 0 < n := by simpa using h0
    have z0 := hg 0 hn
    have z1 : w.cell? a = some (str (g 0)) := by simpa [Addr.add] using z0
    have hs := World.cell?_spot z1
    obtain ⟨ab, ao, sp⟩ := a
    simp only at hs
    subst hs
    refine ⟨ab, ao, rfl, World.block_lt_of_cell? w _ z1, fun i hin => ?_⟩
    have hin' : i < n := by simpa using hin
    have g3 := hg i hin'
    rw [addr_add] at g3
    simp only [List.getElem_map, List.getElem_range]
    exact g3

set_option maxRecDepth 100000 in
theorem open_ops3 {v : Value} {d : DataW H} {p : List MemPlace} (hval : Value.okWide Try.prog w r b0 51 v) (h : DataW.Trod enc Try.prog w base spare held 51 v d p) :
    ∃ A cap, ∃ xs : List (Nat × Int), v = .slice A xs.length cap ∧ IsOps3 w A xs := by
  obtain ⟨A, n, cap, rfl⟩ := okWide_slice Try.underlying51 hval
  obtain ⟨fuel, hf⟩ := h
  refine ⟨A, cap, ?_⟩
  rcases open_slice Try.underlying51 hf with ⟨hcs, _⟩ | ⟨a, len, cap', m, f, D, Pl, hcs, hb, hl, hm, hmm, hx, hi⟩
  · simp [Value.cells] at hcs
    obtain ⟨rfl, rfl, rfl⟩ := hcs
    exact ⟨[], rfl, fun h => absurd h (by simp)⟩
  · simp [Value.cells] at hcs
    obtain ⟨rfl, rfl, rfl⟩ := hcs
    have hC : Try.prog.cellsOf 57 = 3 := by kernel_rfl
    have hnm : n ≤ m := by rw [hmm]; split <;> omega
    have key : ∀ i, i < n → ∃ (k : Nat) (N : Int), k < 256 ∧ w.cell? (a.add (i * 3)) = some (.int .u8 (k : Int)) ∧ w.cell? ((a.add (i * 3)).add 1) = some (.int .i64 N) := by
      intro i hin
      obtain ⟨cs', hc, ht⟩ := hi i (by omega)
      rw [hC] at hc
      obtain ⟨ys, n', hn', hy, hlen, hyl, hfl⟩ := DataW.trod_struct Try.underlying57 ht
      obtain ⟨_, hcl, hat⟩ := World.cells?_some hc
      match cs', hcl with
      | [c0, c1, c2], _ =>
        have h0 := field_at (by kernel_rfl) hfl (i := 0) rfl rfl
        have h1 := field_at (by kernel_rfl) hfl (i := 1) rfl rfl
        match ys, hyl with
        | [y0, y1, y2], _ =>
          obtain ⟨k, hk, _, hkw⟩ := DataW.trod_int (k := .u8) (by kernel_rfl) h0
          obtain ⟨N, hN, _, hNw⟩ := DataW.trod_int (k := .i64) (by kernel_rfl) h1
          have e0 : c0 = .int .u8 k := by
            have : [c0] = [Value.int .u8 k] := hk
            simpa using this
          have e1 : c1 = .int .i64 N := by
            have : [c1] = [Value.int .i64 N] := hN
            simpa using this
          subst e0 e1
          have b0 : 0 ≤ k ∧ k ≤ 255 := by simpa [Lit.wf, IntKind.min, IntKind.max, IntKind.signed, IntKind.bits] using hkw
          obtain ⟨q, rfl⟩ := Int.eq_ofNat_of_zero_le b0.1
          exact ⟨q, N, by omega, by simpa [Addr.add] using hat 0 (by omega), by simpa using hat 1 (by omega)⟩
    have key2 : ∀ i, ∃ x : Nat × Int, i < n → x.1 < 256 ∧ w.cell? (a.add (i * 3)) = some (.int .u8 (x.1 : Int)) ∧ w.cell? ((a.add (i * 3)).add 1) = some (.int .i64 x.2) := fun i => by
      by_cases hin : i < n
      · obtain ⟨k, N, h1, h3, h4⟩ := key i hin
        exact ⟨(k, N), fun _ => ⟨h1, h3, h4⟩⟩
      · exact ⟨(0, 0), fun h => absurd h hin⟩
    have hg0 : ∃ g : Nat → Nat × Int, ∀ i, i < n → (g i).1 < 256 ∧ w.cell? (a.add (i * 3)) = some (.int .u8 ((g i).1 : Int)) ∧ w.cell? ((a.add (i * 3)).add 1) = some (.int .i64 (g i).2) :=
      ⟨fun i => Classical.choose (key2 i), fun i => Classical.choose_spec (key2 i)⟩
    obtain ⟨g, hg⟩ := hg0
    refine ⟨(List.range n).map g, by simp, fun h0 => ?_⟩
    have hn : 0 < n := by simpa using h0
    obtain ⟨_, z0, _⟩ := hg 0 hn
    have z1 : w.cell? a = some (.int .u8 ((g 0).1 : Int)) := by simpa [Addr.add] using z0
    have hs := World.cell?_spot z1
    obtain ⟨ab, ao, sp⟩ := a
    simp only at hs
    subst hs
    refine ⟨ab, ao, rfl, World.block_lt_of_cell? w _ z1, fun i hin => ?_⟩
    have hin' : i < n := by simpa using hin
    obtain ⟨g1, g3, g4⟩ := hg i hin'
    rw [addr_add] at g3 g4
    rw [addr_add] at g4
    simp only [List.getElem_map, List.getElem_range]
    exact ⟨g1, g3, g4⟩
end

theorem tableTexts_walk (most : Nat) (hmost : most ≤ 255) (L : Option Addr) (os : List (Nat × Int)) (lc : Nat) (S : Option Addr) (ns : List (List UInt8)) (sc : Nat) (w : World) (hO : IsOps3 w L os) (hS : IsStrs w S ns) :
    Calls Try.prog 7 #[.int .u8 (most : Int), .slice L os.length lc, .slice S ns.length sc] w (Ret (.bool true) w) := by
  by_cases h : 60 < os.length ∨ ns.length = 0 ∨ 20 < ns.length
  · exact tableTexts_early most L os.length lc S ns.length sc h w
  · exact tableTexts_go most hmost L os lc S ns sc (fun h1 => h (.inl h1)) (fun h1 => h (.inr (.inl h1))) (fun h1 => h (.inr (.inr h1))) w hO hS
end Go.Proofs.Ytmcehdinkghlfaa
