/-
  Two tables side by side: the calls, with the tables' blocks out of sight.
-/
import Derived.Test.YtmcehdinkghlfaaTabLaw
namespace Go.Proofs.Ytmcehdinkghlfaa
open Go.RowKit Go.Shelf
set_option linter.unusedVariables false

/-- Since w only two disjoint tables have turned, and both are younger than w. -/
def TT (w W : World) (most tA tB : Nat) (ea : List Tii.Ent) (eb : List Tsb.Ent) : Prop :=
  Ext w W ∧ ∃ A cA B cB, DT w.heap.size W most tA tB A cA ea B cB eb
section
variable {w W W' : World} {most tA tB : Nat} {ea : List Tii.Ent} {eb : List Tsb.Ent}
theorem TT.ext (h : TT w W most tA tB ea eb) (hm : Ext W W') : TT w W' most tA tB ea eb := by
  obtain ⟨h1, A, cA, B, cB, h2⟩ := h
  exact ⟨h1.trans hm, A, cA, B, cB, h2.ext hm⟩
theorem TT.drew (h : TT w W most tA tB ea eb) : TT w W.drew most tA tB ea eb := h.ext (Mod.drew (Mod.refl _ _))
theorem TT.drewN (h : TT w W most tA tB ea eb) (n : Nat) : TT w (W.drewN n) most tA tB ea eb := h.ext (Mod.drewN (Mod.refl _ _) n)
theorem TT.dropA (h : TT w W most tA tB ea eb) (k : Int) (hl : ea.length < 100000) :
    Calls Try.prog 21 #[.pointer (some ⟨tA, 0, none⟩), .int .i64 k] W fun e W' => e = .returned (.bool (Tii.dropR ea k).2) ∧ TT w W' most tA tB (Tii.dropR ea k).1 eb := by
  obtain ⟨h1, A, cA, B, cB, h2⟩ := h
  refine (Tii.Drop_any tA most A cA ea k hl W h2.a).mono ?_
  rintro e W' ⟨rfl, hm, hT⟩
  exact ⟨rfl, ((Mod.of_ext h1).trans hm).new (fun k hk => .inr (h2.la k hk)), _, _, _, _, h2.opA hm hT (fun k hk => .inl hk) h1.size⟩
theorem TT.dropB (h : TT w W most tA tB ea eb) (k : List UInt8) (hl : eb.length < 100000) :
    Calls Try.prog 22 #[.pointer (some ⟨tB, 0, none⟩), str k] W fun e W' => e = .returned (.bool (Tsb.dropR eb k).2) ∧ TT w W' most tA tB ea (Tsb.dropR eb k).1 := by
  obtain ⟨h1, A, cA, B, cB, h2⟩ := h
  refine (Tsb.Drop_any tB most B cB eb k hl W h2.b).mono ?_
  rintro e W' ⟨rfl, hm, hT⟩
  exact ⟨rfl, ((Mod.of_ext h1).trans hm).new (fun k hk => .inr (h2.lb k hk)), _, _, _, _, h2.opB hm hT (fun k hk => .inl hk) h1.size⟩
theorem TT.pushA (h : TT w W most tA tB ea eb) (k v : Int) (hl : ea.length < 100000) (hmo : most < 100000) :
    Calls Try.prog 23 #[.pointer (some ⟨tA, 0, none⟩), .int .i64 k, .int .i64 v] W fun e W' => e = .returned (Tii.goneV (Tii.pushR most ea k v).2) ∧ TT w W' most tA tB (Tii.pushR most ea k v).1 eb := by
  obtain ⟨h1, A, cA, B, cB, h2⟩ := h
  refine (Tii.Push_any tA most A cA ea k v hl hmo W h2.a).mono ?_
  rintro e W' ⟨A', cap', rfl, hm, hT, hb⟩
  exact ⟨rfl, ((Mod.of_ext h1).trans hm).new (fun k hk => .inr (h2.la k hk)), _, _, _, _, h2.opA hm hT hb h1.size⟩
theorem TT.pushB (h : TT w W most tA tB ea eb) (k : List UInt8) (v : Bool) (hl : eb.length < 100000) (hmo : most < 100000) :
    Calls Try.prog 24 #[.pointer (some ⟨tB, 0, none⟩), str k, .bool v] W fun e W' => e = .returned (Tsb.goneV (Tsb.pushR most eb k v).2) ∧ TT w W' most tA tB ea (Tsb.pushR most eb k v).1 := by
  obtain ⟨h1, A, cA, B, cB, h2⟩ := h
  refine (Tsb.Push_any tB most B cB eb k v hl hmo W h2.b).mono ?_
  rintro e W' ⟨A', cap', rfl, hm, hT, hb⟩
  exact ⟨rfl, ((Mod.of_ext h1).trans hm).new (fun k hk => .inr (h2.lb k hk)), _, _, _, _, h2.opB hm hT hb h1.size⟩

/-- A slice of numbers, all in memory. -/
def Ints (W : World) (A : Option Addr) (xs : List Int) : Prop := 0 < xs.length → ∃ g, A = some ⟨g, 0, none⟩ ∧ g < W.heap.size ∧ ∀ i (h : i < xs.length), W.cell? ⟨g, i, none⟩ = some (.int .i64 xs[i])
def Strs (W : World) (A : Option Addr) (xs : List (List UInt8)) : Prop := 0 < xs.length → ∃ g, A = some ⟨g, 0, none⟩ ∧ g < W.heap.size ∧ ∀ i (h : i < xs.length), W.cell? ⟨g, i, none⟩ = some (str xs[i])
theorem Ints.ext {A : Option Addr} {xs : List Int} (h : Ints W A xs) (hm : Ext W W') : Ints W' A xs := fun h0 => by
  obtain ⟨g, h1, h2, h3⟩ := h h0
  exact ⟨g, h1, Nat.lt_of_lt_of_le h2 hm.size, fun i hi => by rw [hm.cell h2 (by simp)]; exact h3 i hi⟩
theorem Strs.ext {A : Option Addr} {xs : List (List UInt8)} (h : Strs W A xs) (hm : Ext W W') : Strs W' A xs := fun h0 => by
  obtain ⟨g, h1, h2, h3⟩ := h h0
  exact ⟨g, h1, Nat.lt_of_lt_of_le h2 hm.size, fun i hi => by rw [hm.cell h2 (by simp)]; exact h3 i hi⟩
theorem TT.keysA (h : TT w W most tA tB ea eb) (hl : ea.length < 100000) :
    Calls Try.prog 25 #[.pointer (some ⟨tA, 0, none⟩)] W fun e W' => ∃ A' cap', e = .returned (.slice A' ea.length cap') ∧ Ext W W' ∧ Ints W' A' (Tii.keys ea) := by
  obtain ⟨h1, A, cA, B, cB, h2⟩ := h
  refine (Tii.Keys_any tA most A cA ea hl W h2.a).mono ?_
  rintro e W' ⟨A', cap', rfl, hE, hO⟩
  refine ⟨A', cap', rfl, hE, fun h0 => ?_⟩
  rw [Tii.keys_length] at h0
  obtain ⟨g2, gc, hv, _, _⟩ := hO.form h0
  cases hv
  refine ⟨g2, rfl, ?_, fun i hi => ?_⟩
  · have := hO.cells (g := g2) rfl 0 (.int .i64 ((Tii.keys ea)[0]'(by rw [Tii.keys_length]; exact h0))) (by simp only [Tii.keysV, Tii.keys, List.getElem?_map, List.getElem_map]; rw [List.getElem?_eq_getElem h0]; rfl)
    exact World.block_lt_of_cell? _ _ this
  · have hi' : i < ea.length := by rw [Tii.keys_length] at hi; exact hi
    have := hO.cells (g := g2) rfl i (.int .i64 (Tii.keys ea)[i]) (by simp only [Tii.keysV, Tii.keys, List.getElem?_map, List.getElem_map]; rw [List.getElem?_eq_getElem hi']; rfl)
    rw [addr_add] at this
    simpa using this
theorem TT.keysB (h : TT w W most tA tB ea eb) (hl : eb.length < 100000) :
    Calls Try.prog 26 #[.pointer (some ⟨tB, 0, none⟩)] W fun e W' => ∃ A' cap', e = .returned (.slice A' eb.length cap') ∧ Ext W W' ∧ Strs W' A' (Tsb.keys eb) := by
  obtain ⟨h1, A, cA, B, cB, h2⟩ := h
  refine (Tsb.Keys_any tB most B cB eb hl W h2.b).mono ?_
  rintro e W' ⟨A', cap', rfl, hE, hO⟩
  refine ⟨A', cap', rfl, hE, fun h0 => ?_⟩
  rw [Tsb.keys_length] at h0
  obtain ⟨g2, gc, hv, _, _⟩ := hO.form h0
  cases hv
  refine ⟨g2, rfl, ?_, fun i hi => ?_⟩
  · have := hO.cells (g := g2) rfl 0 (str ((Tsb.keys eb)[0]'(by rw [Tsb.keys_length]; exact h0))) (by simp only [Tsb.keysV, Tsb.keys, List.getElem?_map, List.getElem_map]; rw [List.getElem?_eq_getElem h0]; rfl)
    exact World.block_lt_of_cell? _ _ this
  · have hi' : i < eb.length := by rw [Tsb.keys_length] at hi; exact hi
    have := hO.cells (g := g2) rfl i (str (Tsb.keys eb)[i]) (by simp only [Tsb.keysV, Tsb.keys, List.getElem?_map, List.getElem_map]; rw [List.getElem?_eq_getElem hi']; rfl)
    rw [addr_add] at this
    simpa using this
end
end Go.Proofs.Ytmcehdinkghlfaa
