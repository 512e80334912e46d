/-
  Package keys: a store in memory; Get, Used, and how keys are found.
-/
import Derived.Test.YtmcehdinkghlfaaKeys1
import Derived.Maps.Own
import Derived.Maps.OwnOps
import Derived.Maps.Views
namespace Go.Proofs.Ytmcehdinkghlfaa
open Go.RowKit Go.Shelf Go.Maps
set_option linter.unusedVariables false

theorem law3 : Keyed Try.prog 3 := int_keyed Try.underlying3
theorem zero3 (w : World) : (zeroValue 3).run Try.prog w = .ok (.int .i64 0) w := by kernel_rfl
abbrev UD := DataW Unit
def InI (x : Int) : Prop := -9223372036854775808 ≤ x ∧ x ≤ 9223372036854775807
theorem InI.wf {x : Int} (h : InI x) : (Lit.int .i64 x).wf = true := by
  have := h
  simpa [InI, Lit.wf, IntKind.min, IntKind.max, IntKind.signed, IntKind.bits] using this
theorem keyOf3 {x : Int} (h : InI x) : keyOf Try.prog 3 (.int .i64 x) = some (.int .i64 x) := keyOf_int_mk Try.underlying3 h.wf

/-- The map at m counts as f says. -/
def Counts (w : World) (m c : Nat) (f : Int → Nat) : Prop :=
  ∃ D : UD, w.ownsMap Try.prog 3 (plainElem (H := Unit) Try.prog 3) m c D ∧ ∀ id, InI id → D.atKey (.int .i64 id) (.lit (.int .i64 0)) = .lit (.int .i64 (f id : Int))

theorem Counts.kept {w w' : World} {m c : Nat} {f : Int → Nat} {S : List Nat} (h : Counts w m c f) (hm : Mod S w w') (hs : m ∉ S) : Counts w' m c f := by
  obtain ⟨D, ⟨es, clock, h1, h2, h3, h4⟩, h5⟩ := h
  have hlt : m < w.heap.size := by
    rcases Nat.lt_or_ge m w.heap.size with hlt | hge
    · exact hlt
    · rw [Array.getElem?_eq_none hge] at h1; cases h1
  exact ⟨D, ⟨es, clock, (hm.block m hlt hs).trans h1, h2, h3, h4⟩, h5⟩
theorem Counts.lt {w : World} {m c : Nat} {f : Int → Nat} (h : Counts w m c f) : m < w.heap.size := by
  obtain ⟨D, h1, _⟩ := h
  exact h1.lt
theorem Counts.look {w : World} {m c : Nat} {f : Int → Nat} (h : Counts w m c f) {id : Int} (hi : InI id) :
    (Instr.lookup 70 (.map (some m)) (.int .i64 id) false).run Try.prog w = .ok (.int .i64 (f id : Int)) w := by
  obtain ⟨D, hown, hat⟩ := h
  obtain ⟨v, hrun, h1, _⟩ := hown.lookup_int law3 Try.underlying70 Try.underlying3 (zero3 w) (keyOf3 hi)
  rw [hat id hi] at h1
  have : v = (f id : Int) := by
    have := h1
    simp at this
    exact this.symm
  rw [hrun, this]

/-- A store in memory: its block, its map's, what is given. -/
def St (w : World) (s m c node : Nat) (zs : List Key) (f : Int → Nat) : Prop :=
  ∃ A cap, Blk w s 72 #[.int .u64 (node : Int), .slice A zs.length cap, .map (some m)] ∧ IsKeys w A zs ∧
    (∀ b o, A = some ⟨b, o, none⟩ → b ≠ s ∧ b ≠ m) ∧ s ≠ m ∧ Counts w m c f

theorem St.kept {w w' : World} {s m c node : Nat} {zs : List Key} {f : Int → Nat} (h : St w s m c node zs f) (hm : Ext w w') : St w' s m c node zs f := by
  obtain ⟨A, cap, h1, h2, h3, h4, h5⟩ := h
  exact ⟨A, cap, h1.ext hm, h2.ext hm, h3, h4, h5.kept hm (by simp)⟩

/-- A store whose blocks lie from lo on, below hi. -/
def StL (lo hi : Nat) (w : World) (s m c node : Nat) (zs : List Key) (f : Int → Nat) : Prop :=
  ∃ A cap, Blk w s 72 #[.int .u64 (node : Int), .slice A zs.length cap, .map (some m)] ∧ IsKeys w A zs ∧
    (∀ b o, A = some ⟨b, o, none⟩ → b ≠ s ∧ b ≠ m) ∧ s ≠ m ∧ Counts w m c f ∧ (∀ b o, A = some ⟨b, o, none⟩ → lo ≤ b ∧ b < hi) ∧ lo ≤ s ∧ s < hi ∧ lo ≤ m ∧ m < hi
theorem StL.st {lo hi : Nat} {w : World} {s m c node : Nat} {zs : List Key} {f : Int → Nat} (h : StL lo hi w s m c node zs f) : St w s m c node zs f := by
  obtain ⟨A, cap, h1, h2, h3, h4, h5, _⟩ := h
  exact ⟨A, cap, h1, h2, h3, h4, h5⟩
theorem StL.kept {lo hi : Nat} {w w' : World} {s m c node : Nat} {zs : List Key} {f : Int → Nat} {S : List Nat} (h : StL lo hi w s m c node zs f) (hm : Mod S w w') (hs : ∀ k, k ∈ S → ¬ (lo ≤ k ∧ k < hi)) : StL lo hi w' s m c node zs f := by
  obtain ⟨A, cap, h1, h2, h3, h4, h5, h6, h7, h8, h9, h10⟩ := h
  exact ⟨A, cap, h1.mod hm (fun h => hs _ h ⟨h7, h8⟩), h2.mod hm (fun b o e h => hs _ h (h6 b o e)), h3, h4, h5.kept hm (fun h => hs _ h ⟨h9, h10⟩), h6, h7, h8, h9, h10⟩
theorem StL.after {lo hi : Nat} {w w' : World} {s m c c' node : Nat} {zs : List Key} {f f' : Int → Nat} (h : StL lo hi w s m c node zs f) (hm : Mod [m] w w') (h' : St w' s m c' node zs f') : StL lo hi w' s m c' node zs f' := by
  obtain ⟨A, cap, h1, h2, h3, h4, h5, h6, h7, h8, h9, h10⟩ := h
  obtain ⟨A', cap', g1, g2, g3, g4, g5⟩ := h'
  have e1 := h1.mod hm (by simp [h4])
  unfold Blk at e1 g1
  rw [e1] at g1
  simp at g1
  obtain ⟨rfl, rfl⟩ := g1
  exact ⟨A, cap, e1, g2, g3, g4, g5, h6, h7, h8, h9, h10⟩

/-- What is found of a number: the bytes, and the error. -/
def getR (zs : List Key) (id : Int) : List UInt8 × Int :=
  match zs.find? (fun x => x.1 == id) with
  | some k => (k.2, 0)
  | none => ([], 6)

theorem ix_cases (p : Key → Bool) (zs : List Key) : (ix p zs = -1 ∧ zs.find? p = none) ∨ ∃ j, ∃ h : j < zs.length, ix p zs = (j : Int) ∧ zs.find? p = some zs[j] := by
  unfold ix
  by_cases h : zs.findIdx p < zs.length
  · rw [if_pos h]
    refine .inr ⟨_, h, rfl, ?_⟩
    rw [List.find?_eq_some_iff_getElem]
    refine ⟨List.findIdx_getElem, _, h, rfl, fun j hj => ?_⟩
    have := List.not_of_lt_findIdx hj
    simpa using this
  · rw [if_neg h]
    refine .inl ⟨rfl, ?_⟩
    rw [List.find?_eq_none]
    intro x hx hp
    exact h (by rw [List.findIdx_lt_length]; exact ⟨x, hx, hp⟩)

theorem entersGet1 : ∀ args w, (callFunc 32 args).run Try.prog w = .ok (.enter 32 args) w := enters_of Try.func32 (by kernel_rfl) rfl
theorem entersNew1 : ∀ args w, (callFunc 28 args).run Try.prog w = .ok (.enter 28 args) w := enters_of Try.func28 (by kernel_rfl) rfl

set_option maxHeartbeats 800000 in
theorem Get_any (s m c node : Nat) (zs : List Key) (f : Int → Nat) (id : Int) (hn : Hid (zs.length < 4611686018427387904)) (w : World) (h : Hid (St w s m c node zs f)) :
    Calls Try.prog 13 #[.pointer (some ⟨s, 0, none⟩), .int .i64 id] w (Ret (.tuple #[str (getR zs id).1, .int .i64 (getR zs id).2]) w) := by
  obtain ⟨A, cap, hB, hK, _, _, _⟩ := h.out
  have c1 : w.cell? ⟨s, 1, none⟩ = some (.slice A zs.length cap) := hB.cell 1
  have hs := Blk.lt hB
  have hsn : s ≠ w.heap.size := by omega
  have HB := hid hB; clear hB
  have HK := hid hK; clear hK
  have hI : ∀ W, Ext w W → ∀ B, B < W.heap.size → W.cell? ⟨B, 0, none⟩ = some (.int .i64 id) → Calls Try.prog 31 #[.slice A zs.length cap, .func (.func 32) #[] #[.pointer (some ⟨B, 0, none⟩)]] W (Ret (.int .i64 (ix (fun x => x.1 == id) zs)) W) :=
    fun W hW B hBW hc => IndexFunc_any A zs cap _ _ _ entersGet1 hn W (HK.out.ext hW) (id_pred id B W hBW hc)
  have HI := hid hI; clear hI
  rcases ix_cases (fun x => x.1 == id) zs with ⟨h1, h2⟩ | ⟨j, hj, h1, h2⟩
  · have e : Hid (getR zs id = ([], 6)) := by unfold getR Hid; rw [h2]
    have H1 := hid h1; have H2 := hid h2; clear h1 h2
    go_enter Try.func13, Try.ntmps13
    go_wp2_with (go_at_call 31; refine (HI.out _ ((Mod.refl _ _).alloc _) w.heap.size (by simp) (by simp)).mono ?_; rintro e w' ⟨rfl, hb'⟩; rw [H1.out])
    go_ret2
    rw [e.out]
    exact Ret.mk rfl (((Mod.refl _ _).alloc _).trans hb')
  · have e : Hid (getR zs id = (zs[j].2, 0)) := by unfold getR Hid; rw [h2]
    obtain ⟨b, o, hA, hb, hc⟩ := HK.out (by omega)
    obtain ⟨k0, k1⟩ := hc j hj
    clear hc
    have hj1 : (0 : Int) ≤ (j : Int) := by omega
    have hj2 : (j : Int) < (zs.length : Int) := by omega
    have H1 := hid h1; have H2 := hid h2; clear h1 h2
    subst hA
    generalize hy : zs[j] = y at k0 k1 e
    have HY := hid hy; clear hy
    have K1 := hid k1; have C1 := hid c1
    go_enter Try.func13, Try.ntmps13
    go_wp2_with (go_at_call 31; refine (HI.out _ ((Mod.refl _ _).alloc _) w.heap.size (by simp) (by simp)).mono ?_; rintro e' w' ⟨rfl, hb'⟩; rw [H1.out]; have d1 := (((Mod.refl [] w).alloc _).trans hb').cell (k := s) (o := 1) hs (by simp); rw [C1.out] at d1; have d2 := (((Mod.refl [] w).alloc _).trans hb').cell (k := b) (o := o + j * 2 + 1) hb (by simp); rw [K1.out] at d2)
    go_ret2
    rw [e.out]
    exact Ret.mk rfl (((Mod.refl _ _).alloc _).trans hb')

set_option maxHeartbeats 800000 in
theorem Used_any (s m c node : Nat) (zs : List Key) (f : Int → Nat) (id : Int) (hi : Hid (InI id)) (w : World) (h : Hid (St w s m c node zs f)) :
    Calls Try.prog 15 #[.pointer (some ⟨s, 0, none⟩), .int .i64 id] w (Ret (.int .i64 (f id : Int)) w) := by
  obtain ⟨A, cap, hB, _, _, _, hC⟩ := h.out
  have c2 : w.cell? ⟨s, 2, none⟩ = some (.map (some m)) := hB.cell 2
  have hl := hC.look hi.out
  clear hB hC
  go_enter Try.func15, Try.ntmps15
  go_wp2
  go_ret
  exact Ret.mk rfl (Mod.refl _ _)
end Go.Proofs.Ytmcehdinkghlfaa
