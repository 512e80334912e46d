/-
  Tables (int by int): entries in memory; slices.IndexFunc, and where a key is.
-/
import Derived.Test.YtmcehdinkghlfaaBase
import Derived.Test.YtmcehdinkghlfaaLaw
import Derived.Shelf.Abstract
import Derived.Laws.OwnMore
import Derived.Deep.AppendLies
import Derived.OwnWalk
namespace Go.Proofs.Ytmcehdinkghlfaa.Tii
open Go.RowKit Go.Shelf
set_option linter.unusedVariables false

abbrev Ent := Int × Int
def flat (es : List Ent) : List Value := es.flatMap fun e => [.int .i64 e.1, .int .i64 e.2]
theorem flat_cons (e : Ent) (es : List Ent) : flat (e :: es) = .int .i64 e.1 :: .int .i64 e.2 :: flat es := rfl
theorem flat_length (es : List Ent) : (flat es).length = es.length * 2 := by
  induction es with
  | nil => rfl
  | cons e es ih => rw [flat_cons]; simp only [List.length_cons, ih]; omega
theorem flat_get (es : List Ent) (i : Nat) (h : i < es.length) : (flat es)[i * 2]? = some (.int .i64 es[i].1) ∧ (flat es)[i * 2 + 1]? = some (.int .i64 es[i].2) := by
  induction es generalizing i with
  | nil => exact absurd h (Nat.not_lt_zero _)
  | cons e es ih =>
    match i with
    | 0 => exact ⟨rfl, rfl⟩
    | i + 1 =>
      have := ih i (by simpa using h)
      rw [flat_cons, show (i + 1) * 2 = (i * 2 + 1) + 1 from by omega]
      simpa using this
theorem flat_cell (es : List Ent) : ∀ u ∈ flat es, u.oneCell' = true := by
  intro u hu
  simp only [flat, List.mem_flatMap] at hu
  obtain ⟨k, _, hk⟩ := hu
  simp at hk
  rcases hk with rfl | rfl <;> rfl
theorem flat_append (a b : List Ent) : flat (a ++ b) = flat a ++ flat b := by simp [flat]

/-- Entries that lie in a row of their own. -/
def Row (w : World) (A : Option Addr) (cap : Nat) (es : List Ent) : Prop := w.ownsRow 0 87 2 (.slice A es.length cap) es.length (flat es)
def blksT (A : Option Addr) : List Nat := A.toList.map (·.block)

theorem Row.form {w : World} {A : Option Addr} {cap : Nat} {es : List Ent} (h : Row w A cap es) : (A = none ∧ es = [] ∧ cap = 0) ∨ ∃ g cur, A = some ⟨g, 0, none⟩ ∧ Blk w g 87 cur ∧ es.length ≤ cap ∧ cap ≤ maxLen ∧ cur.size = cap * 2 ∧ cur.toList.take (es.length * 2) = flat es := by
  rcases h.2 with ⟨h1, h0⟩ | ⟨g, c, cur, h1, _, h2, h3, h4, h5, h6⟩
  · simp only [Value.slice.injEq] at h1
    exact .inl ⟨h1.1, List.length_eq_zero_iff.1 h0, h1.2.2⟩
  · simp only [Value.slice.injEq] at h1
    obtain ⟨rfl, _, rfl⟩ := h1
    exact .inr ⟨g, cur, rfl, h2, h3, h4, h5, h6⟩
theorem Row.mod {S : List Nat} {w w' : World} {A : Option Addr} {cap : Nat} {es : List Ent} (h : Row w A cap es) (hm : Mod S w w') (hs : ∀ k, k ∈ blksT A → k ∉ S) : Row w' A cap es := by
  refine ⟨h.1, ?_⟩
  rcases h.2 with h1 | ⟨g, c, cur, h1, h2, h3, h4⟩
  · exact .inl h1
  · refine .inr ⟨g, c, cur, h1, h2, ?_, h4⟩
    simp only [Value.slice.injEq] at h1
    obtain ⟨rfl, _, rfl⟩ := h1
    exact Blk.mod (t := 87) (cs := cur) h3 hm (hs _ (by simp [blksT]))
theorem Row.cells {w : World} {A : Option Addr} {cap : Nat} {es : List Ent} (h : Row w A cap es) {j : Nat} (hj : j < es.length) :
    ∃ g, A = some ⟨g, 0, none⟩ ∧ g < w.heap.size ∧ w.cell? ⟨g, j * 2, none⟩ = some (.int .i64 es[j].1) ∧ w.cell? ⟨g, j * 2 + 1, none⟩ = some (.int .i64 es[j].2) ∧ ∀ i, w.frozen? ⟨g, i, none⟩ = false := by
  rcases h.form with ⟨_, rfl, _⟩ | ⟨g, cur, rfl, h1, h2, h3, h4, h5⟩
  · exact absurd hj (Nat.not_lt_zero _)
  · obtain ⟨g1, g2⟩ := flat_get es j hj
    rw [← h5] at g1 g2
    rw [List.getElem?_take, if_pos (by omega)] at g1 g2
    refine ⟨g, rfl, h1.lt, ?_, ?_, h1.frozen⟩
    · rw [h1.cell]; simpa using g1
    · rw [h1.cell]; simpa using g2

/-- The place of the first that p holds of; -1. -/
def ix (p : Ent → Bool) (zs : List Ent) : Int := if zs.findIdx p < zs.length then (zs.findIdx p : Int) else -1
theorem ix_hit {p : Ent → Bool} {zs : List Ent} {k : Nat} (hk : k < zs.length) (hp : p zs[k] = true) (hb : ∀ j (h : j < zs.length), j < k → p zs[j] = false) : ix p zs = k := by
  have : zs.findIdx p = k := by
    rw [List.findIdx_eq hk]
    exact ⟨hp, fun j hj => by have := hb j (by omega) hj; simpa using this⟩
  unfold ix
  rw [this, if_pos hk]
theorem ix_miss {p : Ent → Bool} {zs : List Ent} (hb : ∀ j (h : j < zs.length), p zs[j] = false) : ix p zs = -1 := by
  have : ¬ zs.findIdx p < zs.length := by
    intro h
    have h1 := List.findIdx_getElem (p := p) (xs := zs) (w := h)
    rw [hb _ h] at h1
    exact absurd h1 (by simp)
  unfold ix
  rw [if_neg this]
theorem ix_cases (p : Ent → Bool) (zs : List Ent) : (ix p zs = -1 ∧ ∀ j (h : j < zs.length), p zs[j] = false) ∨ ∃ j, ∃ h : j < zs.length, ix p zs = (j : Int) ∧ p zs[j] = true := by
  unfold ix
  by_cases h : zs.findIdx p < zs.length
  · rw [if_pos h]
    exact .inr ⟨_, h, rfl, List.findIdx_getElem⟩
  · rw [if_neg h]
    refine .inl ⟨rfl, fun j hj => ?_⟩
    cases hp : p zs[j]
    · rfl
    · exact absurd (by rw [List.findIdx_lt_length]; exact ⟨zs[j], List.getElem_mem hj, hp⟩) h

/-- A function on entries that only reads what was there. -/
def Pred (g : Nat) (lb : Array Value) (p : Ent → Bool) (w : World) : Prop :=
  ∀ (W : World) (x : Ent), Ext w W → Calls Try.prog g (#[.agg #[.int .i64 x.1, .int .i64 x.2]] ++ lb) W (Ret (.bool (p x)) W)

set_option maxHeartbeats 800000 in
theorem IndexFunc_any (A : Option Addr) (zs : List Ent) (cap g : Nat) (lb : Array Value) (p : Ent → Bool) (eg : ∀ args w, (callFunc g args).run Try.prog w = .ok (.enter g args) w)
    (hn : Hid (zs.length < 4611686018427387904)) (w : World) (hk : Hid (Row w A cap zs)) (hp : Hid (Pred g lb p w)) :
    Calls Try.prog 44 #[.slice A zs.length cap, .func (.func g) #[] lb] w (Ret (.int .i64 (ix p zs)) w) := by
  go_enter Try.func44, Try.ntmps44
  go_wp2
  go_loopw [8] (fun s8 wr => ∃ j : Nat, j ≤ zs.length ∧ s8 = .int .i64 j ∧ Ext w wr ∧ Hid (∀ k (h : k < zs.length), k < j → p zs[k] = false)) (fun i _ => zs.length - (intOf i).toNat)
  case atStart => exact ⟨0, Nat.zero_le _, rfl, Mod.refl _ _, fun k _ h => absurd h (Nat.not_lt_zero _)⟩
  case round =>
    obtain ⟨j, hj, rfl, hE, hno⟩ := hrel
    by_cases hlt : j < zs.length
    · obtain ⟨b, hA, hb, c0, c1, _⟩ := (hk.out.mod hE (by simp)).cells hlt
      have hj1 : (0 : Int) ≤ (j : Int) := by omega
      have hj2 : (j : Int) < (zs.length : Int) := by omega
      have hj3 : (zs.length : Int) < 4611686018427387904 := by have := hn.out; omega
      generalize hy : zs[j] = y at c0 c1
      have HY := hid hy
      clear hy
      obtain ⟨y0, y1⟩ := y
      have hcall : Calls Try.prog g (#[.agg #[.int .i64 y0, .int .i64 y1]] ++ lb) wr (Ret (.bool (p (y0, y1))) wr) := hp.out wr (y0, y1) hE
      subst hA
      cases hq : p (y0, y1) with
      | true =>
        rw [hq] at hcall
        have HQ := hid hq
        clear hq
        go_wp2_with (go_at_fn g; refine hcall.mono ?_; rintro e w' ⟨rfl, hb'⟩)
        go_ret
        exact Ret.mk (congrArg (Value.int .i64) (ix_hit hlt (by rw [HY.out]; exact HQ.out) hno.out).symm) (hE.trans hb')
      | false =>
        rw [hq] at hcall
        have HQ := hid hq
        clear hq
        go_wp2_with (go_at_fn g; refine hcall.mono ?_; rintro e w' ⟨rfl, hb'⟩)
        go_roundw
        case rel =>
          refine ⟨j + 1, by omega, by go_num, hE.trans hb', (show Hid _ from fun k hkl hkj => ?_)⟩
          by_cases e : k = j
          · subst e; rw [HY.out]; exact HQ.out
          · exact hno.out k hkl (by omega)
        case measure => simp [intOf]; omega
    · obtain rfl : j = zs.length := by omega
      have hno' := hno
      go_wp2
      go_ret
      exact Ret.mk (congrArg (Value.int .i64) (ix_miss (fun k h => hno.out k h h)).symm) hE

def isK (k : Int) : Ent → Bool := fun e => e.1 == k

theorem key_pred (k : Int) (B : Nat) (w : World) (hB : B < w.heap.size) (c0 : w.cell? ⟨B, 0, none⟩ = some (.int .i64 k)) :
    Pred 45 #[.pointer (some ⟨B, 0, none⟩)] (isK k) w := fun W x hb => by
  have d0 : W.cell? ⟨B, 0, none⟩ = some (.int .i64 k) := (hb.cell hB (by simp)).trans c0
  have hBW : B < W.heap.size := Nat.lt_of_lt_of_le hB hb.size
  have hne : B ≠ W.heap.size := by omega
  clear c0
  obtain ⟨x0, x1⟩ := x
  show Calls Try.prog 45 #[.agg #[.int .i64 x0, .int .i64 x1], .pointer (some ⟨B, 0, none⟩)] W _
  go_enter Try.func45, Try.ntmps45
  go_wp2
  go_ret
  exact Ret.mk rfl ((Mod.refl _ _).alloc _)

theorem entersAt1 : ∀ args w, (callFunc 45 args).run Try.prog w = .ok (.enter 45 args) w := enters_of Try.func45 (by kernel_rfl) rfl

/-- A table in memory: its block t, its row's block. -/
def Tab (w : World) (t : Nat) (most : Int) (A : Option Addr) (cap : Nat) (es : List Ent) : Prop :=
  Blk w t 81 #[.int .i64 most, .slice A es.length cap] ∧ Row w A cap es ∧ t ∉ blksT A
theorem Tab.mod {S : List Nat} {w w' : World} {t : Nat} {most : Int} {A : Option Addr} {cap : Nat} {es : List Ent} (h : Tab w t most A cap es) (hm : Mod S w w') (ht : t ∉ S) (hs : ∀ k, k ∈ blksT A → k ∉ S) : Tab w' t most A cap es :=
  ⟨h.1.mod hm ht, h.2.1.mod hm hs, h.2.2⟩
theorem Tab.ext {w w' : World} {t : Nat} {most : Int} {A : Option Addr} {cap : Nat} {es : List Ent} (h : Tab w t most A cap es) (hm : Ext w w') : Tab w' t most A cap es := h.mod hm (by simp) (by simp)

set_option maxHeartbeats 800000 in
theorem at_any (t : Nat) (most : Int) (A : Option Addr) (cap : Nat) (es : List Ent) (k : Int) (hn : Hid (es.length < 4611686018427387904)) (w : World) (h : Hid (Tab w t most A cap es)) :
    Calls Try.prog 37 #[.pointer (some ⟨t, 0, none⟩), .int .i64 k] w (Ret (.int .i64 (ix (isK k) es)) w) := by
  have c1 : w.cell? ⟨t, 1, none⟩ = some (.slice A es.length cap) := h.out.1.cell 1
  have ht := Blk.lt h.out.1
  have hsn : t ≠ w.heap.size := by omega
  go_enter Try.func37, Try.ntmps37
  go_wp2_with (go_at_call 44; refine (IndexFunc_any A es cap _ _ _ entersAt1 hn _ (hid ((h.out.ext ((Mod.refl _ _).alloc _)).2.1)) (key_pred k w.heap.size _ (by simp) (by simp))).mono ?_; rintro e w' ⟨rfl, hb'⟩)
  go_ret
  exact Ret.mk rfl (((Mod.refl _ _).alloc _).trans hb')
end Go.Proofs.Ytmcehdinkghlfaa.Tii
