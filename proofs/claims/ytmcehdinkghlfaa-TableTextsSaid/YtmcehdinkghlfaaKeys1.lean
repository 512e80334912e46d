/-
  Package keys: words; slices.IndexFunc and slices.ContainsFunc at keys; the closures.
-/
import Derived.Test.YtmcehdinkghlfaaKSpread
import Derived.Test.YtmcehdinkghlfaaLaw
import Derived.Shelf.Abstract
namespace Go.Proofs.Ytmcehdinkghlfaa
open Go.RowKit Go.Shelf
set_option linter.unusedVariables false

abbrev Key := Int × List UInt8
def keyV (k : Key) : Value := .agg #[.int .i64 k.1, str k.2]

/-- A slice of keys that lies in memory. -/
def IsKeys (w : World) (A : Option Addr) (zs : List Key) : Prop :=
  0 < zs.length → ∃ b o, A = some ⟨b, o, none⟩ ∧ b < w.heap.size ∧ ∀ i (h : i < zs.length),
    w.cell? ⟨b, o + i * 2, none⟩ = some (.int .i64 zs[i].1) ∧ w.cell? ⟨b, o + i * 2 + 1, none⟩ = some (str zs[i].2)

theorem IsKeys.mod {S : List Nat} {w w' : World} {A : Option Addr} {zs : List Key} (h : IsKeys w A zs) (hm : Mod S w w') (hs : ∀ b o, A = some ⟨b, o, none⟩ → b ∉ S) : IsKeys w' A zs := fun h0 => by
  obtain ⟨b, o, hA, hb, hc⟩ := h h0
  refine ⟨b, o, hA, Nat.lt_of_lt_of_le hb hm.size, fun i hi => ?_⟩
  rw [hm.cell hb (hs b o hA), hm.cell hb (hs b o hA)]
  exact hc i hi
theorem IsKeys.ext {w w' : World} {A : Option Addr} {zs : List Key} (h : IsKeys w A zs) (hm : Ext w w') : IsKeys w' A zs := h.mod hm (fun _ _ _ => by simp)
theorem IsKeys.take {w : World} {A : Option Addr} {zs : List Key} (h : IsKeys w A zs) (n : Nat) : IsKeys w A (zs.take n) := fun h0 => by
  rw [List.length_take] at h0
  obtain ⟨b, o, hA, hb, hc⟩ := h (by omega)
  refine ⟨b, o, hA, hb, fun i hi => ?_⟩
  rw [List.length_take] at hi
  simp only [List.getElem_take]
  exact hc i (by omega)

/-- The place of the first that p holds of; -1. -/
def ix (p : Key → Bool) (zs : List Key) : Int := if zs.findIdx p < zs.length then (zs.findIdx p : Int) else -1

theorem ix_hit {p : Key → Bool} {zs : List Key} {k : Nat} (hk : k < zs.length) (hp : p zs[k] = true) (hb : ∀ j (h : j < zs.length), j < k → p zs[j] = false) : ix p zs = k := by
  have : zs.findIdx p = k := by
    rw [List.findIdx_eq hk]
    exact ⟨hp, fun j hj => by have := hb j (by omega) hj; simpa using this⟩
  unfold ix
  rw [this, if_pos hk]
theorem ix_miss {p : Key → Bool} {zs : List Key} (hb : ∀ j (h : j < zs.length), p zs[j] = false) : ix p zs = -1 := by
  have : ¬ zs.findIdx p < zs.length := by
    intro h
    have h1 := List.findIdx_getElem (p := p) (xs := zs) (w := h)
    rw [hb _ h] at h1
    exact absurd h1 (by simp)
  unfold ix
  rw [if_neg this]
theorem ix_any {p : Key → Bool} {zs : List Key} : decide (0 ≤ ix p zs) = zs.any p := by
  unfold ix
  by_cases h : zs.any p = true
  · rw [h]
    have : zs.findIdx p < zs.length := by
      rw [List.findIdx_lt_length]
      obtain ⟨x, hx, hpx⟩ := List.any_eq_true.1 h
      exact ⟨x, hx, hpx⟩
    rw [if_pos this]; simp
  · have hf : zs.any p = false := by simpa using h
    rw [hf]
    have : ¬ zs.findIdx p < zs.length := by
      rw [List.findIdx_lt_length]
      rintro ⟨x, hx, hpx⟩
      exact h (List.any_eq_true.2 ⟨x, hx, hpx⟩)
    rw [if_neg this]; rfl

/-- A function on keys that only reads what was there. -/
def Pred (g : Nat) (lb : Array Value) (p : Key → Bool) (w : World) : Prop :=
  ∀ (W : World) (x : Key), Ext w W → Calls Try.prog g (#[keyV x] ++ lb) W (Ret (.bool (p x)) W)

set_option maxHeartbeats 800000 in
theorem IndexFunc_any (A : Option Addr) (zs : List Key) (cap g : Nat) (lb : Array Value) (p : Key → Bool) (eg : ∀ args w, (callFunc g args).run Try.prog w = .ok (.enter g args) w)
    (hn : Hid (zs.length < 4611686018427387904)) (w : World) (hk : Hid (IsKeys w A zs)) (hp : Hid (Pred g lb p w)) :
    Calls Try.prog 31 #[.slice A zs.length cap, .func (.func g) #[] lb] w (Ret (.int .i64 (ix p zs)) w) := by
  go_enter Try.func31, Try.ntmps31
  go_wp2
  go_loopw [8] (fun s8 wr => ∃ j : Nat, j ≤ zs.length ∧ s8 = .int .i64 j ∧ Ext w wr ∧ Hid (∀ k (h : k < zs.length), k < j → p zs[k] = false)) (fun i _ => zs.length - (intOf i).toNat)
  case atStart => exact ⟨0, Nat.zero_le _, rfl, Mod.refl _ _, fun k _ h => absurd h (Nat.not_lt_zero _)⟩
  case round =>
    obtain ⟨j, hj, rfl, hE, hno⟩ := hrel
    by_cases hlt : j < zs.length
    · obtain ⟨b, o, hA, hb, hc⟩ := hk.out (by omega)
      obtain ⟨c0, c1⟩ := hc j hlt
      rw [← hE.cell hb (by simp)] at c0 c1
      clear hc
      have hj1 : (0 : Int) ≤ (j : Int) := by omega
      have hj2 : (j : Int) < (zs.length : Int) := by omega
      have hj3 : (zs.length : Int) < 4611686018427387904 := by have := hn.out; omega
      generalize hy : zs[j] = y at c0 c1
      have HY := hid hy
      clear hy
      obtain ⟨y0, y1⟩ := y
      have hcall : Calls Try.prog g (#[.agg #[.int .i64 y0, str y1]] ++ lb) wr (Ret (.bool (p (y0, y1))) wr) := hp.out wr (y0, y1) hE
      subst hA
      cases hq : p (y0, y1) with
      | true =>
        rw [hq] at hcall
        have HQ := hid hq
        clear hq
        go_wp2_with (go_at_fn g; refine hcall.mono ?_; rintro e w' ⟨rfl, hb'⟩)
        go_ret
        exact Ret.mk (congrArg (Value.int .i64) (ix_hit hlt (by rw [HY.out]; exact HQ.out) hno.out).symm) (hE.trans hb')
      | false =>
        rw [hq] at hcall
        have HQ := hid hq
        clear hq
        go_wp2_with (go_at_fn g; refine hcall.mono ?_; rintro e w' ⟨rfl, hb'⟩)
        go_roundw
        case rel =>
          refine ⟨j + 1, by omega, by go_num, hE.trans hb', (show Hid _ from fun k hkl hkj => ?_)⟩
          by_cases e : k = j
          · subst e; rw [HY.out]; exact HQ.out
          · exact hno.out k hkl (by omega)
        case measure => simp [intOf]; omega
    · obtain rfl : j = zs.length := by omega
      have hno' := hno
      go_wp2
      go_ret
      exact Ret.mk (congrArg (Value.int .i64) (ix_miss (fun k h => hno.out k h h)).symm) hE

theorem entersIF : ∀ args w, (callFunc 31 args).run Try.prog w = .ok (.enter 31 args) w := enters_of Try.func31 (by kernel_rfl) rfl

theorem ContainsFunc_any (A : Option Addr) (zs : List Key) (cap g : Nat) (lb : Array Value) (p : Key → Bool) (eg : ∀ args w, (callFunc g args).run Try.prog w = .ok (.enter g args) w)
    (hn : Hid (zs.length < 4611686018427387904)) (w : World) (hk : Hid (IsKeys w A zs)) (hp : Hid (Pred g lb p w)) :
    Calls Try.prog 27 #[.slice A zs.length cap, .func (.func g) #[] lb] w (Ret (.bool (zs.any p)) w) := by
  have e := hid (ix_any (p := p) (zs := zs))
  go_enter Try.func27, Try.ntmps27
  go_wp2_with (go_at_call 31; refine (IndexFunc_any A zs cap g lb p eg hn _ hk hp).mono ?_; rintro e w' ⟨rfl, hb'⟩)
  go_ret
  exact Ret.mk (congrArg Value.bool e.out) hb'

/-- New's closure: has x the number, or the bytes, of k? -/
theorem same_pred (k : Key) (B : Nat) (w : World) (hB : B < w.heap.size) (c0 : w.cell? ⟨B, 0, none⟩ = some (.int .i64 k.1)) (c1 : w.cell? ⟨B, 1, none⟩ = some (str k.2)) :
    Pred 28 #[.pointer (some ⟨B, 0, none⟩)] (fun x => x.1 == k.1 || x.2 == k.2) w := fun W x hb => by
  have d0 : W.cell? ⟨B, 0, none⟩ = some (.int .i64 k.1) := (hb.cell hB (by simp)).trans c0
  have d1 : W.cell? ⟨B, 1, none⟩ = some (str k.2) := (hb.cell hB (by simp)).trans c1
  have hBW : B < W.heap.size := Nat.lt_of_lt_of_le hB hb.size
  have hne : B ≠ W.heap.size := by omega
  clear c0 c1
  obtain ⟨k0, k1⟩ := k
  obtain ⟨x0, x1⟩ := x
  show Calls Try.prog 28 #[.agg #[.int .i64 x0, str x1], .pointer (some ⟨B, 0, none⟩)] W _
  cases h0 : (x0 == k0)
  · go_enter Try.func28, Try.ntmps28
    go_wp2
    go_ret
    exact Ret.mk (by simp) ((Mod.refl _ _).alloc _)
  · go_enter Try.func28, Try.ntmps28
    go_wp2
    go_ret
    exact Ret.mk (by simp) ((Mod.refl _ _).alloc _)

theorem id_pred (id : Int) (B : Nat) (w : World) (hB : B < w.heap.size) (c0 : w.cell? ⟨B, 0, none⟩ = some (.int .i64 id)) :
    Pred 32 #[.pointer (some ⟨B, 0, none⟩)] (fun x => x.1 == id) w := fun W x hb => by
  have d0 : W.cell? ⟨B, 0, none⟩ = some (.int .i64 id) := (hb.cell hB (by simp)).trans c0
  have hBW : B < W.heap.size := Nat.lt_of_lt_of_le hB hb.size
  have hne : B ≠ W.heap.size := by omega
  clear c0
  obtain ⟨x0, x1⟩ := x
  show Calls Try.prog 32 #[.agg #[.int .i64 x0, str x1], .pointer (some ⟨B, 0, none⟩)] W _
  go_enter Try.func32, Try.ntmps32
  go_wp2
  go_ret
  exact Ret.mk rfl ((Mod.refl _ _).alloc _)
end Go.Proofs.Ytmcehdinkghlfaa
