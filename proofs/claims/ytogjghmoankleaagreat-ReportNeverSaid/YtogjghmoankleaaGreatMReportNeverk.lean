/-
  Bundles that are right, and their bytes: plain.
  Maps from numbers to numbers that count.
  Whether numbers, and types that may be there once, are there once, as the code tells.
  Which names, primaries and bundles are of a size that is looked at.
  Bundles: where a number's block is; the block of a number.
  Two strings become one, in a plain region.
  Scopes: which there are; what goes with a target, as the code puts it together.
  Bundles: how often a type occurs, whether a number does twice, the bytes, as the reference tells.
  Bundles: parts, the last block, whether a fragment fits, the bytes, as the code tells.
  Bundles: rules, whether one is right, and its bytes, as the code tells.
  A bundle with other blocks, if it is right.
  Reports: Make.
-/
import Derived.Test.YtogjghmoankleaaGreatMReportNeverj
import Derived.Maps.Own
import Derived.Maps.OwnOps
import Derived.Maps.Views
import Derived.Shelf.Abstract

namespace Go.Proofs.YtogjghmoankleaaGreat
open Go.RowKit
set_option linter.unusedVariables false
set_option linter.unusedSimpArgs false

def BV.bytes (b : BV) : List UInt8 := blkB b.ty.toNat b.num.toNat b.fl b.crc.toNat b.data (sumB b.ty.toNat b.num.toNat b.fl b.crc.toNat b.data)
/-- How many of the first k blocks have a type. -/
def cntB (bs : Nat → BV) (typ : Int) : Nat → Nat
  | 0 => 0
  | k + 1 => cntB bs typ k + (if (bs k).ty = typ then 1 else 0)
theorem cntB_le (bs : Nat → BV) (typ : Int) : ∀ k, cntB bs typ k ≤ k
  | 0 => Nat.le_refl _
  | k + 1 => by have := cntB_le bs typ k; rw [cntB]; split <;> omega
theorem cntB_no {bs : Nat → BV} {typ : Int} : ∀ {k : Nat}, (∀ j, j < k → tyB bs typ j = false) → cntB bs typ k = 0
  | 0, _ => rfl
  | k + 1, h => by
    have h1 := h k (by omega)
    have : (bs k).ty ≠ typ := by intro e; rw [tyB_yes e] at h1; cases h1
    rw [cntB, cntB_no fun j hj => h j (by omega), if_neg this]
theorem cntB_pos {bs : Nat → BV} {typ : Int} {i : Nat} : ∀ {k : Nat}, i < k → tyB bs typ i = true → 1 ≤ cntB bs typ k
  | k + 1, h, ht => by
    rw [cntB]
    by_cases e : i = k
    · subst e
      have : (bs i).ty = typ := by simpa [tyB] using ht
      rw [if_pos this]; omega
    · have := cntB_pos (k := k) (by omega) ht; omega
theorem cntB_find {bs : Nat → BV} {typ : Int} {k : Nat} : (firstOf (tyB bs typ) k).isSome = decide (cntB bs typ k ≠ 0) := by
  cases h : firstOf (tyB bs typ) k with
  | none => rw [cntB_no (firstOf_no h)]; rfl
  | some i => have := cntB_pos (firstOf_spec h).1 (firstOf_spec h).2.1; symm; simp; omega
/-- Has an earlier block this one's number? -/
def hasNumOf (bs : Nat → BV) (i j : Nat) : Bool := decide ((bs i).num = (bs j).num)
def dupAt (bs : Nat → BV) (i : Nat) : Bool := (firstOf (hasNumOf bs i) i).isSome
def dupB (bs : Nat → BV) (k : Nat) : Bool := (firstOf (dupAt bs) k).isSome
/-- The blocks' bytes, one behind the other. -/
def blksB (bs : Nat → BV) : Nat → List UInt8
  | 0 => []
  | k + 1 => blksB bs k ++ (bs k).bytes
def bunBytes (p : PV) (bs : Nat → BV) (k : Nat) : List UInt8 := 159 :: p.bytes ++ blksB bs k ++ [255]
def badAt (bs : Nat → BV) (i : Nat) : Bool := decide ((bs i).right ≠ 0)
def bunRule1 (bs : Nat → BV) (k : Nat) : Bool := decide (k = 0) || decide (cntB bs 1 k ≠ 1) || dupB bs k || decide (1 < cntB bs 6 k) || decide (1 < cntB bs 7 k) || decide (1 < cntB bs 10 k)
def bunRule2 (p : PV) (bs : Nat → BV) (k : Nat) : Bool := decide ((bs (k - 1)).ty ≠ 1) || (decide (p.t = 0) && decide (cntB bs 7 k = 0))
def bunRule3 (p : PV) (bs : Nat → BV) (k : Nat) : Bool := has p.fl 1 && decide (p.n < p.o + (bs (k - 1)).data.length)
/-- Why a bundle is not right. -/
def bunRight (p : PV) (bs : Nat → BV) (k : Nat) : Int :=
  if p.right ≠ 0 then p.right else match firstOf (badAt bs) k with
    | some i => (bs i).right
    | none => if 16 < k then 4 else if bunRule1 bs k then 8 else if bunRule2 p bs k then 8 else if bunRule3 p bs k then 8 else if 4000 < (bunBytes p bs k).length then 4 else 0
theorem bad_no {bs : Nat → BV} {i : Nat} (h : badAt bs i = false) : (bs i).right = 0 := by unfold badAt at h; simpa using h
theorem bunRight_zero {p : PV} {bs : Nat → BV} {k : Nat} (h : bunRight p bs k = 0) : p.right = 0 ∧ (∀ i, i < k → (bs i).right = 0) ∧ k ≤ 16 ∧ bunRule1 bs k = false ∧ bunRule2 p bs k = false ∧ bunRule3 p bs k = false ∧ (bunBytes p bs k).length ≤ 4000 := by
  unfold bunRight at h
  by_cases hb : p.right = 0
  · rw [if_neg (by simpa using hb)] at h
    cases hf : firstOf (badAt bs) k with
    | some i => rw [hf] at h; have := (firstOf_spec hf).2.1; exact absurd h (by simpa [badAt] using this)
    | none =>
      rw [hf] at h
      dsimp only at h
      by_cases h1 : 16 < k
      · rw [if_pos h1] at h; exact absurd h (by decide)
      · rw [if_neg h1] at h
        cases h2 : bunRule1 bs k with
        | true => rw [h2, if_pos rfl] at h; exact absurd h (by decide)
        | false =>
          rw [h2, if_neg (by decide)] at h
          cases h3 : bunRule2 p bs k with
          | true => rw [h3, if_pos rfl] at h; exact absurd h (by decide)
          | false =>
            rw [h3, if_neg (by decide)] at h
            cases h4 : bunRule3 p bs k with
            | true => rw [h4, if_pos rfl] at h; exact absurd h (by decide)
            | false =>
              rw [h4, if_neg (by decide)] at h
              by_cases h5 : 4000 < (bunBytes p bs k).length
              · rw [if_pos h5] at h; exact absurd h (by decide)
              · exact ⟨hb, fun i hi => bad_no (firstOf_no hf i hi), by omega, rfl, rfl, rfl, by omega⟩
  · rw [if_pos hb] at h; exact absurd h hb
/-- Numbers are there once. -/
theorem dup_no {bs : Nat → BV} {k : Nat} (h : dupB bs k = false) {i j : Nat} (hi : i < k) (hj : j < i) : (bs i).num ≠ (bs j).num := by
  unfold dupB at h
  have h1 : firstOf (dupAt bs) k = none := by cases hf : firstOf (dupAt bs) k with | none => rfl | some x => rw [hf] at h; cases h
  have h2 := firstOf_no h1 i hi
  unfold dupAt at h2
  have h3 : firstOf (hasNumOf bs i) i = none := by cases hf : firstOf (hasNumOf bs i) i with | none => rfl | some x => rw [hf] at h2; cases h2
  have h4 := firstOf_no h3 j hj
  simpa [hasNumOf] using h4
theorem rule1_dup {bs : Nat → BV} {k : Nat} (h : bunRule1 bs k = false) : dupB bs k = false := by
  unfold bunRule1 at h
  simp only [Bool.or_eq_false_iff] at h
  exact h.1.1.1.2
theorem BV.bytes_length {b : BV} (h : b.right = 0) : b.bytes.length < 1000000 := by
  obtain ⟨h1, h2, h3, h4, h5, h6, h7, h8, h9⟩ := BV.right_zero h
  exact blkB_length h8 (by rw [sumB_length (by omega)]; omega)
theorem blksB_length {bs : Nat → BV} : ∀ {k : Nat}, (∀ i, i < k → (bs i).right = 0) → (blksB bs k).length ≤ k * 1000000
  | 0, _ => by simp [blksB]
  | k + 1, h => by
    have h1 := blksB_length (k := k) fun i hi => h i (by omega)
    have h2 := BV.bytes_length (h k (by omega))
    rw [blksB, List.length_append]
    omega
theorem r12Build_any {b : BV} (h : b.right = 0) (w : World) : Calls Tryz.prog 39 #[b.v] w (Ret (str b.bytes) w) := by
  have hz := BV.right_zero h
  obtain ⟨ty, num, e⟩ := bv_nat h
  obtain ⟨crc, e2⟩ : ∃ c : Nat, b.crc = (c : Int) := ⟨b.crc.toNat, by omega⟩
  obtain ⟨bty, bnum, bfl, bcrc, bdata⟩ := b
  simp only [BV.mk.injEq] at e e2
  obtain ⟨rfl, rfl, -⟩ := e
  subst e2
  simp only [] at hz
  simpa [BV.bytes] using rBuild_ok ty num bfl crc bdata (by unfold Hid; omega) (by unfold Hid; omega) (by unfold Hid; omega) (by unfold Hid; omega) (by unfold Hid; omega) w
end Go.Proofs.YtogjghmoankleaaGreat


namespace Go.Proofs.YtogjghmoankleaaGreat
open Go.RowKit Go.Maps
set_option linter.unusedVariables false
set_option linter.unusedSimpArgs false

theorem law3 : Keyed Tryz.prog 3 := int_keyed Tryz.underlying3
theorem zero3 (w : World) : (zeroValue 3).run Tryz.prog w = .ok (.int .i64 0) w := by kernel_rfl
abbrev UD := DataW Unit
def InI (x : Int) : Prop := -9223372036854775808 ≤ x ∧ x ≤ 9223372036854775807
theorem InI.wf {x : Int} (h : InI x) : (Lit.int .i64 x).wf = true := by
  have := h
  simpa [InI, Lit.wf, IntKind.min, IntKind.max, IntKind.signed, IntKind.bits] using this
theorem keyOf3 {x : Int} (h : InI x) : keyOf Tryz.prog 3 (.int .i64 x) = some (.int .i64 x) := keyOf_int_mk Tryz.underlying3 h.wf

/-- The map at m counts as f says. -/
def Counts (w : World) (m c : Nat) (f : Int → Nat) : Prop :=
  ∃ D : UD, w.ownsMap Tryz.prog 3 (plainElem (H := Unit) Tryz.prog 3) m c D ∧ ∀ id, InI id → D.atKey (.int .i64 id) (.lit (.int .i64 0)) = .lit (.int .i64 (f id : Int))

theorem Counts.kept {w w' : World} {m c : Nat} {f : Int → Nat} {S : List Nat} (h : Counts w m c f) (hm : Mod S w w') (hs : m ∉ S) : Counts w' m c f := by
  obtain ⟨D, ⟨es, clock, h1, h2, h3, h4⟩, h5⟩ := h
  have hlt : m < w.heap.size := by
    rcases Nat.lt_or_ge m w.heap.size with hlt | hge
    · exact hlt
    · rw [Array.getElem?_eq_none hge] at h1; cases h1
  exact ⟨D, ⟨es, clock, (hm.block m hlt hs).trans h1, h2, h3, h4⟩, h5⟩
theorem Counts.lt {w : World} {m c : Nat} {f : Int → Nat} (h : Counts w m c f) : m < w.heap.size := by
  obtain ⟨D, h1, _⟩ := h
  exact h1.lt
theorem Counts.look {w : World} {m c : Nat} {f : Int → Nat} (h : Counts w m c f) {id : Int} (hi : InI id) :
    (Instr.lookup 140 (.map (some m)) (.int .i64 id) false).run Tryz.prog w = .ok (.int .i64 (f id : Int)) w := by
  obtain ⟨D, hown, hat⟩ := h
  obtain ⟨v, hrun, h1, _⟩ := hown.lookup_int law3 Tryz.underlying140 Tryz.underlying3 (zero3 w) (keyOf3 hi)
  rw [hat id hi] at h1
  have : v = (f id : Int) := by
    have := h1
    simp at this
    exact this.symm
  rw [hrun, this]
def upd (f : Int → Nat) (id : Int) : Int → Nat := fun x => if x = id then f id + 1 else f x
theorem Counts.put {w w' : World} {m c : Nat} {f : Int → Nat} {D : UD} {id : Int} (hi : InI id) (hown : w.ownsMap Tryz.prog 3 (plainElem (H := Unit) Tryz.prog 3) m c D)
    (hat : ∀ id, InI id → D.atKey (.int .i64 id) (.lit (.int .i64 0)) = .lit (.int .i64 (f id : Int)))
    (h1 : w'.ownsMap Tryz.prog 3 (plainElem (H := Unit) Tryz.prog 3) m (c + 1) (D.put (.int .i64 id) (.lit (.int .i64 ((f id : Int) + 1))))) : Counts w' m (c + 1) (upd f id) := by
  refine ⟨_, h1, fun x hx => ?_⟩
  obtain ⟨es, clock, e1, e2, e3, e4⟩ := hown
  by_cases e : x = id
  · subst e
    rw [atKey_put_same ⟨_, e4⟩ (by simp [WideAt.IsKeyLit])]
    simp [upd]
  · rw [atKey_put_other (by intro h; simp at h; exact e h)]
    rw [hat x hx]
    simp [upd, e]

theorem Counts.made (w : World) : Counts (w.alloc (.map #[] 0)) w.heap.size 0 (fun _ => 0) := ⟨.map [], World.ownsMap_made _ _ _ _, fun id _ => rfl⟩
theorem Counts.congr {w : World} {m c : Nat} {f g : Int → Nat} (h : Counts w m c f) (e : ∀ x, f x = g x) : Counts w m c g := by
  obtain rfl : f = g := funext e
  exact h
end Go.Proofs.YtogjghmoankleaaGreat


namespace Go.Proofs.YtogjghmoankleaaGreat
open Go.RowKit Go.Maps
set_option linter.unusedVariables false
set_option linter.unusedSimpArgs false

/-- How many of the first i blocks have a number. -/
def cntN (bs : Nat → BV) (num : Int) : Nat → Nat
  | 0 => 0
  | i + 1 => cntN bs num i + (if (bs i).num = num then 1 else 0)
theorem cntN_le (bs : Nat → BV) (num : Int) : ∀ k, cntN bs num k ≤ k
  | 0 => Nat.le_refl _
  | k + 1 => by have := cntN_le bs num k; rw [cntN]; split <;> omega
theorem cntN_zero {bs : Nat → BV} {num : Int} : ∀ {k : Nat}, (∀ j, j < k → (bs j).num ≠ num) → cntN bs num k = 0
  | 0, _ => rfl
  | k + 1, h => by rw [cntN, cntN_zero fun j hj => h j (by omega), if_neg (h k (by omega))]
theorem cntN_pos {bs : Nat → BV} {num : Int} {i : Nat} : ∀ {k : Nat}, i < k → (bs i).num = num → 1 ≤ cntN bs num k
  | k + 1, h, ht => by
    rw [cntN]
    by_cases e : i = k
    · subst e; rw [if_pos ht]; omega
    · have := cntN_pos (k := k) (by omega) ht; omega
theorem cntN_dup {bs : Nat → BV} {i : Nat} : dupAt bs i = decide (1 ≤ cntN bs (bs i).num i) := by
  unfold dupAt
  cases h : firstOf (hasNumOf bs i) i with
  | none =>
    have h2 := firstOf_no h
    rw [cntN_zero fun j hj e => by have := h2 j hj; simp [hasNumOf] at this; exact this e.symm]; rfl
  | some j =>
    obtain ⟨h1, h2, _⟩ := firstOf_spec h
    have := cntN_pos (num := (bs i).num) h1 (by simp [hasNumOf] at h2; exact h2.symm)
    symm; simpa using this
def onceB (bs : Nat → BV) (k : Nat) : Bool := !dupB bs k && decide (cntB bs 1 k = 1) && decide (cntB bs 6 k < 2) && decide (cntB bs 7 k < 2) && decide (cntB bs 10 k < 2)
theorem cntN_upd (bs : Nat → BV) (i : Nat) (x : Int) : upd (fun x => cntN bs x i) (bs i).num x = cntN bs x (i + 1) := by
  unfold upd
  rw [cntN]
  by_cases e : x = (bs i).num
  · subst e; rw [if_pos rfl, if_pos rfl]
  · rw [if_neg e, if_neg (fun h => e h.symm)]; rfl
theorem cntB_upd (bs : Nat → BV) (i : Nat) (x : Int) : upd (fun x => cntB bs x i) (bs i).ty x = cntB bs x (i + 1) := by
  unfold upd
  rw [cntB]
  by_cases e : x = (bs i).ty
  · subst e; rw [if_pos rfl, if_pos rfl]
  · rw [if_neg e, if_neg (fun h => e h.symm)]; rfl
set_option maxRecDepth 20000 in
set_option maxHeartbeats 4000000 in
theorem once_any (bs : Nat → BV) (k c : Nat) (A : Option Addr) (hk : k ≤ 16) (hr : ∀ i, i < k → InI (bs i).num ∧ InI (bs i).ty) (w : World) (h : BsL w A k bs) : Calls Tryz.prog 79 #[.slice A k c] w (Ret (.bool (onceB bs k)) w) := by
  have HL := hid h
  have HI := hid hr
  have k1 : (k : Int) ≤ 16 := by omega
  have HK := hid hk
  have hmm := @run_makeMap Tryz.prog
  clear h hr hk
  go_enter Tryz.func79, Tryz.ntmps79
  go_upto_region 2 with fail
  have HE0 : Hid (Ext w ((w.alloc (.map #[] 0)).alloc (.map #[] 0))) := hid (((Mod.refl [] w).alloc _).alloc _)
  have HN0 : Hid (Counts ((w.alloc (.map #[] 0)).alloc (.map #[] 0)) w.heap.size 0 (fun _ => 0)) := hid ((Counts.made w).kept ((Mod.refl [] _).alloc _) (by simp))
  have HT0 : Hid (Counts ((w.alloc (.map #[] 0)).alloc (.map #[] 0)) (w.heap.size + 1) 0 (fun _ => 0)) := hid (by have := Counts.made (w.alloc (.map #[] 0)); simpa using this)
  clear hmm
  generalize (w.alloc (.map #[] 0)).alloc (.map #[] 0) = V at *
  generalize hM : w.heap.size = M at *
  have HM := hid hM
  clear hM
  go_upto_region 3 with fail
  go_loopw [11] (fun s11 wr => ∃ i : Nat, s11 = .int .i64 (i : Int) ∧ Hid (i ≤ k ∧ (∀ j, j < i → dupAt bs j = false) ∧ Ext w wr ∧ Counts wr M i (fun x => cntN bs x i) ∧ Counts wr (M + 1) i (fun x => cntB bs x i))) (fun s11 _ => k - (intOf s11).toNat)
  case atStart => exact ⟨0, rfl, (show Hid _ from ⟨Nat.zero_le _, fun j hj => by omega, HE0.out, HN0.out, HT0.out⟩)⟩
  case round =>
    clear HE0 HN0 HT0
    obtain ⟨i, rfl, hS⟩ := hrel
    rename World => wr
    have i0 : (0 : Int) ≤ (i : Int) := by omega
    by_cases hlt : i < k
    · obtain ⟨b, o, rfl, hb, q0, q1, q2, q3, q4⟩ := HL.out.cells hlt
      have tc : decide (i < k) = true := by simp [hlt]
      have i1 : (i : Int) < (k : Int) := by omega
      have i2 : i ≤ 16 := by have := HK.out; omega
      have HLT := hid hlt
      have u0 : wr.cell? ⟨b, o + i * 5, none⟩ = _ := q0 ⟨wr, hS.out.2.2.1⟩
      have u1 : wr.cell? ⟨b, o + i * 5 + 1, none⟩ = _ := q1 ⟨wr, hS.out.2.2.1⟩
      have u2 : wr.cell? ⟨b, o + i * 5 + 2, none⟩ = _ := q2 ⟨wr, hS.out.2.2.1⟩
      have u3 : wr.cell? ⟨b, o + i * 5 + 3, none⟩ = _ := q3 ⟨wr, hS.out.2.2.1⟩
      have u4 : wr.cell? ⟨b, o + i * 5 + 4, none⟩ = _ := q4 ⟨wr, hS.out.2.2.1⟩
      clear q0 q1 q2 q3 q4
      obtain ⟨hin, hit⟩ := HI.out i hlt
      clear hlt
      go_upto_region 5 with fail
      generalize hW1 : World.alloc wr _ = W1
      have HG1 : Hid (Blk W1 wr.heap.size 49 (BV.c (bs i))) := hid (by rw [← hW1]; exact Blk.new _ _ _)
      have hS1 : Hid (Ext w W1 ∧ Counts W1 M i (fun x => cntN bs x i) ∧ Counts W1 (M + 1) i (fun x => cntB bs x i)) := hid (by
        have h := hS.out.2.2
        rw [← hW1]
        exact ⟨h.1.alloc _, h.2.1.kept (Mod.alloc (S := []) (Mod.refl _ _) _) (by simp), h.2.2.kept (Mod.alloc (S := []) (Mod.refl _ _) _) (by simp)⟩)
      have HGM : Hid (wr.heap.size ≠ M ∧ wr.heap.size ≠ M + 1) := hid ⟨by have := hS.out.2.2.2.1.lt; omega, by have := hS.out.2.2.2.2.lt; omega⟩
      have hno := hS.out.2.1
      have HNO := hid hno
      clear hW1 hS u0 u1 u2 u3 u4 hno
      generalize wr.heap.size = G at *
      have HDA := hid (cntN_dup (bs := bs) (i := i))
      have hUN := cntN_upd bs i
      have hUT := cntB_upd bs i
      have HUN := hid hUN
      have HUT := hid hUT
      clear hUN hUT
      have hn1 := cntN_le bs (bs i).num i
      have hn2 := cntB_le bs (bs i).ty i
      have g0 : W1.cell? ⟨G, 0, none⟩ = some (.int .i64 (bs i).ty) := HG1.out.cell 0
      have g1 : W1.cell? ⟨G, 1, none⟩ = some (.int .i64 (bs i).num) := HG1.out.cell 1
      have hl := hS1.out.2.1.look hin
      try dsimp only at hl
      have hN1 : cntN bs (bs i).num (i + 1) = cntN bs (bs i).num i + 1 := by rw [cntN, if_pos rfl]
      have HN1 := hid hN1
      clear hN1
      obtain ⟨D, hown, hat⟩ := hS1.out.2.1
      have hkey := keyOf3 hin
      have u0 : (0 : Int) ≤ (cntN bs (bs i).num i : Nat) := by omega
      have u1 : ((cntN bs (bs i).num i : Nat) : Int) ≤ 16 := by omega
      have hw1 : (Lit.int .i64 (((cntN bs (bs i).num i : Nat) : Int) + 1)).wf = true := InI.wf (by unfold InI; omega)
      generalize hnn : cntN bs (bs i).num i = n1 at *
      have HNN := hid hnn
      clear hnn hn1
      go_upto_region 6 with (at_mapUpdate; refine wpList_mapUpdate_own _ rfl _ _ _ 140 rfl 3 3 law3 Tryz.underlying140 _ M i _ rfl hown (by unfold maxLen; omega) _ _ _ rfl rfl hkey _ [] (plainElem_int Tryz.underlying3 hw1) ?_; intro w2 hown2 hgrow2)
      have hC2 : Hid (Counts w2 M (i + 1) (fun x => cntN bs x (i + 1))) := hid ((Counts.put (f := fun x => cntN bs x i) hin hown hat (by (try dsimp only); rw [HNN.out]; exact hown2)).congr HUN.out)
      have m2 : Mod [M] W1 w2 := (Mod.refl _ _).grown hgrow2 (fun kk hkk => .inl (by cases hkk; simp))
      have HG2 := hid (HG1.out.mod m2 (by simpa using HGM.out.1))
      have HE2 : Hid (Ext w w2) := hid (Mod.new (S := [M]) (hS1.out.1.of_ext.trans m2) (fun kk hkk => .inr (by have := HM.out; simp at hkk; omega)))
      have hT2 := hS1.out.2.2.kept m2 (by simp)
      clear hl hown hat hown2 hgrow2 m2 g0 g1 hkey hw1 HG1 hS1 u0 u1
      have g0 : w2.cell? ⟨G, 0, none⟩ = some (.int .i64 (bs i).ty) := HG2.out.cell 0
      have hl := hT2.look hit
      try dsimp only at hl
      obtain ⟨D2, hown, hat⟩ := hT2
      have hkey := keyOf3 hit
      have u0 : (0 : Int) ≤ (cntB bs (bs i).ty i : Nat) := by omega
      have u1 : ((cntB bs (bs i).ty i : Nat) : Int) ≤ 16 := by omega
      have hw1 : (Lit.int .i64 (((cntB bs (bs i).ty i : Nat) : Int) + 1)).wf = true := InI.wf (by unfold InI; omega)
      generalize hnn2 : cntB bs (bs i).ty i = n2 at *
      have HNN2 := hid hnn2
      clear hnn2 hn2
      go_upto_region 7 with (at_mapUpdate; refine wpList_mapUpdate_own _ rfl _ _ _ 140 rfl 3 3 law3 Tryz.underlying140 _ (M + 1) i _ rfl hown (by unfold maxLen; omega) _ _ _ rfl rfl hkey _ [] (plainElem_int Tryz.underlying3 hw1) ?_; intro w3 hown3 hgrow3)
      have hC3 : Hid (Counts w3 (M + 1) (i + 1) (fun x => cntB bs x (i + 1))) := hid ((Counts.put (f := fun x => cntB bs x i) hit hown hat (by (try dsimp only); rw [HNN2.out]; exact hown3)).congr HUT.out)
      have m3 : Mod [M + 1] w2 w3 := (Mod.refl _ _).grown hgrow3 (fun kk hkk => .inl (by cases hkk; simp))
      have HG3 := hid (HG2.out.mod m3 (by simpa using HGM.out.2))
      have HE3 : Hid (Ext w w3) := hid (Mod.new (S := [M + 1]) (HE2.out.of_ext.trans m3) (fun kk hkk => .inr (by have := HM.out; simp at hkk; omega)))
      have hC4 := hid (hC2.out.kept m3 (by simp))
      clear hl hown hat hown3 hgrow3 m3 g0 hkey hw1 HG2 HE2 hC2 u0 u1
      have g1 : w3.cell? ⟨G, 1, none⟩ = some (.int .i64 (bs i).num) := HG3.out.cell 1
      have hl := hC4.out.look hin
      try dsimp only at hl
      rw [HN1.out, show ((n1 + 1 : Nat) : Int) = (n1 : Int) + 1 by omega] at hl

      by_cases hd : 1 ≤ n1
      · have HF : Hid (onceB bs k = false) := by
          have h1 : dupAt bs i = true := by rw [HDA.out]; simpa using hd
          have h2 : dupB bs k = true := by unfold dupB; rw [firstOf_some HLT.out h1 HNO.out]; rfl
          unfold Hid onceB; rw [h2]; rfl
        have ta : decide ((1 : Int) < (n1 : Int) + 1) = true := decide_eq_true (by omega)
        have tb : ((1 : Int) < (n1 : Int) + 1) = True := eq_true (by omega)
        have td : decide (1 < n1 + 1) = true := decide_eq_true (by omega)
        have te : (1 < n1 + 1) = True := eq_true (by omega)
        have te2 : (0 < n1) = True := eq_true (by omega)
        clear hd
        go_wp2_with fail
        go_ret
        exact Ret.mk (by rw [HF.out]; rfl) HE3.out
      · obtain rfl : n1 = 0 := by omega
        have HN : Hid (dupAt bs i = false) := hid (by rw [HDA.out]; rfl)
        clear hd
        go_wp2_with fail
        go_roundw
        case rel => exact ⟨i + 1, by go_num, (show Hid _ from ⟨HLT.out, fun j hj => by
          by_cases hji : j = i
          · subst hji; exact HN.out
          · exact HNO.out j (by omega), HE3.out, hC4.out, hC3.out⟩)⟩
        case measure => have := HLT.out; simp [intOf]; omega
    · obtain rfl : i = k := by have := hS.out.1; omega
      have tc : decide (i < i) = false := by simp
      have HD : Hid (dupB bs i = false) := by unfold Hid dupB; rw [firstOf_none hS.out.2.1]; rfl
      have HE := hid hS.out.2.2.1
      have hT := hS.out.2.2.2.2
      have l1 := hT.look (id := 1) (by unfold InI; omega)
      have l6 := hT.look (id := 6) (by unfold InI; omega)
      have l7 := hT.look (id := 7) (by unfold InI; omega)
      have l10 := hT.look (id := 10) (by unfold InI; omega)
      try dsimp only at l1 l6 l7 l10
      have HF : Hid (onceB bs i = (decide (cntB bs 1 i = 1) && decide (cntB bs 6 i < 2) && decide (cntB bs 7 i < 2) && decide (cntB bs 10 i < 2))) := by unfold Hid onceB; rw [HD.out]; rfl
      clear hT hS HD hlt HL
      generalize onceB bs i = R at *
      generalize cntB bs 1 i = n1 at *
      generalize cntB bs 6 i = n6 at *
      generalize cntB bs 7 i = n7 at *
      generalize cntB bs 10 i = n10 at *
      by_cases z1 : n1 = 1
      · subst z1
        have z1 : True := trivial
        by_cases z6 : n6 < 2
        · have HZ6 := hid z6
          have t6a : decide ((n6 : Int) < 2) = true := decide_eq_true (by omega)
          have t6b : ((n6 : Int) < 2) = True := eq_true (by omega)
          have t6na : decide (n6 < 2) = true := decide_eq_true (by omega)
          have t6nb : (n6 < 2) = True := eq_true (by omega)
          clear z6
          by_cases z7 : n7 < 2
          · have HZ7 := hid z7
            have t7a : decide ((n7 : Int) < 2) = true := decide_eq_true (by omega)
            have t7b : ((n7 : Int) < 2) = True := eq_true (by omega)
            have t7na : decide (n7 < 2) = true := decide_eq_true (by omega)
            have t7nb : (n7 < 2) = True := eq_true (by omega)
            clear z7
            by_cases z10 : n10 < 2
            · have HZ10 := hid z10
              have t10a : decide ((n10 : Int) < 2) = true := decide_eq_true (by omega)
              have t10b : ((n10 : Int) < 2) = True := eq_true (by omega)
              have t10na : decide (n10 < 2) = true := decide_eq_true (by omega)
              have t10nb : (n10 < 2) = True := eq_true (by omega)
              clear z10
              go_wp2_with fail
              go_ret
              exact Ret.mk (by rw [HF.out]; simp [HZ6.out, HZ7.out, HZ10.out]) HE.out
            · have HZ10 := hid z10
              have t10a : decide ((n10 : Int) < 2) = false := decide_eq_false (by omega)
              have t10b : ((n10 : Int) < 2) = False := eq_false (by omega)
              have t10na : decide (n10 < 2) = false := decide_eq_false (by omega)
              have t10nb : (n10 < 2) = False := eq_false (by omega)
              clear z10
              go_wp2_with fail
              go_ret
              exact Ret.mk (by rw [HF.out]; simp [HZ6.out, HZ7.out, HZ10.out]) HE.out
          · have HZ7 := hid z7
            have t7a : decide ((n7 : Int) < 2) = false := decide_eq_false (by omega)
            have t7b : ((n7 : Int) < 2) = False := eq_false (by omega)
            have t7na : decide (n7 < 2) = false := decide_eq_false (by omega)
            have t7nb : (n7 < 2) = False := eq_false (by omega)
            clear z7
            go_wp2_with fail
            go_ret
            exact Ret.mk (by rw [HF.out]; simp [HZ6.out, HZ7.out]) HE.out
        · have HZ6 := hid z6
          have t6a : decide ((n6 : Int) < 2) = false := decide_eq_false (by omega)
          have t6b : ((n6 : Int) < 2) = False := eq_false (by omega)
          have t6na : decide (n6 < 2) = false := decide_eq_false (by omega)
          have t6nb : (n6 < 2) = False := eq_false (by omega)
          clear z6
          go_wp2_with fail
          go_ret
          exact Ret.mk (by rw [HF.out]; simp [HZ6.out]) HE.out
      · have HZ1 := hid z1
        have t1a : (((n1 : Int)) == (1)) = false := by rw [beq_eq_false_iff_ne]; omega
        have t1b : (((n1 : Int)) = (1)) = False := eq_false (by omega)
        have t1c : (((n1 : Int)) != (1)) = true := by rw [bne_iff_ne]; omega
        have t1na : ((n1) == (1)) = false := by rw [beq_eq_false_iff_ne]; omega
        have t1nb : ((n1) = (1)) = False := eq_false (by omega)
        have t1nc : ((n1) != (1)) = true := by rw [bne_iff_ne]; omega
        clear z1
        go_wp2_with fail
        go_ret
        exact Ret.mk (by rw [HF.out]; simp [HZ1.out]) HE.out
end Go.Proofs.YtogjghmoankleaaGreat


namespace Go.Proofs.YtogjghmoankleaaGreat
open Go.RowKit
set_option linter.unusedVariables false
set_option linter.unusedSimpArgs false

theorem few10L_any (e : EV) (w : World) : Calls Tryz.prog 6 #[.agg #[.int .i64 e.sch, str e.name, .int .u64 (e.node : Int), .int .u64 (e.svc : Int)]] w (Ret (.bool (decide (e.name.length ≤ 100))) w) := by
  go_enter Tryz.func6, Tryz.ntmps6
  go_wp2
  go_ret
  refine Ret.mk ?_ ((Mod.refl _ _).alloc _)
  simp
  omega
def PV.few (p : PV) : Bool := decide (p.d.name.length ≤ 100) && decide (p.s.name.length ≤ 100) && decide (p.r.name.length ≤ 100)
def bsFew (bs : Nat → BV) (i : Nat) : Bool := decide (4100 < (bs i).data.length)
def bunFew (p : PV) (bs : Nat → BV) (k : Nat) : Bool := decide (k ≤ 20) && ((firstOf (bsFew bs) k).isNone && p.few)
theorem bunFew_spec {p : PV} {bs : Nat → BV} {k : Nat} (h : bunFew p bs k = true) : k ≤ 20 ∧ p.few = true ∧ ∀ i, i < k → (bs i).data.length ≤ 4100 := by
  unfold bunFew at h
  simp only [Bool.and_eq_true, decide_eq_true_eq] at h
  refine ⟨h.1, h.2.2, fun i hi => ?_⟩
  cases hf : firstOf (bsFew bs) k with
  | some x => rw [hf] at h; simp at h
  | none =>
    have := firstOf_no hf i hi
    unfold bsFew at this
    simp at this
    exact this
theorem bunFew_long {p : PV} {bs : Nat → BV} {k i : Nat} (hi : i < k) (h : 4100 < (bs i).data.length) : bunFew p bs k = false := by
  cases hb : bunFew p bs k with
  | false => rfl
  | true => have := (bunFew_spec hb).2.2 i hi; omega
end Go.Proofs.YtogjghmoankleaaGreat


namespace Go.Proofs.YtogjghmoankleaaGreat
open Go.RowKit Go.Shelf
set_option linter.unusedVariables false
set_option linter.unusedSimpArgs false

def hasNum (n : Int) (b : BV) : Bool := decide (b.num = n)
def numB (bs : Nat → BV) (n : Int) (i : Nat) : Bool := hasNum n (bs i)
/-- What Get hands back. -/
def getV (bs : Nat → BV) (n : Int) (k : Nat) : Value := match firstOf (numB bs n) k with | some i => .tuple #[(bs i).v, .bool true] | none => .tuple #[zeroB.v, .bool false]
end Go.Proofs.YtogjghmoankleaaGreat


namespace Go.Proofs.YtogjghmoankleaaGreat
open Go.RowKit
set_option linter.unusedVariables false
set_option linter.unusedSimpArgs false

section
variable {P : Program} {ops : Array Oper} {rest : List Oper} {o : Oper} {a : Act} {w : World}
/-- Two strings become one, in a plain region. -/
theorem wpList_cat {Q : Exit → Act → World → Prop} (hw : Region.wanted o (yielded ops a.tmps) = true) (ty t2 : TypeId) (x y : Operand) (ho : o.op = .binOp .add ty x y t2) (l1 l2 : List UInt8) (hx : a.eval x = str l1) (hy : a.eval y = str l2)
    (hl : l1.length + l2.length ≤ 9223372036854775807) (h : wpList P ops Q rest (a.put o.dst (str (l1 ++ l2))) w) : wpList P ops Q (o :: rest) a w :=
  wpList_step fun K hK => by
    rw [if_pos hw]
    have hl' : ¬ 9223372036854775807 < l1.length + l2.length := by omega
    have hk := hK _ _ h
    unfold Oper.wp execOp
    simp only [ho, hx, hy]
    simp [go_sem, hl']
    rw [ByteArray.mk_append_mk]
    exact hk
end
end Go.Proofs.YtogjghmoankleaaGreat


namespace Go.Proofs.YtogjghmoankleaaGreat
open Go.RowKit
set_option linter.unusedVariables false
set_option linter.unusedSimpArgs false

/-- What goes with a target, of a scope: the parts put together. -/
def besB (pr tg sc : List UInt8) (target : Int) (n : Nat) : List UInt8 :=
  ((headL 0 n ++ (if n % 2 = 1 ∧ target ≠ 0 then pr else [])) ++ (if n / 2 % 2 = 1 then tg else [])) ++ (if n / 4 = 1 then sc else [])
end Go.Proofs.YtogjghmoankleaaGreat


namespace Go.Proofs.YtogjghmoankleaaGreat
open Go.RowKit
set_option linter.unusedVariables false
set_option linter.unusedSimpArgs false

set_option maxRecDepth 20000 in
set_option maxHeartbeats 800000 in
theorem r13count_any (bs : Nat → BV) (k c : Nat) (A : Option Addr) (typ : Int) (hk : k < 4611686018427387904) (w : World) (h : BsL w A k bs) : Calls Tryz.prog 21 #[.slice A k c, .int .i64 typ] w (Ret (.int .i64 (cntB bs typ k : Nat)) w) := by
  have HL := hid h
  have k1 : (k : Int) < 4611686018427387904 := by omega
  clear h hk
  obtain ⟨e0, he0⟩ := Later.self w
  go_enter Tryz.func21, Tryz.ntmps21
  go_wp2_with fail
  go_loopw [5, 6] (fun s5 s6 wr => ∃ i : Nat, s6 = .int .i64 (i : Int) ∧ s5 = .int .i64 (cntB bs typ i : Nat) ∧ Hid (i ≤ k) ∧ ∃ e : Later w, wr = e.x) (fun _ s6 _ => k - (intOf s6).toNat)
  case atStart => exact ⟨0, rfl, rfl, (show Hid _ from Nat.zero_le _), e0, (by first | exact he0 | rfl)⟩
  case round =>
    clear he0 e0
    obtain ⟨i, rfl, rfl, hi, e, rfl⟩ := hrel
    have i0 : (0 : Int) ≤ (i : Int) := by omega
    by_cases hlt : i < k
    · obtain ⟨b, o, rfl, hb, q0, q1, q2, q3, q4⟩ := HL.out.cells hlt
      have tc : decide (i < k) = true := by simp [hlt]
      have i1 : (i : Int) < (k : Int) := by omega
      have HLT := hid hlt
      have hc0 : (0 : Int) ≤ (cntB bs typ i : Nat) := by omega
      have hc1 : ((cntB bs typ i : Nat) : Int) < 4611686018427387904 := by have := cntB_le bs typ i; omega
      clear hlt
      by_cases ht : (bs i).ty = typ
      · have HC : Hid (cntB bs typ (i + 1) = cntB bs typ i + 1) := by unfold Hid; rw [cntB, if_pos ht]
        have t1 : ((bs i).ty == typ) = true := by simpa using ht
        have t2 : ((bs i).ty = typ) = True := by simpa using ht
        clear ht
        generalize cntB bs typ i = n at *
        go_wp2_with fail
        go_roundw
        case rel => exact ⟨i + 1, by go_num, by rw [HC.out]; go_num, (show Hid _ from HLT.out), e, rfl⟩
        case measure => have := HLT.out; simp [intOf]; omega
      · have HC : Hid (cntB bs typ (i + 1) = cntB bs typ i) := by unfold Hid; rw [cntB, if_neg ht]; rfl
        have t1 : ((bs i).ty == typ) = false := by simpa using ht
        have t2 : ((bs i).ty = typ) = False := by simpa using ht
        clear ht
        generalize cntB bs typ i = n at *
        go_wp2_with fail
        go_roundw
        case rel => exact ⟨i + 1, by go_num, by rw [HC.out], (show Hid _ from HLT.out), e, rfl⟩
        case measure => have := HLT.out; simp [intOf]; omega
    · obtain rfl : i = k := by have := hi.out; omega
      have tc : decide (i < i) = false := by simp
      go_wp2_with fail
      go_ret
      exact Ret.mk rfl e.h
set_option maxRecDepth 20000 in
set_option maxHeartbeats 1600000 in
theorem r13twice_any (bs : Nat → BV) (k c : Nat) (A : Option Addr) (hk : k < 4611686018427387904) (w : World) (h : BsL w A k bs) : Calls Tryz.prog 22 #[.slice A k c] w (Ret (.bool (dupB bs k)) w) := by
  have HL := hid h
  have k1 : (k : Int) < 4611686018427387904 := by omega
  clear h hk
  obtain ⟨e0, he0⟩ := Later.self w
  go_enter Tryz.func22, Tryz.ntmps22
  go_wp2_with fail
  go_loopw [3] (fun s3 wr => ∃ i : Nat, s3 = .int .i64 (i : Int) ∧ Hid (i ≤ k ∧ ∀ j, j < i → dupAt bs j = false) ∧ ∃ e : Later w, wr = e.x) (fun s3 _ => k - (intOf s3).toNat)
  case atStart => exact ⟨0, rfl, (show Hid _ from ⟨Nat.zero_le _, fun j hj => by omega⟩), e0, (by first | exact he0 | rfl)⟩
  case round =>
    clear he0 e0
    obtain ⟨i, rfl, hi, e, rfl⟩ := hrel
    have i0 : (0 : Int) ≤ (i : Int) := by omega
    by_cases hlt : i < k
    · obtain ⟨b, o, rfl, hb, q0, q1, q2, q3, q4⟩ := HL.out.cells hlt
      have tc : decide (i < k) = true := by simp [hlt]
      have i1 : (i : Int) < (k : Int) := by omega
      have HLT := hid hlt
      clear hlt
      go_wp2_with fail
      go_loopw [4] (fun s4 wr => ∃ j : Nat, s4 = .int .i64 (j : Int) ∧ Hid (j ≤ i ∧ ∀ m, m < j → hasNumOf bs i m = false) ∧ ∃ e : Later w, wr = e.x) (fun s4 _ => i - (intOf s4).toNat)
      case atStart => exact ⟨0, rfl, (show Hid _ from ⟨Nat.zero_le _, fun j hj => by omega⟩), e, rfl⟩
      case round =>
        obtain ⟨j, rfl, hj, e3, rfl⟩ := hrel
        have j0 : (0 : Int) ≤ (j : Int) := by omega
        by_cases hjt : j < i
        · have hjk : j < k := Nat.lt_trans hjt HLT.out
          obtain ⟨b', o', hA', hb', u0, u1, u2, u3, u4⟩ := HL.out.cells hjk
          cases hA'
          have tj : decide (j < i) = true := by simp [hjt]
          have j1 : (j : Int) < (i : Int) := by omega
          have j2 : (j : Int) < (k : Int) := by omega
          have HJT := hid hjt
          clear hjt hjk
          by_cases ht : hasNumOf bs i j = true
          · have HF : Hid (dupB bs k = true) := by
              unfold Hid dupB
              rw [firstOf_some HLT.out (by unfold dupAt; rw [firstOf_some HJT.out ht hj.out.2]; rfl) hi.out.2]; rfl
            have hn : (bs i).num = (bs j).num := by simpa [hasNumOf] using ht
            have t1 : ((bs i).num == (bs j).num) = true := by simpa using hn
            have t2 : ((bs i).num = (bs j).num) = True := by simpa using hn
            clear ht hn
            generalize (bs i).num = ni at *
            generalize (bs j).num = nj at *
            clear hb hb'
            go_upto_region 7 with fail
            refine wp_region_later (by kernel_rfl) (by kernel_rfl) ?_
            repeat (first | go_big_quiet_step (fail))
            refine wpQuiet_nil ?_
            rintro _ ⟨e, rfl⟩
            go_wp2_with fail
            go_ret
            exact Ret.mk (by rw [HF.out]; rfl) e.h
          · have HN : Hid (hasNumOf bs i j = false) := by unfold Hid; simpa using ht
            have hn : ¬ (bs i).num = (bs j).num := by simpa [hasNumOf] using ht
            have t1 : ((bs i).num == (bs j).num) = false := by simpa using hn
            have t2 : ((bs i).num = (bs j).num) = False := by simpa using hn
            clear ht hn
            generalize hni : (bs i).num = ni at *
            generalize hnj : (bs j).num = nj at *
            clear hni hnj hb hb'
            go_upto_region 7 with fail
            refine wp_region_later (by kernel_rfl) (by kernel_rfl) ?_
            repeat (first | go_big_quiet_step (fail))
            refine wpQuiet_nil ?_
            rintro _ ⟨e, rfl⟩
            go_wp2_with fail
            go_roundw
            case rel => exact ⟨j + 1, by go_num, (show Hid _ from ⟨HJT.out, fun m hm => by
              by_cases hmj : m = j
              · subst hmj; exact HN.out
              · exact hj.out.2 m (by omega)⟩), e, rfl⟩
            case measure => have := HJT.out; simp [intOf]; omega
        · obtain rfl : j = i := by have := hj.out.1; omega
          have tj : decide (j < j) = false := by simp
          have HN : Hid (dupAt bs j = false) := by unfold Hid dupAt; rw [firstOf_none hj.out.2]; rfl
          go_wp2_with fail
          go_roundw
          case rel => exact ⟨j + 1, by go_num, (show Hid _ from ⟨HLT.out, fun m hm => by
            by_cases hmj : m = j
            · subst hmj; exact HN.out
            · exact hi.out.2 m (by omega)⟩), e3, rfl⟩
          case measure => have := HLT.out; simp [intOf]; omega
    · obtain rfl : i = k := by have := hi.out.1; omega
      have tc : decide (i < i) = false := by simp
      have HF : Hid (dupB bs i = false) := by unfold Hid dupB; rw [firstOf_none hi.out.2]; rfl
      go_wp2_with fail
      go_ret
      exact Ret.mk (by rw [HF.out]; rfl) e.h
set_option maxRecDepth 20000 in
set_option maxHeartbeats 1600000 in
theorem r13Bytes_any (p : PV) (bs : Nat → BV) (k c : Nat) (A : Option Addr) (hk : k ≤ 100000) (hp : p.right = 0) (hbs : ∀ i, i < k → (bs i).right = 0) (w : World) (h : BsL w A k bs) : Calls Tryz.prog 24 #[bunV p A k c] w (Ret (str (bunBytes p bs k)) w) := by
  have HE := hid ((Mod.refl [] w).alloc (.cells (bunC p A k c) 37))
  have HB0 : Hid (Blk (w.alloc (.cells (bunC p A k c) 37)) w.heap.size 37 (bunC p A k c)) := hid (Blk.new w 37 (bunC p A k c))
  have HL := hid (BsL.ext h HE.out)
  have k1 : (k : Int) ≤ 100000 := by omega
  have HK := hid hk
  have HBS := hid hbs
  have KP := hid (fun W => r11Build_ok p (PV.right_ranged hp) W)
  have lP : p.bytes.length ≤ 40000 := PV.bytes_length (PV.right_ranged hp)
  have HRes : Hid (bunBytes p bs k = (159 :: p.bytes) ++ blksB bs k ++ [255]) := rfl
  clear h hk hbs hp
  generalize p.bytes = PB at *
  generalize bunBytes p bs k = RES at *
  go_enter Tryz.func24, Tryz.ntmps24
  go_upto_region 1 with fail
  generalize (w.alloc (.cells (bunC p A k c) 37)) = V at *
  have HPR : Hid (∀ e : Later V, e.x.rangeAt w.heap.size 0 p.c.toList) := HB0.out.range 0 19 (by rw [Array.toList_extract]; rfl)
  have b19 : ∀ e : Later V, e.x.cell? ⟨w.heap.size, 19, none⟩ = some (.slice A k c) := HB0.out.cellL 19 rfl
  obtain ⟨e0, he0⟩ := Later.self V
  rw [he0]
  go_wp2_with (first | (refine wpList_mid (by rfl) 34 _ rfl _ 0 rfl _ _ (HPR.out _) Tryz.underlying34 rfl (by kernel_rfl) ?_) | (go_at_call 38; refine (Ret.later (KP.out _)).mono ?_; rintro x _ ⟨rfl, e, rfl⟩) | (refine wpList_cat (by rfl) _ _ [159] PB rfl _ _ rfl rfl (by simp only [List.length_cons, List.length_nil]; omega) ?_))
  go_loopw [3, 4] (fun s3 s4 wr => ∃ i : Nat, s4 = .int .i64 (i : Int) ∧ s3 = str ((159 :: PB) ++ blksB bs i) ∧ Hid (i ≤ k) ∧ ∃ e : Later V, wr = e.x) (fun _ s4 _ => k - (intOf s4).toNat)
  case atStart => exact ⟨0, rfl, by simp only [blksB, List.append_nil]; exact str_app [159] PB, (show Hid _ from Nat.zero_le _), e, rfl⟩
  case round =>
    clear he0 e0 e
    obtain ⟨i, rfl, rfl, hi, e, rfl⟩ := hrel
    have i0 : (0 : Int) ≤ (i : Int) := by omega
    have lX : ((159 :: PB) ++ blksB bs i).length ≤ 200000000000 := by
      have := blksB_length (bs := bs) (k := i) (fun j hj => HBS.out j (by have := hi.out; omega))
      have := hi.out
      have := HK.out
      rw [List.length_append, List.length_cons]
      omega
    by_cases hlt : i < k
    · obtain ⟨b, o, rfl, hb, q0, q1, q2, q3, q4⟩ := HL.out.cells hlt
      have tc : decide (i < k) = true := by simp [hlt]
      have i1 : (i : Int) < (k : Int) := by omega
      have HLT := hid hlt
      have KB := hid (fun W => r12Build_any (HBS.out i hlt) W)
      have lB := BV.bytes_length (HBS.out i hlt)
      have HC : Hid ((159 :: PB) ++ blksB bs (i + 1) = ((159 :: PB) ++ blksB bs i) ++ (bs i).bytes) := by unfold Hid; rw [blksB, List.append_assoc]
      clear hlt
      generalize (bs i).bytes = BB at *
      generalize (159 :: PB) ++ blksB bs i = X at *
      go_wp2_with (first | (go_at_call 39; refine (Ret.later (KB.out _)).mono ?_; rintro x _ ⟨rfl, e, rfl⟩) | (refine wpList_cat (by rfl) _ _ _ _ rfl _ _ rfl rfl (by (try simp only [List.length_append, List.length_cons, List.length_nil]); omega) ?_))
      go_roundw
      case rel => exact ⟨i + 1, by go_num, by (rw [HC.out]) <;> exact str_app _ _, (show Hid _ from HLT.out), e, rfl⟩
      case measure => have := HLT.out; simp [intOf]; omega
    · obtain rfl : i = k := by have := hi.out; omega
      have tc : decide (i < i) = false := by simp
      generalize (159 :: PB) ++ blksB bs i = X at *
      go_wp2_with (refine wpList_cat (by rfl) _ _ X [255] rfl _ _ rfl rfl (by simp only [List.length_cons, List.length_nil]; omega) ?_)
      go_ret
      exact Ret.mk (by rw [HRes.out]; rfl) (HE.out.trans e.h)
end Go.Proofs.YtogjghmoankleaaGreat


namespace Go.Proofs.YtogjghmoankleaaGreat
open Go.RowKit
set_option linter.unusedVariables false
set_option linter.unusedSimpArgs false

def partsR (p : PV) (bs : Nat → BV) (k : Nat) : Int := if p.right ≠ 0 then p.right else match firstOf (badAt bs) k with | some i => (bs i).right | none => 0
theorem cBuildB_any {b : BV} (h : b.right = 0) (w : World) : Calls Tryz.prog 82 #[b.v] w (Ret (.tuple #[str b.bytes, .int .i64 0]) w) := by
  have hz := BV.right_zero h
  obtain ⟨ty, num, e⟩ := bv_nat h
  obtain ⟨crc, e2⟩ : ∃ c : Nat, b.crc = (c : Int) := ⟨b.crc.toNat, by omega⟩
  obtain ⟨bty, bnum, bfl, bcrc, bdata⟩ := b
  simp only [BV.mk.injEq] at e e2
  obtain ⟨rfl, rfl, -⟩ := e
  subst e2
  simpa [BV.bytes] using Build_any ty num bfl crc bdata h w
set_option maxRecDepth 20000 in
theorem parts_p (p : PV) (bs : Nat → BV) (k c : Nat) (A : Option Addr) (hnl : Hid (p.d.name.length < 4611686018427387904 ∧ p.s.name.length < 4611686018427387904 ∧ p.r.name.length < 4611686018427387904)) (hf : p.fl < 18446744073709551616) (hb : p.right ≠ 0) (w : World) (h : BsL w A k bs) : Calls Tryz.prog 50 #[bunV p A k c] w (Ret (.int .i64 p.right) w) := by
  have KP := hid (fun W => cPriRight_any p hnl hf W)
  have HE := hid ((Mod.refl [] w).alloc (.cells (bunC p A k c) 37))
  have HB0 : Hid (Blk (w.alloc (.cells (bunC p A k c) 37)) w.heap.size 37 (bunC p A k c)) := hid (Blk.new w 37 (bunC p A k c))
  generalize p.right = r at *
  have ra : ((r) == (0)) = false := by rw [beq_eq_false_iff_ne]; exact hb
  have rb : ((r) = (0)) = False := eq_false (by exact hb)
  have rc : ((r) != (0)) = true := by rw [bne_iff_ne]; exact hb
  clear hb hf h
  go_enter Tryz.func50, Tryz.ntmps50
  go_upto_region 1 with fail
  generalize (w.alloc (.cells (bunC p A k c) 37)) = V at *
  have HPR : Hid (∀ e : Later V, e.x.rangeAt w.heap.size 0 p.c.toList) := HB0.out.range 0 19 (by rw [Array.toList_extract]; rfl)
  obtain ⟨e, he⟩ := Later.self V
  rw [he]
  clear he
  go_wp2_with (first | (refine wpList_mid (by rfl) 34 _ rfl _ 0 rfl _ _ (HPR.out _) Tryz.underlying34 rfl (by kernel_rfl) ?_) | (go_at_call 75; refine (Ret.later (KP.out _)).mono ?_; rintro x _ ⟨rfl, e, rfl⟩))
  go_ret
  exact Ret.mk rfl (HE.out.trans e.h)
set_option maxRecDepth 20000 in
set_option maxHeartbeats 1600000 in
theorem parts_ok (p : PV) (bs : Nat → BV) (k c : Nat) (A : Option Addr) (hnl : Hid (p.d.name.length < 4611686018427387904 ∧ p.s.name.length < 4611686018427387904 ∧ p.r.name.length < 4611686018427387904)) (hf : p.fl < 18446744073709551616) (hk : k < 4611686018427387904) (hb : p.right = 0) (w : World) (h : BsL w A k bs) : Calls Tryz.prog 50 #[bunV p A k c] w (Ret (.int .i64 (match firstOf (badAt bs) k with | some i => (bs i).right | none => 0)) w) := by
  generalize hRES : (match firstOf (badAt bs) k with | some i => (bs i).right | none => 0) = RES
  have HRES := hid hRES
  clear hRES
  have KP := hid (fun W => cPriRight_any p hnl hf W)
  rw [hb] at KP
  have HE := hid ((Mod.refl [] w).alloc (.cells (bunC p A k c) 37))
  have HB0 : Hid (Blk (w.alloc (.cells (bunC p A k c) 37)) w.heap.size 37 (bunC p A k c)) := hid (Blk.new w 37 (bunC p A k c))
  have HL := hid (BsL.ext h HE.out)
  have k1 : (k : Int) < 4611686018427387904 := by omega
  clear hb hf hk h
  go_enter Tryz.func50, Tryz.ntmps50
  go_upto_region 1 with fail
  generalize (w.alloc (.cells (bunC p A k c) 37)) = V at *
  have HPR : Hid (∀ e : Later V, e.x.rangeAt w.heap.size 0 p.c.toList) := HB0.out.range 0 19 (by rw [Array.toList_extract]; rfl)
  have b19 : ∀ e : Later V, e.x.cell? ⟨w.heap.size, 19, none⟩ = some (.slice A k c) := HB0.out.cellL 19 rfl
  obtain ⟨e, he⟩ := Later.self V
  rw [he]
  clear he
  go_upto_region 5 with (first | (refine wpList_mid (by rfl) 34 _ rfl _ 0 rfl _ _ (HPR.out _) Tryz.underlying34 rfl (by kernel_rfl) ?_) | (go_at_call 75; refine (Ret.later (KP.out _)).mono ?_; rintro x _ ⟨rfl, e, rfl⟩))
  go_loopw [16] (fun s5 wr => ∃ i : Nat, s5 = .int .i64 (i : Int) ∧ Hid (i ≤ k ∧ ∀ j, j < i → badAt bs j = false) ∧ ∃ e : Later V, wr = e.x) (fun s5 _ => k - (intOf s5).toNat)
  case atStart => exact ⟨0, rfl, (show Hid _ from ⟨Nat.zero_le _, fun j hj => by omega⟩), e, rfl⟩
  case round =>
    clear e
    obtain ⟨i, rfl, hi, e, rfl⟩ := hrel
    have i0 : (0 : Int) ≤ (i : Int) := by omega
    by_cases hlt : i < k
    · obtain ⟨b, o, rfl, hb, q0, q1, q2, q3, q4⟩ := HL.out.cells hlt
      have tc : decide (i < k) = true := by simp [hlt]
      have i1 : (i : Int) < (k : Int) := by omega
      have HLT := hid hlt
      have KX := hid (fun W => cbRight_any (bs i) W)
      clear hlt
      by_cases ht : badAt bs i = true
      · have HR : Hid (RES = (bs i).right) := by unfold Hid; rw [← HRES.out, firstOf_some HLT.out ht hi.out.2]
        have hx : (bs i).right ≠ 0 := by simpa [badAt] using ht
        clear ht
        generalize (bs i).right = r at *
        have ra : ((r) == (0)) = false := by rw [beq_eq_false_iff_ne]; exact hx
        have rb : ((r) = (0)) = False := eq_false (by exact hx)
        have rc : ((r) != (0)) = true := by rw [bne_iff_ne]; exact hx
        clear hx
        go_wp2_with (go_at_call 76; refine (Ret.laterW ((Later.h e).alloc _) (KX.out _)).mono ?_; rintro x _ ⟨rfl, e1, rfl⟩)
        go_ret
        exact Ret.mk (by rw [HR.out]; rfl) (HE.out.trans e1.h)
      · have HN : Hid (badAt bs i = false) := by unfold Hid; simpa using ht
        rw [bad_no HN.out] at KX
        clear ht
        go_wp2_with (go_at_call 76; refine (Ret.laterW ((Later.h e).alloc _) (KX.out _)).mono ?_; rintro x _ ⟨rfl, e1, rfl⟩)
        go_roundw
        case rel => exact ⟨i + 1, by go_num, (show Hid _ from ⟨HLT.out, fun j hj => by
          by_cases hji : j = i
          · subst hji; exact HN.out
          · exact hi.out.2 j (by omega)⟩), e1, rfl⟩
        case measure => have := HLT.out; simp [intOf]; omega
    · obtain rfl : i = k := by have := hi.out.1; omega
      have tc : decide (i < i) = false := by simp
      have HR1 : Hid (RES = 0) := by unfold Hid; rw [← HRES.out, firstOf_none hi.out.2]
      go_wp2_with fail
      go_ret
      exact Ret.mk (by rw [HR1.out]; rfl) (HE.out.trans e.h)
theorem bparts_any (p : PV) (bs : Nat → BV) (k c : Nat) (A : Option Addr) (hnl : Hid (p.d.name.length < 4611686018427387904 ∧ p.s.name.length < 4611686018427387904 ∧ p.r.name.length < 4611686018427387904)) (hf : p.fl < 18446744073709551616) (hk : k < 4611686018427387904) (w : World) (h : BsL w A k bs) : Calls Tryz.prog 50 #[bunV p A k c] w (Ret (.int .i64 (partsR p bs k)) w) := by
  unfold partsR
  by_cases hb : p.right = 0
  · rw [if_neg (by simpa using hb)]; exact parts_ok p bs k c A hnl hf hk hb w h
  · rw [if_pos hb]; exact parts_p p bs k c A hnl hf hb w h
set_option maxRecDepth 20000 in
theorem lasts_0 (bs : Nat → BV) (c : Nat) (A : Option Addr) (w : World) : Calls Tryz.prog 78 #[.slice A 0 c] w (Ret (.bool false) w) := by
  go_enter Tryz.func78, Tryz.ntmps78
  go_wp2_with fail
  go_ret
  exact Ret.mk rfl (Mod.refl _ _)
set_option maxRecDepth 20000 in
theorem lasts_S (bs : Nat → BV) (m c : Nat) (A : Option Addr) (hm : m < 4611686018427387904) (w : World) (h : BsL w A (m + 1) bs) : Calls Tryz.prog 78 #[.slice A (m + 1 : Nat) c] w (Ret (.bool (decide ((bs m).ty = 1))) w) := by
  obtain ⟨b, o, rfl, hb, q0, q1, q2, q3, q4⟩ := h.cells (Nat.lt_succ_self m)
  have m0 : (0 : Int) ≤ (m : Int) := by omega
  have m1 : (m : Int) < 4611686018427387904 := by omega
  have u0 : w.cell? ⟨b, o + m * 5, none⟩ = some (.int .i64 (bs m).ty) := q0 ⟨w, Mod.refl _ _⟩
  have tp : decide ((0 : Int) < ((m + 1 : Nat) : Int)) = true := decide_eq_true (by omega)
  have tq : ((0 : Int) < ((m + 1 : Nat) : Int)) = True := eq_true (by omega)
  have tr : decide ((0 : Int) < (m : Int) + 1) = true := decide_eq_true (by omega)
  have ts : ((0 : Int) < (m : Int) + 1) = True := eq_true (by omega)
  clear q0 q1 q2 q3 q4 h hb hm
  generalize (bs m).ty = ty at *
  by_cases ht : ty = 1
  · have HT := hid ht
    have ta : ((ty) == (1)) = true := by rw [beq_iff_eq]; exact ht
    have tb : ((ty) = (1)) = True := eq_true (by exact ht)
    have tc : ((ty) != (1)) = false := by rw [bne_eq_false_iff_eq]; exact ht
    clear ht
    go_enter Tryz.func78, Tryz.ntmps78
    go_wp2_with fail
    go_ret
    exact Ret.mk (by simp [HT.out]) (Mod.refl _ _)
  · have HT := hid ht
    have ta : ((ty) == (1)) = false := by rw [beq_eq_false_iff_ne]; exact ht
    have tb : ((ty) = (1)) = False := eq_false (by exact ht)
    have tc : ((ty) != (1)) = true := by rw [bne_iff_ne]; exact ht
    clear ht
    go_enter Tryz.func78, Tryz.ntmps78
    go_wp2_with fail
    go_ret
    exact Ret.mk (by simp [HT.out]) (Mod.refl _ _)
set_option maxRecDepth 20000 in
set_option maxHeartbeats 800000 in
theorem fits_S (p : PV) (bs : Nat → BV) (m c : Nat) (A : Option Addr) (hm : m < 4611686018427387904) (hf : p.fl < 18446744073709551616) (po : p.o ≤ 1099511627776) (hd : (bs m).data.length ≤ 100000) (w : World) (h : BsL w A (m + 1) bs) : Calls Tryz.prog 80 #[bunV p A (m + 1) c] w (Ret (.bool (!(has p.fl 1 && decide (p.n < p.o + (bs m).data.length)))) w) := by
  have HE := hid ((Mod.refl [] w).alloc (.cells (bunC p A (m + 1) c) 37))
  have HB0 := hid (Blk.new w 37 (bunC p A (m + 1) c))
  have HL := hid (BsL.ext h HE.out)
  obtain ⟨b, o, rfl, hb, q0, q1, q2, q3, q4⟩ := HL.out.cells (Nat.lt_succ_self m)
  have m0 : (0 : Int) ≤ (m : Int) := by omega
  have m1 : (m : Int) < 4611686018427387904 := by omega
  have ld : ((bs m).data.length : Int) ≤ 100000 := by omega
  have po2 : (p.o : Int) ≤ 1099511627776 := by omega
  have HA := hid (u64_and_powP p.fl 0 hf (by omega))
  clear q0 q1 q2 q3 h hb hm HL hd po
  have HRES : Hid (has p.fl 1 = decide (p.fl % 2 = 1)) := by unfold Hid has; simp
  go_enter Tryz.func80, Tryz.ntmps80
  go_upto_region 1 with fail
  generalize w.alloc (.cells (bunC p (some ⟨b, o, none⟩) (m + 1) c) 37) = V at *
  have b19 : V.cell? ⟨w.heap.size, 19, none⟩ = some (.slice (some ⟨b, o, none⟩) (m + 1) c) := HB0.out.cell 19
  have b0 : V.cell? ⟨w.heap.size, 0, none⟩ = some (.int .u64 (p.fl : Int)) := HB0.out.cell 0
  have b17 : V.cell? ⟨w.heap.size, 17, none⟩ = some (.int .u64 (p.o : Int)) := HB0.out.cell 17
  have b18 : V.cell? ⟨w.heap.size, 18, none⟩ = some (.int .u64 (p.n : Int)) := HB0.out.cell 18
  have u4 : V.cell? ⟨b, o + m * 5 + 4, none⟩ = some (str (bs m).data) := q4 ⟨V, Mod.refl _ _⟩
  clear q4
  generalize (bs m).data = dat at *
  generalize p.o = po at *
  generalize p.n = pn at *
  go_upto_region 2 with fail
  by_cases hh : p.fl % 2 = 1
  · have ha : bits .and .u64 (p.fl : Int) 1 = 1 := by have := HA.out; simpa [hh] using this
    have HR : Hid (has p.fl 1 = true) := by unfold Hid; rw [HRES.out]; simpa using hh
    clear hh HA HRES
    by_cases hv : pn < po + dat.length
    · have HV := hid hv
      have va : decide ((po : Int) + (dat.length : Int) ≤ (pn : Int)) = false := decide_eq_false (by omega)
      have vb : ((po : Int) + (dat.length : Int) ≤ (pn : Int)) = False := eq_false (by omega)
      have vc : decide (po + dat.length ≤ pn) = false := decide_eq_false (by omega)
      clear hv
      go_wp2_with fail
      go_ret
      exact Ret.mk (by rw [HR.out]; simp [HV.out]) HE.out
    · have HV := hid hv
      have va : decide ((po : Int) + (dat.length : Int) ≤ (pn : Int)) = true := decide_eq_true (by omega)
      have vb : ((po : Int) + (dat.length : Int) ≤ (pn : Int)) = True := eq_true (by omega)
      have vc : decide (po + dat.length ≤ pn) = true := decide_eq_true (by omega)
      clear hv
      go_wp2_with fail
      go_ret
      exact Ret.mk (by rw [HR.out]; simp [HV.out]) HE.out
  · have ha : bits .and .u64 (p.fl : Int) 1 = 0 := by have := HA.out; simpa [hh] using this
    have HR : Hid (has p.fl 1 = false) := by unfold Hid; rw [HRES.out]; simpa using hh
    clear hh HA HRES
    go_wp2_with fail
    go_ret
    exact Ret.mk (by rw [HR.out]; simp) HE.out
set_option maxRecDepth 20000 in
set_option maxHeartbeats 1600000 in
theorem bbuild_any (p : PV) (bs : Nat → BV) (k c : Nat) (A : Option Addr) (hnl : Hid (p.d.name.length < 4611686018427387904 ∧ p.s.name.length < 4611686018427387904 ∧ p.r.name.length < 4611686018427387904)) (hf : p.fl < 18446744073709551616) (hk : k ≤ 100000) (hp : p.right = 0) (hbs : ∀ i, i < k → (bs i).right = 0) (w : World) (h : BsL w A k bs) : Calls Tryz.prog 52 #[bunV p A k c] w (Ret (str (bunBytes p bs k)) w) := by
  have HE := hid ((Mod.refl [] w).alloc (.cells (bunC p A k c) 37))
  have HB0 : Hid (Blk (w.alloc (.cells (bunC p A k c) 37)) w.heap.size 37 (bunC p A k c)) := hid (Blk.new w 37 (bunC p A k c))
  have HL := hid (BsL.ext h HE.out)
  have k1 : (k : Int) ≤ 100000 := by omega
  have HK := hid hk
  have HBS := hid hbs
  have KP := hid (fun W => cPriBuild_ok p hnl hf hp W)
  have KO4 : Hid (∀ W, Calls Tryz.prog 74 #[.int .i64 4] W (Ret (str [159]) W)) := fun W => by have := open_yes 4 (by rfl) W; rw [show openL ((4 : Nat) : Int) = [159] from by decide] at this; exact this
  have KO7 : Hid (∀ W, Calls Tryz.prog 74 #[.int .i64 7] W (Ret (str [255]) W)) := fun W => by have := open_yes 7 (by rfl) W; rw [show openL ((7 : Nat) : Int) = [255] from by decide] at this; exact this
  have lP : p.bytes.length ≤ 40000 := PV.bytes_length (PV.right_ranged hp)
  have HRes : Hid (bunBytes p bs k = (159 :: p.bytes) ++ blksB bs k ++ [255]) := rfl
  clear h hk hbs hp hf
  generalize p.bytes = PB at *
  generalize bunBytes p bs k = RES at *
  go_enter Tryz.func52, Tryz.ntmps52
  go_upto_region 1 with fail
  generalize (w.alloc (.cells (bunC p A k c) 37)) = V at *
  have HPR : Hid (∀ e : Later V, e.x.rangeAt w.heap.size 0 p.c.toList) := HB0.out.range 0 19 (by rw [Array.toList_extract]; rfl)
  have b19 : ∀ e : Later V, e.x.cell? ⟨w.heap.size, 19, none⟩ = some (.slice A k c) := HB0.out.cellL 19 rfl
  obtain ⟨e, he⟩ := Later.self V
  rw [he]
  clear he
  go_upto_region 4 with (first | (refine wpList_mid (by rfl) 34 _ rfl _ 0 rfl _ _ (HPR.out _) Tryz.underlying34 rfl (by kernel_rfl) ?_) | (go_at_call 81; refine (Ret.later (KP.out _)).mono ?_; rintro x _ ⟨rfl, e, rfl⟩) | (go_at_call 74; refine (Ret.later (KO4.out _)).mono ?_; rintro x _ ⟨rfl, e, rfl⟩))
  go_loopw [3, 21] (fun s3 s4 wr => ∃ i : Nat, s4 = .int .i64 (i : Int) ∧ s3 = str ((159 :: PB) ++ blksB bs i) ∧ Hid (i ≤ k) ∧ ∃ e : Later V, wr = e.x) (fun _ s4 _ => k - (intOf s4).toNat)
  case atStart => exact ⟨0, rfl, by simp only [blksB, List.append_nil]; exact str_app [159] PB, (show Hid _ from Nat.zero_le _), e, rfl⟩
  case round =>
    clear e
    obtain ⟨i, rfl, rfl, hi, e, rfl⟩ := hrel
    have i0 : (0 : Int) ≤ (i : Int) := by omega
    have lX : ((159 :: PB) ++ blksB bs i).length ≤ 200000000000 := by
      have := blksB_length (bs := bs) (k := i) (fun j hj => HBS.out j (by have := hi.out; omega))
      have := hi.out
      have := HK.out
      rw [List.length_append, List.length_cons]
      omega
    by_cases hlt : i < k
    · obtain ⟨b, o, rfl, hb, q0, q1, q2, q3, q4⟩ := HL.out.cells hlt
      have tc : decide (i < k) = true := by simp [hlt]
      have i1 : (i : Int) < (k : Int) := by omega
      have HLT := hid hlt
      have KB := hid (fun W => cBuildB_any (HBS.out i hlt) W)
      have lB := BV.bytes_length (HBS.out i hlt)
      have HC : Hid ((159 :: PB) ++ blksB bs (i + 1) = ((159 :: PB) ++ blksB bs i) ++ (bs i).bytes) := by unfold Hid; rw [blksB, List.append_assoc]
      clear hlt
      generalize (bs i).bytes = BB at *
      generalize (159 :: PB) ++ blksB bs i = X at *
      go_wp2_with (first | (go_at_call 82; refine (Ret.laterW ((Later.h e).alloc _) (KB.out _)).mono ?_; rintro x _ ⟨rfl, e1, rfl⟩) | (refine wpList_cat (by rfl) _ _ _ _ rfl _ _ rfl rfl (by (try simp only [List.length_append, List.length_cons, List.length_nil]); omega) ?_))
      go_roundw
      case rel => exact ⟨i + 1, by go_num, by (rw [HC.out]) <;> exact str_app _ _, (show Hid _ from HLT.out), e1, rfl⟩
      case measure => have := HLT.out; simp [intOf]; omega
    · obtain rfl : i = k := by have := hi.out; omega
      have tc : decide (i < i) = false := by simp
      generalize (159 :: PB) ++ blksB bs i = X at *
      go_wp2_with (first | (go_at_call 74; refine (Ret.later (KO7.out _)).mono ?_; rintro x _ ⟨rfl, e, rfl⟩) | (refine wpList_cat (by rfl) _ _ X [255] rfl _ _ rfl rfl (by simp only [List.length_cons, List.length_nil]; omega) ?_))
      go_ret
      exact Ret.mk (by rw [HRes.out]; rfl) (HE.out.trans e.h)
end Go.Proofs.YtogjghmoankleaaGreat


namespace Go.Proofs.YtogjghmoankleaaGreat
open Go.RowKit
set_option linter.unusedVariables false
set_option linter.unusedSimpArgs false

def rulesR (p : PV) (bs : Nat → BV) (k : Nat) : Int := if 16 < k then 4 else if bunRule1 bs k then 8 else if bunRule2 p bs k then 8 else if bunRule3 p bs k then 8 else 0
theorem find_age (bs : Nat → BV) (k : Nat) : ∃ x : BV, findV bs 7 k = .tuple #[x.v, .bool (decide (cntB bs 7 k ≠ 0))] := by
  have h := cntB_find (bs := bs) (typ := 7) (k := k)
  unfold findV
  cases hf : firstOf (tyB bs 7) k with
  | some i => rw [hf] at h; rw [← h]; exact ⟨bs i, rfl⟩
  | none => rw [hf] at h; rw [← h]; exact ⟨zeroB, rfl⟩
theorem rule1_once (bs : Nat → BV) (k : Nat) : bunRule1 bs k = (decide (k = 0) || !onceB bs k) := by
  unfold bunRule1 onceB
  rw [Bool.eq_iff_iff]
  cases dupB bs k <;> simp <;> omega
theorem right_wf {b : BV} (h : b.right = 0) : InI b.num ∧ InI b.ty := by
  have := BV.right_zero h
  unfold InI
  omega
set_option maxRecDepth 20000 in
theorem rules_16 (p : PV) (bs : Nat → BV) (k c : Nat) (A : Option Addr) (h16 : 16 < k) (w : World) (h : BsL w A k bs) : Calls Tryz.prog 51 #[bunV p A k c] w (Ret (.int .i64 4) w) := by
  have HE := hid ((Mod.refl [] w).alloc (.cells (bunC p A k c) 37))
  have HB0 : Hid (Blk (w.alloc (.cells (bunC p A k c) 37)) w.heap.size 37 (bunC p A k c)) := hid (Blk.new w 37 (bunC p A k c))
  have xa : decide ((16 : Int) < (k : Int)) = true := decide_eq_true (by omega)
  have xb : ((16 : Int) < (k : Int)) = True := eq_true (by omega)
  have xc : decide (16 < k) = true := decide_eq_true h16
  clear h h16
  go_enter Tryz.func51, Tryz.ntmps51
  go_upto_region 1 with fail
  generalize (w.alloc (.cells (bunC p A k c) 37)) = V at *
  have b19 : ∀ e : Later V, e.x.cell? ⟨w.heap.size, 19, none⟩ = some (.slice A k c) := HB0.out.cellL 19 rfl
  have b14 : ∀ e : Later V, e.x.cell? ⟨w.heap.size, 14, none⟩ = some (.int .u64 (p.t : Int)) := HB0.out.cellL 14 rfl
  obtain ⟨e, he⟩ := Later.self V
  rw [he]
  clear he
  go_wp2_with fail
  go_ret
  exact Ret.mk rfl (HE.out.trans e.h)
set_option maxRecDepth 20000 in
set_option maxHeartbeats 3200000 in
theorem rules_let (p : PV) (bs : Nat → BV) (k c : Nat) (A : Option Addr) (h16 : ¬ 16 < k) (x : BV) (L O G F : Bool) (KF : ∀ W, BsL W A k bs → Calls Tryz.prog 77 #[bunV p A k c, .int .i64 7] W (Ret (.tuple #[x.v, .bool G]) W)) (KL : ∀ W, BsL W A k bs → Calls Tryz.prog 78 #[.slice A k c] W (Ret (.bool L) W)) (KO : ∀ W, BsL W A k bs → Calls Tryz.prog 79 #[.slice A k c] W (Ret (.bool O) W)) (KG : L = true → ∀ W, BsL W A k bs → Calls Tryz.prog 80 #[bunV p A k c] W (Ret (.bool F) W)) (w : World) (h : BsL w A k bs) : Calls Tryz.prog 51 #[bunV p A k c] w (Ret (.int .i64 (if !L || !O || (decide (p.t = 0) && !G) || !F then 8 else 0)) w) := by
  generalize hRES : (if !L || !O || (decide (p.t = 0) && !G) || !F then (8 : Int) else 0) = RES
  have HRES := hid hRES.symm
  clear hRES
  have HE := hid ((Mod.refl [] w).alloc (.cells (bunC p A k c) 37))
  have HB0 : Hid (Blk (w.alloc (.cells (bunC p A k c) 37)) w.heap.size 37 (bunC p A k c)) := hid (Blk.new w 37 (bunC p A k c))
  have xa : decide ((16 : Int) < (k : Int)) = false := decide_eq_false (by omega)
  have xb : ((16 : Int) < (k : Int)) = False := eq_false (by omega)
  have xc : decide (16 < k) = false := decide_eq_false h16
  have HL := hid (BsL.ext h HE.out)
  have KF := hid KF
  have KL := hid KL
  have KO := hid KO
  have KG := hid KG
  clear h h16
  go_enter Tryz.func51, Tryz.ntmps51
  go_upto_region 1 with fail
  generalize (w.alloc (.cells (bunC p A k c) 37)) = V at *
  have b19 : ∀ e : Later V, e.x.cell? ⟨w.heap.size, 19, none⟩ = some (.slice A k c) := HB0.out.cellL 19 rfl
  have b14 : ∀ e : Later V, e.x.cell? ⟨w.heap.size, 14, none⟩ = some (.int .u64 (p.t : Int)) := HB0.out.cellL 14 rfl
  obtain ⟨e, he⟩ := Later.self V
  rw [he]
  clear he
  go_upto_region 4 with (first | (go_at_call 77; refine (Ret.later (KF.out _ (HL.out.ext (Later.h _)))).mono ?_; rintro x _ ⟨rfl, e, rfl⟩) | (refine wpList_row (by rfl) 37 _ rfl _ rfl (HB0.out.later _) Tryz.underlying37 rfl (by kernel_rfl) ?_))
  generalize hU : World.alloc e.x _ = U
  obtain ⟨e2, rfl⟩ : ∃ e2 : Later V, U = e2.x := ⟨⟨U, by rw [← hU]; exact (Later.h e).alloc _⟩, rfl⟩
  clear hU
  cases L with
  | false =>
    go_wp2_with (first | (go_at_call 78; refine (Ret.later (KL.out _ (HL.out.ext (Later.h _)))).mono ?_; rintro x _ ⟨rfl, e, rfl⟩))
    go_ret
    exact Ret.mk (by rw [HRES.out]; simp) (HE.out.trans (Later.h _))
  | true =>
    have KH := hid (KG.out rfl)
    clear KG
    cases O with
    | false =>
      go_wp2_with (first | (go_at_call 78; refine (Ret.later (KL.out _ (HL.out.ext (Later.h _)))).mono ?_; rintro x _ ⟨rfl, e, rfl⟩) | (go_at_call 79; refine (Ret.later (KO.out _ (HL.out.ext (Later.h _)))).mono ?_; rintro x _ ⟨rfl, e, rfl⟩))
      go_ret
      exact Ret.mk (by rw [HRES.out]; simp) (HE.out.trans (Later.h _))
    | true =>
      by_cases ht : p.t = 0
      · have HT := hid ht
        have ta : (((p.t : Int)) == (0)) = true := by rw [beq_iff_eq]; omega
        have tb : (((p.t : Int)) = (0)) = True := eq_true (by omega)
        have tc : (((p.t : Int)) != (0)) = false := by rw [bne_eq_false_iff_eq]; omega
        have ua : ((p.t) == (0)) = true := by rw [beq_iff_eq]; omega
        have ub : ((p.t) = (0)) = True := eq_true (by omega)
        have uc : ((p.t) != (0)) = false := by rw [bne_eq_false_iff_eq]; omega
        clear ht
        cases G with
        | false =>
          go_wp2_with (first | (go_at_call 78; refine (Ret.later (KL.out _ (HL.out.ext (Later.h _)))).mono ?_; rintro x _ ⟨rfl, e, rfl⟩) | (go_at_call 79; refine (Ret.later (KO.out _ (HL.out.ext (Later.h _)))).mono ?_; rintro x _ ⟨rfl, e, rfl⟩))
          go_ret
          exact Ret.mk (by rw [HRES.out]; simp [HT.out]) (HE.out.trans (Later.h _))
        | true =>
          cases F with
          | false =>
            go_wp2_with (first | (go_at_call 78; refine (Ret.later (KL.out _ (HL.out.ext (Later.h _)))).mono ?_; rintro x _ ⟨rfl, e, rfl⟩) | (go_at_call 79; refine (Ret.later (KO.out _ (HL.out.ext (Later.h _)))).mono ?_; rintro x _ ⟨rfl, e, rfl⟩) | (go_at_call 80; refine (Ret.later (KH.out _ (HL.out.ext (Later.h _)))).mono ?_; rintro x _ ⟨rfl, e, rfl⟩) | (refine wpList_row (by rfl) 37 _ rfl _ rfl (HB0.out.later _) Tryz.underlying37 rfl (by kernel_rfl) ?_))
            go_ret
            exact Ret.mk (by rw [HRES.out]; simp) (HE.out.trans (Later.h _))
          | true =>
            go_wp2_with (first | (go_at_call 78; refine (Ret.later (KL.out _ (HL.out.ext (Later.h _)))).mono ?_; rintro x _ ⟨rfl, e, rfl⟩) | (go_at_call 79; refine (Ret.later (KO.out _ (HL.out.ext (Later.h _)))).mono ?_; rintro x _ ⟨rfl, e, rfl⟩) | (go_at_call 80; refine (Ret.later (KH.out _ (HL.out.ext (Later.h _)))).mono ?_; rintro x _ ⟨rfl, e, rfl⟩) | (refine wpList_row (by rfl) 37 _ rfl _ rfl (HB0.out.later _) Tryz.underlying37 rfl (by kernel_rfl) ?_))
            go_ret
            exact Ret.mk (by rw [HRES.out]; simp) (HE.out.trans (Later.h _))
      · have HT := hid ht
        have ta : (((p.t : Int)) == (0)) = false := by rw [beq_eq_false_iff_ne]; omega
        have tb : (((p.t : Int)) = (0)) = False := eq_false (by omega)
        have tc : (((p.t : Int)) != (0)) = true := by rw [bne_iff_ne]; omega
        have ua : ((p.t) == (0)) = false := by rw [beq_eq_false_iff_ne]; omega
        have ub : ((p.t) = (0)) = False := eq_false (by omega)
        have uc : ((p.t) != (0)) = true := by rw [bne_iff_ne]; omega
        clear ht
        cases F with
        | false =>
          go_wp2_with (first | (go_at_call 78; refine (Ret.later (KL.out _ (HL.out.ext (Later.h _)))).mono ?_; rintro x _ ⟨rfl, e, rfl⟩) | (go_at_call 79; refine (Ret.later (KO.out _ (HL.out.ext (Later.h _)))).mono ?_; rintro x _ ⟨rfl, e, rfl⟩) | (go_at_call 80; refine (Ret.later (KH.out _ (HL.out.ext (Later.h _)))).mono ?_; rintro x _ ⟨rfl, e, rfl⟩) | (refine wpList_row (by rfl) 37 _ rfl _ rfl (HB0.out.later _) Tryz.underlying37 rfl (by kernel_rfl) ?_))
          go_ret
          exact Ret.mk (by rw [HRES.out]; simp [HT.out]) (HE.out.trans (Later.h _))
        | true =>
          go_wp2_with (first | (go_at_call 78; refine (Ret.later (KL.out _ (HL.out.ext (Later.h _)))).mono ?_; rintro x _ ⟨rfl, e, rfl⟩) | (go_at_call 79; refine (Ret.later (KO.out _ (HL.out.ext (Later.h _)))).mono ?_; rintro x _ ⟨rfl, e, rfl⟩) | (go_at_call 80; refine (Ret.later (KH.out _ (HL.out.ext (Later.h _)))).mono ?_; rintro x _ ⟨rfl, e, rfl⟩) | (refine wpList_row (by rfl) 37 _ rfl _ rfl (HB0.out.later _) Tryz.underlying37 rfl (by kernel_rfl) ?_))
          go_ret
          exact Ret.mk (by rw [HRES.out]; simp [HT.out]) (HE.out.trans (Later.h _))
theorem rules_any (p : PV) (bs : Nat → BV) (k c : Nat) (A : Option Addr) (hf : p.fl < 18446744073709551616) (hk : k < 4611686018427387904) (hp : p.right = 0) (hbs : ∀ i, i < k → (bs i).right = 0) (w : World) (h : BsL w A k bs) : Calls Tryz.prog 51 #[bunV p A k c] w (Ret (.int .i64 (rulesR p bs k)) w) := by
  have hrs := PV.ranged_spec (PV.right_ranged hp)
  unfold rulesR
  by_cases h16 : 16 < k
  · rw [if_pos h16]; exact rules_16 p bs k c A h16 w h
  · rw [if_neg h16, rule1_once]
    obtain ⟨x, hx⟩ := find_age bs k
    have KF : ∀ W, BsL W A k bs → Calls Tryz.prog 77 #[bunV p A k c, .int .i64 7] W (Ret (.tuple #[x.v, .bool (decide (cntB bs 7 k ≠ 0))]) W) := fun W hW => by rw [← hx]; exact Find_any p bs k c A 7 hk W hW
    have KO : ∀ W, BsL W A k bs → Calls Tryz.prog 79 #[.slice A k c] W (Ret (.bool (onceB bs k)) W) := fun W hW => once_any bs k c A (by omega) (fun i hi => right_wf (hbs i hi)) W hW
    cases k with
    | zero =>
      have := rules_let p bs 0 c A h16 x false (onceB bs 0) _ true KF (fun W hW => lasts_0 bs c A W) KO (fun e => by cases e) w h
      simpa using this
    | succ m =>
      have hm := hbs m (by omega)
      have hz := BV.right_zero hm
      have := rules_let p bs (m + 1) c A h16 x (decide ((bs m).ty = 1)) (onceB bs (m + 1)) _ (!(has p.fl 1 && decide (p.n < p.o + (bs m).data.length))) KF (fun W hW => lasts_S bs m c A (by omega) W hW) KO (fun _ W hW => fits_S p bs m c A (by omega) hf (by omega) (by omega) W hW) w h
      refine this.mono fun r w' hr => ?_
      have e : (if !decide ((bs m).ty = 1) || !onceB bs (m + 1) || (decide (p.t = 0) && !decide (cntB bs 7 (m + 1) ≠ 0)) || !!(has p.fl 1 && decide (p.n < p.o + (bs m).data.length)) then (8 : Int) else 0) =
          if (decide (m + 1 = 0) || !onceB bs (m + 1)) = true then 8 else if bunRule2 p bs (m + 1) = true then 8 else if bunRule3 p bs (m + 1) = true then 8 else 0 := by
        unfold bunRule2 bunRule3
        simp only [Nat.add_sub_cancel]
        cases onceB bs (m + 1) <;> by_cases ht : (bs m).ty = 1 <;> by_cases h0 : p.t = 0 <;> by_cases h7 : cntB bs 7 (m + 1) = 0 <;> cases has p.fl 1 <;> simp [ht, h0, h7]
      rw [← e]
      exact hr
set_option maxRecDepth 20000 in
set_option maxHeartbeats 1600000 in
theorem made_p (p : PV) (bs : Nat → BV) (k c : Nat) (A : Option Addr) (r : Int) (hr : r ≠ 0) (KP : Hid (∀ W, BsL W A k bs → Calls Tryz.prog 50 #[bunV p A k c] W (Ret (.int .i64 r) W))) (w : World) (h : BsL w A k bs) : Calls Tryz.prog 32 #[bunV p A k c] w (Ret (.tuple #[str [], .int .i64 r]) w) := by
  have HE := hid ((Mod.refl [] w).alloc (.cells (bunC p A k c) 37))
  have HB0 : Hid (Blk (w.alloc (.cells (bunC p A k c) 37)) w.heap.size 37 (bunC p A k c)) := hid (Blk.new w 37 (bunC p A k c))
  have HL := hid (BsL.ext h HE.out)
  clear h
  have ra : ((r) == (0)) = false := by rw [beq_eq_false_iff_ne]; exact hr
  have rb : ((r) = (0)) = False := eq_false (by exact hr)
  have rc : ((r) != (0)) = true := by rw [bne_iff_ne]; exact hr
  clear hr
  go_enter Tryz.func32, Tryz.ntmps32
  go_upto_region 1 with fail
  generalize (w.alloc (.cells (bunC p A k c) 37)) = V at *
  obtain ⟨e, he⟩ := Later.self V
  rw [he]
  clear he
  go_wp2_with (first | (refine wpList_row (by rfl) 37 _ rfl _ rfl (HB0.out.later _) Tryz.underlying37 rfl (by kernel_rfl) ?_) | (go_at_call 50; refine (Ret.later (KP.out _ (HL.out.ext (Later.h _)))).mono ?_; rintro x _ ⟨rfl, e, rfl⟩))
  go_ret2
  exact Ret.mk rfl (HE.out.trans (Later.h _))
set_option maxRecDepth 20000 in
set_option maxHeartbeats 1600000 in
theorem made_r (p : PV) (bs : Nat → BV) (k c : Nat) (A : Option Addr) (r : Int) (hr : r ≠ 0) (KP : Hid (∀ W, BsL W A k bs → Calls Tryz.prog 50 #[bunV p A k c] W (Ret (.int .i64 0) W))) (KR : Hid (∀ W, BsL W A k bs → Calls Tryz.prog 51 #[bunV p A k c] W (Ret (.int .i64 r) W))) (w : World) (h : BsL w A k bs) : Calls Tryz.prog 32 #[bunV p A k c] w (Ret (.tuple #[str [], .int .i64 r]) w) := by
  have HE := hid ((Mod.refl [] w).alloc (.cells (bunC p A k c) 37))
  have HB0 : Hid (Blk (w.alloc (.cells (bunC p A k c) 37)) w.heap.size 37 (bunC p A k c)) := hid (Blk.new w 37 (bunC p A k c))
  have HL := hid (BsL.ext h HE.out)
  clear h
  have ra : ((r) == (0)) = false := by rw [beq_eq_false_iff_ne]; exact hr
  have rb : ((r) = (0)) = False := eq_false (by exact hr)
  have rc : ((r) != (0)) = true := by rw [bne_iff_ne]; exact hr
  clear hr
  go_enter Tryz.func32, Tryz.ntmps32
  go_upto_region 1 with fail
  generalize (w.alloc (.cells (bunC p A k c) 37)) = V at *
  obtain ⟨e, he⟩ := Later.self V
  rw [he]
  clear he
  go_wp2_with (first | (refine wpList_row (by rfl) 37 _ rfl _ rfl (HB0.out.later _) Tryz.underlying37 rfl (by kernel_rfl) ?_) | (go_at_call 50; refine (Ret.later (KP.out _ (HL.out.ext (Later.h _)))).mono ?_; rintro x _ ⟨rfl, e, rfl⟩) | (go_at_call 51; refine (Ret.later (KR.out _ (HL.out.ext (Later.h _)))).mono ?_; rintro x _ ⟨rfl, e, rfl⟩))
  go_ret2
  exact Ret.mk rfl (HE.out.trans (Later.h _))
set_option maxRecDepth 20000 in
set_option maxHeartbeats 1600000 in
theorem made_l (p : PV) (bs : Nat → BV) (k c : Nat) (A : Option Addr) (BB : List UInt8) (hl : 4000 < BB.length) (KP : Hid (∀ W, BsL W A k bs → Calls Tryz.prog 50 #[bunV p A k c] W (Ret (.int .i64 0) W))) (KR : Hid (∀ W, BsL W A k bs → Calls Tryz.prog 51 #[bunV p A k c] W (Ret (.int .i64 0) W))) (KB : Hid (∀ W, BsL W A k bs → Calls Tryz.prog 52 #[bunV p A k c] W (Ret (str BB) W))) (w : World) (h : BsL w A k bs) : Calls Tryz.prog 32 #[bunV p A k c] w (Ret (.tuple #[str [], .int .i64 4]) w) := by
  have HE := hid ((Mod.refl [] w).alloc (.cells (bunC p A k c) 37))
  have HB0 : Hid (Blk (w.alloc (.cells (bunC p A k c) 37)) w.heap.size 37 (bunC p A k c)) := hid (Blk.new w 37 (bunC p A k c))
  have HL := hid (BsL.ext h HE.out)
  clear h
  have la : decide ((4000 : Int) < (BB.length : Int)) = true := decide_eq_true (by omega)
  have lb : ((4000 : Int) < (BB.length : Int)) = True := eq_true (by omega)
  have lc : decide (4000 < BB.length) = true := decide_eq_true hl
  clear hl
  go_enter Tryz.func32, Tryz.ntmps32
  go_upto_region 1 with fail
  generalize (w.alloc (.cells (bunC p A k c) 37)) = V at *
  obtain ⟨e, he⟩ := Later.self V
  rw [he]
  clear he
  go_wp2_with (first | (refine wpList_row (by rfl) 37 _ rfl _ rfl (HB0.out.later _) Tryz.underlying37 rfl (by kernel_rfl) ?_) | (go_at_call 50; refine (Ret.later (KP.out _ (HL.out.ext (Later.h _)))).mono ?_; rintro x _ ⟨rfl, e, rfl⟩) | (go_at_call 51; refine (Ret.later (KR.out _ (HL.out.ext (Later.h _)))).mono ?_; rintro x _ ⟨rfl, e, rfl⟩) | (go_at_call 52; refine (Ret.later (KB.out _ (HL.out.ext (Later.h _)))).mono ?_; rintro x _ ⟨rfl, e, rfl⟩))
  go_ret2
  exact Ret.mk rfl (HE.out.trans (Later.h _))
set_option maxRecDepth 20000 in
set_option maxHeartbeats 1600000 in
theorem made_0 (p : PV) (bs : Nat → BV) (k c : Nat) (A : Option Addr) (BB : List UInt8) (hl : ¬ 4000 < BB.length) (KP : Hid (∀ W, BsL W A k bs → Calls Tryz.prog 50 #[bunV p A k c] W (Ret (.int .i64 0) W))) (KR : Hid (∀ W, BsL W A k bs → Calls Tryz.prog 51 #[bunV p A k c] W (Ret (.int .i64 0) W))) (KB : Hid (∀ W, BsL W A k bs → Calls Tryz.prog 52 #[bunV p A k c] W (Ret (str BB) W))) (w : World) (h : BsL w A k bs) : Calls Tryz.prog 32 #[bunV p A k c] w (Ret (.tuple #[str BB, .int .i64 0]) w) := by
  have HE := hid ((Mod.refl [] w).alloc (.cells (bunC p A k c) 37))
  have HB0 : Hid (Blk (w.alloc (.cells (bunC p A k c) 37)) w.heap.size 37 (bunC p A k c)) := hid (Blk.new w 37 (bunC p A k c))
  have HL := hid (BsL.ext h HE.out)
  clear h
  have la : decide ((4000 : Int) < (BB.length : Int)) = false := decide_eq_false (by omega)
  have lb : ((4000 : Int) < (BB.length : Int)) = False := eq_false (by omega)
  have lc : decide (4000 < BB.length) = false := decide_eq_false hl
  clear hl
  go_enter Tryz.func32, Tryz.ntmps32
  go_upto_region 1 with fail
  generalize (w.alloc (.cells (bunC p A k c) 37)) = V at *
  obtain ⟨e, he⟩ := Later.self V
  rw [he]
  clear he
  go_wp2_with (first | (refine wpList_row (by rfl) 37 _ rfl _ rfl (HB0.out.later _) Tryz.underlying37 rfl (by kernel_rfl) ?_) | (go_at_call 50; refine (Ret.later (KP.out _ (HL.out.ext (Later.h _)))).mono ?_; rintro x _ ⟨rfl, e, rfl⟩) | (go_at_call 51; refine (Ret.later (KR.out _ (HL.out.ext (Later.h _)))).mono ?_; rintro x _ ⟨rfl, e, rfl⟩) | (go_at_call 52; refine (Ret.later (KB.out _ (HL.out.ext (Later.h _)))).mono ?_; rintro x _ ⟨rfl, e, rfl⟩))
  go_ret2
  exact Ret.mk rfl (HE.out.trans (Later.h _))
/-- What made hands back. -/
def madeV (p : PV) (bs : Nat → BV) (k : Nat) : Value := .tuple #[str (if bunRight p bs k = 0 then bunBytes p bs k else []), .int .i64 (bunRight p bs k)]
theorem made_any (p : PV) (bs : Nat → BV) (k c : Nat) (A : Option Addr) (hnl : Hid (p.d.name.length < 4611686018427387904 ∧ p.s.name.length < 4611686018427387904 ∧ p.r.name.length < 4611686018427387904)) (hf : p.fl < 18446744073709551616) (hk : k < 4611686018427387904) (w : World) (h : BsL w A k bs) : Calls Tryz.prog 32 #[bunV p A k c] w (Ret (madeV p bs k) w) := by
  have KP := hid (fun W (hW : BsL W A k bs) => bparts_any p bs k c A hnl hf hk W hW)
  unfold madeV
  by_cases hp : p.right = 0
  · cases hfo : firstOf (badAt bs) k with
    | some i =>
      have hb : (bs i).right ≠ 0 := by have := (firstOf_spec hfo).2.1; simpa [badAt] using this
      have e1 : partsR p bs k = (bs i).right := by unfold partsR; rw [if_neg (by simpa using hp), hfo]
      have e2 : bunRight p bs k = (bs i).right := by unfold bunRight; rw [if_neg (by simpa using hp), hfo]
      rw [e1] at KP
      rw [e2, if_neg hb]
      exact made_p p bs k c A _ hb KP w h
    | none =>
      have hbs : ∀ i, i < k → (bs i).right = 0 := fun i hi => bad_no (firstOf_no hfo i hi)
      have e1 : partsR p bs k = 0 := by unfold partsR; rw [if_neg (by simpa using hp), hfo]
      have e2 : bunRight p bs k = if rulesR p bs k ≠ 0 then rulesR p bs k else if 4000 < (bunBytes p bs k).length then 4 else 0 := by
        unfold bunRight rulesR
        rw [if_neg (show ¬ p.right ≠ 0 by simpa using hp), hfo]
        by_cases h16 : 16 < k
        · simp [h16]
        · cases bunRule1 bs k <;> cases bunRule2 p bs k <;> cases bunRule3 p bs k <;> simp [h16]
      rw [e1] at KP
      have KR := hid (fun W (hW : BsL W A k bs) => rules_any p bs k c A hf hk hp hbs W hW)
      by_cases hr : rulesR p bs k = 0
      · rw [hr] at KR
        have h16 : k ≤ 16 := by
          unfold rulesR at hr
          by_cases h16 : 16 < k
          · rw [if_pos h16] at hr; exact absurd hr (by decide)
          · omega
        have KB := hid (fun W (hW : BsL W A k bs) => bbuild_any p bs k c A hnl hf (by omega) hp hbs W hW)
        have e3 : bunRight p bs k = if 4000 < (bunBytes p bs k).length then 4 else 0 := by rw [e2, if_neg (show ¬ rulesR p bs k ≠ 0 by simpa using hr)]
        by_cases hl : 4000 < (bunBytes p bs k).length
        · rw [if_pos hl] at e3
          rw [e3, if_neg (show ¬ (4 : Int) = 0 by decide)]; exact made_l p bs k c A _ hl KP KR KB w h
        · rw [if_neg hl] at e3
          rw [e3, if_pos rfl]; exact made_0 p bs k c A _ hl KP KR KB w h
      · rw [e2, if_pos hr, if_neg hr]
        exact made_r p bs k c A _ hr KP KR w h
  · have e1 : partsR p bs k = p.right := by unfold partsR; rw [if_pos hp]
    have e2 : bunRight p bs k = p.right := by unfold bunRight; rw [if_pos hp]
    rw [e1] at KP
    rw [e2, if_neg hp]
    exact made_p p bs k c A _ hp KP w h
set_option maxRecDepth 20000 in
theorem cBunRight_any (p : PV) (bs : Nat → BV) (k c : Nat) (A : Option Addr) (hnl : Hid (p.d.name.length < 4611686018427387904 ∧ p.s.name.length < 4611686018427387904 ∧ p.r.name.length < 4611686018427387904)) (hf : p.fl < 18446744073709551616) (hk : k < 4611686018427387904) (w : World) (h : BsL w A k bs) : Calls Tryz.prog 16 #[bunV p A k c] w (Ret (.int .i64 (bunRight p bs k)) w) := by
  have KM := hid (fun W (hW : BsL W A k bs) => made_any p bs k c A hnl hf hk W hW)
  unfold madeV at KM
  generalize (if bunRight p bs k = 0 then bunBytes p bs k else []) = BB at *
  generalize bunRight p bs k = r at *
  have HE := hid ((Mod.refl [] w).alloc (.cells (bunC p A k c) 37))
  have HB0 : Hid (Blk (w.alloc (.cells (bunC p A k c) 37)) w.heap.size 37 (bunC p A k c)) := hid (Blk.new w 37 (bunC p A k c))
  have HL := hid (BsL.ext h HE.out)
  clear h
  go_enter Tryz.func16, Tryz.ntmps16
  go_upto_region 1 with fail
  generalize (w.alloc (.cells (bunC p A k c) 37)) = V at *
  obtain ⟨e, he⟩ := Later.self V
  rw [he]
  clear he
  go_wp2_with (first | (refine wpList_row (by rfl) 37 _ rfl _ rfl (HB0.out.later _) Tryz.underlying37 rfl (by kernel_rfl) ?_) | (go_at_call 32; refine (Ret.later (KM.out _ (HL.out.ext (Later.h _)))).mono ?_; rintro x _ ⟨rfl, e, rfl⟩))
  go_ret
  exact Ret.mk rfl (HE.out.trans (Later.h _))
end Go.Proofs.YtogjghmoankleaaGreat


namespace Go.Proofs.YtogjghmoankleaaGreat
open Go.RowKit
set_option linter.unusedVariables false
set_option linter.unusedSimpArgs false

/-- The zero bundle's cells. -/
def zeroBun : Array Value := #[.int .u64 0, .int .i64 0, .int .i64 0, .string ⟨#[]⟩, .int .u64 0, .int .u64 0, .int .i64 0, .string ⟨#[]⟩, .int .u64 0, .int .u64 0, .int .i64 0, .string ⟨#[]⟩, .int .u64 0, .int .u64 0, .int .u64 0, .int .u64 0, .int .u64 0, .int .u64 0, .int .u64 0, .slice none 0 0]
/-- What checked hands back. -/
def chkV (p : PV) (A : Option Addr) (k c : Nat) (r : Int) : Value := if r = 0 then .tuple #[bunV p A k c, .int .i64 0] else .tuple #[.agg zeroBun, .int .i64 r]
theorem chkV_0 {p : PV} {A : Option Addr} {k c : Nat} {r : Int} (h : r = 0) : chkV p A k c r = .tuple #[bunV p A k c, .int .i64 0] := if_pos h
theorem chkV_no {p : PV} {A : Option Addr} {k c : Nat} {r : Int} (h : r ≠ 0) : chkV p A k c r = .tuple #[.agg zeroBun, .int .i64 r] := if_neg h
end Go.Proofs.YtogjghmoankleaaGreat


namespace Go.Proofs.YtogjghmoankleaaGreat
open Go.RowKit
set_option linter.unusedVariables false
set_option linter.unusedSimpArgs false

def mkB (s : List UInt8) : Nat → BV := fun i => if i = 0 then ⟨7, 2, 0, 0, [0]⟩ else ⟨1, 1, 0, 0, s⟩
def mkP (rp y : EV) (t q l : Nat) : PV := ⟨2, 0, rp, y, ⟨1, [110, 111, 110, 101], 0, 0⟩, t, q, l, 0, 0⟩
theorem mkB_IsL {W : World} {g : Nat} {s : List UInt8} (h : Blk W g 49 #[.int .i64 7, .int .i64 2, .int .u64 0, .int .i64 0, str [0], .int .i64 1, .int .i64 1, .int .u64 0, .int .i64 0, str s]) : BsL W (some ⟨g, 0, none⟩) 2 (mkB s) := fun _ => ⟨g, 0, rfl, h.lt, fun i hi => by
  have hi : i = 0 ∨ i = 1 := by omega
  rcases hi with rfl | rfl
  · exact ⟨h.cell 0, h.cell 1, h.cell 2, h.cell 3, h.cell 4⟩
  · exact ⟨h.cell 5, h.cell 6, h.cell 7, h.cell 8, h.cell 9⟩⟩
/-- What Make tells. -/
def mkR (P : PV) (r : RV) : Int := if r.right then bunRight P (mkB r.bytes) 2 else 1
/-- What it hands back. -/
def MkRel (P : PV) (r : RV) (W : World) (zc : Array Value) : Prop := (mkR P r ≠ 0 ∧ zc = zeroBun) ∨ (mkR P r = 0 ∧ r.right = true ∧ ∃ A c, zc = bunC P A 2 c ∧ BsL W A 2 (mkB r.bytes))
def MkPost (P : PV) (r : RV) (w : World) (e : Ending) (w' : World) : Prop := ∃ zc, e = .returned (.tuple #[.agg zc, .int .i64 (mkR P r)]) ∧ Ext w w' ∧ MkRel P r w' zc
theorem MkRel.ext {P : PV} {r : RV} {W W' : World} {zc : Array Value} (h : MkRel P r W zc) (hm : Ext W W') : MkRel P r W' zc := by
  rcases h with h | ⟨h0, h1, A, c, h2, h3⟩
  · exact Or.inl h
  · exact Or.inr ⟨h0, h1, A, c, h2, h3.ext hm⟩
theorem MkRel.cells {P : PV} {r : RV} {W : World} {zc : Array Value} (h : MkRel P r W zc) : (Tryz.prog.info? 37).map (·.size) = some zc.size ∧ zc.all (·.oneCell') = true ∧ zc.size = 20 := by
  rcases h with ⟨_, rfl⟩ | ⟨_, _, A, c, rfl, _⟩
  · exact ⟨by kernel_rfl, by simp [zeroBun, Value.oneCell'], rfl⟩
  · exact ⟨by kernel_rfl, by simp [Value.oneCell'], rfl⟩
set_option maxRecDepth 20000 in
set_option maxHeartbeats 8000000 in
theorem repMake_any (y : EV) (p : PV) (r : RV) (t q l : Nat) (hw : r.of.wf) (hn : y.name.length < 4611686018427387904 ∧ p.r.name.length < 4611686018427387904) (w : World) : Calls Tryz.prog 7 #[y.v, .agg p.c, repV r, .int .u64 (t : Int), .int .u64 (q : Int), .int .u64 (l : Int)] w (MkPost (mkP p.r y t q l) r w) := by
  have HE := hid (((((Mod.refl [] w).alloc (.cells y.c 24)).alloc (.cells p.c 34)).alloc (.cells (repC r) 29)).alloc (.cells #[.int .u64 0, .int .i64 0, .int .i64 0, .string ⟨#[]⟩, .int .u64 0, .int .u64 0, .int .i64 0, .string ⟨#[]⟩, .int .u64 0, .int .u64 0, .int .i64 0, .string ⟨#[]⟩, .int .u64 0, .int .u64 0, .int .u64 0, .int .u64 0, .int .u64 0, .int .u64 0, .int .u64 0, .slice none 0 0] 37))
  have HB0 : Hid (Blk ((((w.alloc (.cells y.c 24)).alloc (.cells p.c 34)).alloc (.cells (repC r) 29)).alloc (.cells #[.int .u64 0, .int .i64 0, .int .i64 0, .string ⟨#[]⟩, .int .u64 0, .int .u64 0, .int .i64 0, .string ⟨#[]⟩, .int .u64 0, .int .u64 0, .int .i64 0, .string ⟨#[]⟩, .int .u64 0, .int .u64 0, .int .u64 0, .int .u64 0, .int .u64 0, .int .u64 0, .int .u64 0, .slice none 0 0] 37)) w.heap.size 24 y.c) := hid ((((Blk.new w 24 y.c).alloc (.cells p.c 34)).alloc (.cells (repC r) 29)).alloc (.cells #[.int .u64 0, .int .i64 0, .int .i64 0, .string ⟨#[]⟩, .int .u64 0, .int .u64 0, .int .i64 0, .string ⟨#[]⟩, .int .u64 0, .int .u64 0, .int .i64 0, .string ⟨#[]⟩, .int .u64 0, .int .u64 0, .int .u64 0, .int .u64 0, .int .u64 0, .int .u64 0, .int .u64 0, .slice none 0 0] 37))
  have HB1 : Hid (Blk ((((w.alloc (.cells y.c 24)).alloc (.cells p.c 34)).alloc (.cells (repC r) 29)).alloc (.cells #[.int .u64 0, .int .i64 0, .int .i64 0, .string ⟨#[]⟩, .int .u64 0, .int .u64 0, .int .i64 0, .string ⟨#[]⟩, .int .u64 0, .int .u64 0, .int .i64 0, .string ⟨#[]⟩, .int .u64 0, .int .u64 0, .int .u64 0, .int .u64 0, .int .u64 0, .int .u64 0, .int .u64 0, .slice none 0 0] 37)) (w.heap.size + 1) 34 p.c) := by unfold Hid; have := (Blk.newL (N := (w.heap.size + 1)) (w.alloc (.cells y.c 24)) 34 p.c (by simp)); exact ((this.alloc (.cells (repC r) 29)).alloc (.cells #[.int .u64 0, .int .i64 0, .int .i64 0, .string ⟨#[]⟩, .int .u64 0, .int .u64 0, .int .i64 0, .string ⟨#[]⟩, .int .u64 0, .int .u64 0, .int .i64 0, .string ⟨#[]⟩, .int .u64 0, .int .u64 0, .int .u64 0, .int .u64 0, .int .u64 0, .int .u64 0, .int .u64 0, .slice none 0 0] 37))
  have HB2 : Hid (Blk ((((w.alloc (.cells y.c 24)).alloc (.cells p.c 34)).alloc (.cells (repC r) 29)).alloc (.cells #[.int .u64 0, .int .i64 0, .int .i64 0, .string ⟨#[]⟩, .int .u64 0, .int .u64 0, .int .i64 0, .string ⟨#[]⟩, .int .u64 0, .int .u64 0, .int .i64 0, .string ⟨#[]⟩, .int .u64 0, .int .u64 0, .int .u64 0, .int .u64 0, .int .u64 0, .int .u64 0, .int .u64 0, .slice none 0 0] 37)) (w.heap.size + 1 + 1) 29 (repC r)) := by unfold Hid; have := (Blk.newL (N := (w.heap.size + 1 + 1)) ((w.alloc (.cells y.c 24)).alloc (.cells p.c 34)) 29 (repC r) (by simp)); exact (this.alloc (.cells #[.int .u64 0, .int .i64 0, .int .i64 0, .string ⟨#[]⟩, .int .u64 0, .int .u64 0, .int .i64 0, .string ⟨#[]⟩, .int .u64 0, .int .u64 0, .int .i64 0, .string ⟨#[]⟩, .int .u64 0, .int .u64 0, .int .u64 0, .int .u64 0, .int .u64 0, .int .u64 0, .int .u64 0, .slice none 0 0] 37))
  have HB3 : Hid (Blk ((((w.alloc (.cells y.c 24)).alloc (.cells p.c 34)).alloc (.cells (repC r) 29)).alloc (.cells #[.int .u64 0, .int .i64 0, .int .i64 0, .string ⟨#[]⟩, .int .u64 0, .int .u64 0, .int .i64 0, .string ⟨#[]⟩, .int .u64 0, .int .u64 0, .int .i64 0, .string ⟨#[]⟩, .int .u64 0, .int .u64 0, .int .u64 0, .int .u64 0, .int .u64 0, .int .u64 0, .int .u64 0, .slice none 0 0] 37)) (w.heap.size + 1 + 1 + 1) 37 #[.int .u64 0, .int .i64 0, .int .i64 0, .string ⟨#[]⟩, .int .u64 0, .int .u64 0, .int .i64 0, .string ⟨#[]⟩, .int .u64 0, .int .u64 0, .int .i64 0, .string ⟨#[]⟩, .int .u64 0, .int .u64 0, .int .u64 0, .int .u64 0, .int .u64 0, .int .u64 0, .int .u64 0, .slice none 0 0]) := by unfold Hid; exact Blk.newL _ _ _ (by simp)
  have KB := hid (fun W => repBuild_any r hw W)
  have KA : Hid (∀ W, Calls Tryz.prog 14 #[.int .u64 0] W (Ret (.tuple #[str [0], .int .i64 0]) W)) := hid (fun W => Age_yes 0 (by decide) W)
  have KN := hid (fun W => eidNoneP_any W)
  have KR := hid (fun W A hL => cBunRight_any (mkP p.r y t q l) (mkB r.bytes) 2 2 A (hid ⟨hn.2, hn.1, by show ([110, 111, 110, 101] : List UInt8).length < _; decide⟩) (by show 2 < _; decide) (by decide) W hL)
  clear hw hn
  go_enter Tryz.func7, Tryz.ntmps7
  go_upto_region 1 with fail
  generalize ((((w.alloc (.cells y.c 24)).alloc (.cells p.c 34)).alloc (.cells (repC r) 29)).alloc (.cells #[.int .u64 0, .int .i64 0, .int .i64 0, .string ⟨#[]⟩, .int .u64 0, .int .u64 0, .int .i64 0, .string ⟨#[]⟩, .int .u64 0, .int .u64 0, .int .i64 0, .string ⟨#[]⟩, .int .u64 0, .int .u64 0, .int .u64 0, .int .u64 0, .int .u64 0, .int .u64 0, .int .u64 0, .slice none 0 0] 37)) = V at *
  obtain ⟨e, he⟩ := Later.self V
  rw [he]
  clear he
  have HBL : Hid (∀ e : Later V, Blk e.x (w.heap.size + 2) 29 (repC r)) := hid (fun e => HB2.out.later e)
  have HEL : Hid (∀ W, Ext V W → Blk W w.heap.size 24 y.c) := hid (fun W h => HB0.out.ext h)
  have HPR : Hid (∀ W, Ext V W → W.rangeAt (w.heap.size + 1) 10 [.int .i64 p.r.sch, str p.r.name, .int .u64 (p.r.node : Int), .int .u64 (p.r.svc : Int)]) := hid (fun W h => (HB1.out.ext h).range 10 4 (by rfl) (Later.mk W (Mod.refl _ _)))
  have tk1 : True := trivial
  cases hr : r.right with
  | false =>
    have KB : Hid (∀ W, Calls Tryz.prog 13 #[repV r] W (Ret (.tuple #[str [], .int .i64 1]) W)) := hid (fun W => by have := KB.out W; unfold rbuildV at this; rw [hr] at this; exact this)
    have HMR : Hid (mkR (mkP p.r y t q l) r = 1) := hid (by unfold mkR; rw [hr]; rfl)
    clear hr KR
    go_upto_region 2 with (first | (clear tk1; refine wpList_row (by rfl) 29 _ rfl _ rfl (HBL.out _) Tryz.underlying29 rfl (by kernel_rfl) ?_) | (go_at_call 13; refine (Ret.later (KB.out _)).mono ?_; rintro x _ ⟨rfl, e, rfl⟩))
    go_wp2_with (first | (refine wpList_store_mid rfl 37 _ _ rfl (w.heap.size + 3) 0 zeroBun (by rfl) (by rfl) ((HB3.out.later e).there (Nat.le_refl 20)) (by kernel_rfl) (by simp [zeroBun, Value.oneCell']) ?_))
    generalize hZZ : World.setCells _ _ _ _ = ZZ
    have HZB : Hid (Blk ZZ (w.heap.size + 3) 37 zeroBun) := hid (by rw [← hZZ]; exact setCells_all (ds := zeroBun) (HB3.out.later e) rfl)
    have HZM : Hid (Ext w ZZ) := hid (by rw [← hZZ]; exact setCells_mod _ _ (HE.out.trans e.h) (.inr (by omega)))
    have HZX : Hid (∀ A k bs, BsL e.x A k bs → (∀ b o, A = some ⟨b, o, none⟩ → b ≠ w.heap.size + 3) → BsL ZZ A k bs) := hid (fun A k bs h hn hk => by
      obtain ⟨b, o, hA, hb, hc⟩ := h hk
      have hM : Mod [w.heap.size + 3] e.x ZZ := by rw [← hZZ]; exact setCells_mod _ _ (Mod.refl _ _) (.inl (by simp))
      exact ⟨b, o, hA, Nat.lt_of_lt_of_le hb hM.size, fun i hi => (hc i hi).mod hM hb (by simpa using hn b o hA)⟩)
    clear hZZ
    refine bodyPost_ret (results_cell2 rfl _ (by rfl) rfl HZB.out Tryz.underlying37 rfl (by kernel_rfl)) rfl ?_
    exact ⟨zeroBun, by rw [HMR.out]; rfl, HZM.out, Or.inl ⟨by rw [HMR.out]; decide, rfl⟩⟩
  | true =>
    have KB : Hid (∀ W, Calls Tryz.prog 13 #[repV r] W (Ret (.tuple #[str r.bytes, .int .i64 0]) W)) := hid (fun W => by have := KB.out W; unfold rbuildV at this; rw [hr] at this; exact this)
    have HMR : Hid (mkR (mkP p.r y t q l) r = bunRight (mkP p.r y t q l) (mkB r.bytes) 2) := hid (by unfold mkR; rw [hr]; rfl)
    have HRT := hid hr
    clear hr
    obtain ⟨s, hs⟩ : ∃ s, r.bytes = s := ⟨_, rfl⟩
    have HS := hid hs
    rw [hs] at KB KR HMR
    clear hs
    go_upto_region 2 with (first | (clear tk1; refine wpList_row (by rfl) 29 _ rfl _ rfl (HBL.out _) Tryz.underlying29 rfl (by kernel_rfl) ?_) | (go_at_call 13; refine (Ret.later (KB.out _)).mono ?_; rintro x _ ⟨rfl, e, rfl⟩))
    go_upto_region 5 with (first | (go_at_call 14; refine (Ret.later (KA.out _)).mono ?_; rintro x _ ⟨rfl, e, rfl⟩))
    go_cut [18] (fun s18 wx => ∃ nT gs, s18 = .pointer (some ⟨nT, 0, none⟩) ∧ Hid (Ext V wx ∧ Blk wx nT 37 #[.int .u64 2, .int .i64 0, .int .i64 p.r.sch, str p.r.name, .int .u64 (p.r.node : Int), .int .u64 (p.r.svc : Int), .int .i64 y.sch, str y.name, .int .u64 (y.node : Int), .int .u64 (y.svc : Int), .int .i64 1, str [110, 111, 110, 101], .int .u64 0, .int .u64 0, .int .u64 (t : Int), .int .u64 (q : Int), .int .u64 (l : Int), .int .u64 0, .int .u64 0, .slice (some ⟨gs, 0, none⟩) 2 2] ∧ BsL wx (some ⟨gs, 0, none⟩) 2 (mkB s) ∧ V.heap.size ≤ gs))
    case first =>
      refine wp_region_held_drew (S := fun w' => Ext V w') (by kernel_rfl) e.h.drew (fun hHeld => ?_)
      have hX0 : Ext V e.x.drew := e.h.drew
      generalize e.x.drew = u0 at *
      clear e
      refine' wpAnyH_take (i := 0) (v := _) rfl (by kernel_rfl) (by kernel_rfl) (by kernel_rfl) (fun _ _ _ h => h) (Or.inl ⟨by rfl, ?hy1⟩) hHeld ?rest1
      case hy1 => (rintro W hM; go_simp; (try with_reducible rfl))
      case rest1 =>
      (try simp only [Act.put, List.getElem_toArray, List.getElem_cons_zero, List.getElem_cons_succ, List.setIfInBounds_toArray, List.set_cons_zero, List.set_cons_succ])
      refine wpAnyH_take (i := 1) rfl (by kernel_rfl) (by kernel_rfl) (by kernel_rfl) (fun _ _ _ h => h) (yieldsIf_mid (by rfl) 24 _ rfl (w.heap.size + 1) 10 rfl [.int .i64 p.r.sch, str p.r.name, .int .u64 (p.r.node : Int), .int .u64 (p.r.svc : Int)] (fun W h => HPR.out W h) Tryz.underlying24 rfl (by kernel_rfl)) hHeld ?_
      (try simp only [Act.put, List.getElem_toArray, List.getElem_cons_zero, List.getElem_cons_succ, List.setIfInBounds_toArray, List.set_cons_zero, List.set_cons_succ])
      refine wpAnyH_take (i := 2) rfl (by kernel_rfl) (by kernel_rfl) (by kernel_rfl) (fun _ _ _ h => h) (yieldsIf_row (by rfl) 24 _ rfl _ rfl (fun W h => HEL.out W h) Tryz.underlying24 rfl (by kernel_rfl)) hHeld ?_
      (try simp only [Act.put, List.getElem_toArray, List.getElem_cons_zero, List.getElem_cons_succ, List.setIfInBounds_toArray, List.set_cons_zero, List.set_cons_succ])
      refine' wpAnyH_take (i := 4) (v := _) rfl (by kernel_rfl) (by kernel_rfl) (by kernel_rfl) (fun _ _ _ h => h) (Or.inl ⟨by rfl, ?hy2⟩) hHeld ?rest2
      case hy2 => (rintro W hM; go_simp; (try with_reducible rfl))
      case rest2 =>
      (try simp only [Act.put, List.getElem_toArray, List.getElem_cons_zero, List.getElem_cons_succ, List.setIfInBounds_toArray, List.set_cons_zero, List.set_cons_succ])
      refine' wpAnyH_take (i := 5) (v := _) rfl (by kernel_rfl) (by kernel_rfl) (by kernel_rfl) (fun _ _ _ h => h) (Or.inl ⟨by rfl, ?hy3⟩) hHeld ?rest3
      case hy3 => (rintro W hM; go_simp; (try with_reducible rfl))
      case rest3 =>
      (try simp only [Act.put, List.getElem_toArray, List.getElem_cons_zero, List.getElem_cons_succ, List.setIfInBounds_toArray, List.set_cons_zero, List.set_cons_succ])
      refine' wpAnyH_take (i := 6) (v := _) rfl (by kernel_rfl) (by kernel_rfl) (by kernel_rfl) (fun _ _ _ h => h) (Or.inl ⟨by rfl, ?hy4⟩) hHeld ?rest4
      case hy4 => (rintro W hM; go_simp; (try with_reducible rfl))
      case rest4 =>
      (try simp only [Act.put, List.getElem_toArray, List.getElem_cons_zero, List.getElem_cons_succ, List.setIfInBounds_toArray, List.set_cons_zero, List.set_cons_succ])
      refine' wpAnyH_take (i := 8) (v := _) rfl (by kernel_rfl) (by kernel_rfl) (by kernel_rfl) (fun _ _ _ h => h) (Or.inl ⟨by rfl, ?hy5⟩) hHeld ?rest5
      case hy5 => (rintro W hM; go_simp; (try with_reducible rfl))
      case rest5 =>
      (try simp only [Act.put, List.getElem_toArray, List.getElem_cons_zero, List.getElem_cons_succ, List.setIfInBounds_toArray, List.set_cons_zero, List.set_cons_succ])
      refine' wpAnyH_take (i := 9) (v := _) rfl (by kernel_rfl) (by kernel_rfl) (by kernel_rfl) (fun _ _ _ h => h) (Or.inl ⟨by rfl, ?hy6⟩) hHeld ?rest6
      case hy6 => (rintro W hM; go_simp; (try with_reducible rfl))
      case rest6 =>
      (try simp only [Act.put, List.getElem_toArray, List.getElem_cons_zero, List.getElem_cons_succ, List.setIfInBounds_toArray, List.set_cons_zero, List.set_cons_succ])
      refine' wpAnyH_take (i := 10) (v := _) rfl (by kernel_rfl) (by kernel_rfl) (by kernel_rfl) (fun _ _ _ h => h) (Or.inl ⟨by rfl, ?hy7⟩) hHeld ?rest7
      case hy7 => (rintro W hM; go_simp; (try with_reducible rfl))
      case rest7 =>
      (try simp only [Act.put, List.getElem_toArray, List.getElem_cons_zero, List.getElem_cons_succ, List.setIfInBounds_toArray, List.set_cons_zero, List.set_cons_succ])
      refine' wpAnyH_take (i := 11) (v := _) rfl (by kernel_rfl) (by kernel_rfl) (by kernel_rfl) (fun _ _ _ h => h) (Or.inl ⟨by rfl, ?hy8⟩) hHeld ?rest8
      case hy8 => (rintro W hM; go_simp; (try with_reducible rfl))
      case rest8 =>
      (try simp only [Act.put, List.getElem_toArray, List.getElem_cons_zero, List.getElem_cons_succ, List.setIfInBounds_toArray, List.set_cons_zero, List.set_cons_succ])
      refine wpAnyH_ready (rs := [3, 12, 14]) (by kernel_rfl) (by simp) ?_
      refine AllReadyH.cons rfl (fun K hK => ?_) (AllReadyH.cons rfl (fun K hK => ?_) (AllReadyH.cons rfl (fun K hK => ?_) AllReadyH.nil))
      · go_simp
        go_at_call 15
        refine (KN.out _).mono ?_
        rintro x u1 ⟨rfl, hb⟩
        
        refine hK.out _ _ (hHeld.trans hb) (fun hHeld => ?_)
        clear hK K
        (try simp only [Act.put, List.getElem_toArray, List.getElem_cons_zero, List.getElem_cons_succ, List.setIfInBounds_toArray, List.set_cons_zero, List.set_cons_succ])
        refine' wpAnyH_take (i := 7) (v := .agg #[.int .u64 2, .int .i64 0, .int .i64 p.r.sch, str p.r.name, .int .u64 (p.r.node : Int), .int .u64 (p.r.svc : Int), .int .i64 y.sch, str y.name, .int .u64 (y.node : Int), .int .u64 (y.svc : Int), .int .i64 1, str [110, 111, 110, 101], .int .u64 0, .int .u64 0, .int .u64 (t : Int), .int .u64 (q : Int), .int .u64 (l : Int), .int .u64 0, .int .u64 0]) rfl (by kernel_rfl) (by kernel_rfl) (by kernel_rfl) (fun _ _ _ h => h) (Or.inl ⟨by rfl, fun W hM => ?hfa1⟩) hHeld ?rfa1
        case hfa1 => kernel_rfl
        case rfa1 =>
        (try simp only [Act.put, List.getElem_toArray, List.getElem_cons_zero, List.getElem_cons_succ, List.setIfInBounds_toArray, List.set_cons_zero, List.set_cons_succ])
        refine wpAnyH_ready (rs := [12, 14]) (by kernel_rfl) (by simp) ?_
        refine AllReadyH.cons rfl (fun K hK => ?_) (AllReadyH.cons rfl (fun K hK => ?_) AllReadyH.nil)
        · go_simp
          have HS2_n : V.heap.size ≤ u1.heap.size := hHeld.size
          have HS2 : Blk (World.alloc u1 (.cells #[.int .i64 7, .int .i64 2, .int .u64 0, .int .i64 0, str [0], .int .i64 1, .int .i64 1, .int .u64 0, .int .i64 0, str s] 49)) u1.heap.size 49 #[.int .i64 7, .int .i64 2, .int .u64 0, .int .i64 0, str [0], .int .i64 1, .int .i64 1, .int .u64 0, .int .i64 0, str s] := Blk.new _ _ _
          have hXX : Ext u1 (World.alloc u1 (.cells #[.int .i64 7, .int .i64 2, .int .u64 0, .int .i64 0, str [0], .int .i64 1, .int .i64 1, .int .u64 0, .int .i64 0, str s] 49)) := (Mod.refl [] _).alloc _
          generalize World.alloc u1 (.cells #[.int .i64 7, .int .i64 2, .int .u64 0, .int .i64 0, str [0], .int .i64 1, .int .i64 1, .int .u64 0, .int .i64 0, str s] 49) = u2 at *
          refine hK.out _ _ (hHeld.trans hXX) (fun hHeld => ?_)
          clear hK K hXX
          (try simp only [Act.put, List.getElem_toArray, List.getElem_cons_zero, List.getElem_cons_succ, List.setIfInBounds_toArray, List.set_cons_zero, List.set_cons_succ])
          generalize hnn : u1.heap.size = gs at *
          clear hnn
          refine' wpAnyH_take (i := 13) (v := .agg #[.int .u64 2, .int .i64 0, .int .i64 p.r.sch, str p.r.name, .int .u64 (p.r.node : Int), .int .u64 (p.r.svc : Int), .int .i64 y.sch, str y.name, .int .u64 (y.node : Int), .int .u64 (y.svc : Int), .int .i64 1, str [110, 111, 110, 101], .int .u64 0, .int .u64 0, .int .u64 (t : Int), .int .u64 (q : Int), .int .u64 (l : Int), .int .u64 0, .int .u64 0, .slice (some ⟨gs, 0, none⟩) 2 2]) rfl (by kernel_rfl) (by kernel_rfl) (by kernel_rfl) (fun _ _ _ h => h) (Or.inl ⟨by rfl, fun W hM => ?hfb2⟩) hHeld ?rfb2
          case hfb2 => kernel_rfl
          case rfb2 =>
          (try simp only [Act.put, List.getElem_toArray, List.getElem_cons_zero, List.getElem_cons_succ, List.setIfInBounds_toArray, List.set_cons_zero, List.set_cons_succ])
          refine wpAnyH_ready (rs := [14]) (by kernel_rfl) (by simp) ?_
          refine AllReadyH.cons rfl (fun K hK => ?_) AllReadyH.nil
          have hlt : gs < u2.heap.size := HS2.lt
          go_simp
          generalize hV : World.alloc u2 _ = u3
          have HT : Blk u3 u2.heap.size 37 #[.int .u64 0, .int .i64 0, .int .i64 0, .string ⟨#[]⟩, .int .u64 0, .int .u64 0, .int .i64 0, .string ⟨#[]⟩, .int .u64 0, .int .u64 0, .int .i64 0, .string ⟨#[]⟩, .int .u64 0, .int .u64 0, .int .u64 0, .int .u64 0, .int .u64 0, .int .u64 0, .int .u64 0, .slice none 0 0] := by rw [← hV]; exact Blk.new _ _ _
          have hXX : Ext u2 u3 := by rw [← hV]; exact (Mod.refl [] _).alloc _
          have HT_n : V.heap.size ≤ u2.heap.size := hHeld.size
          clear hV
          have HS2 := HS2.ext hXX
          refine hK.out _ _ (hHeld.trans hXX) (fun hHeld => ?_)
          clear hK K
          (try simp only [Act.put, List.getElem_toArray, List.getElem_cons_zero, List.getElem_cons_succ, List.setIfInBounds_toArray, List.set_cons_zero, List.set_cons_succ])
          generalize hnn : u2.heap.size = nT at *
          clear hnn
          have hne : gs ≠ nT := Nat.ne_of_lt hlt
          refine wpAnyH_ready (rs := [15]) (by kernel_rfl) (by simp) ?_
          refine AllReadyH.cons rfl (fun K hK => ?_) AllReadyH.nil
          refine wp_store_mid 37 _ _ rfl nT 0 #[.int .u64 2, .int .i64 0, .int .i64 p.r.sch, str p.r.name, .int .u64 (p.r.node : Int), .int .u64 (p.r.svc : Int), .int .i64 y.sch, str y.name, .int .u64 (y.node : Int), .int .u64 (y.svc : Int), .int .i64 1, str [110, 111, 110, 101], .int .u64 0, .int .u64 0, .int .u64 (t : Int), .int .u64 (q : Int), .int .u64 (l : Int), .int .u64 0, .int .u64 0, .slice (some ⟨gs, 0, none⟩) 2 2] (by rfl) (by rfl) (HT.there (Nat.le_refl 20)) (by kernel_rfl) (by simp [Value.oneCell']) ?_
          have hZB := setCells_all (ds := #[.int .u64 2, .int .i64 0, .int .i64 p.r.sch, str p.r.name, .int .u64 (p.r.node : Int), .int .u64 (p.r.svc : Int), .int .i64 y.sch, str y.name, .int .u64 (y.node : Int), .int .u64 (y.svc : Int), .int .i64 1, str [110, 111, 110, 101], .int .u64 0, .int .u64 0, .int .u64 (t : Int), .int .u64 (q : Int), .int .u64 (l : Int), .int .u64 0, .int .u64 0, .slice (some ⟨gs, 0, none⟩) 2 2]) HT rfl
          have hZM := setCells_mod (b := nT) (#[.int .u64 2, .int .i64 0, .int .i64 p.r.sch, str p.r.name, .int .u64 (p.r.node : Int), .int .u64 (p.r.svc : Int), .int .i64 y.sch, str y.name, .int .u64 (y.node : Int), .int .u64 (y.svc : Int), .int .i64 1, str [110, 111, 110, 101], .int .u64 0, .int .u64 0, .int .u64 (t : Int), .int .u64 (q : Int), .int .u64 (l : Int), .int .u64 0, .int .u64 0, .slice (some ⟨gs, 0, none⟩) 2 2] : Array Value).toList 0 hHeld (.inr HT_n)
          have hZO := setCells_mod (w := u3) (W := u3) (S := [nT]) (b := nT) (#[.int .u64 2, .int .i64 0, .int .i64 p.r.sch, str p.r.name, .int .u64 (p.r.node : Int), .int .u64 (p.r.svc : Int), .int .i64 y.sch, str y.name, .int .u64 (y.node : Int), .int .u64 (y.svc : Int), .int .i64 1, str [110, 111, 110, 101], .int .u64 0, .int .u64 0, .int .u64 (t : Int), .int .u64 (q : Int), .int .u64 (l : Int), .int .u64 0, .int .u64 0, .slice (some ⟨gs, 0, none⟩) 2 2] : Array Value).toList 0 (Mod.refl _ _) (.inl (by simp))
          generalize hZ : World.setCells _ nT 0 _ = u9 at *
          clear hZ
          have HS2 := HS2.mod hZO (by simpa using hne)
          have HT := hZB
          refine hK.out _ _ hZM (fun hHeld => ?_)
          clear hK K hZB hZM hZO
          (try simp only [Act.put, List.getElem_toArray, List.getElem_cons_zero, List.getElem_cons_succ, List.setIfInBounds_toArray, List.set_cons_zero, List.set_cons_succ])
          refine wpAnyH_done (by kernel_rfl) ?_ _
          go_wp2_with fail
          go_meet
          exact ⟨nT, gs, rfl, hid ⟨hHeld, HT, mkB_IsL HS2, HS2_n⟩⟩
        · go_simp
          generalize hV : World.alloc u1 _ = u2
          have HT : Blk u2 u1.heap.size 37 #[.int .u64 0, .int .i64 0, .int .i64 0, .string ⟨#[]⟩, .int .u64 0, .int .u64 0, .int .i64 0, .string ⟨#[]⟩, .int .u64 0, .int .u64 0, .int .i64 0, .string ⟨#[]⟩, .int .u64 0, .int .u64 0, .int .u64 0, .int .u64 0, .int .u64 0, .int .u64 0, .int .u64 0, .slice none 0 0] := by rw [← hV]; exact Blk.new _ _ _
          have hXX : Ext u1 u2 := by rw [← hV]; exact (Mod.refl [] _).alloc _
          have HT_n : V.heap.size ≤ u1.heap.size := hHeld.size
          clear hV
          refine hK.out _ _ (hHeld.trans hXX) (fun hHeld => ?_)
          clear hK K
          (try simp only [Act.put, List.getElem_toArray, List.getElem_cons_zero, List.getElem_cons_succ, List.setIfInBounds_toArray, List.set_cons_zero, List.set_cons_succ])
          generalize hnn : u1.heap.size = nT at *
          clear hnn
          refine wpAnyH_ready (rs := [12]) (by kernel_rfl) (by simp) ?_
          refine AllReadyH.cons rfl (fun K hK => ?_) AllReadyH.nil
          have hlt : nT < u2.heap.size := HT.lt
          go_simp
          have HS2_n : V.heap.size ≤ u2.heap.size := hHeld.size
          have HS2 : Blk (World.alloc u2 (.cells #[.int .i64 7, .int .i64 2, .int .u64 0, .int .i64 0, str [0], .int .i64 1, .int .i64 1, .int .u64 0, .int .i64 0, str s] 49)) u2.heap.size 49 #[.int .i64 7, .int .i64 2, .int .u64 0, .int .i64 0, str [0], .int .i64 1, .int .i64 1, .int .u64 0, .int .i64 0, str s] := Blk.new _ _ _
          have hXX : Ext u2 (World.alloc u2 (.cells #[.int .i64 7, .int .i64 2, .int .u64 0, .int .i64 0, str [0], .int .i64 1, .int .i64 1, .int .u64 0, .int .i64 0, str s] 49)) := (Mod.refl [] _).alloc _
          generalize World.alloc u2 (.cells #[.int .i64 7, .int .i64 2, .int .u64 0, .int .i64 0, str [0], .int .i64 1, .int .i64 1, .int .u64 0, .int .i64 0, str s] 49) = u3 at *
          have HT := HT.ext hXX
          refine hK.out _ _ (hHeld.trans hXX) (fun hHeld => ?_)
          clear hK K hXX
          (try simp only [Act.put, List.getElem_toArray, List.getElem_cons_zero, List.getElem_cons_succ, List.setIfInBounds_toArray, List.set_cons_zero, List.set_cons_succ])
          generalize hnn : u2.heap.size = gs at *
          clear hnn
          refine' wpAnyH_take (i := 13) (v := .agg #[.int .u64 2, .int .i64 0, .int .i64 p.r.sch, str p.r.name, .int .u64 (p.r.node : Int), .int .u64 (p.r.svc : Int), .int .i64 y.sch, str y.name, .int .u64 (y.node : Int), .int .u64 (y.svc : Int), .int .i64 1, str [110, 111, 110, 101], .int .u64 0, .int .u64 0, .int .u64 (t : Int), .int .u64 (q : Int), .int .u64 (l : Int), .int .u64 0, .int .u64 0, .slice (some ⟨gs, 0, none⟩) 2 2]) rfl (by kernel_rfl) (by kernel_rfl) (by kernel_rfl) (fun _ _ _ h => h) (Or.inl ⟨by rfl, fun W hM => ?hfb3⟩) hHeld ?rfb3
          case hfb3 => kernel_rfl
          case rfb3 =>
          (try simp only [Act.put, List.getElem_toArray, List.getElem_cons_zero, List.getElem_cons_succ, List.setIfInBounds_toArray, List.set_cons_zero, List.set_cons_succ])
          have hne : gs ≠ nT := Nat.ne_of_gt hlt
          refine wpAnyH_ready (rs := [15]) (by kernel_rfl) (by simp) ?_
          refine AllReadyH.cons rfl (fun K hK => ?_) AllReadyH.nil
          refine wp_store_mid 37 _ _ rfl nT 0 #[.int .u64 2, .int .i64 0, .int .i64 p.r.sch, str p.r.name, .int .u64 (p.r.node : Int), .int .u64 (p.r.svc : Int), .int .i64 y.sch, str y.name, .int .u64 (y.node : Int), .int .u64 (y.svc : Int), .int .i64 1, str [110, 111, 110, 101], .int .u64 0, .int .u64 0, .int .u64 (t : Int), .int .u64 (q : Int), .int .u64 (l : Int), .int .u64 0, .int .u64 0, .slice (some ⟨gs, 0, none⟩) 2 2] (by rfl) (by rfl) (HT.there (Nat.le_refl 20)) (by kernel_rfl) (by simp [Value.oneCell']) ?_
          have hZB := setCells_all (ds := #[.int .u64 2, .int .i64 0, .int .i64 p.r.sch, str p.r.name, .int .u64 (p.r.node : Int), .int .u64 (p.r.svc : Int), .int .i64 y.sch, str y.name, .int .u64 (y.node : Int), .int .u64 (y.svc : Int), .int .i64 1, str [110, 111, 110, 101], .int .u64 0, .int .u64 0, .int .u64 (t : Int), .int .u64 (q : Int), .int .u64 (l : Int), .int .u64 0, .int .u64 0, .slice (some ⟨gs, 0, none⟩) 2 2]) HT rfl
          have hZM := setCells_mod (b := nT) (#[.int .u64 2, .int .i64 0, .int .i64 p.r.sch, str p.r.name, .int .u64 (p.r.node : Int), .int .u64 (p.r.svc : Int), .int .i64 y.sch, str y.name, .int .u64 (y.node : Int), .int .u64 (y.svc : Int), .int .i64 1, str [110, 111, 110, 101], .int .u64 0, .int .u64 0, .int .u64 (t : Int), .int .u64 (q : Int), .int .u64 (l : Int), .int .u64 0, .int .u64 0, .slice (some ⟨gs, 0, none⟩) 2 2] : Array Value).toList 0 hHeld (.inr HT_n)
          have hZO := setCells_mod (w := u3) (W := u3) (S := [nT]) (b := nT) (#[.int .u64 2, .int .i64 0, .int .i64 p.r.sch, str p.r.name, .int .u64 (p.r.node : Int), .int .u64 (p.r.svc : Int), .int .i64 y.sch, str y.name, .int .u64 (y.node : Int), .int .u64 (y.svc : Int), .int .i64 1, str [110, 111, 110, 101], .int .u64 0, .int .u64 0, .int .u64 (t : Int), .int .u64 (q : Int), .int .u64 (l : Int), .int .u64 0, .int .u64 0, .slice (some ⟨gs, 0, none⟩) 2 2] : Array Value).toList 0 (Mod.refl _ _) (.inl (by simp))
          generalize hZ : World.setCells _ nT 0 _ = u9 at *
          clear hZ
          have HS2 := HS2.mod hZO (by simpa using hne)
          have HT := hZB
          refine hK.out _ _ hZM (fun hHeld => ?_)
          clear hK K hZB hZM hZO
          (try simp only [Act.put, List.getElem_toArray, List.getElem_cons_zero, List.getElem_cons_succ, List.setIfInBounds_toArray, List.set_cons_zero, List.set_cons_succ])
          refine wpAnyH_done (by kernel_rfl) ?_ _
          go_wp2_with fail
          go_meet
          exact ⟨nT, gs, rfl, hid ⟨hHeld, HT, mkB_IsL HS2, HS2_n⟩⟩
      · go_simp
        have HS2_n : V.heap.size ≤ u0.heap.size := hHeld.size
        have HS2 : Blk (World.alloc u0 (.cells #[.int .i64 7, .int .i64 2, .int .u64 0, .int .i64 0, str [0], .int .i64 1, .int .i64 1, .int .u64 0, .int .i64 0, str s] 49)) u0.heap.size 49 #[.int .i64 7, .int .i64 2, .int .u64 0, .int .i64 0, str [0], .int .i64 1, .int .i64 1, .int .u64 0, .int .i64 0, str s] := Blk.new _ _ _
        have hXX : Ext u0 (World.alloc u0 (.cells #[.int .i64 7, .int .i64 2, .int .u64 0, .int .i64 0, str [0], .int .i64 1, .int .i64 1, .int .u64 0, .int .i64 0, str s] 49)) := (Mod.refl [] _).alloc _
        generalize World.alloc u0 (.cells #[.int .i64 7, .int .i64 2, .int .u64 0, .int .i64 0, str [0], .int .i64 1, .int .i64 1, .int .u64 0, .int .i64 0, str s] 49) = u1 at *
        refine hK.out _ _ (hHeld.trans hXX) (fun hHeld => ?_)
        clear hK K hXX
        (try simp only [Act.put, List.getElem_toArray, List.getElem_cons_zero, List.getElem_cons_succ, List.setIfInBounds_toArray, List.set_cons_zero, List.set_cons_succ])
        generalize hnn : u0.heap.size = gs at *
        clear hnn
        refine wpAnyH_ready (rs := [3, 14]) (by kernel_rfl) (by simp) ?_
        refine AllReadyH.cons rfl (fun K hK => ?_) (AllReadyH.cons rfl (fun K hK => ?_) AllReadyH.nil)
        · go_simp
          go_at_call 15
          refine (KN.out _).mono ?_
          rintro x u2 ⟨rfl, hb⟩
          have HS2 := HS2.ext hb
          
          refine hK.out _ _ (hHeld.trans hb) (fun hHeld => ?_)
          clear hK K
          (try simp only [Act.put, List.getElem_toArray, List.getElem_cons_zero, List.getElem_cons_succ, List.setIfInBounds_toArray, List.set_cons_zero, List.set_cons_succ])
          refine' wpAnyH_take (i := 7) (v := .agg #[.int .u64 2, .int .i64 0, .int .i64 p.r.sch, str p.r.name, .int .u64 (p.r.node : Int), .int .u64 (p.r.svc : Int), .int .i64 y.sch, str y.name, .int .u64 (y.node : Int), .int .u64 (y.svc : Int), .int .i64 1, str [110, 111, 110, 101], .int .u64 0, .int .u64 0, .int .u64 (t : Int), .int .u64 (q : Int), .int .u64 (l : Int), .int .u64 0, .int .u64 0]) rfl (by kernel_rfl) (by kernel_rfl) (by kernel_rfl) (fun _ _ _ h => h) (Or.inl ⟨by rfl, fun W hM => ?hfa4⟩) hHeld ?rfa4
          case hfa4 => kernel_rfl
          case rfa4 =>
          (try simp only [Act.put, List.getElem_toArray, List.getElem_cons_zero, List.getElem_cons_succ, List.setIfInBounds_toArray, List.set_cons_zero, List.set_cons_succ])
          refine' wpAnyH_take (i := 13) (v := .agg #[.int .u64 2, .int .i64 0, .int .i64 p.r.sch, str p.r.name, .int .u64 (p.r.node : Int), .int .u64 (p.r.svc : Int), .int .i64 y.sch, str y.name, .int .u64 (y.node : Int), .int .u64 (y.svc : Int), .int .i64 1, str [110, 111, 110, 101], .int .u64 0, .int .u64 0, .int .u64 (t : Int), .int .u64 (q : Int), .int .u64 (l : Int), .int .u64 0, .int .u64 0, .slice (some ⟨gs, 0, none⟩) 2 2]) rfl (by kernel_rfl) (by kernel_rfl) (by kernel_rfl) (fun _ _ _ h => h) (Or.inl ⟨by rfl, fun W hM => ?hfb5⟩) hHeld ?rfb5
          case hfb5 => kernel_rfl
          case rfb5 =>
          (try simp only [Act.put, List.getElem_toArray, List.getElem_cons_zero, List.getElem_cons_succ, List.setIfInBounds_toArray, List.set_cons_zero, List.set_cons_succ])
          refine wpAnyH_ready (rs := [14]) (by kernel_rfl) (by simp) ?_
          refine AllReadyH.cons rfl (fun K hK => ?_) AllReadyH.nil
          have hlt : gs < u2.heap.size := HS2.lt
          go_simp
          generalize hV : World.alloc u2 _ = u3
          have HT : Blk u3 u2.heap.size 37 #[.int .u64 0, .int .i64 0, .int .i64 0, .string ⟨#[]⟩, .int .u64 0, .int .u64 0, .int .i64 0, .string ⟨#[]⟩, .int .u64 0, .int .u64 0, .int .i64 0, .string ⟨#[]⟩, .int .u64 0, .int .u64 0, .int .u64 0, .int .u64 0, .int .u64 0, .int .u64 0, .int .u64 0, .slice none 0 0] := by rw [← hV]; exact Blk.new _ _ _
          have hXX : Ext u2 u3 := by rw [← hV]; exact (Mod.refl [] _).alloc _
          have HT_n : V.heap.size ≤ u2.heap.size := hHeld.size
          clear hV
          have HS2 := HS2.ext hXX
          refine hK.out _ _ (hHeld.trans hXX) (fun hHeld => ?_)
          clear hK K
          (try simp only [Act.put, List.getElem_toArray, List.getElem_cons_zero, List.getElem_cons_succ, List.setIfInBounds_toArray, List.set_cons_zero, List.set_cons_succ])
          generalize hnn : u2.heap.size = nT at *
          clear hnn
          have hne : gs ≠ nT := Nat.ne_of_lt hlt
          refine wpAnyH_ready (rs := [15]) (by kernel_rfl) (by simp) ?_
          refine AllReadyH.cons rfl (fun K hK => ?_) AllReadyH.nil
          refine wp_store_mid 37 _ _ rfl nT 0 #[.int .u64 2, .int .i64 0, .int .i64 p.r.sch, str p.r.name, .int .u64 (p.r.node : Int), .int .u64 (p.r.svc : Int), .int .i64 y.sch, str y.name, .int .u64 (y.node : Int), .int .u64 (y.svc : Int), .int .i64 1, str [110, 111, 110, 101], .int .u64 0, .int .u64 0, .int .u64 (t : Int), .int .u64 (q : Int), .int .u64 (l : Int), .int .u64 0, .int .u64 0, .slice (some ⟨gs, 0, none⟩) 2 2] (by rfl) (by rfl) (HT.there (Nat.le_refl 20)) (by kernel_rfl) (by simp [Value.oneCell']) ?_
          have hZB := setCells_all (ds := #[.int .u64 2, .int .i64 0, .int .i64 p.r.sch, str p.r.name, .int .u64 (p.r.node : Int), .int .u64 (p.r.svc : Int), .int .i64 y.sch, str y.name, .int .u64 (y.node : Int), .int .u64 (y.svc : Int), .int .i64 1, str [110, 111, 110, 101], .int .u64 0, .int .u64 0, .int .u64 (t : Int), .int .u64 (q : Int), .int .u64 (l : Int), .int .u64 0, .int .u64 0, .slice (some ⟨gs, 0, none⟩) 2 2]) HT rfl
          have hZM := setCells_mod (b := nT) (#[.int .u64 2, .int .i64 0, .int .i64 p.r.sch, str p.r.name, .int .u64 (p.r.node : Int), .int .u64 (p.r.svc : Int), .int .i64 y.sch, str y.name, .int .u64 (y.node : Int), .int .u64 (y.svc : Int), .int .i64 1, str [110, 111, 110, 101], .int .u64 0, .int .u64 0, .int .u64 (t : Int), .int .u64 (q : Int), .int .u64 (l : Int), .int .u64 0, .int .u64 0, .slice (some ⟨gs, 0, none⟩) 2 2] : Array Value).toList 0 hHeld (.inr HT_n)
          have hZO := setCells_mod (w := u3) (W := u3) (S := [nT]) (b := nT) (#[.int .u64 2, .int .i64 0, .int .i64 p.r.sch, str p.r.name, .int .u64 (p.r.node : Int), .int .u64 (p.r.svc : Int), .int .i64 y.sch, str y.name, .int .u64 (y.node : Int), .int .u64 (y.svc : Int), .int .i64 1, str [110, 111, 110, 101], .int .u64 0, .int .u64 0, .int .u64 (t : Int), .int .u64 (q : Int), .int .u64 (l : Int), .int .u64 0, .int .u64 0, .slice (some ⟨gs, 0, none⟩) 2 2] : Array Value).toList 0 (Mod.refl _ _) (.inl (by simp))
          generalize hZ : World.setCells _ nT 0 _ = u9 at *
          clear hZ
          have HS2 := HS2.mod hZO (by simpa using hne)
          have HT := hZB
          refine hK.out _ _ hZM (fun hHeld => ?_)
          clear hK K hZB hZM hZO
          (try simp only [Act.put, List.getElem_toArray, List.getElem_cons_zero, List.getElem_cons_succ, List.setIfInBounds_toArray, List.set_cons_zero, List.set_cons_succ])
          refine wpAnyH_done (by kernel_rfl) ?_ _
          go_wp2_with fail
          go_meet
          exact ⟨nT, gs, rfl, hid ⟨hHeld, HT, mkB_IsL HS2, HS2_n⟩⟩
        · have hlt : gs < u1.heap.size := HS2.lt
          go_simp
          generalize hV : World.alloc u1 _ = u2
          have HT : Blk u2 u1.heap.size 37 #[.int .u64 0, .int .i64 0, .int .i64 0, .string ⟨#[]⟩, .int .u64 0, .int .u64 0, .int .i64 0, .string ⟨#[]⟩, .int .u64 0, .int .u64 0, .int .i64 0, .string ⟨#[]⟩, .int .u64 0, .int .u64 0, .int .u64 0, .int .u64 0, .int .u64 0, .int .u64 0, .int .u64 0, .slice none 0 0] := by rw [← hV]; exact Blk.new _ _ _
          have hXX : Ext u1 u2 := by rw [← hV]; exact (Mod.refl [] _).alloc _
          have HT_n : V.heap.size ≤ u1.heap.size := hHeld.size
          clear hV
          have HS2 := HS2.ext hXX
          refine hK.out _ _ (hHeld.trans hXX) (fun hHeld => ?_)
          clear hK K
          (try simp only [Act.put, List.getElem_toArray, List.getElem_cons_zero, List.getElem_cons_succ, List.setIfInBounds_toArray, List.set_cons_zero, List.set_cons_succ])
          generalize hnn : u1.heap.size = nT at *
          clear hnn
          refine wpAnyH_ready (rs := [3]) (by kernel_rfl) (by simp) ?_
          refine AllReadyH.cons rfl (fun K hK => ?_) AllReadyH.nil
          go_simp
          go_at_call 15
          refine (KN.out _).mono ?_
          rintro x u3 ⟨rfl, hb⟩
          have HS2 := HS2.ext hb
          have HT := HT.ext hb
          
          refine hK.out _ _ (hHeld.trans hb) (fun hHeld => ?_)
          clear hK K
          (try simp only [Act.put, List.getElem_toArray, List.getElem_cons_zero, List.getElem_cons_succ, List.setIfInBounds_toArray, List.set_cons_zero, List.set_cons_succ])
          refine' wpAnyH_take (i := 7) (v := .agg #[.int .u64 2, .int .i64 0, .int .i64 p.r.sch, str p.r.name, .int .u64 (p.r.node : Int), .int .u64 (p.r.svc : Int), .int .i64 y.sch, str y.name, .int .u64 (y.node : Int), .int .u64 (y.svc : Int), .int .i64 1, str [110, 111, 110, 101], .int .u64 0, .int .u64 0, .int .u64 (t : Int), .int .u64 (q : Int), .int .u64 (l : Int), .int .u64 0, .int .u64 0]) rfl (by kernel_rfl) (by kernel_rfl) (by kernel_rfl) (fun _ _ _ h => h) (Or.inl ⟨by rfl, fun W hM => ?hfa6⟩) hHeld ?rfa6
          case hfa6 => kernel_rfl
          case rfa6 =>
          (try simp only [Act.put, List.getElem_toArray, List.getElem_cons_zero, List.getElem_cons_succ, List.setIfInBounds_toArray, List.set_cons_zero, List.set_cons_succ])
          refine' wpAnyH_take (i := 13) (v := .agg #[.int .u64 2, .int .i64 0, .int .i64 p.r.sch, str p.r.name, .int .u64 (p.r.node : Int), .int .u64 (p.r.svc : Int), .int .i64 y.sch, str y.name, .int .u64 (y.node : Int), .int .u64 (y.svc : Int), .int .i64 1, str [110, 111, 110, 101], .int .u64 0, .int .u64 0, .int .u64 (t : Int), .int .u64 (q : Int), .int .u64 (l : Int), .int .u64 0, .int .u64 0, .slice (some ⟨gs, 0, none⟩) 2 2]) rfl (by kernel_rfl) (by kernel_rfl) (by kernel_rfl) (fun _ _ _ h => h) (Or.inl ⟨by rfl, fun W hM => ?hfb7⟩) hHeld ?rfb7
          case hfb7 => kernel_rfl
          case rfb7 =>
          (try simp only [Act.put, List.getElem_toArray, List.getElem_cons_zero, List.getElem_cons_succ, List.setIfInBounds_toArray, List.set_cons_zero, List.set_cons_succ])
          have hne : gs ≠ nT := Nat.ne_of_lt hlt
          refine wpAnyH_ready (rs := [15]) (by kernel_rfl) (by simp) ?_
          refine AllReadyH.cons rfl (fun K hK => ?_) AllReadyH.nil
          refine wp_store_mid 37 _ _ rfl nT 0 #[.int .u64 2, .int .i64 0, .int .i64 p.r.sch, str p.r.name, .int .u64 (p.r.node : Int), .int .u64 (p.r.svc : Int), .int .i64 y.sch, str y.name, .int .u64 (y.node : Int), .int .u64 (y.svc : Int), .int .i64 1, str [110, 111, 110, 101], .int .u64 0, .int .u64 0, .int .u64 (t : Int), .int .u64 (q : Int), .int .u64 (l : Int), .int .u64 0, .int .u64 0, .slice (some ⟨gs, 0, none⟩) 2 2] (by rfl) (by rfl) (HT.there (Nat.le_refl 20)) (by kernel_rfl) (by simp [Value.oneCell']) ?_
          have hZB := setCells_all (ds := #[.int .u64 2, .int .i64 0, .int .i64 p.r.sch, str p.r.name, .int .u64 (p.r.node : Int), .int .u64 (p.r.svc : Int), .int .i64 y.sch, str y.name, .int .u64 (y.node : Int), .int .u64 (y.svc : Int), .int .i64 1, str [110, 111, 110, 101], .int .u64 0, .int .u64 0, .int .u64 (t : Int), .int .u64 (q : Int), .int .u64 (l : Int), .int .u64 0, .int .u64 0, .slice (some ⟨gs, 0, none⟩) 2 2]) HT rfl
          have hZM := setCells_mod (b := nT) (#[.int .u64 2, .int .i64 0, .int .i64 p.r.sch, str p.r.name, .int .u64 (p.r.node : Int), .int .u64 (p.r.svc : Int), .int .i64 y.sch, str y.name, .int .u64 (y.node : Int), .int .u64 (y.svc : Int), .int .i64 1, str [110, 111, 110, 101], .int .u64 0, .int .u64 0, .int .u64 (t : Int), .int .u64 (q : Int), .int .u64 (l : Int), .int .u64 0, .int .u64 0, .slice (some ⟨gs, 0, none⟩) 2 2] : Array Value).toList 0 hHeld (.inr HT_n)
          have hZO := setCells_mod (w := u3) (W := u3) (S := [nT]) (b := nT) (#[.int .u64 2, .int .i64 0, .int .i64 p.r.sch, str p.r.name, .int .u64 (p.r.node : Int), .int .u64 (p.r.svc : Int), .int .i64 y.sch, str y.name, .int .u64 (y.node : Int), .int .u64 (y.svc : Int), .int .i64 1, str [110, 111, 110, 101], .int .u64 0, .int .u64 0, .int .u64 (t : Int), .int .u64 (q : Int), .int .u64 (l : Int), .int .u64 0, .int .u64 0, .slice (some ⟨gs, 0, none⟩) 2 2] : Array Value).toList 0 (Mod.refl _ _) (.inl (by simp))
          generalize hZ : World.setCells _ nT 0 _ = u9 at *
          clear hZ
          have HS2 := HS2.mod hZO (by simpa using hne)
          have HT := hZB
          refine hK.out _ _ hZM (fun hHeld => ?_)
          clear hK K hZB hZM hZO
          (try simp only [Act.put, List.getElem_toArray, List.getElem_cons_zero, List.getElem_cons_succ, List.setIfInBounds_toArray, List.set_cons_zero, List.set_cons_succ])
          refine wpAnyH_done (by kernel_rfl) ?_ _
          go_wp2_with fail
          go_meet
          exact ⟨nT, gs, rfl, hid ⟨hHeld, HT, mkB_IsL HS2, HS2_n⟩⟩
      · go_simp
        generalize hV : World.alloc u0 _ = u1
        have HT : Blk u1 u0.heap.size 37 #[.int .u64 0, .int .i64 0, .int .i64 0, .string ⟨#[]⟩, .int .u64 0, .int .u64 0, .int .i64 0, .string ⟨#[]⟩, .int .u64 0, .int .u64 0, .int .i64 0, .string ⟨#[]⟩, .int .u64 0, .int .u64 0, .int .u64 0, .int .u64 0, .int .u64 0, .int .u64 0, .int .u64 0, .slice none 0 0] := by rw [← hV]; exact Blk.new _ _ _
        have hXX : Ext u0 u1 := by rw [← hV]; exact (Mod.refl [] _).alloc _
        have HT_n : V.heap.size ≤ u0.heap.size := hHeld.size
        clear hV
        refine hK.out _ _ (hHeld.trans hXX) (fun hHeld => ?_)
        clear hK K
        (try simp only [Act.put, List.getElem_toArray, List.getElem_cons_zero, List.getElem_cons_succ, List.setIfInBounds_toArray, List.set_cons_zero, List.set_cons_succ])
        generalize hnn : u0.heap.size = nT at *
        clear hnn
        refine wpAnyH_ready (rs := [3, 12]) (by kernel_rfl) (by simp) ?_
        refine AllReadyH.cons rfl (fun K hK => ?_) (AllReadyH.cons rfl (fun K hK => ?_) AllReadyH.nil)
        · go_simp
          go_at_call 15
          refine (KN.out _).mono ?_
          rintro x u2 ⟨rfl, hb⟩
          have HT := HT.ext hb
          
          refine hK.out _ _ (hHeld.trans hb) (fun hHeld => ?_)
          clear hK K
          (try simp only [Act.put, List.getElem_toArray, List.getElem_cons_zero, List.getElem_cons_succ, List.setIfInBounds_toArray, List.set_cons_zero, List.set_cons_succ])
          refine' wpAnyH_take (i := 7) (v := .agg #[.int .u64 2, .int .i64 0, .int .i64 p.r.sch, str p.r.name, .int .u64 (p.r.node : Int), .int .u64 (p.r.svc : Int), .int .i64 y.sch, str y.name, .int .u64 (y.node : Int), .int .u64 (y.svc : Int), .int .i64 1, str [110, 111, 110, 101], .int .u64 0, .int .u64 0, .int .u64 (t : Int), .int .u64 (q : Int), .int .u64 (l : Int), .int .u64 0, .int .u64 0]) rfl (by kernel_rfl) (by kernel_rfl) (by kernel_rfl) (fun _ _ _ h => h) (Or.inl ⟨by rfl, fun W hM => ?hfa8⟩) hHeld ?rfa8
          case hfa8 => kernel_rfl
          case rfa8 =>
          (try simp only [Act.put, List.getElem_toArray, List.getElem_cons_zero, List.getElem_cons_succ, List.setIfInBounds_toArray, List.set_cons_zero, List.set_cons_succ])
          refine wpAnyH_ready (rs := [12]) (by kernel_rfl) (by simp) ?_
          refine AllReadyH.cons rfl (fun K hK => ?_) AllReadyH.nil
          have hlt : nT < u2.heap.size := HT.lt
          go_simp
          have HS2_n : V.heap.size ≤ u2.heap.size := hHeld.size
          have HS2 : Blk (World.alloc u2 (.cells #[.int .i64 7, .int .i64 2, .int .u64 0, .int .i64 0, str [0], .int .i64 1, .int .i64 1, .int .u64 0, .int .i64 0, str s] 49)) u2.heap.size 49 #[.int .i64 7, .int .i64 2, .int .u64 0, .int .i64 0, str [0], .int .i64 1, .int .i64 1, .int .u64 0, .int .i64 0, str s] := Blk.new _ _ _
          have hXX : Ext u2 (World.alloc u2 (.cells #[.int .i64 7, .int .i64 2, .int .u64 0, .int .i64 0, str [0], .int .i64 1, .int .i64 1, .int .u64 0, .int .i64 0, str s] 49)) := (Mod.refl [] _).alloc _
          generalize World.alloc u2 (.cells #[.int .i64 7, .int .i64 2, .int .u64 0, .int .i64 0, str [0], .int .i64 1, .int .i64 1, .int .u64 0, .int .i64 0, str s] 49) = u3 at *
          have HT := HT.ext hXX
          refine hK.out _ _ (hHeld.trans hXX) (fun hHeld => ?_)
          clear hK K hXX
          (try simp only [Act.put, List.getElem_toArray, List.getElem_cons_zero, List.getElem_cons_succ, List.setIfInBounds_toArray, List.set_cons_zero, List.set_cons_succ])
          generalize hnn : u2.heap.size = gs at *
          clear hnn
          refine' wpAnyH_take (i := 13) (v := .agg #[.int .u64 2, .int .i64 0, .int .i64 p.r.sch, str p.r.name, .int .u64 (p.r.node : Int), .int .u64 (p.r.svc : Int), .int .i64 y.sch, str y.name, .int .u64 (y.node : Int), .int .u64 (y.svc : Int), .int .i64 1, str [110, 111, 110, 101], .int .u64 0, .int .u64 0, .int .u64 (t : Int), .int .u64 (q : Int), .int .u64 (l : Int), .int .u64 0, .int .u64 0, .slice (some ⟨gs, 0, none⟩) 2 2]) rfl (by kernel_rfl) (by kernel_rfl) (by kernel_rfl) (fun _ _ _ h => h) (Or.inl ⟨by rfl, fun W hM => ?hfb9⟩) hHeld ?rfb9
          case hfb9 => kernel_rfl
          case rfb9 =>
          (try simp only [Act.put, List.getElem_toArray, List.getElem_cons_zero, List.getElem_cons_succ, List.setIfInBounds_toArray, List.set_cons_zero, List.set_cons_succ])
          have hne : gs ≠ nT := Nat.ne_of_gt hlt
          refine wpAnyH_ready (rs := [15]) (by kernel_rfl) (by simp) ?_
          refine AllReadyH.cons rfl (fun K hK => ?_) AllReadyH.nil
          refine wp_store_mid 37 _ _ rfl nT 0 #[.int .u64 2, .int .i64 0, .int .i64 p.r.sch, str p.r.name, .int .u64 (p.r.node : Int), .int .u64 (p.r.svc : Int), .int .i64 y.sch, str y.name, .int .u64 (y.node : Int), .int .u64 (y.svc : Int), .int .i64 1, str [110, 111, 110, 101], .int .u64 0, .int .u64 0, .int .u64 (t : Int), .int .u64 (q : Int), .int .u64 (l : Int), .int .u64 0, .int .u64 0, .slice (some ⟨gs, 0, none⟩) 2 2] (by rfl) (by rfl) (HT.there (Nat.le_refl 20)) (by kernel_rfl) (by simp [Value.oneCell']) ?_
          have hZB := setCells_all (ds := #[.int .u64 2, .int .i64 0, .int .i64 p.r.sch, str p.r.name, .int .u64 (p.r.node : Int), .int .u64 (p.r.svc : Int), .int .i64 y.sch, str y.name, .int .u64 (y.node : Int), .int .u64 (y.svc : Int), .int .i64 1, str [110, 111, 110, 101], .int .u64 0, .int .u64 0, .int .u64 (t : Int), .int .u64 (q : Int), .int .u64 (l : Int), .int .u64 0, .int .u64 0, .slice (some ⟨gs, 0, none⟩) 2 2]) HT rfl
          have hZM := setCells_mod (b := nT) (#[.int .u64 2, .int .i64 0, .int .i64 p.r.sch, str p.r.name, .int .u64 (p.r.node : Int), .int .u64 (p.r.svc : Int), .int .i64 y.sch, str y.name, .int .u64 (y.node : Int), .int .u64 (y.svc : Int), .int .i64 1, str [110, 111, 110, 101], .int .u64 0, .int .u64 0, .int .u64 (t : Int), .int .u64 (q : Int), .int .u64 (l : Int), .int .u64 0, .int .u64 0, .slice (some ⟨gs, 0, none⟩) 2 2] : Array Value).toList 0 hHeld (.inr HT_n)
          have hZO := setCells_mod (w := u3) (W := u3) (S := [nT]) (b := nT) (#[.int .u64 2, .int .i64 0, .int .i64 p.r.sch, str p.r.name, .int .u64 (p.r.node : Int), .int .u64 (p.r.svc : Int), .int .i64 y.sch, str y.name, .int .u64 (y.node : Int), .int .u64 (y.svc : Int), .int .i64 1, str [110, 111, 110, 101], .int .u64 0, .int .u64 0, .int .u64 (t : Int), .int .u64 (q : Int), .int .u64 (l : Int), .int .u64 0, .int .u64 0, .slice (some ⟨gs, 0, none⟩) 2 2] : Array Value).toList 0 (Mod.refl _ _) (.inl (by simp))
          generalize hZ : World.setCells _ nT 0 _ = u9 at *
          clear hZ
          have HS2 := HS2.mod hZO (by simpa using hne)
          have HT := hZB
          refine hK.out _ _ hZM (fun hHeld => ?_)
          clear hK K hZB hZM hZO
          (try simp only [Act.put, List.getElem_toArray, List.getElem_cons_zero, List.getElem_cons_succ, List.setIfInBounds_toArray, List.set_cons_zero, List.set_cons_succ])
          refine wpAnyH_done (by kernel_rfl) ?_ _
          go_wp2_with fail
          go_meet
          exact ⟨nT, gs, rfl, hid ⟨hHeld, HT, mkB_IsL HS2, HS2_n⟩⟩
        · have hlt : nT < u1.heap.size := HT.lt
          go_simp
          have HS2_n : V.heap.size ≤ u1.heap.size := hHeld.size
          have HS2 : Blk (World.alloc u1 (.cells #[.int .i64 7, .int .i64 2, .int .u64 0, .int .i64 0, str [0], .int .i64 1, .int .i64 1, .int .u64 0, .int .i64 0, str s] 49)) u1.heap.size 49 #[.int .i64 7, .int .i64 2, .int .u64 0, .int .i64 0, str [0], .int .i64 1, .int .i64 1, .int .u64 0, .int .i64 0, str s] := Blk.new _ _ _
          have hXX : Ext u1 (World.alloc u1 (.cells #[.int .i64 7, .int .i64 2, .int .u64 0, .int .i64 0, str [0], .int .i64 1, .int .i64 1, .int .u64 0, .int .i64 0, str s] 49)) := (Mod.refl [] _).alloc _
          generalize World.alloc u1 (.cells #[.int .i64 7, .int .i64 2, .int .u64 0, .int .i64 0, str [0], .int .i64 1, .int .i64 1, .int .u64 0, .int .i64 0, str s] 49) = u2 at *
          have HT := HT.ext hXX
          refine hK.out _ _ (hHeld.trans hXX) (fun hHeld => ?_)
          clear hK K hXX
          (try simp only [Act.put, List.getElem_toArray, List.getElem_cons_zero, List.getElem_cons_succ, List.setIfInBounds_toArray, List.set_cons_zero, List.set_cons_succ])
          generalize hnn : u1.heap.size = gs at *
          clear hnn
          refine wpAnyH_ready (rs := [3]) (by kernel_rfl) (by simp) ?_
          refine AllReadyH.cons rfl (fun K hK => ?_) AllReadyH.nil
          go_simp
          go_at_call 15
          refine (KN.out _).mono ?_
          rintro x u3 ⟨rfl, hb⟩
          have HS2 := HS2.ext hb
          have HT := HT.ext hb
          
          refine hK.out _ _ (hHeld.trans hb) (fun hHeld => ?_)
          clear hK K
          (try simp only [Act.put, List.getElem_toArray, List.getElem_cons_zero, List.getElem_cons_succ, List.setIfInBounds_toArray, List.set_cons_zero, List.set_cons_succ])
          refine' wpAnyH_take (i := 7) (v := .agg #[.int .u64 2, .int .i64 0, .int .i64 p.r.sch, str p.r.name, .int .u64 (p.r.node : Int), .int .u64 (p.r.svc : Int), .int .i64 y.sch, str y.name, .int .u64 (y.node : Int), .int .u64 (y.svc : Int), .int .i64 1, str [110, 111, 110, 101], .int .u64 0, .int .u64 0, .int .u64 (t : Int), .int .u64 (q : Int), .int .u64 (l : Int), .int .u64 0, .int .u64 0]) rfl (by kernel_rfl) (by kernel_rfl) (by kernel_rfl) (fun _ _ _ h => h) (Or.inl ⟨by rfl, fun W hM => ?hfa10⟩) hHeld ?rfa10
          case hfa10 => kernel_rfl
          case rfa10 =>
          (try simp only [Act.put, List.getElem_toArray, List.getElem_cons_zero, List.getElem_cons_succ, List.setIfInBounds_toArray, List.set_cons_zero, List.set_cons_succ])
          refine' wpAnyH_take (i := 13) (v := .agg #[.int .u64 2, .int .i64 0, .int .i64 p.r.sch, str p.r.name, .int .u64 (p.r.node : Int), .int .u64 (p.r.svc : Int), .int .i64 y.sch, str y.name, .int .u64 (y.node : Int), .int .u64 (y.svc : Int), .int .i64 1, str [110, 111, 110, 101], .int .u64 0, .int .u64 0, .int .u64 (t : Int), .int .u64 (q : Int), .int .u64 (l : Int), .int .u64 0, .int .u64 0, .slice (some ⟨gs, 0, none⟩) 2 2]) rfl (by kernel_rfl) (by kernel_rfl) (by kernel_rfl) (fun _ _ _ h => h) (Or.inl ⟨by rfl, fun W hM => ?hfb11⟩) hHeld ?rfb11
          case hfb11 => kernel_rfl
          case rfb11 =>
          (try simp only [Act.put, List.getElem_toArray, List.getElem_cons_zero, List.getElem_cons_succ, List.setIfInBounds_toArray, List.set_cons_zero, List.set_cons_succ])
          have hne : gs ≠ nT := Nat.ne_of_gt hlt
          refine wpAnyH_ready (rs := [15]) (by kernel_rfl) (by simp) ?_
          refine AllReadyH.cons rfl (fun K hK => ?_) AllReadyH.nil
          refine wp_store_mid 37 _ _ rfl nT 0 #[.int .u64 2, .int .i64 0, .int .i64 p.r.sch, str p.r.name, .int .u64 (p.r.node : Int), .int .u64 (p.r.svc : Int), .int .i64 y.sch, str y.name, .int .u64 (y.node : Int), .int .u64 (y.svc : Int), .int .i64 1, str [110, 111, 110, 101], .int .u64 0, .int .u64 0, .int .u64 (t : Int), .int .u64 (q : Int), .int .u64 (l : Int), .int .u64 0, .int .u64 0, .slice (some ⟨gs, 0, none⟩) 2 2] (by rfl) (by rfl) (HT.there (Nat.le_refl 20)) (by kernel_rfl) (by simp [Value.oneCell']) ?_
          have hZB := setCells_all (ds := #[.int .u64 2, .int .i64 0, .int .i64 p.r.sch, str p.r.name, .int .u64 (p.r.node : Int), .int .u64 (p.r.svc : Int), .int .i64 y.sch, str y.name, .int .u64 (y.node : Int), .int .u64 (y.svc : Int), .int .i64 1, str [110, 111, 110, 101], .int .u64 0, .int .u64 0, .int .u64 (t : Int), .int .u64 (q : Int), .int .u64 (l : Int), .int .u64 0, .int .u64 0, .slice (some ⟨gs, 0, none⟩) 2 2]) HT rfl
          have hZM := setCells_mod (b := nT) (#[.int .u64 2, .int .i64 0, .int .i64 p.r.sch, str p.r.name, .int .u64 (p.r.node : Int), .int .u64 (p.r.svc : Int), .int .i64 y.sch, str y.name, .int .u64 (y.node : Int), .int .u64 (y.svc : Int), .int .i64 1, str [110, 111, 110, 101], .int .u64 0, .int .u64 0, .int .u64 (t : Int), .int .u64 (q : Int), .int .u64 (l : Int), .int .u64 0, .int .u64 0, .slice (some ⟨gs, 0, none⟩) 2 2] : Array Value).toList 0 hHeld (.inr HT_n)
          have hZO := setCells_mod (w := u3) (W := u3) (S := [nT]) (b := nT) (#[.int .u64 2, .int .i64 0, .int .i64 p.r.sch, str p.r.name, .int .u64 (p.r.node : Int), .int .u64 (p.r.svc : Int), .int .i64 y.sch, str y.name, .int .u64 (y.node : Int), .int .u64 (y.svc : Int), .int .i64 1, str [110, 111, 110, 101], .int .u64 0, .int .u64 0, .int .u64 (t : Int), .int .u64 (q : Int), .int .u64 (l : Int), .int .u64 0, .int .u64 0, .slice (some ⟨gs, 0, none⟩) 2 2] : Array Value).toList 0 (Mod.refl _ _) (.inl (by simp))
          generalize hZ : World.setCells _ nT 0 _ = u9 at *
          clear hZ
          have HS2 := HS2.mod hZO (by simpa using hne)
          have HT := hZB
          refine hK.out _ _ hZM (fun hHeld => ?_)
          clear hK K hZB hZM hZO
          (try simp only [Act.put, List.getElem_toArray, List.getElem_cons_zero, List.getElem_cons_succ, List.setIfInBounds_toArray, List.set_cons_zero, List.set_cons_succ])
          refine wpAnyH_done (by kernel_rfl) ?_ _
          go_wp2_with fail
          go_meet
          exact ⟨nT, gs, rfl, hid ⟨hHeld, HT, mkB_IsL HS2, HS2_n⟩⟩
    clear e
    obtain ⟨nT, gs, rfl, hcut⟩ := hcut
    rename World => wx
    have HX5 : Hid (Ext V wx) := hid hcut.out.1
    obtain ⟨zc, hzc⟩ : ∃ zc : Array Value, zc = #[.int .u64 2, .int .i64 0, .int .i64 p.r.sch, str p.r.name, .int .u64 (p.r.node : Int), .int .u64 (p.r.svc : Int), .int .i64 y.sch, str y.name, .int .u64 (y.node : Int), .int .u64 (y.svc : Int), .int .i64 1, str [110, 111, 110, 101], .int .u64 0, .int .u64 0, .int .u64 (t : Int), .int .u64 (q : Int), .int .u64 (l : Int), .int .u64 0, .int .u64 0, .slice (some ⟨gs, 0, none⟩) 2 2] := ⟨_, rfl⟩
    have HT : Hid (∀ e : Later wx, Blk e.x nT 37 zc) := hid (fun e => by rw [hzc]; exact hcut.out.2.1.later e)
    have HBS : Hid (∀ e : Later wx, BsL e.x (some ⟨gs, 0, none⟩) 2 (mkB s)) := hid (fun e => hcut.out.2.2.1.ext e.h)
    have HGS : Hid (V.heap.size ≤ gs) := hid hcut.out.2.2.2
    have KR : Hid (∀ W, BsL W (some ⟨gs, 0, none⟩) 2 (mkB s) → Calls Tryz.prog 16 #[.agg zc] W (Ret (.int .i64 (bunRight (mkP p.r y t q l) (mkB s) 2)) W)) := hid (fun W hL => by rw [hzc]; exact KR.out W _ hL)
    have HZS : Hid ((Tryz.prog.info? 37).map (·.size) = some zc.size) := hid (by rw [hzc]; kernel_rfl)
    have HZ1 : Hid (zc.all (·.oneCell') = true) := hid (by rw [hzc]; simp [Value.oneCell'])
    have HZ2 : Hid (zc.size = 20) := hid (by rw [hzc]; rfl)
    have HZC : Hid (zc = bunC (mkP p.r y t q l) (some ⟨gs, 0, none⟩) 2 2) := hid hzc
    have HB3a := HB3
    have HB3 := hid (HB3.out.ext HX5.out)
    have HE := hid (HE.out.trans HX5.out)
    have HSV : Hid (w.heap.size + 3 < V.heap.size) := hid HB3a.out.lt
    clear hzc hcut HX5 HBL HEL HPR HB0 HB1 HB2 HB3a KB KA KN
    generalize bunRight (mkP p.r y t q l) (mkB s) 2 = R at *
    obtain ⟨e, he⟩ := Later.self wx
    rw [he]
    clear he
    have tk1 : True := trivial
    go_upto_region 7 with (first | (clear tk1; refine wpList_row (by rfl) 37 _ rfl _ rfl (HT.out _) Tryz.underlying37 rfl HZS.out ?_) | (go_at_call 16; refine (Ret.later (KR.out _ (HBS.out _))).mono ?_; rintro x _ ⟨rfl, e, rfl⟩))
    by_cases hR : R = 0
    · have HR := hid hR
      have t1a : ((R) == (0)) = true := by rw [beq_iff_eq]; exact hR
      have t1b : ((R) = (0)) = True := eq_true (by exact hR)
      have t1c : ((R) != (0)) = false := by rw [bne_eq_false_iff_eq]; exact hR
      clear hR
      have tk1 : True := trivial
      go_wp2_with (first | (clear tk1; refine wpList_row (by rfl) 37 _ rfl _ rfl (HT.out _) Tryz.underlying37 rfl HZS.out ?_) | (refine wpList_store_mid rfl 37 _ _ rfl (w.heap.size + 3) 0 zc (by rfl) (by rfl) ((HB3.out.later e).there (by rw [HZ2.out]; exact Nat.le_refl 20)) HZS.out HZ1.out ?_))
      generalize hZZ : World.setCells _ _ _ _ = ZZ
      have HZB : Hid (Blk ZZ (w.heap.size + 3) 37 zc) := hid (by rw [← hZZ]; exact setCells_all (ds := zc) (HB3.out.later e) (by rw [Array.length_toList, HZ2.out]; rfl))
      have HZM : Hid (Ext w ZZ) := hid (by rw [← hZZ]; exact setCells_mod _ _ (HE.out.trans e.h) (.inr (by omega)))
      have HZX : Hid (∀ A k bs, BsL e.x A k bs → (∀ b o, A = some ⟨b, o, none⟩ → b ≠ w.heap.size + 3) → BsL ZZ A k bs) := hid (fun A k bs h hn hk => by
        obtain ⟨b, o, hA, hb, hc⟩ := h hk
        have hM : Mod [w.heap.size + 3] e.x ZZ := by rw [← hZZ]; exact setCells_mod _ _ (Mod.refl _ _) (.inl (by simp))
        exact ⟨b, o, hA, Nat.lt_of_lt_of_le hb hM.size, fun i hi => (hc i hi).mod hM hb (by simpa using hn b o hA)⟩)
      clear hZZ
      refine bodyPost_ret (results_cell2 rfl _ (by rfl) rfl HZB.out Tryz.underlying37 rfl HZS.out) rfl ?_
      exact ⟨zc, by rw [HMR.out, HR.out]; rfl, HZM.out, Or.inr ⟨HMR.out.trans HR.out, HRT.out, some ⟨gs, 0, none⟩, 2, HZC.out, HZX.out _ _ _ (by rw [HS.out]; exact HBS.out e) (fun b o h => by have := HGS.out; have := HSV.out; cases h; omega)⟩⟩
    · have HR := hid hR
      have t1a : ((R) == (0)) = false := by rw [beq_eq_false_iff_ne]; exact hR
      have t1b : ((R) = (0)) = False := eq_false (by exact hR)
      have t1c : ((R) != (0)) = true := by rw [bne_iff_ne]; exact hR
      clear hR
      go_wp2_with (first | (refine wpList_store_mid rfl 37 _ _ rfl (w.heap.size + 3) 0 zeroBun (by rfl) (by rfl) ((HB3.out.later e).there (Nat.le_refl 20)) (by kernel_rfl) (by simp [zeroBun, Value.oneCell']) ?_))
      generalize hZZ : World.setCells _ _ _ _ = ZZ
      have HZB : Hid (Blk ZZ (w.heap.size + 3) 37 zeroBun) := hid (by rw [← hZZ]; exact setCells_all (ds := zeroBun) (HB3.out.later e) rfl)
      have HZM : Hid (Ext w ZZ) := hid (by rw [← hZZ]; exact setCells_mod _ _ (HE.out.trans e.h) (.inr (by omega)))
      have HZX : Hid (∀ A k bs, BsL e.x A k bs → (∀ b o, A = some ⟨b, o, none⟩ → b ≠ w.heap.size + 3) → BsL ZZ A k bs) := hid (fun A k bs h hn hk => by
        obtain ⟨b, o, hA, hb, hc⟩ := h hk
        have hM : Mod [w.heap.size + 3] e.x ZZ := by rw [← hZZ]; exact setCells_mod _ _ (Mod.refl _ _) (.inl (by simp))
        exact ⟨b, o, hA, Nat.lt_of_lt_of_le hb hM.size, fun i hi => (hc i hi).mod hM hb (by simpa using hn b o hA)⟩)
      clear hZZ
      refine bodyPost_ret (results_cell2 rfl _ (by rfl) rfl HZB.out Tryz.underlying37 rfl (by kernel_rfl)) rfl ?_
      exact ⟨zeroBun, by rw [HMR.out]; rfl, HZM.out, Or.inl ⟨by rw [HMR.out]; exact HR.out, rfl⟩⟩
end Go.Proofs.YtogjghmoankleaaGreat
