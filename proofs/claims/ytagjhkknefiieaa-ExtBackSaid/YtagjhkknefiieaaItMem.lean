/-
  Items in memory; how deep they are.
-/
import Derived.Test.YtagjhkknefiieaaLaw
import Derived.Test.YtagjhkknefiieaaItPlain2
namespace Go.Proofs.Ytagjhkknefiieaa
open Go.RowKit
set_option linter.unusedVariables false

/-- An item's value: A, c: where its items lie, and for how many there is room. -/
abbrev itemV (t : T) (A : Option Addr) (c : Nat) : Value := .agg #[.int .i64 t.kind, .int .u64 (t.n : Int), str t.s, .slice A t.k c, .bool t.op]
/-- An item's five cells. -/
def At5 (w : World) (b o : Nat) (t : T) (A : Option Addr) (c : Nat) : Prop :=
  w.cell? ⟨b, o, none⟩ = some (.int .i64 t.kind) ∧ w.cell? ⟨b, o + 1, none⟩ = some (.int .u64 (t.n : Int)) ∧ w.cell? ⟨b, o + 2, none⟩ = some (str t.s) ∧ w.cell? ⟨b, o + 3, none⟩ = some (.slice A t.k c) ∧ w.cell? ⟨b, o + 4, none⟩ = some (.bool t.op)
/-- An item's items lie in memory, in blocks of Q alone. -/
def IsL (w : World) (Q : Nat → Prop) : T → Option Addr → Prop
  | T.nil, A => False
  | T.mk _ _ _ _ k ch, A => 0 < k → ∃ b o, A = some ⟨b, o, none⟩ ∧ b < w.heap.size ∧ Q b ∧ ∀ i, i < k → ∃ Ai ci, At5 w b (o + i * 5) (ch i) Ai ci ∧ IsL w Q (ch i) Ai

theorem At5.mod {w w' : World} {b o : Nat} {t : T} {A : Option Addr} {c : Nat} {S : List Nat} (h : At5 w b o t A c) (hm : Mod S w w') (hb : b < w.heap.size) (hs : b ∉ S) : At5 w' b o t A c := by
  obtain ⟨h0, h1, h2, h3, h4⟩ := h
  exact ⟨(hm.cell hb hs).trans h0, (hm.cell hb hs).trans h1, (hm.cell hb hs).trans h2, (hm.cell hb hs).trans h3, (hm.cell hb hs).trans h4⟩
theorem IsL.mod {w w' : World} {Q : Nat → Prop} {S : List Nat} (hm : Mod S w w') (hs : ∀ k, Q k → k < w.heap.size → k ∉ S) (t : T) : ∀ {A : Option Addr}, IsL w Q t A → IsL w' Q t A := by
  induction t with
  | nil => intro A h; cases h
  | mk kind n s op k ch ih =>
    intro A h h0
    obtain ⟨b, o, hA, hb, hq, hc⟩ := h h0
    refine ⟨b, o, hA, Nat.lt_of_lt_of_le hb hm.size, hq, fun i hi => ?_⟩
    obtain ⟨Ai, ci, h1, h2⟩ := hc i hi
    exact ⟨Ai, ci, h1.mod hm hb (hs b hq hb), ih i h2⟩
theorem IsL.ext {w w' : World} {Q : Nat → Prop} {t : T} {A : Option Addr} (h : IsL w Q t A) (hm : Ext w w') : IsL w' Q t A := IsL.mod hm (by simp) t h
theorem IsL.weak {w : World} {Q R : Nat → Prop} (hq : ∀ k, k < w.heap.size → Q k → R k) (t : T) : ∀ {A : Option Addr}, IsL w Q t A → IsL w R t A := by
  induction t with
  | nil => intro A h; cases h
  | mk kind n s op k ch ih =>
    intro A h h0
    obtain ⟨b, o, hA, hb, hq', hc⟩ := h h0
    refine ⟨b, o, hA, hb, hq b hb hq', fun i hi => ?_⟩
    obtain ⟨Ai, ci, h1, h2⟩ := hc i hi
    exact ⟨Ai, ci, h1, ih i h2⟩
theorem IsL.cells {w W : World} {Q : Nat → Prop} {kind : Int} {n : Nat} {s : List UInt8} {op : Bool} {k : Nat} {ch : Nat → T} {A : Option Addr} (h : IsL w Q (.mk kind n s op k ch) A) (hW : Ext w W) {i : Nat} (hi : i < k) :
    ∃ b o Ai ci, A = some ⟨b, o, none⟩ ∧ b < w.heap.size ∧ At5 W b (o + i * 5) (ch i) Ai ci ∧ IsL W Q (ch i) Ai := by
  obtain ⟨b, o, hA, hb, hq, hc⟩ := h (by omega)
  obtain ⟨Ai, ci, h1, h2⟩ := hc i hi
  exact ⟨b, o, Ai, ci, hA, hb, h1.mod hW hb (by simp), h2.ext hW⟩
theorem IsL.leaf {w : World} {Q : Nat → Prop} {kind : Int} {n : Nat} {s : List UInt8} {op : Bool} {ch : Nat → T} {A : Option Addr} : IsL w Q (.mk kind n s op 0 ch) A := fun h => by omega

/-- An item's own five cells, in a block. -/
abbrev itemC (t : T) (A : Option Addr) (c : Nat) : Array Value := #[.int .i64 t.kind, .int .u64 (t.n : Int), str t.s, .slice A t.k c, .bool t.op]

set_option maxRecDepth 20000 in
set_option maxHeartbeats 1600000 in
theorem Deep_any (t : T) : ∀ (m : Nat), m ≤ 9 → t.ok → ∀ A c w, IsL w (fun _ => True) t A →
    Calls Try.prog 68 #[itemV t A c, .int .i64 (m : Int)] w (Ret (.int .i64 (t.deep m : Int)) w) := by
  induction t with
  | nil => intro m _ hok; cases hok
  | mk kind n s op k ch ih =>
    intro m hm hok A c w h
    have H := hid h; have HM := hid hm; have HO := hid hok
    have m0 : (0 : Int) ≤ (m : Int) := by omega
    have m1 : (m : Int) ≤ 9 := by omega
    clear h hm hok
    show Calls Try.prog 68 #[.agg #[.int .i64 kind, .int .u64 (n : Int), str s, .slice A k c, .bool op], .int .i64 (m : Int)] w _
    by_cases hm0 : m < 1
    · have e : (T.mk kind n s op k ch).deep m = 1 := by unfold T.deep; rw [if_pos hm0]
      rw [e]
      obtain rfl : m = 0 := by omega
      clear e
      go_enter Try.func68, Try.ntmps68
      go_wp2
      go_ret
      exact Ret.mk rfl ((Mod.refl _ _).alloc _)
    · have e : (T.mk kind n s op k ch).deep m = T.mx (fun i => (ch i).deep (m - 1)) k + 1 := if_neg hm0
      have hl : Hid (∀ j, j ≤ k → T.mx (fun i => (ch i).deep (m - 1)) j ≤ 10) := fun j _ => T.mx_le.2 fun i _ => by have := T.deep_le (ch i) (m - 1); have := HM.out; omega
      rw [e]
      have tm : decide ((m : Int) < 1) = false := by simp; omega
      have tm2 : (m < 1) = False := by simp [hm0]
      have tm3 : (m = 0) = False := by simp; omega
      have HMP : Hid (1 ≤ m) := by unfold Hid; omega
      have hk : Hid (k < 4611686018427387904) := by have := HO.out; unfold T.ok at this; exact this.2.2.2.1
      have HB : Hid (Blk (w.alloc (.cells #[.int .i64 kind, .int .u64 (n : Int), str s, .slice A k c, .bool op] 63)) w.heap.size 63 #[.int .i64 kind, .int .u64 (n : Int), str s, .slice A k c, .bool op]) := Blk.new _ _ _
      have HE0 := hid ((Mod.refl [] w).alloc (.cells #[.int .i64 kind, .int .u64 (n : Int), str s, .slice A k c, .bool op] 63))
      clear e hm0
      go_enter Try.func68, Try.ntmps68
      go_wp2_with fail
      go_loopw [5, 6] (fun s5 s6 wr => ∃ i : Nat, i ≤ k ∧ s6 = .int .i64 (i : Int) ∧ s5 = .int .i64 (T.mx (fun i => (ch i).deep (m - 1)) i : Nat) ∧ Hid (Ext w wr ∧ Blk wr w.heap.size 63 #[.int .i64 kind, .int .u64 (n : Int), str s, .slice A k c, .bool op])) (fun _ i _ => k - (intOf i).toNat)
      case atStart => exact ⟨0, Nat.zero_le _, rfl, rfl, HE0.out, HB.out⟩
      case round =>
        obtain ⟨i, hi, rfl, rfl, hH⟩ := hrel
        have i0 : (0 : Int) ≤ (i : Int) := by omega
        have c3 : wr.cell? ⟨w.heap.size, 3, none⟩ = some (.slice A k c) := hH.out.2.cell 3
        have x1 := hl.out i hi
        by_cases hlt : i < k
        · obtain ⟨b, o, Ai, ci, rfl, hb, ⟨k0, k1, k2, k3, k4⟩, hL⟩ := H.out.cells hH.out.1 hlt
          have i1 : (i : Int) < (k : Int) := by omega
          have hk2 : (k : Int) < 4611686018427387904 := by have := hk.out; omega
          have ti : decide (i < k) = true := by simp [hlt]
          have ha : (m : Int) - 1 = ((m - 1 : Nat) : Int) := by have := HMP.out; omega
          have hd1 := T.deep_le (ch i) (m - 1)
          have HD : Hid ((ch i).deep (m - 1) ≤ 10) := by have := HM.out; unfold Hid; omega
          have HX := hid x1
          have HL := hid hL; have HLT := hid hlt
          have HOi : Hid (ch i).ok := by have := HO.out; unfold T.ok at this; exact this.2.2.2.2 i hlt
          have HMX : Hid (T.mx (fun i => (ch i).deep (m - 1)) (i + 1) = max (T.mx (fun i => (ch i).deep (m - 1)) i) ((ch i).deep (m - 1))) := rfl
          have HI := hid (ih i)
          clear hL hlt hd1 ih
          generalize T.mx (fun i => (ch i).deep (m - 1)) i = M at *
          go_wp2_with fail
          refine (HI.out (m - 1) (by have := HM.out; omega) HOi.out Ai ci _ HL.out).mono ?_
          rintro e w3 ⟨rfl, hb3⟩
          generalize (ch i).deep (m - 1) = D at *
          have HE3 := hid (hH.out.1.trans hb3)
          have HB3 := hid (hH.out.2.ext hb3)
          clear hb3
          go_wp2_with fail
          have hlt := HLT.out
          refine ⟨⟨i + 1, by omega, by simp, ?_, (show Hid _ from ⟨HE3.out, HB3.out⟩)⟩, ?_⟩
          · rw [HMX.out]; congr 1; omega
          · simp only [intOf]; omega
        · obtain rfl : i = k := by omega
          have ti : decide (i < i) = false := by simp
          clear ih
          go_wp2_with fail
          go_ret
          exact Ret.mk rfl hH.out.1
end Go.Proofs.Ytagjhkknefiieaa
