/-
  Items: how many there are, whether they are plain.
  The walks of package cbor's spread, at its four types: a number's bytes, the greatest first.
  The walks of package cbor's Head, opens, Open: each returns the bytes of its plain Lean function, and turns nothing that was there.
  The walks of package cbor's opens, Open and NewReader.
  The walks of the reference's digits and Head.
  Items: right ones, few ones; the reference's bytes.
  The walks of cbor.Bytes, cbor.Text and of the reference's.
  Items: the code's Right, Build and Same.
  Items: the code's Build and Same.
  A right name's item, by the code and by the reference.
  Sums against chance, plainly: the code's (bits turned about, a byte at a time) and the reference's (bits in a row) are the same.
  Lists of items, plainly; a primary's items and bytes; why it is not right.
  Security texts, plainly: what is right; their items.
  Regions that draw their order, whose operations read and whose callees turn nothing that was there: walked once, in the order of the text.
  Later worlds: nothing that was there has turned; drawn regions of quiet operations over them.
  Rows of elements of a fixed number of cells, plainly.
-/
import Derived.Test.YtblfmokklfhklaaGreatDoorMAsbParsesCarda
import Init
import Derived.Laws.Rows
import Derived.Deep.Quiet
import Derived.Deep.MidRow
import Derived.Deep.RegionHeld3
import Derived.Laws.OwnMore
import Derived.OwnWalk
import Derived.OneCell

namespace Go.Proofs.YtblfmokklfhklaaGreatDoor
open Go.RowKit
set_option linter.unusedVariables false
set_option linter.unusedSimpArgs false

set_option maxRecDepth 20000 in
set_option maxHeartbeats 1600000 in
theorem Count_any (t : T) : ∀ (m : Nat), m ≤ 100000 → t.ok → ∀ A c w, IsL w (fun _ => True) t A →
    Calls Tryz.prog 59 #[itemV t A c, .int .i64 (m : Int)] w (Ret (.int .i64 (t.count m : Int)) w) := by
  induction t with
  | nil => intro m _ hok; cases hok
  | mk kind n s op k ch ih =>
    intro m hm hok A c w h
    have H := hid h; have HM := hid hm; have HO := hid hok
    have HI := hid ih
    have m0 : (0 : Int) ≤ (m : Int) := by omega
    have m1 : (m : Int) ≤ 100000 := by omega
    have hs : Hid (s.length < 4611686018427387904) := by unfold T.ok at hok; exact hok.2.2.1
    have hk : Hid (k < 4611686018427387904) := by unfold T.ok at hok; exact hok.2.2.2.1
    have hl : Hid (∀ j, j ≤ k → T.cl (fun i => (ch i).count) m (1 + s.length) j ≤ m + 4611686018427387904) := fun j hj =>
      Nat.le_trans (T.cl_mono _ _ _ j k hj) (T.count_le (.mk kind n s op k ch) hok m)
    have hsl : (s.length : Int) < 4611686018427387904 := by have := hs.out; omega
    show Calls Tryz.prog 59 #[.agg #[.int .i64 kind, .int .u64 (n : Int), str s, .slice A k c, .bool op], .int .i64 (m : Int)] w (Ret (.int .i64 (T.cl (fun i => (ch i).count) m (1 + s.length) k : Nat)) w)
    have HB : Hid (Blk (w.alloc (.cells #[.int .i64 kind, .int .u64 (n : Int), str s, .slice A k c, .bool op] 47)) w.heap.size 47 #[.int .i64 kind, .int .u64 (n : Int), str s, .slice A k c, .bool op]) := Blk.new _ _ _
    have HE0 := hid ((Mod.refl [] w).alloc (.cells #[.int .i64 kind, .int .u64 (n : Int), str s, .slice A k c, .bool op] 47))
    clear h hm hok ih
    go_enter Tryz.func59, Tryz.ntmps59
    go_wp2_with fail
    go_loopw [5, 6] (fun s5 s6 wr => ∃ i : Nat, i ≤ k ∧ s6 = .int .i64 (i : Int) ∧ s5 = .int .i64 (T.cl (fun i => (ch i).count) m (1 + s.length) i : Nat) ∧ Hid (Ext w wr ∧ Blk wr w.heap.size 47 #[.int .i64 kind, .int .u64 (n : Int), str s, .slice A k c, .bool op])) (fun _ i _ => k - (intOf i).toNat)
    case atStart => exact ⟨0, Nat.zero_le _, rfl, by simp [T.cl], HE0.out, HB.out⟩
    case round =>
      obtain ⟨i, hi, rfl, rfl, hH⟩ := hrel
      have i0 : (0 : Int) ≤ (i : Int) := by omega
      have c3 : wr.cell? ⟨w.heap.size, 3, none⟩ = some (.slice A k c) := hH.out.2.cell 3
      have HX := hid (hl.out i hi)
      by_cases hlt : i < k
      · by_cases hn : T.cl (fun i => (ch i).count) m (1 + s.length) i ≤ m
        · obtain ⟨b, o, Ai, ci, rfl, hb, ⟨k0, k1, k2, k3, k4⟩, hL⟩ := H.out.cells hH.out.1 hlt
          have i1 : (i : Int) < (k : Int) := by omega
          have hk2 : (k : Int) < 4611686018427387904 := by have := hk.out; omega
          have ti : decide (i < k) = true := by simp [hlt]
          have HL := hid hL; have HLT := hid hlt
          have HOi : Hid (ch i).ok := by have := HO.out; unfold T.ok at this; exact this.2.2.2.2 i hlt
          have HMX : Hid (T.cl (fun i => (ch i).count) m (1 + s.length) (i + 1) = T.cl (fun i => (ch i).count) m (1 + s.length) i + (ch i).count (m - T.cl (fun i => (ch i).count) m (1 + s.length) i)) := if_pos hn
          have HY : Hid (T.cl (fun i => (ch i).count) m (1 + s.length) (i + 1) ≤ m + 4611686018427387904) := hl.out (i + 1) (by omega)
          clear hL hlt
          generalize T.cl (fun i => (ch i).count) m (1 + s.length) i = M at *
          have tn : decide (M ≤ m) = true := by simp [hn]
          have n0 : (0 : Int) ≤ (M : Int) := by omega
          have n1 : (M : Int) ≤ (m : Int) := by omega
          have ha : (m : Int) - (M : Int) = ((m - M : Nat) : Int) := by omega
          have HN := hid hn
          clear hn
          go_wp2_with fail
          refine (HI.out i (m - M) (by have := HM.out; omega) HOi.out Ai ci _ HL.out).mono ?_
          rintro e w3 ⟨rfl, hb3⟩
          have hD : (ch i).count (m - M) ≤ m + 4611686018427387904 := by have := HMX.out; have := HY.out; omega
          have hD2 : M + (ch i).count (m - M) ≤ m + 4611686018427387904 := by have := HMX.out; have := HY.out; omega
          generalize (ch i).count (m - M) = D at *
          have d0 : (0 : Int) ≤ (D : Int) := by omega
          have d1 : (M : Int) + (D : Int) ≤ 4611686018427487904 := by have := HM.out; omega
          have HE3 := hid (hH.out.1.trans hb3)
          have HB3 := hid (hH.out.2.ext hb3)
          clear hb3 hD hD2
          go_wp2_with fail
          have hlt := HLT.out
          refine ⟨⟨i + 1, by omega, by simp, ?_, (show Hid _ from ⟨HE3.out, HB3.out⟩)⟩, ?_⟩
          · rw [HMX.out]; congr 1
          · simp only [intOf]; omega
        · have HST := hid (T.cl_stop (by omega : m < T.cl (fun i => (ch i).count) m (1 + s.length) i) k hi)
          have tn : decide (T.cl (fun i => (ch i).count) m (1 + s.length) i ≤ m) = false := by simp; omega
          have ti : decide (i < k) = true := by simp [hlt]
          clear hlt hn
          go_wp2_with fail
          go_ret
          exact Ret.mk (by rw [HST.out]; rfl) hH.out.1
      · obtain rfl : i = k := by omega
        have ti : decide (i < i) = false := by simp
        go_wp2_with fail
        go_ret
        exact Ret.mk rfl hH.out.1

set_option maxRecDepth 20000 in
set_option maxHeartbeats 3200000 in
theorem plain_any (t : T) : t.ok → ∀ A c w, IsL w (fun _ => True) t A →
    Calls Tryz.prog 82 #[itemV t A c] w (Ret (.bool t.plain) w) := by
  induction t with
  | nil => intro hok; cases hok
  | mk kind n s op k ch ih =>
    intro hok A c w h
    have H := hid h; have HO := hid hok
    have HI := hid ih
    have hk : Hid (k < 4611686018427387904) := by unfold T.ok at hok; exact hok.2.2.2.1
    show Calls Tryz.prog 82 #[.agg #[.int .i64 kind, .int .u64 (n : Int), str s, .slice A k c, .bool op]] w (Ret (.bool (T.node kind n s op k && T.all (fun i => (ch i).plain) k)) w)
    have HB : Hid (Blk (w.alloc (.cells #[.int .i64 kind, .int .u64 (n : Int), str s, .slice A k c, .bool op] 47)) w.heap.size 47 #[.int .i64 kind, .int .u64 (n : Int), str s, .slice A k c, .bool op]) := Blk.new _ _ _
    have HE0 := hid ((Mod.refl [] w).alloc (.cells #[.int .i64 kind, .int .u64 (n : Int), str s, .slice A k c, .bool op] 47))
    clear h hok ih
    go_enter Tryz.func82, Tryz.ntmps82
    go_upto_region 2 with fail
    go_cut [4] (fun s4 wx => s4 = .bool (decide (kind = 2 ∨ kind = 3)) ∧ Hid (Ext w wx ∧ Blk wx w.heap.size 47 #[.int .i64 kind, .int .u64 (n : Int), str s, .slice A k c, .bool op]))
    case first =>
      by_cases a2 : kind = 2
      · subst a2
        go_wp2_with fail
        go_meet
        exact ⟨by simp, HE0.out, HB.out⟩
      · have b2 : (kind == 2) = false := by simp [a2]
        go_wp2_with fail
        go_meet
        exact ⟨by simp only [a2, false_or]; rfl, HE0.out, HB.out⟩
    obtain ⟨rfl, hH⟩ := hcut
    have c0 : wc.cell? ⟨w.heap.size, 0, none⟩ = some (.int .i64 kind) := hH.out.2.cell 0
    have c1 : wc.cell? ⟨w.heap.size, 1, none⟩ = some (.int .u64 (n : Int)) := hH.out.2.cell 1
    have c2 : wc.cell? ⟨w.heap.size, 2, none⟩ = some (str s) := hH.out.2.cell 2
    have c3 : wc.cell? ⟨w.heap.size, 3, none⟩ = some (.slice A k c) := hH.out.2.cell 3
    have c4 : wc.cell? ⟨w.heap.size, 4, none⟩ = some (.bool op) := hH.out.2.cell 4
    go_upto_region 3 with fail
    go_cut [3, 4, 66] (fun s3 s4 s66 wx => ∃ bb, s66 = .bool bb ∧ bb = !T.node kind n s op k ∧ wx = wc)
    case first =>
      have bs : s ≠ [] → (s == []) = false := fun h => by simp [h]
      have bS : s ≠ [] → (s = []) = False := fun h => by simp [h]
      have bn : n ≠ 0 → ((n : Int) == 0) = false := fun h => by simp [h]
      have bN : n ≠ 0 → (n = 0) = False := fun h => by simp [h]
      have bk : 0 < k → decide (0 < k) = true := fun h => by simp [h]
      have bK : 1000 < k → decide (1000 < k) = true := fun h => by simp [h]
      have bK2 : ¬ 1000 < k → decide (1000 < k) = false := fun h => by simp at h; simp [h]
      have bk2 : ¬ 0 < k → k = 0 := fun h => by omega
      have q1 : k ≠ 0 → (k = 0) = False := fun h => by simp [h]
      by_cases a0 : kind = 0
      · subst a0
        have hn : n = 0 ∨ n ≠ 0 := by omega
        rcases hn with rfl | hn
        · skip
          by_cases hs : s = []
          · subst hs
            by_cases hk0 : 0 < k
            · have bk := bk hk0; have q1 := q1 (by omega)
              go_wp2_with fail
              go_meet
              exact ⟨_, rfl, by simp [T.node, q1], rfl⟩
            · obtain rfl := bk2 hk0
              cases op
              · skip
                go_wp2_with fail
                go_meet
                exact ⟨_, rfl, by simp [T.node], rfl⟩
              · skip
                go_wp2_with fail
                go_meet
                exact ⟨_, rfl, by simp [T.node], rfl⟩
          · have bs := bs hs; have bS := bS hs
            go_wp2_with fail
            go_meet
            exact ⟨_, rfl, by simp [T.node, hs], rfl⟩
        · have bn := bn hn; have bN := bN hn
          by_cases hs : s = []
          · subst hs
            by_cases hk0 : 0 < k
            · have bk := bk hk0; have q1 := q1 (by omega)
              go_wp2_with fail
              go_meet
              exact ⟨_, rfl, by simp [T.node, q1], rfl⟩
            · obtain rfl := bk2 hk0
              cases op
              · skip
                go_wp2_with fail
                go_meet
                exact ⟨_, rfl, by simp [T.node], rfl⟩
              · skip
                go_wp2_with fail
                go_meet
                exact ⟨_, rfl, by simp [T.node], rfl⟩
          · have bs := bs hs; have bS := bS hs
            go_wp2_with fail
            go_meet
            exact ⟨_, rfl, by simp [T.node, hs], rfl⟩
      · skip
        by_cases a2 : kind = 2
        · subst a2
          have hn : n = 0 ∨ n ≠ 0 := by omega
          rcases hn with rfl | hn
          · skip
            by_cases hs : s = []
            · subst hs
              by_cases hk0 : 0 < k
              · have bk := bk hk0; have q1 := q1 (by omega)
                go_wp2_with fail
                go_meet
                exact ⟨_, rfl, by simp [T.node, q1], rfl⟩
              · obtain rfl := bk2 hk0
                cases op
                · skip
                  go_wp2_with fail
                  go_meet
                  exact ⟨_, rfl, by simp [T.node], rfl⟩
                · skip
                  go_wp2_with fail
                  go_meet
                  exact ⟨_, rfl, by simp [T.node], rfl⟩
            · have bs := bs hs; have bS := bS hs
              by_cases hk0 : 0 < k
              · have bk := bk hk0; have q1 := q1 (by omega)
                go_wp2_with fail
                go_meet
                exact ⟨_, rfl, by simp [T.node, q1], rfl⟩
              · obtain rfl := bk2 hk0
                cases op
                · skip
                  go_wp2_with fail
                  go_meet
                  exact ⟨_, rfl, by simp [T.node], rfl⟩
                · skip
                  go_wp2_with fail
                  go_meet
                  exact ⟨_, rfl, by simp [T.node], rfl⟩
          · have bn := bn hn; have bN := bN hn
            go_wp2_with fail
            go_meet
            exact ⟨_, rfl, by simp [T.node, hn], rfl⟩
        · skip
          by_cases a3 : kind = 3
          · subst a3
            have hn : n = 0 ∨ n ≠ 0 := by omega
            rcases hn with rfl | hn
            · skip
              by_cases hs : s = []
              · subst hs
                by_cases hk0 : 0 < k
                · have bk := bk hk0; have q1 := q1 (by omega)
                  go_wp2_with fail
                  go_meet
                  exact ⟨_, rfl, by simp [T.node, q1], rfl⟩
                · obtain rfl := bk2 hk0
                  cases op
                  · skip
                    go_wp2_with fail
                    go_meet
                    exact ⟨_, rfl, by simp [T.node], rfl⟩
                  · skip
                    go_wp2_with fail
                    go_meet
                    exact ⟨_, rfl, by simp [T.node], rfl⟩
              · have bs := bs hs; have bS := bS hs
                by_cases hk0 : 0 < k
                · have bk := bk hk0; have q1 := q1 (by omega)
                  go_wp2_with fail
                  go_meet
                  exact ⟨_, rfl, by simp [T.node, q1], rfl⟩
                · obtain rfl := bk2 hk0
                  cases op
                  · skip
                    go_wp2_with fail
                    go_meet
                    exact ⟨_, rfl, by simp [T.node], rfl⟩
                  · skip
                    go_wp2_with fail
                    go_meet
                    exact ⟨_, rfl, by simp [T.node], rfl⟩
            · have bn := bn hn; have bN := bN hn
              go_wp2_with fail
              go_meet
              exact ⟨_, rfl, by simp [T.node, hn], rfl⟩
          · skip
            by_cases a4 : kind = 4
            · subst a4
              have hn : n = 0 ∨ n ≠ 0 := by omega
              rcases hn with rfl | hn
              · skip
                by_cases hs : s = []
                · subst hs
                  by_cases hk0 : 0 < k
                  · have bk := bk hk0; have q1 := q1 (by omega)
                    by_cases hk1 : 1000 < k
                    · have bK := bK hk1; have z1 : decide (k ≤ 1000) = false := by simp; omega
                      have z2 : decide (1000 < (k : Int)) = true := by simp; omega
                      go_wp2_with fail
                      go_meet
                      exact ⟨_, rfl, by simp [T.node, z1], rfl⟩
                    · have bK := bK2 hk1; have z1 : decide (k ≤ 1000) = true := by simp; omega
                      have z2 : decide (1000 < (k : Int)) = false := by simp; omega
                      go_wp2_with fail
                      go_meet
                      exact ⟨_, rfl, by simp [T.node, z1], rfl⟩
                  · obtain rfl := bk2 hk0
                    cases op
                    · skip
                      go_wp2_with fail
                      go_meet
                      exact ⟨_, rfl, by simp [T.node], rfl⟩
                    · skip
                      go_wp2_with fail
                      go_meet
                      exact ⟨_, rfl, by simp [T.node], rfl⟩
                · have bs := bs hs; have bS := bS hs
                  go_wp2_with fail
                  go_meet
                  exact ⟨_, rfl, by simp [T.node, hs], rfl⟩
              · have bn := bn hn; have bN := bN hn
                go_wp2_with fail
                go_meet
                exact ⟨_, rfl, by simp [T.node, hn], rfl⟩
            · skip
              have e0 : (kind == 0) = false := by simp [a0]
              have e4 : (kind == 4) = false := by simp [a4]
              have e23 : decide (kind = 2 ∨ kind = 3) = false := by simp [a2, a3]
              have f0 : (kind = 0) = False := by simp [a0]
              have f4 : (kind = 4) = False := by simp [a4]
              have f2 : (kind = 2) = False := by simp [a2]
              have f3 : (kind = 3) = False := by simp [a3]
              go_wp2_with fail
              go_meet
              exact ⟨_, rfl, by simp [T.node, a0, a2, a3, a4], rfl⟩
    obtain ⟨bb, rfl, hbb, rfl⟩ := hcut
    cases hnd : T.node kind n s op k
    · have HND := hid hnd
      rw [hnd] at hbb; obtain rfl : bb = true := hbb
      go_wp2_with fail
      go_ret
      exact Ret.mk (by rw [HND.out]; rfl) hH.out.1
    · have HND := hid hnd
      rw [hnd] at hbb; obtain rfl : bb = false := hbb
      clear hnd
      go_wp2_with fail
      go_loopw [5] (fun s5 wr => ∃ i : Nat, i ≤ k ∧ s5 = .int .i64 (i : Int) ∧ Hid (Ext w wr ∧ Blk wr w.heap.size 47 #[.int .i64 kind, .int .u64 (n : Int), str s, .slice A k c, .bool op] ∧ T.all (fun i => (ch i).plain) i = true)) (fun i _ => k - (intOf i).toNat)
      case atStart => exact ⟨0, Nat.zero_le _, rfl, hH.out.1, hH.out.2, rfl⟩
      case round =>
        clear c0 c1 c2 c3 c4
        obtain ⟨i, hi, rfl, hX⟩ := hrel
        have i0 : (0 : Int) ≤ (i : Int) := by omega
        have c3 : wr.cell? ⟨w.heap.size, 3, none⟩ = some (.slice A k c) := hX.out.2.1.cell 3
        by_cases hlt : i < k
        · obtain ⟨b, o, Ai, ci, rfl, hb, ⟨k0, k1, k2, k3, k4⟩, hL⟩ := H.out.cells hX.out.1 hlt
          have i1 : (i : Int) < (k : Int) := by omega
          have hk2 : (k : Int) < 4611686018427387904 := by have := hk.out; omega
          have ti : decide (i < k) = true := by simp [hlt]
          have HL := hid hL; have HLT := hid hlt
          have HOi : Hid (ch i).ok := by have := HO.out; unfold T.ok at this; exact this.2.2.2.2 i hlt
          clear hL hlt
          go_wp2_with fail
          refine (HI.out i HOi.out Ai ci _ HL.out).mono ?_
          rintro e w3 ⟨rfl, hb3⟩
          have HE3 := hid (hX.out.1.trans hb3)
          have HB3 := hid (hX.out.2.1.ext hb3)
          clear hb3
          cases hpl : (ch i).plain
          · have hno : T.all (fun i => (ch i).plain) k = false := by
              have hlt := HLT.out
              cases hh : T.all (fun i => (ch i).plain) k with
              | false => rfl
              | true => have := T.all_iff.1 hh i hlt; rw [hpl] at this; cases this
            have HNO := hid hno
            clear hno
            go_wp2_with fail
            go_ret
            exact Ret.mk (by rw [HND.out, HNO.out]; rfl) HE3.out
          · have HPL := hid hpl
            go_wp2_with fail
            have hlt := HLT.out
            refine ⟨⟨i + 1, by omega, by simp, (show Hid _ from ⟨HE3.out, HB3.out, by rw [T.all, hX.out.2.2, HPL.out]; rfl⟩)⟩, ?_⟩
            simp only [intOf]; omega
        · obtain rfl : i = k := by omega
          have ti : decide (i < i) = false := by simp
          go_wp2_with fail
          go_ret
          exact Ret.mk (by rw [HND.out, hX.out.2.2]; rfl) hX.out.1
end Go.Proofs.YtblfmokklfhklaaGreatDoor


namespace Go.Proofs.YtblfmokklfhklaaGreatDoor
open Go.RowKit
set_option linter.unusedVariables false
set_option linter.unusedSimpArgs false

theorem be_step (n k j i : Nat) (h : i ≠ j) : (if i < j then beC n k i else 0) = (if i < j + 1 then beC n k i else 0) := by
  by_cases e : i < j
  · rw [if_pos e, if_pos (by omega)]
  · rw [if_neg e, if_neg (by omega)]
theorem rel_step {wr : World} {b t n k j : Nat} (h : wr.rowIs b t k (fun a => .int .u8 ((if a < j then beC n k a else 0 : Nat) : Int))) :
    (wr.setCell ⟨b, j, none⟩ (.int .u8 ((beC n k j : Nat) : Int))).rowIs b t k (fun a => .int .u8 ((if a < j + 1 then beC n k a else 0 : Nat) : Int)) := by
  refine (h.set j _).congr ?_
  intro i hi
  by_cases e : i = j
  · subst e; simp
  · rw [if_neg e, be_step n k j i e]

theorem infoByte : (Tryz.prog.info? 5).map (fun i => (i.zero, i.size, i.bytes)) = some (some (.int .u8 0), 1, 1) := by kernel_rfl

set_option maxHeartbeats 400000 in
theorem spread_uint8_n (n : Nat) (hn : n < 256) (k : Nat) (hk : k ≤ 8) (w : World) :
    Calls Tryz.prog 97 #[.int .u8 n, .int .i64 k] w (Ret (str (be n k)) w) := by
  have hmk := run_make_row' (P := Tryz.prog) 82 5 (.int .u8 0) 1 Tryz.underlying82 infoByte rfl .i64 .i64 k (by omega) (by omega)
  go_enter Tryz.func97, Tryz.ntmps97
  go_wp2
  go_loopw [11] (fun i wr => ∃ j : Nat, j ≤ k ∧ i = .int .i64 j ∧ Ext w wr ∧ wr.rowIs w.heap.size 5 k (fun a => .int .u8 ((if a < j then beC n k a else 0 : Nat) : Int))) (fun i _ => k - (intOf i).toNat)
  case atStart => exact ⟨0, Nat.zero_le _, rfl, (Mod.refl _ _).alloc _, (World.rowIs_made w _ k 5).congr (by intros; simp)⟩
  case round =>
    obtain ⟨j, hj, rfl, hb, hrow⟩ := hrel
    by_cases hlt : j < k
    · have hcell : wr.cell? ⟨w.heap.size, j, none⟩ = some (.int .u8 0) := by simpa using hrow.cell hlt
      have hfr := hrow.frozen j
      go_wp2
      go_roundw
      case rel => exact ⟨j + 1, by omega, by go_num, hb.setCell (.inr (Nat.le_refl _)) _, by simpa [beC] using rel_step hrow⟩
      case measure => simp [intOf]; omega
    · obtain rfl : j = k := by omega
      have hrow2 := hrow.congr (g := fun a => .int .u8 ((beC n j a : Nat) : Int)) (fun i hi => by simp [hi])
      have hconv := run_row_string (P := Tryz.prog) wr 82 9 5 Tryz.underlying82 Tryz.underlying5 Tryz.underlying9 _ _ _ j _ hrow2
      clear hrow hrow2
      go_wp2
      go_ret
      exact ⟨rfl, hb⟩
theorem spread_uint8 (x k : Int) (hx : 0 ≤ x) (hx1 : x < 256) (hk : 0 ≤ k) (hk8 : k ≤ 8) (w : World) :
    Calls Tryz.prog 97 #[.int .u8 x, .int .i64 k] w (Ret (str (be x.toNat k.toNat)) w) := by
  obtain ⟨n, rfl⟩ := Int.eq_ofNat_of_zero_le hx
  obtain ⟨k, rfl⟩ := Int.eq_ofNat_of_zero_le hk
  exact spread_uint8_n n (by omega) k (by omega) w

set_option maxHeartbeats 400000 in
theorem spread_uint16_n (n : Nat) (hn : n < 65536) (k : Nat) (hk : k ≤ 8) (w : World) :
    Calls Tryz.prog 98 #[.int .u16 n, .int .i64 k] w (Ret (str (be n k)) w) := by
  have hmk := run_make_row' (P := Tryz.prog) 82 5 (.int .u8 0) 1 Tryz.underlying82 infoByte rfl .i64 .i64 k (by omega) (by omega)
  go_enter Tryz.func98, Tryz.ntmps98
  go_wp2
  go_loopw [11] (fun i wr => ∃ j : Nat, j ≤ k ∧ i = .int .i64 j ∧ Ext w wr ∧ wr.rowIs w.heap.size 5 k (fun a => .int .u8 ((if a < j then beC n k a else 0 : Nat) : Int))) (fun i _ => k - (intOf i).toNat)
  case atStart => exact ⟨0, Nat.zero_le _, rfl, (Mod.refl _ _).alloc _, (World.rowIs_made w _ k 5).congr (by intros; simp)⟩
  case round =>
    obtain ⟨j, hj, rfl, hb, hrow⟩ := hrel
    by_cases hlt : j < k
    · have hcell : wr.cell? ⟨w.heap.size, j, none⟩ = some (.int .u8 0) := by simpa using hrow.cell hlt
      have hfr := hrow.frozen j
      go_wp2
      go_roundw
      case rel => exact ⟨j + 1, by omega, by go_num, hb.setCell (.inr (Nat.le_refl _)) _, by simpa [beC] using rel_step hrow⟩
      case measure => simp [intOf]; omega
    · obtain rfl : j = k := by omega
      have hrow2 := hrow.congr (g := fun a => .int .u8 ((beC n j a : Nat) : Int)) (fun i hi => by simp [hi])
      have hconv := run_row_string (P := Tryz.prog) wr 82 9 5 Tryz.underlying82 Tryz.underlying5 Tryz.underlying9 _ _ _ j _ hrow2
      clear hrow hrow2
      go_wp2
      go_ret
      exact ⟨rfl, hb⟩
theorem spread_uint16 (x k : Int) (hx : 0 ≤ x) (hx1 : x < 65536) (hk : 0 ≤ k) (hk8 : k ≤ 8) (w : World) :
    Calls Tryz.prog 98 #[.int .u16 x, .int .i64 k] w (Ret (str (be x.toNat k.toNat)) w) := by
  obtain ⟨n, rfl⟩ := Int.eq_ofNat_of_zero_le hx
  obtain ⟨k, rfl⟩ := Int.eq_ofNat_of_zero_le hk
  exact spread_uint16_n n (by omega) k (by omega) w

set_option maxHeartbeats 400000 in
theorem spread_uint32_n (n : Nat) (hn : n < 4294967296) (k : Nat) (hk : k ≤ 8) (w : World) :
    Calls Tryz.prog 99 #[.int .u32 n, .int .i64 k] w (Ret (str (be n k)) w) := by
  have hmk := run_make_row' (P := Tryz.prog) 82 5 (.int .u8 0) 1 Tryz.underlying82 infoByte rfl .i64 .i64 k (by omega) (by omega)
  go_enter Tryz.func99, Tryz.ntmps99
  go_wp2
  go_loopw [11] (fun i wr => ∃ j : Nat, j ≤ k ∧ i = .int .i64 j ∧ Ext w wr ∧ wr.rowIs w.heap.size 5 k (fun a => .int .u8 ((if a < j then beC n k a else 0 : Nat) : Int))) (fun i _ => k - (intOf i).toNat)
  case atStart => exact ⟨0, Nat.zero_le _, rfl, (Mod.refl _ _).alloc _, (World.rowIs_made w _ k 5).congr (by intros; simp)⟩
  case round =>
    obtain ⟨j, hj, rfl, hb, hrow⟩ := hrel
    by_cases hlt : j < k
    · have hcell : wr.cell? ⟨w.heap.size, j, none⟩ = some (.int .u8 0) := by simpa using hrow.cell hlt
      have hfr := hrow.frozen j
      go_wp2
      go_roundw
      case rel => exact ⟨j + 1, by omega, by go_num, hb.setCell (.inr (Nat.le_refl _)) _, by simpa [beC] using rel_step hrow⟩
      case measure => simp [intOf]; omega
    · obtain rfl : j = k := by omega
      have hrow2 := hrow.congr (g := fun a => .int .u8 ((beC n j a : Nat) : Int)) (fun i hi => by simp [hi])
      have hconv := run_row_string (P := Tryz.prog) wr 82 9 5 Tryz.underlying82 Tryz.underlying5 Tryz.underlying9 _ _ _ j _ hrow2
      clear hrow hrow2
      go_wp2
      go_ret
      exact ⟨rfl, hb⟩
theorem spread_uint32 (x k : Int) (hx : 0 ≤ x) (hx1 : x < 4294967296) (hk : 0 ≤ k) (hk8 : k ≤ 8) (w : World) :
    Calls Tryz.prog 99 #[.int .u32 x, .int .i64 k] w (Ret (str (be x.toNat k.toNat)) w) := by
  obtain ⟨n, rfl⟩ := Int.eq_ofNat_of_zero_le hx
  obtain ⟨k, rfl⟩ := Int.eq_ofNat_of_zero_le hk
  exact spread_uint32_n n (by omega) k (by omega) w

set_option maxHeartbeats 400000 in
theorem spread_uint64_n (n : Nat) (hn : n < 18446744073709551616) (k : Nat) (hk : k ≤ 8) (w : World) :
    Calls Tryz.prog 100 #[.int .u64 n, .int .i64 k] w (Ret (str (be n k)) w) := by
  have hmk := run_make_row' (P := Tryz.prog) 82 5 (.int .u8 0) 1 Tryz.underlying82 infoByte rfl .i64 .i64 k (by omega) (by omega)
  go_enter Tryz.func100, Tryz.ntmps100
  go_wp2
  go_loopw [11] (fun i wr => ∃ j : Nat, j ≤ k ∧ i = .int .i64 j ∧ Ext w wr ∧ wr.rowIs w.heap.size 5 k (fun a => .int .u8 ((if a < j then beC n k a else 0 : Nat) : Int))) (fun i _ => k - (intOf i).toNat)
  case atStart => exact ⟨0, Nat.zero_le _, rfl, (Mod.refl _ _).alloc _, (World.rowIs_made w _ k 5).congr (by intros; simp)⟩
  case round =>
    obtain ⟨j, hj, rfl, hb, hrow⟩ := hrel
    by_cases hlt : j < k
    · have hcell : wr.cell? ⟨w.heap.size, j, none⟩ = some (.int .u8 0) := by simpa using hrow.cell hlt
      have hfr := hrow.frozen j
      go_wp2
      go_roundw
      case rel => exact ⟨j + 1, by omega, by go_num, hb.setCell (.inr (Nat.le_refl _)) _, by simpa [beC] using rel_step hrow⟩
      case measure => simp [intOf]; omega
    · obtain rfl : j = k := by omega
      have hrow2 := hrow.congr (g := fun a => .int .u8 ((beC n j a : Nat) : Int)) (fun i hi => by simp [hi])
      have hconv := run_row_string (P := Tryz.prog) wr 82 9 5 Tryz.underlying82 Tryz.underlying5 Tryz.underlying9 _ _ _ j _ hrow2
      clear hrow hrow2
      go_wp2
      go_ret
      exact ⟨rfl, hb⟩
theorem spread_uint64 (x k : Int) (hx : 0 ≤ x) (hx1 : x < 18446744073709551616) (hk : 0 ≤ k) (hk8 : k ≤ 8) (w : World) :
    Calls Tryz.prog 100 #[.int .u64 x, .int .i64 k] w (Ret (str (be x.toNat k.toNat)) w) := by
  obtain ⟨n, rfl⟩ := Int.eq_ofNat_of_zero_le hx
  obtain ⟨k, rfl⟩ := Int.eq_ofNat_of_zero_le hk
  exact spread_uint64_n n (by omega) k (by omega) w

end Go.Proofs.YtblfmokklfhklaaGreatDoor


namespace Go.Proofs.YtblfmokklfhklaaGreatDoor
open Go.RowKit
set_option linter.unusedVariables false
set_option linter.unusedSimpArgs false

theorem or_small : ∀ m : Fin 8, ∀ k : Fin 32, bits .or .u8 ((m.val : Int) * 32) (k.val : Int) = ((32 * m.val + k.val : Nat) : Int) := by decide +kernel
theorem or_u8 (m : Nat) (k : Int) (hm : m ≤ 7) (h0 : 0 ≤ k) (hk : k < 32) : bits .or .u8 ((m : Int) * 32) k = 32 * (m : Int) + k := by
  obtain ⟨k, rfl⟩ := Int.eq_ofNat_of_zero_le h0
  have := or_small ⟨m, by omega⟩ ⟨k, by omega⟩
  simpa using this
theorem convByte : ∀ (a : Addr) (c : Nat) (w : World), (convert 82 9 (.slice (some a) 1 c)).run Tryz.prog w =
      match w.cell? a with
      | some (.int .u8 x) => .ok (str [b8i x]) w
      | _ => (Conv.bytesToString (.slice (some a) 1 c)).run Tryz.prog w :=
  run_byte_string (P := Tryz.prog) 82 9 5 Tryz.underlying82 Tryz.underlying5 Tryz.underlying9

def mjr (m : Int) : Nat := if 0 ≤ m ∧ m ≤ 7 then m.toNat else 0
theorem mjr_le (m : Int) : mjr m ≤ 7 := by unfold mjr; split <;> omega
def mjB (m : Int) : Bool := decide (m < 0) || decide (7 < m)
theorem mj_bool {b c : Bool} (h : b = c) : Value.bool b = .bool c := by rw [h]
theorem mjr_out {m : Int} (h : mjB m = true) : Value.int .i64 0 = .int .i64 ((mjr m : Nat) : Int) := by
  unfold mjr; unfold mjB at h; simp at h; rw [if_neg (by omega)]; rfl
theorem mjr_in {m : Int} (h : mjB m = false) : Value.int .i64 m = .int .i64 ((mjr m : Nat) : Int) := by
  unfold mjr; unfold mjB at h; simp at h; rw [if_pos ⟨h.1, h.2⟩]; congr 1; omega

set_option maxHeartbeats 400000 in
theorem head_24 (x : Int) (n : Nat) (hn : n < 24) (w : World) :
    Calls Tryz.prog 84 #[.int .i64 x, .int .u64 n] w (Ret (str [b8 (32 * mjr x + n)]) w) := by
  go_enter Tryz.func84, Tryz.ntmps84
  go_upto_region 1 with fail
  go_cut [11] (fun s wx => s = .bool (mjB x) ∧ wx = w)
  case first =>
    go_wp2
    all_goals (go_meet; exact ⟨mj_bool (by unfold mjB; simp [*]), rfl⟩)
  obtain ⟨rfl, rfl⟩ := hcut
  go_upto_if 11 with fail
  go_cut [0] (fun s0 wx => s0 = .int .i64 ((mjr x : Nat) : Int) ∧ wx = wc)
  case first =>
    cases h : mjB x
    · go_wp2
      go_meet
      exact ⟨mjr_in h, rfl⟩
    · go_wp2
      go_meet
      exact ⟨mjr_out h, rfl⟩
  obtain ⟨rfl, rfl⟩ := hcut
  have hm := mjr_le x
  generalize mjr x = m at *
  have h2 : (decide ((n : Int) < 24)) = true := by simp; omega
  have hor := or_u8 m n hm (by omega) (by omega)
  have hcv := convByte
  have hb8 : ∀ m n : Nat, b8i (32 * (m : Int) + n) = b8 (32 * m + n) := fun m n => by unfold b8i b8; congr 1
  go_wp2
  go_ret
  exact ⟨rfl, (Mod.refl _ _).alloc _⟩

set_option maxHeartbeats 400000 in
theorem head_c24 (x : Int) (n : Nat) (h24 : Hid (24 ≤ n)) (hn : Hid (n < 256)) (w : World) :
    Calls Tryz.prog 84 #[.int .i64 x, .int .u64 n] w (Ret (str (b8 (32 * mjr x + 24) :: be n 1)) w) := by
  go_enter Tryz.func84, Tryz.ntmps84
  go_upto_region 1 with fail
  go_cut [11] (fun s wx => s = .bool (mjB x) ∧ wx = w)
  case first =>
    go_wp2
    all_goals (go_meet; exact ⟨mj_bool (by unfold mjB; simp [*]), rfl⟩)
  obtain ⟨rfl, rfl⟩ := hcut
  go_upto_if 11 with fail
  go_cut [0] (fun s0 wx => s0 = .int .i64 ((mjr x : Nat) : Int) ∧ wx = wc)
  case first =>
    cases h : mjB x
    · go_wp2
      go_meet
      exact ⟨mjr_in h, rfl⟩
    · go_wp2
      go_meet
      exact ⟨mjr_out h, rfl⟩
  obtain ⟨rfl, rfl⟩ := hcut
  have hm := mjr_le x
  generalize mjr x = m at *
  have t0 : (decide ((n : Int) < 24)) = false := by have := h24.out; have := hn.out; simp; omega
  have t1 : (decide ((n : Int) < 256)) = true := by have := h24.out; have := hn.out; simp; omega
  have hor := or_u8 m 24 hm (by omega) (by omega)
  have hcv := convByte
  have hb8 : ∀ m : Nat, b8i (32 * (m : Int) + 24) = b8 (32 * m + 24) := fun m => by unfold b8i b8; congr 1
  have hbl := be_length
  have hw8 : IntKind.u8.wrap (n : Int) = n := by have := hn.out; rw [IntKind.wrap_u8]; omega
  go_wp2
  clear t0 t1
  go_region_with ((go_at_call 97; refine (spread_uint8 _ _ (by have := hn.out; omega) (by have := hn.out; omega) (by omega) (by omega) _).mono ?_; rintro e w' ⟨rfl, hb⟩; obtain ⟨hc, hf⟩ := ext_cells hb))
  all_goals go_wp2
  all_goals go_ret
  all_goals refine ⟨congrArg Ending.returned (str_app [_] _), ?_⟩
  all_goals clear hc hf
  all_goals repeat (first | exact Mod.refl _ _ | apply Mod.drew | apply Mod.alloc | (refine Mod.trans ?_ hb; clear hb))

set_option maxHeartbeats 400000 in
theorem head_c25 (x : Int) (n : Nat) (h24 : Hid (256 ≤ n)) (hn : Hid (n < 65536)) (w : World) :
    Calls Tryz.prog 84 #[.int .i64 x, .int .u64 n] w (Ret (str (b8 (32 * mjr x + 25) :: be n 2)) w) := by
  go_enter Tryz.func84, Tryz.ntmps84
  go_upto_region 1 with fail
  go_cut [11] (fun s wx => s = .bool (mjB x) ∧ wx = w)
  case first =>
    go_wp2
    all_goals (go_meet; exact ⟨mj_bool (by unfold mjB; simp [*]), rfl⟩)
  obtain ⟨rfl, rfl⟩ := hcut
  go_upto_if 11 with fail
  go_cut [0] (fun s0 wx => s0 = .int .i64 ((mjr x : Nat) : Int) ∧ wx = wc)
  case first =>
    cases h : mjB x
    · go_wp2
      go_meet
      exact ⟨mjr_in h, rfl⟩
    · go_wp2
      go_meet
      exact ⟨mjr_out h, rfl⟩
  obtain ⟨rfl, rfl⟩ := hcut
  have hm := mjr_le x
  generalize mjr x = m at *
  have t0 : (decide ((n : Int) < 24)) = false := by have := h24.out; have := hn.out; simp; omega
  have t1 : (decide ((n : Int) < 256)) = false := by have := h24.out; have := hn.out; simp; omega
  have t2 : (decide ((n : Int) < 65536)) = true := by have := h24.out; have := hn.out; simp; omega
  have hor := or_u8 m 25 hm (by omega) (by omega)
  have hcv := convByte
  have hb8 : ∀ m : Nat, b8i (32 * (m : Int) + 25) = b8 (32 * m + 25) := fun m => by unfold b8i b8; congr 1
  have hbl := be_length
  have hw8 : IntKind.u16.wrap (n : Int) = n := by have := hn.out; rw [IntKind.wrap_u16]; omega
  go_wp2
  clear t0 t1 t2
  go_region_with ((go_at_call 98; refine (spread_uint16 _ _ (by have := hn.out; omega) (by have := hn.out; omega) (by omega) (by omega) _).mono ?_; rintro e w' ⟨rfl, hb⟩; obtain ⟨hc, hf⟩ := ext_cells hb))
  all_goals go_wp2
  all_goals go_ret
  all_goals refine ⟨congrArg Ending.returned (str_app [_] _), ?_⟩
  all_goals clear hc hf
  all_goals repeat (first | exact Mod.refl _ _ | apply Mod.drew | apply Mod.alloc | (refine Mod.trans ?_ hb; clear hb))

set_option maxHeartbeats 400000 in
theorem head_c26 (x : Int) (n : Nat) (h24 : Hid (65536 ≤ n)) (hn : Hid (n < 4294967296)) (w : World) :
    Calls Tryz.prog 84 #[.int .i64 x, .int .u64 n] w (Ret (str (b8 (32 * mjr x + 26) :: be n 4)) w) := by
  go_enter Tryz.func84, Tryz.ntmps84
  go_upto_region 1 with fail
  go_cut [11] (fun s wx => s = .bool (mjB x) ∧ wx = w)
  case first =>
    go_wp2
    all_goals (go_meet; exact ⟨mj_bool (by unfold mjB; simp [*]), rfl⟩)
  obtain ⟨rfl, rfl⟩ := hcut
  go_upto_if 11 with fail
  go_cut [0] (fun s0 wx => s0 = .int .i64 ((mjr x : Nat) : Int) ∧ wx = wc)
  case first =>
    cases h : mjB x
    · go_wp2
      go_meet
      exact ⟨mjr_in h, rfl⟩
    · go_wp2
      go_meet
      exact ⟨mjr_out h, rfl⟩
  obtain ⟨rfl, rfl⟩ := hcut
  have hm := mjr_le x
  generalize mjr x = m at *
  have t0 : (decide ((n : Int) < 24)) = false := by have := h24.out; have := hn.out; simp; omega
  have t1 : (decide ((n : Int) < 256)) = false := by have := h24.out; have := hn.out; simp; omega
  have t2 : (decide ((n : Int) < 65536)) = false := by have := h24.out; have := hn.out; simp; omega
  have t3 : (decide ((n : Int) < 4294967296)) = true := by have := h24.out; have := hn.out; simp; omega
  have hor := or_u8 m 26 hm (by omega) (by omega)
  have hcv := convByte
  have hb8 : ∀ m : Nat, b8i (32 * (m : Int) + 26) = b8 (32 * m + 26) := fun m => by unfold b8i b8; congr 1
  have hbl := be_length
  have hw8 : IntKind.u32.wrap (n : Int) = n := by have := hn.out; rw [IntKind.wrap_u32]; omega
  go_wp2
  clear t0 t1 t2 t3
  go_region_with ((go_at_call 99; refine (spread_uint32 _ _ (by have := hn.out; omega) (by have := hn.out; omega) (by omega) (by omega) _).mono ?_; rintro e w' ⟨rfl, hb⟩; obtain ⟨hc, hf⟩ := ext_cells hb))
  all_goals go_wp2
  all_goals go_ret
  all_goals refine ⟨congrArg Ending.returned (str_app [_] _), ?_⟩
  all_goals clear hc hf
  all_goals repeat (first | exact Mod.refl _ _ | apply Mod.drew | apply Mod.alloc | (refine Mod.trans ?_ hb; clear hb))

set_option maxHeartbeats 400000 in
theorem head_c27 (x : Int) (n : Nat) (h24 : Hid (4294967296 ≤ n)) (hn : Hid (n < 18446744073709551616)) (w : World) :
    Calls Tryz.prog 84 #[.int .i64 x, .int .u64 n] w (Ret (str (b8 (32 * mjr x + 27) :: be n 8)) w) := by
  go_enter Tryz.func84, Tryz.ntmps84
  go_upto_region 1 with fail
  go_cut [11] (fun s wx => s = .bool (mjB x) ∧ wx = w)
  case first =>
    go_wp2
    all_goals (go_meet; exact ⟨mj_bool (by unfold mjB; simp [*]), rfl⟩)
  obtain ⟨rfl, rfl⟩ := hcut
  go_upto_if 11 with fail
  go_cut [0] (fun s0 wx => s0 = .int .i64 ((mjr x : Nat) : Int) ∧ wx = wc)
  case first =>
    cases h : mjB x
    · go_wp2
      go_meet
      exact ⟨mjr_in h, rfl⟩
    · go_wp2
      go_meet
      exact ⟨mjr_out h, rfl⟩
  obtain ⟨rfl, rfl⟩ := hcut
  have hm := mjr_le x
  generalize mjr x = m at *
  have t0 : (decide ((n : Int) < 24)) = false := by have := h24.out; have := hn.out; simp; omega
  have t1 : (decide ((n : Int) < 256)) = false := by have := h24.out; have := hn.out; simp; omega
  have t2 : (decide ((n : Int) < 65536)) = false := by have := h24.out; have := hn.out; simp; omega
  have t3 : (decide ((n : Int) < 4294967296)) = false := by have := h24.out; have := hn.out; simp; omega
  have hor := or_u8 m 27 hm (by omega) (by omega)
  have hcv := convByte
  have hb8 : ∀ m : Nat, b8i (32 * (m : Int) + 27) = b8 (32 * m + 27) := fun m => by unfold b8i b8; congr 1
  have hbl := be_length
  go_wp2
  clear t0 t1 t2 t3
  go_region_with ((go_at_call 100; refine (spread_uint64 _ _ (by have := hn.out; omega) (by have := hn.out; omega) (by omega) (by omega) _).mono ?_; rintro e w' ⟨rfl, hb⟩; obtain ⟨hc, hf⟩ := ext_cells hb))
  all_goals go_wp2
  all_goals go_ret
  all_goals refine ⟨congrArg Ending.returned (str_app [_] _), ?_⟩
  all_goals clear hc hf
  all_goals repeat (first | exact Mod.refl _ _ | apply Mod.drew | apply Mod.alloc | (refine Mod.trans ?_ hb; clear hb))

theorem head_any (m n : Int) (hn0 : 0 ≤ n) (hn1 : n < 18446744073709551616) (w : World) :
    Calls Tryz.prog 84 #[.int .i64 m, .int .u64 n] w (Ret (str (headL (mjr m) n.toNat)) w) := by
  obtain ⟨n, rfl⟩ := Int.eq_ofNat_of_zero_le hn0
  rw [Int.toNat_natCast]
  unfold headL
  by_cases a : n < 24
  · rw [if_pos a]; exact head_24 m n a w
  rw [if_neg a]
  by_cases b : n < 256
  · rw [if_pos b]; exact head_c24 m n (Nat.le_of_not_lt a) b w
  rw [if_neg b]
  by_cases c : n < 65536
  · rw [if_pos c]; exact head_c25 m n (Nat.le_of_not_lt b) c w
  rw [if_neg c]
  by_cases d : n < 4294967296
  · rw [if_pos d]; exact head_c26 m n (Nat.le_of_not_lt c) d w
  rw [if_neg d]; exact head_c27 m n (Nat.le_of_not_lt d) (by unfold Hid; omega) w

theorem head_in (m n : Int) (h0 : 0 ≤ m) (h7 : m ≤ 7) (hn0 : 0 ≤ n) (hn1 : n < 18446744073709551616) (w : World) :
    Calls Tryz.prog 84 #[.int .i64 m, .int .u64 n] w (Ret (str (headL m.toNat n.toNat)) w) := by
  have e : mjr m = m.toNat := by unfold mjr; rw [if_pos ⟨h0, h7⟩]
  rw [← e]; exact head_any m n hn0 hn1 w
end Go.Proofs.YtblfmokklfhklaaGreatDoor


namespace Go.Proofs.YtblfmokklfhklaaGreatDoor
open Go.RowKit
set_option linter.unusedVariables false
set_option linter.unusedSimpArgs false

theorem ret_bool {b c : Bool} (h : b = c) : Ending.returned (.bool b) = .returned (.bool c) := by rw [h]
set_option maxHeartbeats 400000 in
theorem opens_any (m : Int) (w : World) : Calls Tryz.prog 46 #[.int .i64 m] w fun e w' => e = .returned (.bool (opensB m)) ∧ w = w' := by
  go_enter Tryz.func46, Tryz.ntmps46
  go_wp2
  all_goals go_ret
  all_goals exact ⟨ret_bool (by unfold opensB; rw [Bool.eq_iff_iff]; simp [*]; try omega), rfl⟩

theorem open_bits : ∀ m : Fin 8, bits .or .i64 ((m.val : Int) * 32) 31 = (m.val : Int) * 32 + 31 := by decide +kernel
set_option maxHeartbeats 400000 in
theorem open_yes (m : Nat) (h : opensB m = true) (w : World) : Calls Tryz.prog 21 #[.int .i64 m] w (Ret (str (openL m)) w) := by
  have hm : 2 ≤ m ∧ m ≤ 7 := by unfold opensB at h; simp at h; omega
  obtain ⟨h2, h7⟩ := hm
  have ho := open_bits ⟨m, by omega⟩
  dsimp only at ho
  have e : openL m = [b8i ((m : Int) * 32 + 31)] := by
    unfold openL b8 b8i; rw [if_pos h]; congr 2; omega
  have hcv := convByte
  rw [e]
  have hw : 0 ≤ (m : Int) * 32 + 31 := by omega
  go_enter Tryz.func21, Tryz.ntmps21
  go_wp2_with (go_at_call 46; refine (opens_any _ _).mono ?_; rintro e w' ⟨rfl, rfl⟩)
  go_ret
  exact ⟨rfl, (Mod.refl _ _).alloc _⟩
set_option maxHeartbeats 400000 in
theorem open_no (m : Int) (h : opensB m = false) (w : World) : Calls Tryz.prog 21 #[.int .i64 m] w (Ret (str (openL m)) w) := by
  have e : openL m = [] := by unfold openL; simp [h]
  rw [e]
  go_enter Tryz.func21, Tryz.ntmps21
  go_wp2_with (go_at_call 46; refine (opens_any _ _).mono ?_; rintro e w' ⟨rfl, rfl⟩)
  go_ret
  exact ⟨rfl, Mod.refl _ _⟩
theorem open_any (m : Int) (w : World) : Calls Tryz.prog 21 #[.int .i64 m] w (Ret (str (openL m)) w) := by
  cases h : opensB m with
  | false => exact open_no m h w
  | true =>
    have : 0 ≤ m := by unfold opensB at h; simp at h; omega
    obtain ⟨n, rfl⟩ := Int.eq_ofNat_of_zero_le this
    exact open_yes n h w

/-- The cells of a reader. -/
def rdr (s : List UInt8) (at_ bad e from_ : Int) : Array Value := #[str s, .int .i64 at_, .int .i64 bad, .int .i64 e, .int .i64 from_]
set_option maxHeartbeats 400000 in
theorem newReader_any (s : List UInt8) (w : World) : Calls Tryz.prog 89 #[str s] w fun e w' =>
    e = .returned (.pointer (some ⟨w.heap.size, 0, none⟩)) ∧ w' = w.alloc (.cells (rdr s 0 (-1) 0 0) 128) := by
  go_enter Tryz.func89, Tryz.ntmps89
  go_wp2
  go_ret
  exact ⟨rfl, rfl⟩
end Go.Proofs.YtblfmokklfhklaaGreatDoor


namespace Go.Proofs.YtblfmokklfhklaaGreatDoor
open Go.RowKit
set_option linter.unusedVariables false
set_option linter.unusedSimpArgs false

theorem digits_str {n j q : Nat} (h : n / 2 ^ (8 * j) = q) : Value.string ((⟨#[b8i ((q : Int) % 256)]⟩ : ByteArray) ++ ⟨(be n j).toArray⟩) = str (be n (j + 1)) := by
  rw [be_succ, h]; exact str_app [_] _
theorem digits_num {n j q : Nat} (hn : n < 18446744073709551616) (h : n / 2 ^ (8 * j) = q) : Value.int .u64 (IntKind.u64.wrap ((q : Int) / 256)) = .int .u64 ((n / 2 ^ (8 * (j + 1)) : Nat) : Int) := by
  have hq : q ≤ n := by rw [← h]; exact Nat.div_le_self _ _
  rw [IntWalk.u64_in _ (by omega), Nat.mul_add, Nat.pow_add, ← Nat.div_div_eq_div_mul, h]; rfl

set_option maxHeartbeats 400000 in
theorem digits_n (n : Nat) (hn : Hid (n < 18446744073709551616)) (k : Nat) (hk : k ≤ 8) (w : World) :
    Calls Tryz.prog 54 #[.int .u64 n, .int .i64 k] w (Ret (str (be n k)) w) := by
  have hcv := convByte
  go_enter Tryz.func54, Tryz.ntmps54
  go_wp2
  go_loopw [0, 5, 6] (fun x s i wr => ∃ j : Nat, j ≤ k ∧ i = .int .i64 j ∧ s = str (be n j) ∧ x = .int .u64 ((n / 2 ^ (8 * j) : Nat) : Int) ∧ Ext w wr) (fun _ _ i _ => k - (intOf i).toNat)
  case atStart => exact ⟨0, Nat.zero_le _, rfl, rfl, by simp, Mod.refl _ _⟩
  case round =>
    obtain ⟨j, hj, rfl, rfl, rfl, hb⟩ := hrel
    have hbl := be_length n j
    generalize hq : n / 2 ^ (8 * j) = q
    have HQ := hid hq; clear hq
    by_cases hlt : j < k
    · go_wp2
      go_roundw
      case rel => exact ⟨j + 1, by omega, by go_num, digits_str HQ.out, digits_num hn.out HQ.out, hb.alloc _⟩
      case measure => simp [intOf]; omega
    · obtain rfl : j = k := by omega
      go_wp2
      go_ret
      exact ⟨rfl, hb⟩
theorem digits_any (x k : Int) (hx : 0 ≤ x) (hx1 : x < 18446744073709551616) (hk : 0 ≤ k) (hk8 : k ≤ 8) (w : World) :
    Calls Tryz.prog 54 #[.int .u64 x, .int .i64 k] w (Ret (str (be x.toNat k.toNat)) w) := by
  obtain ⟨n, rfl⟩ := Int.eq_ofNat_of_zero_le hx
  obtain ⟨k, rfl⟩ := Int.eq_ofNat_of_zero_le hk
  exact digits_n n (by unfold Hid; omega) k (by omega) w

set_option maxHeartbeats 400000 in
theorem rhead_24 (m : Nat) (hm : m ≤ 7) (n : Nat) (hn : n < 24) (w : World) :
    Calls Tryz.prog 24 #[.int .i64 m, .int .u64 n] w (Ret (str [b8 (32 * m + n)]) w) := by
  have h2 : (decide ((n : Int) < 24)) = true := by simp; omega
  have hcv := convByte
  have hb8 : ∀ m n : Nat, b8i (32 * (m : Int) + n) = b8 (32 * m + n) := fun m n => by unfold b8i b8; congr 1
  go_enter Tryz.func24, Tryz.ntmps24
  go_wp2
  go_ret
  exact ⟨rfl, (Mod.refl _ _).alloc _⟩

set_option maxHeartbeats 400000 in
theorem rhead_c24 (m : Nat) (hm : m ≤ 7) (n : Nat) (h24 : Hid (24 ≤ n)) (hn : Hid (n < 256)) (w : World) :
    Calls Tryz.prog 24 #[.int .i64 m, .int .u64 n] w (Ret (str (b8 (32 * m + 24) :: be n 1)) w) := by
  have t0 : (decide ((n : Int) < 24)) = false := by have := h24.out; have := hn.out; simp; omega
  have t1 : (decide ((n : Int) < 256)) = true := by have := h24.out; have := hn.out; simp; omega
  have hcv := convByte
  have hb8 : ∀ m : Nat, b8i (32 * (m : Int) + 24) = b8 (32 * m + 24) := fun m => by unfold b8i b8; congr 1
  have hbl := be_length
  have hww : IntKind.u8.wrap (32 * (m : Int) + 24) = 32 * (m : Int) + 24 := by rw [IntKind.wrap_u8]; omega
  go_enter Tryz.func24, Tryz.ntmps24
  go_wp2
  clear t0 t1
  go_region_with ((go_at_call 54; refine (digits_any _ _ (by have := hn.out; omega) (by have := hn.out; omega) (by omega) (by omega) _).mono ?_; rintro e w' ⟨rfl, hb⟩; obtain ⟨hc, hf⟩ := ext_cells hb))
  all_goals go_wp2
  all_goals go_ret
  all_goals refine ⟨congrArg Ending.returned (str_app [_] _), ?_⟩
  all_goals clear hc hf
  all_goals repeat (first | exact Mod.refl _ _ | apply Mod.drew | apply Mod.alloc | (refine Mod.trans ?_ hb; clear hb))

set_option maxHeartbeats 400000 in
theorem rhead_c25 (m : Nat) (hm : m ≤ 7) (n : Nat) (h24 : Hid (256 ≤ n)) (hn : Hid (n < 65536)) (w : World) :
    Calls Tryz.prog 24 #[.int .i64 m, .int .u64 n] w (Ret (str (b8 (32 * m + 25) :: be n 2)) w) := by
  have t0 : (decide ((n : Int) < 24)) = false := by have := h24.out; have := hn.out; simp; omega
  have t1 : (decide ((n : Int) < 256)) = false := by have := h24.out; have := hn.out; simp; omega
  have t2 : (decide ((n : Int) < 65536)) = true := by have := h24.out; have := hn.out; simp; omega
  have hcv := convByte
  have hb8 : ∀ m : Nat, b8i (32 * (m : Int) + 25) = b8 (32 * m + 25) := fun m => by unfold b8i b8; congr 1
  have hbl := be_length
  have hww : IntKind.u8.wrap (32 * (m : Int) + 25) = 32 * (m : Int) + 25 := by rw [IntKind.wrap_u8]; omega
  go_enter Tryz.func24, Tryz.ntmps24
  go_wp2
  clear t0 t1 t2
  go_region_with ((go_at_call 54; refine (digits_any _ _ (by have := hn.out; omega) (by have := hn.out; omega) (by omega) (by omega) _).mono ?_; rintro e w' ⟨rfl, hb⟩; obtain ⟨hc, hf⟩ := ext_cells hb))
  all_goals go_wp2
  all_goals go_ret
  all_goals refine ⟨congrArg Ending.returned (str_app [_] _), ?_⟩
  all_goals clear hc hf
  all_goals repeat (first | exact Mod.refl _ _ | apply Mod.drew | apply Mod.alloc | (refine Mod.trans ?_ hb; clear hb))

set_option maxHeartbeats 400000 in
theorem rhead_c26 (m : Nat) (hm : m ≤ 7) (n : Nat) (h24 : Hid (65536 ≤ n)) (hn : Hid (n < 4294967296)) (w : World) :
    Calls Tryz.prog 24 #[.int .i64 m, .int .u64 n] w (Ret (str (b8 (32 * m + 26) :: be n 4)) w) := by
  have t0 : (decide ((n : Int) < 24)) = false := by have := h24.out; have := hn.out; simp; omega
  have t1 : (decide ((n : Int) < 256)) = false := by have := h24.out; have := hn.out; simp; omega
  have t2 : (decide ((n : Int) < 65536)) = false := by have := h24.out; have := hn.out; simp; omega
  have t3 : (decide ((n : Int) < 4294967296)) = true := by have := h24.out; have := hn.out; simp; omega
  have hcv := convByte
  have hb8 : ∀ m : Nat, b8i (32 * (m : Int) + 26) = b8 (32 * m + 26) := fun m => by unfold b8i b8; congr 1
  have hbl := be_length
  have hww : IntKind.u8.wrap (32 * (m : Int) + 26) = 32 * (m : Int) + 26 := by rw [IntKind.wrap_u8]; omega
  go_enter Tryz.func24, Tryz.ntmps24
  go_wp2
  clear t0 t1 t2 t3
  go_region_with ((go_at_call 54; refine (digits_any _ _ (by have := hn.out; omega) (by have := hn.out; omega) (by omega) (by omega) _).mono ?_; rintro e w' ⟨rfl, hb⟩; obtain ⟨hc, hf⟩ := ext_cells hb))
  all_goals go_wp2
  all_goals go_ret
  all_goals refine ⟨congrArg Ending.returned (str_app [_] _), ?_⟩
  all_goals clear hc hf
  all_goals repeat (first | exact Mod.refl _ _ | apply Mod.drew | apply Mod.alloc | (refine Mod.trans ?_ hb; clear hb))

set_option maxHeartbeats 400000 in
theorem rhead_c27 (m : Nat) (hm : m ≤ 7) (n : Nat) (h24 : Hid (4294967296 ≤ n)) (hn : Hid (n < 18446744073709551616)) (w : World) :
    Calls Tryz.prog 24 #[.int .i64 m, .int .u64 n] w (Ret (str (b8 (32 * m + 27) :: be n 8)) w) := by
  have t0 : (decide ((n : Int) < 24)) = false := by have := h24.out; have := hn.out; simp; omega
  have t1 : (decide ((n : Int) < 256)) = false := by have := h24.out; have := hn.out; simp; omega
  have t2 : (decide ((n : Int) < 65536)) = false := by have := h24.out; have := hn.out; simp; omega
  have t3 : (decide ((n : Int) < 4294967296)) = false := by have := h24.out; have := hn.out; simp; omega
  have hcv := convByte
  have hb8 : ∀ m : Nat, b8i (32 * (m : Int) + 27) = b8 (32 * m + 27) := fun m => by unfold b8i b8; congr 1
  have hbl := be_length
  have hww : IntKind.u8.wrap (32 * (m : Int) + 27) = 32 * (m : Int) + 27 := by rw [IntKind.wrap_u8]; omega
  go_enter Tryz.func24, Tryz.ntmps24
  go_wp2
  clear t0 t1 t2 t3
  go_region_with ((go_at_call 54; refine (digits_any _ _ (by have := hn.out; omega) (by have := hn.out; omega) (by omega) (by omega) _).mono ?_; rintro e w' ⟨rfl, hb⟩; obtain ⟨hc, hf⟩ := ext_cells hb))
  all_goals go_wp2
  all_goals go_ret
  all_goals refine ⟨congrArg Ending.returned (str_app [_] _), ?_⟩
  all_goals clear hc hf
  all_goals repeat (first | exact Mod.refl _ _ | apply Mod.drew | apply Mod.alloc | (refine Mod.trans ?_ hb; clear hb))

theorem rhead_in (m n : Int) (h0 : 0 ≤ m) (h7 : m ≤ 7) (hn0 : 0 ≤ n) (hn1 : n < 18446744073709551616) (w : World) :
    Calls Tryz.prog 24 #[.int .i64 m, .int .u64 n] w (Ret (str (headL m.toNat n.toNat)) w) := by
  obtain ⟨m, rfl⟩ := Int.eq_ofNat_of_zero_le h0
  obtain ⟨n, rfl⟩ := Int.eq_ofNat_of_zero_le hn0
  rw [Int.toNat_natCast, Int.toNat_natCast]
  unfold headL
  by_cases a : n < 24
  · rw [if_pos a]; exact rhead_24 m (by omega) n a w
  rw [if_neg a]
  by_cases b : n < 256
  · rw [if_pos b]; exact rhead_c24 m (by omega) n (Nat.le_of_not_lt a) b w
  rw [if_neg b]
  by_cases c : n < 65536
  · rw [if_pos c]; exact rhead_c25 m (by omega) n (Nat.le_of_not_lt b) c w
  rw [if_neg c]
  by_cases d : n < 4294967296
  · rw [if_pos d]; exact rhead_c26 m (by omega) n (Nat.le_of_not_lt c) d w
  rw [if_neg d]; exact rhead_c27 m (by omega) n (Nat.le_of_not_lt d) (by unfold Hid; omega) w
end Go.Proofs.YtblfmokklfhklaaGreatDoor


namespace Go.Proofs.YtblfmokklfhklaaGreatDoor
open Go.RowKit
set_option linter.unusedVariables false
set_option linter.unusedSimpArgs false

set_option maxRecDepth 20000 in
set_option maxHeartbeats 1600000 in
theorem rRight_any (t : T) (hok : t.ok) (A : Option Addr) (c : Nat) (w : World) (h : IsL w (fun _ => True) t A) :
    Calls Tryz.prog 57 #[itemV t A c] w (Ret (.bool (t.right 8)) w) := by
  have H := hid h; have HO := hid hok
  have HR := hid (T.right_eq t 8)
  have HB : Hid (Blk (w.alloc (.cells (itemC t A c) 47)) w.heap.size 47 (itemC t A c)) := Blk.new _ _ _
  have HE0 := hid ((Mod.refl [] w).alloc (.cells (itemC t A c) 47))
  clear h hok
  go_enter Tryz.func57, Tryz.ntmps57
  go_wp2_with fail
  refine (Deep_any t 9 (by omega) HO.out A c _ (H.out.ext HE0.out)).mono ?_
  rintro e w2 ⟨rfl, hb2⟩
  have HE2 := hid (HE0.out.trans hb2)
  have hB2 := HB.out.ext hb2
  have c0 : w2.cell? ⟨w.heap.size, 0, none⟩ = some (.int .i64 t.kind) := hB2.cell 0
  have c1 : w2.cell? ⟨w.heap.size, 1, none⟩ = some (.int .u64 (t.n : Int)) := hB2.cell 1
  have c2 : w2.cell? ⟨w.heap.size, 2, none⟩ = some (str t.s) := hB2.cell 2
  have c3 : w2.cell? ⟨w.heap.size, 3, none⟩ = some (.slice A t.k c) := hB2.cell 3
  have c4 : w2.cell? ⟨w.heap.size, 4, none⟩ = some (.bool t.op) := hB2.cell 4
  by_cases hd : t.deep 9 ≤ 8
  · have HD := hid hd
    have td : decide (t.deep 9 ≤ 8) = true := by simp [hd]
    have td2 : decide ((t.deep 9 : Int) ≤ 8) = true := by simp; omega
    clear hd hb2 hB2
    go_wp2_with fail
    refine (plain_any t HO.out A c _ (H.out.ext HE2.out)).mono ?_
    rintro e w3 ⟨rfl, hb3⟩
    go_wp2_with fail
    go_ret
    exact Ret.mk (by rw [HR.out]; simp [HD.out]) (HE2.out.trans hb3)
  · have HD := hid hd
    have td : decide (t.deep 9 ≤ 8) = false := by simp; omega
    have td2 : decide ((t.deep 9 : Int) ≤ 8) = false := by simp; omega
    clear hd hb2 hB2
    go_wp2_with fail
    go_ret
    exact Ret.mk (by rw [HR.out]; simp [HD.out]) HE2.out

def few (t : T) (m : Nat) : Bool := decide (t.deep 9 ≤ 9) && decide (t.count m ≤ m)
set_option maxRecDepth 20000 in
set_option maxHeartbeats 1600000 in
theorem iFew_any (t : T) (m : Nat) (hm : m ≤ 100000) (hok : t.ok) (A : Option Addr) (c : Nat) (w : World) (h : IsL w (fun _ => True) t A) :
    Calls Tryz.prog 33 #[itemV t A c, .int .i64 (m : Int)] w (Ret (.bool (few t m)) w) := by
  have H := hid h; have HO := hid hok; have HM := hid hm
  have m0 : (0 : Int) ≤ (m : Int) := by omega
  have m1 : (m : Int) ≤ 100000 := by omega
  have HB : Hid (Blk (w.alloc (.cells (itemC t A c) 47)) w.heap.size 47 (itemC t A c)) := Blk.new _ _ _
  have HE0 := hid ((Mod.refl [] w).alloc (.cells (itemC t A c) 47))
  clear h hok hm
  go_enter Tryz.func33, Tryz.ntmps33
  go_wp2_with fail
  refine (Deep_any t 9 (by omega) HO.out A c _ (H.out.ext HE0.out)).mono ?_
  rintro e w2 ⟨rfl, hb2⟩
  have HE2 := hid (HE0.out.trans hb2)
  have hB2 := HB.out.ext hb2
  have c0 : w2.cell? ⟨w.heap.size, 0, none⟩ = some (.int .i64 t.kind) := hB2.cell 0
  have c1 : w2.cell? ⟨w.heap.size, 1, none⟩ = some (.int .u64 (t.n : Int)) := hB2.cell 1
  have c2 : w2.cell? ⟨w.heap.size, 2, none⟩ = some (str t.s) := hB2.cell 2
  have c3 : w2.cell? ⟨w.heap.size, 3, none⟩ = some (.slice A t.k c) := hB2.cell 3
  have c4 : w2.cell? ⟨w.heap.size, 4, none⟩ = some (.bool t.op) := hB2.cell 4
  by_cases hd : t.deep 9 ≤ 9
  · have HD := hid hd
    have td : decide (t.deep 9 ≤ 9) = true := by simp [hd]
    have td2 : decide ((t.deep 9 : Int) ≤ 9) = true := by simp; omega
    clear hd hb2 hB2
    go_wp2_with fail
    refine (Count_any t m HM.out HO.out A c _ (H.out.ext HE2.out)).mono ?_
    rintro e w3 ⟨rfl, hb3⟩
    go_wp2_with fail
    go_ret
    exact Ret.mk (by unfold few; simp [HD.out]) (HE2.out.trans hb3)
  · have HD := hid hd
    have td : decide (t.deep 9 ≤ 9) = false := by simp; omega
    have td2 : decide ((t.deep 9 : Int) ≤ 9) = false := by simp; omega
    clear hd hb2 hB2
    go_wp2_with fail
    go_ret
    exact Ret.mk (by unfold few; simp [HD.out]) HE2.out
theorem few_size {t : T} {m : Nat} (h : few t m = true) : t.size ≤ m ∧ t.deep 9 ≤ 9 := by
  unfold few at h
  simp at h
  rw [T.count_size t m h.2]
  exact ⟨h.2, h.1⟩

/-- What has been written of an array after its first j items. -/
def pre (kind : Int) (s : List UInt8) (op : Bool) (k : Nat) (ch : Nat → T) (j : Nat) : List UInt8 := (if op then [159] else headL 4 k) ++ T.cat (fun i => (ch i).bytes) j

theorem T.cat_mono {f : Nat → List UInt8} {j k : Nat} (h : j ≤ k) : (T.cat f j).length ≤ (T.cat f k).length := by
  induction k with
  | zero => have : j = 0 := by omega
            subst this; exact Nat.le_refl _
  | succ k ih =>
    by_cases e : j = k + 1
    · subst e; exact Nat.le_refl _
    · have := ih (by omega)
      rw [T.cat, List.length_append]; omega
theorem pre_succ (kind : Int) (s : List UInt8) (op : Bool) (k : Nat) (ch : Nat → T) (j : Nat) : pre kind s op k ch (j + 1) = pre kind s op k ch j ++ (ch j).bytes := by
  unfold pre; rw [T.cat, List.append_assoc]
theorem pre_le {n : Nat} {s : List UInt8} {op : Bool} {k : Nat} {ch : Nat → T} {j : Nat} (hj : j ≤ k) (h : (T.mk 4 n s op k ch).size ≤ 100000) : (pre 4 s op k ch j).length ≤ 1000000 := by
  have h1 := T.bytes_le (.mk 4 n s op k ch)
  have h2 : (T.mk 4 n s op k ch).bytes = (if op then [159] else headL 4 k) ++ (T.cat (fun i => (ch i).bytes) k ++ (if op then [255] else [])) := rfl
  have h3 := T.cat_mono (f := fun i => (ch i).bytes) hj
  rw [h2, List.length_append, List.length_append] at h1
  unfold pre
  rw [List.length_append]
  omega
theorem pre_end {n : Nat} {s : List UInt8} {op : Bool} {k : Nat} {ch : Nat → T} : (T.mk 4 n s op k ch).bytes = pre 4 s op k ch k ++ (if op then [255] else []) := by
  have h2 : (T.mk 4 n s op k ch).bytes = (if op then [159] else headL 4 k) ++ (T.cat (fun i => (ch i).bytes) k ++ (if op then [255] else [])) := rfl
  rw [h2, pre, List.append_assoc]

set_option maxRecDepth 20000 in
set_option maxHeartbeats 3200000 in
theorem rBytesI_any (t : T) : t.ok → t.plain = true → t.size ≤ 100000 → ∀ A c w, IsL w (fun _ => True) t A →
    Calls Tryz.prog 25 #[itemV t A c] w (Ret (str t.bytes) w) := by
  induction t with
  | nil => intro hok; cases hok
  | mk kind n s op k ch ih =>
    intro hok hpl hsz A c w h
    have H := hid h; have HO := hid hok; have HPL := hid hpl; have HSZ := hid hsz
    have HI := hid ih
    have hk : Hid (k < 4611686018427387904) := by unfold T.ok at hok; exact hok.2.2.2.1
    have hn64 : Hid (n < 18446744073709551616) := by unfold T.ok at hok; exact hok.2.1
    have hs64 : Hid (s.length < 4611686018427387904) := by unfold T.ok at hok; exact hok.2.2.1
    have hkd : kind = 0 ∨ kind = 2 ∨ kind = 3 ∨ kind = 4 := by unfold T.plain at hpl; rw [Bool.and_eq_true] at hpl; exact T.node_kind hpl.1
    have hpc : Hid (∀ i, i < k → (ch i).plain = true) := by unfold T.plain at hpl; rw [Bool.and_eq_true, T.all_iff] at hpl; exact hpl.2
    have HBL := hid (T.bytes_le (.mk kind n s op k ch))
    have hBy : (T.mk kind n s op k ch).bytes = if kind = 0 then headL 0 n else if kind < 4 then headL kind.toNat s.length ++ s else (if op then [159] else headL 4 k) ++ (T.cat (fun i => (ch i).bytes) k ++ (if op then [255] else [])) := rfl
    have HBy := hid hBy
    show Calls Tryz.prog 25 #[.agg #[.int .i64 kind, .int .u64 (n : Int), str s, .slice A k c, .bool op]] w (Ret (str (T.mk kind n s op k ch).bytes) w)
    have HB : Hid (Blk (w.alloc (.cells #[.int .i64 kind, .int .u64 (n : Int), str s, .slice A k c, .bool op] 47)) w.heap.size 47 #[.int .i64 kind, .int .u64 (n : Int), str s, .slice A k c, .bool op]) := Blk.new _ _ _
    have HE0 := hid ((Mod.refl [] w).alloc (.cells #[.int .i64 kind, .int .u64 (n : Int), str s, .slice A k c, .bool op] 47))
    clear h hok hpl hsz ih hBy
    by_cases k0 : kind = 0
    · subst k0
      rw [HBy.out, if_pos rfl]
      go_enter Tryz.func25, Tryz.ntmps25
      go_wp2_with fail
      refine (rhead_in 0 n (by omega) (by omega) (by omega) (by have := hn64.out; omega) _).mono ?_
      rintro e w2 ⟨rfl, hb2⟩
      go_wp2_with fail
      go_ret
      exact Ret.mk rfl (HE0.out.trans hb2)
    · by_cases k4 : kind < 4
      · rw [HBy.out, if_neg k0, if_pos k4]
        have b0 : (kind == 0) = false := by simp [k0]
        have b1 : (kind = 0) = False := by simp [k0]
        have b2 : decide (kind < 4) = true := by simp [k4]
        have HK : Hid (0 ≤ kind ∧ kind ≤ 3) := by unfold Hid; omega
        have s0 : (s.length : Int) < 9223372036854775808 := by have := hs64.out; omega
        have hno : (9223372036854775807 < (headL kind.toNat s.length).length + s.length) = False := by have := headL_le kind.toNat s.length; have := hs64.out; simp; omega
        clear k0 k4 hkd
        go_enter Tryz.func25, Tryz.ntmps25
        go_upto_region 1 with fail
        go_cut [5, 6, 7] (fun s5 s6 s7 wx => s7 = .bool false ∧ Hid (Ext w wx ∧ Blk wx w.heap.size 47 #[.int .i64 kind, .int .u64 (n : Int), str s, .slice A k c, .bool op]))
        case first =>
          go_wp2_with fail
          go_meet
          exact ⟨rfl, HE0.out, HB.out⟩
        obtain ⟨rfl, hX⟩ := hcut
        have HX : Hid (∀ W, Ext wc W → W.cell? ⟨w.heap.size, 0, none⟩ = some (.int .i64 kind) ∧ W.cell? ⟨w.heap.size, 2, none⟩ = some (str s)) := fun W hW => ⟨(hX.out.2.ext hW).cell 0, (hX.out.2.ext hW).cell 2⟩
        have tw : IntKind.u64.wrap (s.length : Int) = (s.length : Int) := IntWalk.u64_in _ (by have := hs64.out; omega)
        have y0 := (HX.out wc (Mod.refl _ _)).1
        have y2 := (HX.out wc (Mod.refl _ _)).2
        go_upto_region 4 with fail
        go_region_held3 (fun w' => w'.cell? ⟨w.heap.size, 0, none⟩ = some (.int .i64 kind) ∧ w'.cell? ⟨w.heap.size, 2, none⟩ = some (str s)) (go_keep)
          ((go_at_call 24; (try rw [tw]); refine (rhead_in kind (s.length : Int) HK.out.1 (by have := HK.out.2; omega) (by omega) (by have := hs64.out; omega) _).mono ?_; rintro e w3 ⟨rfl, hb3⟩; rw [Int.toNat_natCast]; have hx3 : Ext wc w3 := (by with_reducible refine Mod.trans ?_ hb3; (repeat (first | with_reducible assumption | with_reducible exact Mod.refl _ _ | with_reducible refine Mod.drew ?_))); have z0 := (HX.out w3 hx3).1; have z2 := (HX.out w3 hx3).2))
        all_goals go_wp2_with fail
        all_goals go_ret
        all_goals exact Ret.mk rfl (hX.out.1.trans hx3)
      · have hk4 : kind = 4 := by omega
        subst hk4
        clear HBy k0 k4 hkd HBL
        have K0 : (0 : Int) ≤ (k : Int) := by omega
        have K1 : (k : Int) < 9223372036854775808 := by have := hk.out; omega
        cases op
        · go_enter Tryz.func25, Tryz.ntmps25
          go_wp2_with fail
          refine (rhead_in 4 (k : Int) (by omega) (by omega) (by omega) (by have := hk.out; omega) _).mono ?_
          rintro e w2 ⟨rfl, hb2⟩
          rw [Int.toNat_natCast]
          have HE2 := hid (HE0.out.trans hb2)
          have HB2 := hid (HB.out.ext hb2)
          have c4 : w2.cell? ⟨w.heap.size, 4, none⟩ = some (.bool false) := HB2.out.cell 4
          clear hb2 K1
          go_wp2_with fail
          clear c4
          go_loopw [3, 4] (fun s3 s4 wr => ∃ i : Nat, i ≤ k ∧ s4 = .int .i64 (i : Int) ∧ s3 = str (pre 4 s false k ch i) ∧ Hid (Ext w wr ∧ Blk wr w.heap.size 47 #[.int .i64 4, .int .u64 (n : Int), str s, .slice A k c, .bool false])) (fun _ i _ => k - (intOf i).toNat)
          case atStart => exact ⟨0, Nat.zero_le _, rfl, by simp [pre, T.cat], HE2.out, HB2.out⟩
          case round =>
            obtain ⟨i, hi, rfl, rfl, hH⟩ := hrel
            have i0 : (0 : Int) ≤ (i : Int) := by omega
            have c3 : wr.cell? ⟨w.heap.size, 3, none⟩ = some (.slice A k c) := hH.out.2.cell 3
            have c4 : wr.cell? ⟨w.heap.size, 4, none⟩ = some (.bool false) := hH.out.2.cell 4
            have HP := hid (pre_le (op := false) hi HSZ.out)
            by_cases hlt : i < k
            · obtain ⟨b, o, Ai, ci, rfl, hb, ⟨k0, k1, k2, k3, k4⟩, hL⟩ := H.out.cells hH.out.1 hlt
              have i1 : (i : Int) < (k : Int) := by omega
              have ti : decide (i < k) = true := by simp [hlt]
              have HL := hid hL; have HLT := hid hlt
              have HOi : Hid (ch i).ok := by have := HO.out; unfold T.ok at this; exact this.2.2.2.2 i hlt
              have HZi : Hid ((ch i).size ≤ 100000) := Nat.le_trans (T.size_ch hlt) HSZ.out
              have HPS := hid (pre_succ 4 s false k ch i)
              have hno : (9223372036854775807 < (pre 4 s false k ch i).length + (ch i).bytes.length) = False := by
                have h1 := pre_le (op := false) (show i + 1 ≤ k by omega) HSZ.out
                rw [HPS.out, List.length_append] at h1
                simp; omega
              have hk2 : (k : Int) < 4611686018427387904 := by have := hk.out; omega
              clear hL hlt
              go_wp2_with fail
              refine (HI.out i HOi.out (hpc.out i HLT.out) HZi.out Ai ci _ HL.out).mono ?_
              rintro e w3 ⟨rfl, hb3⟩
              have HE3 := hid (hH.out.1.trans hb3)
              have HB3 := hid (hH.out.2.ext hb3)
              clear hb3
              go_wp2_with fail
              have hlt := HLT.out
              refine ⟨⟨i + 1, by omega, by simp, by rw [HPS.out]; exact str_app _ _, (show Hid _ from ⟨HE3.out, HB3.out⟩)⟩, ?_⟩
              simp only [intOf]; omega
            · obtain rfl : i = k := by omega
              have ti : decide (i < i) = false := by simp
              have HPE := hid (pre_end (n := n) (s := s) (op := false) (k := i) (ch := ch))
              have hno : (9223372036854775807 < (pre 4 s false i ch i).length + 1) = False := by have := HP.out; simp; omega
              go_wp2_with fail
              go_ret
              exact Ret.mk (by rw [HPE.out]; simp) hH.out.1
        · go_enter Tryz.func25, Tryz.ntmps25
          go_wp2_with fail
          refine (rhead_in 4 (k : Int) (by omega) (by omega) (by omega) (by have := hk.out; omega) _).mono ?_
          rintro e w2 ⟨rfl, hb2⟩
          rw [Int.toNat_natCast]
          have HE2 := hid (HE0.out.trans hb2)
          have HB2 := hid (HB.out.ext hb2)
          have c4 : w2.cell? ⟨w.heap.size, 4, none⟩ = some (.bool true) := HB2.out.cell 4
          clear hb2 K1
          go_wp2_with fail
          clear c4
          go_loopw [3, 4] (fun s3 s4 wr => ∃ i : Nat, i ≤ k ∧ s4 = .int .i64 (i : Int) ∧ s3 = str (pre 4 s true k ch i) ∧ Hid (Ext w wr ∧ Blk wr w.heap.size 47 #[.int .i64 4, .int .u64 (n : Int), str s, .slice A k c, .bool true])) (fun _ i _ => k - (intOf i).toNat)
          case atStart => exact ⟨0, Nat.zero_le _, rfl, by simp [pre, T.cat], HE2.out, HB2.out⟩
          case round =>
            obtain ⟨i, hi, rfl, rfl, hH⟩ := hrel
            have i0 : (0 : Int) ≤ (i : Int) := by omega
            have c3 : wr.cell? ⟨w.heap.size, 3, none⟩ = some (.slice A k c) := hH.out.2.cell 3
            have c4 : wr.cell? ⟨w.heap.size, 4, none⟩ = some (.bool true) := hH.out.2.cell 4
            have HP := hid (pre_le (op := true) hi HSZ.out)
            by_cases hlt : i < k
            · obtain ⟨b, o, Ai, ci, rfl, hb, ⟨k0, k1, k2, k3, k4⟩, hL⟩ := H.out.cells hH.out.1 hlt
              have i1 : (i : Int) < (k : Int) := by omega
              have ti : decide (i < k) = true := by simp [hlt]
              have HL := hid hL; have HLT := hid hlt
              have HOi : Hid (ch i).ok := by have := HO.out; unfold T.ok at this; exact this.2.2.2.2 i hlt
              have HZi : Hid ((ch i).size ≤ 100000) := Nat.le_trans (T.size_ch hlt) HSZ.out
              have HPS := hid (pre_succ 4 s true k ch i)
              have hno : (9223372036854775807 < (pre 4 s true k ch i).length + (ch i).bytes.length) = False := by
                have h1 := pre_le (op := true) (show i + 1 ≤ k by omega) HSZ.out
                rw [HPS.out, List.length_append] at h1
                simp; omega
              have hk2 : (k : Int) < 4611686018427387904 := by have := hk.out; omega
              clear hL hlt
              go_wp2_with fail
              refine (HI.out i HOi.out (hpc.out i HLT.out) HZi.out Ai ci _ HL.out).mono ?_
              rintro e w3 ⟨rfl, hb3⟩
              have HE3 := hid (hH.out.1.trans hb3)
              have HB3 := hid (hH.out.2.ext hb3)
              clear hb3
              go_wp2_with fail
              have hlt := HLT.out
              refine ⟨⟨i + 1, by omega, by simp, by rw [HPS.out]; exact str_app _ _, (show Hid _ from ⟨HE3.out, HB3.out⟩)⟩, ?_⟩
              simp only [intOf]; omega
            · obtain rfl : i = k := by omega
              have ti : decide (i < i) = false := by simp
              have HPE := hid (pre_end (n := n) (s := s) (op := true) (k := i) (ch := ch))
              have hno : (9223372036854775807 < (pre 4 s true i ch i).length + 1) = False := by have := HP.out; simp; omega
              go_wp2_with fail
              go_ret
              exact Ret.mk (by rw [HPE.out]; exact str_app _ [255]) hH.out.1
end Go.Proofs.YtblfmokklfhklaaGreatDoor


namespace Go.Proofs.YtblfmokklfhklaaGreatDoor
open Go.RowKit
set_option linter.unusedVariables false
set_option linter.unusedSimpArgs false

set_option maxRecDepth 20000 in
set_option maxHeartbeats 400000 in
theorem wBytes_any (l : List UInt8) (hl : Hid (l.length < 4611686018427387904)) (w : World) : Calls Tryz.prog 85 #[str l] w (Ret (str (headL 2 l.length ++ l)) w) := by
  have hw : IntKind.u64.wrap (l.length : Int) = (l.length : Int) := IntWalk.u64_in _ (by have := hl.out; omega)
  have hno : (9223372036854775807 < (headL 2 l.length).length + l.length) = False := by have h1 := hl.out; have h2 := headL_le 2 l.length; simp; omega
  go_enter Tryz.func85, Tryz.ntmps85
  go_wp2_with (go_at_call 84; refine (head_in _ _ (by omega) (by omega) (by omega) (by have := hl.out; omega) _).mono ?_; rintro x w1 ⟨rfl, hb⟩; simp only [Int.toNat_natCast, show Int.toNat 2 = 2 from rfl])
  go_ret
  exact Ret.mk (str_app _ _) hb

set_option maxRecDepth 20000 in
set_option maxHeartbeats 400000 in
theorem wText_any (l : List UInt8) (hl : Hid (l.length < 4611686018427387904)) (w : World) : Calls Tryz.prog 86 #[str l] w (Ret (str (headL 3 l.length ++ l)) w) := by
  have hw : IntKind.u64.wrap (l.length : Int) = (l.length : Int) := IntWalk.u64_in _ (by have := hl.out; omega)
  have hno : (9223372036854775807 < (headL 3 l.length).length + l.length) = False := by have h1 := hl.out; have h2 := headL_le 3 l.length; simp; omega
  go_enter Tryz.func86, Tryz.ntmps86
  go_wp2_with (go_at_call 84; refine (head_in _ _ (by omega) (by omega) (by omega) (by have := hl.out; omega) _).mono ?_; rintro x w1 ⟨rfl, hb⟩; simp only [Int.toNat_natCast, show Int.toNat 3 = 3 from rfl])
  go_ret
  exact Ret.mk (str_app _ _) hb

end Go.Proofs.YtblfmokklfhklaaGreatDoor


namespace Go.Proofs.YtblfmokklfhklaaGreatDoor
open Go.RowKit
set_option linter.unusedVariables false
set_option linter.unusedSimpArgs false

theorem T.leaf_all {kind : Int} {n : Nat} {s : List UInt8} {op : Bool} {k : Nat} {f : Nat → Bool} (h : kind ≠ 4) : (T.node kind n s op k && T.all f k) = T.node kind n s op k := by
  cases hn : T.node kind n s op k with
  | false => rfl
  | true =>
    unfold T.node at hn
    by_cases a : kind = 0
    · rw [if_pos a] at hn; simp at hn; rw [hn.1.2]; rfl
    · rw [if_neg a] at hn
      by_cases b : kind = 2 ∨ kind = 3
      · rw [if_pos b] at hn; simp at hn; rw [hn.1.2]; rfl
      · rw [if_neg b, if_neg h] at hn; cases hn

set_option maxRecDepth 20000 in
set_option maxHeartbeats 3200000 in
theorem right_any (t : T) : ∀ (d : Nat), d ≤ 9 → t.ok → ∀ A c w, IsL w (fun _ => True) t A →
    Calls Tryz.prog 83 #[itemV t A c, .int .i64 (d : Int)] w (Ret (.bool (t.right d)) w) := by
  induction t with
  | nil => intro m _ hok; cases hok
  | mk kind n s op k ch ih =>
    intro d hd hok A c w h
    have H := hid h; have HO := hid hok; have HD := hid hd
    have HI := hid ih
    have d0 : (0 : Int) ≤ (d : Int) := by omega
    have d1 : (d : Int) ≤ 9 := by omega
    have hk : Hid (k < 4611686018427387904) := by unfold T.ok at hok; exact hok.2.2.2.1
    have HR : Hid ((T.mk kind n s op k ch).right d = if d < 1 then false else T.node kind n s op k && T.all (fun i => (ch i).right (d - 1)) k) := rfl
    show Calls Tryz.prog 83 #[.agg #[.int .i64 kind, .int .u64 (n : Int), str s, .slice A k c, .bool op], .int .i64 (d : Int)] w (Ret (.bool ((T.mk kind n s op k ch).right d)) w)
    have HE0 := hid ((Mod.refl [] w).alloc (.cells #[.int .i64 kind, .int .u64 (n : Int), str s, .slice A k c, .bool op] 47))
    clear h hok ih hd
    by_cases hd0 : d < 1
    · obtain rfl : d = 0 := by omega
      rw [HR.out, if_pos (by omega)]
      go_enter Tryz.func83, Tryz.ntmps83
      go_wp2
      go_ret
      exact Ret.mk rfl HE0.out
    · rw [HR.out, if_neg hd0]
      have HD1 : Hid (1 ≤ d) := by unfold Hid; omega
      have td : decide ((d : Int) < 1) = false := by simp; omega
      have td2 : (d < 1) = False := by simp [hd0]
      have td3 : (d = 0) = False := by simp; omega
      have bs : s ≠ [] → (s == []) = false := fun h => by simp [h]
      have bS : s ≠ [] → (s = []) = False := fun h => by simp [h]
      have bn : n ≠ 0 → ((n : Int) == 0) = false := fun h => by simp [h]
      have bN : n ≠ 0 → (n = 0) = False := fun h => by simp [h]
      have bk : k ≠ 0 → ((k : Int) == 0) = false := fun h => by simp [h]
      have q1 : k ≠ 0 → (k = 0) = False := fun h => by simp [h]
      clear hd0
      by_cases a0 : kind = 0
      · subst a0
        go_enter Tryz.func83, Tryz.ntmps83
        by_cases hs : s = []
        · subst hs
          by_cases hk0 : k = 0
          · subst hk0
            cases op
            · skip
              go_wp2_with fail
              go_ret
              exact Ret.mk (by rw [T.leaf_all (by omega)]; simp [T.node]) HE0.out
            · skip
              go_wp2_with fail
              go_ret
              exact Ret.mk (by rw [T.leaf_all (by omega)]; simp [T.node]) HE0.out
          · have bk := bk hk0; have q1 := q1 hk0
            go_wp2_with fail
            go_ret
            exact Ret.mk (by rw [T.leaf_all (by omega)]; simp [T.node, hk0]) HE0.out
        · have bs := bs hs; have bS := bS hs
          go_wp2_with fail
          go_ret
          exact Ret.mk (by rw [T.leaf_all (by omega)]; simp [T.node, hs]) HE0.out
      · skip
        by_cases a2 : kind = 2
        · subst a2
          go_enter Tryz.func83, Tryz.ntmps83
          have hn : n = 0 ∨ n ≠ 0 := by omega
          rcases hn with rfl | hn
          · skip
            by_cases hk0 : k = 0
            · subst hk0
              cases op
              · skip
                go_wp2_with fail
                go_ret
                exact Ret.mk (by rw [T.leaf_all (by omega)]; simp [T.node]) HE0.out
              · skip
                go_wp2_with fail
                go_ret
                exact Ret.mk (by rw [T.leaf_all (by omega)]; simp [T.node]) HE0.out
            · have bk := bk hk0; have q1 := q1 hk0
              go_wp2_with fail
              go_ret
              exact Ret.mk (by rw [T.leaf_all (by omega)]; simp [T.node, hk0]) HE0.out
          · have bn := bn hn; have bN := bN hn
            go_wp2_with fail
            go_ret
            exact Ret.mk (by rw [T.leaf_all (by omega)]; simp [T.node, hn]) HE0.out
        · skip
          by_cases a3 : kind = 3
          · subst a3
            go_enter Tryz.func83, Tryz.ntmps83
            have hn : n = 0 ∨ n ≠ 0 := by omega
            rcases hn with rfl | hn
            · skip
              by_cases hk0 : k = 0
              · subst hk0
                cases op
                · skip
                  go_wp2_with fail
                  go_ret
                  exact Ret.mk (by rw [T.leaf_all (by omega)]; simp [T.node]) HE0.out
                · skip
                  go_wp2_with fail
                  go_ret
                  exact Ret.mk (by rw [T.leaf_all (by omega)]; simp [T.node]) HE0.out
              · have bk := bk hk0; have q1 := q1 hk0
                go_wp2_with fail
                go_ret
                exact Ret.mk (by rw [T.leaf_all (by omega)]; simp [T.node, hk0]) HE0.out
            · have bn := bn hn; have bN := bN hn
              go_wp2_with fail
              go_ret
              exact Ret.mk (by rw [T.leaf_all (by omega)]; simp [T.node, hn]) HE0.out
          · skip
            have e0 : (kind == 0) = false := by simp [a0]
            have e2 : (kind == 2) = false := by simp [a2]
            have e3 : (kind == 3) = false := by simp [a3]
            have f0 : (kind = 0) = False := by simp [a0]
            have f2 : (kind = 2) = False := by simp [a2]
            have f3 : (kind = 3) = False := by simp [a3]
            by_cases a4 : kind = 4
            · subst a4
              clear e0 e2 e3 f0 f2 f3 a0 a2 a3
              go_enter Tryz.func83, Tryz.ntmps83
              have hn : n = 0 ∨ n ≠ 0 := by omega
              rcases hn with rfl | hn
              · by_cases hs : s = []
                · subst hs
                  by_cases hk1 : 1000 < k
                  · have bK : decide (1000 < k) = true := by simp [hk1]
                    have z1 : decide (k ≤ 1000) = false := by simp; omega
                    go_wp2_with fail
                    go_ret
                    exact Ret.mk (by simp [T.node, z1]) HE0.out
                  · have bK : decide (1000 < k) = false := by simp; omega
                    have z1 : decide (k ≤ 1000) = true := by simp; omega
                    have HND : Hid (T.node 4 0 [] op k = true) := by unfold Hid; simp [T.node, z1]
                    have bK3 : (1000 < k) = False := by simp; omega
                    go_wp2_with fail
                    clear hk1 z1 bK bK3
                    go_loopw [63] (fun s63 wr => ∃ i : Nat, i ≤ k ∧ s63 = .int .i64 (i : Int) ∧ Hid (Ext w wr ∧ T.all (fun i => (ch i).right (d - 1)) i = true)) (fun i _ => k - (intOf i).toNat)
                    case atStart => exact ⟨0, Nat.zero_le _, rfl, HE0.out, rfl⟩
                    case round =>
                      obtain ⟨i, hi, rfl, hX⟩ := hrel
                      have i0 : (0 : Int) ≤ (i : Int) := by omega
                      by_cases hlt : i < k
                      · obtain ⟨b, o, Ai, ci, rfl, hb, ⟨k0, k1, k2, k3, k4⟩, hL⟩ := H.out.cells hX.out.1 hlt
                        have i1 : (i : Int) < (k : Int) := by omega
                        have hk2 : (k : Int) < 4611686018427387904 := by have := hk.out; omega
                        have ti : decide (i < k) = true := by simp [hlt]
                        have ha : (d : Int) - 1 = ((d - 1 : Nat) : Int) := by have := HD1.out; omega
                        have HL := hid hL; have HLT := hid hlt
                        have HOi : Hid (ch i).ok := by have := HO.out; unfold T.ok at this; exact this.2.2.2.2 i hlt
                        clear hL hlt
                        go_wp2_with fail
                        have HEa := hid ((Mod.refl [] wr).alloc (.cells (itemC (ch i) Ai ci) 47))
                        refine (HI.out i (d - 1) (by have := HD.out; omega) HOi.out Ai ci _ (HL.out.ext HEa.out)).mono ?_
                        rintro e w3 ⟨rfl, hb3⟩
                        have HE3 := hid ((hX.out.1.trans HEa.out).trans hb3)
                        clear hb3
                        cases hpl : (ch i).right (d - 1)
                        · have hno : T.all (fun i => (ch i).right (d - 1)) k = false := by
                            have hlt := HLT.out
                            cases hh : T.all (fun i => (ch i).right (d - 1)) k with
                            | false => rfl
                            | true => have := T.all_iff.1 hh i hlt; rw [hpl] at this; cases this
                          have HNO := hid hno
                          clear hno hpl
                          go_wp2_with fail
                          go_ret
                          exact Ret.mk (by rw [HND.out, HNO.out]; rfl) HE3.out
                        · have HPL := hid hpl
                          clear hpl
                          go_wp2_with fail
                          have hlt := HLT.out
                          refine ⟨⟨i + 1, by omega, by simp, (show Hid _ from ⟨HE3.out, by rw [T.all, hX.out.2, HPL.out]; rfl⟩)⟩, ?_⟩
                          simp only [intOf]; omega
                      · obtain rfl : i = k := by omega
                        have ti : decide (i < i) = false := by simp
                        go_wp2_with fail
                        go_ret
                        exact Ret.mk (by rw [HND.out, hX.out.2]; rfl) hX.out.1
                · have bs := bs hs; have bS := bS hs
                  go_wp2_with fail
                  go_ret
                  exact Ret.mk (by simp [T.node, hs]) HE0.out
              · have bn := bn hn; have bN := bN hn
                go_wp2_with fail
                go_ret
                exact Ret.mk (by simp [T.node, hn]) HE0.out
            · have e4 : (kind == 4) = false := by simp [a4]
              have f4 : (kind = 4) = False := by simp [a4]
              go_enter Tryz.func83, Tryz.ntmps83
              go_wp2_with fail
              go_ret
              exact Ret.mk (by simp [T.node, a0, a2, a3, a4]) HE0.out

set_option maxRecDepth 20000 in
set_option maxHeartbeats 1600000 in
theorem iRight_any (t : T) (hok : t.ok) (A : Option Addr) (c : Nat) (w : World) (h : IsL w (fun _ => True) t A) :
    Calls Tryz.prog 66 #[itemV t A c] w (Ret (.bool (t.right 8)) w) := by
  have H := hid h; have HO := hid hok
  clear h hok
  have HE0 := hid ((Mod.refl [] w).alloc (.cells (itemC t A c) 47))
  go_enter Tryz.func66, Tryz.ntmps66
  go_wp2_with fail
  refine (right_any t 8 (by omega) HO.out A c _ (H.out.ext HE0.out)).mono ?_
  rintro e w2 ⟨rfl, hb2⟩
  go_wp2_with fail
  go_ret
  exact Ret.mk rfl (HE0.out.trans hb2)
end Go.Proofs.YtblfmokklfhklaaGreatDoor


namespace Go.Proofs.YtblfmokklfhklaaGreatDoor
open Go.RowKit
set_option linter.unusedVariables false
set_option linter.unusedSimpArgs false

theorem Blk.new' (w : World) (t : TypeId) (cs : Array Value) {N : Nat} (h : w.heap.size = N) : Blk (w.alloc (.cells cs t)) N t cs := by subst h; exact Blk.new _ _ _
theorem openL4 : openL 4 = [159] := by decide
theorem openL7 : openL 7 = [255] := by decide

set_option maxRecDepth 20000 in
set_option maxHeartbeats 3200000 in
theorem build_any (t : T) : t.ok → t.plain = true → t.size ≤ 100000 → ∀ A c w, IsL w (fun _ => True) t A →
    Calls Tryz.prog 67 #[itemV t A c] w (Ret (str t.bytes) w) := by
  induction t with
  | nil => intro hok; cases hok
  | mk kind n s op k ch ih =>
    intro hok hpl hsz A c w h
    have H := hid h; have HO := hid hok; have HPL := hid hpl; have HSZ := hid hsz
    have HI := hid ih
    have hk : Hid (k < 4611686018427387904) := by unfold T.ok at hok; exact hok.2.2.2.1
    have hn64 : Hid (n < 18446744073709551616) := by unfold T.ok at hok; exact hok.2.1
    have hs64 : Hid (s.length < 4611686018427387904) := by unfold T.ok at hok; exact hok.2.2.1
    have hkd : kind = 0 ∨ kind = 2 ∨ kind = 3 ∨ kind = 4 := by unfold T.plain at hpl; rw [Bool.and_eq_true] at hpl; exact T.node_kind hpl.1
    have hpc : Hid (∀ i, i < k → (ch i).plain = true) := by unfold T.plain at hpl; rw [Bool.and_eq_true, T.all_iff] at hpl; exact hpl.2
    have hBy : (T.mk kind n s op k ch).bytes = if kind = 0 then headL 0 n else if kind < 4 then headL kind.toNat s.length ++ s else (if op then [159] else headL 4 k) ++ (T.cat (fun i => (ch i).bytes) k ++ (if op then [255] else [])) := rfl
    have HBy := hid hBy
    show Calls Tryz.prog 67 #[.agg #[.int .i64 kind, .int .u64 (n : Int), str s, .slice A k c, .bool op]] w (Ret (str (T.mk kind n s op k ch).bytes) w)
    have HB : Hid (Blk (w.alloc (.cells #[.int .i64 kind, .int .u64 (n : Int), str s, .slice A k c, .bool op] 47)) w.heap.size 47 #[.int .i64 kind, .int .u64 (n : Int), str s, .slice A k c, .bool op]) := Blk.new _ _ _
    have HE0 := hid ((Mod.refl [] w).alloc (.cells #[.int .i64 kind, .int .u64 (n : Int), str s, .slice A k c, .bool op] 47))
    clear h hok hpl hsz ih hBy
    rcases hkd with rfl | rfl | rfl | rfl
    · rw [HBy.out, if_pos rfl]
      go_enter Tryz.func67, Tryz.ntmps67
      go_wp2_with fail
      refine (head_in 0 n (by omega) (by omega) (by omega) (by have := hn64.out; omega) _).mono ?_
      rintro e w2 ⟨rfl, hb2⟩
      go_wp2_with fail
      go_ret
      exact Ret.mk rfl (HE0.out.trans hb2)
    · rw [HBy.out, if_neg (by omega), if_pos (by omega)]
      go_enter Tryz.func67, Tryz.ntmps67
      go_wp2_with fail
      refine (wBytes_any s hs64 _).mono ?_
      rintro e w2 ⟨rfl, hb2⟩
      go_wp2_with fail
      go_ret
      exact Ret.mk rfl (HE0.out.trans hb2)
    · rw [HBy.out, if_neg (by omega), if_pos (by omega)]
      go_enter Tryz.func67, Tryz.ntmps67
      go_wp2_with fail
      refine (wText_any s hs64 _).mono ?_
      rintro e w2 ⟨rfl, hb2⟩
      go_wp2_with fail
      go_ret
      exact Ret.mk rfl (HE0.out.trans hb2)
    · clear HBy
      have K0 : (0 : Int) ≤ (k : Int) := by omega
      have K1 : (k : Int) < 9223372036854775808 := by have := hk.out; omega
      cases op
      · go_enter Tryz.func67, Tryz.ntmps67
        go_wp2_with fail
        refine (head_in 4 (k : Int) (by omega) (by omega) (by omega) (by have := hk.out; omega) _).mono ?_
        rintro e w2 ⟨rfl, hb2⟩
        rw [Int.toNat_natCast]
        have HE2 := hid (HE0.out.trans hb2)
        have HB2 := hid (HB.out.ext hb2)
        have c4 : w2.cell? ⟨w.heap.size, 4, none⟩ = some (.bool false) := HB2.out.cell 4
        have c3 : w2.cell? ⟨w.heap.size, 3, none⟩ = some (.slice A k c) := HB2.out.cell 3
        clear hb2 K1
        go_wp2_with fail
        clear c4 c3
        go_loopw [3, 36] (fun s3 s36 wr => ∃ i : Nat, i ≤ k ∧ s36 = .int .i64 (i : Int) ∧ s3 = str (pre 4 s false k ch i) ∧ Hid (Ext w wr)) (fun _ i _ => k - (intOf i).toNat)
        case atStart => exact ⟨0, Nat.zero_le _, rfl, by simp [pre, T.cat], HE2.out⟩
        case round =>
          obtain ⟨i, hi, rfl, rfl, hH⟩ := hrel
          have i0 : (0 : Int) ≤ (i : Int) := by omega
          have HP := hid (pre_le (op := false) hi HSZ.out)
          by_cases hlt : i < k
          · obtain ⟨b, o, Ai, ci, rfl, hb, ⟨k0, k1, k2, k3, k4⟩, hL⟩ := H.out.cells hH.out hlt
            have i1 : (i : Int) < (k : Int) := by omega
            have ti : decide (i < k) = true := by simp [hlt]
            have HL := hid hL; have HLT := hid hlt
            have HOi : Hid (ch i).ok := by have := HO.out; unfold T.ok at this; exact this.2.2.2.2 i hlt
            have HZi : Hid ((ch i).size ≤ 100000) := Nat.le_trans (T.size_ch hlt) HSZ.out
            have HPS := hid (pre_succ 4 s false k ch i)
            have hno : (9223372036854775807 < (pre 4 s false k ch i).length + (ch i).bytes.length) = False := by
              have h1 := pre_le (op := false) (show i + 1 ≤ k by omega) HSZ.out
              rw [HPS.out, List.length_append] at h1
              simp; omega
            have hk2 : (k : Int) < 4611686018427387904 := by have := hk.out; omega
            have HEa := hid ((Mod.refl [] wr).alloc (.cells (itemC (ch i) Ai ci) 47))
            clear hL hlt
            go_wp2_with fail
            refine (HI.out i HOi.out (hpc.out i HLT.out) HZi.out Ai ci _ (HL.out.ext HEa.out)).mono ?_
            rintro e w3 ⟨rfl, hb3⟩
            have HE3 := hid ((hH.out.trans HEa.out).trans hb3)
            clear hb3
            go_wp2_with fail
            have hlt := HLT.out
            refine ⟨⟨i + 1, by omega, by simp, by rw [HPS.out]; exact str_app _ _, (show Hid _ from HE3.out)⟩, ?_⟩
            simp only [intOf]; omega
          · obtain rfl : i = k := by omega
            have ti : decide (i < i) = false := by simp
            have HPE := hid (pre_end (n := n) (s := s) (op := false) (k := i) (ch := ch))
            have hno : (9223372036854775807 < (pre 4 s false i ch i).length) = False := by have := HP.out; simp; omega
            go_wp2_with fail
            go_ret
            exact Ret.mk (by rw [HPE.out]; exact str_app _ []) hH.out
      · go_enter Tryz.func67, Tryz.ntmps67
        go_wp2_with fail
        refine (head_in 4 (k : Int) (by omega) (by omega) (by omega) (by have := hk.out; omega) _).mono ?_
        rintro e w2 ⟨rfl, hb2⟩
        rw [Int.toNat_natCast]
        have HE2 := hid (HE0.out.trans hb2)
        have HB2 := hid (HB.out.ext hb2)
        have c4 : w2.cell? ⟨w.heap.size, 4, none⟩ = some (.bool true) := HB2.out.cell 4
        have c3 : w2.cell? ⟨w.heap.size, 3, none⟩ = some (.slice A k c) := HB2.out.cell 3
        clear hb2 K1
        go_wp2_with fail
        refine (open_any 4 _).mono ?_
        rintro e w3 ⟨rfl, hb3⟩
        rw [openL4]
        go_wp2_with fail
        refine (open_any 7 _).mono ?_
        rintro e w4 ⟨rfl, hb4⟩
        rw [openL7]
        have HE4 := hid ((HE2.out.trans hb3).trans hb4)
        have HB4 := hid ((HB2.out.ext hb3).ext hb4)
        clear hb3 hb4 c3 c4 HE2 HB2
        have HE2 := HE4
        have c3 : w4.cell? ⟨w.heap.size, 3, none⟩ = some (.slice A k c) := HB4.out.cell 3
        have c4 : w4.cell? ⟨w.heap.size, 4, none⟩ = some (.bool true) := HB4.out.cell 4
        go_wp2_with fail
        clear c4 c3
        go_loopw [3, 36] (fun s3 s36 wr => ∃ i : Nat, i ≤ k ∧ s36 = .int .i64 (i : Int) ∧ s3 = str (pre 4 s true k ch i) ∧ Hid (Ext w wr)) (fun _ i _ => k - (intOf i).toNat)
        case atStart => exact ⟨0, Nat.zero_le _, rfl, by simp [pre, T.cat], HE2.out⟩
        case round =>
          obtain ⟨i, hi, rfl, rfl, hH⟩ := hrel
          have i0 : (0 : Int) ≤ (i : Int) := by omega
          have HP := hid (pre_le (op := true) hi HSZ.out)
          by_cases hlt : i < k
          · obtain ⟨b, o, Ai, ci, rfl, hb, ⟨k0, k1, k2, k3, k4⟩, hL⟩ := H.out.cells hH.out hlt
            have i1 : (i : Int) < (k : Int) := by omega
            have ti : decide (i < k) = true := by simp [hlt]
            have HL := hid hL; have HLT := hid hlt
            have HOi : Hid (ch i).ok := by have := HO.out; unfold T.ok at this; exact this.2.2.2.2 i hlt
            have HZi : Hid ((ch i).size ≤ 100000) := Nat.le_trans (T.size_ch hlt) HSZ.out
            have HPS := hid (pre_succ 4 s true k ch i)
            have hno : (9223372036854775807 < (pre 4 s true k ch i).length + (ch i).bytes.length) = False := by
              have h1 := pre_le (op := true) (show i + 1 ≤ k by omega) HSZ.out
              rw [HPS.out, List.length_append] at h1
              simp; omega
            have hk2 : (k : Int) < 4611686018427387904 := by have := hk.out; omega
            have HEa := hid ((Mod.refl [] wr).alloc (.cells (itemC (ch i) Ai ci) 47))
            clear hL hlt
            go_wp2_with fail
            refine (HI.out i HOi.out (hpc.out i HLT.out) HZi.out Ai ci _ (HL.out.ext HEa.out)).mono ?_
            rintro e w3 ⟨rfl, hb3⟩
            have HE3 := hid ((hH.out.trans HEa.out).trans hb3)
            clear hb3
            go_wp2_with fail
            have hlt := HLT.out
            refine ⟨⟨i + 1, by omega, by simp, by rw [HPS.out]; exact str_app _ _, (show Hid _ from HE3.out)⟩, ?_⟩
            simp only [intOf]; omega
          · obtain rfl : i = k := by omega
            have ti : decide (i < i) = false := by simp
            have HPE := hid (pre_end (n := n) (s := s) (op := true) (k := i) (ch := ch))
            have hno : (9223372036854775807 < (pre 4 s true i ch i).length + 1) = False := by have := HP.out; simp; omega
            go_wp2_with fail
            go_ret
            exact Ret.mk (by rw [HPE.out]; exact str_app _ [255]) hH.out

/-- What Build hands back. -/
def buildV (t : T) : Value := if t.right 8 then .tuple #[str t.bytes, .int .i64 0] else .tuple #[str [], .int .i64 1]
set_option maxRecDepth 20000 in
set_option maxHeartbeats 1600000 in
theorem iBuild_any (t : T) (hok : t.ok) (hsz : t.size ≤ 100000) (A : Option Addr) (c : Nat) (w : World) (h : IsL w (fun _ => True) t A) :
    Calls Tryz.prog 37 #[itemV t A c] w (Ret (buildV t) w) := by
  have H := hid h; have HO := hid hok; have HS := hid hsz
  have HB : Hid (Blk (w.alloc (.cells (itemC t A c) 47)) w.heap.size 47 (itemC t A c)) := Blk.new _ _ _
  have HE0 := hid ((Mod.refl [] w).alloc (.cells (itemC t A c) 47))
  have HPL : Hid (t.right 8 = true → t.plain = true) := fun h => by rw [T.right_eq] at h; simp at h; exact h.2
  clear h hok hsz
  go_enter Tryz.func37, Tryz.ntmps37
  go_wp2_with fail
  refine (iRight_any t HO.out A c _ (H.out.ext HE0.out)).mono ?_
  rintro e w2 ⟨rfl, hb2⟩
  have HE2 := hid (HE0.out.trans hb2)
  have hB2 := HB.out.ext hb2
  have c0 : w2.cell? ⟨w.heap.size, 0, none⟩ = some (.int .i64 t.kind) := hB2.cell 0
  have c1 : w2.cell? ⟨w.heap.size, 1, none⟩ = some (.int .u64 (t.n : Int)) := hB2.cell 1
  have c2 : w2.cell? ⟨w.heap.size, 2, none⟩ = some (str t.s) := hB2.cell 2
  have c3 : w2.cell? ⟨w.heap.size, 3, none⟩ = some (.slice A t.k c) := hB2.cell 3
  have c4 : w2.cell? ⟨w.heap.size, 4, none⟩ = some (.bool t.op) := hB2.cell 4
  clear hb2 hB2
  cases hr : t.right 8
  · have HR := hid hr
    clear hr
    go_wp2_with fail
    go_ret2
    exact Ret.mk (by rw [buildV, HR.out]; rfl) HE2.out
  · have HR := hid hr
    clear hr
    go_wp2_with fail
    refine (build_any t HO.out (HPL.out HR.out) HS.out A c _ (H.out.ext HE2.out)).mono ?_
    rintro e w3 ⟨rfl, hb3⟩
    go_wp2_with fail
    go_ret2
    exact Ret.mk (by rw [buildV, HR.out]; rfl) (HE2.out.trans hb3)
end Go.Proofs.YtblfmokklfhklaaGreatDoor


namespace Go.Proofs.YtblfmokklfhklaaGreatDoor
open Go.RowKit
set_option linter.unusedVariables false
set_option linter.unusedSimpArgs false

theorem EV.ok_cases {e : EV} (h : e.ok = true) : (e = ⟨1, [110, 111, 110, 101], 0, 0⟩) ∨ (∃ name, e = ⟨1, name, 0, 0⟩ ∧ name ≠ [110, 111, 110, 101] ∧ name.length ≤ 60) ∨ (∃ node svc, e = ⟨2, [], node, svc⟩ ∧ node ≤ 4294967295 ∧ svc ≤ 4294967295) := by
  obtain ⟨sch, name, node, svc⟩ := e
  unfold EV.ok at h
  simp only [] at h
  by_cases h1 : sch = 1
  · rw [if_pos h1] at h
    simp only [Bool.and_eq_true, decide_eq_true_eq] at h
    obtain ⟨⟨rfl, rfl⟩, hn⟩ := h
    subst h1
    by_cases h0 : name = [110, 111, 110, 101]
    · subst h0; exact .inl rfl
    · refine .inr (.inl ⟨name, rfl, h0, ?_⟩)
      have h00 : ¬ name = noneL := h0
      simp only [namedL, h00, decide_false, Bool.false_or, Bool.and_eq_true, decide_eq_true_eq] at hn
      by_cases hl : name.length ≤ 60
      · exact hl
      · exfalso
        apply hn.1
        unfold nodeN
        rw [if_neg (fun h => hl h.2)]
  · rw [if_neg h1] at h
    by_cases h2 : sch = 2
    · rw [if_pos h2] at h
      simp only [Bool.and_eq_true, decide_eq_true_eq] at h
      obtain ⟨⟨rfl, ha⟩, hb⟩ := h
      subst h2
      exact .inr (.inr ⟨node, svc, rfl, ha, hb⟩)
    · rw [if_neg h2] at h
      cases h
theorem eidItem_ok (e : EV) (ho : e.ok = true) (w : World) : Calls Tryz.prog 64 #[e.v] w (fun r w' => ∃ A, r = .returned (.tuple #[itemV (eidT e) A 2, .int .i64 0]) ∧ Ext w w' ∧ IsL w' (fun b => w.heap.size ≤ b) (eidT e) A) := by
  rcases EV.ok_cases ho with rfl | ⟨name, rfl, hn, hl⟩ | ⟨node, svc, rfl, ha, hb⟩
  · exact eidItem_none w
  · exact eidItem_dtn name (by unfold Hid; omega) hn ho w
  · have e1 : eidT ⟨2, [], node, svc⟩ = ipnT node svc := rfl
    rw [e1]
    exact eidItem_ipn node svc ha hb w
theorem text_ok {s : List UInt8} (h : s.length < 4611686018427387904) : (textT s).ok := by unfold textT T.ok; exact ⟨by omega, by omega, h, by omega, fun i hi => by omega⟩
theorem eidT_ok {e : EV} (ho : e.ok = true) : (eidT e).ok ∧ (∀ d, 3 ≤ d → (eidT e).right d = true) ∧ (eidT e).plain = true ∧ (eidT e).size ≤ 100000 := by
  rcases EV.ok_cases ho with rfl | ⟨name, rfl, hn, hl⟩ | ⟨node, svc, rfl, ha, hb⟩
  · refine ⟨?_, fun d hd => ?_, by decide, by decide⟩
    · unfold eidT T.ok
      exact ⟨by omega, by omega, by simp, by omega, fun i hi => by dsimp only; split; exact num_ok (by decide); exact num_ok (by decide)⟩
    · have h1 : ¬ d < 1 := by omega
      have h2 : ¬ d - 1 < 1 := by omega
      simp [eidT, twoT, noneL, T.right, h1, h2, T.node, T.all, numT]
  · have h0 : ¬ name = noneL := hn
    have e1 : twoT ⟨1, name, 0, 0⟩ = textT name := by simp [twoT, h0]
    refine ⟨?_, fun d hd => ?_, ?_, ?_⟩
    · unfold eidT T.ok
      exact ⟨by omega, by omega, by simp, by omega, fun i hi => by dsimp only; split; exact num_ok (by decide); rw [e1]; exact text_ok (by omega)⟩
    · have h1 : ¬ d < 1 := by omega
      have h2 : ¬ d - 1 < 1 := by omega
      simp [eidT, e1, T.right, h1, h2, T.node, T.all, numT, textT]
    · simp [eidT, e1, T.plain, T.node, T.all, numT, textT]
    · simp [eidT, e1, T.size, T.sum, numT, textT]; omega
  · refine ⟨?_, fun d hd => ?_, ?_, ?_⟩
    · unfold eidT T.ok
      refine ⟨by omega, by omega, by simp, by omega, fun i hi => ?_⟩
      dsimp only
      split
      · exact num_ok (by decide)
      · show (T.mk 4 0 [] false 2 (fun j => if j = 0 then numT node else numT svc)).ok
        unfold T.ok
        exact ⟨by omega, by omega, by simp, by omega, fun i hi => by dsimp only; split; exact num_ok (by omega); exact num_ok (by omega)⟩
    · have h1 : ¬ d < 1 := by omega
      have h2 : ¬ d - 1 < 1 := by omega
      have h3 : ¬ d - 1 - 1 < 1 := by omega
      simp [eidT, twoT, T.right, h1, h2, h3, T.node, T.all, numT]
    · simp [eidT, twoT, T.plain, T.node, T.all, numT]
    · simp [eidT, twoT, T.size, T.sum, numT]

theorem two_IsL {W : World} {Q : Nat → Prop} {g : Nat} (t0 t1 : T) (A0 A1 : Option Addr) (c0 c1 : Nat) (q : Q g)
    (h : Blk W g 47 #[.int .i64 t0.kind, .int .u64 (t0.n : Int), str t0.s, .slice A0 t0.k c0, .bool t0.op, .int .i64 t1.kind, .int .u64 (t1.n : Int), str t1.s, .slice A1 t1.k c1, .bool t1.op]) (h0 : IsL W Q t0 A0) (h1 : IsL W Q t1 A1) : IsL W Q (T.mk 4 0 [] false 2 fun i => if i = 0 then t0 else t1) (some ⟨g, 0, none⟩) := fun _ => ⟨g, 0, rfl, h.lt, q, fun i hi => by
  have hi2 : i = 0 ∨ i = 1 := by omega
  rcases hi2 with rfl | rfl
  · exact ⟨A0, c0, ⟨h.cell 0, h.cell 1, h.cell 2, h.cell 3, h.cell 4⟩, h0⟩
  · exact ⟨A1, c1, ⟨h.cell 5, h.cell 6, h.cell 7, h.cell 8, h.cell 9⟩, h1⟩⟩
theorem leaf_IsL {W : World} {Q : Nat → Prop} {t : T} {A : Option Addr} (h : t.k = 0) (hn : t ≠ T.nil) : IsL W Q t A := by
  cases t with
  | nil => exact absurd rfl hn
  | mk kind n s op k ch => intro h0; have : k = 0 := h; omega

set_option maxRecDepth 20000 in
set_option maxHeartbeats 1600000 in
theorem r10Item_none (w : World) : Calls Tryz.prog 26 #[EV.v ⟨1, [110, 111, 110, 101], 0, 0⟩] w (fun r w' => ∃ A, r = .returned (itemV (eidT ⟨1, [110, 111, 110, 101], 0, 0⟩) A 2) ∧ Ext w w' ∧ IsL w' (fun b => w.heap.size ≤ b) (eidT ⟨1, [110, 111, 110, 101], 0, 0⟩) A) := by
  go_enter Tryz.func26, Tryz.ntmps26
  go_wp2_with fail
  refine bodyPost_ret (v := itemV (eidT ⟨1, [110, 111, 110, 101], 0, 0⟩) (some ⟨w.heap.size + 1 + 1 + 1, 0, none⟩) 2) (by simp [results, Tryz.results26, go_sem]; exact ⟨rfl, rfl, rfl, rfl, rfl⟩) rfl ?_
  refine ⟨_, rfl, ((((Mod.refl _ _).alloc _).alloc _).alloc _).alloc _, ?_⟩
  exact two_IsL (numT 1) (numT 0) none none 0 0 (show w.heap.size ≤ w.heap.size + 1 + 1 + 1 by omega) (Blk.new' _ _ _ (by simp)) (leaf_IsL rfl (by simp [numT])) (leaf_IsL rfl (by simp [numT]))
set_option maxRecDepth 20000 in
set_option maxHeartbeats 1600000 in
theorem r10Item_dtn (name : List UInt8) (hn : name ≠ [110, 111, 110, 101]) (w : World) : Calls Tryz.prog 26 #[EV.v ⟨1, name, 0, 0⟩] w (fun r w' => ∃ A, r = .returned (itemV (eidT ⟨1, name, 0, 0⟩) A 2) ∧ Ext w w' ∧ IsL w' (fun b => w.heap.size ≤ b) (eidT ⟨1, name, 0, 0⟩) A) := by
  have h0 : ¬ name = noneL := hn
  have e1 : eidT ⟨1, name, 0, 0⟩ = T.mk 4 0 [] false 2 fun i => if i = 0 then numT 1 else textT name := by simp [eidT, twoT, h0]
  rw [e1]
  have n1 : (name == [110, 111, 110, 101]) = false := by simpa using hn
  have n2 : (name = [110, 111, 110, 101]) = False := by simpa using hn
  have n3 : (name != [110, 111, 110, 101]) = true := by simpa using hn
  clear e1 h0 hn
  go_enter Tryz.func26, Tryz.ntmps26
  go_wp2_with fail
  refine bodyPost_ret (v := itemV (T.mk 4 0 [] false 2 fun i => if i = 0 then numT 1 else textT name) (some ⟨w.heap.size + 1 + 1 + 1, 0, none⟩) 2) (by simp [results, Tryz.results26, go_sem]; exact ⟨rfl, rfl, rfl, rfl, rfl⟩) rfl ?_
  refine ⟨_, rfl, ((((Mod.refl _ _).alloc _).alloc _).alloc _).alloc _, ?_⟩
  exact two_IsL (numT 1) (textT name) none none 0 0 (show w.heap.size ≤ w.heap.size + 1 + 1 + 1 by omega) (Blk.new' _ _ _ (by simp)) (leaf_IsL rfl (by simp [numT])) (leaf_IsL rfl (by simp [textT]))
set_option maxRecDepth 20000 in
set_option maxHeartbeats 1600000 in
theorem r10Item_ipn (node svc : Nat) (w : World) : Calls Tryz.prog 26 #[EV.v ⟨2, [], node, svc⟩] w (fun r w' => ∃ A, r = .returned (itemV (eidT ⟨2, [], node, svc⟩) A 2) ∧ Ext w w' ∧ IsL w' (fun b => w.heap.size ≤ b) (eidT ⟨2, [], node, svc⟩) A) := by
  go_enter Tryz.func26, Tryz.ntmps26
  go_wp2_with fail
  refine bodyPost_ret (v := itemV (eidT ⟨2, [], node, svc⟩) (some ⟨w.heap.size + 1 + 1 + 1 + 1, 0, none⟩) 2) (by simp [results, Tryz.results26, go_sem]; exact ⟨rfl, rfl, rfl, rfl, rfl⟩) rfl ?_
  refine ⟨_, rfl, (((((Mod.refl _ _).alloc _).alloc _).alloc _).alloc _).alloc _, ?_⟩
  refine two_IsL (numT 2) (T.mk 4 0 [] false 2 (fun j => if j = 0 then numT node else numT svc)) none (some ⟨w.heap.size + 1 + 1 + 1, 0, none⟩) 0 2 (show w.heap.size ≤ w.heap.size + 1 + 1 + 1 + 1 by omega) (Blk.new' _ _ _ (by simp)) (leaf_IsL rfl (by simp [numT])) ?_
  exact two_IsL (numT node) (numT svc) none none 0 0 (show w.heap.size ≤ w.heap.size + 1 + 1 + 1 by omega) ((Blk.new' _ _ _ (by simp)).alloc _) (leaf_IsL rfl (by simp [numT])) (leaf_IsL rfl (by simp [numT]))
theorem r10Item_ok (e : EV) (ho : e.ok = true) (w : World) : Calls Tryz.prog 26 #[e.v] w (fun r w' => ∃ A, r = .returned (itemV (eidT e) A 2) ∧ Ext w w' ∧ IsL w' (fun b => w.heap.size ≤ b) (eidT e) A) := by
  rcases EV.ok_cases ho with rfl | ⟨name, rfl, hn, hl⟩ | ⟨node, svc, rfl, ha, hb⟩
  · exact r10Item_none w
  · exact r10Item_dtn name hn w
  · exact r10Item_ipn node svc w
end Go.Proofs.YtblfmokklfhklaaGreatDoor


namespace Go.Proofs.YtblfmokklfhklaaGreatDoor
set_option linter.unusedVariables false
set_option linter.unusedSimpArgs false
namespace Crc

/-- So many bits about. -/
def rv : Nat → Nat → Nat
  | 0, _ => 0
  | n + 1, x => 2 ^ n * (x % 2) + rv n (x / 2)
theorem rv_lt : ∀ (n x : Nat), rv n x < 2 ^ n
  | 0, _ => by simp [rv]
  | n + 1, x => by
    have h := rv_lt n (x / 2)
    have h2 : x % 2 < 2 := Nat.mod_lt _ (by omega)
    have : x % 2 = 0 ∨ x % 2 = 1 := by omega
    unfold rv
    rcases this with e | e <;> rw [e, Nat.pow_succ] <;> omega
theorem rv_bit : ∀ (n x i : Nat), (rv n x).testBit i = (decide (i < n) && x.testBit (n - 1 - i))
  | 0, x, i => by simp [rv]
  | n + 1, x, i => by
    have h := rv_bit n (x / 2) i
    have hl := rv_lt n (x / 2)
    unfold rv
    rw [Nat.testBit_two_pow_mul_add _ hl]
    by_cases hi : i < n
    · rw [if_pos hi, h]
      have e : n + 1 - 1 - i = (n - 1 - i) + 1 := by omega
      rw [e, Nat.testBit_succ]
      simp [hi, Nat.lt_succ_of_lt hi]
    · rw [if_neg hi]
      by_cases hin : i = n
      · subst hin
        simp [Nat.testBit_zero]
      · have h1 : ¬ i < n + 1 := by omega
        have h3 : i - n = (i - n - 1) + 1 := by omega
        have h4 : x % 2 / 2 = 0 := by omega
        simp only [h1, decide_false, Bool.false_and]
        rw [h3, Nat.testBit_succ, h4, Nat.zero_testBit]
theorem rv_xor (n x y : Nat) : rv n (x ^^^ y) = rv n x ^^^ rv n y := by
  apply Nat.eq_of_testBit_eq
  intro i
  rw [Nat.testBit_xor, rv_bit, rv_bit, rv_bit, Nat.testBit_xor]
  cases decide (i < n) <;> simp
theorem rv_rv (n x : Nat) (h : x < 2 ^ n) : rv n (rv n x) = x := by
  apply Nat.eq_of_testBit_eq
  intro i
  rw [rv_bit, rv_bit]
  by_cases hi : i < n
  · have e : n - 1 - (n - 1 - i) = i := by omega
    have e2 : n - 1 - i < n := by omega
    simp [hi, e, e2]
  · have : x < 2 ^ i := Nat.lt_of_lt_of_le h (Nat.pow_le_pow_right (by omega) (by omega))
    simp [hi, Nat.testBit_lt_two_pow this]
theorem rv_high (m x : Nat) : rv (m + 1) x / 2 ^ m = x % 2 := by
  unfold rv
  rw [Nat.mul_add_div (Nat.two_pow_pos m), Nat.div_eq_of_lt (rv_lt m _)]
  omega
theorem rv_half (m x : Nat) (h : x < 2 ^ (m + 1)) : rv (m + 1) (x / 2) = rv (m + 1) x * 2 % 2 ^ (m + 1) := by
  apply Nat.eq_of_testBit_eq
  intro i
  rw [rv_bit, Nat.testBit_mod_two_pow, ← Nat.testBit_succ]
  cases i with
  | zero =>
    have e : (m + 1 - 1 - 0).succ = m + 1 := by omega
    rw [e, Nat.testBit_lt_two_pow h]
    simp [Nat.testBit_zero]
  | succ i =>
    have t : (rv (m + 1) x * 2).testBit (i + 1) = (rv (m + 1) x).testBit i := by rw [Nat.testBit_succ, Nat.mul_div_cancel _ (by omega : 0 < 2)]
    rw [t, rv_bit]
    by_cases hi : i + 1 < m + 1
    · have e : (m + 1 - 1 - (i + 1)).succ = m + 1 - 1 - i := by omega
      have h2 : i < m + 1 := by omega
      simp only [hi, h2, e, decide_true, Bool.true_and]
    · simp [hi]

/-- The code's step, its byte, its row. -/
def stepC (p s : Nat) : Nat := if s % 2 = 1 then s / 2 ^^^ p else s / 2
def stepsC (p : Nat) : Nat → Nat → Nat
  | 0, s => s
  | k + 1, s => stepsC p k (stepC p s)
def divC (p : Nat) (s : Nat) (l : List UInt8) : Nat := l.foldl (fun s c => stepsC p 8 (s ^^^ c.toNat)) s
/-- The same step, with a bit of the row. -/
def stepB (p s b : Nat) : Nat := if s % 2 = b then s / 2 else s / 2 ^^^ p
def stepsB (p : Nat) : Nat → Nat → Nat → Nat
  | 0, s, _ => s
  | k + 1, s, c => stepsB p k (stepB p s (c % 2)) (c / 2)
/-- The reference's step, its byte, its row. -/
def stepR (top d r b : Nat) : Nat := if r / (top / 2) = b then r * 2 % top else (r * 2 % top) ^^^ d
def stepsR (top d : Nat) : Nat → Nat → Nat → Nat
  | 0, r, _ => r
  | k + 1, r, c => stepsR top d k (stepR top d r (c % 2)) (c / 2)
def divR (top d : Nat) (r : Nat) (l : List UInt8) : Nat := l.foldl (fun r c => stepsR top d 8 r c.toNat) r

theorem xor_mod (a b : Nat) : (a ^^^ b) % 2 = if a % 2 = b % 2 then 0 else 1 := by
  have h := Nat.testBit_xor a b 0
  simp only [Nat.testBit_zero] at h
  rcases Nat.mod_two_eq_zero_or_one a with ha | ha <;> rcases Nat.mod_two_eq_zero_or_one b with hb | hb <;> rcases Nat.mod_two_eq_zero_or_one (a ^^^ b) with hab | hab <;> simp [ha, hb, hab] at h ⊢
theorem xor_half (a b : Nat) : (a ^^^ b) / 2 = a / 2 ^^^ b / 2 := by
  apply Nat.eq_of_testBit_eq
  intro i
  rw [← Nat.testBit_succ, Nat.testBit_xor, Nat.testBit_xor, ← Nat.testBit_succ, ← Nat.testBit_succ]
theorem stepC_xor (p s c : Nat) : stepC p (s ^^^ c) = stepB p s (c % 2) ^^^ (c / 2) := by
  unfold stepC stepB
  rw [xor_mod, xor_half]
  by_cases h : s % 2 = c % 2
  · simp [h]
  · simp only [h, if_false, if_true]
    rw [Nat.xor_assoc, Nat.xor_comm (c / 2), ← Nat.xor_assoc]
theorem stepsC_xor (p : Nat) : ∀ (k s c : Nat), stepsC p k (s ^^^ c) = stepsB p k s c ^^^ (c / 2 ^ k)
  | 0, s, c => by simp [stepsC, stepsB]
  | k + 1, s, c => by
    show stepsC p k (stepC p (s ^^^ c)) = stepsB p k (stepB p s (c % 2)) (c / 2) ^^^ (c / 2 ^ (k + 1))
    rw [stepC_xor, stepsC_xor p k, Nat.div_div_eq_div_mul, Nat.pow_succ, Nat.mul_comm]
theorem stepB_lt {m p s b : Nat} (hp : p < 2 ^ (m + 1)) (hs : s < 2 ^ (m + 1)) : stepB p s b < 2 ^ (m + 1) := by
  unfold stepB
  split
  · omega
  · exact Nat.xor_lt_two_pow (by omega) hp
theorem stepsB_lt {m p : Nat} (hp : p < 2 ^ (m + 1)) : ∀ (k s c : Nat), s < 2 ^ (m + 1) → stepsB p k s c < 2 ^ (m + 1)
  | 0, s, c, h => h
  | k + 1, s, c, h => stepsB_lt hp k _ _ (stepB_lt hp h)
theorem stepR_rv {m p s b : Nat} (hs : s < 2 ^ (m + 1)) : stepR (2 ^ (m + 1)) (rv (m + 1) p) (rv (m + 1) s) b = rv (m + 1) (stepB p s b) := by
  have e : 2 ^ (m + 1) / 2 = 2 ^ m := by rw [Nat.pow_succ]; omega
  unfold stepR stepB
  rw [e, rv_high]
  split
  · rw [rv_half m s hs]
  · rw [rv_xor, rv_half m s hs]
theorem stepsR_rv {m p : Nat} (hp : p < 2 ^ (m + 1)) : ∀ (k s c : Nat), s < 2 ^ (m + 1) → stepsR (2 ^ (m + 1)) (rv (m + 1) p) k (rv (m + 1) s) c = rv (m + 1) (stepsB p k s c)
  | 0, s, c, h => rfl
  | k + 1, s, c, h => by
    show stepsR _ _ k (stepR _ _ _ _) _ = rv _ (stepsB p k (stepB p s _) _)
    rw [stepR_rv h]
    exact stepsR_rv hp k _ _ (stepB_lt hp h)
theorem byte_rv {m p s : Nat} (hp : p < 2 ^ (m + 1)) (hs : s < 2 ^ (m + 1)) (c : UInt8) :
    stepsR (2 ^ (m + 1)) (rv (m + 1) p) 8 (rv (m + 1) s) c.toNat = rv (m + 1) (stepsC p 8 (s ^^^ c.toNat)) ∧ stepsC p 8 (s ^^^ c.toNat) < 2 ^ (m + 1) := by
  have h0 : c.toNat / 2 ^ 8 = 0 := Nat.div_eq_of_lt c.toNat_lt
  have h := stepsC_xor p 8 s c.toNat
  rw [h0, Nat.xor_zero] at h
  rw [h]
  exact ⟨stepsR_rv hp 8 s _ hs, stepsB_lt hp 8 s _ hs⟩
theorem div_rv {m p : Nat} (hp : p < 2 ^ (m + 1)) : ∀ (l : List UInt8) (s : Nat), s < 2 ^ (m + 1) → divR (2 ^ (m + 1)) (rv (m + 1) p) (rv (m + 1) s) l = rv (m + 1) (divC p s l) ∧ divC p s l < 2 ^ (m + 1)
  | [], s, h => ⟨rfl, h⟩
  | c :: l, s, h => by
    have hb := byte_rv hp h c
    have ih := div_rv hp l _ hb.2
    unfold divR divC at ih ⊢
    simp only [List.foldl_cons]
    rw [hb.1]
    exact ih
theorem not_xor {n x : Nat} (h : x < 2 ^ n) : 2 ^ n - 1 - x = (2 ^ n - 1) ^^^ x := by
  apply Nat.eq_of_testBit_eq
  intro i
  have e : 2 ^ n - 1 - x = 2 ^ n - (x + 1) := by omega
  rw [e, Nat.testBit_two_pow_sub_succ h, Nat.testBit_xor, Nat.testBit_two_pow_sub_one]
  by_cases hi : i < n
  · simp [hi]
  · have : x < 2 ^ i := Nat.lt_of_lt_of_le h (Nat.pow_le_pow_right (by omega) (by omega))
    simp [hi, Nat.testBit_lt_two_pow this]
theorem rv_ones (n : Nat) : rv n (2 ^ n - 1) = 2 ^ n - 1 := by
  apply Nat.eq_of_testBit_eq
  intro i
  rw [rv_bit, Nat.testBit_two_pow_sub_one, Nat.testBit_two_pow_sub_one]
  by_cases hi : i < n
  · have : n - 1 - i < n := by omega
    simp [hi, this]
  · simp [hi]
/-- The two sums. -/
theorem sums {m p : Nat} (hp : p < 2 ^ (m + 1)) (l : List UInt8) :
    rv (m + 1) (2 ^ (m + 1) - 1 - divR (2 ^ (m + 1)) (rv (m + 1) p) (2 ^ (m + 1) - 1) l) = 2 ^ (m + 1) - 1 - divC p (2 ^ (m + 1) - 1) l := by
  have h0 : 2 ^ (m + 1) - 1 < 2 ^ (m + 1) := by have := Nat.two_pow_pos (m + 1); omega
  have h := div_rv hp l (2 ^ (m + 1) - 1) h0
  rw [rv_ones] at h
  rw [h.1, not_xor (rv_lt _ _), rv_xor, rv_ones, rv_rv _ _ h.2, ← not_xor h.2]
end Crc
end Go.Proofs.YtblfmokklfhklaaGreatDoor


namespace Go.Proofs.YtblfmokklfhklaaGreatDoor
open Go.RowKit
set_option linter.unusedVariables false
set_option linter.unusedSimpArgs false

/-- An array of these items. -/
def listT (L : List T) : T := T.mk 4 0 [] false L.length fun i => (L[i]?).getD T.nil
theorem catR_list (g : T → List UInt8) : ∀ L : List T, T.catR (fun i => g ((L[i]?).getD T.nil)) L.length = (L.map g).flatten
  | [] => rfl
  | x :: L => by
    rw [List.length_cons, T.catR, List.map_cons, List.flatten_cons, ← catR_list g L]
    rfl
theorem listT_bytes (L : List T) : (listT L).bytes = headL 4 L.length ++ (L.map T.bytes).flatten := by
  unfold listT
  rw [T.bytes, if_neg (by decide), if_neg (by decide), T.cat_eq, catR_list]
  simp
theorem getD_mem {L : List T} {i : Nat} (h : i < L.length) : (L[i]?).getD T.nil ∈ L := by
  rw [List.getElem?_eq_getElem h]; exact List.getElem_mem h
theorem listT_ok {L : List T} (hl : L.length < 4611686018427387904) (h : ∀ t ∈ L, t.ok) : (listT L).ok := by
  unfold listT T.ok
  exact ⟨by omega, by omega, by simp, hl, fun i hi => h _ (getD_mem hi)⟩
theorem listT_right {L : List T} {d : Nat} (hd : 1 ≤ d) (hl : L.length ≤ 1000) (h : ∀ t ∈ L, t.right (d - 1) = true) : (listT L).right d = true := by
  unfold listT T.right
  rw [if_neg (by omega), Bool.and_eq_true, T.all_iff]
  refine ⟨?_, fun i hi => h _ (getD_mem hi)⟩
  simp [T.node, hl]
theorem sum_le_each {f : Nat → Nat} {B k : Nat} (h : ∀ i, i < k → f i ≤ B) : T.sum f k ≤ k * B := by
  induction k with
  | zero => simp [T.sum]
  | succ k ih =>
    have := ih (fun i hi => h i (by omega))
    have := h k (by omega)
    rw [T.sum, Nat.succ_mul]; omega
theorem listT_size {L : List T} {B : Nat} (h : ∀ t ∈ L, t.size ≤ B) : (listT L).size ≤ 1 + L.length * B := by
  unfold listT T.size
  have := sum_le_each (f := fun i => ((L[i]?).getD T.nil).size) (B := B) (k := L.length) (fun i hi => h _ (getD_mem hi))
  simp; omega
theorem numT_all (n : Nat) (h : n < 18446744073709551616) : (numT n).ok ∧ (∀ d, 1 ≤ d → (numT n).right d = true) ∧ (numT n).size ≤ 100 ∧ (numT n).bytes = headL 0 n := by
  refine ⟨num_ok h, fun d hd => ?_, by simp [numT, T.size, T.sum], rfl⟩
  unfold numT T.right
  rw [if_neg (by omega)]
  simp [T.node, T.all]
theorem strT_all {s : List UInt8} (h : s.length ≤ 90) : (strT s).ok ∧ (∀ d, 1 ≤ d → (strT s).right d = true) ∧ (strT s).size ≤ 100 ∧ (strT s).bytes = headL 2 s.length ++ s := by
  refine ⟨str_ok (by omega), fun d hd => ?_, ?_, rfl⟩
  · unfold strT T.right
    rw [if_neg (by omega)]
    simp [T.node, T.all]
  · simp [strT, T.size, T.sum]; omega
theorem eidT_small {e : EV} (ho : e.ok = true) : (eidT e).size ≤ 100 := by
  rcases EV.ok_cases ho with rfl | ⟨name, rfl, hn, hl⟩ | ⟨node, svc, rfl, ha, hb⟩
  · decide
  · have h0 : ¬ name = noneL := hn
    have e1 : twoT ⟨1, name, 0, 0⟩ = textT name := by simp [twoT, h0]
    simp [eidT, e1, T.size, T.sum, numT, textT]; omega
  · simp [eidT, twoT, T.size, T.sum, numT]

/- A primary. -/
def PV.ranged (p : PV) : Bool := p.d.ok && (p.s.ok && (p.r.ok && decide (0 ≤ p.crc ∧ p.crc ≤ 2 ∧ p.fl < 2097152 ∧ p.t ≤ 1099511627776 ∧ p.q ≤ 1099511627776 ∧ p.l ≤ 1099511627776 ∧ p.o ≤ 1099511627776 ∧ p.n ≤ 1099511627776)))
def PV.none (p : PV) : Prop := p.s.sch = 1 ∧ p.s.name = noneL
instance (p : PV) : Decidable p.none := by unfold PV.none; infer_instance
def PV.right (p : PV) : Int :=
  if p.ranged = false then 1
  else if (p.fl % 2 = 1 ∧ (p.fl / 4 % 2 = 1 ∨ p.n ≤ p.o)) ∨ (¬ p.fl % 2 = 1 ∧ (0 < p.o ∨ 0 < p.n)) then 8
  else if ((p.fl / 16384 % 2 = 1 ∨ p.fl / 262144 % 2 = 1) ∧ (p.none ∨ p.fl / 2 % 2 = 1)) ∨ (p.none ∧ ¬ p.fl / 4 % 2 = 1) then 8
  else 0
theorem PV.ranged_spec {p : PV} (h : p.ranged = true) : p.d.ok = true ∧ p.s.ok = true ∧ p.r.ok = true ∧ 0 ≤ p.crc ∧ p.crc ≤ 2 ∧ p.fl < 2097152 ∧ p.t ≤ 1099511627776 ∧ p.q ≤ 1099511627776 ∧ p.l ≤ 1099511627776 ∧ p.o ≤ 1099511627776 ∧ p.n ≤ 1099511627776 := by
  unfold PV.ranged at h
  simp only [Bool.and_eq_true, decide_eq_true_eq] at h
  exact ⟨h.1, h.2.1, h.2.2.1, h.2.2.2⟩
theorem PV.right_ranged {p : PV} (h : p.right = 0) : p.ranged = true := by
  unfold PV.right at h
  cases hr : p.ranged with
  | true => rfl
  | false => rw [hr, if_pos rfl] at h; exact absurd h (by decide)
/-- Its items, with a sum. -/
def priL (p : PV) (k : Nat) (sum : List UInt8) : List T :=
  [numT 7, numT p.fl, numT k, eidT p.d, eidT p.s, eidT p.r, listT [numT p.t, numT p.q], numT p.l] ++ ((if p.fl % 2 = 1 then [numT p.o, numT p.n] else []) ++ (if k = 0 then [] else [strT sum]))
def priT (p : PV) (k : Nat) (sum : List UInt8) : T := listT (priL p k sum)
def priN (p : PV) (k : Nat) : Nat := 8 + ((if p.fl % 2 = 1 then 2 else 0) + (if k = 0 then 0 else 1))
theorem priL_length (p : PV) (k : Nat) (sum : List UInt8) : (priL p k sum).length = priN p k := by
  unfold priL priN
  split <;> split <;> simp
/-- Its bytes, with a sum. -/
def priB (p : PV) (k : Nat) (sum : List UInt8) : List UInt8 :=
  headL 4 (priN p k) ++ (headL 0 7 ++ (headL 0 p.fl ++ (headL 0 k ++ ((eidT p.d).bytes ++ ((eidT p.s).bytes ++ ((eidT p.r).bytes ++ (headL 4 2 ++ (headL 0 p.t ++ (headL 0 p.q ++ (headL 0 p.l ++
  ((if p.fl % 2 = 1 then headL 0 p.o ++ headL 0 p.n else []) ++ (if k = 0 then [] else headL 2 sum.length ++ sum))))))))))))
theorem priT_bytes (p : PV) (k : Nat) (sum : List UInt8) : (priT p k sum).bytes = priB p k sum := by
  unfold priT
  rw [listT_bytes, priL_length]
  unfold priL priB
  have e : (listT [numT p.t, numT p.q]).bytes = headL 4 2 ++ (headL 0 p.t ++ headL 0 p.q) := by
    rw [listT_bytes]; simp [show ∀ n, (numT n).bytes = headL 0 n from fun n => rfl]
  by_cases h1 : p.fl % 2 = 1 <;> by_cases h2 : k = 0 <;>
    simp [h1, h2, e, show ∀ n, (numT n).bytes = headL 0 n from fun n => rfl, show ∀ s, (strT s).bytes = headL 2 s.length ++ s from fun s => rfl]
theorem priT_all {p : PV} (h : p.ranged = true) {k : Nat} (hk : k ≤ 2) {sum : List UInt8} (hs : sum.length ≤ 90) : (priT p k sum).ok ∧ (∀ d, 4 ≤ d → (priT p k sum).right d = true) ∧ (priT p k sum).size ≤ 4000 := by
  obtain ⟨h1, h2, h3, h4, h5, h6, h7, h8, h9, h10, h11⟩ := PV.ranged_spec h
  have hm : ∀ t ∈ priL p k sum, t.ok ∧ (∀ d, 3 ≤ d → t.right d = true) ∧ t.size ≤ 350 := by
    intro t ht
    have num : ∀ n, n < 18446744073709551616 → (numT n).ok ∧ (∀ d, 3 ≤ d → (numT n).right d = true) ∧ (numT n).size ≤ 350 := fun n hn => by
      obtain ⟨a, b, c, _⟩ := numT_all n hn
      exact ⟨a, fun d hd => b d (by omega), by omega⟩
    have eid : ∀ e : EV, e.ok = true → (eidT e).ok ∧ (∀ d, 3 ≤ d → (eidT e).right d = true) ∧ (eidT e).size ≤ 350 := fun e he => by
      obtain ⟨a, b, _, _⟩ := eidT_ok he
      exact ⟨a, b, by have := eidT_small he; omega⟩
    unfold priL at ht
    rw [List.mem_append, List.mem_append] at ht
    rcases ht with ht | ht | ht
    · simp only [List.mem_cons, List.not_mem_nil, or_false] at ht
      rcases ht with rfl | rfl | rfl | rfl | rfl | rfl | rfl | rfl
      · exact num 7 (by decide)
      · exact num _ (by omega)
      · exact num _ (by omega)
      · exact eid _ h1
      · exact eid _ h2
      · exact eid _ h3
      · have a := numT_all p.t (by omega)
        have b := numT_all p.q (by omega)
        refine ⟨listT_ok (by simp) ?_, fun d hd => listT_right (by omega) (by simp) ?_, ?_⟩
        · intro t ht
          simp only [List.mem_cons, List.not_mem_nil, or_false] at ht
          rcases ht with rfl | rfl
          · exact a.1
          · exact b.1
        · intro t ht
          simp only [List.mem_cons, List.not_mem_nil, or_false] at ht
          rcases ht with rfl | rfl
          · exact a.2.1 _ (by omega)
          · exact b.2.1 _ (by omega)
        · have := listT_size (L := [numT p.t, numT p.q]) (B := 100) (by
            intro t ht
            simp only [List.mem_cons, List.not_mem_nil, or_false] at ht
            rcases ht with rfl | rfl
            · exact a.2.2.1
            · exact b.2.2.1)
          simp at this
          omega
      · exact num _ (by omega)
    · split at ht
      · simp only [List.mem_cons, List.not_mem_nil, or_false] at ht
        rcases ht with rfl | rfl
        · exact num _ (by omega)
        · exact num _ (by omega)
      · cases ht
    · split at ht
      · cases ht
      · simp only [List.mem_cons, List.not_mem_nil, or_false] at ht
        subst ht
        obtain ⟨a, b, c, _⟩ := strT_all hs
        exact ⟨a, fun d hd => b d (by omega), by omega⟩
  have hl : (priL p k sum).length ≤ 11 := by rw [priL_length]; unfold priN; split <;> split <;> omega
  refine ⟨listT_ok (by omega) fun t ht => (hm t ht).1, fun d hd => listT_right (by omega) (by omega) fun t ht => (hm t ht).2.1 _ (by omega), ?_⟩
  have := listT_size (L := priL p k sum) (B := 350) fun t ht => (hm t ht).2.2
  have h2 : (priL p k sum).length * 350 ≤ 11 * 350 := Nat.mul_le_mul_right _ hl
  show (listT (priL p k sum)).size ≤ 4000
  omega
/-- A number's bytes, as the first is the greatest. -/
def PV.sumK (f : Nat → List UInt8 → List UInt8) (p : PV) (k : Nat) : List UInt8 := if k = 0 then [] else f k (priB p k (List.replicate (2 * k) 0))
end Go.Proofs.YtblfmokklfhklaaGreatDoor


namespace Go.Proofs.YtblfmokklfhklaaGreatDoor
set_option linter.unusedVariables false
set_option linter.unusedSimpArgs false

/-- An ID and a value; a list of them; a security text. -/
structure PR where
  id : Int
  t : T
structure PL where
  k : Nat
  a : Nat → PR
structure AV where
  tk : Nat
  tg : Nat → Int
  ctx : Int
  src : EV
  ps : PL
  rk : Nat
  rs : Nat → PL
def codedB (n : Int) : Bool := decide (0 ≤ n) && decide (n ≤ 65535)
def unlikeB (f : Nat → Int) (k : Nat) : Bool := T.all (fun i => codedB (f i) && T.all (fun j => decide (f j ≠ f i)) i) k
def valB (t : T) : Bool := (decide (t.kind = 0) || decide (t.kind = 2)) && t.right 8
def pairsB (p : PL) : Bool := T.all (fun i => valB (p.a i).t) p.k && unlikeB (fun i => (p.a i).id) p.k
def resB (p : PL) : Bool := decide (1 ≤ p.k) && decide (p.k ≤ 4) && pairsB p
def AV.shaped (a : AV) : Bool := (decide (1 ≤ a.tk) && decide (a.tk ≤ 16) && unlikeB a.tg a.tk && codedB a.ctx && a.src.ok) && (decide (a.ps.k ≤ 8) && pairsB a.ps && decide (a.rk = a.tk)) && T.all (fun i => resB (a.rs i)) a.rk
/-- The items. -/
def pairT (p : PR) : T := listT [numT p.id.toNat, p.t]
def plT (p : PL) : T := .mk 4 0 [] false p.k fun i => pairT (p.a i)
def tgT (k : Nat) (f : Nat → Int) : T := .mk 4 0 [] false k fun i => numT (f i).toNat
def rsT (k : Nat) (f : Nat → PL) : T := .mk 4 0 [] false k fun i => plT (f i)
def AV.items (a : AV) : List T := if a.ps.k = 0 then [tgT a.tk a.tg, numT a.ctx.toNat, numT 0, eidT a.src, rsT a.rk a.rs] else [tgT a.tk a.tg, numT a.ctx.toNat, numT 1, eidT a.src, plT a.ps, rsT a.rk a.rs]
def AV.bytes (a : AV) : List UInt8 := (a.items.map T.bytes).flatten
def AV.right (a : AV) : Bool := a.shaped && decide (a.bytes.length ≤ 4000)
/-- Numbers are a machine's; texts are not too long. -/
def PL.wf (p : PL) : Prop := p.k < 4611686018427387904 ∧ ∀ i, i < p.k → (p.a i).t.ok ∧ (-9223372036854775808 ≤ (p.a i).id ∧ (p.a i).id ≤ 9223372036854775807)
def AV.wf (a : AV) : Prop := (a.tk < 4611686018427387904 ∧ ∀ i, i < a.tk → -9223372036854775808 ≤ a.tg i ∧ a.tg i ≤ 9223372036854775807) ∧ (-9223372036854775808 ≤ a.ctx ∧ a.ctx ≤ 9223372036854775807) ∧ a.src.name.length < 4611686018427387904 ∧ a.ps.wf ∧ a.rk < 4611686018427387904 ∧ ∀ i, i < a.rk → (a.rs i).wf
def AV.small (a : AV) : Prop := (plT a.ps).size ≤ 100000 ∧ (rsT a.rk a.rs).size ≤ 100000

theorem codedB_iff {n : Int} : codedB n = true ↔ 0 ≤ n ∧ n ≤ 65535 := by simp [codedB]
theorem unlikeB_coded {f : Nat → Int} {k : Nat} (h : unlikeB f k = true) : ∀ i, i < k → 0 ≤ f i ∧ f i ≤ 65535 := fun i hi => by
  have := T.all_iff.1 h i hi
  rw [Bool.and_eq_true] at this
  exact codedB_iff.1 this.1
theorem valB_right {t : T} (h : valB t = true) : t.right 8 = true := by
  unfold valB at h
  rw [Bool.and_eq_true] at h
  exact h.2
/-- A right value has no items: it is right at any depth. -/
theorem valB_deep {t : T} (h : valB t = true) : ∀ d, 1 ≤ d → t.right d = true := by
  intro d hd
  unfold valB at h
  cases t with
  | nil => simp [T.right] at h
  | mk kind n s op k ch =>
    rw [Bool.and_eq_true, Bool.or_eq_true] at h
    obtain ⟨h1, h2⟩ := h
    have h1 : kind = 0 ∨ kind = 2 := h1.elim (fun h => .inl (of_decide_eq_true h)) (fun h => .inr (of_decide_eq_true h))
    unfold T.right at h2 ⊢
    rw [if_neg (by omega), Bool.and_eq_true] at h2
    rw [if_neg (by omega), Bool.and_eq_true]
    refine ⟨h2.1, ?_⟩
    have hk : k = 0 := by
      have h3 := h2.1
      unfold T.node at h3
      rcases h1 with rfl | rfl
      · simp at h3; omega
      · simp at h3; omega
    subst hk
    rfl
theorem pair_right {p : PR} {d : Nat} (hd : 2 ≤ d) (hi : 0 ≤ p.id ∧ p.id ≤ 65535) (h : valB p.t = true) : (pairT p).right d = true := by
  refine listT_right (by omega) (by simp) fun t ht => ?_
  simp only [List.mem_cons, List.not_mem_nil, or_false] at ht
  rcases ht with rfl | rfl
  · exact (numT_all _ (by omega)).2.1 _ (by omega)
  · exact valB_deep h _ (by omega)
theorem pair_ok {p : PR} (hi : 0 ≤ p.id ∧ p.id ≤ 65535) (h : p.t.ok) : (pairT p).ok := by
  refine listT_ok (by simp) fun t ht => ?_
  simp only [List.mem_cons, List.not_mem_nil, or_false] at ht
  rcases ht with rfl | rfl
  · exact num_ok (by omega)
  · exact h
theorem pairsB_iff {p : PL} : pairsB p = true ↔ (∀ i, i < p.k → valB (p.a i).t = true) ∧ unlikeB (fun i => (p.a i).id) p.k = true := by
  unfold pairsB
  rw [Bool.and_eq_true, T.all_iff]
theorem pl_right {p : PL} {d : Nat} (hd : 3 ≤ d) (hk : p.k ≤ 1000) (h : pairsB p = true) : (plT p).right d = true := by
  obtain ⟨h1, h2⟩ := pairsB_iff.1 h
  unfold plT T.right
  rw [if_neg (by omega), Bool.and_eq_true, T.all_iff]
  exact ⟨by simp [T.node, hk], fun i hi => pair_right (by omega) (unlikeB_coded h2 i hi) (h1 i hi)⟩
theorem pl_ok {p : PL} (hw : p.wf) (h : pairsB p = true) : (plT p).ok := by
  obtain ⟨h1, h2⟩ := pairsB_iff.1 h
  unfold plT T.ok
  exact ⟨by omega, by omega, by simp, hw.1, fun i hi => pair_ok (unlikeB_coded h2 i hi) (hw.2 i hi).1⟩
theorem tg_right {k : Nat} {f : Nat → Int} {d : Nat} (hd : 2 ≤ d) (hk : k ≤ 1000) (h : unlikeB f k = true) : (tgT k f).right d = true := by
  unfold tgT T.right
  rw [if_neg (by omega), Bool.and_eq_true, T.all_iff]
  exact ⟨by simp [T.node, hk], fun i hi => (numT_all _ (by have := unlikeB_coded h i hi; omega)).2.1 _ (by omega)⟩
theorem tg_ok {k : Nat} {f : Nat → Int} (hk : k ≤ 1000) (h : unlikeB f k = true) : (tgT k f).ok := by
  unfold tgT T.ok
  exact ⟨by omega, by omega, by simp, by omega, fun i hi => num_ok (by have := unlikeB_coded h i hi; omega)⟩
theorem tg_size {k : Nat} {f : Nat → Int} (hk : k ≤ 1000) : (tgT k f).size ≤ 2001 := by
  unfold tgT T.size
  have := sum_le_each (f := fun i => (numT (f i).toNat).size) (B := 1) (k := k) (fun i _ => by simp [numT, T.size, T.sum])
  simp; omega
theorem resB_iff {p : PL} : resB p = true ↔ (1 ≤ p.k ∧ p.k ≤ 4) ∧ pairsB p = true := by
  unfold resB; simp [and_assoc]
theorem rs_right {k : Nat} {f : Nat → PL} {d : Nat} (hd : 4 ≤ d) (hk : k ≤ 1000) (h : T.all (fun i => resB (f i)) k = true) : (rsT k f).right d = true := by
  unfold rsT T.right
  rw [if_neg (by omega), Bool.and_eq_true, T.all_iff]
  exact ⟨by simp [T.node, hk], fun i hi => by
    obtain ⟨h1, h2⟩ := resB_iff.1 (T.all_iff.1 h i hi)
    exact pl_right (by omega) (by omega) h2⟩
theorem rs_ok {k : Nat} {f : Nat → PL} (hk : k ≤ 1000) (hw : ∀ i, i < k → (f i).wf) (h : T.all (fun i => resB (f i)) k = true) : (rsT k f).ok := by
  unfold rsT T.ok
  exact ⟨by omega, by omega, by simp, by omega, fun i hi => pl_ok (hw i hi) (resB_iff.1 (T.all_iff.1 h i hi)).2⟩
theorem AV.shaped_iff {a : AV} : a.shaped = true ↔ (1 ≤ a.tk ∧ a.tk ≤ 16) ∧ unlikeB a.tg a.tk = true ∧ codedB a.ctx = true ∧ a.src.ok = true ∧ a.ps.k ≤ 8 ∧ pairsB a.ps = true ∧ a.rk = a.tk ∧ T.all (fun i => resB (a.rs i)) a.rk = true := by
  unfold AV.shaped
  simp only [Bool.and_eq_true, decide_eq_true_eq]
  constructor
  · rintro ⟨⟨⟨⟨⟨⟨h1, h2⟩, h3⟩, h4⟩, h5⟩, ⟨⟨h6, h7⟩, h8⟩⟩, h9⟩
    exact ⟨⟨h1, h2⟩, h3, h4, h5, h6, h7, h8, h9⟩
  · rintro ⟨⟨h1, h2⟩, h3, h4, h5, h6, h7, h8, h9⟩
    exact ⟨⟨⟨⟨⟨⟨h1, h2⟩, h3⟩, h4⟩, h5⟩, ⟨⟨h6, h7⟩, h8⟩⟩, h9⟩
/-- The items of one that is shaped may all be built. -/
theorem AV.items_all {a : AV} (hw : a.wf) (hs : a.small) (h : a.shaped = true) : ∀ t ∈ a.items, t.ok ∧ t.right 8 = true ∧ t.size ≤ 100000 := by
  obtain ⟨⟨h1, h2⟩, h3, h4, h5, h6, h7, h8, h9⟩ := AV.shaped_iff.1 h
  obtain ⟨w1, w2, w3, w4, w5, w6⟩ := hw
  have c := codedB_iff.1 h4
  have ntg : (tgT a.tk a.tg).ok ∧ (tgT a.tk a.tg).right 8 = true ∧ (tgT a.tk a.tg).size ≤ 100000 := ⟨tg_ok (by omega) h3, tg_right (by omega) (by omega) h3, by have := tg_size (k := a.tk) (f := a.tg) (by omega); omega⟩
  have nn : ∀ n, n ≤ 65535 → (numT n).ok ∧ (numT n).right 8 = true ∧ (numT n).size ≤ 100000 := fun n hn => by
    have := numT_all n (by omega)
    exact ⟨this.1, this.2.1 8 (by omega), by have := this.2.2.1; omega⟩
  have ne : (eidT a.src).ok ∧ (eidT a.src).right 8 = true ∧ (eidT a.src).size ≤ 100000 := by
    have := eidT_ok h5
    exact ⟨this.1, this.2.1 8 (by omega), this.2.2.2⟩
  have np : (plT a.ps).ok ∧ (plT a.ps).right 8 = true ∧ (plT a.ps).size ≤ 100000 := ⟨pl_ok w4 h7, pl_right (by omega) (by omega) h7, hs.1⟩
  have nr : (rsT a.rk a.rs).ok ∧ (rsT a.rk a.rs).right 8 = true ∧ (rsT a.rk a.rs).size ≤ 100000 := ⟨rs_ok (by omega) w6 h9, rs_right (by omega) (by omega) h9, hs.2⟩
  intro t ht
  unfold AV.items at ht
  split at ht
  · simp only [List.mem_cons, List.not_mem_nil, or_false] at ht
    rcases ht with rfl | rfl | rfl | rfl | rfl
    · exact ntg
    · exact nn _ (by omega)
    · exact nn _ (by omega)
    · exact ne
    · exact nr
  · simp only [List.mem_cons, List.not_mem_nil, or_false] at ht
    rcases ht with rfl | rfl | rfl | rfl | rfl | rfl
    · exact ntg
    · exact nn _ (by omega)
    · exact nn _ (by omega)
    · exact ne
    · exact np
    · exact nr
end Go.Proofs.YtblfmokklfhklaaGreatDoor


namespace Go.Proofs.YtblfmokklfhklaaGreatDoor
open Go.RowKit
set_option linter.unusedVariables false
set_option linter.unusedSimpArgs false

section
variable {P : Program} {ops : Array Oper} {C : World → Prop} {rest : List Oper} {o : Oper} {a : Act} {w : World}
/-- A drawn region, walked once: the class of worlds is 'nothing that was there has turned'. -/
theorem wp_region_ext {id : Nat} {Q : Exit → Act → World → Prop} {l : List Oper} (hm : P.follows .mixedOrders = true) (hB : Region.lexB .any l.toArray = true)
    (h : wpQuiet P l.toArray (Ext w) (fun a' => ∀ w', Ext w w' → Q .normal a' w') l a) : (Code.region id l.toArray true).wp P Q a w :=
  wp_region_quiet (C := Ext w) hm hB ((Mod.refl [] w).drew) (by simpa using h)
theorem q_skip {Q : Act → Prop} (hw : Region.wanted o (yielded ops a.tmps) = false) (h : wpQuiet P ops C Q rest (a.put o.dst undef)) : wpQuiet P ops C Q (o :: rest) a :=
  wpQuiet_step fun K hK => by rw [if_neg (by rw [hw]; exact Bool.false_ne_true)]; exact hK _ h
/-- A struct or array is loaded out of a block that is known whole. -/
theorem q_row {Q : Act → Prop} (hw : Region.wanted o (yielded ops a.tmps) = true) (ty : TypeId) (x : Operand) (ho : o.op = .load ty x) (g : Nat) (hx : a.eval x = .pointer (some ⟨g, 0, none⟩))
    {t : TypeId} {cs : Array Value} {d : TypeDesc} (hg : ∀ w, C w → Blk w g t cs) (hu : P.underlying ty = some d) (hd : (match d with | .struct _ | .array _ _ => true | _ => false) = true)
    (hi : (P.info? ty).map (·.size) = some cs.size) (h : wpQuiet P ops C Q rest (a.put o.dst (.agg cs))) : wpQuiet P ops C Q (o :: rest) a :=
  wpQuiet_step fun K hK => by
    rw [if_pos hw]
    refine ⟨.agg cs, fun w hw' => ?_, hK _ h⟩
    unfold Oper.quietAt execOp
    simp only [ho, hx, Instr.loadAt, Instr.sureAddr, Sem.run_bind, Sem.run_pure, Result.andThen_ok, run_loadVar_row w g t ty cs (0, 0) d (hg w hw') hu hd hi]
    exact ⟨rfl, rfl⟩
/-- A number, a string, a pointer is loaded out of a cell. -/
theorem q_load {Q : Act → Prop} (hw : Region.wanted o (yielded ops a.tmps) = true) (ty : TypeId) (x : Operand) (ho : o.op = .load ty x) (p : Addr) (hx : a.eval x = .pointer (some p))
    {v : Value} {d : TypeDesc} (hc : ∀ w, C w → w.cell? p = some v) (hu : P.underlying ty = some d) (hd : (match d with | .struct _ | .array _ _ => true | _ => false) = false)
    (h : wpQuiet P ops C Q rest (a.put o.dst v)) : wpQuiet P ops C Q (o :: rest) a :=
  wpQuiet_step fun K hK => by
    rw [if_pos hw]
    refine ⟨v, fun w hw' => ?_, hK _ h⟩
    have hagg : (isAgg ty).run P w = .ok false w := by
      unfold isAgg
      rw [Sem.run_bind, run_underlying hu w]
      cases d <;> simp_all
    have hl : (loadVar ty p).run P w = .ok v w := by
      simp [loadVar, Sem.run_bind, hagg, hc w hw']
    unfold Oper.quietAt execOp
    simp only [ho, hx, Instr.loadAt, Instr.sureAddr, Sem.run_bind, Sem.run_pure, Result.andThen_ok, hl]
    exact ⟨rfl, rfl⟩
/-- Two strings become one. -/
theorem q_cat {Q : Act → Prop} (hw : Region.wanted o (yielded ops a.tmps) = true) (ty t2 : TypeId) (x y : Operand) (ho : o.op = .binOp .add ty x y t2) (l1 l2 : List UInt8) (hx : a.eval x = str l1) (hy : a.eval y = str l2)
    (hl : l1.length + l2.length ≤ 9223372036854775807) (h : wpQuiet P ops C Q rest (a.put o.dst (str (l1 ++ l2)))) : wpQuiet P ops C Q (o :: rest) a :=
  wpQuiet_step fun K hK => by
    rw [if_pos hw]
    refine ⟨str (l1 ++ l2), fun w hw' => ?_, hK _ h⟩
    have hl' : ¬ 9223372036854775807 < l1.length + l2.length := by omega
    unfold Oper.quietAt execOp
    simp only [ho, hx, hy]
    simp [go_sem, hl']
    rw [ByteArray.mk_append_mk]
/-- A struct or array is loaded out of a block that is known whole, in a plain region. -/
theorem wpList_row {Q : Exit → Act → World → Prop} (hw : Region.wanted o (yielded ops a.tmps) = true) (ty : TypeId) (x : Operand) (ho : o.op = .load ty x)
    (g : Nat) (hx : a.eval x = .pointer (some ⟨g, 0, none⟩)) {t : TypeId} {cs : Array Value} {d : TypeDesc} (hg : Blk w g t cs)
    (hu : P.underlying ty = some d) (hd : (match d with | .struct _ | .array _ _ => true | _ => false) = true) (hi : (P.info? ty).map (·.size) = some cs.size)
    (h : wpList P ops Q rest (a.put o.dst (.agg cs)) w) : wpList P ops Q (o :: rest) a w :=
  wpList_step fun K hK => by rw [if_pos hw]; exact wp_load_row ty x ho g hx t cs (0, 0) d hg hu hd hi (hK _ _ h)
theorem Ret.ext {f : FuncId} {args : Array Value} {v : Value} {w W : World} (h : Calls P f args W (Ret v W)) (hW : Ext w W) : Calls P f args W (fun e w'' => e = .returned v ∧ Ext w w'') :=
  h.mono fun _ _ hh => ⟨hh.1, hW.trans hh.2⟩
end
end Go.Proofs.YtblfmokklfhklaaGreatDoor


namespace Go.Proofs.YtblfmokklfhklaaGreatDoor
open Go.RowKit
set_option linter.unusedVariables false
set_option linter.unusedSimpArgs false

/-- A later world. -/
structure Later (w : World) where
  x : World
  h : Ext w x
instance (w : World) : Nonempty (Later w) := ⟨⟨w, Mod.refl _ _⟩⟩
section
variable {P : Program} {w : World}
theorem Later.self (w : World) : ∃ e : Later w, w = e.x := ⟨⟨w, Mod.refl _ _⟩, rfl⟩
theorem Later.go (e : Later w) {y : World} (h : Ext e.x y) : ∃ e' : Later w, y = e'.x := ⟨⟨y, e.h.trans h⟩, rfl⟩
/-- What the walk keeps of a call that returns v. -/
def LRet (v : Value) (w : World) (e : Ending) (w' : World) : Prop := e = .returned v ∧ ∃ e' : Later w, w' = e'.x
theorem Ret.later {e : Later w} {f : FuncId} {args : Array Value} {v : Value} (h : Calls P f args e.x (Ret v e.x)) : Calls P f args e.x (fun r w' => r = .returned v ∧ ∃ e' : Later w, w' = e'.x) :=
  h.mono fun _ _ hh => ⟨hh.1, e.go hh.2⟩
theorem Ret.laterW {W : World} (hW : Ext w W) {f : FuncId} {args : Array Value} {v : Value} (h : Calls P f args W (Ret v W)) : Calls P f args W (fun r w' => r = .returned v ∧ ∃ e' : Later w, w' = e'.x) :=
  h.mono fun _ _ hh => ⟨hh.1, ⟨_, hW.trans hh.2⟩, rfl⟩
theorem Blk.later {g : Nat} {t : TypeId} {cs : Array Value} (h : Blk w g t cs) (e : Later w) : Blk e.x g t cs := h.ext e.h
theorem Blk.cellL {g : Nat} {t : TypeId} {cs : Array Value} (h : Blk w g t cs) (i : Nat) {v : Value} (hv : cs[i]? = some v) (e : Later w) : e.x.cell? ⟨g, i, none⟩ = some v := ((h.later e).cell i).trans hv
theorem Blk.newL (w : World) (t : TypeId) (cs : Array Value) {N : Nat} (h : w.heap.size = N) : Blk (w.alloc (.cells cs t)) N t cs := h ▸ Blk.new w t cs
theorem cellL {b o : Nat} {v : Value} (h : w.cell? ⟨b, o, none⟩ = some v) (e : Later w) : e.x.cell? ⟨b, o, none⟩ = some v := by
  have hb : b < w.heap.size := by
    rcases Nat.lt_or_ge b w.heap.size with hlt | hge
    · exact hlt
    · simp [World.cell?, Array.getElem?_eq_none hge] at h
  exact (e.h.cell hb (by simp)).trans h
/-- A drawn region of quiet operations, at a later world: one walk. -/
theorem wp_region_later {e : Later w} {id : Nat} {Q : Exit → Act → World → Prop} {a : Act} {l : List Oper} (hm : P.follows .mixedOrders = true) (hB : Region.lexB .any l.toArray = true)
    (h : wpQuiet P l.toArray (fun w' => ∃ e : Later w, w' = e.x) (fun a' => ∀ w', (∃ e : Later w, w' = e.x) → Q .normal a' w') l a) : (Code.region id l.toArray true).wp P Q a e.x :=
  wp_region_quiet (C := fun w' => ∃ e : Later w, w' = e.x) hm hB ⟨⟨_, e.h.drew⟩, rfl⟩ (by simpa using h)
/-- A struct is loaded out of the midst of a block. -/
theorem wpList_mid {ops : Array Oper} {rest : List Oper} {op : Oper} {a : Act} {W : World} {Q : Exit → Act → World → Prop} (hw : Region.wanted op (yielded ops a.tmps) = true) (ty : TypeId) (x : Operand) (ho : op.op = .load ty x)
    (b o : Nat) (hx : a.eval x = .pointer (some ⟨b, o, none⟩)) (cs : List Value) (d : TypeDesc) (hc : W.rangeAt b o cs)
    (hu : P.underlying ty = some d) (hd : d.isRow = true) (hi : (P.info? ty).map (·.size) = some cs.length)
    (h : wpList P ops Q rest (a.put op.dst (.agg cs.toArray)) W) : wpList P ops Q (op :: rest) a W :=
  wpList_step fun K hK => by rw [if_pos hw]; exact wp_load_mid ty x ho b o hx cs d hc hu hd hi (hK _ _ h)
theorem later_mid {ops : Array Oper} {rest : List Oper} {op : Oper} {a : Act} {Q : Act → Prop} (hw : Region.wanted op (yielded ops a.tmps) = true) (ty : TypeId) (x : Operand) (ho : op.op = .load ty x)
    (b o : Nat) (hx : a.eval x = .pointer (some ⟨b, o, none⟩)) (cs : List Value) (d : TypeDesc) (hc : ∀ e : Later w, e.x.rangeAt b o cs)
    (hu : P.underlying ty = some d) (hd : d.isRow = true) (hi : (P.info? ty).map (·.size) = some cs.length)
    (h : wpQuiet P ops (fun w' => ∃ e : Later w, w' = e.x) Q rest (a.put op.dst (.agg cs.toArray))) : wpQuiet P ops (fun w' => ∃ e : Later w, w' = e.x) Q (op :: rest) a :=
  wpQuiet_step fun K hK => by
    rw [if_pos hw]
    refine ⟨.agg cs.toArray, fun W ⟨e, he⟩ => ?_, hK _ h⟩
    subst he
    unfold Oper.quietAt execOp
    simp only [ho, hx, Instr.loadAt, Instr.sureAddr, Sem.run_bind, Sem.run_pure, Result.andThen_ok, run_loadVar_mid e.x b o ty cs d (hc e) hu hd hi]
    exact ⟨rfl, rfl⟩
/-- Part of a block that is known whole. -/
theorem Blk.range {g : Nat} {t : TypeId} {cs : Array Value} (h : Blk w g t cs) (o n : Nat) {l : List Value} (hl : (cs.extract o (o + n)).toList = l) (e : Later w) : e.x.rangeAt g o l := hl ▸ World.rangeAt_of_block (h.later e) o n
theorem yieldsIf_row {ops : Array Oper} {S : World → Prop} {op : Oper} {a : Act} (hw : Region.wanted op (yielded ops a.tmps) = true) (ty : TypeId) (x : Operand) (ho : op.op = .load ty x) (g : Nat) (hx : a.eval x = .pointer (some ⟨g, 0, none⟩))
    {t : TypeId} {cs : Array Value} {d : TypeDesc} (hS : ∀ w, S w → Blk w g t cs) (hu : P.underlying ty = some d) (hd : (match d with | .struct _ | .array _ _ => true | _ => false) = true)
    (hi : (P.info? ty).map (·.size) = some cs.size) : YieldsIf P ops S op (.agg cs) a :=
  .inl ⟨hw, fun w hw' => by
    unfold execOp
    simp only [ho, hx, Instr.loadAt, Instr.sureAddr, Sem.run_bind, Sem.run_pure, Result.andThen_ok, run_loadVar_row w g t ty cs (0, 0) d (hS w hw') hu hd hi]⟩
theorem yieldsIf_cat {ops : Array Oper} {S : World → Prop} {o : Oper} {a : Act} (hw : Region.wanted o (yielded ops a.tmps) = true) (ty t2 : TypeId) (x y : Operand) (ho : o.op = .binOp .add ty x y t2) (l1 l2 : List UInt8) (hx : a.eval x = str l1) (hy : a.eval y = str l2)
    (hl : l1.length + l2.length ≤ 9223372036854775807) : YieldsIf P ops S o (str (l1 ++ l2)) a :=
  .inl ⟨hw, fun w hw' => by
    have hl' : ¬ 9223372036854775807 < l1.length + l2.length := by omega
    unfold execOp
    simp only [ho, hx, hy]
    simp [go_sem, hl']
    rw [ByteArray.mk_append_mk]⟩
theorem later_row {ops : Array Oper} {rest : List Oper} {o : Oper} {a : Act} {Q : Act → Prop} (hw : Region.wanted o (yielded ops a.tmps) = true) (ty : TypeId) (x : Operand) (ho : o.op = .load ty x) (g : Nat) (hx : a.eval x = .pointer (some ⟨g, 0, none⟩))
    {t : TypeId} {cs : Array Value} {d : TypeDesc} (hg : ∀ e : Later w, Blk e.x g t cs) (hu : P.underlying ty = some d) (hd : (match d with | .struct _ | .array _ _ => true | _ => false) = true)
    (hi : (P.info? ty).map (·.size) = some cs.size) (h : wpQuiet P ops (fun w' => ∃ e : Later w, w' = e.x) Q rest (a.put o.dst (.agg cs))) : wpQuiet P ops (fun w' => ∃ e : Later w, w' = e.x) Q (o :: rest) a :=
  q_row hw ty x ho g hx (fun w ⟨e, he⟩ => he ▸ hg e) hu hd hi h
end
end Go.Proofs.YtblfmokklfhklaaGreatDoor


namespace Go.Proofs.YtblfmokklfhklaaGreatDoor
open Go.RowKit
set_option linter.unusedVariables false
set_option linter.unusedSimpArgs false

/-- The row's cells: the first i elements'. -/
def flatG (f : Nat → List Value) : Nat → List Value
  | 0 => []
  | i + 1 => flatG f i ++ f i
section
variable {f g : Nat → List Value} {z : Nat}
theorem flatG_length (hf : ∀ i, (f i).length = z) (i : Nat) : (flatG f i).length = i * z := by
  induction i with
  | zero => simp [flatG]
  | succ i ih => rw [flatG, List.length_append, ih, hf, Nat.succ_mul]
theorem flatG_congr {i : Nat} (h : ∀ j, j < i → f j = g j) : flatG f i = flatG g i := by
  induction i with
  | zero => rfl
  | succ i ih => rw [flatG, flatG, ih (fun j hj => h j (by omega)), h i (by omega)]
theorem flatG_get (hf : ∀ i, (f i).length = z) (k : Nat) : ∀ j, j < k → ∀ r, r < z → (flatG f k)[j * z + r]? = (f j)[r]? := by
  induction k with
  | zero => intro j hj; omega
  | succ k ih =>
    intro j hj r hr
    have hl := flatG_length hf k
    rw [flatG]
    by_cases e : j = k
    · subst e
      rw [List.getElem?_append_right (by omega), hl]
      congr 1; omega
    · have h1 : (j + 1) * z ≤ k * z := Nat.mul_le_mul_right z (by omega)
      rw [Nat.succ_mul] at h1
      rw [List.getElem?_append_left (by omega), ih j (by omega) r hr]
theorem flatG_idx (hz : 0 < z) (hf : ∀ i, (f i).length = z) (k : Nat) {j : Nat} {u : Value} (h : (flatG f k)[j]? = some u) : ∃ i r, i < k ∧ r < z ∧ j = i * z + r ∧ (f i)[r]? = some u := by
  have h1 := (List.getElem?_eq_some_iff.1 h).1
  rw [flatG_length hf] at h1
  have hi : j / z < k := Nat.div_lt_of_lt_mul (by rw [Nat.mul_comm]; exact h1)
  have hr : j % z < z := Nat.mod_lt _ hz
  have he : j = j / z * z + j % z := by have := Nat.div_add_mod j z; rw [Nat.mul_comm] at this; omega
  refine ⟨j / z, j % z, hi, hr, he, ?_⟩
  rw [← flatG_get hf k _ hi _ hr, ← he]; exact h
theorem flatG_one (hz : 0 < z) (hf : ∀ i, (f i).length = z) (h1 : ∀ i, ∀ u ∈ f i, u.oneCell' = true) (k : Nat) : ∀ u ∈ flatG f k, u.oneCell' = true := by
  intro u hu
  obtain ⟨j, hj⟩ := List.getElem?_of_mem hu
  obtain ⟨i, r, _, _, _, h⟩ := flatG_idx hz hf k hj
  exact h1 i u (List.mem_of_getElem? h)
theorem flatG_news (hz : 0 < z) (hf : ∀ i, (f i).length = z) {W : World} {b o k : Nat} (h : ∀ i, i < k → ∀ r u, (f i)[r]? = some u → W.cell? ⟨b, o + i * z + r, none⟩ = some u) : ∀ j u, (flatG f k)[j]? = some u → W.cell? ((⟨b, o, none⟩ : Addr).add j) = some u := by
  intro j u hj
  obtain ⟨i, r, hi, hr, rfl, hu⟩ := flatG_idx hz hf k hj
  rw [addr_add, ← Nat.add_assoc]
  exact h i hi r u hu
theorem flatG_own {W : World} {base b c k : Nat} {e : TypeId} (hf : ∀ i, (f i).length = z) (h : W.ownsRow base e z (.slice (some ⟨b, 0, none⟩) k c) k (flatG f k)) {i : Nat} (hi : i < k) {r : Nat} (hr : r < z) {u : Value} (hu : (f i)[r]? = some u) : W.cell? ⟨b, i * z + r, none⟩ = some u := by
  have := h.cells (g := b) rfl (i * z + r) u (by rw [flatG_get hf k i hi r hr]; exact hu)
  rw [addr_add, Nat.zero_add] at this
  exact this
end
theorem own_cap {w : World} {base size n c : Nat} {e : TypeId} {A : Option Addr} {xs : List Value} (h : w.ownsRow base e size (.slice A n c) n xs) : n ≤ c := by
  rcases h.2 with ⟨h1, h2⟩ | ⟨g, cap, cur, hv, hbg, hg, hnc, hcm, hcs, htake⟩
  · simp only [Value.slice.injEq] at h1; omega
  · simp only [Value.slice.injEq] at hv; omega
end Go.Proofs.YtblfmokklfhklaaGreatDoor
