/-
  Items: how many there are, whether they are plain.
  The walks of package cbor's spread, at its four types: a number's bytes, the greatest first.
  The walks of package cbor's Head, opens, Open: each returns the bytes of its plain Lean function, and turns nothing that was there.
  The walks of package cbor's opens, Open and NewReader.
  The walks of the reference's digits and Head.
  Items: right ones, few ones; the reference's bytes.
  The walks of cbor.Bytes, cbor.Text and of the reference's.
  Items: the code's Right, Build and Same.
  Items: the code's Build and Same.
  An item's block: its five cells, stored anew.
  A block's item, without a sum.
  A block without a sum: its item, its bytes; the block that the laws wake the program by.
  A block's bytes; the block that the laws wake the program by.
  Sums against chance, plainly: the code's (bits turned about, a byte at a time) and the reference's (bits in a row) are the same.
  The code's sums: divide, X25, Castagnoli, Size, Sum.
  The code's sums' bytes.
  strings.Repeat: the library's contract, at this program.
  An item with the right sum as its last part.
  A block's item and bytes, whatever its sum.
-/
import Derived.Test.YtogjghmoankleaaMPrimaryBitsa
import Init
import Derived.Laws.BitsAllLaws
import Derived.Shelf.Strings.Repeat

namespace Go.Proofs.Ytogjghmoankleaa
open Go.RowKit
set_option linter.unusedVariables false
set_option linter.unusedSimpArgs false

set_option maxRecDepth 20000 in
set_option maxHeartbeats 1600000 in
theorem Count_any (t : T) : ∀ (m : Nat), m ≤ 100000 → t.ok → ∀ A c w, IsL w (fun _ => True) t A →
    Calls Try.prog 119 #[itemV t A c, .int .i64 (m : Int)] w (Ret (.int .i64 (t.count m : Int)) w) := by
  induction t with
  | nil => intro m _ hok; cases hok
  | mk kind n s op k ch ih =>
    intro m hm hok A c w h
    have H := hid h; have HM := hid hm; have HO := hid hok
    have HI := hid ih
    have m0 : (0 : Int) ≤ (m : Int) := by omega
    have m1 : (m : Int) ≤ 100000 := by omega
    have hs : Hid (s.length < 4611686018427387904) := by unfold T.ok at hok; exact hok.2.2.1
    have hk : Hid (k < 4611686018427387904) := by unfold T.ok at hok; exact hok.2.2.2.1
    have hl : Hid (∀ j, j ≤ k → T.cl (fun i => (ch i).count) m (1 + s.length) j ≤ m + 4611686018427387904) := fun j hj =>
      Nat.le_trans (T.cl_mono _ _ _ j k hj) (T.count_le (.mk kind n s op k ch) hok m)
    have hsl : (s.length : Int) < 4611686018427387904 := by have := hs.out; omega
    show Calls Try.prog 119 #[.agg #[.int .i64 kind, .int .u64 (n : Int), str s, .slice A k c, .bool op], .int .i64 (m : Int)] w (Ret (.int .i64 (T.cl (fun i => (ch i).count) m (1 + s.length) k : Nat)) w)
    have HB : Hid (Blk (w.alloc (.cells #[.int .i64 kind, .int .u64 (n : Int), str s, .slice A k c, .bool op] 38)) w.heap.size 38 #[.int .i64 kind, .int .u64 (n : Int), str s, .slice A k c, .bool op]) := Blk.new _ _ _
    have HE0 := hid ((Mod.refl [] w).alloc (.cells #[.int .i64 kind, .int .u64 (n : Int), str s, .slice A k c, .bool op] 38))
    clear h hm hok ih
    go_enter Try.func119, Try.ntmps119
    go_wp2_with fail
    go_loopw [5, 6] (fun s5 s6 wr => ∃ i : Nat, i ≤ k ∧ s6 = .int .i64 (i : Int) ∧ s5 = .int .i64 (T.cl (fun i => (ch i).count) m (1 + s.length) i : Nat) ∧ Hid (Ext w wr ∧ Blk wr w.heap.size 38 #[.int .i64 kind, .int .u64 (n : Int), str s, .slice A k c, .bool op])) (fun _ i _ => k - (intOf i).toNat)
    case atStart => exact ⟨0, Nat.zero_le _, rfl, by simp [T.cl], HE0.out, HB.out⟩
    case round =>
      obtain ⟨i, hi, rfl, rfl, hH⟩ := hrel
      have i0 : (0 : Int) ≤ (i : Int) := by omega
      have c3 : wr.cell? ⟨w.heap.size, 3, none⟩ = some (.slice A k c) := hH.out.2.cell 3
      have HX := hid (hl.out i hi)
      by_cases hlt : i < k
      · by_cases hn : T.cl (fun i => (ch i).count) m (1 + s.length) i ≤ m
        · obtain ⟨b, o, Ai, ci, rfl, hb, ⟨k0, k1, k2, k3, k4⟩, hL⟩ := H.out.cells hH.out.1 hlt
          have i1 : (i : Int) < (k : Int) := by omega
          have hk2 : (k : Int) < 4611686018427387904 := by have := hk.out; omega
          have ti : decide (i < k) = true := by simp [hlt]
          have HL := hid hL; have HLT := hid hlt
          have HOi : Hid (ch i).ok := by have := HO.out; unfold T.ok at this; exact this.2.2.2.2 i hlt
          have HMX : Hid (T.cl (fun i => (ch i).count) m (1 + s.length) (i + 1) = T.cl (fun i => (ch i).count) m (1 + s.length) i + (ch i).count (m - T.cl (fun i => (ch i).count) m (1 + s.length) i)) := if_pos hn
          have HY : Hid (T.cl (fun i => (ch i).count) m (1 + s.length) (i + 1) ≤ m + 4611686018427387904) := hl.out (i + 1) (by omega)
          clear hL hlt
          generalize T.cl (fun i => (ch i).count) m (1 + s.length) i = M at *
          have tn : decide (M ≤ m) = true := by simp [hn]
          have n0 : (0 : Int) ≤ (M : Int) := by omega
          have n1 : (M : Int) ≤ (m : Int) := by omega
          have ha : (m : Int) - (M : Int) = ((m - M : Nat) : Int) := by omega
          have HN := hid hn
          clear hn
          go_wp2_with fail
          refine (HI.out i (m - M) (by have := HM.out; omega) HOi.out Ai ci _ HL.out).mono ?_
          rintro e w3 ⟨rfl, hb3⟩
          have hD : (ch i).count (m - M) ≤ m + 4611686018427387904 := by have := HMX.out; have := HY.out; omega
          have hD2 : M + (ch i).count (m - M) ≤ m + 4611686018427387904 := by have := HMX.out; have := HY.out; omega
          generalize (ch i).count (m - M) = D at *
          have d0 : (0 : Int) ≤ (D : Int) := by omega
          have d1 : (M : Int) + (D : Int) ≤ 4611686018427487904 := by have := HM.out; omega
          have HE3 := hid (hH.out.1.trans hb3)
          have HB3 := hid (hH.out.2.ext hb3)
          clear hb3 hD hD2
          go_wp2_with fail
          have hlt := HLT.out
          refine ⟨⟨i + 1, by omega, by simp, ?_, (show Hid _ from ⟨HE3.out, HB3.out⟩)⟩, ?_⟩
          · rw [HMX.out]; congr 1
          · simp only [intOf]; omega
        · have HST := hid (T.cl_stop (by omega : m < T.cl (fun i => (ch i).count) m (1 + s.length) i) k hi)
          have tn : decide (T.cl (fun i => (ch i).count) m (1 + s.length) i ≤ m) = false := by simp; omega
          have ti : decide (i < k) = true := by simp [hlt]
          clear hlt hn
          go_wp2_with fail
          go_ret
          exact Ret.mk (by rw [HST.out]; rfl) hH.out.1
      · obtain rfl : i = k := by omega
        have ti : decide (i < i) = false := by simp
        go_wp2_with fail
        go_ret
        exact Ret.mk rfl hH.out.1

set_option maxRecDepth 20000 in
set_option maxHeartbeats 3200000 in
theorem plain_any (t : T) : t.ok → ∀ A c w, IsL w (fun _ => True) t A →
    Calls Try.prog 133 #[itemV t A c] w (Ret (.bool t.plain) w) := by
  induction t with
  | nil => intro hok; cases hok
  | mk kind n s op k ch ih =>
    intro hok A c w h
    have H := hid h; have HO := hid hok
    have HI := hid ih
    have hk : Hid (k < 4611686018427387904) := by unfold T.ok at hok; exact hok.2.2.2.1
    show Calls Try.prog 133 #[.agg #[.int .i64 kind, .int .u64 (n : Int), str s, .slice A k c, .bool op]] w (Ret (.bool (T.node kind n s op k && T.all (fun i => (ch i).plain) k)) w)
    have HB : Hid (Blk (w.alloc (.cells #[.int .i64 kind, .int .u64 (n : Int), str s, .slice A k c, .bool op] 38)) w.heap.size 38 #[.int .i64 kind, .int .u64 (n : Int), str s, .slice A k c, .bool op]) := Blk.new _ _ _
    have HE0 := hid ((Mod.refl [] w).alloc (.cells #[.int .i64 kind, .int .u64 (n : Int), str s, .slice A k c, .bool op] 38))
    clear h hok ih
    go_enter Try.func133, Try.ntmps133
    go_upto_region 2 with fail
    go_cut [4] (fun s4 wx => s4 = .bool (decide (kind = 2 ∨ kind = 3)) ∧ Hid (Ext w wx ∧ Blk wx w.heap.size 38 #[.int .i64 kind, .int .u64 (n : Int), str s, .slice A k c, .bool op]))
    case first =>
      by_cases a2 : kind = 2
      · subst a2
        go_wp2_with fail
        go_meet
        exact ⟨by simp, HE0.out, HB.out⟩
      · have b2 : (kind == 2) = false := by simp [a2]
        go_wp2_with fail
        go_meet
        exact ⟨by simp only [a2, false_or]; rfl, HE0.out, HB.out⟩
    obtain ⟨rfl, hH⟩ := hcut
    have c0 : wc.cell? ⟨w.heap.size, 0, none⟩ = some (.int .i64 kind) := hH.out.2.cell 0
    have c1 : wc.cell? ⟨w.heap.size, 1, none⟩ = some (.int .u64 (n : Int)) := hH.out.2.cell 1
    have c2 : wc.cell? ⟨w.heap.size, 2, none⟩ = some (str s) := hH.out.2.cell 2
    have c3 : wc.cell? ⟨w.heap.size, 3, none⟩ = some (.slice A k c) := hH.out.2.cell 3
    have c4 : wc.cell? ⟨w.heap.size, 4, none⟩ = some (.bool op) := hH.out.2.cell 4
    go_upto_region 3 with fail
    go_cut [3, 4, 66] (fun s3 s4 s66 wx => ∃ bb, s66 = .bool bb ∧ bb = !T.node kind n s op k ∧ wx = wc)
    case first =>
      have bs : s ≠ [] → (s == []) = false := fun h => by simp [h]
      have bS : s ≠ [] → (s = []) = False := fun h => by simp [h]
      have bn : n ≠ 0 → ((n : Int) == 0) = false := fun h => by simp [h]
      have bN : n ≠ 0 → (n = 0) = False := fun h => by simp [h]
      have bk : 0 < k → decide (0 < k) = true := fun h => by simp [h]
      have bK : 1000 < k → decide (1000 < k) = true := fun h => by simp [h]
      have bK2 : ¬ 1000 < k → decide (1000 < k) = false := fun h => by simp at h; simp [h]
      have bk2 : ¬ 0 < k → k = 0 := fun h => by omega
      have q1 : k ≠ 0 → (k = 0) = False := fun h => by simp [h]
      by_cases a0 : kind = 0
      · subst a0
        have hn : n = 0 ∨ n ≠ 0 := by omega
        rcases hn with rfl | hn
        · skip
          by_cases hs : s = []
          · subst hs
            by_cases hk0 : 0 < k
            · have bk := bk hk0; have q1 := q1 (by omega)
              go_wp2_with fail
              go_meet
              exact ⟨_, rfl, by simp [T.node, q1], rfl⟩
            · obtain rfl := bk2 hk0
              cases op
              · skip
                go_wp2_with fail
                go_meet
                exact ⟨_, rfl, by simp [T.node], rfl⟩
              · skip
                go_wp2_with fail
                go_meet
                exact ⟨_, rfl, by simp [T.node], rfl⟩
          · have bs := bs hs; have bS := bS hs
            go_wp2_with fail
            go_meet
            exact ⟨_, rfl, by simp [T.node, hs], rfl⟩
        · have bn := bn hn; have bN := bN hn
          by_cases hs : s = []
          · subst hs
            by_cases hk0 : 0 < k
            · have bk := bk hk0; have q1 := q1 (by omega)
              go_wp2_with fail
              go_meet
              exact ⟨_, rfl, by simp [T.node, q1], rfl⟩
            · obtain rfl := bk2 hk0
              cases op
              · skip
                go_wp2_with fail
                go_meet
                exact ⟨_, rfl, by simp [T.node], rfl⟩
              · skip
                go_wp2_with fail
                go_meet
                exact ⟨_, rfl, by simp [T.node], rfl⟩
          · have bs := bs hs; have bS := bS hs
            go_wp2_with fail
            go_meet
            exact ⟨_, rfl, by simp [T.node, hs], rfl⟩
      · skip
        by_cases a2 : kind = 2
        · subst a2
          have hn : n = 0 ∨ n ≠ 0 := by omega
          rcases hn with rfl | hn
          · skip
            by_cases hs : s = []
            · subst hs
              by_cases hk0 : 0 < k
              · have bk := bk hk0; have q1 := q1 (by omega)
                go_wp2_with fail
                go_meet
                exact ⟨_, rfl, by simp [T.node, q1], rfl⟩
              · obtain rfl := bk2 hk0
                cases op
                · skip
                  go_wp2_with fail
                  go_meet
                  exact ⟨_, rfl, by simp [T.node], rfl⟩
                · skip
                  go_wp2_with fail
                  go_meet
                  exact ⟨_, rfl, by simp [T.node], rfl⟩
            · have bs := bs hs; have bS := bS hs
              by_cases hk0 : 0 < k
              · have bk := bk hk0; have q1 := q1 (by omega)
                go_wp2_with fail
                go_meet
                exact ⟨_, rfl, by simp [T.node, q1], rfl⟩
              · obtain rfl := bk2 hk0
                cases op
                · skip
                  go_wp2_with fail
                  go_meet
                  exact ⟨_, rfl, by simp [T.node], rfl⟩
                · skip
                  go_wp2_with fail
                  go_meet
                  exact ⟨_, rfl, by simp [T.node], rfl⟩
          · have bn := bn hn; have bN := bN hn
            go_wp2_with fail
            go_meet
            exact ⟨_, rfl, by simp [T.node, hn], rfl⟩
        · skip
          by_cases a3 : kind = 3
          · subst a3
            have hn : n = 0 ∨ n ≠ 0 := by omega
            rcases hn with rfl | hn
            · skip
              by_cases hs : s = []
              · subst hs
                by_cases hk0 : 0 < k
                · have bk := bk hk0; have q1 := q1 (by omega)
                  go_wp2_with fail
                  go_meet
                  exact ⟨_, rfl, by simp [T.node, q1], rfl⟩
                · obtain rfl := bk2 hk0
                  cases op
                  · skip
                    go_wp2_with fail
                    go_meet
                    exact ⟨_, rfl, by simp [T.node], rfl⟩
                  · skip
                    go_wp2_with fail
                    go_meet
                    exact ⟨_, rfl, by simp [T.node], rfl⟩
              · have bs := bs hs; have bS := bS hs
                by_cases hk0 : 0 < k
                · have bk := bk hk0; have q1 := q1 (by omega)
                  go_wp2_with fail
                  go_meet
                  exact ⟨_, rfl, by simp [T.node, q1], rfl⟩
                · obtain rfl := bk2 hk0
                  cases op
                  · skip
                    go_wp2_with fail
                    go_meet
                    exact ⟨_, rfl, by simp [T.node], rfl⟩
                  · skip
                    go_wp2_with fail
                    go_meet
                    exact ⟨_, rfl, by simp [T.node], rfl⟩
            · have bn := bn hn; have bN := bN hn
              go_wp2_with fail
              go_meet
              exact ⟨_, rfl, by simp [T.node, hn], rfl⟩
          · skip
            by_cases a4 : kind = 4
            · subst a4
              have hn : n = 0 ∨ n ≠ 0 := by omega
              rcases hn with rfl | hn
              · skip
                by_cases hs : s = []
                · subst hs
                  by_cases hk0 : 0 < k
                  · have bk := bk hk0; have q1 := q1 (by omega)
                    by_cases hk1 : 1000 < k
                    · have bK := bK hk1; have z1 : decide (k ≤ 1000) = false := by simp; omega
                      have z2 : decide (1000 < (k : Int)) = true := by simp; omega
                      go_wp2_with fail
                      go_meet
                      exact ⟨_, rfl, by simp [T.node, z1], rfl⟩
                    · have bK := bK2 hk1; have z1 : decide (k ≤ 1000) = true := by simp; omega
                      have z2 : decide (1000 < (k : Int)) = false := by simp; omega
                      go_wp2_with fail
                      go_meet
                      exact ⟨_, rfl, by simp [T.node, z1], rfl⟩
                  · obtain rfl := bk2 hk0
                    cases op
                    · skip
                      go_wp2_with fail
                      go_meet
                      exact ⟨_, rfl, by simp [T.node], rfl⟩
                    · skip
                      go_wp2_with fail
                      go_meet
                      exact ⟨_, rfl, by simp [T.node], rfl⟩
                · have bs := bs hs; have bS := bS hs
                  go_wp2_with fail
                  go_meet
                  exact ⟨_, rfl, by simp [T.node, hs], rfl⟩
              · have bn := bn hn; have bN := bN hn
                go_wp2_with fail
                go_meet
                exact ⟨_, rfl, by simp [T.node, hn], rfl⟩
            · skip
              have e0 : (kind == 0) = false := by simp [a0]
              have e4 : (kind == 4) = false := by simp [a4]
              have e23 : decide (kind = 2 ∨ kind = 3) = false := by simp [a2, a3]
              have f0 : (kind = 0) = False := by simp [a0]
              have f4 : (kind = 4) = False := by simp [a4]
              have f2 : (kind = 2) = False := by simp [a2]
              have f3 : (kind = 3) = False := by simp [a3]
              go_wp2_with fail
              go_meet
              exact ⟨_, rfl, by simp [T.node, a0, a2, a3, a4], rfl⟩
    obtain ⟨bb, rfl, hbb, rfl⟩ := hcut
    cases hnd : T.node kind n s op k
    · have HND := hid hnd
      rw [hnd] at hbb; obtain rfl : bb = true := hbb
      go_wp2_with fail
      go_ret
      exact Ret.mk (by rw [HND.out]; rfl) hH.out.1
    · have HND := hid hnd
      rw [hnd] at hbb; obtain rfl : bb = false := hbb
      clear hnd
      go_wp2_with fail
      go_loopw [5] (fun s5 wr => ∃ i : Nat, i ≤ k ∧ s5 = .int .i64 (i : Int) ∧ Hid (Ext w wr ∧ Blk wr w.heap.size 38 #[.int .i64 kind, .int .u64 (n : Int), str s, .slice A k c, .bool op] ∧ T.all (fun i => (ch i).plain) i = true)) (fun i _ => k - (intOf i).toNat)
      case atStart => exact ⟨0, Nat.zero_le _, rfl, hH.out.1, hH.out.2, rfl⟩
      case round =>
        clear c0 c1 c2 c3 c4
        obtain ⟨i, hi, rfl, hX⟩ := hrel
        have i0 : (0 : Int) ≤ (i : Int) := by omega
        have c3 : wr.cell? ⟨w.heap.size, 3, none⟩ = some (.slice A k c) := hX.out.2.1.cell 3
        by_cases hlt : i < k
        · obtain ⟨b, o, Ai, ci, rfl, hb, ⟨k0, k1, k2, k3, k4⟩, hL⟩ := H.out.cells hX.out.1 hlt
          have i1 : (i : Int) < (k : Int) := by omega
          have hk2 : (k : Int) < 4611686018427387904 := by have := hk.out; omega
          have ti : decide (i < k) = true := by simp [hlt]
          have HL := hid hL; have HLT := hid hlt
          have HOi : Hid (ch i).ok := by have := HO.out; unfold T.ok at this; exact this.2.2.2.2 i hlt
          clear hL hlt
          go_wp2_with fail
          refine (HI.out i HOi.out Ai ci _ HL.out).mono ?_
          rintro e w3 ⟨rfl, hb3⟩
          have HE3 := hid (hX.out.1.trans hb3)
          have HB3 := hid (hX.out.2.1.ext hb3)
          clear hb3
          cases hpl : (ch i).plain
          · have hno : T.all (fun i => (ch i).plain) k = false := by
              have hlt := HLT.out
              cases hh : T.all (fun i => (ch i).plain) k with
              | false => rfl
              | true => have := T.all_iff.1 hh i hlt; rw [hpl] at this; cases this
            have HNO := hid hno
            clear hno
            go_wp2_with fail
            go_ret
            exact Ret.mk (by rw [HND.out, HNO.out]; rfl) HE3.out
          · have HPL := hid hpl
            go_wp2_with fail
            have hlt := HLT.out
            refine ⟨⟨i + 1, by omega, by simp, (show Hid _ from ⟨HE3.out, HB3.out, by rw [T.all, hX.out.2.2, HPL.out]; rfl⟩)⟩, ?_⟩
            simp only [intOf]; omega
        · obtain rfl : i = k := by omega
          have ti : decide (i < i) = false := by simp
          go_wp2_with fail
          go_ret
          exact Ret.mk (by rw [HND.out, hX.out.2.2]; rfl) hX.out.1
end Go.Proofs.Ytogjghmoankleaa


namespace Go.Proofs.Ytogjghmoankleaa
open Go.RowKit
set_option linter.unusedVariables false
set_option linter.unusedSimpArgs false

theorem be_step (n k j i : Nat) (h : i ≠ j) : (if i < j then beC n k i else 0) = (if i < j + 1 then beC n k i else 0) := by
  by_cases e : i < j
  · rw [if_pos e, if_pos (by omega)]
  · rw [if_neg e, if_neg (by omega)]
theorem rel_step {wr : World} {b t n k j : Nat} (h : wr.rowIs b t k (fun a => .int .u8 ((if a < j then beC n k a else 0 : Nat) : Int))) :
    (wr.setCell ⟨b, j, none⟩ (.int .u8 ((beC n k j : Nat) : Int))).rowIs b t k (fun a => .int .u8 ((if a < j + 1 then beC n k a else 0 : Nat) : Int)) := by
  refine (h.set j _).congr ?_
  intro i hi
  by_cases e : i = j
  · subst e; simp
  · rw [if_neg e, be_step n k j i e]

theorem infoByte : (Try.prog.info? 5).map (fun i => (i.zero, i.size, i.bytes)) = some (some (.int .u8 0), 1, 1) := by kernel_rfl

set_option maxHeartbeats 400000 in
theorem spread_uint8_n (n : Nat) (hn : n < 256) (k : Nat) (hk : k ≤ 8) (w : World) :
    Calls Try.prog 149 #[.int .u8 n, .int .i64 k] w (Ret (str (be n k)) w) := by
  have hmk := run_make_row' (P := Try.prog) 73 5 (.int .u8 0) 1 Try.underlying73 infoByte rfl .i64 .i64 k (by omega) (by omega)
  go_enter Try.func149, Try.ntmps149
  go_wp2
  go_loopw [11] (fun i wr => ∃ j : Nat, j ≤ k ∧ i = .int .i64 j ∧ Ext w wr ∧ wr.rowIs w.heap.size 5 k (fun a => .int .u8 ((if a < j then beC n k a else 0 : Nat) : Int))) (fun i _ => k - (intOf i).toNat)
  case atStart => exact ⟨0, Nat.zero_le _, rfl, (Mod.refl _ _).alloc _, (World.rowIs_made w _ k 5).congr (by intros; simp)⟩
  case round =>
    obtain ⟨j, hj, rfl, hb, hrow⟩ := hrel
    by_cases hlt : j < k
    · have hcell : wr.cell? ⟨w.heap.size, j, none⟩ = some (.int .u8 0) := by simpa using hrow.cell hlt
      have hfr := hrow.frozen j
      go_wp2
      go_roundw
      case rel => exact ⟨j + 1, by omega, by go_num, hb.setCell (.inr (Nat.le_refl _)) _, by simpa [beC] using rel_step hrow⟩
      case measure => simp [intOf]; omega
    · obtain rfl : j = k := by omega
      have hrow2 := hrow.congr (g := fun a => .int .u8 ((beC n j a : Nat) : Int)) (fun i hi => by simp [hi])
      have hconv := run_row_string (P := Try.prog) wr 73 9 5 Try.underlying73 Try.underlying5 Try.underlying9 _ _ _ j _ hrow2
      clear hrow hrow2
      go_wp2
      go_ret
      exact ⟨rfl, hb⟩
theorem spread_uint8 (x k : Int) (hx : 0 ≤ x) (hx1 : x < 256) (hk : 0 ≤ k) (hk8 : k ≤ 8) (w : World) :
    Calls Try.prog 149 #[.int .u8 x, .int .i64 k] w (Ret (str (be x.toNat k.toNat)) w) := by
  obtain ⟨n, rfl⟩ := Int.eq_ofNat_of_zero_le hx
  obtain ⟨k, rfl⟩ := Int.eq_ofNat_of_zero_le hk
  exact spread_uint8_n n (by omega) k (by omega) w

set_option maxHeartbeats 400000 in
theorem spread_uint16_n (n : Nat) (hn : n < 65536) (k : Nat) (hk : k ≤ 8) (w : World) :
    Calls Try.prog 150 #[.int .u16 n, .int .i64 k] w (Ret (str (be n k)) w) := by
  have hmk := run_make_row' (P := Try.prog) 73 5 (.int .u8 0) 1 Try.underlying73 infoByte rfl .i64 .i64 k (by omega) (by omega)
  go_enter Try.func150, Try.ntmps150
  go_wp2
  go_loopw [11] (fun i wr => ∃ j : Nat, j ≤ k ∧ i = .int .i64 j ∧ Ext w wr ∧ wr.rowIs w.heap.size 5 k (fun a => .int .u8 ((if a < j then beC n k a else 0 : Nat) : Int))) (fun i _ => k - (intOf i).toNat)
  case atStart => exact ⟨0, Nat.zero_le _, rfl, (Mod.refl _ _).alloc _, (World.rowIs_made w _ k 5).congr (by intros; simp)⟩
  case round =>
    obtain ⟨j, hj, rfl, hb, hrow⟩ := hrel
    by_cases hlt : j < k
    · have hcell : wr.cell? ⟨w.heap.size, j, none⟩ = some (.int .u8 0) := by simpa using hrow.cell hlt
      have hfr := hrow.frozen j
      go_wp2
      go_roundw
      case rel => exact ⟨j + 1, by omega, by go_num, hb.setCell (.inr (Nat.le_refl _)) _, by simpa [beC] using rel_step hrow⟩
      case measure => simp [intOf]; omega
    · obtain rfl : j = k := by omega
      have hrow2 := hrow.congr (g := fun a => .int .u8 ((beC n j a : Nat) : Int)) (fun i hi => by simp [hi])
      have hconv := run_row_string (P := Try.prog) wr 73 9 5 Try.underlying73 Try.underlying5 Try.underlying9 _ _ _ j _ hrow2
      clear hrow hrow2
      go_wp2
      go_ret
      exact ⟨rfl, hb⟩
theorem spread_uint16 (x k : Int) (hx : 0 ≤ x) (hx1 : x < 65536) (hk : 0 ≤ k) (hk8 : k ≤ 8) (w : World) :
    Calls Try.prog 150 #[.int .u16 x, .int .i64 k] w (Ret (str (be x.toNat k.toNat)) w) := by
  obtain ⟨n, rfl⟩ := Int.eq_ofNat_of_zero_le hx
  obtain ⟨k, rfl⟩ := Int.eq_ofNat_of_zero_le hk
  exact spread_uint16_n n (by omega) k (by omega) w

set_option maxHeartbeats 400000 in
theorem spread_uint32_n (n : Nat) (hn : n < 4294967296) (k : Nat) (hk : k ≤ 8) (w : World) :
    Calls Try.prog 151 #[.int .u32 n, .int .i64 k] w (Ret (str (be n k)) w) := by
  have hmk := run_make_row' (P := Try.prog) 73 5 (.int .u8 0) 1 Try.underlying73 infoByte rfl .i64 .i64 k (by omega) (by omega)
  go_enter Try.func151, Try.ntmps151
  go_wp2
  go_loopw [11] (fun i wr => ∃ j : Nat, j ≤ k ∧ i = .int .i64 j ∧ Ext w wr ∧ wr.rowIs w.heap.size 5 k (fun a => .int .u8 ((if a < j then beC n k a else 0 : Nat) : Int))) (fun i _ => k - (intOf i).toNat)
  case atStart => exact ⟨0, Nat.zero_le _, rfl, (Mod.refl _ _).alloc _, (World.rowIs_made w _ k 5).congr (by intros; simp)⟩
  case round =>
    obtain ⟨j, hj, rfl, hb, hrow⟩ := hrel
    by_cases hlt : j < k
    · have hcell : wr.cell? ⟨w.heap.size, j, none⟩ = some (.int .u8 0) := by simpa using hrow.cell hlt
      have hfr := hrow.frozen j
      go_wp2
      go_roundw
      case rel => exact ⟨j + 1, by omega, by go_num, hb.setCell (.inr (Nat.le_refl _)) _, by simpa [beC] using rel_step hrow⟩
      case measure => simp [intOf]; omega
    · obtain rfl : j = k := by omega
      have hrow2 := hrow.congr (g := fun a => .int .u8 ((beC n j a : Nat) : Int)) (fun i hi => by simp [hi])
      have hconv := run_row_string (P := Try.prog) wr 73 9 5 Try.underlying73 Try.underlying5 Try.underlying9 _ _ _ j _ hrow2
      clear hrow hrow2
      go_wp2
      go_ret
      exact ⟨rfl, hb⟩
theorem spread_uint32 (x k : Int) (hx : 0 ≤ x) (hx1 : x < 4294967296) (hk : 0 ≤ k) (hk8 : k ≤ 8) (w : World) :
    Calls Try.prog 151 #[.int .u32 x, .int .i64 k] w (Ret (str (be x.toNat k.toNat)) w) := by
  obtain ⟨n, rfl⟩ := Int.eq_ofNat_of_zero_le hx
  obtain ⟨k, rfl⟩ := Int.eq_ofNat_of_zero_le hk
  exact spread_uint32_n n (by omega) k (by omega) w

set_option maxHeartbeats 400000 in
theorem spread_uint64_n (n : Nat) (hn : n < 18446744073709551616) (k : Nat) (hk : k ≤ 8) (w : World) :
    Calls Try.prog 152 #[.int .u64 n, .int .i64 k] w (Ret (str (be n k)) w) := by
  have hmk := run_make_row' (P := Try.prog) 73 5 (.int .u8 0) 1 Try.underlying73 infoByte rfl .i64 .i64 k (by omega) (by omega)
  go_enter Try.func152, Try.ntmps152
  go_wp2
  go_loopw [11] (fun i wr => ∃ j : Nat, j ≤ k ∧ i = .int .i64 j ∧ Ext w wr ∧ wr.rowIs w.heap.size 5 k (fun a => .int .u8 ((if a < j then beC n k a else 0 : Nat) : Int))) (fun i _ => k - (intOf i).toNat)
  case atStart => exact ⟨0, Nat.zero_le _, rfl, (Mod.refl _ _).alloc _, (World.rowIs_made w _ k 5).congr (by intros; simp)⟩
  case round =>
    obtain ⟨j, hj, rfl, hb, hrow⟩ := hrel
    by_cases hlt : j < k
    · have hcell : wr.cell? ⟨w.heap.size, j, none⟩ = some (.int .u8 0) := by simpa using hrow.cell hlt
      have hfr := hrow.frozen j
      go_wp2
      go_roundw
      case rel => exact ⟨j + 1, by omega, by go_num, hb.setCell (.inr (Nat.le_refl _)) _, by simpa [beC] using rel_step hrow⟩
      case measure => simp [intOf]; omega
    · obtain rfl : j = k := by omega
      have hrow2 := hrow.congr (g := fun a => .int .u8 ((beC n j a : Nat) : Int)) (fun i hi => by simp [hi])
      have hconv := run_row_string (P := Try.prog) wr 73 9 5 Try.underlying73 Try.underlying5 Try.underlying9 _ _ _ j _ hrow2
      clear hrow hrow2
      go_wp2
      go_ret
      exact ⟨rfl, hb⟩
theorem spread_uint64 (x k : Int) (hx : 0 ≤ x) (hx1 : x < 18446744073709551616) (hk : 0 ≤ k) (hk8 : k ≤ 8) (w : World) :
    Calls Try.prog 152 #[.int .u64 x, .int .i64 k] w (Ret (str (be x.toNat k.toNat)) w) := by
  obtain ⟨n, rfl⟩ := Int.eq_ofNat_of_zero_le hx
  obtain ⟨k, rfl⟩ := Int.eq_ofNat_of_zero_le hk
  exact spread_uint64_n n (by omega) k (by omega) w

end Go.Proofs.Ytogjghmoankleaa


namespace Go.Proofs.Ytogjghmoankleaa
open Go.RowKit
set_option linter.unusedVariables false
set_option linter.unusedSimpArgs false

theorem or_small : ∀ m : Fin 8, ∀ k : Fin 32, bits .or .u8 ((m.val : Int) * 32) (k.val : Int) = ((32 * m.val + k.val : Nat) : Int) := by decide +kernel
theorem or_u8 (m : Nat) (k : Int) (hm : m ≤ 7) (h0 : 0 ≤ k) (hk : k < 32) : bits .or .u8 ((m : Int) * 32) k = 32 * (m : Int) + k := by
  obtain ⟨k, rfl⟩ := Int.eq_ofNat_of_zero_le h0
  have := or_small ⟨m, by omega⟩ ⟨k, by omega⟩
  simpa using this
theorem convByte : ∀ (a : Addr) (c : Nat) (w : World), (convert 73 9 (.slice (some a) 1 c)).run Try.prog w =
      match w.cell? a with
      | some (.int .u8 x) => .ok (str [b8i x]) w
      | _ => (Conv.bytesToString (.slice (some a) 1 c)).run Try.prog w :=
  run_byte_string (P := Try.prog) 73 9 5 Try.underlying73 Try.underlying5 Try.underlying9

def mjr (m : Int) : Nat := if 0 ≤ m ∧ m ≤ 7 then m.toNat else 0
theorem mjr_le (m : Int) : mjr m ≤ 7 := by unfold mjr; split <;> omega
def mjB (m : Int) : Bool := decide (m < 0) || decide (7 < m)
theorem mj_bool {b c : Bool} (h : b = c) : Value.bool b = .bool c := by rw [h]
theorem mjr_out {m : Int} (h : mjB m = true) : Value.int .i64 0 = .int .i64 ((mjr m : Nat) : Int) := by
  unfold mjr; unfold mjB at h; simp at h; rw [if_neg (by omega)]; rfl
theorem mjr_in {m : Int} (h : mjB m = false) : Value.int .i64 m = .int .i64 ((mjr m : Nat) : Int) := by
  unfold mjr; unfold mjB at h; simp at h; rw [if_pos ⟨h.1, h.2⟩]; congr 1; omega

set_option maxHeartbeats 400000 in
theorem head_24 (x : Int) (n : Nat) (hn : n < 24) (w : World) :
    Calls Try.prog 127 #[.int .i64 x, .int .u64 n] w (Ret (str [b8 (32 * mjr x + n)]) w) := by
  go_enter Try.func127, Try.ntmps127
  go_upto_region 1 with fail
  go_cut [11] (fun s wx => s = .bool (mjB x) ∧ wx = w)
  case first =>
    go_wp2
    all_goals (go_meet; exact ⟨mj_bool (by unfold mjB; simp [*]), rfl⟩)
  obtain ⟨rfl, rfl⟩ := hcut
  go_upto_if 11 with fail
  go_cut [0] (fun s0 wx => s0 = .int .i64 ((mjr x : Nat) : Int) ∧ wx = wc)
  case first =>
    cases h : mjB x
    · go_wp2
      go_meet
      exact ⟨mjr_in h, rfl⟩
    · go_wp2
      go_meet
      exact ⟨mjr_out h, rfl⟩
  obtain ⟨rfl, rfl⟩ := hcut
  have hm := mjr_le x
  generalize mjr x = m at *
  have h2 : (decide ((n : Int) < 24)) = true := by simp; omega
  have hor := or_u8 m n hm (by omega) (by omega)
  have hcv := convByte
  have hb8 : ∀ m n : Nat, b8i (32 * (m : Int) + n) = b8 (32 * m + n) := fun m n => by unfold b8i b8; congr 1
  go_wp2
  go_ret
  exact ⟨rfl, (Mod.refl _ _).alloc _⟩

set_option maxHeartbeats 400000 in
theorem head_c24 (x : Int) (n : Nat) (h24 : Hid (24 ≤ n)) (hn : Hid (n < 256)) (w : World) :
    Calls Try.prog 127 #[.int .i64 x, .int .u64 n] w (Ret (str (b8 (32 * mjr x + 24) :: be n 1)) w) := by
  go_enter Try.func127, Try.ntmps127
  go_upto_region 1 with fail
  go_cut [11] (fun s wx => s = .bool (mjB x) ∧ wx = w)
  case first =>
    go_wp2
    all_goals (go_meet; exact ⟨mj_bool (by unfold mjB; simp [*]), rfl⟩)
  obtain ⟨rfl, rfl⟩ := hcut
  go_upto_if 11 with fail
  go_cut [0] (fun s0 wx => s0 = .int .i64 ((mjr x : Nat) : Int) ∧ wx = wc)
  case first =>
    cases h : mjB x
    · go_wp2
      go_meet
      exact ⟨mjr_in h, rfl⟩
    · go_wp2
      go_meet
      exact ⟨mjr_out h, rfl⟩
  obtain ⟨rfl, rfl⟩ := hcut
  have hm := mjr_le x
  generalize mjr x = m at *
  have t0 : (decide ((n : Int) < 24)) = false := by have := h24.out; have := hn.out; simp; omega
  have t1 : (decide ((n : Int) < 256)) = true := by have := h24.out; have := hn.out; simp; omega
  have hor := or_u8 m 24 hm (by omega) (by omega)
  have hcv := convByte
  have hb8 : ∀ m : Nat, b8i (32 * (m : Int) + 24) = b8 (32 * m + 24) := fun m => by unfold b8i b8; congr 1
  have hbl := be_length
  have hw8 : IntKind.u8.wrap (n : Int) = n := by have := hn.out; rw [IntKind.wrap_u8]; omega
  go_wp2
  clear t0 t1
  go_region_with ((go_at_call 149; refine (spread_uint8 _ _ (by have := hn.out; omega) (by have := hn.out; omega) (by omega) (by omega) _).mono ?_; rintro e w' ⟨rfl, hb⟩; obtain ⟨hc, hf⟩ := ext_cells hb))
  all_goals go_wp2
  all_goals go_ret
  all_goals refine ⟨congrArg Ending.returned (str_app [_] _), ?_⟩
  all_goals clear hc hf
  all_goals repeat (first | exact Mod.refl _ _ | apply Mod.drew | apply Mod.alloc | (refine Mod.trans ?_ hb; clear hb))

set_option maxHeartbeats 400000 in
theorem head_c25 (x : Int) (n : Nat) (h24 : Hid (256 ≤ n)) (hn : Hid (n < 65536)) (w : World) :
    Calls Try.prog 127 #[.int .i64 x, .int .u64 n] w (Ret (str (b8 (32 * mjr x + 25) :: be n 2)) w) := by
  go_enter Try.func127, Try.ntmps127
  go_upto_region 1 with fail
  go_cut [11] (fun s wx => s = .bool (mjB x) ∧ wx = w)
  case first =>
    go_wp2
    all_goals (go_meet; exact ⟨mj_bool (by unfold mjB; simp [*]), rfl⟩)
  obtain ⟨rfl, rfl⟩ := hcut
  go_upto_if 11 with fail
  go_cut [0] (fun s0 wx => s0 = .int .i64 ((mjr x : Nat) : Int) ∧ wx = wc)
  case first =>
    cases h : mjB x
    · go_wp2
      go_meet
      exact ⟨mjr_in h, rfl⟩
    · go_wp2
      go_meet
      exact ⟨mjr_out h, rfl⟩
  obtain ⟨rfl, rfl⟩ := hcut
  have hm := mjr_le x
  generalize mjr x = m at *
  have t0 : (decide ((n : Int) < 24)) = false := by have := h24.out; have := hn.out; simp; omega
  have t1 : (decide ((n : Int) < 256)) = false := by have := h24.out; have := hn.out; simp; omega
  have t2 : (decide ((n : Int) < 65536)) = true := by have := h24.out; have := hn.out; simp; omega
  have hor := or_u8 m 25 hm (by omega) (by omega)
  have hcv := convByte
  have hb8 : ∀ m : Nat, b8i (32 * (m : Int) + 25) = b8 (32 * m + 25) := fun m => by unfold b8i b8; congr 1
  have hbl := be_length
  have hw8 : IntKind.u16.wrap (n : Int) = n := by have := hn.out; rw [IntKind.wrap_u16]; omega
  go_wp2
  clear t0 t1 t2
  go_region_with ((go_at_call 150; refine (spread_uint16 _ _ (by have := hn.out; omega) (by have := hn.out; omega) (by omega) (by omega) _).mono ?_; rintro e w' ⟨rfl, hb⟩; obtain ⟨hc, hf⟩ := ext_cells hb))
  all_goals go_wp2
  all_goals go_ret
  all_goals refine ⟨congrArg Ending.returned (str_app [_] _), ?_⟩
  all_goals clear hc hf
  all_goals repeat (first | exact Mod.refl _ _ | apply Mod.drew | apply Mod.alloc | (refine Mod.trans ?_ hb; clear hb))

set_option maxHeartbeats 400000 in
theorem head_c26 (x : Int) (n : Nat) (h24 : Hid (65536 ≤ n)) (hn : Hid (n < 4294967296)) (w : World) :
    Calls Try.prog 127 #[.int .i64 x, .int .u64 n] w (Ret (str (b8 (32 * mjr x + 26) :: be n 4)) w) := by
  go_enter Try.func127, Try.ntmps127
  go_upto_region 1 with fail
  go_cut [11] (fun s wx => s = .bool (mjB x) ∧ wx = w)
  case first =>
    go_wp2
    all_goals (go_meet; exact ⟨mj_bool (by unfold mjB; simp [*]), rfl⟩)
  obtain ⟨rfl, rfl⟩ := hcut
  go_upto_if 11 with fail
  go_cut [0] (fun s0 wx => s0 = .int .i64 ((mjr x : Nat) : Int) ∧ wx = wc)
  case first =>
    cases h : mjB x
    · go_wp2
      go_meet
      exact ⟨mjr_in h, rfl⟩
    · go_wp2
      go_meet
      exact ⟨mjr_out h, rfl⟩
  obtain ⟨rfl, rfl⟩ := hcut
  have hm := mjr_le x
  generalize mjr x = m at *
  have t0 : (decide ((n : Int) < 24)) = false := by have := h24.out; have := hn.out; simp; omega
  have t1 : (decide ((n : Int) < 256)) = false := by have := h24.out; have := hn.out; simp; omega
  have t2 : (decide ((n : Int) < 65536)) = false := by have := h24.out; have := hn.out; simp; omega
  have t3 : (decide ((n : Int) < 4294967296)) = true := by have := h24.out; have := hn.out; simp; omega
  have hor := or_u8 m 26 hm (by omega) (by omega)
  have hcv := convByte
  have hb8 : ∀ m : Nat, b8i (32 * (m : Int) + 26) = b8 (32 * m + 26) := fun m => by unfold b8i b8; congr 1
  have hbl := be_length
  have hw8 : IntKind.u32.wrap (n : Int) = n := by have := hn.out; rw [IntKind.wrap_u32]; omega
  go_wp2
  clear t0 t1 t2 t3
  go_region_with ((go_at_call 151; refine (spread_uint32 _ _ (by have := hn.out; omega) (by have := hn.out; omega) (by omega) (by omega) _).mono ?_; rintro e w' ⟨rfl, hb⟩; obtain ⟨hc, hf⟩ := ext_cells hb))
  all_goals go_wp2
  all_goals go_ret
  all_goals refine ⟨congrArg Ending.returned (str_app [_] _), ?_⟩
  all_goals clear hc hf
  all_goals repeat (first | exact Mod.refl _ _ | apply Mod.drew | apply Mod.alloc | (refine Mod.trans ?_ hb; clear hb))

set_option maxHeartbeats 400000 in
theorem head_c27 (x : Int) (n : Nat) (h24 : Hid (4294967296 ≤ n)) (hn : Hid (n < 18446744073709551616)) (w : World) :
    Calls Try.prog 127 #[.int .i64 x, .int .u64 n] w (Ret (str (b8 (32 * mjr x + 27) :: be n 8)) w) := by
  go_enter Try.func127, Try.ntmps127
  go_upto_region 1 with fail
  go_cut [11] (fun s wx => s = .bool (mjB x) ∧ wx = w)
  case first =>
    go_wp2
    all_goals (go_meet; exact ⟨mj_bool (by unfold mjB; simp [*]), rfl⟩)
  obtain ⟨rfl, rfl⟩ := hcut
  go_upto_if 11 with fail
  go_cut [0] (fun s0 wx => s0 = .int .i64 ((mjr x : Nat) : Int) ∧ wx = wc)
  case first =>
    cases h : mjB x
    · go_wp2
      go_meet
      exact ⟨mjr_in h, rfl⟩
    · go_wp2
      go_meet
      exact ⟨mjr_out h, rfl⟩
  obtain ⟨rfl, rfl⟩ := hcut
  have hm := mjr_le x
  generalize mjr x = m at *
  have t0 : (decide ((n : Int) < 24)) = false := by have := h24.out; have := hn.out; simp; omega
  have t1 : (decide ((n : Int) < 256)) = false := by have := h24.out; have := hn.out; simp; omega
  have t2 : (decide ((n : Int) < 65536)) = false := by have := h24.out; have := hn.out; simp; omega
  have t3 : (decide ((n : Int) < 4294967296)) = false := by have := h24.out; have := hn.out; simp; omega
  have hor := or_u8 m 27 hm (by omega) (by omega)
  have hcv := convByte
  have hb8 : ∀ m : Nat, b8i (32 * (m : Int) + 27) = b8 (32 * m + 27) := fun m => by unfold b8i b8; congr 1
  have hbl := be_length
  go_wp2
  clear t0 t1 t2 t3
  go_region_with ((go_at_call 152; refine (spread_uint64 _ _ (by have := hn.out; omega) (by have := hn.out; omega) (by omega) (by omega) _).mono ?_; rintro e w' ⟨rfl, hb⟩; obtain ⟨hc, hf⟩ := ext_cells hb))
  all_goals go_wp2
  all_goals go_ret
  all_goals refine ⟨congrArg Ending.returned (str_app [_] _), ?_⟩
  all_goals clear hc hf
  all_goals repeat (first | exact Mod.refl _ _ | apply Mod.drew | apply Mod.alloc | (refine Mod.trans ?_ hb; clear hb))

theorem head_any (m n : Int) (hn0 : 0 ≤ n) (hn1 : n < 18446744073709551616) (w : World) :
    Calls Try.prog 127 #[.int .i64 m, .int .u64 n] w (Ret (str (headL (mjr m) n.toNat)) w) := by
  obtain ⟨n, rfl⟩ := Int.eq_ofNat_of_zero_le hn0
  rw [Int.toNat_natCast]
  unfold headL
  by_cases a : n < 24
  · rw [if_pos a]; exact head_24 m n a w
  rw [if_neg a]
  by_cases b : n < 256
  · rw [if_pos b]; exact head_c24 m n (Nat.le_of_not_lt a) b w
  rw [if_neg b]
  by_cases c : n < 65536
  · rw [if_pos c]; exact head_c25 m n (Nat.le_of_not_lt b) c w
  rw [if_neg c]
  by_cases d : n < 4294967296
  · rw [if_pos d]; exact head_c26 m n (Nat.le_of_not_lt c) d w
  rw [if_neg d]; exact head_c27 m n (Nat.le_of_not_lt d) (by unfold Hid; omega) w

theorem head_in (m n : Int) (h0 : 0 ≤ m) (h7 : m ≤ 7) (hn0 : 0 ≤ n) (hn1 : n < 18446744073709551616) (w : World) :
    Calls Try.prog 127 #[.int .i64 m, .int .u64 n] w (Ret (str (headL m.toNat n.toNat)) w) := by
  have e : mjr m = m.toNat := by unfold mjr; rw [if_pos ⟨h0, h7⟩]
  rw [← e]; exact head_any m n hn0 hn1 w
end Go.Proofs.Ytogjghmoankleaa


namespace Go.Proofs.Ytogjghmoankleaa
open Go.RowKit
set_option linter.unusedVariables false
set_option linter.unusedSimpArgs false

theorem ret_bool {b c : Bool} (h : b = c) : Ending.returned (.bool b) = .returned (.bool c) := by rw [h]
set_option maxHeartbeats 400000 in
theorem opens_any (m : Int) (w : World) : Calls Try.prog 153 #[.int .i64 m] w fun e w' => e = .returned (.bool (opensB m)) ∧ w = w' := by
  go_enter Try.func153, Try.ntmps153
  go_wp2
  all_goals go_ret
  all_goals exact ⟨ret_bool (by unfold opensB; rw [Bool.eq_iff_iff]; simp [*]; try omega), rfl⟩

theorem open_bits : ∀ m : Fin 8, bits .or .i64 ((m.val : Int) * 32) 31 = (m.val : Int) * 32 + 31 := by decide +kernel
set_option maxHeartbeats 400000 in
theorem open_yes (m : Nat) (h : opensB m = true) (w : World) : Calls Try.prog 130 #[.int .i64 m] w (Ret (str (openL m)) w) := by
  have hm : 2 ≤ m ∧ m ≤ 7 := by unfold opensB at h; simp at h; omega
  obtain ⟨h2, h7⟩ := hm
  have ho := open_bits ⟨m, by omega⟩
  dsimp only at ho
  have e : openL m = [b8i ((m : Int) * 32 + 31)] := by
    unfold openL b8 b8i; rw [if_pos h]; congr 2; omega
  have hcv := convByte
  rw [e]
  have hw : 0 ≤ (m : Int) * 32 + 31 := by omega
  go_enter Try.func130, Try.ntmps130
  go_wp2_with (go_at_call 153; refine (opens_any _ _).mono ?_; rintro e w' ⟨rfl, rfl⟩)
  go_ret
  exact ⟨rfl, (Mod.refl _ _).alloc _⟩
set_option maxHeartbeats 400000 in
theorem open_no (m : Int) (h : opensB m = false) (w : World) : Calls Try.prog 130 #[.int .i64 m] w (Ret (str (openL m)) w) := by
  have e : openL m = [] := by unfold openL; simp [h]
  rw [e]
  go_enter Try.func130, Try.ntmps130
  go_wp2_with (go_at_call 153; refine (opens_any _ _).mono ?_; rintro e w' ⟨rfl, rfl⟩)
  go_ret
  exact ⟨rfl, Mod.refl _ _⟩
theorem open_any (m : Int) (w : World) : Calls Try.prog 130 #[.int .i64 m] w (Ret (str (openL m)) w) := by
  cases h : opensB m with
  | false => exact open_no m h w
  | true =>
    have : 0 ≤ m := by unfold opensB at h; simp at h; omega
    obtain ⟨n, rfl⟩ := Int.eq_ofNat_of_zero_le this
    exact open_yes n h w

/-- The cells of a reader. -/
def rdr (s : List UInt8) (at_ bad e from_ : Int) : Array Value := #[str s, .int .i64 at_, .int .i64 bad, .int .i64 e, .int .i64 from_]
set_option maxHeartbeats 400000 in
theorem newReader_any (s : List UInt8) (w : World) : Calls Try.prog 134 #[str s] w fun e w' =>
    e = .returned (.pointer (some ⟨w.heap.size, 0, none⟩)) ∧ w' = w.alloc (.cells (rdr s 0 (-1) 0 0) 181) := by
  go_enter Try.func134, Try.ntmps134
  go_wp2
  go_ret
  exact ⟨rfl, rfl⟩
end Go.Proofs.Ytogjghmoankleaa


namespace Go.Proofs.Ytogjghmoankleaa
open Go.RowKit
set_option linter.unusedVariables false
set_option linter.unusedSimpArgs false

theorem digits_str {n j q : Nat} (h : n / 2 ^ (8 * j) = q) : Value.string ((⟨#[b8i ((q : Int) % 256)]⟩ : ByteArray) ++ ⟨(be n j).toArray⟩) = str (be n (j + 1)) := by
  rw [be_succ, h]; exact str_app [_] _
theorem digits_num {n j q : Nat} (hn : n < 18446744073709551616) (h : n / 2 ^ (8 * j) = q) : Value.int .u64 (IntKind.u64.wrap ((q : Int) / 256)) = .int .u64 ((n / 2 ^ (8 * (j + 1)) : Nat) : Int) := by
  have hq : q ≤ n := by rw [← h]; exact Nat.div_le_self _ _
  rw [IntWalk.u64_in _ (by omega), Nat.mul_add, Nat.pow_add, ← Nat.div_div_eq_div_mul, h]; rfl

set_option maxHeartbeats 400000 in
theorem digits_n (n : Nat) (hn : Hid (n < 18446744073709551616)) (k : Nat) (hk : k ≤ 8) (w : World) :
    Calls Try.prog 93 #[.int .u64 n, .int .i64 k] w (Ret (str (be n k)) w) := by
  have hcv := convByte
  go_enter Try.func93, Try.ntmps93
  go_wp2
  go_loopw [0, 5, 6] (fun x s i wr => ∃ j : Nat, j ≤ k ∧ i = .int .i64 j ∧ s = str (be n j) ∧ x = .int .u64 ((n / 2 ^ (8 * j) : Nat) : Int) ∧ Ext w wr) (fun _ _ i _ => k - (intOf i).toNat)
  case atStart => exact ⟨0, Nat.zero_le _, rfl, rfl, by simp, Mod.refl _ _⟩
  case round =>
    obtain ⟨j, hj, rfl, rfl, rfl, hb⟩ := hrel
    have hbl := be_length n j
    generalize hq : n / 2 ^ (8 * j) = q
    have HQ := hid hq; clear hq
    by_cases hlt : j < k
    · go_wp2
      go_roundw
      case rel => exact ⟨j + 1, by omega, by go_num, digits_str HQ.out, digits_num hn.out HQ.out, hb.alloc _⟩
      case measure => simp [intOf]; omega
    · obtain rfl : j = k := by omega
      go_wp2
      go_ret
      exact ⟨rfl, hb⟩
theorem digits_any (x k : Int) (hx : 0 ≤ x) (hx1 : x < 18446744073709551616) (hk : 0 ≤ k) (hk8 : k ≤ 8) (w : World) :
    Calls Try.prog 93 #[.int .u64 x, .int .i64 k] w (Ret (str (be x.toNat k.toNat)) w) := by
  obtain ⟨n, rfl⟩ := Int.eq_ofNat_of_zero_le hx
  obtain ⟨k, rfl⟩ := Int.eq_ofNat_of_zero_le hk
  exact digits_n n (by unfold Hid; omega) k (by omega) w

set_option maxHeartbeats 400000 in
theorem rhead_24 (m : Nat) (hm : m ≤ 7) (n : Nat) (hn : n < 24) (w : World) :
    Calls Try.prog 55 #[.int .i64 m, .int .u64 n] w (Ret (str [b8 (32 * m + n)]) w) := by
  have h2 : (decide ((n : Int) < 24)) = true := by simp; omega
  have hcv := convByte
  have hb8 : ∀ m n : Nat, b8i (32 * (m : Int) + n) = b8 (32 * m + n) := fun m n => by unfold b8i b8; congr 1
  go_enter Try.func55, Try.ntmps55
  go_wp2
  go_ret
  exact ⟨rfl, (Mod.refl _ _).alloc _⟩

set_option maxHeartbeats 400000 in
theorem rhead_c24 (m : Nat) (hm : m ≤ 7) (n : Nat) (h24 : Hid (24 ≤ n)) (hn : Hid (n < 256)) (w : World) :
    Calls Try.prog 55 #[.int .i64 m, .int .u64 n] w (Ret (str (b8 (32 * m + 24) :: be n 1)) w) := by
  have t0 : (decide ((n : Int) < 24)) = false := by have := h24.out; have := hn.out; simp; omega
  have t1 : (decide ((n : Int) < 256)) = true := by have := h24.out; have := hn.out; simp; omega
  have hcv := convByte
  have hb8 : ∀ m : Nat, b8i (32 * (m : Int) + 24) = b8 (32 * m + 24) := fun m => by unfold b8i b8; congr 1
  have hbl := be_length
  have hww : IntKind.u8.wrap (32 * (m : Int) + 24) = 32 * (m : Int) + 24 := by rw [IntKind.wrap_u8]; omega
  go_enter Try.func55, Try.ntmps55
  go_wp2
  clear t0 t1
  go_region_with ((go_at_call 93; refine (digits_any _ _ (by have := hn.out; omega) (by have := hn.out; omega) (by omega) (by omega) _).mono ?_; rintro e w' ⟨rfl, hb⟩; obtain ⟨hc, hf⟩ := ext_cells hb))
  all_goals go_wp2
  all_goals go_ret
  all_goals refine ⟨congrArg Ending.returned (str_app [_] _), ?_⟩
  all_goals clear hc hf
  all_goals repeat (first | exact Mod.refl _ _ | apply Mod.drew | apply Mod.alloc | (refine Mod.trans ?_ hb; clear hb))

set_option maxHeartbeats 400000 in
theorem rhead_c25 (m : Nat) (hm : m ≤ 7) (n : Nat) (h24 : Hid (256 ≤ n)) (hn : Hid (n < 65536)) (w : World) :
    Calls Try.prog 55 #[.int .i64 m, .int .u64 n] w (Ret (str (b8 (32 * m + 25) :: be n 2)) w) := by
  have t0 : (decide ((n : Int) < 24)) = false := by have := h24.out; have := hn.out; simp; omega
  have t1 : (decide ((n : Int) < 256)) = false := by have := h24.out; have := hn.out; simp; omega
  have t2 : (decide ((n : Int) < 65536)) = true := by have := h24.out; have := hn.out; simp; omega
  have hcv := convByte
  have hb8 : ∀ m : Nat, b8i (32 * (m : Int) + 25) = b8 (32 * m + 25) := fun m => by unfold b8i b8; congr 1
  have hbl := be_length
  have hww : IntKind.u8.wrap (32 * (m : Int) + 25) = 32 * (m : Int) + 25 := by rw [IntKind.wrap_u8]; omega
  go_enter Try.func55, Try.ntmps55
  go_wp2
  clear t0 t1 t2
  go_region_with ((go_at_call 93; refine (digits_any _ _ (by have := hn.out; omega) (by have := hn.out; omega) (by omega) (by omega) _).mono ?_; rintro e w' ⟨rfl, hb⟩; obtain ⟨hc, hf⟩ := ext_cells hb))
  all_goals go_wp2
  all_goals go_ret
  all_goals refine ⟨congrArg Ending.returned (str_app [_] _), ?_⟩
  all_goals clear hc hf
  all_goals repeat (first | exact Mod.refl _ _ | apply Mod.drew | apply Mod.alloc | (refine Mod.trans ?_ hb; clear hb))

set_option maxHeartbeats 400000 in
theorem rhead_c26 (m : Nat) (hm : m ≤ 7) (n : Nat) (h24 : Hid (65536 ≤ n)) (hn : Hid (n < 4294967296)) (w : World) :
    Calls Try.prog 55 #[.int .i64 m, .int .u64 n] w (Ret (str (b8 (32 * m + 26) :: be n 4)) w) := by
  have t0 : (decide ((n : Int) < 24)) = false := by have := h24.out; have := hn.out; simp; omega
  have t1 : (decide ((n : Int) < 256)) = false := by have := h24.out; have := hn.out; simp; omega
  have t2 : (decide ((n : Int) < 65536)) = false := by have := h24.out; have := hn.out; simp; omega
  have t3 : (decide ((n : Int) < 4294967296)) = true := by have := h24.out; have := hn.out; simp; omega
  have hcv := convByte
  have hb8 : ∀ m : Nat, b8i (32 * (m : Int) + 26) = b8 (32 * m + 26) := fun m => by unfold b8i b8; congr 1
  have hbl := be_length
  have hww : IntKind.u8.wrap (32 * (m : Int) + 26) = 32 * (m : Int) + 26 := by rw [IntKind.wrap_u8]; omega
  go_enter Try.func55, Try.ntmps55
  go_wp2
  clear t0 t1 t2 t3
  go_region_with ((go_at_call 93; refine (digits_any _ _ (by have := hn.out; omega) (by have := hn.out; omega) (by omega) (by omega) _).mono ?_; rintro e w' ⟨rfl, hb⟩; obtain ⟨hc, hf⟩ := ext_cells hb))
  all_goals go_wp2
  all_goals go_ret
  all_goals refine ⟨congrArg Ending.returned (str_app [_] _), ?_⟩
  all_goals clear hc hf
  all_goals repeat (first | exact Mod.refl _ _ | apply Mod.drew | apply Mod.alloc | (refine Mod.trans ?_ hb; clear hb))

set_option maxHeartbeats 400000 in
theorem rhead_c27 (m : Nat) (hm : m ≤ 7) (n : Nat) (h24 : Hid (4294967296 ≤ n)) (hn : Hid (n < 18446744073709551616)) (w : World) :
    Calls Try.prog 55 #[.int .i64 m, .int .u64 n] w (Ret (str (b8 (32 * m + 27) :: be n 8)) w) := by
  have t0 : (decide ((n : Int) < 24)) = false := by have := h24.out; have := hn.out; simp; omega
  have t1 : (decide ((n : Int) < 256)) = false := by have := h24.out; have := hn.out; simp; omega
  have t2 : (decide ((n : Int) < 65536)) = false := by have := h24.out; have := hn.out; simp; omega
  have t3 : (decide ((n : Int) < 4294967296)) = false := by have := h24.out; have := hn.out; simp; omega
  have hcv := convByte
  have hb8 : ∀ m : Nat, b8i (32 * (m : Int) + 27) = b8 (32 * m + 27) := fun m => by unfold b8i b8; congr 1
  have hbl := be_length
  have hww : IntKind.u8.wrap (32 * (m : Int) + 27) = 32 * (m : Int) + 27 := by rw [IntKind.wrap_u8]; omega
  go_enter Try.func55, Try.ntmps55
  go_wp2
  clear t0 t1 t2 t3
  go_region_with ((go_at_call 93; refine (digits_any _ _ (by have := hn.out; omega) (by have := hn.out; omega) (by omega) (by omega) _).mono ?_; rintro e w' ⟨rfl, hb⟩; obtain ⟨hc, hf⟩ := ext_cells hb))
  all_goals go_wp2
  all_goals go_ret
  all_goals refine ⟨congrArg Ending.returned (str_app [_] _), ?_⟩
  all_goals clear hc hf
  all_goals repeat (first | exact Mod.refl _ _ | apply Mod.drew | apply Mod.alloc | (refine Mod.trans ?_ hb; clear hb))

theorem rhead_in (m n : Int) (h0 : 0 ≤ m) (h7 : m ≤ 7) (hn0 : 0 ≤ n) (hn1 : n < 18446744073709551616) (w : World) :
    Calls Try.prog 55 #[.int .i64 m, .int .u64 n] w (Ret (str (headL m.toNat n.toNat)) w) := by
  obtain ⟨m, rfl⟩ := Int.eq_ofNat_of_zero_le h0
  obtain ⟨n, rfl⟩ := Int.eq_ofNat_of_zero_le hn0
  rw [Int.toNat_natCast, Int.toNat_natCast]
  unfold headL
  by_cases a : n < 24
  · rw [if_pos a]; exact rhead_24 m (by omega) n a w
  rw [if_neg a]
  by_cases b : n < 256
  · rw [if_pos b]; exact rhead_c24 m (by omega) n (Nat.le_of_not_lt a) b w
  rw [if_neg b]
  by_cases c : n < 65536
  · rw [if_pos c]; exact rhead_c25 m (by omega) n (Nat.le_of_not_lt b) c w
  rw [if_neg c]
  by_cases d : n < 4294967296
  · rw [if_pos d]; exact rhead_c26 m (by omega) n (Nat.le_of_not_lt c) d w
  rw [if_neg d]; exact rhead_c27 m (by omega) n (Nat.le_of_not_lt d) (by unfold Hid; omega) w
end Go.Proofs.Ytogjghmoankleaa


namespace Go.Proofs.Ytogjghmoankleaa
open Go.RowKit
set_option linter.unusedVariables false
set_option linter.unusedSimpArgs false

set_option maxRecDepth 20000 in
set_option maxHeartbeats 1600000 in
theorem rRight_any (t : T) (hok : t.ok) (A : Option Addr) (c : Nat) (w : World) (h : IsL w (fun _ => True) t A) :
    Calls Try.prog 95 #[itemV t A c] w (Ret (.bool (t.right 8)) w) := by
  have H := hid h; have HO := hid hok
  have HR := hid (T.right_eq t 8)
  have HB : Hid (Blk (w.alloc (.cells (itemC t A c) 38)) w.heap.size 38 (itemC t A c)) := Blk.new _ _ _
  have HE0 := hid ((Mod.refl [] w).alloc (.cells (itemC t A c) 38))
  clear h hok
  go_enter Try.func95, Try.ntmps95
  go_wp2_with fail
  refine (Deep_any t 9 (by omega) HO.out A c _ (H.out.ext HE0.out)).mono ?_
  rintro e w2 ⟨rfl, hb2⟩
  have HE2 := hid (HE0.out.trans hb2)
  have hB2 := HB.out.ext hb2
  have c0 : w2.cell? ⟨w.heap.size, 0, none⟩ = some (.int .i64 t.kind) := hB2.cell 0
  have c1 : w2.cell? ⟨w.heap.size, 1, none⟩ = some (.int .u64 (t.n : Int)) := hB2.cell 1
  have c2 : w2.cell? ⟨w.heap.size, 2, none⟩ = some (str t.s) := hB2.cell 2
  have c3 : w2.cell? ⟨w.heap.size, 3, none⟩ = some (.slice A t.k c) := hB2.cell 3
  have c4 : w2.cell? ⟨w.heap.size, 4, none⟩ = some (.bool t.op) := hB2.cell 4
  by_cases hd : t.deep 9 ≤ 8
  · have HD := hid hd
    have td : decide (t.deep 9 ≤ 8) = true := by simp [hd]
    have td2 : decide ((t.deep 9 : Int) ≤ 8) = true := by simp; omega
    clear hd hb2 hB2
    go_wp2_with fail
    refine (plain_any t HO.out A c _ (H.out.ext HE2.out)).mono ?_
    rintro e w3 ⟨rfl, hb3⟩
    go_wp2_with fail
    go_ret
    exact Ret.mk (by rw [HR.out]; simp [HD.out]) (HE2.out.trans hb3)
  · have HD := hid hd
    have td : decide (t.deep 9 ≤ 8) = false := by simp; omega
    have td2 : decide ((t.deep 9 : Int) ≤ 8) = false := by simp; omega
    clear hd hb2 hB2
    go_wp2_with fail
    go_ret
    exact Ret.mk (by rw [HR.out]; simp [HD.out]) HE2.out

def few (t : T) (m : Nat) : Bool := decide (t.deep 9 ≤ 9) && decide (t.count m ≤ m)
set_option maxRecDepth 20000 in
set_option maxHeartbeats 1600000 in
theorem iFew_any (t : T) (m : Nat) (hm : m ≤ 100000) (hok : t.ok) (A : Option Addr) (c : Nat) (w : World) (h : IsL w (fun _ => True) t A) :
    Calls Try.prog 77 #[itemV t A c, .int .i64 (m : Int)] w (Ret (.bool (few t m)) w) := by
  have H := hid h; have HO := hid hok; have HM := hid hm
  have m0 : (0 : Int) ≤ (m : Int) := by omega
  have m1 : (m : Int) ≤ 100000 := by omega
  have HB : Hid (Blk (w.alloc (.cells (itemC t A c) 38)) w.heap.size 38 (itemC t A c)) := Blk.new _ _ _
  have HE0 := hid ((Mod.refl [] w).alloc (.cells (itemC t A c) 38))
  clear h hok hm
  go_enter Try.func77, Try.ntmps77
  go_wp2_with fail
  refine (Deep_any t 9 (by omega) HO.out A c _ (H.out.ext HE0.out)).mono ?_
  rintro e w2 ⟨rfl, hb2⟩
  have HE2 := hid (HE0.out.trans hb2)
  have hB2 := HB.out.ext hb2
  have c0 : w2.cell? ⟨w.heap.size, 0, none⟩ = some (.int .i64 t.kind) := hB2.cell 0
  have c1 : w2.cell? ⟨w.heap.size, 1, none⟩ = some (.int .u64 (t.n : Int)) := hB2.cell 1
  have c2 : w2.cell? ⟨w.heap.size, 2, none⟩ = some (str t.s) := hB2.cell 2
  have c3 : w2.cell? ⟨w.heap.size, 3, none⟩ = some (.slice A t.k c) := hB2.cell 3
  have c4 : w2.cell? ⟨w.heap.size, 4, none⟩ = some (.bool t.op) := hB2.cell 4
  by_cases hd : t.deep 9 ≤ 9
  · have HD := hid hd
    have td : decide (t.deep 9 ≤ 9) = true := by simp [hd]
    have td2 : decide ((t.deep 9 : Int) ≤ 9) = true := by simp; omega
    clear hd hb2 hB2
    go_wp2_with fail
    refine (Count_any t m HM.out HO.out A c _ (H.out.ext HE2.out)).mono ?_
    rintro e w3 ⟨rfl, hb3⟩
    go_wp2_with fail
    go_ret
    exact Ret.mk (by unfold few; simp [HD.out]) (HE2.out.trans hb3)
  · have HD := hid hd
    have td : decide (t.deep 9 ≤ 9) = false := by simp; omega
    have td2 : decide ((t.deep 9 : Int) ≤ 9) = false := by simp; omega
    clear hd hb2 hB2
    go_wp2_with fail
    go_ret
    exact Ret.mk (by unfold few; simp [HD.out]) HE2.out
theorem few_size {t : T} {m : Nat} (h : few t m = true) : t.size ≤ m ∧ t.deep 9 ≤ 9 := by
  unfold few at h
  simp at h
  rw [T.count_size t m h.2]
  exact ⟨h.2, h.1⟩

/-- What has been written of an array after its first j items. -/
def pre (kind : Int) (s : List UInt8) (op : Bool) (k : Nat) (ch : Nat → T) (j : Nat) : List UInt8 := (if op then [159] else headL 4 k) ++ T.cat (fun i => (ch i).bytes) j

theorem T.cat_mono {f : Nat → List UInt8} {j k : Nat} (h : j ≤ k) : (T.cat f j).length ≤ (T.cat f k).length := by
  induction k with
  | zero => have : j = 0 := by omega
            subst this; exact Nat.le_refl _
  | succ k ih =>
    by_cases e : j = k + 1
    · subst e; exact Nat.le_refl _
    · have := ih (by omega)
      rw [T.cat, List.length_append]; omega
theorem pre_succ (kind : Int) (s : List UInt8) (op : Bool) (k : Nat) (ch : Nat → T) (j : Nat) : pre kind s op k ch (j + 1) = pre kind s op k ch j ++ (ch j).bytes := by
  unfold pre; rw [T.cat, List.append_assoc]
theorem pre_le {n : Nat} {s : List UInt8} {op : Bool} {k : Nat} {ch : Nat → T} {j : Nat} (hj : j ≤ k) (h : (T.mk 4 n s op k ch).size ≤ 100000) : (pre 4 s op k ch j).length ≤ 1000000 := by
  have h1 := T.bytes_le (.mk 4 n s op k ch)
  have h2 : (T.mk 4 n s op k ch).bytes = (if op then [159] else headL 4 k) ++ (T.cat (fun i => (ch i).bytes) k ++ (if op then [255] else [])) := rfl
  have h3 := T.cat_mono (f := fun i => (ch i).bytes) hj
  rw [h2, List.length_append, List.length_append] at h1
  unfold pre
  rw [List.length_append]
  omega
theorem pre_end {n : Nat} {s : List UInt8} {op : Bool} {k : Nat} {ch : Nat → T} : (T.mk 4 n s op k ch).bytes = pre 4 s op k ch k ++ (if op then [255] else []) := by
  have h2 : (T.mk 4 n s op k ch).bytes = (if op then [159] else headL 4 k) ++ (T.cat (fun i => (ch i).bytes) k ++ (if op then [255] else [])) := rfl
  rw [h2, pre, List.append_assoc]

set_option maxRecDepth 20000 in
set_option maxHeartbeats 3200000 in
theorem rBytesI_any (t : T) : t.ok → t.plain = true → t.size ≤ 100000 → ∀ A c w, IsL w (fun _ => True) t A →
    Calls Try.prog 57 #[itemV t A c] w (Ret (str t.bytes) w) := by
  induction t with
  | nil => intro hok; cases hok
  | mk kind n s op k ch ih =>
    intro hok hpl hsz A c w h
    have H := hid h; have HO := hid hok; have HPL := hid hpl; have HSZ := hid hsz
    have HI := hid ih
    have hk : Hid (k < 4611686018427387904) := by unfold T.ok at hok; exact hok.2.2.2.1
    have hn64 : Hid (n < 18446744073709551616) := by unfold T.ok at hok; exact hok.2.1
    have hs64 : Hid (s.length < 4611686018427387904) := by unfold T.ok at hok; exact hok.2.2.1
    have hkd : kind = 0 ∨ kind = 2 ∨ kind = 3 ∨ kind = 4 := by unfold T.plain at hpl; rw [Bool.and_eq_true] at hpl; exact T.node_kind hpl.1
    have hpc : Hid (∀ i, i < k → (ch i).plain = true) := by unfold T.plain at hpl; rw [Bool.and_eq_true, T.all_iff] at hpl; exact hpl.2
    have HBL := hid (T.bytes_le (.mk kind n s op k ch))
    have hBy : (T.mk kind n s op k ch).bytes = if kind = 0 then headL 0 n else if kind < 4 then headL kind.toNat s.length ++ s else (if op then [159] else headL 4 k) ++ (T.cat (fun i => (ch i).bytes) k ++ (if op then [255] else [])) := rfl
    have HBy := hid hBy
    show Calls Try.prog 57 #[.agg #[.int .i64 kind, .int .u64 (n : Int), str s, .slice A k c, .bool op]] w (Ret (str (T.mk kind n s op k ch).bytes) w)
    have HB : Hid (Blk (w.alloc (.cells #[.int .i64 kind, .int .u64 (n : Int), str s, .slice A k c, .bool op] 38)) w.heap.size 38 #[.int .i64 kind, .int .u64 (n : Int), str s, .slice A k c, .bool op]) := Blk.new _ _ _
    have HE0 := hid ((Mod.refl [] w).alloc (.cells #[.int .i64 kind, .int .u64 (n : Int), str s, .slice A k c, .bool op] 38))
    clear h hok hpl hsz ih hBy
    by_cases k0 : kind = 0
    · subst k0
      rw [HBy.out, if_pos rfl]
      go_enter Try.func57, Try.ntmps57
      go_wp2_with fail
      refine (rhead_in 0 n (by omega) (by omega) (by omega) (by have := hn64.out; omega) _).mono ?_
      rintro e w2 ⟨rfl, hb2⟩
      go_wp2_with fail
      go_ret
      exact Ret.mk rfl (HE0.out.trans hb2)
    · by_cases k4 : kind < 4
      · rw [HBy.out, if_neg k0, if_pos k4]
        have b0 : (kind == 0) = false := by simp [k0]
        have b1 : (kind = 0) = False := by simp [k0]
        have b2 : decide (kind < 4) = true := by simp [k4]
        have HK : Hid (0 ≤ kind ∧ kind ≤ 3) := by unfold Hid; omega
        have s0 : (s.length : Int) < 9223372036854775808 := by have := hs64.out; omega
        have hno : (9223372036854775807 < (headL kind.toNat s.length).length + s.length) = False := by have := headL_le kind.toNat s.length; have := hs64.out; simp; omega
        clear k0 k4 hkd
        go_enter Try.func57, Try.ntmps57
        go_upto_region 1 with fail
        go_cut [5, 6, 7] (fun s5 s6 s7 wx => s7 = .bool false ∧ Hid (Ext w wx ∧ Blk wx w.heap.size 38 #[.int .i64 kind, .int .u64 (n : Int), str s, .slice A k c, .bool op]))
        case first =>
          go_wp2_with fail
          go_meet
          exact ⟨rfl, HE0.out, HB.out⟩
        obtain ⟨rfl, hX⟩ := hcut
        have HX : Hid (∀ W, Ext wc W → W.cell? ⟨w.heap.size, 0, none⟩ = some (.int .i64 kind) ∧ W.cell? ⟨w.heap.size, 2, none⟩ = some (str s)) := fun W hW => ⟨(hX.out.2.ext hW).cell 0, (hX.out.2.ext hW).cell 2⟩
        have tw : IntKind.u64.wrap (s.length : Int) = (s.length : Int) := IntWalk.u64_in _ (by have := hs64.out; omega)
        have y0 := (HX.out wc (Mod.refl _ _)).1
        have y2 := (HX.out wc (Mod.refl _ _)).2
        go_upto_region 4 with fail
        go_region_held3 (fun w' => w'.cell? ⟨w.heap.size, 0, none⟩ = some (.int .i64 kind) ∧ w'.cell? ⟨w.heap.size, 2, none⟩ = some (str s)) (go_keep)
          ((go_at_call 55; (try rw [tw]); refine (rhead_in kind (s.length : Int) HK.out.1 (by have := HK.out.2; omega) (by omega) (by have := hs64.out; omega) _).mono ?_; rintro e w3 ⟨rfl, hb3⟩; rw [Int.toNat_natCast]; have hx3 : Ext wc w3 := (by with_reducible refine Mod.trans ?_ hb3; (repeat (first | with_reducible assumption | with_reducible exact Mod.refl _ _ | with_reducible refine Mod.drew ?_))); have z0 := (HX.out w3 hx3).1; have z2 := (HX.out w3 hx3).2))
        all_goals go_wp2_with fail
        all_goals go_ret
        all_goals exact Ret.mk rfl (hX.out.1.trans hx3)
      · have hk4 : kind = 4 := by omega
        subst hk4
        clear HBy k0 k4 hkd HBL
        have K0 : (0 : Int) ≤ (k : Int) := by omega
        have K1 : (k : Int) < 9223372036854775808 := by have := hk.out; omega
        cases op
        · go_enter Try.func57, Try.ntmps57
          go_wp2_with fail
          refine (rhead_in 4 (k : Int) (by omega) (by omega) (by omega) (by have := hk.out; omega) _).mono ?_
          rintro e w2 ⟨rfl, hb2⟩
          rw [Int.toNat_natCast]
          have HE2 := hid (HE0.out.trans hb2)
          have HB2 := hid (HB.out.ext hb2)
          have c4 : w2.cell? ⟨w.heap.size, 4, none⟩ = some (.bool false) := HB2.out.cell 4
          clear hb2 K1
          go_wp2_with fail
          clear c4
          go_loopw [3, 4] (fun s3 s4 wr => ∃ i : Nat, i ≤ k ∧ s4 = .int .i64 (i : Int) ∧ s3 = str (pre 4 s false k ch i) ∧ Hid (Ext w wr ∧ Blk wr w.heap.size 38 #[.int .i64 4, .int .u64 (n : Int), str s, .slice A k c, .bool false])) (fun _ i _ => k - (intOf i).toNat)
          case atStart => exact ⟨0, Nat.zero_le _, rfl, by simp [pre, T.cat], HE2.out, HB2.out⟩
          case round =>
            obtain ⟨i, hi, rfl, rfl, hH⟩ := hrel
            have i0 : (0 : Int) ≤ (i : Int) := by omega
            have c3 : wr.cell? ⟨w.heap.size, 3, none⟩ = some (.slice A k c) := hH.out.2.cell 3
            have c4 : wr.cell? ⟨w.heap.size, 4, none⟩ = some (.bool false) := hH.out.2.cell 4
            have HP := hid (pre_le (op := false) hi HSZ.out)
            by_cases hlt : i < k
            · obtain ⟨b, o, Ai, ci, rfl, hb, ⟨k0, k1, k2, k3, k4⟩, hL⟩ := H.out.cells hH.out.1 hlt
              have i1 : (i : Int) < (k : Int) := by omega
              have ti : decide (i < k) = true := by simp [hlt]
              have HL := hid hL; have HLT := hid hlt
              have HOi : Hid (ch i).ok := by have := HO.out; unfold T.ok at this; exact this.2.2.2.2 i hlt
              have HZi : Hid ((ch i).size ≤ 100000) := Nat.le_trans (T.size_ch hlt) HSZ.out
              have HPS := hid (pre_succ 4 s false k ch i)
              have hno : (9223372036854775807 < (pre 4 s false k ch i).length + (ch i).bytes.length) = False := by
                have h1 := pre_le (op := false) (show i + 1 ≤ k by omega) HSZ.out
                rw [HPS.out, List.length_append] at h1
                simp; omega
              have hk2 : (k : Int) < 4611686018427387904 := by have := hk.out; omega
              clear hL hlt
              go_wp2_with fail
              refine (HI.out i HOi.out (hpc.out i HLT.out) HZi.out Ai ci _ HL.out).mono ?_
              rintro e w3 ⟨rfl, hb3⟩
              have HE3 := hid (hH.out.1.trans hb3)
              have HB3 := hid (hH.out.2.ext hb3)
              clear hb3
              go_wp2_with fail
              have hlt := HLT.out
              refine ⟨⟨i + 1, by omega, by simp, by rw [HPS.out]; exact str_app _ _, (show Hid _ from ⟨HE3.out, HB3.out⟩)⟩, ?_⟩
              simp only [intOf]; omega
            · obtain rfl : i = k := by omega
              have ti : decide (i < i) = false := by simp
              have HPE := hid (pre_end (n := n) (s := s) (op := false) (k := i) (ch := ch))
              have hno : (9223372036854775807 < (pre 4 s false i ch i).length + 1) = False := by have := HP.out; simp; omega
              go_wp2_with fail
              go_ret
              exact Ret.mk (by rw [HPE.out]; simp) hH.out.1
        · go_enter Try.func57, Try.ntmps57
          go_wp2_with fail
          refine (rhead_in 4 (k : Int) (by omega) (by omega) (by omega) (by have := hk.out; omega) _).mono ?_
          rintro e w2 ⟨rfl, hb2⟩
          rw [Int.toNat_natCast]
          have HE2 := hid (HE0.out.trans hb2)
          have HB2 := hid (HB.out.ext hb2)
          have c4 : w2.cell? ⟨w.heap.size, 4, none⟩ = some (.bool true) := HB2.out.cell 4
          clear hb2 K1
          go_wp2_with fail
          clear c4
          go_loopw [3, 4] (fun s3 s4 wr => ∃ i : Nat, i ≤ k ∧ s4 = .int .i64 (i : Int) ∧ s3 = str (pre 4 s true k ch i) ∧ Hid (Ext w wr ∧ Blk wr w.heap.size 38 #[.int .i64 4, .int .u64 (n : Int), str s, .slice A k c, .bool true])) (fun _ i _ => k - (intOf i).toNat)
          case atStart => exact ⟨0, Nat.zero_le _, rfl, by simp [pre, T.cat], HE2.out, HB2.out⟩
          case round =>
            obtain ⟨i, hi, rfl, rfl, hH⟩ := hrel
            have i0 : (0 : Int) ≤ (i : Int) := by omega
            have c3 : wr.cell? ⟨w.heap.size, 3, none⟩ = some (.slice A k c) := hH.out.2.cell 3
            have c4 : wr.cell? ⟨w.heap.size, 4, none⟩ = some (.bool true) := hH.out.2.cell 4
            have HP := hid (pre_le (op := true) hi HSZ.out)
            by_cases hlt : i < k
            · obtain ⟨b, o, Ai, ci, rfl, hb, ⟨k0, k1, k2, k3, k4⟩, hL⟩ := H.out.cells hH.out.1 hlt
              have i1 : (i : Int) < (k : Int) := by omega
              have ti : decide (i < k) = true := by simp [hlt]
              have HL := hid hL; have HLT := hid hlt
              have HOi : Hid (ch i).ok := by have := HO.out; unfold T.ok at this; exact this.2.2.2.2 i hlt
              have HZi : Hid ((ch i).size ≤ 100000) := Nat.le_trans (T.size_ch hlt) HSZ.out
              have HPS := hid (pre_succ 4 s true k ch i)
              have hno : (9223372036854775807 < (pre 4 s true k ch i).length + (ch i).bytes.length) = False := by
                have h1 := pre_le (op := true) (show i + 1 ≤ k by omega) HSZ.out
                rw [HPS.out, List.length_append] at h1
                simp; omega
              have hk2 : (k : Int) < 4611686018427387904 := by have := hk.out; omega
              clear hL hlt
              go_wp2_with fail
              refine (HI.out i HOi.out (hpc.out i HLT.out) HZi.out Ai ci _ HL.out).mono ?_
              rintro e w3 ⟨rfl, hb3⟩
              have HE3 := hid (hH.out.1.trans hb3)
              have HB3 := hid (hH.out.2.ext hb3)
              clear hb3
              go_wp2_with fail
              have hlt := HLT.out
              refine ⟨⟨i + 1, by omega, by simp, by rw [HPS.out]; exact str_app _ _, (show Hid _ from ⟨HE3.out, HB3.out⟩)⟩, ?_⟩
              simp only [intOf]; omega
            · obtain rfl : i = k := by omega
              have ti : decide (i < i) = false := by simp
              have HPE := hid (pre_end (n := n) (s := s) (op := true) (k := i) (ch := ch))
              have hno : (9223372036854775807 < (pre 4 s true i ch i).length + 1) = False := by have := HP.out; simp; omega
              go_wp2_with fail
              go_ret
              exact Ret.mk (by rw [HPE.out]; exact str_app _ [255]) hH.out.1
end Go.Proofs.Ytogjghmoankleaa


namespace Go.Proofs.Ytogjghmoankleaa
open Go.RowKit
set_option linter.unusedVariables false
set_option linter.unusedSimpArgs false

set_option maxRecDepth 20000 in
set_option maxHeartbeats 400000 in
theorem wBytes_any (l : List UInt8) (hl : Hid (l.length < 4611686018427387904)) (w : World) : Calls Try.prog 128 #[str l] w (Ret (str (headL 2 l.length ++ l)) w) := by
  have hw : IntKind.u64.wrap (l.length : Int) = (l.length : Int) := IntWalk.u64_in _ (by have := hl.out; omega)
  have hno : (9223372036854775807 < (headL 2 l.length).length + l.length) = False := by have h1 := hl.out; have h2 := headL_le 2 l.length; simp; omega
  go_enter Try.func128, Try.ntmps128
  go_wp2_with (go_at_call 127; refine (head_in _ _ (by omega) (by omega) (by omega) (by have := hl.out; omega) _).mono ?_; rintro x w1 ⟨rfl, hb⟩; simp only [Int.toNat_natCast, show Int.toNat 2 = 2 from rfl])
  go_ret
  exact Ret.mk (str_app _ _) hb

set_option maxRecDepth 20000 in
set_option maxHeartbeats 400000 in
theorem wText_any (l : List UInt8) (hl : Hid (l.length < 4611686018427387904)) (w : World) : Calls Try.prog 129 #[str l] w (Ret (str (headL 3 l.length ++ l)) w) := by
  have hw : IntKind.u64.wrap (l.length : Int) = (l.length : Int) := IntWalk.u64_in _ (by have := hl.out; omega)
  have hno : (9223372036854775807 < (headL 3 l.length).length + l.length) = False := by have h1 := hl.out; have h2 := headL_le 3 l.length; simp; omega
  go_enter Try.func129, Try.ntmps129
  go_wp2_with (go_at_call 127; refine (head_in _ _ (by omega) (by omega) (by omega) (by have := hl.out; omega) _).mono ?_; rintro x w1 ⟨rfl, hb⟩; simp only [Int.toNat_natCast, show Int.toNat 3 = 3 from rfl])
  go_ret
  exact Ret.mk (str_app _ _) hb

end Go.Proofs.Ytogjghmoankleaa


namespace Go.Proofs.Ytogjghmoankleaa
open Go.RowKit
set_option linter.unusedVariables false
set_option linter.unusedSimpArgs false

theorem T.leaf_all {kind : Int} {n : Nat} {s : List UInt8} {op : Bool} {k : Nat} {f : Nat → Bool} (h : kind ≠ 4) : (T.node kind n s op k && T.all f k) = T.node kind n s op k := by
  cases hn : T.node kind n s op k with
  | false => rfl
  | true =>
    unfold T.node at hn
    by_cases a : kind = 0
    · rw [if_pos a] at hn; simp at hn; rw [hn.1.2]; rfl
    · rw [if_neg a] at hn
      by_cases b : kind = 2 ∨ kind = 3
      · rw [if_pos b] at hn; simp at hn; rw [hn.1.2]; rfl
      · rw [if_neg b, if_neg h] at hn; cases hn

set_option maxRecDepth 20000 in
set_option maxHeartbeats 3200000 in
theorem right_any (t : T) : ∀ (d : Nat), d ≤ 9 → t.ok → ∀ A c w, IsL w (fun _ => True) t A →
    Calls Try.prog 126 #[itemV t A c, .int .i64 (d : Int)] w (Ret (.bool (t.right d)) w) := by
  induction t with
  | nil => intro m _ hok; cases hok
  | mk kind n s op k ch ih =>
    intro d hd hok A c w h
    have H := hid h; have HO := hid hok; have HD := hid hd
    have HI := hid ih
    have d0 : (0 : Int) ≤ (d : Int) := by omega
    have d1 : (d : Int) ≤ 9 := by omega
    have hk : Hid (k < 4611686018427387904) := by unfold T.ok at hok; exact hok.2.2.2.1
    have HR : Hid ((T.mk kind n s op k ch).right d = if d < 1 then false else T.node kind n s op k && T.all (fun i => (ch i).right (d - 1)) k) := rfl
    show Calls Try.prog 126 #[.agg #[.int .i64 kind, .int .u64 (n : Int), str s, .slice A k c, .bool op], .int .i64 (d : Int)] w (Ret (.bool ((T.mk kind n s op k ch).right d)) w)
    have HE0 := hid ((Mod.refl [] w).alloc (.cells #[.int .i64 kind, .int .u64 (n : Int), str s, .slice A k c, .bool op] 38))
    clear h hok ih hd
    by_cases hd0 : d < 1
    · obtain rfl : d = 0 := by omega
      rw [HR.out, if_pos (by omega)]
      go_enter Try.func126, Try.ntmps126
      go_wp2
      go_ret
      exact Ret.mk rfl HE0.out
    · rw [HR.out, if_neg hd0]
      have HD1 : Hid (1 ≤ d) := by unfold Hid; omega
      have td : decide ((d : Int) < 1) = false := by simp; omega
      have td2 : (d < 1) = False := by simp [hd0]
      have td3 : (d = 0) = False := by simp; omega
      have bs : s ≠ [] → (s == []) = false := fun h => by simp [h]
      have bS : s ≠ [] → (s = []) = False := fun h => by simp [h]
      have bn : n ≠ 0 → ((n : Int) == 0) = false := fun h => by simp [h]
      have bN : n ≠ 0 → (n = 0) = False := fun h => by simp [h]
      have bk : k ≠ 0 → ((k : Int) == 0) = false := fun h => by simp [h]
      have q1 : k ≠ 0 → (k = 0) = False := fun h => by simp [h]
      clear hd0
      by_cases a0 : kind = 0
      · subst a0
        go_enter Try.func126, Try.ntmps126
        by_cases hs : s = []
        · subst hs
          by_cases hk0 : k = 0
          · subst hk0
            cases op
            · skip
              go_wp2_with fail
              go_ret
              exact Ret.mk (by rw [T.leaf_all (by omega)]; simp [T.node]) HE0.out
            · skip
              go_wp2_with fail
              go_ret
              exact Ret.mk (by rw [T.leaf_all (by omega)]; simp [T.node]) HE0.out
          · have bk := bk hk0; have q1 := q1 hk0
            go_wp2_with fail
            go_ret
            exact Ret.mk (by rw [T.leaf_all (by omega)]; simp [T.node, hk0]) HE0.out
        · have bs := bs hs; have bS := bS hs
          go_wp2_with fail
          go_ret
          exact Ret.mk (by rw [T.leaf_all (by omega)]; simp [T.node, hs]) HE0.out
      · skip
        by_cases a2 : kind = 2
        · subst a2
          go_enter Try.func126, Try.ntmps126
          have hn : n = 0 ∨ n ≠ 0 := by omega
          rcases hn with rfl | hn
          · skip
            by_cases hk0 : k = 0
            · subst hk0
              cases op
              · skip
                go_wp2_with fail
                go_ret
                exact Ret.mk (by rw [T.leaf_all (by omega)]; simp [T.node]) HE0.out
              · skip
                go_wp2_with fail
                go_ret
                exact Ret.mk (by rw [T.leaf_all (by omega)]; simp [T.node]) HE0.out
            · have bk := bk hk0; have q1 := q1 hk0
              go_wp2_with fail
              go_ret
              exact Ret.mk (by rw [T.leaf_all (by omega)]; simp [T.node, hk0]) HE0.out
          · have bn := bn hn; have bN := bN hn
            go_wp2_with fail
            go_ret
            exact Ret.mk (by rw [T.leaf_all (by omega)]; simp [T.node, hn]) HE0.out
        · skip
          by_cases a3 : kind = 3
          · subst a3
            go_enter Try.func126, Try.ntmps126
            have hn : n = 0 ∨ n ≠ 0 := by omega
            rcases hn with rfl | hn
            · skip
              by_cases hk0 : k = 0
              · subst hk0
                cases op
                · skip
                  go_wp2_with fail
                  go_ret
                  exact Ret.mk (by rw [T.leaf_all (by omega)]; simp [T.node]) HE0.out
                · skip
                  go_wp2_with fail
                  go_ret
                  exact Ret.mk (by rw [T.leaf_all (by omega)]; simp [T.node]) HE0.out
              · have bk := bk hk0; have q1 := q1 hk0
                go_wp2_with fail
                go_ret
                exact Ret.mk (by rw [T.leaf_all (by omega)]; simp [T.node, hk0]) HE0.out
            · have bn := bn hn; have bN := bN hn
              go_wp2_with fail
              go_ret
              exact Ret.mk (by rw [T.leaf_all (by omega)]; simp [T.node, hn]) HE0.out
          · skip
            have e0 : (kind == 0) = false := by simp [a0]
            have e2 : (kind == 2) = false := by simp [a2]
            have e3 : (kind == 3) = false := by simp [a3]
            have f0 : (kind = 0) = False := by simp [a0]
            have f2 : (kind = 2) = False := by simp [a2]
            have f3 : (kind = 3) = False := by simp [a3]
            by_cases a4 : kind = 4
            · subst a4
              clear e0 e2 e3 f0 f2 f3 a0 a2 a3
              go_enter Try.func126, Try.ntmps126
              have hn : n = 0 ∨ n ≠ 0 := by omega
              rcases hn with rfl | hn
              · by_cases hs : s = []
                · subst hs
                  by_cases hk1 : 1000 < k
                  · have bK : decide (1000 < k) = true := by simp [hk1]
                    have z1 : decide (k ≤ 1000) = false := by simp; omega
                    go_wp2_with fail
                    go_ret
                    exact Ret.mk (by simp [T.node, z1]) HE0.out
                  · have bK : decide (1000 < k) = false := by simp; omega
                    have z1 : decide (k ≤ 1000) = true := by simp; omega
                    have HND : Hid (T.node 4 0 [] op k = true) := by unfold Hid; simp [T.node, z1]
                    have bK3 : (1000 < k) = False := by simp; omega
                    go_wp2_with fail
                    clear hk1 z1 bK bK3
                    go_loopw [63] (fun s63 wr => ∃ i : Nat, i ≤ k ∧ s63 = .int .i64 (i : Int) ∧ Hid (Ext w wr ∧ T.all (fun i => (ch i).right (d - 1)) i = true)) (fun i _ => k - (intOf i).toNat)
                    case atStart => exact ⟨0, Nat.zero_le _, rfl, HE0.out, rfl⟩
                    case round =>
                      obtain ⟨i, hi, rfl, hX⟩ := hrel
                      have i0 : (0 : Int) ≤ (i : Int) := by omega
                      by_cases hlt : i < k
                      · obtain ⟨b, o, Ai, ci, rfl, hb, ⟨k0, k1, k2, k3, k4⟩, hL⟩ := H.out.cells hX.out.1 hlt
                        have i1 : (i : Int) < (k : Int) := by omega
                        have hk2 : (k : Int) < 4611686018427387904 := by have := hk.out; omega
                        have ti : decide (i < k) = true := by simp [hlt]
                        have ha : (d : Int) - 1 = ((d - 1 : Nat) : Int) := by have := HD1.out; omega
                        have HL := hid hL; have HLT := hid hlt
                        have HOi : Hid (ch i).ok := by have := HO.out; unfold T.ok at this; exact this.2.2.2.2 i hlt
                        clear hL hlt
                        go_wp2_with fail
                        have HEa := hid ((Mod.refl [] wr).alloc (.cells (itemC (ch i) Ai ci) 38))
                        refine (HI.out i (d - 1) (by have := HD.out; omega) HOi.out Ai ci _ (HL.out.ext HEa.out)).mono ?_
                        rintro e w3 ⟨rfl, hb3⟩
                        have HE3 := hid ((hX.out.1.trans HEa.out).trans hb3)
                        clear hb3
                        cases hpl : (ch i).right (d - 1)
                        · have hno : T.all (fun i => (ch i).right (d - 1)) k = false := by
                            have hlt := HLT.out
                            cases hh : T.all (fun i => (ch i).right (d - 1)) k with
                            | false => rfl
                            | true => have := T.all_iff.1 hh i hlt; rw [hpl] at this; cases this
                          have HNO := hid hno
                          clear hno hpl
                          go_wp2_with fail
                          go_ret
                          exact Ret.mk (by rw [HND.out, HNO.out]; rfl) HE3.out
                        · have HPL := hid hpl
                          clear hpl
                          go_wp2_with fail
                          have hlt := HLT.out
                          refine ⟨⟨i + 1, by omega, by simp, (show Hid _ from ⟨HE3.out, by rw [T.all, hX.out.2, HPL.out]; rfl⟩)⟩, ?_⟩
                          simp only [intOf]; omega
                      · obtain rfl : i = k := by omega
                        have ti : decide (i < i) = false := by simp
                        go_wp2_with fail
                        go_ret
                        exact Ret.mk (by rw [HND.out, hX.out.2]; rfl) hX.out.1
                · have bs := bs hs; have bS := bS hs
                  go_wp2_with fail
                  go_ret
                  exact Ret.mk (by simp [T.node, hs]) HE0.out
              · have bn := bn hn; have bN := bN hn
                go_wp2_with fail
                go_ret
                exact Ret.mk (by simp [T.node, hn]) HE0.out
            · have e4 : (kind == 4) = false := by simp [a4]
              have f4 : (kind = 4) = False := by simp [a4]
              go_enter Try.func126, Try.ntmps126
              go_wp2_with fail
              go_ret
              exact Ret.mk (by simp [T.node, a0, a2, a3, a4]) HE0.out

set_option maxRecDepth 20000 in
set_option maxHeartbeats 1600000 in
theorem iRight_any (t : T) (hok : t.ok) (A : Option Addr) (c : Nat) (w : World) (h : IsL w (fun _ => True) t A) :
    Calls Try.prog 85 #[itemV t A c] w (Ret (.bool (t.right 8)) w) := by
  have H := hid h; have HO := hid hok
  clear h hok
  have HE0 := hid ((Mod.refl [] w).alloc (.cells (itemC t A c) 38))
  go_enter Try.func85, Try.ntmps85
  go_wp2_with fail
  refine (right_any t 8 (by omega) HO.out A c _ (H.out.ext HE0.out)).mono ?_
  rintro e w2 ⟨rfl, hb2⟩
  go_wp2_with fail
  go_ret
  exact Ret.mk rfl (HE0.out.trans hb2)
end Go.Proofs.Ytogjghmoankleaa


namespace Go.Proofs.Ytogjghmoankleaa
open Go.RowKit
set_option linter.unusedVariables false
set_option linter.unusedSimpArgs false

theorem Blk.new' (w : World) (t : TypeId) (cs : Array Value) {N : Nat} (h : w.heap.size = N) : Blk (w.alloc (.cells cs t)) N t cs := by subst h; exact Blk.new _ _ _
theorem openL4 : openL 4 = [159] := by decide
theorem openL7 : openL 7 = [255] := by decide

set_option maxRecDepth 20000 in
set_option maxHeartbeats 3200000 in
theorem build_any (t : T) : t.ok → t.plain = true → t.size ≤ 100000 → ∀ A c w, IsL w (fun _ => True) t A →
    Calls Try.prog 86 #[itemV t A c] w (Ret (str t.bytes) w) := by
  induction t with
  | nil => intro hok; cases hok
  | mk kind n s op k ch ih =>
    intro hok hpl hsz A c w h
    have H := hid h; have HO := hid hok; have HPL := hid hpl; have HSZ := hid hsz
    have HI := hid ih
    have hk : Hid (k < 4611686018427387904) := by unfold T.ok at hok; exact hok.2.2.2.1
    have hn64 : Hid (n < 18446744073709551616) := by unfold T.ok at hok; exact hok.2.1
    have hs64 : Hid (s.length < 4611686018427387904) := by unfold T.ok at hok; exact hok.2.2.1
    have hkd : kind = 0 ∨ kind = 2 ∨ kind = 3 ∨ kind = 4 := by unfold T.plain at hpl; rw [Bool.and_eq_true] at hpl; exact T.node_kind hpl.1
    have hpc : Hid (∀ i, i < k → (ch i).plain = true) := by unfold T.plain at hpl; rw [Bool.and_eq_true, T.all_iff] at hpl; exact hpl.2
    have hBy : (T.mk kind n s op k ch).bytes = if kind = 0 then headL 0 n else if kind < 4 then headL kind.toNat s.length ++ s else (if op then [159] else headL 4 k) ++ (T.cat (fun i => (ch i).bytes) k ++ (if op then [255] else [])) := rfl
    have HBy := hid hBy
    show Calls Try.prog 86 #[.agg #[.int .i64 kind, .int .u64 (n : Int), str s, .slice A k c, .bool op]] w (Ret (str (T.mk kind n s op k ch).bytes) w)
    have HB : Hid (Blk (w.alloc (.cells #[.int .i64 kind, .int .u64 (n : Int), str s, .slice A k c, .bool op] 38)) w.heap.size 38 #[.int .i64 kind, .int .u64 (n : Int), str s, .slice A k c, .bool op]) := Blk.new _ _ _
    have HE0 := hid ((Mod.refl [] w).alloc (.cells #[.int .i64 kind, .int .u64 (n : Int), str s, .slice A k c, .bool op] 38))
    clear h hok hpl hsz ih hBy
    rcases hkd with rfl | rfl | rfl | rfl
    · rw [HBy.out, if_pos rfl]
      go_enter Try.func86, Try.ntmps86
      go_wp2_with fail
      refine (head_in 0 n (by omega) (by omega) (by omega) (by have := hn64.out; omega) _).mono ?_
      rintro e w2 ⟨rfl, hb2⟩
      go_wp2_with fail
      go_ret
      exact Ret.mk rfl (HE0.out.trans hb2)
    · rw [HBy.out, if_neg (by omega), if_pos (by omega)]
      go_enter Try.func86, Try.ntmps86
      go_wp2_with fail
      refine (wBytes_any s hs64 _).mono ?_
      rintro e w2 ⟨rfl, hb2⟩
      go_wp2_with fail
      go_ret
      exact Ret.mk rfl (HE0.out.trans hb2)
    · rw [HBy.out, if_neg (by omega), if_pos (by omega)]
      go_enter Try.func86, Try.ntmps86
      go_wp2_with fail
      refine (wText_any s hs64 _).mono ?_
      rintro e w2 ⟨rfl, hb2⟩
      go_wp2_with fail
      go_ret
      exact Ret.mk rfl (HE0.out.trans hb2)
    · clear HBy
      have K0 : (0 : Int) ≤ (k : Int) := by omega
      have K1 : (k : Int) < 9223372036854775808 := by have := hk.out; omega
      cases op
      · go_enter Try.func86, Try.ntmps86
        go_wp2_with fail
        refine (head_in 4 (k : Int) (by omega) (by omega) (by omega) (by have := hk.out; omega) _).mono ?_
        rintro e w2 ⟨rfl, hb2⟩
        rw [Int.toNat_natCast]
        have HE2 := hid (HE0.out.trans hb2)
        have HB2 := hid (HB.out.ext hb2)
        have c4 : w2.cell? ⟨w.heap.size, 4, none⟩ = some (.bool false) := HB2.out.cell 4
        have c3 : w2.cell? ⟨w.heap.size, 3, none⟩ = some (.slice A k c) := HB2.out.cell 3
        clear hb2 K1
        go_wp2_with fail
        clear c4 c3
        go_loopw [3, 36] (fun s3 s36 wr => ∃ i : Nat, i ≤ k ∧ s36 = .int .i64 (i : Int) ∧ s3 = str (pre 4 s false k ch i) ∧ Hid (Ext w wr)) (fun _ i _ => k - (intOf i).toNat)
        case atStart => exact ⟨0, Nat.zero_le _, rfl, by simp [pre, T.cat], HE2.out⟩
        case round =>
          obtain ⟨i, hi, rfl, rfl, hH⟩ := hrel
          have i0 : (0 : Int) ≤ (i : Int) := by omega
          have HP := hid (pre_le (op := false) hi HSZ.out)
          by_cases hlt : i < k
          · obtain ⟨b, o, Ai, ci, rfl, hb, ⟨k0, k1, k2, k3, k4⟩, hL⟩ := H.out.cells hH.out hlt
            have i1 : (i : Int) < (k : Int) := by omega
            have ti : decide (i < k) = true := by simp [hlt]
            have HL := hid hL; have HLT := hid hlt
            have HOi : Hid (ch i).ok := by have := HO.out; unfold T.ok at this; exact this.2.2.2.2 i hlt
            have HZi : Hid ((ch i).size ≤ 100000) := Nat.le_trans (T.size_ch hlt) HSZ.out
            have HPS := hid (pre_succ 4 s false k ch i)
            have hno : (9223372036854775807 < (pre 4 s false k ch i).length + (ch i).bytes.length) = False := by
              have h1 := pre_le (op := false) (show i + 1 ≤ k by omega) HSZ.out
              rw [HPS.out, List.length_append] at h1
              simp; omega
            have hk2 : (k : Int) < 4611686018427387904 := by have := hk.out; omega
            have HEa := hid ((Mod.refl [] wr).alloc (.cells (itemC (ch i) Ai ci) 38))
            clear hL hlt
            go_wp2_with fail
            refine (HI.out i HOi.out (hpc.out i HLT.out) HZi.out Ai ci _ (HL.out.ext HEa.out)).mono ?_
            rintro e w3 ⟨rfl, hb3⟩
            have HE3 := hid ((hH.out.trans HEa.out).trans hb3)
            clear hb3
            go_wp2_with fail
            have hlt := HLT.out
            refine ⟨⟨i + 1, by omega, by simp, by rw [HPS.out]; exact str_app _ _, (show Hid _ from HE3.out)⟩, ?_⟩
            simp only [intOf]; omega
          · obtain rfl : i = k := by omega
            have ti : decide (i < i) = false := by simp
            have HPE := hid (pre_end (n := n) (s := s) (op := false) (k := i) (ch := ch))
            have hno : (9223372036854775807 < (pre 4 s false i ch i).length) = False := by have := HP.out; simp; omega
            go_wp2_with fail
            go_ret
            exact Ret.mk (by rw [HPE.out]; exact str_app _ []) hH.out
      · go_enter Try.func86, Try.ntmps86
        go_wp2_with fail
        refine (head_in 4 (k : Int) (by omega) (by omega) (by omega) (by have := hk.out; omega) _).mono ?_
        rintro e w2 ⟨rfl, hb2⟩
        rw [Int.toNat_natCast]
        have HE2 := hid (HE0.out.trans hb2)
        have HB2 := hid (HB.out.ext hb2)
        have c4 : w2.cell? ⟨w.heap.size, 4, none⟩ = some (.bool true) := HB2.out.cell 4
        have c3 : w2.cell? ⟨w.heap.size, 3, none⟩ = some (.slice A k c) := HB2.out.cell 3
        clear hb2 K1
        go_wp2_with fail
        refine (open_any 4 _).mono ?_
        rintro e w3 ⟨rfl, hb3⟩
        rw [openL4]
        go_wp2_with fail
        refine (open_any 7 _).mono ?_
        rintro e w4 ⟨rfl, hb4⟩
        rw [openL7]
        have HE4 := hid ((HE2.out.trans hb3).trans hb4)
        have HB4 := hid ((HB2.out.ext hb3).ext hb4)
        clear hb3 hb4 c3 c4 HE2 HB2
        have HE2 := HE4
        have c3 : w4.cell? ⟨w.heap.size, 3, none⟩ = some (.slice A k c) := HB4.out.cell 3
        have c4 : w4.cell? ⟨w.heap.size, 4, none⟩ = some (.bool true) := HB4.out.cell 4
        go_wp2_with fail
        clear c4 c3
        go_loopw [3, 36] (fun s3 s36 wr => ∃ i : Nat, i ≤ k ∧ s36 = .int .i64 (i : Int) ∧ s3 = str (pre 4 s true k ch i) ∧ Hid (Ext w wr)) (fun _ i _ => k - (intOf i).toNat)
        case atStart => exact ⟨0, Nat.zero_le _, rfl, by simp [pre, T.cat], HE2.out⟩
        case round =>
          obtain ⟨i, hi, rfl, rfl, hH⟩ := hrel
          have i0 : (0 : Int) ≤ (i : Int) := by omega
          have HP := hid (pre_le (op := true) hi HSZ.out)
          by_cases hlt : i < k
          · obtain ⟨b, o, Ai, ci, rfl, hb, ⟨k0, k1, k2, k3, k4⟩, hL⟩ := H.out.cells hH.out hlt
            have i1 : (i : Int) < (k : Int) := by omega
            have ti : decide (i < k) = true := by simp [hlt]
            have HL := hid hL; have HLT := hid hlt
            have HOi : Hid (ch i).ok := by have := HO.out; unfold T.ok at this; exact this.2.2.2.2 i hlt
            have HZi : Hid ((ch i).size ≤ 100000) := Nat.le_trans (T.size_ch hlt) HSZ.out
            have HPS := hid (pre_succ 4 s true k ch i)
            have hno : (9223372036854775807 < (pre 4 s true k ch i).length + (ch i).bytes.length) = False := by
              have h1 := pre_le (op := true) (show i + 1 ≤ k by omega) HSZ.out
              rw [HPS.out, List.length_append] at h1
              simp; omega
            have hk2 : (k : Int) < 4611686018427387904 := by have := hk.out; omega
            have HEa := hid ((Mod.refl [] wr).alloc (.cells (itemC (ch i) Ai ci) 38))
            clear hL hlt
            go_wp2_with fail
            refine (HI.out i HOi.out (hpc.out i HLT.out) HZi.out Ai ci _ (HL.out.ext HEa.out)).mono ?_
            rintro e w3 ⟨rfl, hb3⟩
            have HE3 := hid ((hH.out.trans HEa.out).trans hb3)
            clear hb3
            go_wp2_with fail
            have hlt := HLT.out
            refine ⟨⟨i + 1, by omega, by simp, by rw [HPS.out]; exact str_app _ _, (show Hid _ from HE3.out)⟩, ?_⟩
            simp only [intOf]; omega
          · obtain rfl : i = k := by omega
            have ti : decide (i < i) = false := by simp
            have HPE := hid (pre_end (n := n) (s := s) (op := true) (k := i) (ch := ch))
            have hno : (9223372036854775807 < (pre 4 s true i ch i).length + 1) = False := by have := HP.out; simp; omega
            go_wp2_with fail
            go_ret
            exact Ret.mk (by rw [HPE.out]; exact str_app _ [255]) hH.out

/-- What Build hands back. -/
def buildV (t : T) : Value := if t.right 8 then .tuple #[str t.bytes, .int .i64 0] else .tuple #[str [], .int .i64 1]
set_option maxRecDepth 20000 in
set_option maxHeartbeats 1600000 in
theorem iBuild_any (t : T) (hok : t.ok) (hsz : t.size ≤ 100000) (A : Option Addr) (c : Nat) (w : World) (h : IsL w (fun _ => True) t A) :
    Calls Try.prog 51 #[itemV t A c] w (Ret (buildV t) w) := by
  have H := hid h; have HO := hid hok; have HS := hid hsz
  have HB : Hid (Blk (w.alloc (.cells (itemC t A c) 38)) w.heap.size 38 (itemC t A c)) := Blk.new _ _ _
  have HE0 := hid ((Mod.refl [] w).alloc (.cells (itemC t A c) 38))
  have HPL : Hid (t.right 8 = true → t.plain = true) := fun h => by rw [T.right_eq] at h; simp at h; exact h.2
  clear h hok hsz
  go_enter Try.func51, Try.ntmps51
  go_wp2_with fail
  refine (iRight_any t HO.out A c _ (H.out.ext HE0.out)).mono ?_
  rintro e w2 ⟨rfl, hb2⟩
  have HE2 := hid (HE0.out.trans hb2)
  have hB2 := HB.out.ext hb2
  have c0 : w2.cell? ⟨w.heap.size, 0, none⟩ = some (.int .i64 t.kind) := hB2.cell 0
  have c1 : w2.cell? ⟨w.heap.size, 1, none⟩ = some (.int .u64 (t.n : Int)) := hB2.cell 1
  have c2 : w2.cell? ⟨w.heap.size, 2, none⟩ = some (str t.s) := hB2.cell 2
  have c3 : w2.cell? ⟨w.heap.size, 3, none⟩ = some (.slice A t.k c) := hB2.cell 3
  have c4 : w2.cell? ⟨w.heap.size, 4, none⟩ = some (.bool t.op) := hB2.cell 4
  clear hb2 hB2
  cases hr : t.right 8
  · have HR := hid hr
    clear hr
    go_wp2_with fail
    go_ret2
    exact Ret.mk (by rw [buildV, HR.out]; rfl) HE2.out
  · have HR := hid hr
    clear hr
    go_wp2_with fail
    refine (build_any t HO.out (HPL.out HR.out) HS.out A c _ (H.out.ext HE2.out)).mono ?_
    rintro e w3 ⟨rfl, hb3⟩
    go_wp2_with fail
    go_ret2
    exact Ret.mk (by rw [buildV, HR.out]; rfl) (HE2.out.trans hb3)
end Go.Proofs.Ytogjghmoankleaa


namespace Go.Proofs.Ytogjghmoankleaa
open Go.RowKit
set_option linter.unusedVariables false
set_option linter.unusedSimpArgs false

/-- A block's five cells, stored anew. -/
def set5 (W : World) (b : Nat) (t : T) (A : Option Addr) (c : Nat) : World := ((((W.setCell ⟨b, 0, none⟩ (.int .i64 t.kind)).setCell ⟨b, 1, none⟩ (.int .u64 (t.n : Int))).setCell ⟨b, 2, none⟩ (str t.s)).setCell ⟨b, 3, none⟩ (.slice A t.k c)).setCell ⟨b, 4, none⟩ (.bool t.op)
section
variable {W : World} {b : Nat} {t0 t : T} {A0 A : Option Addr} {c0 c : Nat}
theorem set5_blk (h : Blk W b 38 (itemC t0 A0 c0)) : Blk (set5 W b t A c) b 38 (itemC t A c) := by
  have := ((((h.set_ 0 (.int .i64 t.kind)).set_ 1 (.int .u64 (t.n : Int))).set_ 2 (str t.s)).set_ 3 (.slice A t.k c)).set_ 4 (.bool t.op)
  unfold set5
  simpa [itemC] using this
theorem set5_mod {w : World} {S : List Nat} (h : Mod S w W) (hb : w.heap.size ≤ b) : Mod S w (set5 W b t A c) :=
  ((((h.setCell (.inr hb) _).setCell (.inr hb) _).setCell (.inr hb) _).setCell (.inr hb) _).setCell (.inr hb) _
theorem set5_modR {w : World} (h : Mod [b] w W) : Mod [b] w (set5 W b t A c) :=
  ((((h.setCell (.inl (by simp)) _).setCell (.inl (by simp)) _).setCell (.inl (by simp)) _).setCell (.inl (by simp)) _).setCell (.inl (by simp)) _
theorem set5_modb : Mod [b] W (set5 W b t A c) :=
  (((((Mod.refl _ _).setCell (.inl (by simp)) _).setCell (.inl (by simp)) _).setCell (.inl (by simp)) _).setCell (.inl (by simp)) _).setCell (.inl (by simp)) _
theorem set5_far {g : Nat} {ty : TypeId} {cs : Array Value} (h : Blk W g ty cs) (hg : g ≠ b) : Blk (set5 W b t A c) g ty cs := h.mod set5_modb (by simpa using hg)
end
/-- The cells of an item's block. -/
theorem cells5 {W : World} {b : Nat} {t : T} {A : Option Addr} {c : Nat} (h : Blk W b 38 (itemC t A c)) : W.cell? ⟨b, 0, none⟩ = some (.int .i64 t.kind) ∧ W.cell? ⟨b, 1, none⟩ = some (.int .u64 (t.n : Int)) ∧ W.cell? ⟨b, 2, none⟩ = some (str t.s) ∧
    W.cell? ⟨b, 3, none⟩ = some (.slice A t.k c) ∧ W.cell? ⟨b, 4, none⟩ = some (.bool t.op) := ⟨h.cell 0, h.cell 1, h.cell 2, h.cell 3, h.cell 4⟩
end Go.Proofs.Ytogjghmoankleaa


namespace Go.Proofs.Ytogjghmoankleaa
open Go.RowKit
set_option linter.unusedVariables false
set_option linter.unusedSimpArgs false

/-- Its item: five parts, or six. -/
def blkT (ty num fl crc : Nat) (data sum : List UInt8) : T := T.mk 4 0 [] false (if crc = 0 then 5 else 6) fun i => if i = 0 then numT ty else if i = 1 then numT num else if i = 2 then numT fl else if i = 3 then numT crc else if i = 4 then strT data else if i = 5 then strT sum else T.nil

/-- The cells of its first five parts. -/
abbrev blk5 (ty num fl crc : Nat) (data : List UInt8) : Array Value := #[.int .i64 0, .int .u64 (ty : Int), str [], .slice none 0 0, .bool false, .int .i64 0, .int .u64 (num : Int), str [], .slice none 0 0, .bool false, .int .i64 0, .int .u64 (fl : Int), str [], .slice none 0 0, .bool false, .int .i64 0, .int .u64 (crc : Int), str [], .slice none 0 0, .bool false, .int .i64 2, .int .u64 0, str data, .slice none 0 0, .bool false]

theorem blk5_IsL {W : World} {Q : Nat → Prop} {g : Nat} {ty num fl : Nat} {data sum : List UInt8} (q : Q g) (h : Blk W g 38 (blk5 ty num fl 0 data)) : IsL W Q (blkT ty num fl 0 data sum) (some ⟨g, 0, none⟩) := fun _ => ⟨g, 0, rfl, h.lt, q, fun j hj => by
  have hj2 : j = 0 ∨ j = 1 ∨ j = 2 ∨ j = 3 ∨ j = 4 := by simp at hj; omega
  rcases hj2 with rfl | rfl | rfl | rfl | rfl
  · exact ⟨none, 0, ⟨h.cell 0, h.cell 1, h.cell 2, h.cell 3, h.cell 4⟩, fun h => absurd h (by decide)⟩
  · exact ⟨none, 0, ⟨h.cell 5, h.cell 6, h.cell 7, h.cell 8, h.cell 9⟩, fun h => absurd h (by decide)⟩
  · exact ⟨none, 0, ⟨h.cell 10, h.cell 11, h.cell 12, h.cell 13, h.cell 14⟩, fun h => absurd h (by decide)⟩
  · exact ⟨none, 0, ⟨h.cell 15, h.cell 16, h.cell 17, h.cell 18, h.cell 19⟩, fun h => absurd h (by decide)⟩
  · exact ⟨none, 0, ⟨h.cell 20, h.cell 21, h.cell 22, h.cell 23, h.cell 24⟩, fun h => absurd h (by decide)⟩⟩
theorem blk6_IsL {W : World} {Q : Nat → Prop} {base g c : Nat} {ty num fl crc : Nat} {data sum : List UInt8} (hc : ¬ crc = 0) (q : Q g) (hlt : g < W.heap.size) (h : W.ownsRow base 38 5 (.slice (some ⟨g, 0, none⟩) (5 + 1) c) (5 + 1) ((blk5 ty num fl crc data).toList ++ [Value.int .i64 (strT sum).kind, .int .u64 ((strT sum).n : Int), str (strT sum).s, .slice none (strT sum).k 0, .bool (strT sum).op])) : IsL W Q (blkT ty num fl crc data sum) (some ⟨g, 0, none⟩) := by
  unfold blkT
  rw [if_neg hc]
  refine fun _ => ⟨g, 0, rfl, hlt, q, fun j hj => ?_⟩
  have hj2 : j = 0 ∨ j = 1 ∨ j = 2 ∨ j = 3 ∨ j = 4 ∨ j = 5 := by omega
  rcases hj2 with rfl | rfl | rfl | rfl | rfl | rfl
  · exact ⟨none, 0, ⟨own_cells (j := 0) h rfl, own_cells (j := 1) h rfl, own_cells (j := 2) h rfl, own_cells (j := 3) h rfl, own_cells (j := 4) h rfl⟩, fun h => absurd h (by decide)⟩
  · exact ⟨none, 0, ⟨own_cells (j := 5) h rfl, own_cells (j := 6) h rfl, own_cells (j := 7) h rfl, own_cells (j := 8) h rfl, own_cells (j := 9) h rfl⟩, fun h => absurd h (by decide)⟩
  · exact ⟨none, 0, ⟨own_cells (j := 10) h rfl, own_cells (j := 11) h rfl, own_cells (j := 12) h rfl, own_cells (j := 13) h rfl, own_cells (j := 14) h rfl⟩, fun h => absurd h (by decide)⟩
  · exact ⟨none, 0, ⟨own_cells (j := 15) h rfl, own_cells (j := 16) h rfl, own_cells (j := 17) h rfl, own_cells (j := 18) h rfl, own_cells (j := 19) h rfl⟩, fun h => absurd h (by decide)⟩
  · exact ⟨none, 0, ⟨own_cells (j := 20) h rfl, own_cells (j := 21) h rfl, own_cells (j := 22) h rfl, own_cells (j := 23) h rfl, own_cells (j := 24) h rfl⟩, fun h => absurd h (by decide)⟩
  · exact ⟨none, 0, ⟨own_cells (j := 25) h rfl, own_cells (j := 26) h rfl, own_cells (j := 27) h rfl, own_cells (j := 28) h rfl, own_cells (j := 29) h rfl⟩, fun h => absurd h (by decide)⟩
end Go.Proofs.Ytogjghmoankleaa


namespace Go.Proofs.Ytogjghmoankleaa
open Go.RowKit
set_option linter.unusedVariables false
set_option linter.unusedSimpArgs false

theorem blkT_ok {ty num fl crc : Nat} {data sum : List UInt8} (h1 : ty ≤ 65535) (h2 : num ≤ 65535) (h3 : fl ≤ 255) (h4 : crc ≤ 2) (h5 : data.length ≤ 4000) (h6 : sum.length ≤ 4000) : (blkT ty num fl crc data sum).ok := by
  unfold blkT T.ok
  refine ⟨by omega, by omega, by simp, by split <;> omega, fun i hi => ?_⟩
  dsimp only
  split
  · exact num_ok (by omega)
  · split
    · exact num_ok (by omega)
    · split
      · exact num_ok (by omega)
      · split
        · exact num_ok (by omega)
        · split
          · exact str_ok (by omega)
          · split
            · exact str_ok (by omega)
            · have : i < 6 := by split at hi <;> omega
              omega

end Go.Proofs.Ytogjghmoankleaa


namespace Go.Proofs.Ytogjghmoankleaa
open Go.RowKit
set_option linter.unusedVariables false
set_option linter.unusedSimpArgs false

end Go.Proofs.Ytogjghmoankleaa


namespace Go.Proofs.Ytogjghmoankleaa
set_option linter.unusedVariables false
set_option linter.unusedSimpArgs false
namespace Crc

/-- So many bits about. -/
def rv : Nat → Nat → Nat
  | 0, _ => 0
  | n + 1, x => 2 ^ n * (x % 2) + rv n (x / 2)
theorem rv_lt : ∀ (n x : Nat), rv n x < 2 ^ n
  | 0, _ => by simp [rv]
  | n + 1, x => by
    have h := rv_lt n (x / 2)
    have h2 : x % 2 < 2 := Nat.mod_lt _ (by omega)
    have : x % 2 = 0 ∨ x % 2 = 1 := by omega
    unfold rv
    rcases this with e | e <;> rw [e, Nat.pow_succ] <;> omega
theorem rv_bit : ∀ (n x i : Nat), (rv n x).testBit i = (decide (i < n) && x.testBit (n - 1 - i))
  | 0, x, i => by simp [rv]
  | n + 1, x, i => by
    have h := rv_bit n (x / 2) i
    have hl := rv_lt n (x / 2)
    unfold rv
    rw [Nat.testBit_two_pow_mul_add _ hl]
    by_cases hi : i < n
    · rw [if_pos hi, h]
      have e : n + 1 - 1 - i = (n - 1 - i) + 1 := by omega
      rw [e, Nat.testBit_succ]
      simp [hi, Nat.lt_succ_of_lt hi]
    · rw [if_neg hi]
      by_cases hin : i = n
      · subst hin
        simp [Nat.testBit_zero]
      · have h1 : ¬ i < n + 1 := by omega
        have h3 : i - n = (i - n - 1) + 1 := by omega
        have h4 : x % 2 / 2 = 0 := by omega
        simp only [h1, decide_false, Bool.false_and]
        rw [h3, Nat.testBit_succ, h4, Nat.zero_testBit]
theorem rv_xor (n x y : Nat) : rv n (x ^^^ y) = rv n x ^^^ rv n y := by
  apply Nat.eq_of_testBit_eq
  intro i
  rw [Nat.testBit_xor, rv_bit, rv_bit, rv_bit, Nat.testBit_xor]
  cases decide (i < n) <;> simp
theorem rv_rv (n x : Nat) (h : x < 2 ^ n) : rv n (rv n x) = x := by
  apply Nat.eq_of_testBit_eq
  intro i
  rw [rv_bit, rv_bit]
  by_cases hi : i < n
  · have e : n - 1 - (n - 1 - i) = i := by omega
    have e2 : n - 1 - i < n := by omega
    simp [hi, e, e2]
  · have : x < 2 ^ i := Nat.lt_of_lt_of_le h (Nat.pow_le_pow_right (by omega) (by omega))
    simp [hi, Nat.testBit_lt_two_pow this]
theorem rv_high (m x : Nat) : rv (m + 1) x / 2 ^ m = x % 2 := by
  unfold rv
  rw [Nat.mul_add_div (Nat.two_pow_pos m), Nat.div_eq_of_lt (rv_lt m _)]
  omega
theorem rv_half (m x : Nat) (h : x < 2 ^ (m + 1)) : rv (m + 1) (x / 2) = rv (m + 1) x * 2 % 2 ^ (m + 1) := by
  apply Nat.eq_of_testBit_eq
  intro i
  rw [rv_bit, Nat.testBit_mod_two_pow, ← Nat.testBit_succ]
  cases i with
  | zero =>
    have e : (m + 1 - 1 - 0).succ = m + 1 := by omega
    rw [e, Nat.testBit_lt_two_pow h]
    simp [Nat.testBit_zero]
  | succ i =>
    have t : (rv (m + 1) x * 2).testBit (i + 1) = (rv (m + 1) x).testBit i := by rw [Nat.testBit_succ, Nat.mul_div_cancel _ (by omega : 0 < 2)]
    rw [t, rv_bit]
    by_cases hi : i + 1 < m + 1
    · have e : (m + 1 - 1 - (i + 1)).succ = m + 1 - 1 - i := by omega
      have h2 : i < m + 1 := by omega
      simp only [hi, h2, e, decide_true, Bool.true_and]
    · simp [hi]

/-- The code's step, its byte, its row. -/
def stepC (p s : Nat) : Nat := if s % 2 = 1 then s / 2 ^^^ p else s / 2
def stepsC (p : Nat) : Nat → Nat → Nat
  | 0, s => s
  | k + 1, s => stepsC p k (stepC p s)
def divC (p : Nat) (s : Nat) (l : List UInt8) : Nat := l.foldl (fun s c => stepsC p 8 (s ^^^ c.toNat)) s
/-- The same step, with a bit of the row. -/
def stepB (p s b : Nat) : Nat := if s % 2 = b then s / 2 else s / 2 ^^^ p
def stepsB (p : Nat) : Nat → Nat → Nat → Nat
  | 0, s, _ => s
  | k + 1, s, c => stepsB p k (stepB p s (c % 2)) (c / 2)
/-- The reference's step, its byte, its row. -/
def stepR (top d r b : Nat) : Nat := if r / (top / 2) = b then r * 2 % top else (r * 2 % top) ^^^ d
def stepsR (top d : Nat) : Nat → Nat → Nat → Nat
  | 0, r, _ => r
  | k + 1, r, c => stepsR top d k (stepR top d r (c % 2)) (c / 2)
def divR (top d : Nat) (r : Nat) (l : List UInt8) : Nat := l.foldl (fun r c => stepsR top d 8 r c.toNat) r

theorem xor_mod (a b : Nat) : (a ^^^ b) % 2 = if a % 2 = b % 2 then 0 else 1 := by
  have h := Nat.testBit_xor a b 0
  simp only [Nat.testBit_zero] at h
  rcases Nat.mod_two_eq_zero_or_one a with ha | ha <;> rcases Nat.mod_two_eq_zero_or_one b with hb | hb <;> rcases Nat.mod_two_eq_zero_or_one (a ^^^ b) with hab | hab <;> simp [ha, hb, hab] at h ⊢
theorem xor_half (a b : Nat) : (a ^^^ b) / 2 = a / 2 ^^^ b / 2 := by
  apply Nat.eq_of_testBit_eq
  intro i
  rw [← Nat.testBit_succ, Nat.testBit_xor, Nat.testBit_xor, ← Nat.testBit_succ, ← Nat.testBit_succ]
theorem stepC_xor (p s c : Nat) : stepC p (s ^^^ c) = stepB p s (c % 2) ^^^ (c / 2) := by
  unfold stepC stepB
  rw [xor_mod, xor_half]
  by_cases h : s % 2 = c % 2
  · simp [h]
  · simp only [h, if_false, if_true]
    rw [Nat.xor_assoc, Nat.xor_comm (c / 2), ← Nat.xor_assoc]
theorem stepsC_xor (p : Nat) : ∀ (k s c : Nat), stepsC p k (s ^^^ c) = stepsB p k s c ^^^ (c / 2 ^ k)
  | 0, s, c => by simp [stepsC, stepsB]
  | k + 1, s, c => by
    show stepsC p k (stepC p (s ^^^ c)) = stepsB p k (stepB p s (c % 2)) (c / 2) ^^^ (c / 2 ^ (k + 1))
    rw [stepC_xor, stepsC_xor p k, Nat.div_div_eq_div_mul, Nat.pow_succ, Nat.mul_comm]
theorem stepB_lt {m p s b : Nat} (hp : p < 2 ^ (m + 1)) (hs : s < 2 ^ (m + 1)) : stepB p s b < 2 ^ (m + 1) := by
  unfold stepB
  split
  · omega
  · exact Nat.xor_lt_two_pow (by omega) hp
theorem stepsB_lt {m p : Nat} (hp : p < 2 ^ (m + 1)) : ∀ (k s c : Nat), s < 2 ^ (m + 1) → stepsB p k s c < 2 ^ (m + 1)
  | 0, s, c, h => h
  | k + 1, s, c, h => stepsB_lt hp k _ _ (stepB_lt hp h)
theorem stepR_rv {m p s b : Nat} (hs : s < 2 ^ (m + 1)) : stepR (2 ^ (m + 1)) (rv (m + 1) p) (rv (m + 1) s) b = rv (m + 1) (stepB p s b) := by
  have e : 2 ^ (m + 1) / 2 = 2 ^ m := by rw [Nat.pow_succ]; omega
  unfold stepR stepB
  rw [e, rv_high]
  split
  · rw [rv_half m s hs]
  · rw [rv_xor, rv_half m s hs]
theorem stepsR_rv {m p : Nat} (hp : p < 2 ^ (m + 1)) : ∀ (k s c : Nat), s < 2 ^ (m + 1) → stepsR (2 ^ (m + 1)) (rv (m + 1) p) k (rv (m + 1) s) c = rv (m + 1) (stepsB p k s c)
  | 0, s, c, h => rfl
  | k + 1, s, c, h => by
    show stepsR _ _ k (stepR _ _ _ _) _ = rv _ (stepsB p k (stepB p s _) _)
    rw [stepR_rv h]
    exact stepsR_rv hp k _ _ (stepB_lt hp h)
theorem byte_rv {m p s : Nat} (hp : p < 2 ^ (m + 1)) (hs : s < 2 ^ (m + 1)) (c : UInt8) :
    stepsR (2 ^ (m + 1)) (rv (m + 1) p) 8 (rv (m + 1) s) c.toNat = rv (m + 1) (stepsC p 8 (s ^^^ c.toNat)) ∧ stepsC p 8 (s ^^^ c.toNat) < 2 ^ (m + 1) := by
  have h0 : c.toNat / 2 ^ 8 = 0 := Nat.div_eq_of_lt c.toNat_lt
  have h := stepsC_xor p 8 s c.toNat
  rw [h0, Nat.xor_zero] at h
  rw [h]
  exact ⟨stepsR_rv hp 8 s _ hs, stepsB_lt hp 8 s _ hs⟩
theorem div_rv {m p : Nat} (hp : p < 2 ^ (m + 1)) : ∀ (l : List UInt8) (s : Nat), s < 2 ^ (m + 1) → divR (2 ^ (m + 1)) (rv (m + 1) p) (rv (m + 1) s) l = rv (m + 1) (divC p s l) ∧ divC p s l < 2 ^ (m + 1)
  | [], s, h => ⟨rfl, h⟩
  | c :: l, s, h => by
    have hb := byte_rv hp h c
    have ih := div_rv hp l _ hb.2
    unfold divR divC at ih ⊢
    simp only [List.foldl_cons]
    rw [hb.1]
    exact ih
theorem not_xor {n x : Nat} (h : x < 2 ^ n) : 2 ^ n - 1 - x = (2 ^ n - 1) ^^^ x := by
  apply Nat.eq_of_testBit_eq
  intro i
  have e : 2 ^ n - 1 - x = 2 ^ n - (x + 1) := by omega
  rw [e, Nat.testBit_two_pow_sub_succ h, Nat.testBit_xor, Nat.testBit_two_pow_sub_one]
  by_cases hi : i < n
  · simp [hi]
  · have : x < 2 ^ i := Nat.lt_of_lt_of_le h (Nat.pow_le_pow_right (by omega) (by omega))
    simp [hi, Nat.testBit_lt_two_pow this]
theorem rv_ones (n : Nat) : rv n (2 ^ n - 1) = 2 ^ n - 1 := by
  apply Nat.eq_of_testBit_eq
  intro i
  rw [rv_bit, Nat.testBit_two_pow_sub_one, Nat.testBit_two_pow_sub_one]
  by_cases hi : i < n
  · have : n - 1 - i < n := by omega
    simp [hi, this]
  · simp [hi]
/-- The two sums. -/
theorem sums {m p : Nat} (hp : p < 2 ^ (m + 1)) (l : List UInt8) :
    rv (m + 1) (2 ^ (m + 1) - 1 - divR (2 ^ (m + 1)) (rv (m + 1) p) (2 ^ (m + 1) - 1) l) = 2 ^ (m + 1) - 1 - divC p (2 ^ (m + 1) - 1) l := by
  have h0 : 2 ^ (m + 1) - 1 < 2 ^ (m + 1) := by have := Nat.two_pow_pos (m + 1); omega
  have h := div_rv hp l (2 ^ (m + 1) - 1) h0
  rw [rv_ones] at h
  rw [h.1, not_xor (rv_lt _ _), rv_xor, rv_ones, rv_rv _ _ h.2, ← not_xor h.2]
end Crc
end Go.Proofs.Ytogjghmoankleaa


namespace Go.Proofs.Ytogjghmoankleaa
open Go.RowKit
set_option linter.unusedVariables false
set_option linter.unusedSimpArgs false

theorem cell_row8 (w : World) (l : List UInt8) (cap t : Nat) (fz : Nat × Nat) (j : Nat) (h : j < l.length) :
    (w.alloc (.cells (bytesRow ⟨l.toArray⟩ cap) t fz)).cell? ⟨w.heap.size, j, none⟩ = some (.int .u8 (l[j].toNat : Int)) := by
  rw [World.cell?_alloc_mark]
  simp only [bytesRow]
  rw [Array.getElem?_append_left (by simpa using h)]
  simp [h]
theorem Crc.stepC_lt {p s m : Nat} (hp : p < 2 ^ m) (hs : s < 2 ^ m) : Crc.stepC p s < 2 ^ m := by
  unfold Crc.stepC
  split
  · exact Nat.xor_lt_two_pow (by omega) hp
  · omega
theorem Crc.stepsC_lt {p m : Nat} (hp : p < 2 ^ m) : ∀ (k s : Nat), s < 2 ^ m → Crc.stepsC p k s < 2 ^ m
  | 0, s, h => h
  | k + 1, s, h => Crc.stepsC_lt hp k _ (Crc.stepC_lt hp h)
theorem Crc.divC_lt {p m : Nat} (hp : p < 2 ^ m) : ∀ (l : List UInt8) (s : Nat), s < 2 ^ m → 8 ≤ m → Crc.divC p s l < 2 ^ m
  | [], s, h, _ => h
  | c :: l, s, h, h8 => by
    have hc : c.toNat < 2 ^ m := Nat.lt_of_lt_of_le c.toNat_lt (Nat.pow_le_pow_right (by omega) h8)
    have := Crc.divC_lt hp l (Crc.stepsC p 8 (s ^^^ c.toNat)) (Crc.stepsC_lt hp 8 _ (Nat.xor_lt_two_pow h hc)) h8
    exact this

theorem and1_16 {s : Nat} (hs : s < 65536) : bits .and .u16 (s : Int) 1 = ((s % 2 : Nat) : Int) := by
  have := u16_and_nat s 1 hs (by omega)
  rw [Nat.and_one_is_mod] at this
  exact this
theorem xor_16 {s c : Nat} (hs : s < 65536) (hc : c < 65536) : bits .xor .u16 (s : Int) (c : Int) = ((s ^^^ c : Nat) : Int) := u16_xor_nat s c hs hc

set_option maxHeartbeats 400000 in
theorem divide16 (p s : Nat) (hp : Hid (p < 65536)) (hs : Hid (s < 65536)) (l : List UInt8) (hl : Hid (l.length < 1000000)) (w : World) :
    Calls Try.prog 159 #[.int .u16 (s : Int), .int .u16 (p : Int), str l] w (Ret (.int .u16 (Crc.divC p s l : Nat)) w) := by
  have hconv := fun (w : World) (s : ByteArray) => run_bytes_of_string (P := Try.prog) w 9 73 5 s Try.underlying9 Try.underlying73 Try.underlying5
  obtain ⟨T, hT⟩ : ∃ T, T = Crc.divC p s l := ⟨_, rfl⟩
  rw [← hT]
  have HT := hid hT; clear hT
  go_enter Try.func159, Try.ntmps159
  go_wp2
  have hext : Ext w (w.alloc (Obj.cells (bytesRow { data := l.toArray } (grownCap w l.length 0 5)) 5 ((bytesRow { data := l.toArray } (grownCap w l.length 0 5)).size, (bytesRow { data := l.toArray } (grownCap w l.length 0 5)).size + 1))).drew := ((Mod.refl _ _).alloc _).drew
  have hcell : ∀ j (h : j < l.length), (w.alloc (Obj.cells (bytesRow { data := l.toArray } (grownCap w l.length 0 5)) 5 ((bytesRow { data := l.toArray } (grownCap w l.length 0 5)).size, (bytesRow { data := l.toArray } (grownCap w l.length 0 5)).size + 1))).drew.cell? ⟨w.heap.size, j, none⟩ = some (.int .u8 (l[j].toNat : Int)) := fun j h => by rw [World.cell?_drew]; exact cell_row8 w l _ _ _ j h
  generalize hW : World.drew (World.alloc w _) = W at *
  have HW := hid hW; clear hW
  have HC := hid hcell; clear hcell
  have HL := hid hl.out
  go_loop [0, 12] (fun n i => ∃ j c : Nat, j ≤ l.length ∧ c < 65536 ∧ i = .int .i64 j ∧ n = .int .u16 (c : Int) ∧ Hid (T = Crc.divC p c (l.drop j))) (fun _ i => l.length - (intOf i).toNat)
  case atStart => exact ⟨0, s, Nat.zero_le _, hs.out, rfl, rfl, HT⟩
  case round =>
    obtain ⟨j, c, hj, hc, rfl, rfl, HR⟩ := hrel
    by_cases hlt : j < l.length
    · have hcc := HC.out j hlt
      generalize hx : l[j] = x at *
      have HX := hid hx; clear hx
      have hx8 := x.toNat_lt
      have tx : IntKind.u16.wrap (x.toNat : Int) = (x.toNat : Int) := IntWalk.u16_in _ (by omega)
      have t2 := xor_16 (s := c) (c := x.toNat) hc (by omega)
      have hcx : c ^^^ x.toNat < 65536 := Nat.xor_lt_two_pow (n := 16) hc (by omega)
      have HS : Hid (T = Crc.divC p (Crc.stepsC p 8 (c ^^^ x.toNat)) (l.drop (j + 1))) := by
        have h1 := HR.out
        rw [List.drop_eq_getElem_cons hlt, HX.out] at h1
        exact h1
      clear HR
      go_wp2
      generalize c ^^^ x.toNat = y at *
      go_loop [0, 20] (fun n i => ∃ k c : Nat, k ≤ 8 ∧ c < 65536 ∧ i = .int .i64 k ∧ n = .int .u16 (c : Int) ∧ Hid (Crc.stepsC p (8 - k) c = Crc.stepsC p 8 y)) (fun _ i => 8 - (intOf i).toNat)
      case atStart => exact ⟨0, y, by omega, hcx, rfl, rfl, rfl⟩
      case round =>
        obtain ⟨k, c, hk, hc, rfl, rfl, HR⟩ := hrel
        by_cases hlt : k < 8
        · have tA := and1_16 hc
          have HN : Hid (Crc.stepsC p (8 - (k + 1)) (Crc.stepC p c) = Crc.stepsC p 8 y) := by
            have h1 := HR.out
            rw [show 8 - k = (8 - (k + 1)) + 1 by omega] at h1
            exact h1
          have hL := Crc.stepC_lt (m := 16) hp.out hc
          clear HR
          rcases Nat.mod_two_eq_zero_or_one c with e | e
          · have hS : Crc.stepC p c = c / 2 := by unfold Crc.stepC; rw [if_neg (by omega)]
            rw [hS] at HN hL
            rw [e] at tA
            go_wp2
            go_round
            case rel => exact ⟨k + 1, c / 2, by omega, hL, by go_num, by simp, HN⟩
            case measure => simp [intOf]; omega
          · have hS : Crc.stepC p c = c / 2 ^^^ p := by unfold Crc.stepC; rw [if_pos e]
            have tX := xor_16 (s := c / 2) (c := p) (by omega) hp.out
            rw [hS] at HN hL
            rw [e] at tA
            go_wp2
            go_round
            case rel => exact ⟨k + 1, c / 2 ^^^ p, by omega, hL, by go_num, by rw [← tX]; simp, HN⟩
            case measure => simp [intOf]; omega
        · obtain rfl : k = 8 := by omega
          have h1 : c = Crc.stepsC p 8 y := HR.out
          have hl2 : l.length < 1000000 := hl.out
          subst h1
          clear HR
          go_wp2
          go_round
          case rel => exact ⟨j + 1, _, by omega, hc, by go_num, rfl, HS⟩
          case measure => simp [intOf]; omega
    · obtain rfl : j = l.length := by omega
      have h1 := HR.out
      rw [List.drop_length] at h1
      have h2 : T = c := h1
      subst h2
      clear HR h1
      go_wp2
      go_ret
      exact ⟨rfl, hext⟩

theorem and1_32 {s : Nat} (hs : s < 4294967296) : bits .and .u32 (s : Int) 1 = ((s % 2 : Nat) : Int) := by
  have := u32_and_nat s 1 hs (by omega)
  rw [Nat.and_one_is_mod] at this
  exact this
theorem xor_32 {s c : Nat} (hs : s < 4294967296) (hc : c < 4294967296) : bits .xor .u32 (s : Int) (c : Int) = ((s ^^^ c : Nat) : Int) := u32_xor_nat s c hs hc

set_option maxHeartbeats 400000 in
theorem divide32 (p s : Nat) (hp : Hid (p < 4294967296)) (hs : Hid (s < 4294967296)) (l : List UInt8) (hl : Hid (l.length < 1000000)) (w : World) :
    Calls Try.prog 160 #[.int .u32 (s : Int), .int .u32 (p : Int), str l] w (Ret (.int .u32 (Crc.divC p s l : Nat)) w) := by
  have hconv := fun (w : World) (s : ByteArray) => run_bytes_of_string (P := Try.prog) w 9 73 5 s Try.underlying9 Try.underlying73 Try.underlying5
  obtain ⟨T, hT⟩ : ∃ T, T = Crc.divC p s l := ⟨_, rfl⟩
  rw [← hT]
  have HT := hid hT; clear hT
  go_enter Try.func160, Try.ntmps160
  go_wp2
  have hext : Ext w (w.alloc (Obj.cells (bytesRow { data := l.toArray } (grownCap w l.length 0 5)) 5 ((bytesRow { data := l.toArray } (grownCap w l.length 0 5)).size, (bytesRow { data := l.toArray } (grownCap w l.length 0 5)).size + 1))).drew := ((Mod.refl _ _).alloc _).drew
  have hcell : ∀ j (h : j < l.length), (w.alloc (Obj.cells (bytesRow { data := l.toArray } (grownCap w l.length 0 5)) 5 ((bytesRow { data := l.toArray } (grownCap w l.length 0 5)).size, (bytesRow { data := l.toArray } (grownCap w l.length 0 5)).size + 1))).drew.cell? ⟨w.heap.size, j, none⟩ = some (.int .u8 (l[j].toNat : Int)) := fun j h => by rw [World.cell?_drew]; exact cell_row8 w l _ _ _ j h
  generalize hW : World.drew (World.alloc w _) = W at *
  have HW := hid hW; clear hW
  have HC := hid hcell; clear hcell
  have HL := hid hl.out
  go_loop [0, 12] (fun n i => ∃ j c : Nat, j ≤ l.length ∧ c < 4294967296 ∧ i = .int .i64 j ∧ n = .int .u32 (c : Int) ∧ Hid (T = Crc.divC p c (l.drop j))) (fun _ i => l.length - (intOf i).toNat)
  case atStart => exact ⟨0, s, Nat.zero_le _, hs.out, rfl, rfl, HT⟩
  case round =>
    obtain ⟨j, c, hj, hc, rfl, rfl, HR⟩ := hrel
    by_cases hlt : j < l.length
    · have hcc := HC.out j hlt
      generalize hx : l[j] = x at *
      have HX := hid hx; clear hx
      have hx8 := x.toNat_lt
      have tx : IntKind.u32.wrap (x.toNat : Int) = (x.toNat : Int) := IntWalk.u32_in _ (by omega)
      have t2 := xor_32 (s := c) (c := x.toNat) hc (by omega)
      have hcx : c ^^^ x.toNat < 4294967296 := Nat.xor_lt_two_pow (n := 32) hc (by omega)
      have HS : Hid (T = Crc.divC p (Crc.stepsC p 8 (c ^^^ x.toNat)) (l.drop (j + 1))) := by
        have h1 := HR.out
        rw [List.drop_eq_getElem_cons hlt, HX.out] at h1
        exact h1
      clear HR
      go_wp2
      generalize c ^^^ x.toNat = y at *
      go_loop [0, 20] (fun n i => ∃ k c : Nat, k ≤ 8 ∧ c < 4294967296 ∧ i = .int .i64 k ∧ n = .int .u32 (c : Int) ∧ Hid (Crc.stepsC p (8 - k) c = Crc.stepsC p 8 y)) (fun _ i => 8 - (intOf i).toNat)
      case atStart => exact ⟨0, y, by omega, hcx, rfl, rfl, rfl⟩
      case round =>
        obtain ⟨k, c, hk, hc, rfl, rfl, HR⟩ := hrel
        by_cases hlt : k < 8
        · have tA := and1_32 hc
          have HN : Hid (Crc.stepsC p (8 - (k + 1)) (Crc.stepC p c) = Crc.stepsC p 8 y) := by
            have h1 := HR.out
            rw [show 8 - k = (8 - (k + 1)) + 1 by omega] at h1
            exact h1
          have hL := Crc.stepC_lt (m := 32) hp.out hc
          clear HR
          rcases Nat.mod_two_eq_zero_or_one c with e | e
          · have hS : Crc.stepC p c = c / 2 := by unfold Crc.stepC; rw [if_neg (by omega)]
            rw [hS] at HN hL
            rw [e] at tA
            go_wp2
            go_round
            case rel => exact ⟨k + 1, c / 2, by omega, hL, by go_num, by simp, HN⟩
            case measure => simp [intOf]; omega
          · have hS : Crc.stepC p c = c / 2 ^^^ p := by unfold Crc.stepC; rw [if_pos e]
            have tX := xor_32 (s := c / 2) (c := p) (by omega) hp.out
            rw [hS] at HN hL
            rw [e] at tA
            go_wp2
            go_round
            case rel => exact ⟨k + 1, c / 2 ^^^ p, by omega, hL, by go_num, by rw [← tX]; simp, HN⟩
            case measure => simp [intOf]; omega
        · obtain rfl : k = 8 := by omega
          have h1 : c = Crc.stepsC p 8 y := HR.out
          have hl2 : l.length < 1000000 := hl.out
          subst h1
          clear HR
          go_wp2
          go_round
          case rel => exact ⟨j + 1, _, by omega, hc, by go_num, rfl, HS⟩
          case measure => simp [intOf]; omega
    · obtain rfl : j = l.length := by omega
      have h1 := HR.out
      rw [List.drop_length] at h1
      have h2 : T = c := h1
      subst h2
      clear HR h1
      go_wp2
      go_ret
      exact ⟨rfl, hext⟩
end Go.Proofs.Ytogjghmoankleaa


namespace Go.Proofs.Ytogjghmoankleaa
open Go.RowKit
set_option linter.unusedVariables false
set_option linter.unusedSimpArgs false

def Crc.x25 (l : List UInt8) : Nat := 65535 - Crc.divC 33800 65535 l
def Crc.cast (l : List UInt8) : Nat := 4294967295 - Crc.divC 2197175160 4294967295 l
def Crc.sumL (kind : Nat) (l : List UInt8) : List UInt8 := if kind = 1 then be (Crc.x25 l) 2 else if kind = 2 then be (Crc.cast l) 4 else []

theorem Size_any (k : Nat) (hk : k ≤ 2) (w : World) : Calls Try.prog 76 #[.int .i64 (k : Int)] w (Ret (.int .i64 ((2 * k : Nat) : Int)) w) := by
  go_enter Try.func76, Try.ntmps76
  go_wp2
  go_ret
  exact Ret.mk (by simp) (Mod.refl _ _)

theorem X25_any (l : List UInt8) (hl : Hid (l.length < 1000000)) (w : World) : Calls Try.prog 145 #[str l] w (Ret (.int .u16 (Crc.x25 l : Nat)) w) := by
  have hd : Crc.divC 33800 65535 l < 65536 := Crc.divC_lt (m := 16) (by decide) l 65535 (by decide) (by decide)
  have tx : bits .xor .u16 IntKind.u16.max (Crc.divC 33800 65535 l : Int) = ((65535 - Crc.divC 33800 65535 l : Nat) : Int) := by
    rw [Crc.not_xor (n := 16) hd]
    exact u16_xor_nat 65535 _ (by decide) hd
  have K := hid (fun W => divide16 33800 65535 (by unfold Hid; decide) (by unfold Hid; decide) l hl W)
  unfold Crc.x25
  generalize Crc.divC 33800 65535 l = d at *
  go_enter Try.func145, Try.ntmps145
  go_wp2_with fail
  refine (K.out _).mono ?_
  rintro e w1 ⟨rfl, hb1⟩
  go_wp2_with fail
  go_ret
  exact Ret.mk (by simp) hb1
theorem Castagnoli_any (l : List UInt8) (hl : Hid (l.length < 1000000)) (w : World) : Calls Try.prog 146 #[str l] w (Ret (.int .u32 (Crc.cast l : Nat)) w) := by
  have hd : Crc.divC 2197175160 4294967295 l < 4294967296 := Crc.divC_lt (m := 32) (by decide) l 4294967295 (by decide) (by decide)
  have tx : bits .xor .u32 IntKind.u32.max (Crc.divC 2197175160 4294967295 l : Int) = ((4294967295 - Crc.divC 2197175160 4294967295 l : Nat) : Int) := by
    rw [Crc.not_xor (n := 32) hd]
    exact u32_xor_nat 4294967295 _ (by decide) hd
  have K := hid (fun W => divide32 2197175160 4294967295 (by unfold Hid; decide) (by unfold Hid; decide) l hl W)
  unfold Crc.cast
  generalize Crc.divC 2197175160 4294967295 l = d at *
  go_enter Try.func146, Try.ntmps146
  go_wp2_with fail
  refine (K.out _).mono ?_
  rintro e w1 ⟨rfl, hb1⟩
  go_wp2_with fail
  go_ret
  exact Ret.mk (by simp) hb1
theorem be2 {n : Nat} (h : n < 65536) : be n 2 = [b8 (n / 256), b8 (n % 256)] := by
  have e : n / 256 % 256 = n / 256 := by omega
  rw [be_succ, be_succ, be_zero]
  simp [e]
theorem be4 {n : Nat} (h : n < 4294967296) : be n 4 = [b8 (n / 16777216), b8 (n / 65536 % 256), b8 (n / 256 % 256), b8 (n % 256)] := by
  have e : n / 16777216 % 256 = n / 16777216 := by omega
  rw [be_succ, be_succ, be_succ, be_succ, be_zero]
  simp [e]
theorem b8_cast {n : Nat} (h : n < 256) : ((b8 n).toNat : Int) = (n : Int) := by
  simp [b8]
  omega
/-- Bytes laid in a new block, as a string. -/
theorem conv_new (l : List UInt8) (c : Nat) (W : World) : (convert 73 9 (.slice (some ⟨W.heap.size, 0, none⟩) l.length c)).run Try.prog (W.alloc (.cells (l.map fun b => Value.int .u8 (b.toNat : Int)).toArray 5)) = .ok (str l) (W.alloc (.cells (l.map fun b => Value.int .u8 (b.toNat : Int)).toArray 5)) := by
  refine run_convert_bytes_back (P := Try.prog) _ 73 9 5 _ c l Try.underlying73 Try.underlying5 Try.underlying9 (fun j hj => ?_)
  rw [addr_add, Nat.zero_add, (Blk.new W 5 _).cell j]
  simp [hj]
theorem Sum_1 (l : List UInt8) (hl : Hid (l.length < 1000000)) (w : World) : Calls Try.prog 117 #[.int .i64 1, str l] w (Ret (str (be (Crc.x25 l) 2)) w) := by
  have hd : Crc.x25 l < 65536 := by unfold Crc.x25; omega
  have K := hid (fun W => X25_any l hl W)
  generalize Crc.x25 l = d at *
  have hcv : ∀ W : World, (convert 73 9 (.slice (some ⟨W.heap.size, 0, none⟩) 2 2)).run Try.prog (W.alloc (.cells #[.int .u8 ((d : Int) / 256), .int .u8 ((d : Int) % 256)] 5)) = .ok (str (be d 2)) (W.alloc (.cells #[.int .u8 ((d : Int) / 256), .int .u8 ((d : Int) % 256)] 5)) := fun W => by
    have := conv_new (be d 2) 2 W
    rw [be_length, be2 hd] at this
    simpa [b8_cast (show d / 256 < 256 by omega), b8_cast (show d % 256 < 256 by omega), be2 hd] using this
  go_enter Try.func117, Try.ntmps117
  go_wp2_with fail
  refine (K.out _).mono ?_
  rintro e w1 ⟨rfl, hb1⟩
  go_wp2_with fail
  go_ret
  exact Ret.mk rfl (hb1.alloc _)
theorem Sum_2 (l : List UInt8) (hl : Hid (l.length < 1000000)) (w : World) : Calls Try.prog 117 #[.int .i64 2, str l] w (Ret (str (be (Crc.cast l) 4)) w) := by
  have hd : Crc.cast l < 4294967296 := by unfold Crc.cast; omega
  have K := hid (fun W => Castagnoli_any l hl W)
  generalize Crc.cast l = d at *
  have hcv : ∀ W : World, (convert 73 9 (.slice (some ⟨W.heap.size, 0, none⟩) 4 4)).run Try.prog (W.alloc (.cells #[.int .u8 ((d : Int) / 16777216), .int .u8 ((d : Int) / 65536 % 256), .int .u8 ((d : Int) / 256 % 256), .int .u8 ((d : Int) % 256)] 5)) = .ok (str (be d 4)) (W.alloc (.cells #[.int .u8 ((d : Int) / 16777216), .int .u8 ((d : Int) / 65536 % 256), .int .u8 ((d : Int) / 256 % 256), .int .u8 ((d : Int) % 256)] 5)) := fun W => by
    have := conv_new (be d 4) 4 W
    rw [be_length, be4 hd] at this
    simpa [b8_cast (show d / 16777216 < 256 by omega), b8_cast (show d / 65536 % 256 < 256 by omega), b8_cast (show d / 256 % 256 < 256 by omega), b8_cast (show d % 256 < 256 by omega), be4 hd] using this
  go_enter Try.func117, Try.ntmps117
  go_wp2_with fail
  refine (K.out _).mono ?_
  rintro e w1 ⟨rfl, hb1⟩
  go_wp2_with fail
  go_ret
  exact Ret.mk rfl (hb1.alloc _)
theorem Sum_any (k : Nat) (h1 : 1 ≤ k) (h2 : k ≤ 2) (l : List UInt8) (hl : Hid (l.length < 1000000)) (w : World) : Calls Try.prog 117 #[.int .i64 (k : Int), str l] w (Ret (str (Crc.sumL k l)) w) := by
  have : k = 1 ∨ k = 2 := by omega
  rcases this with rfl | rfl
  · exact Sum_1 l hl w
  · exact Sum_2 l hl w
theorem Crc.sumL_length {k : Nat} (h1 : 1 ≤ k) (h2 : k ≤ 2) (l : List UInt8) : (Crc.sumL k l).length = 2 * k := by
  have : k = 1 ∨ k = 2 := by omega
  rcases this with rfl | rfl
  · exact be_length _ _
  · exact be_length _ _
end Go.Proofs.Ytogjghmoankleaa


namespace Go.Proofs.Ytogjghmoankleaa
open Go.RowKit
set_option linter.unusedVariables false
set_option linter.unusedSimpArgs false

def layRep_ren : Shelf.Ren where
  f := fun x => match x with
    | 105 => 71
    | 212 => 110
    | 99 => 111
    | 165 => 112
    | 166 => 113
    | 170 => 114
    | 169 => 115
    | 263 => 140
    | 264 => 141
    | 206 => 142
    | 240 => 143
    | 241 => 144
    | 276 => 157
    | 277 => 158
    | n => n
  t := fun x => match x with
    | 9 => 9
    | 3 => 3
    | 4 => 4
    | 20 => 20
    | 0 => 0
    | 46 => 157
    | 109 => 158
    | 5 => 5
    | 72 => 163
    | 76 => 167
    | 51 => 185
    | 146 => 186
    | 53 => 24
    | 148 => 188
    | 70 => 161
    | 37 => 73
    | 75 => 166
    | 127 => 190
    | 164 => 200
    | 80 => 169
    | n => n
  g := fun n => n
theorem layRep : Lays.n105 Try.prog layRep_ren where
  mixed := by kernel_rfl
  f105 := Try.func71.trans (by kernel_rfl)
  f212 := Try.func110.trans (by kernel_rfl)
  f99 := Try.func111.trans (by kernel_rfl)
  f165 := Try.func112.trans (by kernel_rfl)
  f166 := Try.func113.trans (by kernel_rfl)
  f170 := Try.func114.trans (by kernel_rfl)
  f169 := Try.func115.trans (by kernel_rfl)
  f263 := Try.func140.trans (by kernel_rfl)
  f264 := Try.func141.trans (by kernel_rfl)
  f206 := Try.func142.trans (by kernel_rfl)
  f240 := Try.func143.trans (by kernel_rfl)
  f241 := Try.func144.trans (by kernel_rfl)
  f276 := Try.func157.trans (by kernel_rfl)
  f277 := Try.func158.trans (by kernel_rfl)
  t9 := Try.underlying9
  a9 := Try.isAgg9
  z9 := Try.sizeOf9
  v9 := Try.zeroValue9
  t3 := Try.underlying3
  a3 := Try.isAgg3
  z3 := Try.sizeOf3
  v3 := Try.zeroValue3
  t4 := Try.underlying4
  a4 := Try.isAgg4
  z4 := Try.sizeOf4
  v4 := Try.zeroValue4
  t20 := Try.underlying20
  a20 := Try.isAgg20
  z20 := Try.sizeOf20
  v20 := Try.zeroValue20
  t0 := Try.underlying0
  a0 := Try.isAgg0
  z0 := Try.sizeOf0
  v0 := Try.zeroValue0
  t46 := Try.underlying157
  a46 := Try.isAgg157
  z46 := Try.sizeOf157
  v46 := Try.zeroValue157
  t109 := Try.underlying158
  a109 := Try.isAgg158
  z109 := Try.sizeOf158
  v109 := Try.zeroValue158
  t5 := Try.underlying5
  a5 := Try.isAgg5
  z5 := Try.sizeOf5
  v5 := Try.zeroValue5
  t72 := Try.underlying163
  a72 := Try.isAgg163
  z72 := Try.sizeOf163
  v72 := Try.zeroValue163
  t76 := Try.underlying167
  a76 := Try.isAgg167
  z76 := Try.sizeOf167
  v76 := Try.zeroValue167
  t51 := Try.underlying185
  a51 := Try.isAgg185
  z51 := Try.sizeOf185
  v51 := Try.zeroValue185
  t146 := Try.underlying186
  a146 := Try.isAgg186
  z146 := Try.sizeOf186
  v146 := Try.zeroValue186
  t53 := Try.underlying24
  a53 := Try.isAgg24
  z53 := Try.sizeOf24
  v53 := Try.zeroValue24
  t148 := Try.underlying188
  a148 := Try.isAgg188
  z148 := Try.sizeOf188
  v148 := Try.zeroValue188
  t70 := Try.underlying161
  a70 := Try.isAgg161
  z70 := Try.sizeOf161
  v70 := Try.zeroValue161
  t37 := Try.underlying73
  a37 := Try.isAgg73
  z37 := Try.sizeOf73
  v37 := Try.zeroValue73
  t75 := Try.underlying166
  a75 := Try.isAgg166
  z75 := Try.sizeOf166
  v75 := Try.zeroValue166
  t127 := Try.underlying190
  a127 := Try.isAgg190
  z127 := Try.sizeOf190
  v127 := Try.zeroValue190
  t164 := Try.underlying200
  a164 := Try.isAgg200
  z164 := Try.sizeOf200
  v164 := Try.zeroValue200
theorem layRepX : Builder.Extra Try.prog layRep_ren where
  sizeBuilder := by kernel_rfl
  liesBuilder := by kernel_rfl
  t5 := Try.underlying5
  a5 := Try.isAgg5
  z5 := Try.sizeOf5
  v5 := Try.zeroValue5
  infoByte := by kernel_rfl
  cellsByte := by kernel_rfl
  sizeByte := by kernel_rfl
  neB5 := by decide

theorem repeat0 (k : Nat) : Lib.repeatL [0] k = List.replicate k (0 : UInt8) := by
  induction k with
  | zero => rfl
  | succ k ih => rw [Lib.repeatL, ih, List.replicate_succ]; rfl
theorem Repeat_zero (k : Nat) (hk : k ≤ 1000) (w : World) : Calls Try.prog 71 #[.string ⟨#[0]⟩, .int .i64 (k : Int)] w (Ret (str (List.replicate k 0)) w) := by
  refine (Any.strings_Repeat layRep layRepX ⟨#[0]⟩ k w (by omega) (by show 1 * k ≤ _; omega)).mono fun e w' ⟨he, hb⟩ => ⟨?_, Mod.of_below hb⟩
  rw [he]
  show Ending.returned (.string ⟨(Lib.repeatL [0] k).toArray⟩) = _
  rw [repeat0]
end Go.Proofs.Ytogjghmoankleaa


namespace Go.Proofs.Ytogjghmoankleaa
open Go.RowKit
set_option linter.unusedVariables false
set_option linter.unusedSimpArgs false

/-- An array of six, with another last part. -/
def lastT (ch : Nat → T) (s : List UInt8) : T := T.mk 4 0 [] false 6 fun i => if i = 5 then strT s else ch i
/-- Its bytes, as they are built. -/
def bldL (t : T) : List UInt8 := if t.right 8 then t.bytes else []
theorem buildV_bld (t : T) : ∃ E, buildV t = .tuple #[str (bldL t), .int .i64 E] := by
  unfold buildV bldL
  split
  · exact ⟨_, rfl⟩
  · exact ⟨_, rfl⟩
theorem lastK {W W' : World} {g : Nat} {Q : Nat → Prop} {ch : Nat → T} {ac : Nat → Option Addr × Nat} (hm : Mod [g] W W') (hq : ∀ b, Q b → b ≠ g) (h : ∀ i, i < 6 → IsL W Q (ch i) (ac i).1) (s : List UInt8) :
    ∀ i, i < 6 → IsL W' Q ((fun i => if i = 5 then strT s else ch i) i) ((fun i => if i = 5 then ((none : Option Addr), 0) else ac i) i).1 := by
  intro i hi
  by_cases e : i = 5
  · subst e; simp only [if_true]; exact fun h => absurd h (by decide)
  · simp only [if_neg e]
    exact IsL.mod hm (fun k hk _ hm => by rw [List.mem_singleton] at hm; exact hq k hk hm) _ (h i hi)

end Go.Proofs.Ytogjghmoankleaa


namespace Go.Proofs.Ytogjghmoankleaa
open Go.RowKit
set_option linter.unusedVariables false
set_option linter.unusedSimpArgs false

theorem blkT_last {ty num fl crc : Nat} {data s t : List UInt8} (hc : ¬ crc = 0) (ch : Nat → T) (hch : blkT ty num fl crc data s = T.mk 4 0 [] false 6 ch) : lastT ch t = blkT ty num fl crc data t := by
  unfold blkT at hch ⊢
  rw [if_neg hc] at hch ⊢
  have h := (T.mk.inj hch).2.2.2.2.2
  subst h
  unfold lastT
  congr 1
  funext i
  by_cases e : i = 5
  · subst e; simp
  · simp [e]
theorem blkT_right {ty num fl crc : Nat} {data s : List UInt8} (d : Nat) (hd : 2 ≤ d) : (blkT ty num fl crc data s).right d = true := by
  unfold blkT T.right
  rw [if_neg (by omega)]
  simp only [Bool.and_eq_true]
  constructor
  · split <;> rfl
  · rw [T.all_iff]
    intro i hi
    have hi6 : i < 6 := by split at hi <;> omega
    have hd1 : ¬ d - 1 < 1 := by omega
    have h6 : i = 0 ∨ i = 1 ∨ i = 2 ∨ i = 3 ∨ i = 4 ∨ i = 5 := by omega
    rcases h6 with rfl | rfl | rfl | rfl | rfl | rfl <;> simp [numT, strT, T.right, hd1, T.node, T.all]
theorem blkT_plain {ty num fl crc : Nat} {data s : List UInt8} : (blkT ty num fl crc data s).plain = true := by
  unfold blkT T.plain
  simp only [Bool.and_eq_true]
  constructor
  · split <;> rfl
  · rw [T.all_iff]
    intro i hi
    have hi6 : i < 6 := by split at hi <;> omega
    have h6 : i = 0 ∨ i = 1 ∨ i = 2 ∨ i = 3 ∨ i = 4 ∨ i = 5 := by omega
    rcases h6 with rfl | rfl | rfl | rfl | rfl | rfl <;> simp [numT, strT, T.plain, T.node, T.all]
theorem sum_le {f : Nat → Nat} {B : Nat} (h : ∀ i, f i ≤ B) : ∀ k, T.sum f k ≤ k * B
  | 0 => by simp [T.sum]
  | k + 1 => by have := sum_le h k; have := h k; rw [T.sum, Nat.succ_mul]; omega
theorem blkT_size {ty num fl crc : Nat} {data s : List UInt8} (h5 : data.length ≤ 4000) (h6 : s.length ≤ 4000) : (blkT ty num fl crc data s).size ≤ 100000 := by
  have hs : ∀ k, k ≤ 6 → ∀ f : Nat → Nat, (∀ i, f i ≤ 4001) → 1 + ([] : List UInt8).length + T.sum f k ≤ 100000 := fun k hk f hf => by
    have := sum_le hf k
    have : k * 4001 ≤ 6 * 4001 := Nat.mul_le_mul_right _ hk
    simp
    omega
  unfold blkT T.size
  refine hs _ (by split <;> omega) _ (fun i => ?_)
  dsimp only
  split
  · simp [numT, T.size, T.sum]
  · split
    · simp [numT, T.size, T.sum]
    · split
      · simp [numT, T.size, T.sum]
      · split
        · simp [numT, T.size, T.sum]
        · split
          · simp [strT, T.size, T.sum]; omega
          · split
            · simp [strT, T.size, T.sum]; omega
            · simp [T.size]

/-- A block's item's bytes. -/
def blkB (ty num fl crc : Nat) (data sum : List UInt8) : List UInt8 :=
  headL 4 (if crc = 0 then 5 else 6) ++ headL 0 ty ++ headL 0 num ++ headL 0 fl ++ headL 0 crc ++ (headL 2 data.length ++ data) ++ (if crc = 0 then [] else headL 2 sum.length ++ sum)
theorem blkT_bytes (ty num fl crc : Nat) (data sum : List UInt8) : (blkT ty num fl crc data sum).bytes = blkB ty num fl crc data sum := by
  unfold blkT blkB
  by_cases hc : crc = 0
  · subst hc
    simp [T.bytes, T.cat, numT, strT]
  · simp [hc, T.bytes, T.cat, numT, strT]
theorem blkB_length {ty num fl crc : Nat} {data sum : List UInt8} (h5 : data.length ≤ 4000) (h6 : sum.length ≤ 4000) : (blkB ty num fl crc data sum).length < 1000000 := by
  have a1 := headL_le 4 5
  have a0 := headL_le 4 6
  have a2 := headL_le 0 ty
  have a3 := headL_le 0 num
  have a4 := headL_le 0 fl
  have a5 := headL_le 0 crc
  have a6 := headL_le 2 data.length
  have a7 := headL_le 2 sum.length
  unfold blkB
  simp only [List.length_append]
  split <;> simp <;> omega
/-- The right sum of a block. -/
def sumB (ty num fl crc : Nat) (data : List UInt8) : List UInt8 := if crc = 0 then [] else Crc.sumL crc (blkB ty num fl crc data (List.replicate (2 * crc) 0))
def finT (ty num fl crc : Nat) (data : List UInt8) : T := blkT ty num fl crc data (sumB ty num fl crc data)
theorem sumB_length {ty num fl crc : Nat} {data : List UInt8} (hc : crc ≤ 2) : (sumB ty num fl crc data).length = 2 * crc := by
  unfold sumB
  split
  · subst crc; rfl
  · exact Crc.sumL_length (by omega) hc _
theorem finV {ty num fl crc : Nat} {data : List UInt8} : buildV (finT ty num fl crc data) = .tuple #[str (blkB ty num fl crc data (sumB ty num fl crc data)), .int .i64 0] := by
  unfold buildV finT
  rw [blkT_right 8 (by omega), if_pos rfl, blkT_bytes]
end Go.Proofs.Ytogjghmoankleaa
