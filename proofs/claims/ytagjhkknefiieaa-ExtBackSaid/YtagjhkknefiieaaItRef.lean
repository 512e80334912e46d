/-
  Items: how many there are, whether they are plain.
-/
import Derived.Test.YtagjhkknefiieaaItMem
namespace Go.Proofs.Ytagjhkknefiieaa
open Go.RowKit
set_option linter.unusedVariables false

set_option maxRecDepth 20000 in
set_option maxHeartbeats 3200000 in
theorem plain_any (t : T) : t.ok → ∀ A c w, IsL w (fun _ => True) t A →
    Calls Try.prog 69 #[itemV t A c] w (Ret (.bool t.plain) w) := by
  induction t with
  | nil => intro hok; cases hok
  | mk kind n s op k ch ih =>
    intro hok A c w h
    have H := hid h; have HO := hid hok
    have HI := hid ih
    have hk : Hid (k < 4611686018427387904) := by unfold T.ok at hok; exact hok.2.2.2.1
    show Calls Try.prog 69 #[.agg #[.int .i64 kind, .int .u64 (n : Int), str s, .slice A k c, .bool op]] w (Ret (.bool (T.node kind n s op k && T.all (fun i => (ch i).plain) k)) w)
    have HB : Hid (Blk (w.alloc (.cells #[.int .i64 kind, .int .u64 (n : Int), str s, .slice A k c, .bool op] 63)) w.heap.size 63 #[.int .i64 kind, .int .u64 (n : Int), str s, .slice A k c, .bool op]) := Blk.new _ _ _
    have HE0 := hid ((Mod.refl [] w).alloc (.cells #[.int .i64 kind, .int .u64 (n : Int), str s, .slice A k c, .bool op] 63))
    clear h hok ih
    go_enter Try.func69, Try.ntmps69
    go_upto_region 2 with fail
    go_cut [4] (fun s4 wx => s4 = .bool (decide (kind = 2 ∨ kind = 3)) ∧ Hid (Ext w wx ∧ Blk wx w.heap.size 63 #[.int .i64 kind, .int .u64 (n : Int), str s, .slice A k c, .bool op]))
    case first =>
      by_cases a2 : kind = 2
      · subst a2
        go_wp2_with fail
        go_meet
        exact ⟨by simp, HE0.out, HB.out⟩
      · have b2 : (kind == 2) = false := by simp [a2]
        go_wp2_with fail
        go_meet
        exact ⟨by simp only [a2, false_or]; rfl, HE0.out, HB.out⟩
    obtain ⟨rfl, hH⟩ := hcut
    have c0 : wc.cell? ⟨w.heap.size, 0, none⟩ = some (.int .i64 kind) := hH.out.2.cell 0
    have c1 : wc.cell? ⟨w.heap.size, 1, none⟩ = some (.int .u64 (n : Int)) := hH.out.2.cell 1
    have c2 : wc.cell? ⟨w.heap.size, 2, none⟩ = some (str s) := hH.out.2.cell 2
    have c3 : wc.cell? ⟨w.heap.size, 3, none⟩ = some (.slice A k c) := hH.out.2.cell 3
    have c4 : wc.cell? ⟨w.heap.size, 4, none⟩ = some (.bool op) := hH.out.2.cell 4
    go_upto_region 3 with fail
    go_cut [3, 4, 66] (fun s3 s4 s66 wx => ∃ bb, s66 = .bool bb ∧ bb = !T.node kind n s op k ∧ wx = wc)
    case first =>
      have bs : s ≠ [] → (s == []) = false := fun h => by simp [h]
      have bS : s ≠ [] → (s = []) = False := fun h => by simp [h]
      have bn : n ≠ 0 → ((n : Int) == 0) = false := fun h => by simp [h]
      have bN : n ≠ 0 → (n = 0) = False := fun h => by simp [h]
      have bk : 0 < k → decide (0 < k) = true := fun h => by simp [h]
      have bK : 1000 < k → decide (1000 < k) = true := fun h => by simp [h]
      have bK2 : ¬ 1000 < k → decide (1000 < k) = false := fun h => by simp at h; simp [h]
      have bk2 : ¬ 0 < k → k = 0 := fun h => by omega
      have q1 : k ≠ 0 → (k = 0) = False := fun h => by simp [h]
      by_cases a0 : kind = 0
      · subst a0
        have hn : n = 0 ∨ n ≠ 0 := by omega
        rcases hn with rfl | hn
        · skip
          by_cases hs : s = []
          · subst hs
            by_cases hk0 : 0 < k
            · have bk := bk hk0; have q1 := q1 (by omega)
              go_wp2_with fail
              go_meet
              exact ⟨_, rfl, by simp [T.node, q1], rfl⟩
            · obtain rfl := bk2 hk0
              cases op
              · skip
                go_wp2_with fail
                go_meet
                exact ⟨_, rfl, by simp [T.node], rfl⟩
              · skip
                go_wp2_with fail
                go_meet
                exact ⟨_, rfl, by simp [T.node], rfl⟩
          · have bs := bs hs; have bS := bS hs
            go_wp2_with fail
            go_meet
            exact ⟨_, rfl, by simp [T.node, hs], rfl⟩
        · have bn := bn hn; have bN := bN hn
          by_cases hs : s = []
          · subst hs
            by_cases hk0 : 0 < k
            · have bk := bk hk0; have q1 := q1 (by omega)
              go_wp2_with fail
              go_meet
              exact ⟨_, rfl, by simp [T.node, q1], rfl⟩
            · obtain rfl := bk2 hk0
              cases op
              · skip
                go_wp2_with fail
                go_meet
                exact ⟨_, rfl, by simp [T.node], rfl⟩
              · skip
                go_wp2_with fail
                go_meet
                exact ⟨_, rfl, by simp [T.node], rfl⟩
          · have bs := bs hs; have bS := bS hs
            go_wp2_with fail
            go_meet
            exact ⟨_, rfl, by simp [T.node, hs], rfl⟩
      · skip
        by_cases a2 : kind = 2
        · subst a2
          have hn : n = 0 ∨ n ≠ 0 := by omega
          rcases hn with rfl | hn
          · skip
            by_cases hs : s = []
            · subst hs
              by_cases hk0 : 0 < k
              · have bk := bk hk0; have q1 := q1 (by omega)
                go_wp2_with fail
                go_meet
                exact ⟨_, rfl, by simp [T.node, q1], rfl⟩
              · obtain rfl := bk2 hk0
                cases op
                · skip
                  go_wp2_with fail
                  go_meet
                  exact ⟨_, rfl, by simp [T.node], rfl⟩
                · skip
                  go_wp2_with fail
                  go_meet
                  exact ⟨_, rfl, by simp [T.node], rfl⟩
            · have bs := bs hs; have bS := bS hs
              by_cases hk0 : 0 < k
              · have bk := bk hk0; have q1 := q1 (by omega)
                go_wp2_with fail
                go_meet
                exact ⟨_, rfl, by simp [T.node, q1], rfl⟩
              · obtain rfl := bk2 hk0
                cases op
                · skip
                  go_wp2_with fail
                  go_meet
                  exact ⟨_, rfl, by simp [T.node], rfl⟩
                · skip
                  go_wp2_with fail
                  go_meet
                  exact ⟨_, rfl, by simp [T.node], rfl⟩
          · have bn := bn hn; have bN := bN hn
            go_wp2_with fail
            go_meet
            exact ⟨_, rfl, by simp [T.node, hn], rfl⟩
        · skip
          by_cases a3 : kind = 3
          · subst a3
            have hn : n = 0 ∨ n ≠ 0 := by omega
            rcases hn with rfl | hn
            · skip
              by_cases hs : s = []
              · subst hs
                by_cases hk0 : 0 < k
                · have bk := bk hk0; have q1 := q1 (by omega)
                  go_wp2_with fail
                  go_meet
                  exact ⟨_, rfl, by simp [T.node, q1], rfl⟩
                · obtain rfl := bk2 hk0
                  cases op
                  · skip
                    go_wp2_with fail
                    go_meet
                    exact ⟨_, rfl, by simp [T.node], rfl⟩
                  · skip
                    go_wp2_with fail
                    go_meet
                    exact ⟨_, rfl, by simp [T.node], rfl⟩
              · have bs := bs hs; have bS := bS hs
                by_cases hk0 : 0 < k
                · have bk := bk hk0; have q1 := q1 (by omega)
                  go_wp2_with fail
                  go_meet
                  exact ⟨_, rfl, by simp [T.node, q1], rfl⟩
                · obtain rfl := bk2 hk0
                  cases op
                  · skip
                    go_wp2_with fail
                    go_meet
                    exact ⟨_, rfl, by simp [T.node], rfl⟩
                  · skip
                    go_wp2_with fail
                    go_meet
                    exact ⟨_, rfl, by simp [T.node], rfl⟩
            · have bn := bn hn; have bN := bN hn
              go_wp2_with fail
              go_meet
              exact ⟨_, rfl, by simp [T.node, hn], rfl⟩
          · skip
            by_cases a4 : kind = 4
            · subst a4
              have hn : n = 0 ∨ n ≠ 0 := by omega
              rcases hn with rfl | hn
              · skip
                by_cases hs : s = []
                · subst hs
                  by_cases hk0 : 0 < k
                  · have bk := bk hk0; have q1 := q1 (by omega)
                    by_cases hk1 : 1000 < k
                    · have bK := bK hk1; have z1 : decide (k ≤ 1000) = false := by simp; omega
                      have z2 : decide (1000 < (k : Int)) = true := by simp; omega
                      go_wp2_with fail
                      go_meet
                      exact ⟨_, rfl, by simp [T.node, z1], rfl⟩
                    · have bK := bK2 hk1; have z1 : decide (k ≤ 1000) = true := by simp; omega
                      have z2 : decide (1000 < (k : Int)) = false := by simp; omega
                      go_wp2_with fail
                      go_meet
                      exact ⟨_, rfl, by simp [T.node, z1], rfl⟩
                  · obtain rfl := bk2 hk0
                    cases op
                    · skip
                      go_wp2_with fail
                      go_meet
                      exact ⟨_, rfl, by simp [T.node], rfl⟩
                    · skip
                      go_wp2_with fail
                      go_meet
                      exact ⟨_, rfl, by simp [T.node], rfl⟩
                · have bs := bs hs; have bS := bS hs
                  go_wp2_with fail
                  go_meet
                  exact ⟨_, rfl, by simp [T.node, hs], rfl⟩
              · have bn := bn hn; have bN := bN hn
                go_wp2_with fail
                go_meet
                exact ⟨_, rfl, by simp [T.node, hn], rfl⟩
            · skip
              have e0 : (kind == 0) = false := by simp [a0]
              have e4 : (kind == 4) = false := by simp [a4]
              have e23 : decide (kind = 2 ∨ kind = 3) = false := by simp [a2, a3]
              have f0 : (kind = 0) = False := by simp [a0]
              have f4 : (kind = 4) = False := by simp [a4]
              have f2 : (kind = 2) = False := by simp [a2]
              have f3 : (kind = 3) = False := by simp [a3]
              go_wp2_with fail
              go_meet
              exact ⟨_, rfl, by simp [T.node, a0, a2, a3, a4], rfl⟩
    obtain ⟨bb, rfl, hbb, rfl⟩ := hcut
    cases hnd : T.node kind n s op k
    · have HND := hid hnd
      rw [hnd] at hbb; obtain rfl : bb = true := hbb
      go_wp2_with fail
      go_ret
      exact Ret.mk (by rw [HND.out]; rfl) hH.out.1
    · have HND := hid hnd
      rw [hnd] at hbb; obtain rfl : bb = false := hbb
      clear hnd
      go_wp2_with fail
      go_loopw [5] (fun s5 wr => ∃ i : Nat, i ≤ k ∧ s5 = .int .i64 (i : Int) ∧ Hid (Ext w wr ∧ Blk wr w.heap.size 63 #[.int .i64 kind, .int .u64 (n : Int), str s, .slice A k c, .bool op] ∧ T.all (fun i => (ch i).plain) i = true)) (fun i _ => k - (intOf i).toNat)
      case atStart => exact ⟨0, Nat.zero_le _, rfl, hH.out.1, hH.out.2, rfl⟩
      case round =>
        clear c0 c1 c2 c3 c4
        obtain ⟨i, hi, rfl, hX⟩ := hrel
        have i0 : (0 : Int) ≤ (i : Int) := by omega
        have c3 : wr.cell? ⟨w.heap.size, 3, none⟩ = some (.slice A k c) := hX.out.2.1.cell 3
        by_cases hlt : i < k
        · obtain ⟨b, o, Ai, ci, rfl, hb, ⟨k0, k1, k2, k3, k4⟩, hL⟩ := H.out.cells hX.out.1 hlt
          have i1 : (i : Int) < (k : Int) := by omega
          have hk2 : (k : Int) < 4611686018427387904 := by have := hk.out; omega
          have ti : decide (i < k) = true := by simp [hlt]
          have HL := hid hL; have HLT := hid hlt
          have HOi : Hid (ch i).ok := by have := HO.out; unfold T.ok at this; exact this.2.2.2.2 i hlt
          clear hL hlt
          go_wp2_with fail
          refine (HI.out i HOi.out Ai ci _ HL.out).mono ?_
          rintro e w3 ⟨rfl, hb3⟩
          have HE3 := hid (hX.out.1.trans hb3)
          have HB3 := hid (hX.out.2.1.ext hb3)
          clear hb3
          cases hpl : (ch i).plain
          · have hno : T.all (fun i => (ch i).plain) k = false := by
              have hlt := HLT.out
              cases hh : T.all (fun i => (ch i).plain) k with
              | false => rfl
              | true => have := T.all_iff.1 hh i hlt; rw [hpl] at this; cases this
            have HNO := hid hno
            clear hno
            go_wp2_with fail
            go_ret
            exact Ret.mk (by rw [HND.out, HNO.out]; rfl) HE3.out
          · have HPL := hid hpl
            go_wp2_with fail
            have hlt := HLT.out
            refine ⟨⟨i + 1, by omega, by simp, (show Hid _ from ⟨HE3.out, HB3.out, by rw [T.all, hX.out.2.2, HPL.out]; rfl⟩)⟩, ?_⟩
            simp only [intOf]; omega
        · obtain rfl : i = k := by omega
          have ti : decide (i < i) = false := by simp
          go_wp2_with fail
          go_ret
          exact Ret.mk (by rw [HND.out, hX.out.2.2]; rfl) hX.out.1
end Go.Proofs.Ytagjhkknefiieaa
