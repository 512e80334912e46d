/-
  Items: the code's Right, Build and Same.
-/
import Derived.Test.YtagjhkknefiieaaItRef2
import Derived.Test.YtagjhkknefiieaaStrs
import Derived.Test.YtagjhkknefiieaaOpen
namespace Go.Proofs.Ytagjhkknefiieaa
open Go.RowKit
set_option linter.unusedVariables false

theorem T.leaf_all {kind : Int} {n : Nat} {s : List UInt8} {op : Bool} {k : Nat} {f : Nat → Bool} (h : kind ≠ 4) : (T.node kind n s op k && T.all f k) = T.node kind n s op k := by
  cases hn : T.node kind n s op k with
  | false => rfl
  | true =>
    unfold T.node at hn
    by_cases a : kind = 0
    · rw [if_pos a] at hn; simp at hn; rw [hn.1.2]; rfl
    · rw [if_neg a] at hn
      by_cases b : kind = 2 ∨ kind = 3
      · rw [if_pos b] at hn; simp at hn; rw [hn.1.2]; rfl
      · rw [if_neg b, if_neg h] at hn; cases hn

set_option maxRecDepth 20000 in
set_option maxHeartbeats 3200000 in
theorem right_any (t : T) : ∀ (d : Nat), d ≤ 9 → t.ok → ∀ A c w, IsL w (fun _ => True) t A →
    Calls Try.prog 71 #[itemV t A c, .int .i64 (d : Int)] w (Ret (.bool (t.right d)) w) := by
  induction t with
  | nil => intro m _ hok; cases hok
  | mk kind n s op k ch ih =>
    intro d hd hok A c w h
    have H := hid h; have HO := hid hok; have HD := hid hd
    have HI := hid ih
    have d0 : (0 : Int) ≤ (d : Int) := by omega
    have d1 : (d : Int) ≤ 9 := by omega
    have hk : Hid (k < 4611686018427387904) := by unfold T.ok at hok; exact hok.2.2.2.1
    have HR : Hid ((T.mk kind n s op k ch).right d = if d < 1 then false else T.node kind n s op k && T.all (fun i => (ch i).right (d - 1)) k) := rfl
    show Calls Try.prog 71 #[.agg #[.int .i64 kind, .int .u64 (n : Int), str s, .slice A k c, .bool op], .int .i64 (d : Int)] w (Ret (.bool ((T.mk kind n s op k ch).right d)) w)
    have HE0 := hid ((Mod.refl [] w).alloc (.cells #[.int .i64 kind, .int .u64 (n : Int), str s, .slice A k c, .bool op] 63))
    clear h hok ih hd
    by_cases hd0 : d < 1
    · obtain rfl : d = 0 := by omega
      rw [HR.out, if_pos (by omega)]
      go_enter Try.func71, Try.ntmps71
      go_wp2
      go_ret
      exact Ret.mk rfl HE0.out
    · rw [HR.out, if_neg hd0]
      have HD1 : Hid (1 ≤ d) := by unfold Hid; omega
      have td : decide ((d : Int) < 1) = false := by simp; omega
      have td2 : (d < 1) = False := by simp [hd0]
      have td3 : (d = 0) = False := by simp; omega
      have bs : s ≠ [] → (s == []) = false := fun h => by simp [h]
      have bS : s ≠ [] → (s = []) = False := fun h => by simp [h]
      have bn : n ≠ 0 → ((n : Int) == 0) = false := fun h => by simp [h]
      have bN : n ≠ 0 → (n = 0) = False := fun h => by simp [h]
      have bk : k ≠ 0 → ((k : Int) == 0) = false := fun h => by simp [h]
      have q1 : k ≠ 0 → (k = 0) = False := fun h => by simp [h]
      clear hd0
      by_cases a0 : kind = 0
      · subst a0
        go_enter Try.func71, Try.ntmps71
        by_cases hs : s = []
        · subst hs
          by_cases hk0 : k = 0
          · subst hk0
            cases op
            · skip
              go_wp2_with fail
              go_ret
              exact Ret.mk (by rw [T.leaf_all (by omega)]; simp [T.node]) HE0.out
            · skip
              go_wp2_with fail
              go_ret
              exact Ret.mk (by rw [T.leaf_all (by omega)]; simp [T.node]) HE0.out
          · have bk := bk hk0; have q1 := q1 hk0
            go_wp2_with fail
            go_ret
            exact Ret.mk (by rw [T.leaf_all (by omega)]; simp [T.node, hk0]) HE0.out
        · have bs := bs hs; have bS := bS hs
          go_wp2_with fail
          go_ret
          exact Ret.mk (by rw [T.leaf_all (by omega)]; simp [T.node, hs]) HE0.out
      · skip
        by_cases a2 : kind = 2
        · subst a2
          go_enter Try.func71, Try.ntmps71
          have hn : n = 0 ∨ n ≠ 0 := by omega
          rcases hn with rfl | hn
          · skip
            by_cases hk0 : k = 0
            · subst hk0
              cases op
              · skip
                go_wp2_with fail
                go_ret
                exact Ret.mk (by rw [T.leaf_all (by omega)]; simp [T.node]) HE0.out
              · skip
                go_wp2_with fail
                go_ret
                exact Ret.mk (by rw [T.leaf_all (by omega)]; simp [T.node]) HE0.out
            · have bk := bk hk0; have q1 := q1 hk0
              go_wp2_with fail
              go_ret
              exact Ret.mk (by rw [T.leaf_all (by omega)]; simp [T.node, hk0]) HE0.out
          · have bn := bn hn; have bN := bN hn
            go_wp2_with fail
            go_ret
            exact Ret.mk (by rw [T.leaf_all (by omega)]; simp [T.node, hn]) HE0.out
        · skip
          by_cases a3 : kind = 3
          · subst a3
            go_enter Try.func71, Try.ntmps71
            have hn : n = 0 ∨ n ≠ 0 := by omega
            rcases hn with rfl | hn
            · skip
              by_cases hk0 : k = 0
              · subst hk0
                cases op
                · skip
                  go_wp2_with fail
                  go_ret
                  exact Ret.mk (by rw [T.leaf_all (by omega)]; simp [T.node]) HE0.out
                · skip
                  go_wp2_with fail
                  go_ret
                  exact Ret.mk (by rw [T.leaf_all (by omega)]; simp [T.node]) HE0.out
              · have bk := bk hk0; have q1 := q1 hk0
                go_wp2_with fail
                go_ret
                exact Ret.mk (by rw [T.leaf_all (by omega)]; simp [T.node, hk0]) HE0.out
            · have bn := bn hn; have bN := bN hn
              go_wp2_with fail
              go_ret
              exact Ret.mk (by rw [T.leaf_all (by omega)]; simp [T.node, hn]) HE0.out
          · skip
            have e0 : (kind == 0) = false := by simp [a0]
            have e2 : (kind == 2) = false := by simp [a2]
            have e3 : (kind == 3) = false := by simp [a3]
            have f0 : (kind = 0) = False := by simp [a0]
            have f2 : (kind = 2) = False := by simp [a2]
            have f3 : (kind = 3) = False := by simp [a3]
            by_cases a4 : kind = 4
            · subst a4
              clear e0 e2 e3 f0 f2 f3 a0 a2 a3
              go_enter Try.func71, Try.ntmps71
              have hn : n = 0 ∨ n ≠ 0 := by omega
              rcases hn with rfl | hn
              · by_cases hs : s = []
                · subst hs
                  by_cases hk1 : 1000 < k
                  · have bK : decide (1000 < k) = true := by simp [hk1]
                    have z1 : decide (k ≤ 1000) = false := by simp; omega
                    go_wp2_with fail
                    go_ret
                    exact Ret.mk (by simp [T.node, z1]) HE0.out
                  · have bK : decide (1000 < k) = false := by simp; omega
                    have z1 : decide (k ≤ 1000) = true := by simp; omega
                    have HND : Hid (T.node 4 0 [] op k = true) := by unfold Hid; simp [T.node, z1]
                    have bK3 : (1000 < k) = False := by simp; omega
                    go_wp2_with fail
                    clear hk1 z1 bK bK3
                    go_loopw [63] (fun s63 wr => ∃ i : Nat, i ≤ k ∧ s63 = .int .i64 (i : Int) ∧ Hid (Ext w wr ∧ T.all (fun i => (ch i).right (d - 1)) i = true)) (fun i _ => k - (intOf i).toNat)
                    case atStart => exact ⟨0, Nat.zero_le _, rfl, HE0.out, rfl⟩
                    case round =>
                      obtain ⟨i, hi, rfl, hX⟩ := hrel
                      have i0 : (0 : Int) ≤ (i : Int) := by omega
                      by_cases hlt : i < k
                      · obtain ⟨b, o, Ai, ci, rfl, hb, ⟨k0, k1, k2, k3, k4⟩, hL⟩ := H.out.cells hX.out.1 hlt
                        have i1 : (i : Int) < (k : Int) := by omega
                        have hk2 : (k : Int) < 4611686018427387904 := by have := hk.out; omega
                        have ti : decide (i < k) = true := by simp [hlt]
                        have ha : (d : Int) - 1 = ((d - 1 : Nat) : Int) := by have := HD1.out; omega
                        have HL := hid hL; have HLT := hid hlt
                        have HOi : Hid (ch i).ok := by have := HO.out; unfold T.ok at this; exact this.2.2.2.2 i hlt
                        clear hL hlt
                        go_wp2_with fail
                        have HEa := hid ((Mod.refl [] wr).alloc (.cells (itemC (ch i) Ai ci) 63))
                        refine (HI.out i (d - 1) (by have := HD.out; omega) HOi.out Ai ci _ (HL.out.ext HEa.out)).mono ?_
                        rintro e w3 ⟨rfl, hb3⟩
                        have HE3 := hid ((hX.out.1.trans HEa.out).trans hb3)
                        clear hb3
                        cases hpl : (ch i).right (d - 1)
                        · have hno : T.all (fun i => (ch i).right (d - 1)) k = false := by
                            have hlt := HLT.out
                            cases hh : T.all (fun i => (ch i).right (d - 1)) k with
                            | false => rfl
                            | true => have := T.all_iff.1 hh i hlt; rw [hpl] at this; cases this
                          have HNO := hid hno
                          clear hno hpl
                          go_wp2_with fail
                          go_ret
                          exact Ret.mk (by rw [HND.out, HNO.out]; rfl) HE3.out
                        · have HPL := hid hpl
                          clear hpl
                          go_wp2_with fail
                          have hlt := HLT.out
                          refine ⟨⟨i + 1, by omega, by simp, (show Hid _ from ⟨HE3.out, by rw [T.all, hX.out.2, HPL.out]; rfl⟩)⟩, ?_⟩
                          simp only [intOf]; omega
                      · obtain rfl : i = k := by omega
                        have ti : decide (i < i) = false := by simp
                        go_wp2_with fail
                        go_ret
                        exact Ret.mk (by rw [HND.out, hX.out.2]; rfl) hX.out.1
                · have bs := bs hs; have bS := bS hs
                  go_wp2_with fail
                  go_ret
                  exact Ret.mk (by simp [T.node, hs]) HE0.out
              · have bn := bn hn; have bN := bN hn
                go_wp2_with fail
                go_ret
                exact Ret.mk (by simp [T.node, hn]) HE0.out
            · have e4 : (kind == 4) = false := by simp [a4]
              have f4 : (kind = 4) = False := by simp [a4]
              go_enter Try.func71, Try.ntmps71
              go_wp2_with fail
              go_ret
              exact Ret.mk (by simp [T.node, a0, a2, a3, a4]) HE0.out

set_option maxRecDepth 20000 in
set_option maxHeartbeats 1600000 in
theorem iRight_any (t : T) (hok : t.ok) (A : Option Addr) (c : Nat) (w : World) (h : IsL w (fun _ => True) t A) :
    Calls Try.prog 62 #[itemV t A c] w (Ret (.bool (t.right 8)) w) := by
  have H := hid h; have HO := hid hok
  clear h hok
  have HE0 := hid ((Mod.refl [] w).alloc (.cells (itemC t A c) 63))
  go_enter Try.func62, Try.ntmps62
  go_wp2_with fail
  refine (right_any t 8 (by omega) HO.out A c _ (H.out.ext HE0.out)).mono ?_
  rintro e w2 ⟨rfl, hb2⟩
  go_wp2_with fail
  go_ret
  exact Ret.mk rfl (HE0.out.trans hb2)
end Go.Proofs.Ytagjhkknefiieaa
