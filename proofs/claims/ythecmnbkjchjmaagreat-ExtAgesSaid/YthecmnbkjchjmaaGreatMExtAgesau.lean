/-
 Items: the code's same.
-/
import Derived.Test.YthecmnbkjchjmaaGreatMExtAgesak
import Derived.Test.YthecmnbkjchjmaaGreatMExtAgesal
import Derived.Test.YthecmnbkjchjmaaGreatMExtAgesat

namespace Go.Proofs.YthecmnbkjchjmaaGreat
open Go.RowKit
set_option linter.unusedVariables false
set_option linter.unusedSimpArgs false

set_option maxRecDepth 20000 in
set_option maxHeartbeats 3200000 in
theorem same_any (a : T) : ∀ b : T, a.ok -> b.ok -> ∀ A c B d w, IsL w (fun _ => True) a A -> IsL w (fun _ => True) b B ->
  Calls Tryz.prog 154 #[itemV a A c, itemV b B d] w (Ret (.bool (a.same b)) w) := by
 induction a with
 | nil => intro b hok; cases hok
 | mk kind n s op k ch ih =>
  intro b
  rcases b with _ | ⟨kind', n', s', op', k', ch'⟩
  . intro _ hok; cases hok
  intro hok hok' A c B d w h h'
  have H := hid h; have HO := hid hok
  have H' := hid h'; have HO' := hid hok'
  have HI := hid ih
  have hk : Hid (k < 4611686018427387904) := by unfold T.ok at hok; exact hok.2.2.2.1
  have HR : Hid ((T.mk kind n s op k ch).same (T.mk kind' n' s' op' k' ch') = (kind == kind' && n == n' && s == s' && op == op' && k == k' && T.all (fun i => (ch i).same (ch' i)) k)) := rfl
  show Calls Tryz.prog 154 #[.agg #[.int .i64 kind, .int .u64 (n : Int), str s, .slice A k c, .bool op], .agg #[.int .i64 kind', .int .u64 (n' : Int), str s', .slice B k' d, .bool op']] w (Ret (.bool ((T.mk kind n s op k ch).same (T.mk kind' n' s' op' k' ch'))) w)
  rw [HR.out]
  have HBa : Hid (Blk ((w.alloc (.cells #[.int .i64 kind, .int .u64 (n : Int), str s, .slice A k c, .bool op] 86)).alloc (.cells #[.int .i64 kind', .int .u64 (n' : Int), str s', .slice B k' d, .bool op'] 86)) w.heap.size 86 #[.int .i64 kind, .int .u64 (n : Int), str s, .slice A k c, .bool op]) := (Blk.new _ _ _).alloc _
  have HBb : Hid (Blk ((w.alloc (.cells #[.int .i64 kind, .int .u64 (n : Int), str s, .slice A k c, .bool op] 86)).alloc (.cells #[.int .i64 kind', .int .u64 (n' : Int), str s', .slice B k' d, .bool op'] 86)) (w.heap.size + 1) 86 #[.int .i64 kind', .int .u64 (n' : Int), str s', .slice B k' d, .bool op']) := by
   exact Blk.new' _ _ _ (by simp)
  have HE0 := hid (((Mod.refl [] w).alloc (.cells #[.int .i64 kind, .int .u64 (n : Int), str s, .slice A k c, .bool op] 86)).alloc (.cells #[.int .i64 kind', .int .u64 (n' : Int), str s', .slice B k' d, .bool op'] 86))
  clear h hok h' hok' ih HR
  go_enter Tryz.func154, Tryz.ntmps154
  by_cases e1 : kind = kind'
  .
   subst e1
   by_cases e2 : n = n'
   .
    subst e2
    by_cases e3 : s = s'
    .
     subst e3
     by_cases e4 : op = op'
     .
      subst e4
      by_cases e5 : k = k'
      .
       subst e5
       have tk : ((k : Int) == (k : Int)) = true := by simp
       have HA := hid (fun (wr : World) (hX : Ext ((w.alloc (.cells #[.int .i64 kind, .int .u64 (n : Int), str s, .slice A k c, .bool op] 86)).alloc (.cells #[.int .i64 kind, .int .u64 (n : Int), str s, .slice B k d, .bool op] 86)) wr) => (show wr.cell? ⟨w.heap.size, 3, none⟩ = some (.slice A k c) /\ wr.cell? ⟨w.heap.size + 1, 3, none⟩ = some (.slice B k d) from ⟨(HBa.out.ext hX).cell 3, (HBb.out.ext hX).cell 3⟩))
       have HEB := hid (Mod.refl [] ((w.alloc (.cells #[.int .i64 kind, .int .u64 (n : Int), str s, .slice A k c, .bool op] 86)).alloc (.cells #[.int .i64 kind, .int .u64 (n : Int), str s, .slice B k d, .bool op] 86)))
       go_wp2_with fail
       go_loopw [44] (fun s44 wr => ∃ i : Nat, i <= k /\ s44 = .int .i64 (i : Int) /\ Hid (Ext ((w.alloc (.cells #[.int .i64 kind, .int .u64 (n : Int), str s, .slice A k c, .bool op] 86)).alloc (.cells #[.int .i64 kind, .int .u64 (n : Int), str s, .slice B k d, .bool op] 86)) wr /\ T.all (fun i => (ch i).same (ch' i)) i = true)) (fun i _ => k - (intOf i).toNat)
       case atStart => exact ⟨0, Nat.zero_le _, rfl, HEB.out, rfl⟩
       case round =>
        obtain ⟨i, hi, rfl, hX⟩ := hrel
        have HEW := hid (HE0.out.trans hX.out.1)
        have i0 : (0 : Int) <= (i : Int) := by omega
        by_cases hlt : i < k
        .
         obtain ⟨y0, y1⟩ := HA.out wr hX.out.1
         obtain ⟨b, o, Ai, ci, rfl, hb, ⟨k0, k1, k2, k3, k4⟩, hL⟩ := H.out.cells HEW.out hlt
         obtain ⟨b', o', Ai', ci', rfl, hb', ⟨l0, l1, l2, l3, l4⟩, hL'⟩ := H'.out.cells HEW.out hlt
         have i1 : (i : Int) < (k : Int) := by omega
         have ti : decide (i < k) = true := by simp [hlt]
         have HL := hid hL; have HL' := hid hL'; have HLT := hid hlt
         have HOi : Hid (ch i).ok := by have := HO.out; unfold T.ok at this; exact this.2.2.2.2 i hlt
         have HOi' : Hid (ch' i).ok := by have := HO'.out; unfold T.ok at this; exact this.2.2.2.2 i hlt
         have hb0 : b < wr.heap.size := Nat.lt_of_lt_of_le hb HEW.out.size
         have hb0' : b' < wr.heap.size := Nat.lt_of_lt_of_le hb' HEW.out.size
         have HL5 : Hid (∀ W, Ext wr W -> W.cell? ⟨b, o + i * 5 + 3, none⟩ = some (.slice Ai (ch i).k ci)) := fun W hW => (hW.cell hb0 (by simp)).trans k3
         have HL5' : Hid (∀ W, Ext wr W -> W.cell? ⟨b', o' + i * 5 + 3, none⟩ = some (.slice Ai' (ch' i).k ci')) := fun W hW => (hW.cell hb0' (by simp)).trans l3
         clear hb hb' hb0 hb0'
         have HC := hid (fun W hW => HI.out i (ch' i) HOi.out HOi'.out Ai ci Ai' ci' W (HL.out.ext hW) (HL'.out.ext hW))
         have HS : Hid (∀ W, Ext wr W -> W.cell? ⟨w.heap.size, 3, none⟩ = some (.slice (some ⟨b, o, none⟩) k c) /\ W.cell? ⟨w.heap.size + 1, 3, none⟩ = some (.slice (some ⟨b', o', none⟩) k d) /\ W.cell? ⟨b, o + i * 5, none⟩ = some (.int .i64 (ch i).kind) /\ W.cell? ⟨b, o + i * 5 + 1, none⟩ = some (.int .u64 ((ch i).n : Int)) /\ W.cell? ⟨b, o + i * 5 + 2, none⟩ = some (str (ch i).s) /\ W.cell? ⟨b, o + i * 5 + 3, none⟩ = some (.slice Ai (ch i).k ci) /\ W.cell? ⟨b, o + i * 5 + 4, none⟩ = some (.bool (ch i).op) /\ W.cell? ⟨b', o' + i * 5, none⟩ = some (.int .i64 (ch' i).kind) /\ W.cell? ⟨b', o' + i * 5 + 1, none⟩ = some (.int .u64 ((ch' i).n : Int)) /\ W.cell? ⟨b', o' + i * 5 + 2, none⟩ = some (str (ch' i).s) /\ W.cell? ⟨b', o' + i * 5 + 3, none⟩ = some (.slice Ai' (ch' i).k ci') /\ W.cell? ⟨b', o' + i * 5 + 4, none⟩ = some (.bool (ch' i).op)) := fun W hW => by
          obtain ⟨z0, z1⟩ := HA.out W (hX.out.1.trans hW)
          obtain ⟨e1, e2, Ai2, ci2, e3, _, ⟨p0, p1, p2, p3, p4⟩, _⟩ := H.out.cells (HEW.out.trans hW) hlt
          obtain ⟨e1', e2', Ai2', ci2', e3', _, ⟨q0, q1, q2, q3, q4⟩, _⟩ := H'.out.cells (HEW.out.trans hW) hlt
          simp only [Option.some.injEq, Addr.mk.injEq, and_true] at e3 e3'
          obtain ⟨rfl, rfl⟩ := e3
          obtain ⟨rfl, rfl⟩ := e3'
          have g3 := HL5.out W hW; have g3' := HL5'.out W hW
          rw [p3] at g3; rw [q3] at g3'
          exact ⟨z0, z1, p0, p1, p2, p3.trans g3, p4, q0, q1, q2, q3.trans g3', q4⟩
         clear hL hL' hlt
         have hk2 : (k : Int) < 4611686018427387904 := by have := hk.out; omega
         go_upto_region 6 with fail
         go_region_held3 (fun w' => w'.cell? ⟨w.heap.size, 3, none⟩ = some (.slice (some ⟨b, o, none⟩) k c) /\ w'.cell? ⟨w.heap.size + 1, 3, none⟩ = some (.slice (some ⟨b', o', none⟩) k d) /\ w'.cell? ⟨b, o + i * 5, none⟩ = some (.int .i64 (ch i).kind) /\ w'.cell? ⟨b, o + i * 5 + 1, none⟩ = some (.int .u64 ((ch i).n : Int)) /\ w'.cell? ⟨b, o + i * 5 + 2, none⟩ = some (str (ch i).s) /\ w'.cell? ⟨b, o + i * 5 + 3, none⟩ = some (.slice Ai (ch i).k ci) /\ w'.cell? ⟨b, o + i * 5 + 4, none⟩ = some (.bool (ch i).op) /\ w'.cell? ⟨b', o' + i * 5, none⟩ = some (.int .i64 (ch' i).kind) /\ w'.cell? ⟨b', o' + i * 5 + 1, none⟩ = some (.int .u64 ((ch' i).n : Int)) /\ w'.cell? ⟨b', o' + i * 5 + 2, none⟩ = some (str (ch' i).s) /\ w'.cell? ⟨b', o' + i * 5 + 3, none⟩ = some (.slice Ai' (ch' i).k ci') /\ w'.cell? ⟨b', o' + i * 5 + 4, none⟩ = some (.bool (ch' i).op)) (exact HS.out _ (by (repeat (first | with_reducible assumption | with_reducible exact Mod.refl _ _ | with_reducible refine Mod.drew ?_))))
          ((go_at_call 154; refine (HC.out _ ?_).mono ?_; (repeat (first | with_reducible assumption | with_reducible exact Mod.refl _ _ | with_reducible refine Mod.drew ?_)); rintro e w3 ⟨rfl, hb3⟩; have hx3 : Ext wr w3 := (by with_reducible refine Mod.trans ?_ hb3; (repeat (first | with_reducible assumption | with_reducible exact Mod.refl _ _ | with_reducible refine Mod.drew ?_)))))
         have HE3 := hid (hX.out.1.trans hx3)
         have HE4 := hid (HEW.out.trans hx3)
         have HW1 : Hid (wrap64 ((i : Int) + 1) = (i : Int) + 1) := IntWalk.wrap64_in _ (by omega)
         clear hb3 hk2
         cases hpl : (ch i).same (ch' i)
         .
          have hno : T.all (fun i => (ch i).same (ch' i)) k = false := by
           have hlt := HLT.out
           cases hh : T.all (fun i => (ch i).same (ch' i)) k with
           | false => rfl
           | true => have := T.all_iff.1 hh i hlt; rw [hpl] at this; cases this
          have HNO := hid hno
          clear hno hpl
          go_wp2_with fail
          go_ret
          exact Ret.mk (by rw [HNO.out]; simp) HE4.out
         .
          have HPL := hid hpl
          clear hpl
          go_wp2_with fail
          have hlt := HLT.out
          have G1 : Value.int .i64 (wrap64 ((i : Int) + 1)) = .int .i64 ((i + 1 : Nat) : Int) := by rw [HW1.out]; simp
          have G2 : T.all (fun i => (ch i).same (ch' i)) (i + 1) = true := by rw [T.all, hX.out.2, HPL.out]; rfl
          have G3 : k - (intOf (Value.int .i64 (wrap64 ((i : Int) + 1)))).toNat < k - (intOf (.int .i64 (i : Int))).toNat := by rw [G1]; simp only [intOf]; omega
          refine ⟨⟨i + 1, by omega, G1, (show Hid _ from ⟨HE3.out, G2⟩)⟩, G3⟩
        .
         obtain rfl : i = k := by omega
         have ti : decide (i < i) = false := by simp
         go_wp2_with fail
         go_ret
         exact Ret.mk (by rw [hX.out.2]; simp) HEW.out
      .
       have f5 : (k = k') = False := by simp [e5]
       have f5' : ((k : Int) == (k' : Int)) = false := by simp; omega
       cases op
       .
        go_wp2_with fail
        go_ret
        exact Ret.mk (by simp [e5]) HE0.out
       .
        go_wp2_with fail
        go_ret
        exact Ret.mk (by simp [e5]) HE0.out
     .
      have f4 : (op == op') = false := by simp [e4]
      have f4' : (op = op') = False := by simp [e4]
      go_wp2_with fail
      go_ret
      exact Ret.mk (by simp) HE0.out
    .
     have f3 : (s == s') = false := by simp [e3]
     have f3' : (s = s') = False := by simp [e3]
     go_wp2_with fail
     go_ret
     exact Ret.mk (by simp) HE0.out
   .
    have f2 : ((n : Int) == (n' : Int)) = false := by simp; omega
    have f2' : (n = n') = False := by simp [e2]
    go_wp2_with fail
    go_ret
    exact Ret.mk (by simp [e2]) HE0.out
  .
   have f1 : (kind == kind') = false := by simp [e1]
   have f1' : (kind = kind') = False := by simp [e1]
   go_wp2_with fail
   go_ret
   exact Ret.mk (by simp) HE0.out
end Go.Proofs.YthecmnbkjchjmaaGreat


namespace Go.Proofs.YthecmnbkjchjmaaGreat
open Go.RowKit
set_option linter.unusedVariables false
set_option linter.unusedSimpArgs false

set_option maxRecDepth 20000 in
theorem build_yes (t : T) (hok : t.ok) (hsz : t.size <= 100000) (hr : t.right 8 = true) (A : Option Addr) (c : Nat) (w : World) (h : IsL w (fun _ => True) t A) : Calls Tryz.prog 44 #[itemV t A c, .bool true] w (Ret (.tuple #[str t.bytes, .int .i64 0]) w) := by
 have K : Hid (∀ W, IsL W (fun _ => True) t A -> Calls Tryz.prog 70 #[itemV t A c] W (Ret (.tuple #[str t.bytes, .int .i64 0]) W)) := fun W hW => by
  have := iBuild_any t hok hsz A c W hW
  rw [buildV, hr] at this
  exact this
 have H := hid h
 clear hok hsz hr h
 go_enter Tryz.func44, Tryz.ntmps44
 go_wp2_with fail
 refine (K.out _ (H.out.ext ((Mod.refl _ _).alloc _))).mono ?_
 rintro e w1 ⟨rfl, hb1⟩
 have HE1 := hid (((Mod.refl [] w).alloc (.cells (itemC t A c) 86)).trans hb1)
 clear hb1
 go_wp2_with fail
 refine bodyPost_ret (v := .tuple #[str t.bytes, .int .i64 0]) (by simp [results, Tryz.results44, go_sem]) rfl (Ret.mk rfl HE1.out)
theorem numT_facts (n : Nat) : (numT n).size <= 100000 /\ (numT n).right 8 = true /\ (numT n).bytes = headL 0 n := by
 refine ⟨by simp [numT, T.size, T.sum], by simp [numT, T.right, T.node, T.all], by simp [numT, T.bytes]⟩
set_option maxRecDepth 20000 in
set_option maxHeartbeats 800000 in
theorem Age_yes (n : Nat) (h : n <= 1099511627776) (w : World) : Calls Tryz.prog 65 #[.int .u64 (n : Int)] w (Ret (.tuple #[str (headL 0 n), .int .i64 0]) w) := by
 have t1 : decide ((n : Int) <= 1099511627776) = true := by simp; omega
 have K := hid (fun W => build_yes (numT n) (num_ok (by omega)) (numT_facts n).1 (numT_facts n).2.1 none 0 W (leaf_IsL rfl (by simp [numT])))
 rw [(numT_facts n).2.2] at K
 clear h
 go_enter Tryz.func65, Tryz.ntmps65
 go_wp2_with fail
 refine (NumI_any _ _).mono ?_
 rintro e w1 ⟨rfl, hb1⟩
 go_wp2_with fail
 refine (K.out _).mono ?_
 rintro e w2 ⟨rfl, hb2⟩
 go_wp2_with fail
 refine bodyPost_ret (v := .tuple #[str (headL 0 n), .int .i64 0]) (by simp [results, Tryz.results65, go_sem]) rfl (Ret.mk rfl (hb1.trans hb2))
def mayB (l c : Int) : Bool := decide (1 <= l) && decide (l <= 255) && decide (0 <= c) && decide (c <= 255)
theorem may_any (l c : Int) (w : World) : Calls Tryz.prog 47 #[.agg #[.int .i64 l, .int .i64 c]] w (Ret (.bool (mayB l c)) w) := by
 unfold mayB
 go_enter Tryz.func47, Tryz.ntmps47
 go_wp2
 all_goals go_ret
 all_goals refine Ret.mk ?_ ((Mod.refl _ _).alloc _)
 all_goals simp
 all_goals (intros; omega)
def pairT2 (a b : Nat) : T := T.mk 4 0 [] false 2 fun i => if i = 0 then numT a else numT b
theorem pairT2_facts (a b : Nat) (ha : a < 18446744073709551616) (hb : b < 18446744073709551616) : (pairT2 a b).ok /\ (pairT2 a b).size <= 100000 /\ (pairT2 a b).right 8 = true /\ (pairT2 a b).bytes = 130 :: (headL 0 a ++ headL 0 b) := by
 refine ⟨?_, by simp [pairT2, numT, T.size, T.sum], by simp [pairT2, numT, T.right, T.node, T.all], ?_⟩
 .
  unfold pairT2 T.ok
  exact ⟨by omega, by omega, by simp, by omega, fun i hi => by dsimp only; split; exact num_ok ha; exact num_ok hb⟩
 .
  have : headL 4 2 = [130] := by decide
  simp [pairT2, numT, T.bytes, T.cat, this]
set_option maxRecDepth 20000 in
set_option maxHeartbeats 800000 in
theorem Hops_yes (l c : Nat) (h : mayB l c = true) (w : World) : Calls Tryz.prog 16 #[.int .i64 (l : Int), .int .i64 (c : Int)] w (Ret (.tuple #[str (130 :: (headL 0 l ++ headL 0 c)), .int .i64 0]) w) := by
 have KM := hid (fun W => may_any l c W)
 rw [h] at KM
 have hb : l <= 255 /\ c <= 255 := by simp [mayB] at h; omega
 obtain ⟨f1, f2, f3, f4⟩ := pairT2_facts l c (by omega) (by omega)
 have KB : Hid (∀ (A : Option Addr) (W : World), IsL W (fun _ => True) (pairT2 l c) A -> Calls Tryz.prog 44 #[.agg #[.int .i64 4, .int .u64 0, str [], .slice A 2 2, .bool false], .bool true] W (Ret (.tuple #[str (130 :: (headL 0 l ++ headL 0 c)), .int .i64 0]) W)) := fun A W hW => by
  have := build_yes (pairT2 l c) f1 f2 f3 A 2 W hW
  rw [f4] at this
  exact this
 have t1 : IntKind.u64.wrap (l : Int) = (l : Int) := IntWalk.u64_in _ (by omega)
 have t2 : IntKind.u64.wrap (c : Int) = (c : Int) := IntWalk.u64_in _ (by omega)
 clear h f1 f2 f3 f4
 go_enter Tryz.func16, Tryz.ntmps16
 go_wp2_with fail
 refine (NumI_any _ _).mono ?_
 rintro e w1 ⟨rfl, hb1⟩
 go_wp2_with fail
 refine (NumI_any _ _).mono ?_
 rintro e w2 ⟨rfl, hb2⟩
 have HE2 := hid (hb1.trans hb2)
 clear hb1 hb2
 go_wp2_with fail
 refine (ListV_any 2 _ 2 _).mono ?_
 rintro e w3 ⟨rfl, hb3⟩
 have HE3 := hid ((HE2.out.alloc _).trans hb3)
 have HL3 : Hid (IsL w3 (fun _ => True) (pairT2 l c) (some ⟨w2.heap.size, 0, none⟩)) := two_IsL (numT l) (numT c) none none 0 0 trivial ((Blk.new w2 86 #[.int .i64 0, .int .u64 (l : Int), str [], .slice none 0 0, .bool false, .int .i64 0, .int .u64 (c : Int), str [], .slice none 0 0, .bool false]).ext hb3) (leaf_IsL rfl (by simp [numT])) (leaf_IsL rfl (by simp [numT]))
 clear hb3 HE2
 go_wp2_with fail
 refine (KM.out _).mono ?_
 rintro e w4 ⟨rfl, hb4⟩
 have HE4 := hid (HE3.out.trans hb4)
 have HL4 := hid (HL3.out.ext hb4)
 clear hb4 HE3
 go_wp2_with fail
 refine (KB.out _ _ HL4.out).mono ?_
 rintro e w5 ⟨rfl, hb5⟩
 have HE5 := hid (HE4.out.trans hb5)
 clear hb5
 go_wp2_with fail
 refine bodyPost_ret (v := .tuple #[str (130 :: (headL 0 l ++ headL 0 c)), .int .i64 0]) (by simp [results, Tryz.results16, go_sem]) rfl (Ret.mk rfl HE5.out)
set_option maxRecDepth 20000 in
theorem Prev_yes (e : EV) (ho : e.ok = true) (w : World) : Calls Tryz.prog 31 #[e.v] w (Ret (.tuple #[str (eidT e).bytes, .int .i64 0]) w) := by
 have K := hid (fun W => eidItem_ok e ho W)
 obtain ⟨g1, g2, g3, g4⟩ := eidT_ok ho
 have KB := hid (fun A W => build_yes (eidT e) g1 g4 (g2 8 (by omega)) A 2 W)
 obtain ⟨sch, name, node, svc⟩ := e
 have HE := hid ((Mod.refl [] w).alloc (.cells (EV.c ⟨sch, name, node, svc⟩) 24))
 generalize eidT ⟨sch, name, node, svc⟩ = t at *
 clear g1 g2 g3 g4
 go_enter Tryz.func31, Tryz.ntmps31
 go_wp2_with fail
 refine (K.out _).mono ?_
 rintro e w1 ⟨A, rfl, hb1, hl1⟩
 have HE1 := hid (HE.out.trans hb1)
 have HL1 := hid hl1
 clear hb1 hl1
 go_wp2_with fail
 refine (KB.out A _ (IsL.weak (fun _ _ _ => trivial) _ (by first | exact HL1.out | exact HL1.out.ext ((Mod.refl _ _).alloc _)))).mono ?_
 rintro e w2 ⟨rfl, hb2⟩
 have HE2 := hid (Mod.trans (by first | exact HE1.out | exact HE1.out.alloc _) hb2)
 clear hb2
 go_wp2_with fail
 refine bodyPost_ret (v := .tuple #[str t.bytes, .int .i64 0]) (by simp [results, Tryz.results31, go_sem]) rfl (Ret.mk rfl HE2.out)
theorem Find_none (w : World) : Calls Tryz.prog 42 #[.agg #[.int .u64 0, .int .i64 0, .int .i64 0, str [], .int .u64 0, .int .u64 0, .int .i64 0, str [], .int .u64 0, .int .u64 0, .int .i64 0, str [], .int .u64 0, .int .u64 0, .int .u64 0, .int .u64 0, .int .u64 0, .int .u64 0, .int .u64 0, .slice none 0 0], .int .i64 7] w (Ret (.tuple #[.agg #[.int .i64 0, .int .i64 0, .int .u64 0, .int .i64 0, str []], .bool false]) w) := by
 go_enter Tryz.func42, Tryz.ntmps42
 go_wp2_with fail
 go_loop [11] (fun i => i = .int .i64 0) (fun i => 0)
 case atStart => rfl
 case round =>
  subst hrel
  go_wp2_with fail
  refine bodyPost_ret (v := .tuple #[.agg #[.int .i64 0, .int .i64 0, .int .u64 0, .int .i64 0, str []], .bool false]) (by simp [results, Tryz.results42, go_sem]) rfl (Ret.mk rfl (((Mod.refl _ _).alloc _).alloc _))
end Go.Proofs.YthecmnbkjchjmaaGreat


namespace Go.Proofs.YthecmnbkjchjmaaGreat
open Go.RowKit
set_option linter.unusedVariables false
set_option linter.unusedSimpArgs false

set_option maxRecDepth 20000 in
set_option maxHeartbeats 1600000 in
theorem Lived_none (w : World) : Calls Tryz.prog 15 #[.agg #[.int .u64 0, .int .i64 0, .int .i64 0, str [], .int .u64 0, .int .u64 0, .int .i64 0, str [], .int .u64 0, .int .u64 0, .int .i64 0, str [], .int .u64 0, .int .u64 0, .int .u64 0, .int .u64 0, .int .u64 0, .int .u64 0, .int .u64 0, .slice none 0 0], .int .u64 5] w (Ret (.int .u64 5) w) := by
 have HB := hid (Blk.new w 29 #[.int .u64 0, .int .i64 0, .int .i64 0, str [], .int .u64 0, .int .u64 0, .int .i64 0, str [], .int .u64 0, .int .u64 0, .int .i64 0, str [], .int .u64 0, .int .u64 0, .int .u64 0, .int .u64 0, .int .u64 0, .int .u64 0, .int .u64 0, .slice none 0 0])
 have HE := hid ((Mod.refl [] w).alloc (.cells #[.int .u64 0, .int .i64 0, .int .i64 0, str [], .int .u64 0, .int .u64 0, .int .i64 0, str [], .int .u64 0, .int .u64 0, .int .i64 0, str [], .int .u64 0, .int .u64 0, .int .u64 0, .int .u64 0, .int .u64 0, .int .u64 0, .int .u64 0, .slice none 0 0] 29))
 go_enter Tryz.func15, Tryz.ntmps15
 go_wp2_with (refine wpList_row (by rfl) 29 _ rfl _ rfl HB.out Tryz.underlying29 rfl (by kernel_rfl) ?_)
 refine (Find_none _).mono ?_
 rintro e w1 ⟨rfl, hb1⟩
 have HE1 := hid (HE.out.trans hb1)
 have c14 : (w1.alloc (.cells #[.int .i64 0, .int .i64 0, .int .u64 0, .int .i64 0, .string ⟨#[]⟩] 38)).cell? ⟨w.heap.size, 14, none⟩ = some (.int .u64 0) := ((HB.out.ext hb1).alloc _).cell 14
 clear hb1
 go_wp2_with fail
 go_ret
 exact Ret.mk rfl (HE1.out.alloc _)
set_option maxRecDepth 20000 in
set_option maxHeartbeats 1600000 in
theorem awake14_any (w : World) : Calls Tryz.prog 5 #[] w (Ret (.bool true) w) := by
 have K : Hid (∀ W, Calls Tryz.prog 16 #[.int .i64 30, .int .i64 0] W (Ret (.tuple #[str [130, 24, 30, 0], .int .i64 0]) W)) := fun W => Hops_yes 30 0 (by decide) W
 go_enter Tryz.func5, Tryz.ntmps5
 go_wp2_with fail
 refine (K.out _).mono ?_
 rintro e w1 ⟨rfl, hb1⟩
 go_wp2_with fail
 refine (Lived_none _).mono ?_
 rintro e w2 ⟨rfl, hb2⟩
 go_wp2_with fail
 go_ret
 exact Ret.mk rfl (hb1.trans hb2)
end Go.Proofs.YthecmnbkjchjmaaGreat


namespace Go.Proofs.YthecmnbkjchjmaaGreat
open Go.RowKit
set_option linter.unusedVariables false
set_option linter.unusedSimpArgs false

theorem read_of {l : List UInt8} {x : Option (Nat × Nat × Nat × Bool)} {w : World} (h : readH l = x) (hc : Calls Tryz.prog 52 #[str l] w (Ret (gotOf x) w)) :
  Calls Tryz.prog 52 #[str l] w (Ret (gotOf (readH l)) w) := by rw [h]; exact hc
theorem sz4_val {k : Nat} (h : 24 <= k) (h2 : k < 28) : sz4 k = 2 ^ (k - 24) := by
 have : k = 24 \/ k = 25 \/ k = 26 \/ k = 27 := by omega
 rcases this with rfl | rfl | rfl | rfl <;> decide
theorem sz4_none {k : Nat} (h : 28 <= k) : sz4 k = 0 := by
 unfold sz4 sz3 sz2 sz1
 rw [if_neg (by omega), if_neg (by omega), if_neg (by omega), if_neg (by omega)]
theorem pow_sz {k : Nat} (h : 24 <= k) (h2 : k < 28) : 1 <= 2 ^ (k - 24) /\ 2 ^ (k - 24) <= 8 := by
 have : k = 24 \/ k = 25 \/ k = 26 \/ k = 27 := by omega
 rcases this with rfl | rfl | rfl | rfl <;> decide
theorem canon_iff {c : UInt8} {l : List UInt8} {k : Nat} (hk : c.toNat % 32 = k) (h : 24 <= k) (h2 : k < 28) (hl : 2 ^ (k - 24) <= l.length) :
  headL (c.toNat / 32) (fromBE (l.take (2 ^ (k - 24)))) = (c :: l).take (2 ^ (k - 24) + 1) ↔ (headL (c.toNat / 32) (fromBE (l.take (2 ^ (k - 24))))).length = 1 + 2 ^ (k - 24) := by
 obtain ⟨j, rfl⟩ : ∃ j, k = 24 + j := ⟨k - 24, by omega⟩
 rw [Nat.add_sub_cancel_left] at *
 have hlen : (l.take (2 ^ j)).length = 2 ^ j := by rw [List.length_take]; omega
 constructor
 . intro e; rw [e, List.length_take, List.length_cons]; omega
 .
  intro e
  have hlt := fromBE_lt (l.take (2 ^ j))
  rw [hlen] at hlt
  rw [headL_of_length (by omega) hlt e, List.take_succ_cons]
  have hb := be_fromBE (l.take (2 ^ j))
  rw [hlen] at hb
  rw [hb, show 32 * (c.toNat / 32) + 24 + j = c.toNat from by omega, b8_toNat]

theorem read_any (l : List UInt8) (w : World) : Calls Tryz.prog 52 #[str l] w (Ret (gotOf (readH l)) w) := by
 cases l with
 | nil => exact read_of (x := none) rfl (read_nil w)
 | cons c l =>
  have hc := c.toNat_lt
  by_cases h1 : c.toNat % 32 < 24
  . exact read_of (x := some (_, _, _, _)) (by unfold readH; dsimp only; rw [if_pos h1]) (read_small c l _ _ rfl rfl h1 w)
  by_cases h2 : c.toNat % 32 = 31 /\ opensB ((c.toNat / 32 : Nat) : Int) = true
  . exact read_of (x := some (_, _, _, _)) (by unfold readH; dsimp only; rw [if_neg h1, if_pos h2]) (read_open c l _ _ rfl rfl h2.1 h2.2 w)
  by_cases h3 : 28 <= c.toNat % 32
  . exact read_of (x := none) (by unfold readH; dsimp only; rw [if_neg h1, if_neg h2, if_pos h3]) (read_none c l _ _ rfl rfl (by unfold Hid; omega) h2 (sz4_none h3) w)
  have h24 : 24 <= c.toNat % 32 := by omega
  have h28 : c.toNat % 32 < 28 := by omega
  by_cases h4 : l.length < 2 ^ (c.toNat % 32 - 24)
  . exact read_of (x := none) (by unfold readH; dsimp only; rw [if_neg h1, if_neg h2, if_neg h3, if_pos h4]) (read_short c l _ _ rfl rfl _ ⟨h24, h28⟩ (sz4_val h24 h28) (pow_sz h24 h28) h4 w)
  have h4' := Nat.le_of_not_lt h4
  by_cases h5 : (headL (c.toNat / 32) (fromBE (l.take (2 ^ (c.toNat % 32 - 24))))).length = 1 + 2 ^ (c.toNat % 32 - 24)
  .
   exact read_of (x := some (_, _, _, _)) (by unfold readH; dsimp only; rw [if_neg h1, if_neg h2, if_neg h3, if_neg h4, if_pos h5, Nat.add_comm 1])
    (read_good c l _ _ rfl rfl _ ⟨h24, h28⟩ (sz4_val h24 h28) (pow_sz h24 h28) _ rfl h4' ((canon_iff rfl h24 h28 h4').2 h5) w)
  .
   exact read_of (x := none) (by unfold readH; dsimp only; rw [if_neg h1, if_neg h2, if_neg h3, if_neg h4, if_neg h5])
    (read_long c l _ _ rfl rfl _ ⟨h24, h28⟩ (sz4_val h24 h28) (pow_sz h24 h28) _ rfl h4' (fun e => h5 ((canon_iff rfl h24 h28 h4').1 e)) w)

end Go.Proofs.YthecmnbkjchjmaaGreat


namespace Go.Proofs.YthecmnbkjchjmaaGreat
open Go.RowKit
set_option linter.unusedVariables false
set_option linter.unusedSimpArgs false

theorem few10L_any (e : EV) (w : World) : Calls Tryz.prog 48 #[.agg #[.int .i64 e.sch, str e.name, .int .u64 (e.node : Int), .int .u64 (e.svc : Int)]] w (Ret (.bool (decide (e.name.length <= 100))) w) := by
 go_enter Tryz.func48, Tryz.ntmps48
 go_wp2
 go_ret
 refine Ret.mk ?_ ((Mod.refl _ _).alloc _)
 simp
 omega
def PV.few (p : PV) : Bool := decide (p.d.name.length <= 100) && decide (p.s.name.length <= 100) && decide (p.r.name.length <= 100)
set_option maxRecDepth 20000 in
set_option maxHeartbeats 800000 in
theorem few11P_any (p : PV) (w : World) : Calls Tryz.prog 17 #[.agg p.c] w (Ret (.bool p.few) w) := by
 have HE := hid ((Mod.refl [] w).alloc (.cells p.c 26))
 have HB := hid (Blk.new w 26 p.c)
 have HF : Hid (p.few = (decide (p.d.name.length <= 100) && decide (p.s.name.length <= 100) && decide (p.r.name.length <= 100))) := rfl
 have K1 := hid (fun W => few10L_any p.d W)
 have K2 := hid (fun W => few10L_any p.s W)
 have K3 := hid (fun W => few10L_any p.r W)
 cases h1 : decide (p.d.name.length <= 100)
 all_goals cases h2 : decide (p.s.name.length <= 100)
 all_goals cases h3 : decide (p.r.name.length <= 100)
 all_goals rw [h1] at K1 HF
 all_goals rw [h2] at K2 HF
 all_goals rw [h3] at K3 HF
 all_goals clear h1 h2 h3
 all_goals go_enter Tryz.func17, Tryz.ntmps17
 all_goals go_upto_region 1 with fail
 all_goals generalize w.alloc (.cells p.c 26) = V at *
 all_goals have b2 : ∀ e : Later V, e.x.cell? ⟨w.heap.size, 2, none⟩ = some (.int .i64 p.d.sch) := HB.out.cellL 2 rfl
 all_goals have b3 : ∀ e : Later V, e.x.cell? ⟨w.heap.size, 3, none⟩ = some (str p.d.name) := HB.out.cellL 3 rfl
 all_goals have b4 : ∀ e : Later V, e.x.cell? ⟨w.heap.size, 4, none⟩ = some (.int .u64 (p.d.node : Int)) := HB.out.cellL 4 rfl
 all_goals have b5 : ∀ e : Later V, e.x.cell? ⟨w.heap.size, 5, none⟩ = some (.int .u64 (p.d.svc : Int)) := HB.out.cellL 5 rfl
 all_goals have b6 : ∀ e : Later V, e.x.cell? ⟨w.heap.size, 6, none⟩ = some (.int .i64 p.s.sch) := HB.out.cellL 6 rfl
 all_goals have b7 : ∀ e : Later V, e.x.cell? ⟨w.heap.size, 7, none⟩ = some (str p.s.name) := HB.out.cellL 7 rfl
 all_goals have b8 : ∀ e : Later V, e.x.cell? ⟨w.heap.size, 8, none⟩ = some (.int .u64 (p.s.node : Int)) := HB.out.cellL 8 rfl
 all_goals have b9 : ∀ e : Later V, e.x.cell? ⟨w.heap.size, 9, none⟩ = some (.int .u64 (p.s.svc : Int)) := HB.out.cellL 9 rfl
 all_goals have b10 : ∀ e : Later V, e.x.cell? ⟨w.heap.size, 10, none⟩ = some (.int .i64 p.r.sch) := HB.out.cellL 10 rfl
 all_goals have b11 : ∀ e : Later V, e.x.cell? ⟨w.heap.size, 11, none⟩ = some (str p.r.name) := HB.out.cellL 11 rfl
 all_goals have b12 : ∀ e : Later V, e.x.cell? ⟨w.heap.size, 12, none⟩ = some (.int .u64 (p.r.node : Int)) := HB.out.cellL 12 rfl
 all_goals have b13 : ∀ e : Later V, e.x.cell? ⟨w.heap.size, 13, none⟩ = some (.int .u64 (p.r.svc : Int)) := HB.out.cellL 13 rfl
 all_goals obtain ⟨e0, he0⟩ := Later.self V
 all_goals rw [he0]
 all_goals clear he0
 all_goals go_wp2_with (go_at_call 48; first | ((with_reducible refine (Ret.later (K1.out _)).mono ?_); rintro x _ ⟨rfl, e1, rfl⟩) | ((with_reducible refine (Ret.later (K2.out _)).mono ?_); rintro x _ ⟨rfl, e1, rfl⟩) | ((with_reducible refine (Ret.later (K3.out _)).mono ?_); rintro x _ ⟨rfl, e1, rfl⟩))
 all_goals go_ret
 all_goals exact Ret.mk (by rw [HF.out]; rfl) (HE.out.trans e1.h)
def bsFew (bs : Nat -> BV) (i : Nat) : Bool := decide (4100 < (bs i).data.length)
def bunFew (p : PV) (bs : Nat -> BV) (k : Nat) : Bool := decide (k <= 20) && ((firstOf (bsFew bs) k).isNone && p.few)
theorem bunFew_spec {p : PV} {bs : Nat -> BV} {k : Nat} (h : bunFew p bs k = true) : k <= 20 /\ p.few = true /\ ∀ i, i < k -> (bs i).data.length <= 4100 := by
 unfold bunFew at h
 simp only [Bool.and_eq_true, decide_eq_true_eq] at h
 refine ⟨h.1, h.2.2, fun i hi => ?_⟩
 cases hf : firstOf (bsFew bs) k with
 | some x => rw [hf] at h; simp at h
 | none =>
  have := firstOf_no hf i hi
  unfold bsFew at this
  simp at this
  exact this
theorem bunFew_long {p : PV} {bs : Nat -> BV} {k i : Nat} (hi : i < k) (h : 4100 < (bs i).data.length) : bunFew p bs k = false := by
 cases hb : bunFew p bs k with
 | false => rfl
 | true => have := (bunFew_spec hb).2.2 i hi; omega
set_option maxRecDepth 20000 in
set_option maxHeartbeats 800000 in
theorem few13_any (p : PV) (bs : Nat -> BV) (k c : Nat) (A : Option Addr) (hk : k < 4611686018427387904) (w : World) (h : BsL w A k bs) : Calls Tryz.prog 6 #[bunV p A k c] w (Ret (.bool (bunFew p bs k)) w) := by
 have KF := hid (fun W => few11P_any p W)
 have HE := hid ((Mod.refl [] w).alloc (.cells (bunC p A k c) 29))
 have HB := hid (Blk.new w 29 (bunC p A k c))
 have HL := hid (BsL.ext h HE.out)
 have k1 : (k : Int) < 4611686018427387904 := by omega
 have HK := hid hk
 clear h hk
 go_enter Tryz.func6, Tryz.ntmps6
 go_wp2_with fail
 generalize w.alloc (.cells (bunC p A k c) 29) = V at *
 have b19 : ∀ e : Later V, e.x.cell? ⟨w.heap.size, 19, none⟩ = some (.slice A k c) := HB.out.cellL 19 rfl
 obtain ⟨e0, he0⟩ := Later.self V
 go_loopw [3] (fun s3 wr => ∃ i : Nat, s3 = .int .i64 (i : Int) /\ Hid (i <= k /\ i <= 30 /\ ∀ j, j < i -> (bs j).data.length <= 4100) /\ ∃ e : Later V, wr = e.x) (fun s3 _ => 30 - (intOf s3).toNat)
 case atStart => exact ⟨0, rfl, (show Hid _ from ⟨by omega, by omega, fun j hj => by omega⟩), e0, he0⟩
 case round =>
  clear he0 e0
  obtain ⟨i, rfl, hi, e, rfl⟩ := hrel
  have i0 : (0 : Int) <= (i : Int) := by omega
  by_cases hlt : i < k /\ i < 30
  .
   obtain ⟨hlt, hl30⟩ := hlt
   obtain ⟨b, o, rfl, hb, q0, q1, q2, q3, q4⟩ := HL.out.cells hlt
   have tc : decide (i < k) = true := by simp [hlt]
   have tc3 : decide ((i : Int) < 30) = true := by simp; omega
   have i1 : (i : Int) < (k : Int) := by omega
   have HLT := hid hlt
   have HL30 := hid hl30
   clear hlt hl30 q0 q1 q2 q3
   by_cases ht : 4100 < (bs i).data.length
   .
    have t1 : decide (4100 < ((bs i).data.length : Int)) = true := by simp; omega
    have t2 : (4100 < (bs i).data.length) = True := by simp; omega
    have HF := hid (bunFew_long (p := p) HLT.out ht)
    clear ht
    go_wp2_with fail
    go_ret
    exact Ret.mk (by rw [HF.out]; rfl) (HE.out.trans e.h)
   .
    have t1 : decide (4100 < ((bs i).data.length : Int)) = false := by simp; omega
    have t2 : (4100 < (bs i).data.length) = False := by simp; omega
    have HN := hid ht
    clear ht
    go_wp2_with fail
    go_roundw
    case rel => exact ⟨i + 1, by go_num, (show Hid _ from ⟨HLT.out, HL30.out, fun j hj => by
     by_cases hji : j = i
     . subst hji; have := HN.out; omega
     . exact hi.out.2.2 j (by omega)⟩), e, rfl⟩
    case measure => have := HL30.out; simp [intOf]; omega
  .
   by_cases hk20 : k <= 20
   .
    obtain rfl : i = k := by have := hi.out; omega
    have tc : decide (i < i) = false := by simp
    have t20 : decide ((i : Int) <= 20) = true := by simp; omega
    have HF : Hid (bunFew p bs i = p.few) := by
     unfold Hid bunFew
     rw [firstOf_none (fun j hj => by unfold bsFew; have := hi.out.2.2 j hj; simp; omega)]
     simp [hk20]
    clear hlt hk20
    have HPR : Hid (∀ e : Later V, e.x.rangeAt w.heap.size 0 p.c.toList) := HB.out.range 0 19 (by rw [Array.toList_extract]; rfl)
    go_wp2_with (first | (refine wpList_mid (by rfl) 26 _ rfl _ 0 rfl _ _ (HPR.out e) Tryz.underlying26 rfl (by kernel_rfl) ?_) | (go_at_call 17; refine (Ret.later (KF.out _)).mono ?_; rintro x _ ⟨rfl, e1, rfl⟩))
    go_ret
    exact Ret.mk (by rw [HF.out]; rfl) (HE.out.trans e1.h)
   .
    have t20 : decide ((k : Int) <= 20) = false := by simp; omega
    have HF : Hid (bunFew p bs k = false) := by unfold Hid bunFew; simp [hk20]
    by_cases hik : i < k
    .
     have tc : decide (i < k) = true := by simp [hik]
     have tc3 : decide ((i : Int) < 30) = false := by have := hi.out; simp; omega
     clear hlt hk20 hik
     go_wp2_with fail
     go_ret
     exact Ret.mk (by rw [HF.out]; rfl) (HE.out.trans e.h)
    .
     obtain rfl : i = k := by have := hi.out; omega
     have tc : decide (i < i) = false := by simp
     clear hlt hk20 hik
     go_wp2_with fail
     go_ret
     exact Ret.mk (by rw [HF.out]; rfl) (HE.out.trans e.h)
end Go.Proofs.YthecmnbkjchjmaaGreat


namespace Go.Proofs.YthecmnbkjchjmaaGreat
open Go.ChangeShapes Go.WideShapes Go.ChangeAt Go.RowKit Go.Deep
set_option linter.unusedVariables false
set_option linter.unusedSimpArgs false

def SlA (A : Option Addr) (k c : Nat) : Prop := (A = none -> k = 0 /\ c = 0) /\ k <= c /\ c <= maxLen
def EV.wf (e : EV) : Prop := (-9223372036854775808 <= e.sch /\ e.sch <= 9223372036854775807) /\ e.node < 18446744073709551616 /\ e.svc < 18446744073709551616
def PV.wf (p : PV) : Prop := p.fl < 18446744073709551616 /\ (-9223372036854775808 <= p.crc /\ p.crc <= 9223372036854775807) /\ p.d.wf /\ p.s.wf /\ p.r.wf /\ p.t < 18446744073709551616 /\ p.q < 18446744073709551616 /\ p.l < 18446744073709551616 /\ p.o < 18446744073709551616 /\ p.n < 18446744073709551616
def BV.wf (b : BV) : Prop := (-9223372036854775808 <= b.ty /\ b.ty <= 9223372036854775807) /\ (-9223372036854775808 <= b.num /\ b.num <= 9223372036854775807) /\ b.fl < 18446744073709551616 /\ (-9223372036854775808 <= b.crc /\ b.crc <= 9223372036854775807)
section
variable {H : Type} {enc : TypeId × Value -> H} {w : World} {base b0 : Nat} {spare : Nat -> Bool} {held : Bool} {r : Reach}
theorem fldB {P : Program} {n k : Nat} {ty : TypeId} {l : List Value} {off : Nat} {y : Option (DataW H × List MemPlace)} (hk : P.cellsOf ty = k) (h : DataW.trod enc P w base spare held n ty ((l.drop off).take (P.cellsOf ty)) = y) : DataW.trod enc P w base spare held n ty ((l.drop off).take k) = y := by rw [hk] at h; exact h
set_option maxRecDepth 100000 in
theorem trod_blkC {fuel : Nat} {L : List Value} {x : DataW H × List MemPlace} (h : DataW.trod enc Tryz.prog w base spare held fuel 38 L = some x) : ∃ b : BV, L = [.int .i64 b.ty, .int .i64 b.num, .int .u64 (b.fl : Int), .int .i64 b.crc, str b.data] /\ b.wf := by
 obtain ⟨ys, n', hn', hy, hlen, hyl, hfl⟩ := DataW.trod_struct Tryz.underlying38 h
 clear h
 match L, hlen with
 | [c0, c1, c2, c3, c4], _ =>
  have h0 := field_at (by kernel_rfl) hfl (i := 0) rfl rfl
  have h1 := field_at (by kernel_rfl) hfl (i := 1) rfl rfl
  have h2 := field_at (by kernel_rfl) hfl (i := 2) rfl rfl
  have h3 := field_at (by kernel_rfl) hfl (i := 3) rfl rfl
  have h4 := field_at (by kernel_rfl) hfl (i := 4) rfl rfl
  clear hfl
  match ys, hyl with
  | [y0, y1, y2, y3, y4], _ =>
   obtain ⟨ty, e0, _, w0⟩ := DataW.trod_int (k := .i64) (by kernel_rfl) h0
   obtain ⟨num, e1, _, w1⟩ := DataW.trod_int (k := .i64) (by kernel_rfl) h1
   obtain ⟨fl, e2, _, w2⟩ := DataW.trod_int (k := .u64) (by kernel_rfl) h2
   obtain ⟨crc, e3, _, w3⟩ := DataW.trod_int (k := .i64) (by kernel_rfl) h3
   obtain ⟨s, e4, _, _⟩ := DataW.trod_string (by kernel_rfl) h4
   have q0 : c0 = .int .i64 ty := by have : [c0] = [Value.int .i64 ty] := e0; simpa using this
   have q1 : c1 = .int .i64 num := by have : [c1] = [Value.int .i64 num] := e1; simpa using this
   have q2 : c2 = .int .u64 fl := by have : [c2] = [Value.int .u64 fl] := e2; simpa using this
   have q3 : c3 = .int .i64 crc := by have : [c3] = [Value.int .i64 crc] := e3; simpa using this
   have q4 : c4 = .string s := by have : [c4] = [Value.string s] := e4; simpa using this
   subst q0 q1 q2 q3 q4
   have b0 : -9223372036854775808 <= ty /\ ty <= 9223372036854775807 := by simpa [Lit.wf, IntKind.min, IntKind.max, IntKind.signed, IntKind.bits] using w0
   have b1 : -9223372036854775808 <= num /\ num <= 9223372036854775807 := by simpa [Lit.wf, IntKind.min, IntKind.max, IntKind.signed, IntKind.bits] using w1
   have b2 : 0 <= fl /\ fl <= 18446744073709551615 := by simpa [Lit.wf, IntKind.min, IntKind.max, IntKind.signed, IntKind.bits] using w2
   have b3 : -9223372036854775808 <= crc /\ crc <= 9223372036854775807 := by simpa [Lit.wf, IntKind.min, IntKind.max, IntKind.signed, IntKind.bits] using w3
   obtain ⟨fl, rfl⟩ := Int.eq_ofNat_of_zero_le b2.1
   exact ⟨⟨ty, num, fl, crc, s.data.toList⟩, rfl, b0, b1, by show fl < _; omega, b3⟩
set_option maxRecDepth 100000 in
theorem trod_priC {fuel : Nat} {L : List Value} {x : DataW H × List MemPlace} (h : DataW.trod enc Tryz.prog w base spare held fuel 26 L = some x) : ∃ p : PV, L = p.c.toList /\ p.wf := by
 obtain ⟨ys, n', hn', hy, hlen, hyl, hfl⟩ := DataW.trod_struct Tryz.underlying26 h
 clear h
 have k1 : Tryz.prog.cellsOf 22 = 1 := by kernel_rfl
 have k2 : Tryz.prog.cellsOf 3 = 1 := by kernel_rfl
 have k3 : Tryz.prog.cellsOf 24 = 4 := by kernel_rfl
 match L, hlen with
 | [c0, c1, c2, c3, c4, c5, c6, c7, c8, c9, c10, c11, c12, c13, c14, c15, c16, c17, c18], _ =>
  match ys, hyl with
  | [y0, y1, y2, y3, y4, y5, y6, y7, y8, y9], _ =>
   have h0 : DataW.trod enc Tryz.prog w base spare held n' 22 [c0] = some y0 := fldB k1 (hfl 0 _ rfl)
   have h1 : DataW.trod enc Tryz.prog w base spare held n' 3 [c1] = some y1 := fldB k2 (hfl 1 _ rfl)
   have h2 : DataW.trod enc Tryz.prog w base spare held n' 24 [c2, c3, c4, c5] = some y2 := fldB k3 (hfl 2 _ rfl)
   have h3 : DataW.trod enc Tryz.prog w base spare held n' 24 [c6, c7, c8, c9] = some y3 := fldB k3 (hfl 3 _ rfl)
   have h4 : DataW.trod enc Tryz.prog w base spare held n' 24 [c10, c11, c12, c13] = some y4 := fldB k3 (hfl 4 _ rfl)
   have h5 : DataW.trod enc Tryz.prog w base spare held n' 22 [c14] = some y5 := fldB k1 (hfl 5 _ rfl)
   have h6 : DataW.trod enc Tryz.prog w base spare held n' 22 [c15] = some y6 := fldB k1 (hfl 6 _ rfl)
   have h7 : DataW.trod enc Tryz.prog w base spare held n' 22 [c16] = some y7 := fldB k1 (hfl 7 _ rfl)
   have h8 : DataW.trod enc Tryz.prog w base spare held n' 22 [c17] = some y8 := fldB k1 (hfl 8 _ rfl)
   have h9 : DataW.trod enc Tryz.prog w base spare held n' 22 [c18] = some y9 := fldB k1 (hfl 9 _ rfl)
   clear hfl
   obtain ⟨z1, e1, _, w1⟩ := DataW.trod_int (k := .i64) (by kernel_rfl) h1
   have b1 : -9223372036854775808 <= z1 /\ z1 <= 9223372036854775807 := by simpa [Lit.wf, IntKind.min, IntKind.max, IntKind.signed, IntKind.bits] using w1
   obtain ⟨E2, e2, n2, s2, x2⟩ := trod_eid h2
   obtain ⟨E3, e3, n3, s3, x3⟩ := trod_eid h3
   obtain ⟨E4, e4, n4, s4, x4⟩ := trod_eid h4
   obtain ⟨z0, e0, _, w0⟩ := DataW.trod_int (k := .u64) (by kernel_rfl) h0
   have b0 : 0 <= z0 /\ z0 <= 18446744073709551615 := by simpa [Lit.wf, IntKind.min, IntKind.max, IntKind.signed, IntKind.bits] using w0
   obtain ⟨z0, rfl⟩ := Int.eq_ofNat_of_zero_le b0.1
   obtain ⟨z5, e5, _, w5⟩ := DataW.trod_int (k := .u64) (by kernel_rfl) h5
   have b5 : 0 <= z5 /\ z5 <= 18446744073709551615 := by simpa [Lit.wf, IntKind.min, IntKind.max, IntKind.signed, IntKind.bits] using w5
   obtain ⟨z5, rfl⟩ := Int.eq_ofNat_of_zero_le b5.1
   obtain ⟨z6, e6, _, w6⟩ := DataW.trod_int (k := .u64) (by kernel_rfl) h6
   have b6 : 0 <= z6 /\ z6 <= 18446744073709551615 := by simpa [Lit.wf, IntKind.min, IntKind.max, IntKind.signed, IntKind.bits] using w6
   obtain ⟨z6, rfl⟩ := Int.eq_ofNat_of_zero_le b6.1
   obtain ⟨z7, e7, _, w7⟩ := DataW.trod_int (k := .u64) (by kernel_rfl) h7
   have b7 : 0 <= z7 /\ z7 <= 18446744073709551615 := by simpa [Lit.wf, IntKind.min, IntKind.max, IntKind.signed, IntKind.bits] using w7
   obtain ⟨z7, rfl⟩ := Int.eq_ofNat_of_zero_le b7.1
   obtain ⟨z8, e8, _, w8⟩ := DataW.trod_int (k := .u64) (by kernel_rfl) h8
   have b8 : 0 <= z8 /\ z8 <= 18446744073709551615 := by simpa [Lit.wf, IntKind.min, IntKind.max, IntKind.signed, IntKind.bits] using w8
   obtain ⟨z8, rfl⟩ := Int.eq_ofNat_of_zero_le b8.1
   obtain ⟨z9, e9, _, w9⟩ := DataW.trod_int (k := .u64) (by kernel_rfl) h9
   have b9 : 0 <= z9 /\ z9 <= 18446744073709551615 := by simpa [Lit.wf, IntKind.min, IntKind.max, IntKind.signed, IntKind.bits] using w9
   obtain ⟨z9, rfl⟩ := Int.eq_ofNat_of_zero_le b9.1
   simp only [List.cons.injEq, and_true] at e0 e1 e2 e3 e4 e5 e6 e7 e8 e9
   obtain ⟨rfl, rfl, rfl, rfl⟩ := e2
   obtain ⟨rfl, rfl, rfl, rfl⟩ := e3
   obtain ⟨rfl, rfl, rfl, rfl⟩ := e4
   subst e0 e1 e5 e6 e7 e8 e9
   exact ⟨⟨z0, z1, E2, E3, E4, z5, z6, z7, z8, z9⟩, rfl, by show z0 < _; omega, b1, ⟨x2, n2, s2⟩, ⟨x3, n3, s3⟩, ⟨x4, n4, s4⟩, by show z5 < _; omega, by show z6 < _; omega, by show z7 < _; omega, by show z8 < _; omega, by show z9 < _; omega⟩
theorem trod_blksS {fuel : Nat} {c3 : Value} {y : DataW H × List MemPlace} (h3 : DataW.trod enc Tryz.prog w base spare held fuel 27 [c3] = some y) (hz : ∀ n ∈ y.1.weights Tryz.prog 27, n <= reachBytes) :
  ∃ (A : Option Addr) (k c : Nat) (bs : Nat -> BV), c3 = .slice A k c /\ k < 4611686018427387904 /\ BsL w A k bs /\ (∀ i, i < k -> (bs i).wf) /\ SlA A k c := by
 have hR : reachBytes < 140737488355328 := by decide
 rcases DataW.trod_slice (e := 38) (by kernel_rfl) h3 with ⟨hcs, _⟩ | ⟨a, len, cap', elems, rest, f, hf, hcs, hx, hb, hl, hm, hlen, hel, _, _⟩
 .
  have e3 : c3 = .slice none 0 0 := by simpa using hcs
  subst e3
  exact ⟨none, 0, 0, fun _ => zeroB, rfl, by omega, fun h => by omega, fun i hi => by omega, fun _ => ⟨rfl, rfl⟩, Nat.le_refl _, Nat.zero_le _⟩
 .
  have e3 : c3 = .slice (some a) len cap' := by simpa using hcs
  subst e3
  have hC : Tryz.prog.cellsOf 38 = 5 := by kernel_rfl
  have hBy : Tryz.prog.bytesOf 38 = 48 := by kernel_rfl
  have hzs := hz
  rw [hx] at hzs
  simp only [DataW.weights, Tryz.underlying27] at hzs
  have bl : len < 4611686018427387904 := by
   have h8 := hzs _ List.mem_cons_self
   rw [hBy, List.length_map, hlen] at h8
   have h9 : len * 48 <= (len + (List.map (fun x => x.1) rest).length) * 48 := Nat.mul_le_mul_right _ (Nat.le_add_right _ _)
   omega
  have key : ∀ i, i < len -> ∃ t : BV, (w.cell? ((a.add (i * 5)).add 0) = some (.int .i64 t.ty) /\ w.cell? ((a.add (i * 5)).add 1) = some (.int .i64 t.num) /\ w.cell? ((a.add (i * 5)).add 2) = some (.int .u64 (t.fl : Int)) /\ w.cell? ((a.add (i * 5)).add 3) = some (.int .i64 t.crc) /\ w.cell? ((a.add (i * 5)).add 4) = some (str t.data)) /\ t.wf := by
   intro i hin
   have hi := hel i hin
   rw [List.getElem?_eq_getElem (by omega)] at hi
   obtain ⟨cs', hc, ht⟩ := Option.bind_eq_some_iff.1 hi
   obtain ⟨t, rfl, hw⟩ := trod_blkC ht
   rw [hC] at hc
   obtain ⟨_, hcl, hat⟩ := World.cells?_some hc
   exact ⟨t, ⟨hat 0 (by simp), hat 1 (by simp), hat 2 (by simp), hat 3 (by simp), hat 4 (by simp)⟩, hw⟩
  have key2 : ∀ i, ∃ t : BV, i < len -> (w.cell? ((a.add (i * 5)).add 0) = some (.int .i64 t.ty) /\ w.cell? ((a.add (i * 5)).add 1) = some (.int .i64 t.num) /\ w.cell? ((a.add (i * 5)).add 2) = some (.int .u64 (t.fl : Int)) /\ w.cell? ((a.add (i * 5)).add 3) = some (.int .i64 t.crc) /\ w.cell? ((a.add (i * 5)).add 4) = some (str t.data)) /\ t.wf := fun i => by
   by_cases hin : i < len
   .
    obtain ⟨t, h5⟩ := key i hin
    exact ⟨t, fun _ => h5⟩
   . exact ⟨zeroB, fun h => absurd h hin⟩
  obtain ⟨g, hg⟩ : ∃ g : Nat -> BV, ∀ i, i < len -> (w.cell? ((a.add (i * 5)).add 0) = some (.int .i64 (g i).ty) /\ w.cell? ((a.add (i * 5)).add 1) = some (.int .i64 (g i).num) /\ w.cell? ((a.add (i * 5)).add 2) = some (.int .u64 ((g i).fl : Int)) /\ w.cell? ((a.add (i * 5)).add 3) = some (.int .i64 (g i).crc) /\ w.cell? ((a.add (i * 5)).add 4) = some (str (g i).data)) /\ (g i).wf :=
   ⟨fun i => Classical.choose (key2 i), fun i => Classical.choose_spec (key2 i)⟩
  refine ⟨some a, len, cap', g, rfl, bl, fun h0 => ?_, fun i hi => (hg i hi).2, (fun h => by cases h), hl, hm⟩
  obtain ⟨⟨z0, _⟩, _⟩ := hg 0 h0
  have z1 : w.cell? a = some (.int .i64 (g 0).ty) := by simpa [Addr.add] using z0
  have hsp := World.cell?_spot z1
  obtain ⟨ab, ao, sp⟩ := a
  simp only at hsp
  subst hsp
  refine ⟨ab, ao, rfl, World.block_lt_of_cell? w _ z1, fun i hin => ?_⟩
  obtain ⟨⟨g0, g1, g2, g3, g4⟩, _⟩ := hg i hin
  rw [addr_add, addr_add] at g0 g1 g2 g3 g4
  exact ⟨g0, g1, g2, g3, g4⟩
set_option maxRecDepth 100000 in
theorem open_bundleS {v : Value} {d : DataW H} {q : List MemPlace} (hval : Value.okWide Tryz.prog w r b0 29 v) (h : DataW.Trod enc Tryz.prog w base spare held 29 v d q) (hz : ∀ n ∈ d.weights Tryz.prog 29, n <= reachBytes) :
  ∃ (p : PV) (A : Option Addr) (k c : Nat) (bs : Nat -> BV), v = bunV p A k c /\ p.wf /\ k < 4611686018427387904 /\ BsL w A k bs /\ (∀ i, i < k -> (bs i).wf) /\ SlA A k c := by
 obtain ⟨cs, rfl, hsz⟩ := okWide_struct Tryz.underlying29 hval
 obtain ⟨fuel, hf⟩ := h
 obtain ⟨ys, n', hn', hy, hlen, hyl, hfl⟩ := DataW.trod_struct Tryz.underlying29 hf
 have hcs : (Value.agg cs).cells.toList = cs.toList := rfl
 rw [hcs] at hlen hfl
 obtain ⟨L, hL⟩ : ∃ L, L = cs.toList := ⟨_, rfl⟩
 rw [<- hL] at hlen hfl
 have hcsL : cs = L.toArray := by rw [hL]
 subst hcsL
 have hd : d = .agg (ys.map (·.1)) := by simpa using congrArg Prod.fst hy
 have hz' : ∀ n ∈ DataW.weightsEach Tryz.prog [26, 27] (ys.map (·.1)), n <= reachBytes := by
  intro n hn
  apply hz
  rw [hd]
  simp only [DataW.weights, Tryz.underlying29]
  exact hn
 clear hL hcs hf hval hsz hz
 have k1 : Tryz.prog.cellsOf 26 = 19 := by kernel_rfl
 have k2 : Tryz.prog.cellsOf 27 = 1 := by kernel_rfl
 match L, hlen with
 | [c0, c1, c2, c3, c4, c5, c6, c7, c8, c9, c10, c11, c12, c13, c14, c15, c16, c17, c18, c19], _ =>
  obtain ⟨y0, y1, rfl⟩ : ∃ y0 y1, ys = [y0, y1] := by clear hd hz' hy hfl; match ys, hyl with | [a, b], _ => exact ⟨a, b, rfl⟩
  .
   have h0 : DataW.trod enc Tryz.prog w base spare held n' 26 [c0, c1, c2, c3, c4, c5, c6, c7, c8, c9, c10, c11, c12, c13, c14, c15, c16, c17, c18] = some y0 := fldB k1 (hfl 0 _ rfl)
   have h1 : DataW.trod enc Tryz.prog w base spare held n' 27 [c19] = some y1 := fldB k2 (hfl 1 _ rfl)
   clear hfl
   obtain ⟨p, hp, hw⟩ := trod_priC h0
   obtain ⟨A, k, c, bs, rfl, hk, hL, hbw⟩ := trod_blksS h1 (fun n hn => hz' n (DataW.weights_mem_each (j := 1) rfl rfl n hn))
   refine ⟨p, A, k, c, bs, ?_, hw, hk, hL, hbw⟩
   simp only [PV.c, List.cons.injEq, and_true] at hp
   obtain ⟨rfl, rfl, rfl, rfl, rfl, rfl, rfl, rfl, rfl, rfl, rfl, rfl, rfl, rfl, rfl, rfl, rfl, rfl, rfl⟩ := hp
   rfl
set_option maxRecDepth 100000 in
theorem open_bundle {v : Value} {d : DataW H} {q : List MemPlace} (hval : Value.okWide Tryz.prog w r b0 29 v) (h : DataW.Trod enc Tryz.prog w base spare held 29 v d q) (hz : ∀ n ∈ d.weights Tryz.prog 29, n <= reachBytes) :
  ∃ (p : PV) (A : Option Addr) (k c : Nat) (bs : Nat -> BV), v = bunV p A k c /\ p.wf /\ k < 4611686018427387904 /\ BsL w A k bs /\ ∀ i, i < k -> (bs i).wf := by
 obtain ⟨p, A, k, c, bs, h1, h2, h3, h4, h5, _⟩ := open_bundleS hval h hz
 exact ⟨p, A, k, c, bs, h1, h2, h3, h4, h5⟩
end
end Go.Proofs.YthecmnbkjchjmaaGreat


namespace Go.Proofs.YthecmnbkjchjmaaGreat
open Go.RowKit
set_option linter.unusedVariables false
set_option linter.unusedSimpArgs false

def UsL (w : World) (kd : IntKind) (A : Option Addr) (k : Nat) (f : Nat -> Nat) : Prop := 0 < k -> ∃ b o, A = some ⟨b, o, none⟩ /\ b < w.heap.size /\ ∀ i, i < k -> w.cell? ⟨b, o + i, none⟩ = some (.int kd (f i : Int))
theorem UsL.ext {w w' : World} {kd : IntKind} {A : Option Addr} {k : Nat} {f : Nat -> Nat} (h : UsL w kd A k f) (hm : Ext w w') : UsL w' kd A k f := fun hk => by
 obtain ⟨b, o, hA, hb, hc⟩ := h hk
 exact ⟨b, o, hA, Nat.lt_of_lt_of_le hb hm.size, fun i hi => (hm.cell hb (by simp)).trans (hc i hi)⟩
theorem UsL.modX {w w' : World} {S : List Nat} {kd : IntKind} {A : Option Addr} {k : Nat} {f : Nat -> Nat} (h : UsL w kd A k f) (hm : Mod S w w') (hs : ∀ g, A = some g -> g.block ∉ S) : UsL w' kd A k f := fun hk => by
 obtain ⟨b, o, hA, hb, hc⟩ := h hk
 exact ⟨b, o, hA, Nat.lt_of_lt_of_le hb hm.size, fun i hi => (hm.cell hb (hs _ hA)).trans (hc i hi)⟩
theorem UsL.far {w0 w w' : World} {S : List Nat} {kd : IntKind} {A : Option Addr} {k : Nat} {f : Nat -> Nat} (h : UsL w0 kd A k f) (hE : Ext w0 w) (hm : Mod S w w') (hs : ∀ b ∈ S, w0.heap.size <= b) : UsL w' kd A k f := fun hk => by
 obtain ⟨b, o, hA, hb, hc⟩ := h hk
 have hb' : b < w.heap.size := Nat.lt_of_lt_of_le hb hE.size
 have hn : b ∉ S := fun hm => by have := hs b hm; omega
 exact ⟨b, o, hA, Nat.lt_of_lt_of_le hb' hm.size, fun i hi => (hm.cell hb' hn).trans ((hE.cell hb (by simp)).trans (hc i hi))⟩
theorem UsL.at {w : World} {kd : IntKind} {A : Option Addr} {k : Nat} {f : Nat -> Nat} (h : UsL w kd A k f) {i : Nat} (hi : i < k) : ∃ b o, A = some ⟨b, o, none⟩ /\ b < w.heap.size /\ ∀ e : Later w, e.x.cell? ⟨b, o + i, none⟩ = some (.int kd (f i : Int)) := by
 obtain ⟨b, o, hA, hb, hc⟩ := h (by omega)
 exact ⟨b, o, hA, hb, cellL (hc i hi)⟩
def EAt (w : World) (b o : Nat) (e : EV) : Prop := w.cell? ⟨b, o + 0, none⟩ = some (.int .i64 e.sch) /\ w.cell? ⟨b, o + 1, none⟩ = some (str e.name) /\ w.cell? ⟨b, o + 2, none⟩ = some (.int .u64 (e.node : Int)) /\ w.cell? ⟨b, o + 3, none⟩ = some (.int .u64 (e.svc : Int))
def EsL (w : World) (A : Option Addr) (k : Nat) (f : Nat -> EV) : Prop := 0 < k -> ∃ b o, A = some ⟨b, o, none⟩ /\ b < w.heap.size /\ ∀ i, i < k -> EAt w b (o + i * 4) (f i)
theorem EsL.modX {w w' : World} {S : List Nat} {A : Option Addr} {k : Nat} {f : Nat -> EV} (h : EsL w A k f) (hm : Mod S w w') (hs : ∀ g, A = some g -> g.block ∉ S) : EsL w' A k f := fun hk => by
 obtain ⟨b, o, hA, hb, hc⟩ := h hk
 refine ⟨b, o, hA, Nat.lt_of_lt_of_le hb hm.size, fun i hi => ?_⟩
 obtain ⟨h0, h1, h2, h3⟩ := hc i hi
 exact ⟨(hm.cell hb (hs _ hA)).trans h0, (hm.cell hb (hs _ hA)).trans h1, (hm.cell hb (hs _ hA)).trans h2, (hm.cell hb (hs _ hA)).trans h3⟩
theorem EsL.ext' {w w' : World} {A : Option Addr} {k : Nat} {f : Nat -> EV} (h : EsL w A k f) (hm : Ext w w') : EsL w' A k f := h.modX hm (fun _ _ => by simp)
theorem EsL.far {w0 w w' : World} {S : List Nat} {A : Option Addr} {k : Nat} {f : Nat -> EV} (h : EsL w0 A k f) (hE : Ext w0 w) (hm : Mod S w w') (hs : ∀ b ∈ S, w0.heap.size <= b) : EsL w' A k f := fun hk => by
 obtain ⟨b, o, hA, hb, hc⟩ := h hk
 have hb' : b < w.heap.size := Nat.lt_of_lt_of_le hb hE.size
 have hn : b ∉ S := fun hm => by have := hs b hm; omega
 have hh := (EsL.ext' h hE) hk
 obtain ⟨b2, o2, hA2, _, hc2⟩ := hh
 rw [hA] at hA2
 cases hA2
 refine ⟨b, o, hA, Nat.lt_of_lt_of_le hb' hm.size, fun i hi => ?_⟩
 obtain ⟨h0, h1, h2, h3⟩ := hc2 i hi
 exact ⟨(hm.cell hb' hn).trans h0, (hm.cell hb' hn).trans h1, (hm.cell hb' hn).trans h2, (hm.cell hb' hn).trans h3⟩
theorem EsL.ext {w w' : World} {A : Option Addr} {k : Nat} {f : Nat -> EV} (h : EsL w A k f) (hm : Ext w w') : EsL w' A k f := h.modX hm (fun _ _ => by simp)
end Go.Proofs.YthecmnbkjchjmaaGreat


namespace Go.Proofs.YthecmnbkjchjmaaGreat
open Go.ChangeShapes Go.WideShapes Go.ChangeAt Go.RowKit Go.Deep
set_option linter.unusedVariables false
set_option linter.unusedSimpArgs false

section
variable {H : Type} {enc : TypeId × Value -> H} {w : World} {base b0 : Nat} {spare : Nat -> Bool} {held : Bool} {r : Reach}
theorem trod_rows {Z : Type} [Nonempty Z] {te ts : TypeId} {z bz : Nat} (hu : Tryz.prog.underlying ts = some (.slice te)) (hC : Tryz.prog.cellsOf te = z) (hz0 : 0 < z) (hBy : Tryz.prog.bytesOf te = bz) (hb1 : 1 <= bz) (R : Z -> List Value -> Prop)
  (hstep : ∀ f cs x, DataW.trod enc Tryz.prog w base spare held f te cs = some x -> (∀ n ∈ x.1.weights Tryz.prog te, n <= reachBytes) -> ∃ t, R t cs)
  {fuel : Nat} {c3 : Value} {y : DataW H × List MemPlace} (h3 : DataW.trod enc Tryz.prog w base spare held fuel ts [c3] = some y) (hz : ∀ n ∈ y.1.weights Tryz.prog ts, n <= reachBytes) :
  ∃ (A : Option Addr) (k c : Nat) (g : Nat -> Z), c3 = .slice A k c /\ k < 4611686018427387904 /\ SlA A k c /\ (∀ i, i < k -> ∃ cs, R (g i) cs) /\
   (0 < k -> ∃ b o, A = some ⟨b, o, none⟩ /\ b < w.heap.size /\ ∀ i, i < k -> ∃ cs, cs.length = z /\ R (g i) cs /\ ∀ j u, cs[j]? = some u -> w.cell? ⟨b, o + i * z + j, none⟩ = some u) := by
 have hR : reachBytes < 140737488355328 := by decide
 rcases DataW.trod_slice (e := te) hu h3 with ⟨hcs, _⟩ | ⟨a, len, cap', elems, rest, f, hf, hcs, hx, hb, hl, hm, hlen, hel, _, _⟩
 .
  have e3 : c3 = .slice none 0 0 := by simpa using hcs
  subst e3
  exact ⟨none, 0, 0, fun _ => Classical.choice inferInstance, rfl, by omega, ⟨fun _ => ⟨rfl, rfl⟩, Nat.le_refl _, Nat.zero_le _⟩, fun i hi => by omega, fun h => by omega⟩
 .
  have e3 : c3 = .slice (some a) len cap' := by simpa using hcs
  subst e3
  have hzs := hz
  rw [hx] at hzs
  simp only [DataW.weights, hu] at hzs
  have bl : len < 4611686018427387904 := by
   have h8 := hzs _ List.mem_cons_self
   rw [hBy, List.length_map, hlen] at h8
   have h9 : len * 1 <= (len + (List.map (fun x => x.1) rest).length) * bz := Nat.mul_le_mul (Nat.le_add_right _ _) hb1
   omega
  have key : ∀ i, i < len -> ∃ (t : Z) (cs : List Value), cs.length = z /\ R t cs /\ ∀ j u, cs[j]? = some u -> w.cell? ((a.add (i * z)).add j) = some u := by
   intro i hin
   have hi := hel i hin
   rw [List.getElem?_eq_getElem (by omega)] at hi
   obtain ⟨cs', hc, ht⟩ := Option.bind_eq_some_iff.1 hi
   have hz2 : ∀ n ∈ (elems[i]'(by omega)).1.weights Tryz.prog te, n <= reachBytes := fun n hn => by
    apply hzs
    refine List.mem_cons_of_mem _ (List.mem_append_left _ (weights_mem_all hn ?_))
    exact List.mem_map.2 ⟨_, List.getElem_mem _, rfl⟩
   obtain ⟨t, ht⟩ := hstep f cs' _ ht hz2
   rw [hC] at hc
   obtain ⟨_, hcl, hat⟩ := World.cells?_some hc
   refine ⟨t, cs', hcl, ht, fun j u hu => ?_⟩
   have hj := (List.getElem?_eq_some_iff.1 hu).1
   rw [hat j (by omega)]; exact hu
  have key2 : ∀ i, ∃ t : Z, i < len -> ∃ cs : List Value, cs.length = z /\ R t cs /\ ∀ j u, cs[j]? = some u -> w.cell? ((a.add (i * z)).add j) = some u := fun i => by
   by_cases hin : i < len
   .
    obtain ⟨t, h5⟩ := key i hin
    exact ⟨t, fun _ => h5⟩
   . exact ⟨Classical.choice inferInstance, fun h => absurd h hin⟩
  obtain ⟨g, hg⟩ : ∃ g : Nat -> Z, ∀ i, i < len -> ∃ cs : List Value, cs.length = z /\ R (g i) cs /\ ∀ j u, cs[j]? = some u -> w.cell? ((a.add (i * z)).add j) = some u :=
   ⟨fun i => Classical.choose (key2 i), fun i => Classical.choose_spec (key2 i)⟩
  refine ⟨some a, len, cap', g, rfl, bl, ⟨(fun h => by cases h), hl, hm⟩, fun i hi => by obtain ⟨cs, _, h, _⟩ := hg i hi; exact ⟨cs, h⟩, fun h0 => ?_⟩
  obtain ⟨cs, hcl, _, hat⟩ := hg 0 h0
  have hc0 : cs[0]? = some (cs[0]'(by omega)) := List.getElem?_eq_getElem _
  have z1 : w.cell? a = some (cs[0]'(by omega)) := by
   have := hat 0 _ hc0
   simpa [Addr.add] using this
  have hsp := World.cell?_spot z1
  obtain ⟨ab, ao, sp⟩ := a
  simp only at hsp
  subst hsp
  refine ⟨ab, ao, rfl, World.block_lt_of_cell? w _ z1, fun i hin => ?_⟩
  obtain ⟨cs, hcl, hr, hat⟩ := hg i hin
  refine ⟨cs, hcl, hr, fun j u hj => ?_⟩
  have := hat j u hj
  rw [addr_add, addr_add] at this
  exact this
end
end Go.Proofs.YthecmnbkjchjmaaGreat


namespace Go.Proofs.YthecmnbkjchjmaaGreat
set_option linter.unusedVariables false
set_option linter.unusedSimpArgs false

structure PR where
 id : Int
 t : T
structure PL where
 k : Nat
 a : Nat -> PR
structure AV where
 tk : Nat
 tg : Nat -> Int
 ctx : Int
 src : EV
 ps : PL
 rk : Nat
 rs : Nat -> PL
def codedB (n : Int) : Bool := decide (0 <= n) && decide (n <= 65535)
def unlikeB (f : Nat -> Int) (k : Nat) : Bool := T.all (fun i => codedB (f i) && T.all (fun j => decide (f j ≠ f i)) i) k
def valB (t : T) : Bool := (decide (t.kind = 0) || decide (t.kind = 2)) && t.right 8
def pairsB (p : PL) : Bool := T.all (fun i => valB (p.a i).t) p.k && unlikeB (fun i => (p.a i).id) p.k
def resB (p : PL) : Bool := decide (1 <= p.k) && decide (p.k <= 4) && pairsB p
def AV.shaped (a : AV) : Bool := (decide (1 <= a.tk) && decide (a.tk <= 16) && unlikeB a.tg a.tk && codedB a.ctx && a.src.ok) && (decide (a.ps.k <= 8) && pairsB a.ps && decide (a.rk = a.tk)) && T.all (fun i => resB (a.rs i)) a.rk
def pairT (p : PR) : T := listT [numT p.id.toNat, p.t]
def plT (p : PL) : T := .mk 4 0 [] false p.k fun i => pairT (p.a i)
def tgT (k : Nat) (f : Nat -> Int) : T := .mk 4 0 [] false k fun i => numT (f i).toNat
def rsT (k : Nat) (f : Nat -> PL) : T := .mk 4 0 [] false k fun i => plT (f i)
def AV.items (a : AV) : List T := if a.ps.k = 0 then [tgT a.tk a.tg, numT a.ctx.toNat, numT 0, eidT a.src, rsT a.rk a.rs] else [tgT a.tk a.tg, numT a.ctx.toNat, numT 1, eidT a.src, plT a.ps, rsT a.rk a.rs]
def AV.bytes (a : AV) : List UInt8 := (a.items.map T.bytes).flatten
def AV.right (a : AV) : Bool := a.shaped && decide (a.bytes.length <= 4000)
def PL.wf (p : PL) : Prop := p.k < 4611686018427387904 /\ ∀ i, i < p.k -> (p.a i).t.ok /\ (-9223372036854775808 <= (p.a i).id /\ (p.a i).id <= 9223372036854775807)
def AV.wf (a : AV) : Prop := (a.tk < 4611686018427387904 /\ ∀ i, i < a.tk -> -9223372036854775808 <= a.tg i /\ a.tg i <= 9223372036854775807) /\ (-9223372036854775808 <= a.ctx /\ a.ctx <= 9223372036854775807) /\ a.src.name.length < 4611686018427387904 /\ a.ps.wf /\ a.rk < 4611686018427387904 /\ ∀ i, i < a.rk -> (a.rs i).wf
def AV.small (a : AV) : Prop := (plT a.ps).size <= 100000 /\ (rsT a.rk a.rs).size <= 100000

end Go.Proofs.YthecmnbkjchjmaaGreat
