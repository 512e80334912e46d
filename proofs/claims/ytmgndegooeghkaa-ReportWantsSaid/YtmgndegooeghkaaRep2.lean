/-
  Reports: the item of one of no piece, by a name of the scheme 2.
-/
import Derived.Test.YtmgndegooeghkaaRep1
namespace Go.Proofs.Ytmgndegooeghkaa
open Go.RowKit
set_option linter.unusedVariables false

set_option maxRecDepth 20000 in
set_option maxHeartbeats 1600000 in
theorem repRight_ipn (gone : Bool) (reason node svc time seq : Nat) (hr : reason ≤ 65535) (hn : Hid (node ≤ 4294967295)) (hs : Hid (svc ≤ 4294967295)) (ht : Hid (time ≤ 1099511627776)) (hq : Hid (seq ≤ 1099511627776)) (w : World) :
    Calls Try.prog 13 #[.agg (repC true gone reason node svc time seq)] w (Ret (.bool true) w) := by
  have t0 : decide ((0 : Int) ≤ (reason : Int)) = true := by simp
  have t1 : decide ((reason : Int) ≤ 65535) = true := by simp; omega
  clear hr
  go_enter Try.func13, Try.ntmps13
  go_wp2_with fail
  refine (named_ipn node svc time seq hn hs ht.out hq.out _).mono ?_
  rintro e w3 ⟨rfl, hb3⟩
  have HE := hid (((Mod.refl [] w).alloc (.cells (repC true gone reason node svc time seq) 33)).trans hb3)
  clear hb3
  go_wp2_with fail
  go_ret
  exact Ret.mk rfl HE.out

def pairT (a b : Nat) : T := T.mk 4 0 [] false 2 fun i => if i = 0 then numT a else numT b
def bodyT (here gone : Bool) (reason node svc time seq : Nat) : T := T.mk 4 0 [] false 4 fun i => if i = 0 then pairT here.toNat gone.toNat else if i = 1 then numT reason else if i = 2 then ipnT node svc else pairT time seq
def repT (here gone : Bool) (reason node svc time seq : Nat) : T := T.mk 4 0 [] false 2 fun i => if i = 0 then numT 1 else bodyT here gone reason node svc time seq

theorem pair_IsL {W : World} {Q : Nat → Prop} {g : Nat} {a b : Nat} (hq : Q g) (h : Blk W g 49 #[.int .i64 0, .int .u64 (a : Int), str [], .slice none 0 0, .bool false, .int .i64 0, .int .u64 (b : Int), str [], .slice none 0 0, .bool false]) : IsL W Q (pairT a b) (some ⟨g, 0, none⟩) := fun _ => ⟨g, 0, rfl, h.lt, hq, fun j hj => by
  have hj2 : j = 0 ∨ j = 1 := by omega
  rcases hj2 with rfl | rfl
  · exact ⟨none, 0, ⟨h.cell 0, h.cell 1, h.cell 2, h.cell 3, h.cell 4⟩, fun h => absurd h (by decide)⟩
  · exact ⟨none, 0, ⟨h.cell 5, h.cell 6, h.cell 7, h.cell 8, h.cell 9⟩, fun h => absurd h (by decide)⟩⟩
theorem body_IsL {W : World} {Q : Nat → Prop} {g1 g2 g3 : Nat} {A : Option Addr} {here gone : Bool} {reason node svc time seq : Nat} (q1 : Q g1) (q2 : Q g2) (q3 : Q g3)
    (h3 : Blk W g3 49 #[.int .i64 4, .int .u64 0, str [], .slice (some ⟨g1, 0, none⟩) 2 2, .bool false, .int .i64 0, .int .u64 (reason : Int), str [], .slice none 0 0, .bool false, .int .i64 4, .int .u64 0, str [], .slice A 2 2, .bool false, .int .i64 4, .int .u64 0, str [], .slice (some ⟨g2, 0, none⟩) 2 2, .bool false])
    (h1 : Blk W g1 49 #[.int .i64 (numT here.toNat).kind, .int .u64 ((numT here.toNat).n : Int), str (numT here.toNat).s, .slice none (numT here.toNat).k 0, .bool (numT here.toNat).op, .int .i64 (numT gone.toNat).kind, .int .u64 ((numT gone.toNat).n : Int), str (numT gone.toNat).s, .slice none (numT gone.toNat).k 0, .bool (numT gone.toNat).op])
    (h2 : Blk W g2 49 #[.int .i64 0, .int .u64 (time : Int), str [], .slice none 0 0, .bool false, .int .i64 0, .int .u64 (seq : Int), str [], .slice none 0 0, .bool false])
    (hA : IsL W Q (ipnT node svc) A) : IsL W Q (bodyT here gone reason node svc time seq) (some ⟨g3, 0, none⟩) := fun _ => ⟨g3, 0, rfl, h3.lt, q3, fun j hj => by
  have hj2 : j = 0 ∨ j = 1 ∨ j = 2 ∨ j = 3 := by omega
  rcases hj2 with rfl | rfl | rfl | rfl
  · exact ⟨some ⟨g1, 0, none⟩, 2, ⟨h3.cell 0, h3.cell 1, h3.cell 2, h3.cell 3, h3.cell 4⟩, pair_IsL q1 h1⟩
  · exact ⟨none, 0, ⟨h3.cell 5, h3.cell 6, h3.cell 7, h3.cell 8, h3.cell 9⟩, fun h => absurd h (by decide)⟩
  · exact ⟨A, 2, ⟨h3.cell 10, h3.cell 11, h3.cell 12, h3.cell 13, h3.cell 14⟩, hA⟩
  · exact ⟨some ⟨g2, 0, none⟩, 2, ⟨h3.cell 15, h3.cell 16, h3.cell 17, h3.cell 18, h3.cell 19⟩, pair_IsL q2 h2⟩⟩

set_option maxRecDepth 20000 in
set_option maxHeartbeats 3200000 in
theorem toItem_ipn (here gone : Bool) (reason node svc time seq : Nat) (hr : Hid (reason ≤ 65535)) (hn : Hid (node ≤ 4294967295)) (hs : Hid (svc ≤ 4294967295)) (w : World) :
    Calls Try.prog 20 #[.agg (repC here gone reason node svc time seq)] w (fun e w' => ∃ A, e = .returned (itemV (repT here gone reason node svc time seq) A 2) ∧ Ext w w' ∧ IsL w' (fun _ => True) (repT here gone reason node svc time seq) A) := by
  have HB := hid ((Blk.new w 33 (repC here gone reason node svc time seq)).alloc (.cells (itemC (T.mk 0 0 [] false 0 fun _ => T.nil) none 0) 49))
  have HR : Hid (Blk ((w.alloc (.cells (repC here gone reason node svc time seq) 33)).alloc (.cells (itemC (T.mk 0 0 [] false 0 fun _ => T.nil) none 0) 49)) (w.heap.size + 1) 49 (itemC (T.mk 0 0 [] false 0 fun _ => T.nil) none 0)) := by
    have := Blk.new (w.alloc (.cells (repC here gone reason node svc time seq) 33)) 49 (itemC (T.mk 0 0 [] false 0 fun _ => T.nil) none 0)
    unfold Hid
    simpa using this
  have HE := hid (((Mod.refl [] w).alloc (.cells (repC here gone reason node svc time seq) 33)).alloc (.cells (itemC (T.mk 0 0 [] false 0 fun _ => T.nil) none 0) 49))
  have rr0 : (0 : Int) ≤ (reason : Int) := by omega
  have rr1 : (reason : Int) ≤ 65535 := by have := hr.out; omega
  go_enter Try.func20, Try.ntmps20
  go_upto_region 1 with fail
  go_cut [3] (fun s3 wx => ∃ X A, s3 = .pointer (some ⟨X, 0, none⟩) ∧ Hid (Ext w wx ∧ Blk wx w.heap.size 33 (repC here gone reason node svc time seq) ∧ Blk wx (w.heap.size + 1) 49 (itemC (T.mk 0 0 [] false 0 fun _ => T.nil) none 0) ∧ Blk wx X 49 (itemC (ipnT node svc) A 2) ∧ IsL wx (fun b => b ≠ w.heap.size + 1) (ipnT node svc) A))
  case first =>
    go_wp2_with fail
    refine (eidItem_ipn node svc hn hs _).mono ?_
    rintro e w2 ⟨A, rfl, hb2, hl2⟩
    have h1 := hid (HE.out.trans hb2); have h2 := hid (HB.out.ext hb2); have h3 := hid (HR.out.ext hb2); have h4 : Hid (IsL w2 (fun b => b ≠ w.heap.size + 1) (ipnT node svc) A) := IsL.weak (fun k hk hq => by simp at hq; omega) _ hl2
    clear hb2 hl2
    go_wp2_with fail
    go_meet
    exact ⟨w2.heap.size, A, rfl, h1.out.alloc _, h2.out.alloc _, h3.out.alloc _, Blk.new _ _ _, h4.out.ext ((Mod.refl _ _).alloc _)⟩
  obtain ⟨X, A, rfl, hH⟩ := hcut
  rename World => V
  clear HB HR HE
  have HS : Hid (∀ W, Ext V W → W.cell? ⟨w.heap.size, 0, none⟩ = some (.bool here) ∧ W.cell? ⟨w.heap.size, 1, none⟩ = some (.bool gone) ∧ W.cell? ⟨w.heap.size, 2, none⟩ = some (.int .i64 (reason : Int)) ∧ W.cell? ⟨w.heap.size, 7, none⟩ = some (.int .u64 (time : Int)) ∧ W.cell? ⟨w.heap.size, 8, none⟩ = some (.int .u64 (seq : Int)) ∧
      W.cell? ⟨X, 0, none⟩ = some (.int .i64 4) ∧ W.cell? ⟨X, 1, none⟩ = some (.int .u64 0) ∧ W.cell? ⟨X, 2, none⟩ = some (str []) ∧ W.cell? ⟨X, 3, none⟩ = some (.slice A 2 2) ∧ W.cell? ⟨X, 4, none⟩ = some (.bool false)) := fun W hW => by
    have b1 := hH.out.2.1.ext hW
    have b2 := hH.out.2.2.2.1.ext hW
    exact ⟨b1.cell 0, b1.cell 1, b1.cell 2, b1.cell 7, b1.cell 8, b2.cell 0, b2.cell 1, b2.cell 2, b2.cell 3, b2.cell 4⟩
  obtain ⟨p0, p1, p2, p7, p8, m0, m1, m2, m3, m4⟩ := HS.out V (Mod.refl _ _)
  have tw : IntKind.u64.wrap (reason : Int) = (reason : Int) := IntWalk.u64_in _ (by omega)
  go_upto_region 2 with fail
  go_cut [5] (fun s5 wx => ∃ g3, s5 = .slice (some ⟨g3, 0, none⟩) 4 4 ∧ Hid (Ext V wx ∧ IsL wx (fun b => b ≠ w.heap.size + 1) (bodyT here gone reason node svc time seq) (some ⟨g3, 0, none⟩)))
  case first =>
    go_region_held3 (fun w' => w'.cell? ⟨w.heap.size, 0, none⟩ = some (.bool here) ∧ w'.cell? ⟨w.heap.size, 1, none⟩ = some (.bool gone) ∧ w'.cell? ⟨w.heap.size, 2, none⟩ = some (.int .i64 (reason : Int)) ∧ w'.cell? ⟨w.heap.size, 7, none⟩ = some (.int .u64 (time : Int)) ∧ w'.cell? ⟨w.heap.size, 8, none⟩ = some (.int .u64 (seq : Int)) ∧ w'.cell? ⟨X, 0, none⟩ = some (.int .i64 4) ∧ w'.cell? ⟨X, 1, none⟩ = some (.int .u64 0) ∧ w'.cell? ⟨X, 2, none⟩ = some (str []) ∧ w'.cell? ⟨X, 3, none⟩ = some (.slice A 2 2) ∧ w'.cell? ⟨X, 4, none⟩ = some (.bool false)) (go_keep)
      (first
        | (go_at_call 38; refine (bit_any _ _).mono ?_; rintro x w3 ⟨rfl, hb3⟩; have hx : Ext V w3 := (by (with_reducible refine Mod.trans ?_ hb3); (repeat (first | with_reducible assumption | with_reducible exact Mod.refl _ _ | with_reducible refine Mod.drew ?_ | with_reducible refine Mod.alloc ?_ _))); have z := HS.out w3 hx)
        | (go_at_call 39; (try rw [tw]); refine (NumI_any _ _).mono ?_; rintro x w3 ⟨rfl, hb3⟩; have hx : Ext V w3 := (by (with_reducible refine Mod.trans ?_ hb3); (repeat (first | with_reducible assumption | with_reducible exact Mod.refl _ _ | with_reducible refine Mod.drew ?_ | with_reducible refine Mod.alloc ?_ _))); have z := HS.out w3 hx; (first | have hIn1 := Blk.ext hIn1 hb3 | have hIn1 := Blk.ext (Blk.alloc hIn1 _) hb3 | skip); (first | have hIn2 := Blk.ext hIn2 hb3 | have hIn2 := Blk.ext (Blk.alloc hIn2 _) hb3 | skip))
        | (go_at_call 37; have hI := hIn1; refine (ListV_any 2 _ 2 _).mono ?_; rintro x w5 ⟨rfl, hb5⟩; have hx : Ext V w5 := (by (with_reducible refine Mod.trans ?_ hb5); (repeat (first | with_reducible assumption | with_reducible exact Mod.refl _ _ | with_reducible refine Mod.drew ?_ | with_reducible refine Mod.alloc ?_ _))); have z := HS.out w5 hx; have hIn2 := (Blk.new _ _ _).ext hb5; have hIn1 := (Blk.alloc hIn1 _).ext hb5)
        | (go_at_call 37; refine (ListV_any 2 _ 2 _).mono ?_; rintro x w4 ⟨rfl, hb4⟩; have hx : Ext V w4 := (by (with_reducible refine Mod.trans ?_ hb4); (repeat (first | with_reducible assumption | with_reducible exact Mod.refl _ _ | with_reducible refine Mod.drew ?_ | with_reducible refine Mod.alloc ?_ _))); have z := HS.out w4 hx; have hIn1 := (Blk.new _ _ _).ext hb4))
    all_goals go_wp2_with fail
    all_goals go_meet
    all_goals exact ⟨_, rfl, Mod.alloc hx _, body_IsL (Nat.ne_of_gt (Nat.lt_of_lt_of_le hH.out.2.2.1.lt (Mod.size (S := []) (w := V) (by assumption)))) (Nat.ne_of_gt (Nat.lt_of_lt_of_le hH.out.2.2.1.lt (Mod.size (S := []) (w := V) (by assumption)))) (Nat.ne_of_gt (Nat.lt_of_lt_of_le hH.out.2.2.1.lt (Mod.size (S := []) (w := V) (by assumption)))) (Blk.new _ _ _) (Blk.alloc hIn1 _) (Blk.alloc hIn2 _) (IsL.ext hH.out.2.2.2.2 (Mod.alloc hx _))⟩
  clear p0 p1 p2 p7 p8 m0 m1 m2 m3 m4 tw rr0 rr1
  obtain ⟨g3, rfl, hG⟩ := hcut
  have HE2 := hid (hH.out.1.trans hG.out.1)
  have HR2 := hid (hH.out.2.2.1.ext hG.out.1)
  have q9 : wc.cell? ⟨w.heap.size, 9, none⟩ = some (.bool false) := (hH.out.2.1.ext hG.out.1).cell 9
  go_wp2_with fail
  refine (Num_any 1 _).mono ?_
  rintro e w6 ⟨rfl, hb6⟩
  have HE6 := hid (HE2.out.trans hb6)
  have HR6 := hid (HR2.out.ext hb6)
  have HL6 := hid (hG.out.2.ext hb6)
  clear hb6 q9
  go_wp2_with fail
  refine (ListV_any 4 _ 4 _).mono ?_
  rintro e w7 ⟨rfl, hb7⟩
  have HE7 := hid (HE6.out.trans hb7)
  have HR7 := hid (HR6.out.ext hb7)
  have HL7 := hid (HL6.out.ext hb7)
  clear hb7
  go_wp2_with fail
  refine (ListV_any 2 _ 2 _).mono ?_
  rintro e w8 ⟨rfl, hb8⟩
  have HO : Hid (IsL w8 (fun b => b ≠ w.heap.size + 1) (repT here gone reason node svc time seq) (some ⟨w7.heap.size, 0, none⟩)) := by
    have hB := (Blk.new w7 49 #[.int .i64 (numT 1).kind, .int .u64 ((numT 1).n : Int), str (numT 1).s, .slice none (numT 1).k 0, .bool (numT 1).op, .int .i64 4, .int .u64 0, str [], .slice (some ⟨g3, 0, none⟩) 4 4, .bool false]).ext hb8
    have hL := (HL7.out.ext ((Mod.refl _ _).alloc _)).ext hb8
    exact fun _ => ⟨w7.heap.size, 0, rfl, hB.lt, (show w7.heap.size ≠ w.heap.size + 1 by have := HR7.out.lt; omega), fun j hj => by
      have hj2 : j = 0 ∨ j = 1 := by omega
      rcases hj2 with rfl | rfl
      · exact ⟨none, 0, ⟨hB.cell 0, hB.cell 1, hB.cell 2, hB.cell 3, hB.cell 4⟩, fun h => absurd h (by decide)⟩
      · exact ⟨some ⟨g3, 0, none⟩, 4, ⟨hB.cell 5, hB.cell 6, hB.cell 7, hB.cell 8, hB.cell 9⟩, hL⟩⟩
  have HE8 := hid ((HE7.out.alloc (.cells #[.int .i64 (numT 1).kind, .int .u64 ((numT 1).n : Int), str (numT 1).s, .slice none (numT 1).k 0, .bool (numT 1).op, .int .i64 4, .int .u64 0, str [], .slice (some ⟨g3, 0, none⟩) 4 4, .bool false] 49)).trans hb8)
  have HR8 := hid ((HR7.out.alloc (.cells #[.int .i64 (numT 1).kind, .int .u64 ((numT 1).n : Int), str (numT 1).s, .slice none (numT 1).k 0, .bool (numT 1).op, .int .i64 4, .int .u64 0, str [], .slice (some ⟨g3, 0, none⟩) 4 4, .bool false] 49)).ext hb8)
  obtain ⟨c0, c1, c2, c3, c4⟩ := cells5 HR8.out
  have f0 := Blk.frozen HR8.out 0
  have f1 := Blk.frozen HR8.out 1
  have f2 := Blk.frozen HR8.out 2
  have f3 := Blk.frozen HR8.out 3
  have f4 := Blk.frozen HR8.out 4
  clear hb8
  go_wp2_with fail
  obtain ⟨d0, d1, d2, d3, d4⟩ := cells5 (set5_blk (t := repT here gone reason node svc time seq) (A := some ⟨w7.heap.size, 0, none⟩) (c := 2) HR8.out)
  clear c0 c1 c2 c3 c4 f0 f1 f2 f3 f4
  show bodyPost _ _ _ _ _ (set5 w8 (w.heap.size + 1) (repT here gone reason node svc time seq) (some ⟨w7.heap.size, 0, none⟩) 2)
  refine bodyPost_ret (v := itemV (repT here gone reason node svc time seq) (some ⟨w7.heap.size, 0, none⟩) 2) (by simp [results, Try.results20, go_sem, d0, d1, d2, d3, d4]) rfl ?_
  exact ⟨_, rfl, set5_mod HE8.out (by omega), IsL.weak (fun _ _ _ => trivial) _ (IsL.mod set5_modb (fun k hq hk hm => by rw [List.mem_singleton] at hm; exact hq hm) _ HO.out)⟩
end Go.Proofs.Ytmgndegooeghkaa
