/-
  The law ItemSame: its walk.
-/
import Derived.Test.YtmekhofncflhaaaItSm
import Derived.Test.YtmekhofncflhaaaItOpen
import Derived.Test.YtmekhofncflhaaaItMk
namespace Go.Proofs.Ytmekhofncflhaaa
open Go.RowKit
set_option linter.unusedVariables false

def t82 : T := T.mk 4 0 [] false 2 fun i => if i = 0 then numT 1 else strT [97]
theorem t82_build : buildV t82 = .tuple #[str [130, 1, 65, 97], .int .i64 0] := by
  have h1 : t82.right 8 = true := by decide
  have h2 : t82.bytes = [130, 1, 65, 97] := by decide
  rw [buildV, h1, h2]; rfl
theorem t82_ok : t82.ok := by
  unfold t82 T.ok
  refine ⟨by omega, by omega, by simp, by omega, fun i hi => ?_⟩
  dsimp only
  split
  · unfold numT T.ok; exact ⟨by omega, by omega, by simp, by omega, fun i hi => by omega⟩
  · unfold strT T.ok; exact ⟨by omega, by omega, by simp, by omega, fun i hi => by omega⟩
theorem awake2_any (w : World) : Calls Try.prog 19 #[] w (Ret (.bool true) w) := by
  go_enter Try.func19, Try.ntmps19
  go_wp2_with fail
  refine (Num_any 1 _).mono ?_
  rintro e w1 ⟨rfl, hb1⟩
  go_wp2_with fail
  refine (Str_any [97] _).mono ?_
  rintro e w2 ⟨rfl, hb2⟩
  go_wp2_with fail
  refine (List_any (fun i => if i = 0 then numT 1 else strT [97]) 2 _ 2 _).mono ?_
  rintro e w3 ⟨rfl, hb3⟩
  have HB := (Blk.new w2 34 #[Value.int .i64 (numT 1).kind, .int .u64 (numT 1).n, str (numT 1).s, .slice none (numT 1).k 0, .bool (numT 1).op, .int .i64 (strT [97]).kind, .int .u64 (strT [97]).n, str (strT [97]).s, .slice none (strT [97]).k 0, .bool (strT [97]).op]).ext hb3
  have HL : IsL w3 (fun _ => True) t82 (some ⟨w2.heap.size, 0, none⟩) := fun _ => ⟨w2.heap.size, 0, rfl, HB.lt, trivial, fun i hi => ⟨none, 0, by
    have hi2 : i = 0 ∨ i = 1 := by omega
    rcases hi2 with rfl | rfl
    · exact ⟨HB.cell 0, HB.cell 1, HB.cell 2, HB.cell 3, HB.cell 4⟩
    · exact ⟨HB.cell 5, HB.cell 6, HB.cell 7, HB.cell 8, HB.cell 9⟩, by
    dsimp only
    split
    · exact fun h => absurd h (by decide)
    · exact fun h => absurd h (by decide)⟩⟩
  have HE := hid (((hb1.trans hb2).alloc (.cells #[Value.int .i64 (numT 1).kind, .int .u64 (numT 1).n, str (numT 1).s, .slice none (numT 1).k 0, .bool (numT 1).op, .int .i64 (strT [97]).kind, .int .u64 (strT [97]).n, str (strT [97]).s, .slice none (strT [97]).k 0, .bool (strT [97]).op] 34)).trans hb3)
  have HL2 := hid HL
  clear HB HL hb1 hb2 hb3
  go_wp2_with fail
  refine (iBuild_any t82 t82_ok (by decide) _ 2 _ HL2.out).mono ?_
  rintro e w4 ⟨rfl, hb4⟩
  rw [t82_build]
  go_wp2_with fail
  go_ret
  exact Ret.mk rfl (HE.out.trans hb4)

set_option maxRecDepth 20000 in
set_option maxHeartbeats 1600000 in
/-- The code's Same. -/
theorem Same_any (a b : T) (hoa : a.ok) (hob : b.ok) (A B : Option Addr) (c d : Nat) (w : World) (ha : IsL w (fun _ => True) a A) (hb : IsL w (fun _ => True) b B) :
    Calls Try.prog 23 #[itemV a A c, itemV b B d] w (Ret (.bool (a.right 8 && b.right 8 && a.same b)) w) := by
  have H := hid ha; have H' := hid hb; have HO := hid hoa; have HO' := hid hob
  have HBa : Hid (Blk ((w.alloc (.cells (itemC a A c) 34)).alloc (.cells (itemC b B d) 34)) w.heap.size 34 (itemC a A c)) := (Blk.new _ _ _).alloc _
  have HBb : Hid (Blk ((w.alloc (.cells (itemC a A c) 34)).alloc (.cells (itemC b B d) 34)) (w.heap.size + 1) 34 (itemC b B d)) := Blk.new' _ _ _ (by simp)
  have HE0 := hid (((Mod.refl [] w).alloc (.cells (itemC a A c) 34)).alloc (.cells (itemC b B d) 34))
  clear ha hb hoa hob
  go_enter Try.func23, Try.ntmps23
  go_wp2_with fail
  refine (iRight_any a HO.out A c _ (H.out.ext HE0.out)).mono ?_
  rintro e w2 ⟨rfl, hb2⟩
  have HE2 := hid (HE0.out.trans hb2)
  have hBa2 := HBa.out.ext hb2
  have hBb2 := HBb.out.ext hb2
  have ca0 : w2.cell? ⟨w.heap.size, 0, none⟩ = some (.int .i64 a.kind) := hBa2.cell 0
  have ca1 : w2.cell? ⟨w.heap.size, 1, none⟩ = some (.int .u64 (a.n : Int)) := hBa2.cell 1
  have ca2 : w2.cell? ⟨w.heap.size, 2, none⟩ = some (str a.s) := hBa2.cell 2
  have ca3 : w2.cell? ⟨w.heap.size, 3, none⟩ = some (.slice A a.k c) := hBa2.cell 3
  have ca4 : w2.cell? ⟨w.heap.size, 4, none⟩ = some (.bool a.op) := hBa2.cell 4
  have cb0 : w2.cell? ⟨w.heap.size + 1, 0, none⟩ = some (.int .i64 b.kind) := hBb2.cell 0
  have cb1 : w2.cell? ⟨w.heap.size + 1, 1, none⟩ = some (.int .u64 (b.n : Int)) := hBb2.cell 1
  have cb2 : w2.cell? ⟨w.heap.size + 1, 2, none⟩ = some (str b.s) := hBb2.cell 2
  have cb3 : w2.cell? ⟨w.heap.size + 1, 3, none⟩ = some (.slice B b.k d) := hBb2.cell 3
  have cb4 : w2.cell? ⟨w.heap.size + 1, 4, none⟩ = some (.bool b.op) := hBb2.cell 4
  have HA2 := hid hBa2; have HB2 := hid hBb2
  clear hBa2 hBb2 hb2
  cases hr : a.right 8
  · have HR := hid hr
    clear hr
    go_wp2_with fail
    go_ret
    exact Ret.mk (by simp [show a.right 8 = false from HR.out]) HE2.out
  · have HR := hid hr
    clear hr
    go_wp2_with fail
    refine (iRight_any b HO'.out B d _ (H'.out.ext HE2.out)).mono ?_
    rintro e w3 ⟨rfl, hb3⟩
    have HE3 := hid (HE2.out.trans hb3)
    have hBa2 := HA2.out.ext hb3
    have hBb2 := HB2.out.ext hb3
    clear ca0 ca1 ca2 ca3 ca4 cb0 cb1 cb2 cb3 cb4
    have ca0 : w3.cell? ⟨w.heap.size, 0, none⟩ = some (.int .i64 a.kind) := hBa2.cell 0
    have ca1 : w3.cell? ⟨w.heap.size, 1, none⟩ = some (.int .u64 (a.n : Int)) := hBa2.cell 1
    have ca2 : w3.cell? ⟨w.heap.size, 2, none⟩ = some (str a.s) := hBa2.cell 2
    have ca3 : w3.cell? ⟨w.heap.size, 3, none⟩ = some (.slice A a.k c) := hBa2.cell 3
    have ca4 : w3.cell? ⟨w.heap.size, 4, none⟩ = some (.bool a.op) := hBa2.cell 4
    have cb0 : w3.cell? ⟨w.heap.size + 1, 0, none⟩ = some (.int .i64 b.kind) := hBb2.cell 0
    have cb1 : w3.cell? ⟨w.heap.size + 1, 1, none⟩ = some (.int .u64 (b.n : Int)) := hBb2.cell 1
    have cb2 : w3.cell? ⟨w.heap.size + 1, 2, none⟩ = some (str b.s) := hBb2.cell 2
    have cb3 : w3.cell? ⟨w.heap.size + 1, 3, none⟩ = some (.slice B b.k d) := hBb2.cell 3
    have cb4 : w3.cell? ⟨w.heap.size + 1, 4, none⟩ = some (.bool b.op) := hBb2.cell 4
    clear hBa2 hBb2 hb3
    cases hr : b.right 8
    · have HR2 := hid hr
      clear hr
      go_wp2_with fail
      go_ret
      exact Ret.mk (by simp [show b.right 8 = false from HR2.out]) HE3.out
    · have HR2 := hid hr
      clear hr
      go_wp2_with fail
      refine (same_any a b HO.out HO'.out A c B d _ (H.out.ext HE3.out) (H'.out.ext HE3.out)).mono ?_
      rintro e w4 ⟨rfl, hb4⟩
      go_wp2_with fail
      go_ret
      exact Ret.mk (by simp [show a.right 8 = true from HR.out, show b.right 8 = true from HR2.out]) (HE3.out.trans hb4)

theorem same_law {a b : T} (hoa : a.ok) (hob : b.ok) (hra : a.right 8 = true) (hrb : b.right 8 = true) : a.same b = decide (a.bytes = b.bytes) := by
  have pa : a.plain = true := by rw [T.right_eq] at hra; simp at hra; exact hra.2
  have pb : b.plain = true := by rw [T.right_eq] at hrb; simp at hrb; exact hrb.2
  rw [Bool.eq_iff_iff, decide_eq_true_iff]
  exact ⟨T.same_bytes a b hob, fun h => (T.bytes_inj a b pa pb hoa hob [] [] (by rw [h])).1⟩

/-- The two arguments' blocks in a later world. -/
structure Two (W : World) (g : Nat) (a b : T) (A B : Option Addr) (c d : Nat) : Prop where
  a0 : W.cell? ⟨g, 0, none⟩ = some (.int .i64 a.kind)
  a1 : W.cell? ⟨g, 1, none⟩ = some (.int .u64 (a.n : Int))
  a2 : W.cell? ⟨g, 2, none⟩ = some (str a.s)
  a3 : W.cell? ⟨g, 3, none⟩ = some (.slice A a.k c)
  a4 : W.cell? ⟨g, 4, none⟩ = some (.bool a.op)
  b0 : W.cell? ⟨g + 1, 0, none⟩ = some (.int .i64 b.kind)
  b1 : W.cell? ⟨g + 1, 1, none⟩ = some (.int .u64 (b.n : Int))
  b2 : W.cell? ⟨g + 1, 2, none⟩ = some (str b.s)
  b3 : W.cell? ⟨g + 1, 3, none⟩ = some (.slice B b.k d)
  b4 : W.cell? ⟨g + 1, 4, none⟩ = some (.bool b.op)
theorem Two.new (w : World) (a b : T) (A B : Option Addr) (c d : Nat) : Hid (∀ W, Ext ((w.alloc (.cells (itemC a A c) 34)).alloc (.cells (itemC b B d) 34)) W → Two W w.heap.size a b A B c d) := fun W hW => by
  have h1 : Blk W w.heap.size 34 (itemC a A c) := ((Blk.new _ _ _).alloc _).ext hW
  have h2 : Blk W (w.heap.size + 1) 34 (itemC b B d) := (Blk.new' _ _ _ (by simp)).ext hW
  exact ⟨h1.cell 0, h1.cell 1, h1.cell 2, h1.cell 3, h1.cell 4, h2.cell 0, h2.cell 1, h2.cell 2, h2.cell 3, h2.cell 4⟩

set_option maxRecDepth 20000 in
set_option maxHeartbeats 1600000 in
theorem itemSame_walk (a b : T) (hoa : a.ok) (hob : b.ok) (A B : Option Addr) (c d : Nat) (w : World) (ha : IsL w (fun _ => True) a A) (hb : IsL w (fun _ => True) b B) :
    Calls Try.prog 5 #[itemV a A c, itemV b B d] w (Ret (.bool true) w) := by
  have H := hid ha; have H' := hid hb; have HO := hid hoa; have HO' := hid hob
  have HT := Two.new w a b A B c d
  have HE0 := hid (((Mod.refl [] w).alloc (.cells (itemC a A c) 34)).alloc (.cells (itemC b B d) 34))
  have HEB := hid (Mod.refl [] ((w.alloc (.cells (itemC a A c) 34)).alloc (.cells (itemC b B d) 34)))
  clear ha hb hoa hob
  go_enter Try.func5, Try.ntmps5
  go_wp2_with fail
  refine (awake2_any _).mono ?_
  rintro e w1 ⟨rfl, hb1⟩
  have HX1 := hid (HEB.out.trans hb1)
  obtain ⟨ca0, ca1, ca2, ca3, ca4, cb0, cb1, cb2, cb3, cb4⟩ := HT.out w1 HX1.out
  clear hb1
  go_wp2_with fail
  refine (iFew_any a 2000 (by omega) HO.out A c _ (H.out.ext (HE0.out.trans HX1.out))).mono ?_
  rintro e w2 ⟨rfl, hb2⟩
  clear ca0 ca1 ca2 ca3 ca4 cb0 cb1 cb2 cb3 cb4
  have HX2 := hid (HX1.out.trans hb2)
  clear hb2
  cases hfa : few a 2000
  · clear hfa
    go_wp2_with fail
    refine (awake2_any _).mono ?_
    rintro e w3 ⟨rfl, hb3⟩
    go_wp2_with fail
    go_ret
    exact Ret.mk rfl ((HE0.out.trans HX2.out).trans hb3)
  have HFA := hid (few_size hfa)
  clear hfa
  obtain ⟨ca0, ca1, ca2, ca3, ca4, cb0, cb1, cb2, cb3, cb4⟩ := HT.out w2 HX2.out
  go_wp2_with fail
  refine (iFew_any b 2000 (by omega) HO'.out B d _ (H'.out.ext (HE0.out.trans HX2.out))).mono ?_
  rintro e w3 ⟨rfl, hb3⟩
  clear ca0 ca1 ca2 ca3 ca4 cb0 cb1 cb2 cb3 cb4
  have HX3 := hid (HX2.out.trans hb3)
  clear hb3
  cases hfb : few b 2000
  · clear hfb
    go_wp2_with fail
    refine (awake2_any _).mono ?_
    rintro e w4 ⟨rfl, hb4⟩
    go_wp2_with fail
    go_ret
    exact Ret.mk rfl ((HE0.out.trans HX3.out).trans hb4)
  have HFB := hid (few_size hfb)
  clear hfb
  obtain ⟨ca0, ca1, ca2, ca3, ca4, cb0, cb1, cb2, cb3, cb4⟩ := HT.out w3 HX3.out
  go_wp2_with fail
  refine (rRight_any a HO.out A c _ (H.out.ext (HE0.out.trans HX3.out))).mono ?_
  rintro e w4 ⟨rfl, hb4⟩
  clear ca0 ca1 ca2 ca3 ca4 cb0 cb1 cb2 cb3 cb4
  have HX4 := hid (HX3.out.trans hb4)
  clear hb4
  obtain ⟨ca0, ca1, ca2, ca3, ca4, cb0, cb1, cb2, cb3, cb4⟩ := HT.out w4 HX4.out
  cases hra : a.right 8
  · have HRA := hid hra
    clear hra
    go_wp2_with fail
    refine (Same_any a b HO.out HO'.out A B c d _ (H.out.ext (HE0.out.trans HX4.out)) (H'.out.ext (HE0.out.trans HX4.out))).mono ?_
    rintro e w5 ⟨rfl, hb5⟩
    rw [HRA.out]
    go_wp2_with fail
    go_ret
    exact Ret.mk rfl ((HE0.out.trans HX4.out).trans hb5)
  have HRA := hid hra
  clear hra
  go_wp2_with fail
  refine (rRight_any b HO'.out B d _ (H'.out.ext (HE0.out.trans HX4.out))).mono ?_
  rintro e w5 ⟨rfl, hb5⟩
  clear ca0 ca1 ca2 ca3 ca4 cb0 cb1 cb2 cb3 cb4
  have HX5 := hid (HX4.out.trans hb5)
  clear hb5
  obtain ⟨ca0, ca1, ca2, ca3, ca4, cb0, cb1, cb2, cb3, cb4⟩ := HT.out w5 HX5.out
  cases hrb : b.right 8
  · have HRB := hid hrb
    clear hrb
    go_wp2_with fail
    refine (Same_any a b HO.out HO'.out A B c d _ (H.out.ext (HE0.out.trans HX5.out)) (H'.out.ext (HE0.out.trans HX5.out))).mono ?_
    rintro e w6 ⟨rfl, hb6⟩
    rw [HRA.out, HRB.out]
    go_wp2_with fail
    go_ret
    exact Ret.mk rfl ((HE0.out.trans HX5.out).trans hb6)
  have HRB := hid hrb
  clear hrb
  have HL := hid (same_law HO.out HO'.out HRA.out HRB.out)
  have HPA : Hid (a.plain = true) := by have h := HRA.out; rw [T.right_eq] at h; simp at h; exact h.2
  have HPB : Hid (b.plain = true) := by have h := HRB.out; rw [T.right_eq] at h; simp at h; exact h.2
  have HS : Hid (∀ W, Ext w5 W → W.cell? ⟨w.heap.size, 0, none⟩ = some (.int .i64 a.kind) ∧ W.cell? ⟨w.heap.size, 1, none⟩ = some (.int .u64 (a.n : Int)) ∧ W.cell? ⟨w.heap.size, 2, none⟩ = some (str a.s) ∧ W.cell? ⟨w.heap.size, 3, none⟩ = some (.slice A a.k c) ∧ W.cell? ⟨w.heap.size, 4, none⟩ = some (.bool a.op) ∧ W.cell? ⟨w.heap.size + 1, 0, none⟩ = some (.int .i64 b.kind) ∧ W.cell? ⟨w.heap.size + 1, 1, none⟩ = some (.int .u64 (b.n : Int)) ∧ W.cell? ⟨w.heap.size + 1, 2, none⟩ = some (str b.s) ∧ W.cell? ⟨w.heap.size + 1, 3, none⟩ = some (.slice B b.k d) ∧ W.cell? ⟨w.heap.size + 1, 4, none⟩ = some (.bool b.op)) := fun W hW => by
    obtain ⟨ca0, ca1, ca2, ca3, ca4, cb0, cb1, cb2, cb3, cb4⟩ := HT.out W (HX5.out.trans hW)
    exact ⟨ca0, ca1, ca2, ca3, ca4, cb0, cb1, cb2, cb3, cb4⟩
  have HZ5 := hid (HE0.out.trans HX5.out)
  have HFA2 : Hid (a.size ≤ 100000) := Nat.le_trans HFA.out.1 (by omega)
  have HFB2 : Hid (b.size ≤ 100000) := Nat.le_trans HFB.out.1 (by omega)
  go_upto_region 5 with fail
  go_region_held3 (fun w' => w'.cell? ⟨w.heap.size, 0, none⟩ = some (.int .i64 a.kind) ∧ w'.cell? ⟨w.heap.size, 1, none⟩ = some (.int .u64 (a.n : Int)) ∧ w'.cell? ⟨w.heap.size, 2, none⟩ = some (str a.s) ∧ w'.cell? ⟨w.heap.size, 3, none⟩ = some (.slice A a.k c) ∧ w'.cell? ⟨w.heap.size, 4, none⟩ = some (.bool a.op) ∧ w'.cell? ⟨w.heap.size + 1, 0, none⟩ = some (.int .i64 b.kind) ∧ w'.cell? ⟨w.heap.size + 1, 1, none⟩ = some (.int .u64 (b.n : Int)) ∧ w'.cell? ⟨w.heap.size + 1, 2, none⟩ = some (str b.s) ∧ w'.cell? ⟨w.heap.size + 1, 3, none⟩ = some (.slice B b.k d) ∧ w'.cell? ⟨w.heap.size + 1, 4, none⟩ = some (.bool b.op)) (go_keep)
    (first
      | (go_at_call 22; (with_reducible refine (rBytesI_any a HO.out HPA.out HFA2.out A c _ ?_).mono ?_); (refine IsL.ext H.out ?_); (with_reducible refine Mod.trans HZ5.out ?_); (repeat (first | with_reducible assumption | with_reducible exact Mod.refl _ _ | with_reducible refine Mod.drew ?_)); rintro e w6 ⟨rfl, hb6⟩; have hx6 : Ext w5 w6 := (by (with_reducible refine Mod.trans ?_ hb6); (repeat (first | with_reducible assumption | with_reducible exact Mod.refl _ _ | with_reducible refine Mod.drew ?_))); have z := HS.out w6 hx6)
      | (go_at_call 22; (with_reducible refine (rBytesI_any b HO'.out HPB.out HFB2.out B d _ ?_).mono ?_); (refine IsL.ext H'.out ?_); (with_reducible refine Mod.trans HZ5.out ?_); (repeat (first | with_reducible assumption | with_reducible exact Mod.refl _ _ | with_reducible refine Mod.drew ?_)); rintro e w6 ⟨rfl, hb6⟩; have hx6 : Ext w5 w6 := (by (with_reducible refine Mod.trans ?_ hb6); (repeat (first | with_reducible assumption | with_reducible exact Mod.refl _ _ | with_reducible refine Mod.drew ?_))); have z := HS.out w6 hx6))
  all_goals clear ca0 ca1 ca2 ca3 ca4 cb0 cb1 cb2 cb3 cb4
  all_goals obtain ⟨ca0, ca1, ca2, ca3, ca4, cb0, cb1, cb2, cb3, cb4⟩ := z
  all_goals go_wp2_with fail
  all_goals refine (Same_any a b HO.out HO'.out A B c d _ (H.out.ext (HZ5.out.trans hx6)) (H'.out.ext (HZ5.out.trans hx6))).mono ?_
  all_goals rintro e w7 ⟨rfl, hb7⟩
  all_goals rw [HRA.out, HRB.out]
  all_goals go_wp2_with fail
  all_goals go_ret
  all_goals exact Ret.mk (by rw [HL.out]; by_cases h : a.bytes = b.bytes <;> simp [h]) ((HZ5.out.trans hx6).trans hb7)
end Go.Proofs.Ytmekhofncflhaaa
