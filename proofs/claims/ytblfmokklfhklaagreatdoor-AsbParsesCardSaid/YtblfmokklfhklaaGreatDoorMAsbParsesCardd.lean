/-
  Security texts: Right, Build; what a program that does nothing does not answer.
  Security texts, read: errors; a number, or one that is too great.
  Security texts, read: targets.
  A row of elements of the call's own that grows, whatever the elements; what hangs on them lies elsewhere.
  Security texts: rows of pairs, of rows of pairs, of numbers, that grow.
  Security texts: items, and pairs, of their own.
  Security texts: pairs of their own.
  Security texts, read: pairs.
  slices.Clone and Delete of numbers.
  Security texts: a target's results; what is left without it.
  Security texts, read: results.
  The name that an item may be.
  Items: the code's same.
  An argument item.Item, opened: it is a tree whose items lie in memory.
  The law ItemSame: its walk.
  The name of an item.
-/
import Derived.Test.YtblfmokklfhklaaGreatDoorMAsbParsesCardc
import Derived.Deep.AppendLies
import Derived.Deep.RegionLaw
import Derived.Lib.SliceRun
import Derived.Shelf.Spec.SlicesInsert
import Derived.Deep.Slices
import Derived.Deep.Fields
import Derived.ChangeSame
import Derived.SizedLaws

namespace Go.Proofs.YtblfmokklfhklaaGreatDoor
open Go.RowKit
set_option linter.unusedVariables false
set_option linter.unusedSimpArgs false

set_option maxRecDepth 20000 in
set_option maxHeartbeats 4000000 in
theorem aRight_any (a : AV) (hw : a.wf) (hsm : a.shaped = true → a.small) (m : AA) (hmt : a.tk ≤ m.tc) (w : World) (h : AsL w anyQ a m) : Calls Tryz.prog 9 #[asbV a m] w (Ret (.bool a.right) w) := by
  have HE := hid ((Mod.refl [] w).alloc (.cells (asbC a m) 29))
  have HB0 := hid (Blk.new w 29 (asbC a m))
  have HL := hid (h.ext HE.out)
  have HWF := hid hw
  have KS : Hid (∀ W, Ext (w.alloc (.cells (asbC a m) 29)) W → Calls Tryz.prog 19 #[asbV a m] W (Ret (.bool a.shaped) W)) := hid (fun W hW => shaped_any a HWF.out m hmt W (HL.out.ext hW))
  have KB : Hid (a.shaped = true → ∀ W, Ext (w.alloc (.cells (asbC a m) 29)) W → Calls Tryz.prog 18 #[asbV a m] W (Ret (str a.bytes) W)) := hid (fun hs W hW => abuild_any a HWF.out (hsm hs) hs m W (HL.out.ext hW))
  have HR : Hid (a.right = (a.shaped && decide (a.bytes.length ≤ 4000))) := rfl
  have HBL : Hid (a.shaped = true → a.bytes.length ≤ 6000000) := hid (fun hs => by
    have h1 := catL_le (L := a.items) (B := 1000000) (fun t ht => by have := T.bytes_le t; have := (AV.items_all HWF.out (hsm hs) hs t ht).2.2; omega) a.items.length (Nat.le_refl _)
    have h2 : a.bytes = catL a.items a.items.length := by unfold AV.bytes catL; rw [List.take_length]
    have h3 := AV.items_length a
    rw [h2]; omega)
  clear hw hsm hmt h
  cases hs : a.shaped with
  | false =>
    rw [hs] at KS
    have HX : Hid (a.right = false) := hid (by rw [HR.out, hs]; rfl)
    clear hs KB HBL
    go_enter Tryz.func9, Tryz.ntmps9
    go_upto_region 1 with fail
    generalize w.alloc (.cells (asbC a m) 29) = V at *
    obtain ⟨e, he⟩ := Later.self V
    rw [he]
    clear he
    have tk1 : True := trivial
    have tk2 : True := trivial
    go_wp2_with (first | (clear tk1; refine wpList_row (by rfl) 29 _ rfl _ rfl (HB0.out.later _) Tryz.underlying29 rfl (by kernel_rfl) ?_) | (go_at_call 19; refine (Ret.later (KS.out _ (Later.h _))).mono ?_; rintro x _ ⟨rfl, e, rfl⟩))
    go_ret
    exact Ret.mk (by rw [HX.out]; rfl) (HE.out.trans e.h)
  | true =>
    rw [hs] at KS
    have KB := hid (KB.out hs)
    have hbl := HBL.out hs
    have HX : Hid (a.right = decide (a.bytes.length ≤ 4000)) := hid (by rw [HR.out, hs]; rfl)
    clear hs HBL HR
    generalize a.bytes = BB at *
    go_enter Tryz.func9, Tryz.ntmps9
    go_upto_region 1 with fail
    generalize w.alloc (.cells (asbC a m) 29) = V at *
    obtain ⟨e, he⟩ := Later.self V
    rw [he]
    clear he
    have tk1 : True := trivial
    have tk2 : True := trivial
    go_wp2_with (first | (clear tk1; refine wpList_row (by rfl) 29 _ rfl _ rfl (HB0.out.later _) Tryz.underlying29 rfl (by kernel_rfl) ?_) | (go_at_call 19; refine (Ret.later (KS.out _ (Later.h _))).mono ?_; rintro x _ ⟨rfl, e, rfl⟩) | (clear tk2; refine wpList_row (by rfl) 29 _ rfl _ rfl (HB0.out.later _) Tryz.underlying29 rfl (by kernel_rfl) ?_) | (go_at_call 18; refine (Ret.later (KB.out _ (Later.h _))).mono ?_; rintro x _ ⟨rfl, e, rfl⟩))
    go_ret
    refine Ret.mk ?_ (HE.out.trans e.h)
    rw [HX.out]
    simp
    try omega
/-- What Build hands back. -/
def abuildV (a : AV) : Value := if a.right then .tuple #[str a.bytes, .int .i64 0] else .tuple #[str [], .int .i64 1]
set_option maxRecDepth 20000 in
set_option maxHeartbeats 4000000 in
theorem aBuild_any (a : AV) (hw : a.wf) (hsm : a.shaped = true → a.small) (m : AA) (hmt : a.tk ≤ m.tc) (w : World) (h : AsL w anyQ a m) : Calls Tryz.prog 8 #[asbV a m] w (Ret (abuildV a) w) := by
  have HE := hid ((Mod.refl [] w).alloc (.cells (asbC a m) 29))
  have HB0 := hid (Blk.new w 29 (asbC a m))
  have HL := hid (h.ext HE.out)
  have HWF := hid hw
  have KS : Hid (∀ W, Ext (w.alloc (.cells (asbC a m) 29)) W → Calls Tryz.prog 9 #[asbV a m] W (Ret (.bool a.right) W)) := hid (fun W hW => aRight_any a HWF.out hsm m hmt W (HL.out.ext hW))
  have KB : Hid (a.right = true → ∀ W, Ext (w.alloc (.cells (asbC a m) 29)) W → Calls Tryz.prog 18 #[asbV a m] W (Ret (str a.bytes) W)) := hid (fun hr W hW => by
    have hs : a.shaped = true := by unfold AV.right at hr; rw [Bool.and_eq_true] at hr; exact hr.1
    exact abuild_any a HWF.out (hsm hs) hs m W (HL.out.ext hW))
  clear hw hsm hmt h
  cases hs : a.right with
  | false =>
    rw [hs] at KS
    have HX : Hid (abuildV a = .tuple #[str [], .int .i64 1]) := hid (by unfold abuildV; rw [hs]; rfl)
    clear hs KB
    go_enter Tryz.func8, Tryz.ntmps8
    go_upto_region 1 with fail
    generalize w.alloc (.cells (asbC a m) 29) = V at *
    obtain ⟨e, he⟩ := Later.self V
    rw [he]
    clear he
    have tk1 : True := trivial
    have tk2 : True := trivial
    go_wp2_with (first | (clear tk1; refine wpList_row (by rfl) 29 _ rfl _ rfl (HB0.out.later _) Tryz.underlying29 rfl (by kernel_rfl) ?_) | (go_at_call 9; refine (Ret.later (KS.out _ (Later.h _))).mono ?_; rintro x _ ⟨rfl, e, rfl⟩))
    refine bodyPost_ret (v := .tuple #[str [], .int .i64 1]) (by simp [results, Tryz.results8, go_sem]) rfl ?_
    exact Ret.mk (by rw [HX.out]) (HE.out.trans e.h)
  | true =>
    rw [hs] at KS
    have KB := hid (KB.out hs)
    have HX : Hid (abuildV a = .tuple #[str a.bytes, .int .i64 0]) := hid (by unfold abuildV; rw [hs]; rfl)
    clear hs
    generalize a.bytes = BB at *
    go_enter Tryz.func8, Tryz.ntmps8
    go_upto_region 1 with fail
    generalize w.alloc (.cells (asbC a m) 29) = V at *
    obtain ⟨e, he⟩ := Later.self V
    rw [he]
    clear he
    have tk1 : True := trivial
    have tk2 : True := trivial
    go_wp2_with (first | (clear tk1; refine wpList_row (by rfl) 29 _ rfl _ rfl (HB0.out.later _) Tryz.underlying29 rfl (by kernel_rfl) ?_) | (go_at_call 9; refine (Ret.later (KS.out _ (Later.h _))).mono ?_; rintro x _ ⟨rfl, e, rfl⟩) | (clear tk2; refine wpList_row (by rfl) 29 _ rfl _ rfl (HB0.out.later _) Tryz.underlying29 rfl (by kernel_rfl) ?_) | (go_at_call 18; refine (Ret.later (KB.out _ (Later.h _))).mono ?_; rintro x _ ⟨rfl, e, rfl⟩))
    refine bodyPost_ret (v := .tuple #[str BB, .int .i64 0]) (by simp [results, Tryz.results8, go_sem]) rfl ?_
    exact Ret.mk (by rw [HX.out]) (HE.out.trans e.h)
/-- The law's right text; its results' value is the bytes x. -/
def someP (x : List UInt8) : PL := ⟨1, fun _ => ⟨1, strT x⟩⟩
def someA (x : List UInt8) : AV := ⟨1, fun _ => 1, 1, ⟨1, [110, 111, 110, 101], 0, 0⟩, ⟨0, fun _ => ⟨0, T.nil⟩⟩, 1, fun _ => someP x⟩
theorem someA_wf {x : List UInt8} (hx : x.length < 4611686018427387904) : (someA x).wf := by
  refine ⟨⟨by show (1 : Nat) < 4611686018427387904; omega, fun i _ => by show _ ≤ (1 : Int) ∧ (1 : Int) ≤ _; omega⟩, by show _ ≤ (1 : Int) ∧ (1 : Int) ≤ _; omega, by show (4 : Nat) < 4611686018427387904; omega, ⟨by show (0 : Nat) < 4611686018427387904; omega, fun i hi => absurd hi (Nat.not_lt_zero _)⟩, by show (1 : Nat) < 4611686018427387904; omega, fun i hi => ⟨by show (1 : Nat) < 4611686018427387904; omega, fun j hj => ⟨str_ok hx, by show _ ≤ (1 : Int) ∧ (1 : Int) ≤ _; omega⟩⟩⟩
theorem someA_small {x : List UInt8} (hx : x.length ≤ 50000) : (someA x).small := by
  refine ⟨by show (1 : Nat) ≤ 100000; omega, ?_⟩
  simp [someA, someP, rsT, plT, pairT, listT, strT, numT, T.size, T.sum]
  omega
theorem someA_shaped {x : List UInt8} : (someA x).shaped = true := by
  simp [AV.shaped, someA, someP, unlikeB, codedB, T.all, resB, pairsB, valB, strT, T.kind, T.right, T.node]
  decide
theorem some_any15 (w : World) : Calls Tryz.prog 14 #[] w (fun e w' => ∃ m, e = .returned (asbV (someA [116]) m) ∧ Ext w w' ∧ AsL w' (fun b => w.heap.size ≤ b) (someA [116]) m ∧ 1 ≤ m.tc) := by
  go_enter Tryz.func14, Tryz.ntmps14
  go_wp2_with fail
  have HE := hid (((((Mod.refl [] w).alloc (.cells #[.slice (some ⟨w.heap.size + 1, 0, none⟩) 1 1, .int .i64 1, .int .i64 1, str [110, 111, 110, 101], .int .u64 0, .int .u64 0, .slice none 0 0, .slice (some ⟨w.heap.size + 1 + 1 + 1, 0, none⟩) 1 1] 29)).alloc (.cells #[.int .i64 1] 3)).alloc (.cells #[.int .i64 1, .int .i64 2, .int .u64 0, str [116], .slice none 0 0, .bool false] 68)).alloc (.cells #[.slice (some ⟨w.heap.size + 1 + 1, 0, none⟩) 1 1] 26))
  have HB0 : Hid (Blk ((((w.alloc (.cells #[.slice (some ⟨w.heap.size + 1, 0, none⟩) 1 1, .int .i64 1, .int .i64 1, str [110, 111, 110, 101], .int .u64 0, .int .u64 0, .slice none 0 0, .slice (some ⟨w.heap.size + 1 + 1 + 1, 0, none⟩) 1 1] 29)).alloc (.cells #[.int .i64 1] 3)).alloc (.cells #[.int .i64 1, .int .i64 2, .int .u64 0, str [116], .slice none 0 0, .bool false] 68)).alloc (.cells #[.slice (some ⟨w.heap.size + 1 + 1, 0, none⟩) 1 1] 26)) w.heap.size 29 #[.slice (some ⟨w.heap.size + 1, 0, none⟩) 1 1, .int .i64 1, .int .i64 1, str [110, 111, 110, 101], .int .u64 0, .int .u64 0, .slice none 0 0, .slice (some ⟨w.heap.size + 1 + 1 + 1, 0, none⟩) 1 1]) := hid ((((Blk.new w 29 #[.slice (some ⟨w.heap.size + 1, 0, none⟩) 1 1, .int .i64 1, .int .i64 1, str [110, 111, 110, 101], .int .u64 0, .int .u64 0, .slice none 0 0, .slice (some ⟨w.heap.size + 1 + 1 + 1, 0, none⟩) 1 1]).alloc (.cells #[.int .i64 1] 3)).alloc (.cells #[.int .i64 1, .int .i64 2, .int .u64 0, str [116], .slice none 0 0, .bool false] 68)).alloc (.cells #[.slice (some ⟨w.heap.size + 1 + 1, 0, none⟩) 1 1] 26))
  have HB1 : Hid (Blk ((((w.alloc (.cells #[.slice (some ⟨w.heap.size + 1, 0, none⟩) 1 1, .int .i64 1, .int .i64 1, str [110, 111, 110, 101], .int .u64 0, .int .u64 0, .slice none 0 0, .slice (some ⟨w.heap.size + 1 + 1 + 1, 0, none⟩) 1 1] 29)).alloc (.cells #[.int .i64 1] 3)).alloc (.cells #[.int .i64 1, .int .i64 2, .int .u64 0, str [116], .slice none 0 0, .bool false] 68)).alloc (.cells #[.slice (some ⟨w.heap.size + 1 + 1, 0, none⟩) 1 1] 26)) (w.heap.size + 1) 3 #[.int .i64 1]) := by unfold Hid; have := (Blk.newL (N := (w.heap.size + 1)) (w.alloc (.cells #[.slice (some ⟨w.heap.size + 1, 0, none⟩) 1 1, .int .i64 1, .int .i64 1, str [110, 111, 110, 101], .int .u64 0, .int .u64 0, .slice none 0 0, .slice (some ⟨w.heap.size + 1 + 1 + 1, 0, none⟩) 1 1] 29)) 3 #[.int .i64 1] (by simp)); exact ((this.alloc (.cells #[.int .i64 1, .int .i64 2, .int .u64 0, str [116], .slice none 0 0, .bool false] 68)).alloc (.cells #[.slice (some ⟨w.heap.size + 1 + 1, 0, none⟩) 1 1] 26))
  have HB2 : Hid (Blk ((((w.alloc (.cells #[.slice (some ⟨w.heap.size + 1, 0, none⟩) 1 1, .int .i64 1, .int .i64 1, str [110, 111, 110, 101], .int .u64 0, .int .u64 0, .slice none 0 0, .slice (some ⟨w.heap.size + 1 + 1 + 1, 0, none⟩) 1 1] 29)).alloc (.cells #[.int .i64 1] 3)).alloc (.cells #[.int .i64 1, .int .i64 2, .int .u64 0, str [116], .slice none 0 0, .bool false] 68)).alloc (.cells #[.slice (some ⟨w.heap.size + 1 + 1, 0, none⟩) 1 1] 26)) (w.heap.size + 1 + 1) 68 #[.int .i64 1, .int .i64 2, .int .u64 0, str [116], .slice none 0 0, .bool false]) := by unfold Hid; have := (Blk.newL (N := (w.heap.size + 1 + 1)) ((w.alloc (.cells #[.slice (some ⟨w.heap.size + 1, 0, none⟩) 1 1, .int .i64 1, .int .i64 1, str [110, 111, 110, 101], .int .u64 0, .int .u64 0, .slice none 0 0, .slice (some ⟨w.heap.size + 1 + 1 + 1, 0, none⟩) 1 1] 29)).alloc (.cells #[.int .i64 1] 3)) 68 #[.int .i64 1, .int .i64 2, .int .u64 0, str [116], .slice none 0 0, .bool false] (by simp)); exact (this.alloc (.cells #[.slice (some ⟨w.heap.size + 1 + 1, 0, none⟩) 1 1] 26))
  have HB3 : Hid (Blk ((((w.alloc (.cells #[.slice (some ⟨w.heap.size + 1, 0, none⟩) 1 1, .int .i64 1, .int .i64 1, str [110, 111, 110, 101], .int .u64 0, .int .u64 0, .slice none 0 0, .slice (some ⟨w.heap.size + 1 + 1 + 1, 0, none⟩) 1 1] 29)).alloc (.cells #[.int .i64 1] 3)).alloc (.cells #[.int .i64 1, .int .i64 2, .int .u64 0, str [116], .slice none 0 0, .bool false] 68)).alloc (.cells #[.slice (some ⟨w.heap.size + 1 + 1, 0, none⟩) 1 1] 26)) (w.heap.size + 1 + 1 + 1) 26 #[.slice (some ⟨w.heap.size + 1 + 1, 0, none⟩) 1 1]) := by unfold Hid; exact Blk.newL _ _ _ (by simp)
  show bodyPost _ _ _ _ _ ((((w.alloc (.cells #[.slice (some ⟨w.heap.size + 1, 0, none⟩) 1 1, .int .i64 1, .int .i64 1, str [110, 111, 110, 101], .int .u64 0, .int .u64 0, .slice none 0 0, .slice (some ⟨w.heap.size + 1 + 1 + 1, 0, none⟩) 1 1] 29)).alloc (.cells #[.int .i64 1] 3)).alloc (.cells #[.int .i64 1, .int .i64 2, .int .u64 0, str [116], .slice none 0 0, .bool false] 68)).alloc (.cells #[.slice (some ⟨w.heap.size + 1 + 1, 0, none⟩) 1 1] 26))
  generalize ((((w.alloc (.cells #[.slice (some ⟨w.heap.size + 1, 0, none⟩) 1 1, .int .i64 1, .int .i64 1, str [110, 111, 110, 101], .int .u64 0, .int .u64 0, .slice none 0 0, .slice (some ⟨w.heap.size + 1 + 1 + 1, 0, none⟩) 1 1] 29)).alloc (.cells #[.int .i64 1] 3)).alloc (.cells #[.int .i64 1, .int .i64 2, .int .u64 0, str [116], .slice none 0 0, .bool false] 68)).alloc (.cells #[.slice (some ⟨w.heap.size + 1 + 1, 0, none⟩) 1 1] 26)) = V at *
  refine bodyPost_ret (results_cell rfl _ (by rfl) HB0.out Tryz.underlying29 rfl (by kernel_rfl)) rfl ⟨⟨some ⟨w.heap.size + 1, 0, none⟩, 1, none, 0, some ⟨w.heap.size + 1 + 1 + 1, 0, none⟩, 1⟩, rfl, HE.out, ⟨?_, ?_, ?_, ?_⟩, Nat.le_refl _⟩
  · intro _
    exact ⟨w.heap.size + 1, 0, rfl, HB1.out.lt, fun i hi => by
      have hi : i = 0 := by have : i < 1 := hi; omega
      subst hi; exact HB1.out.cell 0⟩
  · intro b o h _
    cases h
    show w.heap.size ≤ w.heap.size + 1
    omega
  · intro h0; exact absurd h0 (Nat.not_lt_zero _)
  · intro _
    refine ⟨w.heap.size + 1 + 1 + 1, 0, rfl, HB3.out.lt, by show w.heap.size ≤ w.heap.size + 1 + 1 + 1; omega, fun i hi => ?_⟩
    have hi : i = 0 := by have : i < 1 := hi; omega
    subst hi
    refine ⟨some ⟨w.heap.size + 1 + 1, 0, none⟩, 1, HB3.out.cell 0, Nat.le_refl _, fun _ => ⟨w.heap.size + 1 + 1, 0, rfl, HB2.out.lt, by show w.heap.size ≤ w.heap.size + 1 + 1; omega, fun j hj => ?_⟩⟩
    have hj : j = 0 := by have : j < 1 := hj; omega
    subst hj
    exact ⟨none, 0, ⟨HB2.out.cell 0, HB2.out.cell 1, HB2.out.cell 2, HB2.out.cell 3, HB2.out.cell 4, HB2.out.cell 5⟩, IsL.leaf⟩
theorem someA_bytes : abuildV (someA [116]) = .tuple #[str [129, 1, 1, 0, 130, 1, 0, 129, 129, 130, 1, 65, 116], .int .i64 0] := by
  have h : (someA [116]).bytes = [129, 1, 1, 0, 130, 1, 0, 129, 129, 130, 1, 65, 116] := by decide +kernel
  unfold abuildV AV.right
  rw [someA_shaped, h]
  rfl
set_option maxRecDepth 20000 in
theorem awake15_any (w : World) : Calls Tryz.prog 5 #[] w (Ret (.bool true) w) := by
  have K1 := hid (fun W => some_any15 W)
  have K2 := hid (fun (m : AA) (hm : 1 ≤ m.tc) (Q : Nat → Prop) W (h : AsL W Q (someA [116]) m) => someA_bytes ▸ aBuild_any (someA [116]) (someA_wf (by decide)) (fun _ => someA_small (by decide)) m hm W ⟨h.t, fun _ _ _ _ => trivial, h.p.weak (fun _ _ _ => trivial), h.r.weak (fun _ _ _ => trivial)⟩)
  go_enter Tryz.func5, Tryz.ntmps5
  go_wp2_with (first | (go_at_call 14; refine (K1.out _).mono ?_; rintro x w1 ⟨m, rfl, hb1, hl1, hm⟩; have H1 := hid hb1; have HL1 := hid hl1; have HM := hid hm; clear hb1 hl1 hm) | (go_at_call 8; refine (K2.out m HM.out _ _ HL1.out).mono ?_; rintro x w2 ⟨rfl, hb2⟩; have H2 := hid hb2; clear hb2))
  go_ret
  exact Ret.mk rfl (H1.out.trans H2.out)
end Go.Proofs.YtblfmokklfhklaaGreatDoor


namespace Go.Proofs.YtblfmokklfhklaaGreatDoor
open Go.RowKit
set_option linter.unusedVariables false
set_option linter.unusedSimpArgs false

/-- The variable errForm holds a pointer to an error's text. -/
def FormV (eb : Addr) : Value := .iface 152 (.pointer (some eb))
def FormAt (w : World) (eb : Addr) : Prop := w.cell? ⟨0, 0, none⟩ = some (FormV eb) ∧ 0 < w.heap.size
theorem FormAt.mod {w w' : World} {eb : Addr} {S : List Nat} (h : FormAt w eb) (hm : Mod S w w') (h1 : 0 ∉ S) : FormAt w' eb :=
  ⟨(hm.cell h.2 h1).trans h.1, Nat.lt_of_lt_of_le h.2 hm.size⟩
theorem FormAt.ext {w w' : World} {eb : Addr} (h : FormAt w eb) (hm : Ext w w') : FormAt w' eb := h.mod hm (by simp)
/-- Errors: what was being read, outermost first. -/
def errV (eb : Addr) : List (List UInt8) → Value
  | [] => FormV eb
  | s :: l => .iface 118 (.agg #[str s, errV eb l])
set_option maxRecDepth 20000 in
theorem wrong_any (s : List UInt8) (eb : Addr) (w : World) (h : FormAt w eb) : Calls Tryz.prog 47 #[str s] w (Ret (errV eb [s]) w) := by
  have h0 : w.cell? ⟨0, 0, none⟩ = some (.iface 152 (.pointer (some eb))) := h.1
  clear h
  go_enter Tryz.func47, Tryz.ntmps47
  go_wp2_with fail
  go_ret
  exact Ret.mk rfl (Mod.refl _ _)
/-- A number's answer. -/
def numErr (t : T) (eb : Addr) : Value := if t.kind = 0 then .tuple #[.int .i64 (min (t.n : Int) 65536), .nilIface] else .tuple #[.int .i64 0, errV eb [[110, 117, 109, 98, 101, 114]]]
set_option maxRecDepth 20000 in
theorem anum_any (t : T) (A : Option Addr) (c : Nat) (eb : Addr) (w : World) (h : FormAt w eb) : Calls Tryz.prog 49 #[itemV t A c] w (Ret (numErr t eb) w) := by
  have HE := hid ((Mod.refl [] w).alloc (.cells (itemC t A c) 47))
  have HB := hid (Blk.new w 47 (itemC t A c))
  have KW : Hid (∀ W, FormAt W eb → Calls Tryz.prog 47 #[str [110, 117, 109, 98, 101, 114]] W (Ret (errV eb [[110, 117, 109, 98, 101, 114]]) W)) := hid (fun W hW => wrong_any _ eb W hW)
  have HF := hid (h.ext HE.out)
  clear h
  have c0 : (w.alloc (.cells (itemC t A c) 47)).cell? ⟨w.heap.size, 0, none⟩ = some (.int .i64 t.kind) := HB.out.cell 0
  have c1 : (w.alloc (.cells (itemC t A c) 47)).cell? ⟨w.heap.size, 1, none⟩ = some (.int .u64 (t.n : Int)) := HB.out.cell 1
  by_cases hk : t.kind = 0
  · have HP : Hid (numErr t eb = .tuple #[.int .i64 (min (t.n : Int) 65536), .nilIface]) := hid (if_pos hk)
    have t1a : ((t.kind) == (0)) = true := by rw [beq_iff_eq]; exact hk
    have t1b : ((t.kind) = (0)) = True := eq_true hk
    have t1c : ((t.kind) != (0)) = false := by rw [bne_eq_false_iff_eq]; exact hk
    clear hk
    go_enter Tryz.func49, Tryz.ntmps49
    go_wp2_with fail
    all_goals go_ret2
    all_goals exact Ret.mk (by rw [HP.out]; first | rfl | (rw [show min (t.n : Int) 65536 = 65536 by omega]; rfl) | (rw [show min (t.n : Int) 65536 = (t.n : Int) by omega]; rfl)) HE.out
  · have HP : Hid (numErr t eb = .tuple #[.int .i64 0, errV eb [[110, 117, 109, 98, 101, 114]]]) := hid (if_neg hk)
    have t1a : ((t.kind) == (0)) = false := by rw [beq_eq_false_iff_ne]; exact hk
    have t1b : ((t.kind) = (0)) = False := eq_false hk
    have t1c : ((t.kind) != (0)) = true := by rw [bne_iff_ne]; exact hk
    clear hk
    go_enter Tryz.func49, Tryz.ntmps49
    go_wp2_with (go_at_call 47; refine (KW.out _ HF.out).mono ?_; rintro x w1 ⟨rfl, hb⟩; have HX := hid hb; clear hb)
    go_ret2
    exact Ret.mk (by rw [HP.out]; rfl) (HE.out.trans HX.out)
end Go.Proofs.YtblfmokklfhklaaGreatDoor


namespace Go.Proofs.YtblfmokklfhklaaGreatDoor
open Go.RowKit
set_option linter.unusedVariables false
set_option linter.unusedSimpArgs false

theorem kidsA {W : World} {Q : Nat → Prop} {t : T} {A : Option Addr} (h : IsL W Q t A) {i : Nat} (hi : i < t.k) : ∃ (b o : Nat) (Ai : Option Addr) (ci : Nat), A = some ⟨b, o, none⟩ ∧ b < W.heap.size ∧ Q b ∧ At5 W b (o + i * 5) (t.ch i) Ai ci ∧ IsL W Q (t.ch i) Ai := by
  cases t with
  | nil => exact absurd hi (Nat.not_lt_zero _)
  | mk kd n s op k ch =>
    obtain ⟨b, o, hA, hb, hq, hc⟩ := h (by have hi : i < k := hi; omega)
    obtain ⟨Ai, ci, h1, h2⟩ := hc i hi
    exact ⟨b, o, Ai, ci, hA, hb, hq, h1, h2⟩
def numK (t : T) (i : Nat) : Bool := decide ((t.ch i).kind = 0)
def tgtN (t : T) (i : Nat) : Int := min ((t.ch i).n : Int) 65536
set_option maxRecDepth 20000 in
set_option maxHeartbeats 4000000 in
theorem areadT_any (t : T) (hk : t.k ≤ 1000) (A : Option Addr) (c : Nat) (eb : Addr) (w : World) (hf : FormAt w eb) (h : IsL w (fun _ => True) t A) : Calls Tryz.prog 48 #[itemV t A c] w (fun e w' => (T.all (numK t) t.k = false ∧ e = .returned (.tuple #[.slice none 0 0, errV eb [[116, 97, 114, 103, 101, 116, 115], [110, 117, 109, 98, 101, 114]]]) ∧ Ext w w') ∨ (T.all (numK t) t.k = true ∧ ∃ A' c', e = .returned (.tuple #[.slice A' t.k c', .nilIface]) ∧ Ext w w' ∧ w'.ownsRow w.heap.size 3 1 (.slice A' t.k c') t.k (flatG (numsF (tgtN t)) t.k))) := by
  have HK := hid hk
  have k0 : (t.k : Int) ≤ 1000 := by omega
  have HE := hid ((Mod.refl [] w).alloc (.cells (itemC t A c) 47))
  have HB := hid (Blk.new w 47 (itemC t A c))
  have HL := hid h
  have HF := hid hf
  have HSW : Hid (w.heap.size < (w.alloc (.cells (itemC t A c) 47)).heap.size) := hid HB.out.lt
  clear h hf hk
  go_enter Tryz.func48, Tryz.ntmps48
  go_upto_region 1 with fail
  generalize w.alloc (.cells (itemC t A c) 47) = V at *
  have z3 : V.cell? ⟨w.heap.size, 3, none⟩ = some (.slice A t.k c) := HB.out.cell 3
  go_wp2_with fail
  clear z3
  have HW0 := HE
  obtain ⟨k, hkk⟩ : ∃ k, t.k = k := ⟨_, rfl⟩
  have HKK := hid hkk
  rw [hkk] at k0 ⊢
  clear hkk
  go_loopw [4, 12] (fun s4 s12 wr => ∃ (i : Nat) (A' : Option Addr) (c' : Nat), s12 = .int .i64 (i : Int) ∧ s4 = .slice A' i c' ∧ Hid (i ≤ k ∧ Ext w wr ∧ wr.ownsRow w.heap.size 3 1 (.slice A' i c') i (flatG (numsF (tgtN t)) i) ∧ T.all (numK t) i = true)) (fun _ s12 _ => k - (intOf s12).toNat)
  case atStart => exact ⟨0, none, 0, rfl, rfl, (show Hid _ from ⟨Nat.zero_le _, HW0.out, World.ownsRow_nil _ _ _ _, rfl⟩)⟩
  case round =>
    clear HW0
    obtain ⟨i, A', c', rfl, rfl, hS⟩ := hrel
    rename World => wr
    have i0 : (0 : Int) ≤ (i : Int) := by omega
    by_cases hlt : i < k
    · obtain ⟨b, o, Ai, ci, rfl, hb, _, hat, hI⟩ := kidsA (HL.out.ext hS.out.2.1) (i := i) (by rw [HKK.out]; exact hlt)
      obtain ⟨q0, q1, q2, q3, q4⟩ := hat
      have tc : decide (i < k) = true := by simp [hlt]
      have i1 : (i : Int) < (k : Int) := by omega
      have HLT := hid hlt
      clear hlt hI hb
      go_upto_region 5 with fail
      generalize hW1 : World.alloc wr _ = W1
      have HG1 : Hid (Blk W1 wr.heap.size 47 (itemC (t.ch i) Ai ci)) := hid (by rw [← hW1]; exact Blk.new _ _ _)
      have hS1 : Hid (i ≤ k ∧ Ext w W1 ∧ W1.ownsRow w.heap.size 3 1 (.slice A' i c') i (flatG (numsF (tgtN t)) i) ∧ T.all (numK t) i = true) := hid (by
        have h := hS.out
        rw [← hW1]; exact ⟨h.1, h.2.1.alloc _, h.2.2.1.alloc _, h.2.2.2⟩)
      clear hW1 hS q0 q1 q2 q3 q4
      generalize wr.heap.size = G at *
      have HGL : Hid (∀ e : Later W1, Blk e.x G 47 (itemC (t.ch i) Ai ci)) := hid (fun e => HG1.out.later e)
      have KN := hid (fun e : Later W1 => anum_any (t.ch i) Ai ci eb e.x (HF.out.ext (hS1.out.2.1.trans e.h)))
      obtain ⟨e, he⟩ := Later.self W1
      rw [he]
      clear he
      have tk1 : True := trivial
      by_cases hkd : (t.ch i).kind = 0
      case neg =>
        have KN : Hid (∀ e : Later W1, Calls Tryz.prog 49 #[itemV (t.ch i) Ai ci] e.x (Ret (.tuple #[.int .i64 0, .iface 118 (.agg #[str [110, 117, 109, 98, 101, 114], FormV eb])]) e.x)) := hid (fun e => by have h := KN.out e; unfold numErr at h; rw [if_neg hkd] at h; exact h)
        have HN : Hid (T.all (numK t) k = false) := hid (all_no HLT.out (show numK t i = false from decide_eq_false hkd))
        clear hkd
        go_wp2_with (first | (clear tk1; refine wpList_row (by rfl) 47 _ rfl _ rfl (HGL.out _) Tryz.underlying47 rfl (by kernel_rfl) ?_) | (go_at_call 49; refine (Ret.later (KN.out _)).mono ?_; rintro x _ ⟨rfl, e, rfl⟩))
        go_ret2
        rw [HKK.out]
        exact .inl ⟨HN.out, rfl, hS1.out.2.1.trans e.h⟩
      have KN : Hid (∀ e : Later W1, Calls Tryz.prog 49 #[itemV (t.ch i) Ai ci] e.x (Ret (.tuple #[.int .i64 (tgtN t i), .nilIface]) e.x)) := hid (fun e => by have h := KN.out e; unfold numErr at h; rw [if_pos hkd] at h; exact h)
      have HY : Hid (numK t i = true) := hid (decide_eq_true hkd)
      obtain ⟨ib, hi, hz0, hz1, hz2⟩ := info_parts infoInt
      have HOWN : Hid (∀ e : Later W1, e.x.ownsRow w.heap.size 3 1 (.slice A' i c') i (flatG (numsF (tgtN t)) i)) := hid (fun e => ownsRow_mod hS1.out.2.2.1 e.h (fun _ _ => by simp))
      have HSZ1 : Hid (w.heap.size ≤ W1.heap.size) := hid hS1.out.2.1.size
      clear hkd
      go_wp2_with (first | (clear tk1; refine wpList_row (by rfl) 47 _ rfl _ rfl (HGL.out _) Tryz.underlying47 rfl (by kernel_rfl) ?_) | (go_at_call 49; refine (Ret.later (KN.out _)).mono ?_; rintro x _ ⟨rfl, e, rfl⟩) | (at_builtin; refine wpList_append_own _ rfl _ _ 22 rfl w.heap.size 3 ib _ 1 8 Tryz.underlying22 hi hz0 hz1 hz2 rfl (by decide) _ _ _ rfl ((HOWN.out e).alloc _) ⟨e.x.heap.size, 0, none⟩ 1 1 [.int .i64 (tgtN t i)] rfl rfl (fun j u hu => by (match j, hu with | 0, hu => (simp at hu; subst hu; rw [addr_add]; exact (Blk.new _ _ _).cell 0))) (by simp [Value.oneCell']) (by have := HLT.out; have := HK.out; have := HKK.out; simp [maxLen]; omega) (by have := HLT.out; have := HK.out; have := HKK.out; omega) (by have := HSZ1.out; have := e.h.size; simp; omega) ?_; intro v' w4 hown' hgrow _; obtain ⟨g', c4, rfl, hg', hlt'⟩ := own_form hown'; have hE4 := own_turned ((HOWN.out e).alloc _) ((hS1.out.2.1.trans e.h).alloc _) hgrow (Nat.le_refl _); have HO4 := hid hown'; have HE4 := hid hE4; clear hown' hgrow hE4 hg' hlt'))
      go_roundw
      case rel => exact ⟨i + 1, some ⟨g', 0, none⟩, c4, by go_num, rfl, (show Hid _ from ⟨HLT.out, HE4.out, by simpa [flatG] using HO4.out, by rw [T.all, hS1.out.2.2.2, HY.out]; rfl⟩)⟩
      case measure => have := HLT.out; simp [intOf]; omega
    · obtain rfl : i = k := by have := hS.out.1; omega
      have tc : decide (i < i) = false := by simp
      have HFIN := hid hS.out
      clear hS
      go_wp2_with fail
      go_ret2
      rw [HKK.out]
      exact .inr ⟨HFIN.out.2.2.2, A', c', rfl, HFIN.out.2.1, HFIN.out.2.2.1⟩
end Go.Proofs.YtblfmokklfhklaaGreatDoor


namespace Go.Proofs.YtblfmokklfhklaaGreatDoor
open Go.RowKit
set_option linter.unusedVariables false
set_option linter.unusedSimpArgs false

/-- Elements: their cells, and what hangs on them. -/
structure Hng where
  X : Type
  z : Nat
  hz : 0 < z
  cells : X → Option Addr × Nat → List Value
  len : ∀ x a, (cells x a).length = z
  hang : World → (Nat → Prop) → X → Option Addr × Nat → Prop
  mod : ∀ {S : List Nat} {W W' : World} {Q : Nat → Prop} {x : X} {a : Option Addr × Nat}, Mod S W W' → (∀ k, Q k → k < W.heap.size → k ∉ S) → hang W Q x a → hang W' Q x a
  weak : ∀ {W : World} {Q R : Nat → Prop} {x : X} {a : Option Addr × Nat}, (∀ k, k < W.heap.size → Q k → R k) → hang W Q x a → hang W R x a
structure RwG (h : Hng) (e : TypeId) (W : World) (Q : Nat → Prop) (base : Nat) (A : Option Addr) (c n : Nat) (f : Nat → h.X) (ac : Nat → Option Addr × Nat) : Prop where
  own : W.ownsRow base e h.z (.slice A n c) n (flatG (fun j => h.cells (f j) (ac j)) n)
  kid : ∀ j, j < n → h.hang W (fun b => Q b ∧ offA A b) (f j) (ac j)
section
variable {h : Hng} {e : TypeId} {W W' : World} {Q : Nat → Prop} {base c n : Nat} {A : Option Addr} {f : Nat → h.X} {ac : Nat → Option Addr × Nat}
theorem RwG.nil : RwG h e W Q base none 0 0 f ac := ⟨World.ownsRow_nil _ _ _ _, fun j hj => by omega⟩
theorem RwG.modQ {S : List Nat} (r : RwG h e W Q base A c n f ac) (hm : Mod S W W') (ho : ∀ g, A = some g → g.block ∉ S) (hs : ∀ k, Q k → k < W.heap.size → k ∉ S) : RwG h e W' Q base A c n f ac :=
  ⟨ownsRow_mod r.own hm (fun k hk => by
    cases A with
    | none => cases hk
    | some g =>
      have : g.block = k := by simpa [Value.ownBlock] using hk
      rw [← this]; exact ho g rfl), fun j hj => h.mod hm (fun k hk hlt => hs k hk.1 hlt) (r.kid j hj)⟩
theorem RwG.ext (r : RwG h e W Q base A c n f ac) (hm : Ext W W') : RwG h e W' Q base A c n f ac := r.modQ hm (by simp) (by simp)
theorem RwG.weak {R : Nat → Prop} (r : RwG h e W Q base A c n f ac) (hq : ∀ k, k < W.heap.size → Q k → R k) : RwG h e W R base A c n f ac :=
  ⟨r.own, fun j hj => h.weak (fun b hb hh => ⟨hq b hb hh.1, hh.2⟩) (r.kid j hj)⟩
theorem RwG.off (r : RwG h e W Q base A c n f ac) : ∀ g, A = some g → base ≤ g.block ∧ g.block < W.heap.size := fun g hg => r.own.lt g.block (by subst hg; rfl)
theorem RwG.cap (r : RwG h e W Q base A c n f ac) : n ≤ c := own_cap r.own
theorem RwG.append (r : RwG h e W Q base A c n f ac) {t : h.X} {at_ : Option Addr × Nat} (hI : h.hang W (fun b => Q b ∧ offA A b) t at_) (ht : f n = t) {g cap : Nat}
    (hown : W'.ownsRow base e h.z (.slice (some ⟨g, 0, none⟩) (n + 1) cap) (n + 1) (flatG (fun j => h.cells (f j) (ac j)) n ++ h.cells t at_))
    (hgr : W.grownBy W' (Value.slice A n c).ownBlock) (hat : (Value.slice A n c).ownBlock = some g ∨ g = W.heap.size) : ∃ ac', RwG h e W' Q base (some ⟨g, 0, none⟩) cap (n + 1) f ac' := by
  subst ht
  have hm : Mod (obs A) W W' := grown_obs hgr
  have key : ∀ {x : h.X} {a : Option Addr × Nat}, h.hang W (fun b => Q b ∧ offA A b) x a → h.hang W' (fun b => Q b ∧ offA (some ⟨g, 0, none⟩) b) x a := by
    intro x a hx
    have h1 := h.weak (R := fun b => (Q b ∧ offA A b) ∧ b ≠ g) (fun b hb hq => ⟨hq, by
      rcases hat with hat | hat
      · cases A with
        | none => cases hat
        | some a =>
          have : a.block = g := by simpa [Value.ownBlock] using hat
          rw [← this]; exact hq.2 a rfl
      · omega⟩) hx
    have h2 := h.mod hm (fun k hk _ => offA_obs hk.1.2) h1
    exact h.weak (fun b _ hq => ⟨hq.1.1, fun g' hg' => by cases hg'; exact hq.2⟩) h2
  refine ⟨fun j => if j = n then at_ else ac j, ?_, fun j hj => ?_⟩
  · rw [flatG, flatG_congr (g := fun j => h.cells (f j) (ac j)) (fun j hj => by show h.cells (f j) (if j = n then at_ else ac j) = _; rw [if_neg (by omega)])]
    simpa using hown
  · by_cases e : j = n
    · subst e
      simpa using key hI
    · simpa [e] using key (r.kid j (by omega))
/-- Its cells. -/
theorem RwG.rows (r : RwG h e W Q base A c n f ac) (h0 : 0 < n) : ∃ g, A = some ⟨g, 0, none⟩ ∧ base ≤ g ∧ g < W.heap.size ∧ ∀ i, i < n → ∀ k u, (h.cells (f i) (ac i))[k]? = some u → W.cell? ⟨g, 0 + i * h.z + k, none⟩ = some u := by
  obtain ⟨m, rfl⟩ : ∃ m, n = m + 1 := ⟨n - 1, by omega⟩
  obtain ⟨g, c', hv, hb, hlt⟩ := own_form r.own
  simp only [Value.slice.injEq] at hv
  obtain ⟨rfl, _, rfl⟩ := hv
  refine ⟨g, rfl, hb, hlt, fun i hi k u hk => ?_⟩
  have hkz : k < h.z := by have := (List.getElem?_eq_some_iff.1 hk).1; rw [h.len] at this; exact this
  have := flatG_own (fun j => h.len (f j) (ac j)) r.own hi hkz hk
  rw [Nat.zero_add]; exact this
end
end Go.Proofs.YtblfmokklfhklaaGreatDoor


namespace Go.Proofs.YtblfmokklfhklaaGreatDoor
open Go.RowKit
set_option linter.unusedVariables false
set_option linter.unusedSimpArgs false

def pairH : Hng := { X := PR, z := 6, hz := by decide, cells := fun p a => [.int .i64 p.id, .int .i64 p.t.kind, .int .u64 (p.t.n : Int), str p.t.s, .slice a.1 p.t.k a.2, .bool p.t.op], len := fun _ _ => rfl, hang := fun W Q p a => IsL W Q p.t a.1, mod := fun hm hs h => IsL.mod hm hs _ h, weak := fun hq h => IsL.weak hq _ h }
def resH : Hng := { X := PL, z := 1, hz := by decide, cells := fun p a => [.slice a.1 p.k a.2], len := fun _ _ => rfl, hang := fun W Q p a => PsL W Q a.1 p ∧ p.k ≤ a.2, mod := fun hm hs h => ⟨h.1.mod hm hs, h.2⟩, weak := fun hq h => ⟨h.1.weak hq, h.2⟩ }
def intH : Hng := { X := Int, z := 1, hz := by decide, cells := fun n _ => [.int .i64 n], len := fun _ _ => rfl, hang := fun _ _ _ _ => True, mod := fun _ _ h => h, weak := fun _ h => h }
def itemH : Hng := { X := T, z := 5, hz := by decide, cells := fun t a => [.int .i64 t.kind, .int .u64 (t.n : Int), str t.s, .slice a.1 t.k a.2, .bool t.op], len := fun _ _ => rfl, hang := fun W Q t a => IsL W Q t a.1, mod := fun hm hs h => IsL.mod hm hs _ h, weak := fun hq h => IsL.weak hq _ h }
/-- No cell of the block is a string's. -/
def softB (w : World) (b : Nat) : Prop := ∀ j, w.frozen? ⟨b, j, none⟩ = false
theorem softB.mod {S : List Nat} {w w' : World} {b : Nat} (h : softB w b) (hm : Mod S w w') (hb : b < w.heap.size) (hs : b ∉ S) : softB w' b := fun j => (hm.frozen hb hs).trans (h j)
/-- Where a row lies, its cells are no string's. -/
def softA (w : World) (Q : Nat → Prop) (A : Option Addr) : Prop := ∀ g, A = some g → Q g.block ∧ g.block < w.heap.size ∧ softB w g.block
theorem softA.mod {S : List Nat} {w w' : World} {Q : Nat → Prop} {A : Option Addr} (h : softA w Q A) (hm : Mod S w w') (hs : ∀ k, Q k → k < w.heap.size → k ∉ S) : softA w' Q A := fun g hg => by
  obtain ⟨h1, h2, h3⟩ := h g hg
  exact ⟨h1, Nat.lt_of_lt_of_le h2 hm.size, h3.mod hm h2 (hs _ h1 h2)⟩
theorem softA.weak {w : World} {Q R : Nat → Prop} {A : Option Addr} (h : softA w Q A) (hq : ∀ k, k < w.heap.size → Q k → R k) : softA w R A := fun g hg => by
  obtain ⟨h1, h2, h3⟩ := h g hg
  exact ⟨hq _ h2 h1, h2, h3⟩
theorem own_soft {w : World} {base n c size : Nat} {e : TypeId} {A : Option Addr} {xs : List Value} (h : w.ownsRow base e size (.slice A n c) n xs) : softA w (fun b => base ≤ b) A := fun g hg => by
  subst hg
  have hlt := h.lt g.block rfl
  refine ⟨hlt.1, hlt.2, fun j => ?_⟩
  rcases h.2 with ⟨h1, _⟩ | ⟨q, cap, cur, hv, hbg, hq, _⟩
  · cases h1
  · simp only [Value.slice.injEq, Option.some.injEq] at hv
    obtain ⟨rfl, _, _⟩ := hv
    exact Blk.frozen (w := w) (g := q) (t := e) (cs := cur) hq j
def resS : Hng := { X := PL, z := 1, hz := by decide, cells := fun p a => [.slice a.1 p.k a.2], len := fun _ _ => rfl, hang := fun W Q p a => (PsL W Q a.1 p ∧ p.k ≤ a.2) ∧ softA W Q a.1, mod := fun hm hs h => ⟨⟨h.1.1.mod hm hs, h.1.2⟩, h.2.mod hm hs⟩, weak := fun hq h => ⟨⟨h.1.1.weak hq, h.1.2⟩, h.2.weak hq⟩ }
/-- A row of rows of pairs that may be written. -/
def RsS (w : World) (Q : Nat → Prop) (A : Option Addr) (k : Nat) (f : Nat → PL) : Prop := 0 < k → ∃ b o, A = some ⟨b, o, none⟩ ∧ b < w.heap.size ∧ Q b ∧ ∀ i, i < k → ∃ Ai ci, w.cell? ⟨b, o + i, none⟩ = some (.slice Ai (f i).k ci) ∧ (f i).k ≤ ci ∧ PsL w Q Ai (f i) ∧ softA w Q Ai ∧ ∀ g, Ai = some g → g.block ≠ b
theorem RsS.rs {w : World} {Q : Nat → Prop} {A : Option Addr} {k : Nat} {f : Nat → PL} (h : RsS w Q A k f) : RsL w Q A k f := fun h0 => by
  obtain ⟨b, o, hA, hb, hq, hc⟩ := h h0
  refine ⟨b, o, hA, hb, hq, fun i hi => ?_⟩
  obtain ⟨Ai, ci, h1, h2, h3, _⟩ := hc i hi
  exact ⟨Ai, ci, h1, h2, h3⟩
theorem RsS.mod {S : List Nat} {Q : Nat → Prop} {w w' : World} {A : Option Addr} {k : Nat} {f : Nat → PL} (h : RsS w Q A k f) (hm : Mod S w w') (hs : ∀ k, Q k → k < w.heap.size → k ∉ S) : RsS w' Q A k f := fun h0 => by
  obtain ⟨b, o, hA, hb, hq, hc⟩ := h h0
  refine ⟨b, o, hA, Nat.lt_of_lt_of_le hb hm.size, hq, fun i hi => ?_⟩
  obtain ⟨Ai, ci, h1, h2, h3, h4, h5⟩ := hc i hi
  exact ⟨Ai, ci, (hm.cell hb (hs b hq hb)).trans h1, h2, h3.mod hm hs, h4.mod hm hs, h5⟩
theorem RsS.weak {Q R : Nat → Prop} {w : World} {A : Option Addr} {k : Nat} {f : Nat → PL} (h : RsS w Q A k f) (hq : ∀ k, k < w.heap.size → Q k → R k) : RsS w R A k f := fun h0 => by
  obtain ⟨b, o, hA, hb, hqb, hc⟩ := h h0
  refine ⟨b, o, hA, hb, hq b hb hqb, fun i hi => ?_⟩
  obtain ⟨Ai, ci, h1, h2, h3, h4, h5⟩ := hc i hi
  exact ⟨Ai, ci, h1, h2, h3.weak hq, h4.weak hq, h5⟩
section
variable {W : World} {Q : Nat → Prop} {base c n : Nat} {A : Option Addr} {ac : Nat → Option Addr × Nat}
theorem RwG.ps {f : Nat → PR} (r : RwG pairH 68 W Q base A c n f ac) (hq : ∀ b, base ≤ b → Q b) : PsL W Q A ⟨n, f⟩ := fun h0 => by
  obtain ⟨g, rfl, hb, hlt, hc⟩ := r.rows h0
  refine ⟨g, 0, rfl, hlt, hq g hb, fun i hi => ⟨(ac i).1, (ac i).2, ?_, IsL.weak (fun _ _ h => h.1) _ (r.kid i hi)⟩⟩
  exact ⟨hc i hi 0 _ rfl, hc i hi 1 _ rfl, hc i hi 2 _ rfl, hc i hi 3 _ rfl, hc i hi 4 _ rfl, hc i hi 5 _ rfl⟩
theorem RwG.rs {f : Nat → PL} (r : RwG resH 26 W Q base A c n f ac) (hq : ∀ b, base ≤ b → Q b) : RsL W Q A n f := fun h0 => by
  obtain ⟨g, rfl, hb, hlt, hc⟩ := r.rows h0
  refine ⟨g, 0, rfl, hlt, hq g hb, fun i hi => ⟨(ac i).1, (ac i).2, ?_, (r.kid i hi).2, (r.kid i hi).1.weak (fun _ _ h => h.1)⟩⟩
  have := hc i hi 0 _ rfl
  rw [show resH.z = 1 from rfl, Nat.mul_one, Nat.add_zero] at this
  exact this
theorem RwG.rss {f : Nat → PL} (r : RwG resS 26 W Q base A c n f ac) (hq : ∀ b, base ≤ b → Q b) : RsS W Q A n f := fun h0 => by
  obtain ⟨g, rfl, hb, hlt, hc⟩ := r.rows h0
  refine ⟨g, 0, rfl, hlt, hq g hb, fun i hi => ⟨(ac i).1, (ac i).2, ?_, (r.kid i hi).1.2, (r.kid i hi).1.1.weak (fun _ _ h => h.1), (r.kid i hi).2.weak (fun _ _ h => h.1), fun g' hg' => ((r.kid i hi).2 g' hg').1.2 _ rfl⟩⟩
  have := hc i hi 0 _ rfl
  rw [show resS.z = 1 from rfl, Nat.mul_one, Nat.add_zero] at this
  exact this
theorem RwG.ns {f : Nat → Int} (r : RwG intH 3 W Q base A c n f ac) : NsL W A n f ∧ ∀ b o, A = some ⟨b, o, none⟩ → base ≤ b := by
  refine ⟨fun h0 => ?_, fun b o h => (r.off _ h).1⟩
  obtain ⟨g, rfl, hb, hlt, hc⟩ := r.rows h0
  refine ⟨g, 0, rfl, hlt, fun i hi => ?_⟩
  have := hc i hi 0 _ rfl
  rw [show intH.z = 1 from rfl, Nat.mul_one, Nat.add_zero] at this
  exact this
theorem RwG.ts {f : Nat → T} (r : RwG itemH 47 W Q base A c n f ac) (hq : ∀ b, base ≤ b → Q b) (kind : Int) (m : Nat) (s : List UInt8) (op : Bool) : IsL W Q (T.mk kind m s op n f) A := fun h0 => by
  obtain ⟨g, rfl, hb, hlt, hc⟩ := r.rows h0
  refine ⟨g, 0, rfl, hlt, hq g hb, fun i hi => ⟨(ac i).1, (ac i).2, ?_, IsL.weak (fun _ _ h => h.1) _ (r.kid i hi)⟩⟩
  exact ⟨hc i hi 0 _ rfl, hc i hi 1 _ rfl, hc i hi 2 _ rfl, hc i hi 3 _ rfl, hc i hi 4 _ rfl⟩
end
end Go.Proofs.YtblfmokklfhklaaGreatDoor


namespace Go.Proofs.YtblfmokklfhklaaGreatDoor
open Go.RowKit
set_option linter.unusedVariables false
set_option linter.unusedSimpArgs false

theorem T.k_size {t : T} (h : t.ok) : t.k ≤ t.size := by
  cases t with
  | nil => cases h
  | mk kind n s op k ch =>
    unfold T.ok at h
    show k ≤ 1 + s.length + T.sum (fun i => (ch i).size) k
    have : ∀ j, j ≤ k → j ≤ T.sum (fun i => (ch i).size) j := by
      intro j
      induction j with
      | zero => intro _; exact Nat.zero_le _
      | succ j ih =>
        intro hj
        have h1 := ih (by omega)
        have h2 : 1 ≤ (ch j).size := by
          have := h.2.2.2.2 j (by omega)
          cases hc : ch j with
          | nil => rw [hc] at this; cases this
          | mk a b d e f g => show 1 ≤ 1 + d.length + _; omega
        rw [T.sum]; omega
    have := this k (Nat.le_refl _)
    omega
end Go.Proofs.YtblfmokklfhklaaGreatDoor


namespace Go.Proofs.YtblfmokklfhklaaGreatDoor
open Go.RowKit
set_option linter.unusedVariables false
set_option linter.unusedSimpArgs false

theorem infoPair : (Tryz.prog.info? 68).map (fun i => (i.zero, i.size, i.bytes)) = some (some (.agg #[.int .i64 0, .int .i64 0, .int .u64 0, .string ⟨#[]⟩, .slice none 0 0, .bool false]), 6, 72) := by kernel_rfl
end Go.Proofs.YtblfmokklfhklaaGreatDoor


namespace Go.Proofs.YtblfmokklfhklaaGreatDoor
open Go.RowKit
set_option linter.unusedVariables false
set_option linter.unusedSimpArgs false

def pairK (t : T) (i : Nat) : Bool := decide ((t.ch i).k = 2) && decide (((t.ch i).ch 0).kind = 0)
def pairP (t : T) (i : Nat) : PR := ⟨min (((t.ch i).ch 0).n : Int) 65536, ((t.ch i).ch 1)⟩
/-- What is wrong with the first item that is no pair. -/
def pairE (t : T) (i : Nat) : List (List UInt8) := if (t.ch i).k = 2 then [[112, 97, 105, 114], [110, 117, 109, 98, 101, 114]] else [[112, 97, 105, 114]]
def PairsPost (Q : Nat → Prop) (t : T) (eb : Addr) (w : World) (e : Ending) (w' : World) : Prop :=
  (T.all (pairK t) t.k = false ∧ ∃ l, e = .returned (.tuple #[.slice none 0 0, errV eb ([112, 97, 105, 114] :: l)]) ∧ Ext w w') ∨
  (T.all (pairK t) t.k = true ∧ ∃ A' c', e = .returned (.tuple #[.slice A' t.k c', .nilIface]) ∧ Ext w w' ∧ t.k ≤ c' ∧ PsL w' (fun b => (Q b ∧ b < w.heap.size) ∨ w.heap.size ≤ b) A' ⟨t.k, pairP t⟩)
set_option maxRecDepth 20000 in
set_option maxHeartbeats 8000000 in
theorem areadP_any {Q : Nat → Prop} (t : T) (hk : t.k ≤ 1000) (A : Option Addr) (c : Nat) (eb : Addr) (w : World) (hf : FormAt w eb) (h : IsL w Q t A) : Calls Tryz.prog 51 #[itemV t A c] w (PairsPost Q t eb w) := by
  have HK := hid hk
  have k0 : (t.k : Int) ≤ 1000 := by omega
  have HE := hid ((Mod.refl [] w).alloc (.cells (itemC t A c) 47))
  have HB := hid (Blk.new w 47 (itemC t A c))
  have HL : Hid (IsL w (fun b => Q b ∧ b < w.heap.size) t A) := hid (IsL.weak (fun b hb hq => ⟨hq, hb⟩) _ h)
  have HF := hid hf
  clear h hf hk
  go_enter Tryz.func51, Tryz.ntmps51
  go_upto_region 1 with fail
  generalize w.alloc (.cells (itemC t A c) 47) = V at *
  have z3 : V.cell? ⟨w.heap.size, 3, none⟩ = some (.slice A t.k c) := HB.out.cell 3
  go_wp2_with fail
  clear z3
  have HW0 := HE
  obtain ⟨k, hkk⟩ : ∃ k, t.k = k := ⟨_, rfl⟩
  have HKK := hid hkk
  rw [hkk] at k0
  clear hkk
  go_loopw [4, 12] (fun s4 s12 wr => ∃ (i : Nat) (A' : Option Addr) (c' : Nat) (ac : Nat → Option Addr × Nat), s12 = .int .i64 (i : Int) ∧ s4 = .slice A' i c' ∧ Hid (i ≤ k ∧ Ext w wr ∧ RwG pairH 68 wr (fun b => Q b ∧ b < w.heap.size) w.heap.size A' c' i (pairP t) ac ∧ T.all (pairK t) i = true)) (fun _ s12 _ => k - (intOf s12).toNat)
  case atStart => exact ⟨0, none, 0, fun _ => (none, 0), by first | rfl | (rw [HKK.out]), rfl, (show Hid _ from ⟨Nat.zero_le _, HW0.out, RwG.nil, rfl⟩)⟩
  case round =>
    clear HW0
    obtain ⟨i, A', c', ac, rfl, rfl, hS⟩ := hrel
    rename World => wr
    have i0 : (0 : Int) ≤ (i : Int) := by omega
    by_cases hlt : i < k
    · obtain ⟨b, o, Ai, ci, rfl, hb, _, hat, hI⟩ := kidsA (HL.out.ext hS.out.2.1) (i := i) (by rw [HKK.out]; exact hlt)
      obtain ⟨q0, q1, q2, q3, q4⟩ := hat
      have tc : decide (i < k) = true := by simp [hlt]
      have td : decide (i < t.k) = true := by rw [HKK.out]; simp [hlt]
      have i1 : (i : Int) < (k : Int) := by omega
      have i2 : (i : Int) < (t.k : Int) := by rw [HKK.out]; omega
      have HLT := hid hlt
      have HI := hid hI
      clear hlt hI hb
      go_upto_region 5 with fail
      generalize hW1 : World.alloc wr _ = W1
      have HG1 : Hid (Blk W1 wr.heap.size 47 (itemC (t.ch i) Ai ci)) := hid (by rw [← hW1]; exact Blk.new _ _ _)
      have hS1 : Hid (i ≤ k ∧ Ext w W1 ∧ RwG pairH 68 W1 (fun b => Q b ∧ b < w.heap.size) w.heap.size A' c' i (pairP t) ac ∧ T.all (pairK t) i = true) := hid (by
        have h := hS.out
        rw [← hW1]; exact ⟨h.1, h.2.1.alloc _, h.2.2.1.ext ((Mod.refl [] _).alloc _), h.2.2.2⟩)
      have HI1 : Hid (IsL W1 (fun b => Q b ∧ b < w.heap.size) (t.ch i) Ai) := hid (by rw [← hW1]; exact HI.out.ext ((Mod.refl [] _).alloc _))
      clear hW1 hS q0 q1 q2 q3 q4 HI
      generalize wr.heap.size = G at *
      have g3 : ∀ e : Later W1, e.x.cell? ⟨G, 3, none⟩ = some (.slice Ai (t.ch i).k ci) := HG1.out.cellL 3 rfl
      have KW : Hid (∀ e : Later W1, Calls Tryz.prog 47 #[str [112, 97, 105, 114]] e.x (Ret (.iface 118 (.agg #[str [112, 97, 105, 114], FormV eb])) e.x)) := hid (fun e => wrong_any [112, 97, 105, 114] eb e.x (HF.out.ext (hS1.out.2.1.trans e.h)))
      by_cases hk2 : (t.ch i).k = 2
      case neg =>
        have HN : Hid (T.all (pairK t) k = false) := hid (all_no HLT.out (show pairK t i = false by unfold pairK; rw [decide_eq_false hk2]; rfl))
        have u1a : ((((t.ch i).k : Int)) == (2)) = false := by rw [beq_eq_false_iff_ne]; omega
        have u1b : ((((t.ch i).k : Int)) = (2)) = False := eq_false (by omega)
        have u1c : ((((t.ch i).k : Int)) != (2)) = true := by rw [bne_iff_ne]; omega
        have u2a : (((t.ch i).k) == (2)) = false := by rw [beq_eq_false_iff_ne]; exact hk2
        have u2b : (((t.ch i).k) = (2)) = False := eq_false (by exact hk2)
        have u2c : (((t.ch i).k) != (2)) = true := by rw [bne_iff_ne]; exact hk2
        clear hk2
        obtain ⟨e, he⟩ := Later.self W1
        rw [he]
        clear he
        go_wp2_with (first | (go_at_call 47; refine (Ret.later (KW.out _)).mono ?_; rintro x _ ⟨rfl, e, rfl⟩))
        go_ret2
        exact .inl ⟨by rw [HKK.out]; exact HN.out, [], rfl, hS1.out.2.1.trans e.h⟩
      obtain ⟨b2, o2, A0, c0, rfl, hb2, hq2, hat0, hI0⟩ := kidsA HI1.out (i := 0) (by omega)
      obtain ⟨b3, o3, A1, c1, h3, hb3, hq3, hat1, hI1⟩ := kidsA HI1.out (i := 1) (by omega)
      simp only [Option.some.injEq, Addr.mk.injEq, and_true] at h3
      obtain ⟨rfl, rfl⟩ := h3
      have HX0 := hid hat0
      have HX1 := hid hat1
      have HIL1 := hid hI1
      have HB2 := hid hb2
      have p0 : ∀ e : Later W1, At5 e.x b2 o2 ((t.ch i).ch 0) A0 c0 := fun e => by have := (HX0.out).mod e.h HB2.out (by simp); rwa [show o2 + 0 * 5 = o2 by omega] at this
      have p1 : ∀ e : Later W1, At5 e.x b2 (o2 + 5) ((t.ch i).ch 1) A1 c1 := fun e => by have := (HX1.out).mod e.h HB2.out (by simp); rwa [show o2 + 1 * 5 = o2 + 5 by omega] at this
      clear hat0 hat1 hI0 hI1 hb2 hb3 hq3
      rw [hk2] at g3
      have a0 : ∀ e : Later W1, e.x.cell? ⟨b2, o2, none⟩ = _ := fun e => (p0 e).1
      have a1 : ∀ e : Later W1, e.x.cell? ⟨b2, o2 + 1, none⟩ = _ := fun e => (p0 e).2.1
      have a2 : ∀ e : Later W1, e.x.cell? ⟨b2, o2 + 2, none⟩ = _ := fun e => (p0 e).2.2.1
      have a3 : ∀ e : Later W1, e.x.cell? ⟨b2, o2 + 3, none⟩ = _ := fun e => (p0 e).2.2.2.1
      have a4 : ∀ e : Later W1, e.x.cell? ⟨b2, o2 + 4, none⟩ = _ := fun e => (p0 e).2.2.2.2
      have KN := hid (fun e : Later W1 => anum_any ((t.ch i).ch 0) A0 c0 eb e.x (HF.out.ext (hS1.out.2.1.trans e.h)))
      obtain ⟨e, he⟩ := Later.self W1
      rw [he]
      clear he
      by_cases hkd : ((t.ch i).ch 0).kind = 0
      case neg =>
        have KN : Hid (∀ e : Later W1, Calls Tryz.prog 49 #[itemV ((t.ch i).ch 0) A0 c0] e.x (Ret (.tuple #[.int .i64 0, .iface 118 (.agg #[str [110, 117, 109, 98, 101, 114], FormV eb])]) e.x)) := hid (fun e => by have h := KN.out e; unfold numErr at h; rw [if_neg hkd] at h; exact h)
        have HN : Hid (T.all (pairK t) k = false) := hid (all_no HLT.out (show pairK t i = false by unfold pairK; rw [decide_eq_false hkd, Bool.and_false]))
        clear hkd
        go_wp2_with (first | (go_at_call 49; refine (Ret.later (KN.out _)).mono ?_; rintro x _ ⟨rfl, e, rfl⟩))
        go_ret2
        exact .inl ⟨by rw [HKK.out]; exact HN.out, [[110, 117, 109, 98, 101, 114]], rfl, hS1.out.2.1.trans e.h⟩
      have KN : Hid (∀ e : Later W1, Calls Tryz.prog 49 #[itemV ((t.ch i).ch 0) A0 c0] e.x (Ret (.tuple #[.int .i64 (pairP t i).id, .nilIface]) e.x)) := hid (fun e => by have h := KN.out e; unfold numErr at h; rw [if_pos hkd] at h; exact h)
      have HY : Hid (pairK t i = true) := hid (by unfold pairK; rw [decide_eq_true hk2, decide_eq_true hkd]; rfl)
      clear hkd
      go_upto_region 10 with (first | (go_at_call 49; refine (Ret.later (KN.out _)).mono ?_; rintro x _ ⟨rfl, e, rfl⟩))
      clear a0 a1 a2 a3 a4
      have a0 : ∀ e : Later W1, e.x.cell? ⟨b2, o2 + 5, none⟩ = _ := fun e => (p1 e).1
      have a1 : ∀ e : Later W1, e.x.cell? ⟨b2, o2 + 5 + 1, none⟩ = _ := fun e => (p1 e).2.1
      have a2 : ∀ e : Later W1, e.x.cell? ⟨b2, o2 + 5 + 2, none⟩ = _ := fun e => (p1 e).2.2.1
      have a3 : ∀ e : Later W1, e.x.cell? ⟨b2, o2 + 5 + 3, none⟩ = _ := fun e => (p1 e).2.2.2.1
      have a4 : ∀ e : Later W1, e.x.cell? ⟨b2, o2 + 5 + 4, none⟩ = _ := fun e => (p1 e).2.2.2.2
      obtain ⟨ib, hi, hz0, hz1, hz2⟩ := info_parts infoPair
      have HSZ1 : Hid (w.heap.size ≤ W1.heap.size) := hid hS1.out.2.1.size
      have hR1 := hS1.out.2.2.1.ext (e.h.alloc (.cells #[.int .i64 (pairP t i).id, .int .i64 ((t.ch i).ch 1).kind, .int .u64 (((t.ch i).ch 1).n : Int), str ((t.ch i).ch 1).s, .slice A1 ((t.ch i).ch 1).k c1, .bool ((t.ch i).ch 1).op] 68))
      have hI5 : pairH.hang (World.alloc e.x (.cells #[.int .i64 (pairP t i).id, .int .i64 ((t.ch i).ch 1).kind, .int .u64 (((t.ch i).ch 1).n : Int), str ((t.ch i).ch 1).s, .slice A1 ((t.ch i).ch 1).k c1, .bool ((t.ch i).ch 1).op] 68)) (fun b => (Q b ∧ b < w.heap.size) ∧ offA A' b) (pairP t i) (A1, c1) := IsL.weak (fun b _ hb => ⟨hb, fun g hg => by have hb2 : b < w.heap.size := hb.2; have := (hS1.out.2.2.1.off g hg).1; omega⟩) _ (HIL1.out.ext (e.h.alloc _))
      have HR1 := hid hR1
      have HI5 := hid hI5
      clear hR1 hI5
      go_wp2_with (at_builtin; refine wpList_append_lies _ rfl _ _ 26 rfl w.heap.size 68 ib _ 6 72 Tryz.underlying26 hi hz0 hz1 hz2 rfl (by decide) _ i _ (by rfl) HR1.out.own ⟨e.x.heap.size, 0, none⟩ 1 1 [.int .i64 (pairP t i).id, .int .i64 ((t.ch i).ch 1).kind, .int .u64 (((t.ch i).ch 1).n : Int), str ((t.ch i).ch 1).s, .slice A1 ((t.ch i).ch 1).k c1, .bool ((t.ch i).ch 1).op] (by rfl) (by rfl) (fun j u hu => by rw [addr_add, Nat.zero_add, (Blk.new e.x 68 #[.int .i64 (pairP t i).id, .int .i64 ((t.ch i).ch 1).kind, .int .u64 (((t.ch i).ch 1).n : Int), str ((t.ch i).ch 1).s, .slice A1 ((t.ch i).ch 1).k c1, .bool ((t.ch i).ch 1).op]).cell j]; simpa using hu) (by intro u hu; simp at hu; rcases hu with rfl | rfl | rfl | rfl | rfl | rfl <;> rfl) (by decide) (by have := HLT.out; have := HK.out; have := HKK.out; unfold maxLen; omega) (by have := HLT.out; have := HK.out; have := HKK.out; omega) (by have := HSZ1.out; have := e.h.size; simp; omega) (e.x.heap.size + 1) (by simp) ?_; intro g' cp' w4 hown' hgr' hat' hlt'; obtain ⟨ac', hR5⟩ := HR1.out.append HI5.out rfl hown' hgr' (by simpa using hat'); have HM5 := hid (grown_obs hgr'); have HR5 := hid hR5; clear hown' hgr' hat' hlt' hR5)
      go_roundw
      case rel => exact ⟨i + 1, some ⟨g', 0, none⟩, cp', ac', by go_num, rfl, (show Hid _ from ⟨HLT.out, (((hS1.out.2.1.trans (e.h.alloc _)).of_ext (S := obs A')).trans HM5.out).new (fun k hk => .inr (by
        cases A' with
        | none => cases hk
        | some g => have := (HR1.out.off g rfl).1; simp [obs] at hk; omega)), HR5.out, by rw [T.all, hS1.out.2.2.2, HY.out]; rfl⟩)⟩
      case measure => have := HLT.out; simp [intOf]; omega
    · obtain rfl : i = k := by have := hS.out.1; omega
      have tc : decide (i < i) = false := by simp
      have td : decide (i < t.k) = false := by rw [HKK.out]; simp
      have i2 : ¬ (i : Int) < (t.k : Int) := by rw [HKK.out]; omega
      have HFIN := hid hS.out
      clear hS
      go_wp2_with fail
      go_ret2
      unfold PairsPost
      rw [HKK.out]
      exact .inr ⟨HFIN.out.2.2.2, A', c', rfl, HFIN.out.2.1, HFIN.out.2.2.1.cap, (HFIN.out.2.2.1.weak (R := fun b => (Q b ∧ b < w.heap.size) ∨ w.heap.size ≤ b) (fun _ _ h => .inl h)).ps (fun _ h => .inr h)⟩
end Go.Proofs.YtblfmokklfhklaaGreatDoor


namespace Go.Proofs.YtblfmokklfhklaaGreatDoor
open Go.RowKit
set_option linter.unusedVariables false
set_option linter.unusedSimpArgs false

theorem NsL.news {w : World} {b o k : Nat} {f : Nat → Int} (h : ∀ i, i < k → w.cell? ⟨b, o + i, none⟩ = some (.int .i64 (f i))) : ∀ j u, (flatG (numsF f) k)[j]? = some u → w.cell? ((⟨b, o, none⟩ : Addr).add j) = some u :=
  flatG_news (z := 1) (by decide) (numsF_len f) fun i hi r u hu => by
    match r, hu with
    | 0, hu =>
      simp at hu
      subst hu
      rw [Nat.mul_one, Nat.add_zero]; exact h i hi
theorem numsF_one (f : Nat → Int) (k : Nat) : ∀ u ∈ flatG (numsF f) k, u.oneCell' = true := flatG_one (z := 1) (by decide) (numsF_len f) (fun i u hu => by simp at hu; subst hu; rfl) k
def delN (f : Nat → Int) (i j : Nat) : Int := if j < i then f j else f (j + 1)
end Go.Proofs.YtblfmokklfhklaaGreatDoor


namespace Go.Proofs.YtblfmokklfhklaaGreatDoor
open Go.RowKit
set_option linter.unusedVariables false
set_option linter.unusedSimpArgs false

theorem infoPairs : (Tryz.prog.info? 26).map (fun i => (i.zero, i.size, i.bytes)) = some (some (.slice none 0 0), 1, 24) := by kernel_rfl
/-- No list is too long, and no value too great, to be copied. -/
def PL.fits (p : PL) : Prop := p.k ≤ 100000 ∧ ∀ i, i < p.k → (p.a i).t.size ≤ 100000
def AV.fits (a : AV) : Prop := a.tk ≤ 100000 ∧ a.ps.fits ∧ a.rk ≤ 100000 ∧ ∀ i, i < a.rk → (a.rs i).fits
def atT (a : AV) (t : Int) : Option Nat := firstOf (isN a.tg t) a.tk
theorem firstI_some {p : Nat → Bool} {k i : Nat} (h : firstOf p k = some i) : firstI p k = (i : Int) := by unfold firstI; rw [h]
theorem firstI_none {p : Nat → Bool} {k : Nat} (h : firstOf p k = none) : firstI p k = -1 := by unfold firstI; rw [h]
def ResPost (a : AV) (t : Int) (w : World) (e : Ending) (w' : World) : Prop :=
  Ext w w' ∧ match atT a t with
  | none => e = .returned (.tuple #[.slice none 0 0, .bool false])
  | some i => if i < a.rk then ∃ A' c', e = .returned (.tuple #[.slice A' (a.rs i).k c', .bool true]) ∧ PsL w' (fun b => w.heap.size ≤ b) A' (a.rs i) ∧ (a.rs i).k ≤ c' ∧ softA w' (fun b => w.heap.size ≤ b) A' else e = .returned (.tuple #[.slice none 0 0, .bool true])
/-- How many of the first j are left without i. -/
def cntW (i j : Nat) : Nat := if j ≤ i then j else j - 1
def woP (f : Nat → PL) (i j : Nat) : PL := if j < i then f j else f (j + 1)
/-- A text without its target at i. -/
def AV.wo (a : AV) (i : Nat) : AV := ⟨a.tk - 1, delN a.tg i, a.ctx, a.src, a.ps, cntW i a.rk, woP a.rs i⟩
def zeroA : AV := ⟨0, fun _ => 0, 0, ⟨0, [], 0, 0⟩, ⟨0, fun _ => ⟨0, T.nil⟩⟩, 0, fun _ => ⟨0, fun _ => ⟨0, T.nil⟩⟩⟩
def zeroM : AA := ⟨none, 0, none, 0, none, 0⟩
def WoPost (a : AV) (t : Int) (w : World) (e : Ending) (w' : World) : Prop :=
  Ext w w' ∧ match atT a t with
  | none => e = .returned (.tuple #[asbV zeroA zeroM, .bool false])
  | some i => ∃ m', e = .returned (.tuple #[asbV (a.wo i) m', .bool true]) ∧ AsL w' (fun b => w.heap.size ≤ b) (a.wo i) m'
end Go.Proofs.YtblfmokklfhklaaGreatDoor


namespace Go.Proofs.YtblfmokklfhklaaGreatDoor
open Go.RowKit
set_option linter.unusedVariables false
set_option linter.unusedSimpArgs false

def resK (t : T) (i : Nat) : Bool := T.all (pairK (t.ch i)) (t.ch i).k
def resP (t : T) (i : Nat) : PL := ⟨(t.ch i).k, pairP (t.ch i)⟩
def RdResPost (Q : Nat → Prop) (t : T) (eb : Addr) (w : World) (e : Ending) (w' : World) : Prop :=
  (T.all (resK t) t.k = false ∧ ∃ l, e = .returned (.tuple #[.slice none 0 0, errV eb ([114, 101, 115, 117, 108, 116, 115] :: l)]) ∧ Ext w w') ∨
  (T.all (resK t) t.k = true ∧ ∃ A' c', e = .returned (.tuple #[.slice A' t.k c', .nilIface]) ∧ Ext w w' ∧ t.k ≤ c' ∧ RsL w' (fun b => (Q b ∧ b < w.heap.size) ∨ w.heap.size ≤ b) A' t.k (resP t))
set_option maxRecDepth 20000 in
set_option maxHeartbeats 8000000 in
theorem areadR_any {Q : Nat → Prop} (t : T) (hk : t.k ≤ 1000) (hkk : ∀ i, i < t.k → (t.ch i).k ≤ 1000) (A : Option Addr) (c : Nat) (eb : Addr) (w : World) (hf : FormAt w eb) (h : IsL w Q t A) : Calls Tryz.prog 52 #[itemV t A c] w (RdResPost Q t eb w) := by
  have HK := hid hk
  have HKI := hid hkk
  have k0 : (t.k : Int) ≤ 1000 := by omega
  have HE := hid ((Mod.refl [] w).alloc (.cells (itemC t A c) 47))
  have HB := hid (Blk.new w 47 (itemC t A c))
  have HL : Hid (IsL w (fun b => Q b ∧ b < w.heap.size) t A) := hid (IsL.weak (fun b hb hq => ⟨hq, hb⟩) _ h)
  have HF := hid hf
  clear h hf hk hkk
  go_enter Tryz.func52, Tryz.ntmps52
  go_upto_region 1 with fail
  generalize w.alloc (.cells (itemC t A c) 47) = V at *
  have z3 : V.cell? ⟨w.heap.size, 3, none⟩ = some (.slice A t.k c) := HB.out.cell 3
  go_wp2_with fail
  clear z3
  have HW0 := HE
  obtain ⟨k, hkk⟩ : ∃ k, t.k = k := ⟨_, rfl⟩
  have HKK := hid hkk
  rw [hkk] at k0
  clear hkk
  go_loopw [4, 12] (fun s4 s12 wr => ∃ (i : Nat) (A' : Option Addr) (c' : Nat) (ac : Nat → Option Addr × Nat), s12 = .int .i64 (i : Int) ∧ s4 = .slice A' i c' ∧ Hid (i ≤ k ∧ Ext w wr ∧ RwG resH 26 wr (fun b => (Q b ∧ b < w.heap.size) ∨ w.heap.size ≤ b) w.heap.size A' c' i (resP t) ac ∧ T.all (resK t) i = true)) (fun _ s12 _ => k - (intOf s12).toNat)
  case atStart => exact ⟨0, none, 0, fun _ => (none, 0), by first | rfl | (rw [HKK.out]), rfl, (show Hid _ from ⟨Nat.zero_le _, HW0.out, RwG.nil, rfl⟩)⟩
  case round =>
    clear HW0
    obtain ⟨i, A', c', ac, rfl, rfl, hS⟩ := hrel
    rename World => wr
    have i0 : (0 : Int) ≤ (i : Int) := by omega
    by_cases hlt : i < k
    · obtain ⟨b, o, Ai, ci, rfl, hb, _, hat, hI⟩ := kidsA (HL.out.ext hS.out.2.1) (i := i) (by rw [HKK.out]; exact hlt)
      obtain ⟨q0, q1, q2, q3, q4⟩ := hat
      have tc : decide (i < k) = true := by simp [hlt]
      have td : decide (i < t.k) = true := by rw [HKK.out]; simp [hlt]
      have i1 : (i : Int) < (k : Int) := by omega
      have i2 : (i : Int) < (t.k : Int) := by rw [HKK.out]; omega
      have HLT := hid hlt
      have HI := hid hI
      clear hlt hI hb
      go_upto_region 5 with fail
      generalize hW1 : World.alloc wr _ = W1
      have HG1 : Hid (Blk W1 wr.heap.size 47 (itemC (t.ch i) Ai ci)) := hid (by rw [← hW1]; exact Blk.new _ _ _)
      have hS1 : Hid (i ≤ k ∧ Ext w W1 ∧ RwG resH 26 W1 (fun b => (Q b ∧ b < w.heap.size) ∨ w.heap.size ≤ b) w.heap.size A' c' i (resP t) ac ∧ T.all (resK t) i = true) := hid (by
        have h := hS.out
        rw [← hW1]; exact ⟨h.1, h.2.1.alloc _, h.2.2.1.ext ((Mod.refl [] _).alloc _), h.2.2.2⟩)
      have HI1 : Hid (IsL W1 (fun b => Q b ∧ b < w.heap.size) (t.ch i) Ai) := hid (by rw [← hW1]; exact HI.out.ext ((Mod.refl [] _).alloc _))
      clear hW1 hS q0 q1 q2 q3 q4 HI
      generalize wr.heap.size = G at *
      have HGL : Hid (∀ e : Later W1, Blk e.x G 47 (itemC (t.ch i) Ai ci)) := hid (fun e => HG1.out.later e)
      have KP := hid (areadP_any (t.ch i) (HKI.out i (by rw [HKK.out]; exact HLT.out)) Ai ci eb W1 (HF.out.ext hS1.out.2.1) HI1.out)
      have tk1 : True := trivial
      cases hall : resK t i with
      | false =>
        have hall' : T.all (pairK (t.ch i)) (t.ch i).k = false := hall
        have KE : Hid (Calls Tryz.prog 51 #[itemV (t.ch i) Ai ci] W1 (fun e w' => ∃ l, e = .returned (.tuple #[.slice none 0 0, .iface 118 (.agg #[str [112, 97, 105, 114], errV eb l])]) ∧ Ext W1 w')) := hid (KP.out.mono fun e w' h => by
          rcases h with ⟨_, l, h1, h2⟩ | ⟨h1, _⟩
          · exact ⟨l, h1, h2⟩
          · rw [hall'] at h1; exact absurd h1 (by decide))
        have HN : Hid (T.all (resK t) k = false) := hid (all_no HLT.out hall)
        clear hall hall' KP
        have HG2 : Hid (Blk W1 G 47 (itemC (t.ch i) Ai ci)) := HG1
        go_wp2_with (first | (clear tk1; refine wpList_row (by rfl) 47 _ rfl _ rfl HG2.out Tryz.underlying47 rfl (by kernel_rfl) ?_) | (go_at_call 51; refine KE.out.mono ?_; rintro x w3 ⟨l, rfl, hb⟩; have HX := hid hb; clear hb))
        go_ret2
        exact .inl ⟨by rw [HKK.out]; exact HN.out, [112, 97, 105, 114] :: l, rfl, hS1.out.2.1.trans HX.out⟩
      | true =>
        have hall' : T.all (pairK (t.ch i)) (t.ch i).k = true := hall
        have KE : Hid (Calls Tryz.prog 51 #[itemV (t.ch i) Ai ci] W1 (fun e w' => ∃ A2 c2, e = .returned (.tuple #[.slice A2 (t.ch i).k c2, .nilIface]) ∧ Ext W1 w' ∧ (t.ch i).k ≤ c2 ∧ PsL w' (fun b => ((Q b ∧ b < w.heap.size) ∧ b < W1.heap.size) ∨ W1.heap.size ≤ b) A2 (resP t i))) := hid (KP.out.mono fun e w' h => by
          rcases h with ⟨h1, _⟩ | ⟨_, A2, c2, h1, h2, h3, h4⟩
          · rw [hall'] at h1; exact absurd h1 (by decide)
          · exact ⟨A2, c2, h1, h2, h3, h4⟩)
        have HY : Hid (resK t i = true) := hid hall
        clear hall hall' KP
        have HG2 : Hid (Blk W1 G 47 (itemC (t.ch i) Ai ci)) := HG1
        obtain ⟨ib, hi, hz0, hz1, hz2⟩ := info_parts infoPairs
        have HSZ1 : Hid (w.heap.size ≤ W1.heap.size) := hid hS1.out.2.1.size
        go_upto_region 8 with (first | (clear tk1; refine wpList_row (by rfl) 47 _ rfl _ rfl HG2.out Tryz.underlying47 rfl (by kernel_rfl) ?_) | (go_at_call 51; refine KE.out.mono ?_; rintro x w3 ⟨A2, c2, rfl, hb, hc2, hps⟩; have HX := hid hb; have HC2 := hid hc2; have HPS := hid hps; clear hb hc2 hps))
        have hR1 := (hS1.out.2.2.1.ext HX.out).ext ((Mod.refl [] w3).alloc (.cells #[.slice A2 (t.ch i).k c2] 26))
        have hI5 : resH.hang (World.alloc w3 (.cells #[.slice A2 (t.ch i).k c2] 26)) (fun b => ((Q b ∧ b < w.heap.size) ∨ w.heap.size ≤ b) ∧ offA A' b) (resP t i) (A2, c2) := ⟨(HPS.out.ext ((Mod.refl [] _).alloc _)).weak (fun b _ hb => ⟨by
          rcases hb with hb | hb
          · exact .inl hb.1
          · exact .inr (by have := HSZ1.out; omega), fun g hg => by
          have h2 := hS1.out.2.2.1.off g hg
          rcases hb with hb | hb
          · have := hb.1.2; omega
          · omega⟩), HC2.out⟩
        have HR1 := hid hR1
        have HI5 := hid hI5
        have HX3 : Hid (Ext w (World.alloc w3 (.cells #[.slice A2 (t.ch i).k c2] 26))) := hid ((hS1.out.2.1.trans HX.out).alloc _)
        have HS3 : Hid (W1.heap.size ≤ w3.heap.size) := hid HX.out.size
        clear hR1 hI5
        go_wp2_with (at_builtin; refine wpList_append_lies _ rfl _ _ 27 rfl w.heap.size 26 ib _ 1 24 Tryz.underlying27 hi hz0 hz1 hz2 rfl (by decide) _ i _ (by rfl) HR1.out.own ⟨w3.heap.size, 0, none⟩ 1 1 [.slice A2 (t.ch i).k c2] (by rfl) (by rfl) (fun j u hu => by rw [addr_add, Nat.zero_add, (Blk.new w3 26 #[.slice A2 (t.ch i).k c2]).cell j]; simpa using hu) (by intro u hu; simp at hu; rcases hu with rfl; rfl) (by decide) (by have := HLT.out; have := HK.out; have := HKK.out; unfold maxLen; omega) (by have := HLT.out; have := HK.out; have := HKK.out; omega) (by have := HSZ1.out; have := HS3.out; simp; omega) (w3.heap.size + 1) (by simp) ?_; intro g' cp' w4 hown' hgr' hat' hlt'; obtain ⟨ac', hR5⟩ := HR1.out.append HI5.out rfl hown' hgr' (by simpa using hat'); have HM5 := hid (grown_obs hgr'); have HR5 := hid hR5; clear hown' hgr' hat' hlt' hR5)
        go_roundw
        case rel => exact ⟨i + 1, some ⟨g', 0, none⟩, cp', ac', by go_num, rfl, (show Hid _ from ⟨HLT.out, ((HX3.out.of_ext (S := obs A')).trans HM5.out).new (fun k hk => .inr (by
          cases A' with
          | none => cases hk
          | some g => have := (HR1.out.off g rfl).1; simp [obs] at hk; omega)), HR5.out, by rw [T.all, hS1.out.2.2.2, HY.out]; rfl⟩)⟩
        case measure => have := HLT.out; simp [intOf]; omega
    · obtain rfl : i = k := by have := hS.out.1; omega
      have tc : decide (i < i) = false := by simp
      have td : decide (i < t.k) = false := by rw [HKK.out]; simp
      have i2 : ¬ (i : Int) < (t.k : Int) := by rw [HKK.out]; omega
      have HFIN := hid hS.out
      clear hS
      go_wp2_with fail
      go_ret2
      unfold RdResPost
      rw [HKK.out]
      exact .inr ⟨HFIN.out.2.2.2, A', c', rfl, HFIN.out.2.1, HFIN.out.2.2.1.cap, HFIN.out.2.2.1.rs (fun _ h => .inr h)⟩
end Go.Proofs.YtblfmokklfhklaaGreatDoor


namespace Go.Proofs.YtblfmokklfhklaaGreatDoor
open Go.RowKit
set_option linter.unusedVariables false
set_option linter.unusedSimpArgs false

def zeroE : EV := ⟨0, [], 0, 0⟩
def noneE : EV := ⟨1, [110, 111, 110, 101], 0, 0⟩
def readE (t : T) : EV :=
  if t.kind ≠ 4 ∨ t.k ≠ 2 ∨ (t.ch 0).kind ≠ 0 then zeroE
  else if (t.ch 0).n = 2 ∧ (t.ch 1).k = 2 then ⟨2, [], ((t.ch 1).ch 0).n, ((t.ch 1).ch 1).n⟩
  else if (t.ch 0).n = 1 ∧ (t.ch 1).kind = 3 then ⟨1, (t.ch 1).s, 0, 0⟩
  else noneE

set_option maxRecDepth 20000 in
set_option maxHeartbeats 800000 in
theorem eread_1 (t : T) (A : Option Addr) (c : Nat) (h : t.kind ≠ 4) (w : World) : Calls Tryz.prog 78 #[.agg (itemC t A c)] w (Ret zeroE.v w) := by
  have HE := hid (((Mod.refl [] w).alloc (.cells (itemC t A c) 47)).alloc (.cells #[.int .i64 0, .string ⟨#[]⟩, .int .u64 0, .int .u64 0] 25))
  have n1 : (t.kind == 4) = false := by simpa using h
  have n2 : (t.kind = 4) = False := by simpa using h
  have n3 : (t.kind != 4) = true := by simpa using h
  clear h
  go_enter Tryz.func78, Tryz.ntmps78
  go_wp2_with fail
  refine bodyPost_ret (v := .agg #[.int .i64 0, str [], .int .u64 0, .int .u64 0]) (by simp [results, Tryz.results78, go_sem]) rfl (Ret.mk rfl (by first | exact (((Mod.refl _ _).alloc _).alloc _) | exact ((((Mod.refl _ _).alloc _).alloc _).alloc _)))
set_option maxRecDepth 20000 in
set_option maxHeartbeats 800000 in
theorem eread_2 (n : Nat) (s : List UInt8) (op : Bool) (k : Nat) (A : Option Addr) (c : Nat) (h : k ≠ 2) (w : World) : Calls Tryz.prog 78 #[.agg #[.int .i64 4, .int .u64 (n : Int), str s, .slice A k c, .bool op]] w (Ret zeroE.v w) := by
  have HE := hid (((Mod.refl [] w).alloc (.cells #[.int .i64 4, .int .u64 (n : Int), str s, .slice A k c, .bool op] 47)).alloc (.cells #[.int .i64 0, .string ⟨#[]⟩, .int .u64 0, .int .u64 0] 25))
  have n1 : ((k : Int) == 2) = false := by simp; omega
  have n2 : ((k : Int) = 2) = False := by simp; omega
  have n3 : ((k : Int) != 2) = true := by simp; omega
  clear h
  go_enter Tryz.func78, Tryz.ntmps78
  go_wp2_with fail
  refine bodyPost_ret (v := .agg #[.int .i64 0, str [], .int .u64 0, .int .u64 0]) (by simp [results, Tryz.results78, go_sem]) rfl (Ret.mk rfl (by first | exact (((Mod.refl _ _).alloc _).alloc _) | exact ((((Mod.refl _ _).alloc _).alloc _).alloc _)))
set_option maxRecDepth 20000 in
set_option maxHeartbeats 800000 in
theorem eread_3 (n : Nat) (s : List UInt8) (op : Bool) (ch : Nat → T) (b o c : Nat) (A0 A1 : Option Addr) (c0 c1 : Nat) (h : (ch 0).kind ≠ 0) (w : World) (hb : b < w.heap.size) (h0 : At5 w b o (ch 0) A0 c0) (h1 : At5 w b (o + 5) (ch 1) A1 c1) : Calls Tryz.prog 78 #[.agg #[.int .i64 4, .int .u64 (n : Int), str s, .slice (some ⟨b, o, none⟩) 2 c, .bool op]] w (Ret zeroE.v w) := by
  have HE := hid (((Mod.refl [] w).alloc (.cells #[.int .i64 4, .int .u64 (n : Int), str s, .slice (some ⟨b, o, none⟩) 2 c, .bool op] 47)).alloc (.cells #[.int .i64 0, .string ⟨#[]⟩, .int .u64 0, .int .u64 0] 25))
  obtain ⟨x0, x1, x2, x3, x4⟩ := h0.mod HE.out hb (by simp)
  obtain ⟨y0, y1, y2, y3, y4⟩ := h1.mod HE.out hb (by simp)
  have n1 : ((ch 0).kind == 0) = false := by simpa using h
  have n2 : ((ch 0).kind = 0) = False := by simpa using h
  have n3 : ((ch 0).kind != 0) = true := by simpa using h
  clear h h0 h1
  go_enter Tryz.func78, Tryz.ntmps78
  go_wp2_with fail
  refine bodyPost_ret (v := .agg #[.int .i64 0, str [], .int .u64 0, .int .u64 0]) (by simp [results, Tryz.results78, go_sem]) rfl (Ret.mk rfl (by first | exact (((Mod.refl _ _).alloc _).alloc _) | exact ((((Mod.refl _ _).alloc _).alloc _).alloc _)))
set_option maxRecDepth 20000 in
set_option maxHeartbeats 800000 in
theorem eread_4 (n : Nat) (s : List UInt8) (op : Bool) (ch : Nat → T) (b o c : Nat) (A0 A1 : Option Addr) (c0 c1 : Nat) (b1 o1 : Nat) (A2 A3 : Option Addr) (c2 c3 : Nat) (hk0 : (ch 0).kind = 0) (hn0 : (ch 0).n = 2) (hk1 : (ch 1).k = 2) (hA : A1 = some ⟨b1, o1, none⟩) (w : World) (hb : b < w.heap.size) (h0 : At5 w b o (ch 0) A0 c0) (h1 : At5 w b (o + 5) (ch 1) A1 c1) (hb1 : b1 < w.heap.size) (h2 : At5 w b1 o1 ((ch 1).ch 0) A2 c2) (h3 : At5 w b1 (o1 + 5) ((ch 1).ch 1) A3 c3) : Calls Tryz.prog 78 #[.agg #[.int .i64 4, .int .u64 (n : Int), str s, .slice (some ⟨b, o, none⟩) 2 c, .bool op]] w (Ret (EV.v ⟨2, [], ((ch 1).ch 0).n, ((ch 1).ch 1).n⟩) w) := by
  have HE := hid (((Mod.refl [] w).alloc (.cells #[.int .i64 4, .int .u64 (n : Int), str s, .slice (some ⟨b, o, none⟩) 2 c, .bool op] 47)).alloc (.cells #[.int .i64 0, .string ⟨#[]⟩, .int .u64 0, .int .u64 0] 25))
  obtain ⟨x0, x1, x2, x3, x4⟩ := h0.mod HE.out hb (by simp)
  obtain ⟨y0, y1, y2, y3, y4⟩ := h1.mod HE.out hb (by simp)
  obtain ⟨_, z1, _⟩ := h2.mod HE.out hb1 (by simp)
  obtain ⟨_, v1, _⟩ := h3.mod HE.out hb1 (by simp)
  rw [hk0] at x0
  rw [hn0] at x1
  subst hA
  rw [hk1] at y3
  have HE3 := hid (HE.out.alloc (.cells #[.int .i64 (ch 1).kind, .int .u64 ((ch 1).n : Int), str (ch 1).s, .slice (some ⟨b1, o1, none⟩) 2 c1, .bool (ch 1).op] 47))
  have gx1 : (((w.alloc (.cells #[.int .i64 4, .int .u64 (n : Int), str s, .slice (some ⟨b, o, none⟩) 2 c, .bool op] 47)).alloc (.cells #[.int .i64 0, .string ⟨#[]⟩, .int .u64 0, .int .u64 0] 25)).alloc (.cells #[.int .i64 (ch 1).kind, .int .u64 ((ch 1).n : Int), str (ch 1).s, .slice (some ⟨b1, o1, none⟩) 2 c1, .bool (ch 1).op] 47)).cell? ⟨b, o + 1, none⟩ = some (.int .u64 2) := by have := (h0.mod HE3.out hb (by simp)).2.1; rw [hn0] at this; exact this
  have gz : (((w.alloc (.cells #[.int .i64 4, .int .u64 (n : Int), str s, .slice (some ⟨b, o, none⟩) 2 c, .bool op] 47)).alloc (.cells #[.int .i64 0, .string ⟨#[]⟩, .int .u64 0, .int .u64 0] 25)).alloc (.cells #[.int .i64 (ch 1).kind, .int .u64 ((ch 1).n : Int), str (ch 1).s, .slice (some ⟨b1, o1, none⟩) 2 c1, .bool (ch 1).op] 47)).cell? ⟨b1, o1 + 1, none⟩ = some (.int .u64 (((ch 1).ch 0).n : Int)) := (h2.mod HE3.out hb1 (by simp)).2.1
  have gv : (((w.alloc (.cells #[.int .i64 4, .int .u64 (n : Int), str s, .slice (some ⟨b, o, none⟩) 2 c, .bool op] 47)).alloc (.cells #[.int .i64 0, .string ⟨#[]⟩, .int .u64 0, .int .u64 0] 25)).alloc (.cells #[.int .i64 (ch 1).kind, .int .u64 ((ch 1).n : Int), str (ch 1).s, .slice (some ⟨b1, o1, none⟩) 2 c1, .bool (ch 1).op] 47)).cell? ⟨b1, o1 + 5 + 1, none⟩ = some (.int .u64 (((ch 1).ch 1).n : Int)) := (h3.mod HE3.out hb1 (by simp)).2.1
  clear hk0 hn0 hk1 h0 h1 h2 h3
  go_enter Tryz.func78, Tryz.ntmps78
  go_wp2_with fail
  go_region
  all_goals go_wp2_with fail
  all_goals refine bodyPost_ret (v := EV.v ⟨2, [], ((ch 1).ch 0).n, ((ch 1).ch 1).n⟩) (by simp [results, Tryz.results78, go_sem]) rfl (Ret.mk rfl ((((Mod.refl _ _).alloc _).alloc _).alloc _).drew)
set_option maxRecDepth 20000 in
set_option maxHeartbeats 800000 in
theorem eread_5 (n : Nat) (s : List UInt8) (op : Bool) (ch : Nat → T) (b o c : Nat) (A0 A1 : Option Addr) (c0 c1 : Nat) (hk0 : (ch 0).kind = 0) (hn0 : (ch 0).n = 1) (hk1 : (ch 1).kind = 3) (w : World) (hb : b < w.heap.size) (h0 : At5 w b o (ch 0) A0 c0) (h1 : At5 w b (o + 5) (ch 1) A1 c1) : Calls Tryz.prog 78 #[.agg #[.int .i64 4, .int .u64 (n : Int), str s, .slice (some ⟨b, o, none⟩) 2 c, .bool op]] w (Ret (EV.v ⟨1, (ch 1).s, 0, 0⟩) w) := by
  have HE := hid (((Mod.refl [] w).alloc (.cells #[.int .i64 4, .int .u64 (n : Int), str s, .slice (some ⟨b, o, none⟩) 2 c, .bool op] 47)).alloc (.cells #[.int .i64 0, .string ⟨#[]⟩, .int .u64 0, .int .u64 0] 25))
  obtain ⟨x0, x1, x2, x3, x4⟩ := h0.mod HE.out hb (by simp)
  obtain ⟨y0, y1, y2, y3, y4⟩ := h1.mod HE.out hb (by simp)
  rw [hk0] at x0
  rw [hn0] at x1
  rw [hk1] at y0
  have HE3 := hid (HE.out.alloc (.cells #[.int .i64 3, .int .u64 ((ch 1).n : Int), str (ch 1).s, .slice A1 (ch 1).k c1, .bool (ch 1).op] 47))
  have gx1 : (((w.alloc (.cells #[.int .i64 4, .int .u64 (n : Int), str s, .slice (some ⟨b, o, none⟩) 2 c, .bool op] 47)).alloc (.cells #[.int .i64 0, .string ⟨#[]⟩, .int .u64 0, .int .u64 0] 25)).alloc (.cells #[.int .i64 3, .int .u64 ((ch 1).n : Int), str (ch 1).s, .slice A1 (ch 1).k c1, .bool (ch 1).op] 47)).cell? ⟨b, o + 1, none⟩ = some (.int .u64 1) := by have := (h0.mod HE3.out hb (by simp)).2.1; rw [hn0] at this; exact this
  clear hk0 hn0 hk1 h0 h1
  go_enter Tryz.func78, Tryz.ntmps78
  go_wp2_with fail
  refine bodyPost_ret (v := EV.v ⟨1, (ch 1).s, 0, 0⟩) (by simp [results, Tryz.results78, go_sem]) rfl (Ret.mk rfl (by first | exact (((Mod.refl _ _).alloc _).alloc _) | exact ((((Mod.refl _ _).alloc _).alloc _).alloc _)))
set_option maxRecDepth 20000 in
set_option maxHeartbeats 800000 in
theorem eread_6 (n : Nat) (s : List UInt8) (op : Bool) (ch : Nat → T) (b o c : Nat) (A0 A1 : Option Addr) (c0 c1 : Nat) (hk0 : (ch 0).kind = 0) (hn0 : (ch 0).n = 2) (hk1 : (ch 1).k ≠ 2) (w : World) (hb : b < w.heap.size) (h0 : At5 w b o (ch 0) A0 c0) (h1 : At5 w b (o + 5) (ch 1) A1 c1) : Calls Tryz.prog 78 #[.agg #[.int .i64 4, .int .u64 (n : Int), str s, .slice (some ⟨b, o, none⟩) 2 c, .bool op]] w (Ret noneE.v w) := by
  have HE := hid (((Mod.refl [] w).alloc (.cells #[.int .i64 4, .int .u64 (n : Int), str s, .slice (some ⟨b, o, none⟩) 2 c, .bool op] 47)).alloc (.cells #[.int .i64 0, .string ⟨#[]⟩, .int .u64 0, .int .u64 0] 25))
  obtain ⟨x0, x1, x2, x3, x4⟩ := h0.mod HE.out hb (by simp)
  obtain ⟨y0, y1, y2, y3, y4⟩ := h1.mod HE.out hb (by simp)
  rw [hk0] at x0
  rw [hn0] at x1
  have n1 : (((ch 1).k : Int) == 2) = false := by simp; omega
  have n2 : (((ch 1).k : Int) = 2) = False := by simp; omega
  have HE3 := hid (HE.out.alloc (.cells #[.int .i64 (ch 1).kind, .int .u64 ((ch 1).n : Int), str (ch 1).s, .slice A1 (ch 1).k c1, .bool (ch 1).op] 47))
  have gx1 : (((w.alloc (.cells #[.int .i64 4, .int .u64 (n : Int), str s, .slice (some ⟨b, o, none⟩) 2 c, .bool op] 47)).alloc (.cells #[.int .i64 0, .string ⟨#[]⟩, .int .u64 0, .int .u64 0] 25)).alloc (.cells #[.int .i64 (ch 1).kind, .int .u64 ((ch 1).n : Int), str (ch 1).s, .slice A1 (ch 1).k c1, .bool (ch 1).op] 47)).cell? ⟨b, o + 1, none⟩ = some (.int .u64 2) := by have := (h0.mod HE3.out hb (by simp)).2.1; rw [hn0] at this; exact this
  clear hk0 hn0 hk1 h0 h1
  have HQ := hid ((Blk.new' (w.alloc (.cells #[.int .i64 4, .int .u64 (n : Int), str s, .slice (some ⟨b, o, none⟩) 2 c, .bool op] 47)) 25 #[.int .i64 0, .string ⟨#[]⟩, .int .u64 0, .int .u64 0] (N := w.heap.size + 1) (by simp)).alloc (.cells #[.int .i64 (ch 1).kind, .int .u64 ((ch 1).n : Int), str (ch 1).s, .slice A1 (ch 1).k c1, .bool (ch 1).op] 47))
  go_enter Tryz.func78, Tryz.ntmps78
  go_wp2_with fail
  refine (eidNone_any _).mono ?_
  rintro e w1 ⟨rfl, hb1⟩
  have HE1 : Hid (Ext w w1) := HE3.out.trans hb1
  have HQ1 := hid (HQ.out.ext hb1)
  clear hb1
  obtain ⟨r0, r1, r2, r3⟩ : w1.cell? ⟨w.heap.size + 1, 0, none⟩ = some (.int .i64 0) ∧ w1.cell? ⟨w.heap.size + 1, 1, none⟩ = some (str []) ∧ w1.cell? ⟨w.heap.size + 1, 2, none⟩ = some (.int .u64 0) ∧ w1.cell? ⟨w.heap.size + 1, 3, none⟩ = some (.int .u64 0) := ⟨HQ1.out.cell 0, HQ1.out.cell 1, HQ1.out.cell 2, HQ1.out.cell 3⟩
  have f0 := Blk.frozen HQ1.out 0
  have f1 := Blk.frozen HQ1.out 1
  have f2 := Blk.frozen HQ1.out 2
  have f3 := Blk.frozen HQ1.out 3
  go_wp2_with fail
  have B4 := (((HQ1.out.set_ 0 (.int .i64 1)).set_ 1 (str [110, 111, 110, 101])).set_ 2 (.int .u64 0)).set_ 3 (.int .u64 0)
  obtain ⟨d0, d1, d2, d3⟩ := And.intro (B4.cell 0) (And.intro (B4.cell 1) (And.intro (B4.cell 2) (B4.cell 3)))
  simp only [List.setIfInBounds_toArray, List.set_cons_zero, List.set_cons_succ, List.getElem?_toArray, List.getElem?_cons_zero, List.getElem?_cons_succ] at d0 d1 d2 d3
  clear r0 r1 r2 r3 f0 f1 f2 f3
  refine bodyPost_ret (v := .agg #[.int .i64 1, str [110, 111, 110, 101], .int .u64 0, .int .u64 0]) (by simp [results, Tryz.results78, go_sem, d0, d1, d2, d3]) rfl (Ret.mk rfl ((((HE1.out.setCell (.inr (by show w.heap.size ≤ w.heap.size + 1; omega)) _).setCell (.inr (by show w.heap.size ≤ w.heap.size + 1; omega)) _).setCell (.inr (by show w.heap.size ≤ w.heap.size + 1; omega)) _).setCell (.inr (by show w.heap.size ≤ w.heap.size + 1; omega)) _))
set_option maxRecDepth 20000 in
set_option maxHeartbeats 800000 in
theorem eread_7 (n : Nat) (s : List UInt8) (op : Bool) (ch : Nat → T) (b o c : Nat) (A0 A1 : Option Addr) (c0 c1 : Nat) (hk0 : (ch 0).kind = 0) (hn0 : (ch 0).n = 1) (hk1 : (ch 1).kind ≠ 3) (w : World) (hb : b < w.heap.size) (h0 : At5 w b o (ch 0) A0 c0) (h1 : At5 w b (o + 5) (ch 1) A1 c1) : Calls Tryz.prog 78 #[.agg #[.int .i64 4, .int .u64 (n : Int), str s, .slice (some ⟨b, o, none⟩) 2 c, .bool op]] w (Ret noneE.v w) := by
  have HE := hid (((Mod.refl [] w).alloc (.cells #[.int .i64 4, .int .u64 (n : Int), str s, .slice (some ⟨b, o, none⟩) 2 c, .bool op] 47)).alloc (.cells #[.int .i64 0, .string ⟨#[]⟩, .int .u64 0, .int .u64 0] 25))
  obtain ⟨x0, x1, x2, x3, x4⟩ := h0.mod HE.out hb (by simp)
  obtain ⟨y0, y1, y2, y3, y4⟩ := h1.mod HE.out hb (by simp)
  rw [hk0] at x0
  rw [hn0] at x1
  have n1 : ((ch 1).kind == 3) = false := by simpa using hk1
  have n2 : ((ch 1).kind = 3) = False := by simpa using hk1
  have HE3 := hid (HE.out.alloc (.cells #[.int .i64 (ch 1).kind, .int .u64 ((ch 1).n : Int), str (ch 1).s, .slice A1 (ch 1).k c1, .bool (ch 1).op] 47))
  have gx1 : (((w.alloc (.cells #[.int .i64 4, .int .u64 (n : Int), str s, .slice (some ⟨b, o, none⟩) 2 c, .bool op] 47)).alloc (.cells #[.int .i64 0, .string ⟨#[]⟩, .int .u64 0, .int .u64 0] 25)).alloc (.cells #[.int .i64 (ch 1).kind, .int .u64 ((ch 1).n : Int), str (ch 1).s, .slice A1 (ch 1).k c1, .bool (ch 1).op] 47)).cell? ⟨b, o + 1, none⟩ = some (.int .u64 1) := by have := (h0.mod HE3.out hb (by simp)).2.1; rw [hn0] at this; exact this
  clear hk0 hn0 hk1 h0 h1
  have HQ := hid ((Blk.new' (w.alloc (.cells #[.int .i64 4, .int .u64 (n : Int), str s, .slice (some ⟨b, o, none⟩) 2 c, .bool op] 47)) 25 #[.int .i64 0, .string ⟨#[]⟩, .int .u64 0, .int .u64 0] (N := w.heap.size + 1) (by simp)).alloc (.cells #[.int .i64 (ch 1).kind, .int .u64 ((ch 1).n : Int), str (ch 1).s, .slice A1 (ch 1).k c1, .bool (ch 1).op] 47))
  go_enter Tryz.func78, Tryz.ntmps78
  go_wp2_with fail
  refine (eidNone_any _).mono ?_
  rintro e w1 ⟨rfl, hb1⟩
  have HE1 : Hid (Ext w w1) := HE3.out.trans hb1
  have HQ1 := hid (HQ.out.ext hb1)
  clear hb1
  obtain ⟨r0, r1, r2, r3⟩ : w1.cell? ⟨w.heap.size + 1, 0, none⟩ = some (.int .i64 0) ∧ w1.cell? ⟨w.heap.size + 1, 1, none⟩ = some (str []) ∧ w1.cell? ⟨w.heap.size + 1, 2, none⟩ = some (.int .u64 0) ∧ w1.cell? ⟨w.heap.size + 1, 3, none⟩ = some (.int .u64 0) := ⟨HQ1.out.cell 0, HQ1.out.cell 1, HQ1.out.cell 2, HQ1.out.cell 3⟩
  have f0 := Blk.frozen HQ1.out 0
  have f1 := Blk.frozen HQ1.out 1
  have f2 := Blk.frozen HQ1.out 2
  have f3 := Blk.frozen HQ1.out 3
  go_wp2_with fail
  have B4 := (((HQ1.out.set_ 0 (.int .i64 1)).set_ 1 (str [110, 111, 110, 101])).set_ 2 (.int .u64 0)).set_ 3 (.int .u64 0)
  obtain ⟨d0, d1, d2, d3⟩ := And.intro (B4.cell 0) (And.intro (B4.cell 1) (And.intro (B4.cell 2) (B4.cell 3)))
  simp only [List.setIfInBounds_toArray, List.set_cons_zero, List.set_cons_succ, List.getElem?_toArray, List.getElem?_cons_zero, List.getElem?_cons_succ] at d0 d1 d2 d3
  clear r0 r1 r2 r3 f0 f1 f2 f3
  refine bodyPost_ret (v := .agg #[.int .i64 1, str [110, 111, 110, 101], .int .u64 0, .int .u64 0]) (by simp [results, Tryz.results78, go_sem, d0, d1, d2, d3]) rfl (Ret.mk rfl ((((HE1.out.setCell (.inr (by show w.heap.size ≤ w.heap.size + 1; omega)) _).setCell (.inr (by show w.heap.size ≤ w.heap.size + 1; omega)) _).setCell (.inr (by show w.heap.size ≤ w.heap.size + 1; omega)) _).setCell (.inr (by show w.heap.size ≤ w.heap.size + 1; omega)) _))
set_option maxRecDepth 20000 in
set_option maxHeartbeats 800000 in
theorem eread_8 (n : Nat) (s : List UInt8) (op : Bool) (ch : Nat → T) (b o c : Nat) (A0 A1 : Option Addr) (c0 c1 : Nat) (hk0 : (ch 0).kind = 0) (hn0 : (ch 0).n ≠ 1) (hn2 : (ch 0).n ≠ 2) (w : World) (hb : b < w.heap.size) (h0 : At5 w b o (ch 0) A0 c0) (h1 : At5 w b (o + 5) (ch 1) A1 c1) : Calls Tryz.prog 78 #[.agg #[.int .i64 4, .int .u64 (n : Int), str s, .slice (some ⟨b, o, none⟩) 2 c, .bool op]] w (Ret noneE.v w) := by
  have HE := hid (((Mod.refl [] w).alloc (.cells #[.int .i64 4, .int .u64 (n : Int), str s, .slice (some ⟨b, o, none⟩) 2 c, .bool op] 47)).alloc (.cells #[.int .i64 0, .string ⟨#[]⟩, .int .u64 0, .int .u64 0] 25))
  obtain ⟨x0, x1, x2, x3, x4⟩ := h0.mod HE.out hb (by simp)
  obtain ⟨y0, y1, y2, y3, y4⟩ := h1.mod HE.out hb (by simp)
  rw [hk0] at x0
  have n1 : (((ch 0).n : Int) == 1) = false := by simp; omega
  have n2 : (((ch 0).n : Int) = 1) = False := by simp; omega
  have n3 : (((ch 0).n : Int) == 2) = false := by simp; omega
  have n4 : (((ch 0).n : Int) = 2) = False := by simp; omega
  have HE3 := hid (HE.out.alloc (.cells #[.int .i64 (ch 1).kind, .int .u64 ((ch 1).n : Int), str (ch 1).s, .slice A1 (ch 1).k c1, .bool (ch 1).op] 47))
  have gx1 : (((w.alloc (.cells #[.int .i64 4, .int .u64 (n : Int), str s, .slice (some ⟨b, o, none⟩) 2 c, .bool op] 47)).alloc (.cells #[.int .i64 0, .string ⟨#[]⟩, .int .u64 0, .int .u64 0] 25)).alloc (.cells #[.int .i64 (ch 1).kind, .int .u64 ((ch 1).n : Int), str (ch 1).s, .slice A1 (ch 1).k c1, .bool (ch 1).op] 47)).cell? ⟨b, o + 1, none⟩ = some (.int .u64 ((ch 0).n : Int)) := by have := (h0.mod HE3.out hb (by simp)).2.1; exact this
  clear hk0 hn0 hn2 h0 h1
  have HQ := hid ((Blk.new' (w.alloc (.cells #[.int .i64 4, .int .u64 (n : Int), str s, .slice (some ⟨b, o, none⟩) 2 c, .bool op] 47)) 25 #[.int .i64 0, .string ⟨#[]⟩, .int .u64 0, .int .u64 0] (N := w.heap.size + 1) (by simp)).alloc (.cells #[.int .i64 (ch 1).kind, .int .u64 ((ch 1).n : Int), str (ch 1).s, .slice A1 (ch 1).k c1, .bool (ch 1).op] 47))
  go_enter Tryz.func78, Tryz.ntmps78
  go_wp2_with fail
  refine (eidNone_any _).mono ?_
  rintro e w1 ⟨rfl, hb1⟩
  have HE1 : Hid (Ext w w1) := HE3.out.trans hb1
  have HQ1 := hid (HQ.out.ext hb1)
  clear hb1
  obtain ⟨r0, r1, r2, r3⟩ : w1.cell? ⟨w.heap.size + 1, 0, none⟩ = some (.int .i64 0) ∧ w1.cell? ⟨w.heap.size + 1, 1, none⟩ = some (str []) ∧ w1.cell? ⟨w.heap.size + 1, 2, none⟩ = some (.int .u64 0) ∧ w1.cell? ⟨w.heap.size + 1, 3, none⟩ = some (.int .u64 0) := ⟨HQ1.out.cell 0, HQ1.out.cell 1, HQ1.out.cell 2, HQ1.out.cell 3⟩
  have f0 := Blk.frozen HQ1.out 0
  have f1 := Blk.frozen HQ1.out 1
  have f2 := Blk.frozen HQ1.out 2
  have f3 := Blk.frozen HQ1.out 3
  go_wp2_with fail
  have B4 := (((HQ1.out.set_ 0 (.int .i64 1)).set_ 1 (str [110, 111, 110, 101])).set_ 2 (.int .u64 0)).set_ 3 (.int .u64 0)
  obtain ⟨d0, d1, d2, d3⟩ := And.intro (B4.cell 0) (And.intro (B4.cell 1) (And.intro (B4.cell 2) (B4.cell 3)))
  simp only [List.setIfInBounds_toArray, List.set_cons_zero, List.set_cons_succ, List.getElem?_toArray, List.getElem?_cons_zero, List.getElem?_cons_succ] at d0 d1 d2 d3
  clear r0 r1 r2 r3 f0 f1 f2 f3
  refine bodyPost_ret (v := .agg #[.int .i64 1, str [110, 111, 110, 101], .int .u64 0, .int .u64 0]) (by simp [results, Tryz.results78, go_sem, d0, d1, d2, d3]) rfl (Ret.mk rfl ((((HE1.out.setCell (.inr (by show w.heap.size ≤ w.heap.size + 1; omega)) _).setCell (.inr (by show w.heap.size ≤ w.heap.size + 1; omega)) _).setCell (.inr (by show w.heap.size ≤ w.heap.size + 1; omega)) _).setCell (.inr (by show w.heap.size ≤ w.heap.size + 1; omega)) _))
theorem eread_any (t : T) (ht : t ≠ T.nil) (A : Option Addr) (c : Nat) (w : World) (h : IsL w (fun _ => True) t A) : Calls Tryz.prog 78 #[itemV t A c] w (Ret (readE t).v w) := by
  by_cases h4 : t.kind = 4
  case neg =>
    have e : readE t = zeroE := by unfold readE; rw [if_pos (Or.inl h4)]
    rw [e]; exact eread_1 t A c h4 w
  obtain ⟨kind, n, s, op, k, ch, rfl⟩ : ∃ kind n s op k ch, t = T.mk kind n s op k ch := by cases t with | nil => exact absurd rfl ht | mk a b d e f g => exact ⟨a, b, d, e, f, g, rfl⟩
  have h4 : kind = 4 := h4
  subst h4
  by_cases hk : k = 2
  case neg =>
    have e : readE (T.mk 4 n s op k ch) = zeroE := by unfold readE; rw [if_pos (Or.inr (Or.inl (show (T.mk 4 n s op k ch).k ≠ 2 from hk)))]
    rw [e]; exact eread_2 n s op k A c hk w
  subst hk
  obtain ⟨b, o, ac, rfl, hb, _, hc⟩ := h.rows (by omega)
  obtain ⟨a0, i0⟩ := hc 0 (by omega)
  obtain ⟨a1, i1⟩ := hc 1 (by omega)
  have a0 : At5 w b o (ch 0) (ac 0).1 (ac 0).2 := by simpa using a0
  have a1 : At5 w b (o + 5) (ch 1) (ac 1).1 (ac 1).2 := by simpa using a1
  by_cases hk0 : (ch 0).kind = 0
  case neg =>
    have e : readE (T.mk 4 n s op 2 ch) = zeroE := by unfold readE; rw [if_pos (Or.inr (Or.inr (show ((T.mk 4 n s op 2 ch).ch 0).kind ≠ 0 from hk0)))]
    rw [e]; exact eread_3 n s op ch b o c _ _ _ _ hk0 w hb a0 a1
  have hz : ¬ ((T.mk 4 n s op 2 ch).kind ≠ 4 ∨ (T.mk 4 n s op 2 ch).k ≠ 2 ∨ ((T.mk 4 n s op 2 ch).ch 0).kind ≠ 0) := by
    rintro (h | h | h)
    · exact h rfl
    · exact h rfl
    · exact h hk0
  by_cases hn2 : (ch 0).n = 2
  · by_cases hk1 : (ch 1).k = 2
    · have e : readE (T.mk 4 n s op 2 ch) = ⟨2, [], ((ch 1).ch 0).n, ((ch 1).ch 1).n⟩ := by unfold readE; rw [if_neg hz, if_pos ⟨hn2, hk1⟩]; rfl
      rw [e]
      cases hc1 : ch 1 with
      | nil => rw [hc1] at hk1; cases hk1
      | mk k1 n1 s1 op1 kk ch1 =>
        rw [hc1] at i1 hk1
        have hkk : kk = 2 := hk1
        subst hkk
        obtain ⟨b1, o1, ac1, hA, hb1, _, hcc⟩ := i1.rows (by omega)
        obtain ⟨q0, _⟩ := hcc 0 (by omega)
        obtain ⟨q1, _⟩ := hcc 1 (by omega)
        have q0 : At5 w b1 o1 (ch1 0) (ac1 0).1 (ac1 0).2 := by simpa using q0
        have q1 : At5 w b1 (o1 + 5) (ch1 1) (ac1 1).1 (ac1 1).2 := by simpa using q1
        have h := eread_4 n s op ch b o c _ _ _ _ b1 o1 _ _ _ _ hk0 hn2 (by rw [hc1]; rfl) hA w hb a0 a1 hb1 (by rw [hc1]; exact q0) (by rw [hc1]; exact q1)
        rw [hc1] at h
        exact h
    · have e : readE (T.mk 4 n s op 2 ch) = noneE := by unfold readE; rw [if_neg hz, if_neg (fun h => hk1 h.2), if_neg (fun h => by have : (ch 0).n = 1 := h.1; omega)]
      rw [e]; exact eread_6 n s op ch b o c _ _ _ _ hk0 hn2 hk1 w hb a0 a1
  · by_cases hn1 : (ch 0).n = 1
    · by_cases hk1 : (ch 1).kind = 3
      · have e : readE (T.mk 4 n s op 2 ch) = ⟨1, (ch 1).s, 0, 0⟩ := by unfold readE; rw [if_neg hz, if_neg (fun h => hn2 h.1), if_pos ⟨hn1, hk1⟩]; rfl
        rw [e]; exact eread_5 n s op ch b o c _ _ _ _ hk0 hn1 hk1 w hb a0 a1
      · have e : readE (T.mk 4 n s op 2 ch) = noneE := by unfold readE; rw [if_neg hz, if_neg (fun h => hn2 h.1), if_neg (fun h => hk1 h.2)]
        rw [e]; exact eread_7 n s op ch b o c _ _ _ _ hk0 hn1 hk1 w hb a0 a1
    · have e : readE (T.mk 4 n s op 2 ch) = noneE := by unfold readE; rw [if_neg hz, if_neg (fun h => hn2 h.1), if_neg (fun h => hn1 h.1)]
      rw [e]; exact eread_8 n s op ch b o c _ _ _ _ hk0 hn1 hn2 w hb a0 a1
end Go.Proofs.YtblfmokklfhklaaGreatDoor


namespace Go.Proofs.YtblfmokklfhklaaGreatDoor
open Go.RowKit
set_option linter.unusedVariables false
set_option linter.unusedSimpArgs false

set_option maxRecDepth 20000 in
set_option maxHeartbeats 3200000 in
theorem same_any (a : T) : ∀ b : T, a.ok → b.ok → ∀ A c B d w, IsL w (fun _ => True) a A → IsL w (fun _ => True) b B →
    Calls Tryz.prog 96 #[itemV a A c, itemV b B d] w (Ret (.bool (a.same b)) w) := by
  induction a with
  | nil => intro b hok; cases hok
  | mk kind n s op k ch ih =>
    intro b
    rcases b with _ | ⟨kind', n', s', op', k', ch'⟩
    · intro _ hok; cases hok
    intro hok hok' A c B d w h h'
    have H := hid h; have HO := hid hok
    have H' := hid h'; have HO' := hid hok'
    have HI := hid ih
    have hk : Hid (k < 4611686018427387904) := by unfold T.ok at hok; exact hok.2.2.2.1
    have HR : Hid ((T.mk kind n s op k ch).same (T.mk kind' n' s' op' k' ch') = (kind == kind' && n == n' && s == s' && op == op' && k == k' && T.all (fun i => (ch i).same (ch' i)) k)) := rfl
    show Calls Tryz.prog 96 #[.agg #[.int .i64 kind, .int .u64 (n : Int), str s, .slice A k c, .bool op], .agg #[.int .i64 kind', .int .u64 (n' : Int), str s', .slice B k' d, .bool op']] w (Ret (.bool ((T.mk kind n s op k ch).same (T.mk kind' n' s' op' k' ch'))) w)
    rw [HR.out]
    have HBa : Hid (Blk ((w.alloc (.cells #[.int .i64 kind, .int .u64 (n : Int), str s, .slice A k c, .bool op] 47)).alloc (.cells #[.int .i64 kind', .int .u64 (n' : Int), str s', .slice B k' d, .bool op'] 47)) w.heap.size 47 #[.int .i64 kind, .int .u64 (n : Int), str s, .slice A k c, .bool op]) := (Blk.new _ _ _).alloc _
    have HBb : Hid (Blk ((w.alloc (.cells #[.int .i64 kind, .int .u64 (n : Int), str s, .slice A k c, .bool op] 47)).alloc (.cells #[.int .i64 kind', .int .u64 (n' : Int), str s', .slice B k' d, .bool op'] 47)) (w.heap.size + 1) 47 #[.int .i64 kind', .int .u64 (n' : Int), str s', .slice B k' d, .bool op']) := by
      exact Blk.new' _ _ _ (by simp)
    have HE0 := hid (((Mod.refl [] w).alloc (.cells #[.int .i64 kind, .int .u64 (n : Int), str s, .slice A k c, .bool op] 47)).alloc (.cells #[.int .i64 kind', .int .u64 (n' : Int), str s', .slice B k' d, .bool op'] 47))
    clear h hok h' hok' ih HR
    go_enter Tryz.func96, Tryz.ntmps96
    by_cases e1 : kind = kind'
    · subst e1
      by_cases e2 : n = n'
      · subst e2
        by_cases e3 : s = s'
        · subst e3
          by_cases e4 : op = op'
          · subst e4
            by_cases e5 : k = k'
            · subst e5
              have tk : ((k : Int) == (k : Int)) = true := by simp
              have HA := hid (fun (wr : World) (hX : Ext ((w.alloc (.cells #[.int .i64 kind, .int .u64 (n : Int), str s, .slice A k c, .bool op] 47)).alloc (.cells #[.int .i64 kind, .int .u64 (n : Int), str s, .slice B k d, .bool op] 47)) wr) => (show wr.cell? ⟨w.heap.size, 3, none⟩ = some (.slice A k c) ∧ wr.cell? ⟨w.heap.size + 1, 3, none⟩ = some (.slice B k d) from ⟨(HBa.out.ext hX).cell 3, (HBb.out.ext hX).cell 3⟩))
              have HEB := hid (Mod.refl [] ((w.alloc (.cells #[.int .i64 kind, .int .u64 (n : Int), str s, .slice A k c, .bool op] 47)).alloc (.cells #[.int .i64 kind, .int .u64 (n : Int), str s, .slice B k d, .bool op] 47)))
              go_wp2_with fail
              go_loopw [44] (fun s44 wr => ∃ i : Nat, i ≤ k ∧ s44 = .int .i64 (i : Int) ∧ Hid (Ext ((w.alloc (.cells #[.int .i64 kind, .int .u64 (n : Int), str s, .slice A k c, .bool op] 47)).alloc (.cells #[.int .i64 kind, .int .u64 (n : Int), str s, .slice B k d, .bool op] 47)) wr ∧ T.all (fun i => (ch i).same (ch' i)) i = true)) (fun i _ => k - (intOf i).toNat)
              case atStart => exact ⟨0, Nat.zero_le _, rfl, HEB.out, rfl⟩
              case round =>
                obtain ⟨i, hi, rfl, hX⟩ := hrel
                have HEW := hid (HE0.out.trans hX.out.1)
                have i0 : (0 : Int) ≤ (i : Int) := by omega
                by_cases hlt : i < k
                · obtain ⟨y0, y1⟩ := HA.out wr hX.out.1
                  obtain ⟨b, o, Ai, ci, rfl, hb, ⟨k0, k1, k2, k3, k4⟩, hL⟩ := H.out.cells HEW.out hlt
                  obtain ⟨b', o', Ai', ci', rfl, hb', ⟨l0, l1, l2, l3, l4⟩, hL'⟩ := H'.out.cells HEW.out hlt
                  have i1 : (i : Int) < (k : Int) := by omega
                  have ti : decide (i < k) = true := by simp [hlt]
                  have HL := hid hL; have HL' := hid hL'; have HLT := hid hlt
                  have HOi : Hid (ch i).ok := by have := HO.out; unfold T.ok at this; exact this.2.2.2.2 i hlt
                  have HOi' : Hid (ch' i).ok := by have := HO'.out; unfold T.ok at this; exact this.2.2.2.2 i hlt
                  have hb0 : b < wr.heap.size := Nat.lt_of_lt_of_le hb HEW.out.size
                  have hb0' : b' < wr.heap.size := Nat.lt_of_lt_of_le hb' HEW.out.size
                  have HL5 : Hid (∀ W, Ext wr W → W.cell? ⟨b, o + i * 5 + 3, none⟩ = some (.slice Ai (ch i).k ci)) := fun W hW => (hW.cell hb0 (by simp)).trans k3
                  have HL5' : Hid (∀ W, Ext wr W → W.cell? ⟨b', o' + i * 5 + 3, none⟩ = some (.slice Ai' (ch' i).k ci')) := fun W hW => (hW.cell hb0' (by simp)).trans l3
                  clear hb hb' hb0 hb0'
                  have HC := hid (fun W hW => HI.out i (ch' i) HOi.out HOi'.out Ai ci Ai' ci' W (HL.out.ext hW) (HL'.out.ext hW))
                  have HS : Hid (∀ W, Ext wr W → W.cell? ⟨w.heap.size, 3, none⟩ = some (.slice (some ⟨b, o, none⟩) k c) ∧ W.cell? ⟨w.heap.size + 1, 3, none⟩ = some (.slice (some ⟨b', o', none⟩) k d) ∧ W.cell? ⟨b, o + i * 5, none⟩ = some (.int .i64 (ch i).kind) ∧ W.cell? ⟨b, o + i * 5 + 1, none⟩ = some (.int .u64 ((ch i).n : Int)) ∧ W.cell? ⟨b, o + i * 5 + 2, none⟩ = some (str (ch i).s) ∧ W.cell? ⟨b, o + i * 5 + 3, none⟩ = some (.slice Ai (ch i).k ci) ∧ W.cell? ⟨b, o + i * 5 + 4, none⟩ = some (.bool (ch i).op) ∧ W.cell? ⟨b', o' + i * 5, none⟩ = some (.int .i64 (ch' i).kind) ∧ W.cell? ⟨b', o' + i * 5 + 1, none⟩ = some (.int .u64 ((ch' i).n : Int)) ∧ W.cell? ⟨b', o' + i * 5 + 2, none⟩ = some (str (ch' i).s) ∧ W.cell? ⟨b', o' + i * 5 + 3, none⟩ = some (.slice Ai' (ch' i).k ci') ∧ W.cell? ⟨b', o' + i * 5 + 4, none⟩ = some (.bool (ch' i).op)) := fun W hW => by
                    obtain ⟨z0, z1⟩ := HA.out W (hX.out.1.trans hW)
                    obtain ⟨e1, e2, Ai2, ci2, e3, _, ⟨p0, p1, p2, p3, p4⟩, _⟩ := H.out.cells (HEW.out.trans hW) hlt
                    obtain ⟨e1', e2', Ai2', ci2', e3', _, ⟨q0, q1, q2, q3, q4⟩, _⟩ := H'.out.cells (HEW.out.trans hW) hlt
                    simp only [Option.some.injEq, Addr.mk.injEq, and_true] at e3 e3'
                    obtain ⟨rfl, rfl⟩ := e3
                    obtain ⟨rfl, rfl⟩ := e3'
                    have g3 := HL5.out W hW; have g3' := HL5'.out W hW
                    rw [p3] at g3; rw [q3] at g3'
                    exact ⟨z0, z1, p0, p1, p2, p3.trans g3, p4, q0, q1, q2, q3.trans g3', q4⟩
                  clear hL hL' hlt
                  have hk2 : (k : Int) < 4611686018427387904 := by have := hk.out; omega
                  go_upto_region 6 with fail
                  go_region_held3 (fun w' => w'.cell? ⟨w.heap.size, 3, none⟩ = some (.slice (some ⟨b, o, none⟩) k c) ∧ w'.cell? ⟨w.heap.size + 1, 3, none⟩ = some (.slice (some ⟨b', o', none⟩) k d) ∧ w'.cell? ⟨b, o + i * 5, none⟩ = some (.int .i64 (ch i).kind) ∧ w'.cell? ⟨b, o + i * 5 + 1, none⟩ = some (.int .u64 ((ch i).n : Int)) ∧ w'.cell? ⟨b, o + i * 5 + 2, none⟩ = some (str (ch i).s) ∧ w'.cell? ⟨b, o + i * 5 + 3, none⟩ = some (.slice Ai (ch i).k ci) ∧ w'.cell? ⟨b, o + i * 5 + 4, none⟩ = some (.bool (ch i).op) ∧ w'.cell? ⟨b', o' + i * 5, none⟩ = some (.int .i64 (ch' i).kind) ∧ w'.cell? ⟨b', o' + i * 5 + 1, none⟩ = some (.int .u64 ((ch' i).n : Int)) ∧ w'.cell? ⟨b', o' + i * 5 + 2, none⟩ = some (str (ch' i).s) ∧ w'.cell? ⟨b', o' + i * 5 + 3, none⟩ = some (.slice Ai' (ch' i).k ci') ∧ w'.cell? ⟨b', o' + i * 5 + 4, none⟩ = some (.bool (ch' i).op)) (exact HS.out _ (by (repeat (first | with_reducible assumption | with_reducible exact Mod.refl _ _ | with_reducible refine Mod.drew ?_))))
                    ((go_at_call 96; refine (HC.out _ ?_).mono ?_; (repeat (first | with_reducible assumption | with_reducible exact Mod.refl _ _ | with_reducible refine Mod.drew ?_)); rintro e w3 ⟨rfl, hb3⟩; have hx3 : Ext wr w3 := (by with_reducible refine Mod.trans ?_ hb3; (repeat (first | with_reducible assumption | with_reducible exact Mod.refl _ _ | with_reducible refine Mod.drew ?_)))))
                  have HE3 := hid (hX.out.1.trans hx3)
                  have HE4 := hid (HEW.out.trans hx3)
                  have HW1 : Hid (wrap64 ((i : Int) + 1) = (i : Int) + 1) := IntWalk.wrap64_in _ (by omega)
                  clear hb3 hk2
                  cases hpl : (ch i).same (ch' i)
                  · have hno : T.all (fun i => (ch i).same (ch' i)) k = false := by
                      have hlt := HLT.out
                      cases hh : T.all (fun i => (ch i).same (ch' i)) k with
                      | false => rfl
                      | true => have := T.all_iff.1 hh i hlt; rw [hpl] at this; cases this
                    have HNO := hid hno
                    clear hno hpl
                    go_wp2_with fail
                    go_ret
                    exact Ret.mk (by rw [HNO.out]; simp) HE4.out
                  · have HPL := hid hpl
                    clear hpl
                    go_wp2_with fail
                    have hlt := HLT.out
                    have G1 : Value.int .i64 (wrap64 ((i : Int) + 1)) = .int .i64 ((i + 1 : Nat) : Int) := by rw [HW1.out]; simp
                    have G2 : T.all (fun i => (ch i).same (ch' i)) (i + 1) = true := by rw [T.all, hX.out.2, HPL.out]; rfl
                    have G3 : k - (intOf (Value.int .i64 (wrap64 ((i : Int) + 1)))).toNat < k - (intOf (.int .i64 (i : Int))).toNat := by rw [G1]; simp only [intOf]; omega
                    refine ⟨⟨i + 1, by omega, G1, (show Hid _ from ⟨HE3.out, G2⟩)⟩, G3⟩
                · obtain rfl : i = k := by omega
                  have ti : decide (i < i) = false := by simp
                  go_wp2_with fail
                  go_ret
                  exact Ret.mk (by rw [hX.out.2]; simp) HEW.out
            · have f5 : (k = k') = False := by simp [e5]
              have f5' : ((k : Int) == (k' : Int)) = false := by simp; omega
              cases op
              · go_wp2_with fail
                go_ret
                exact Ret.mk (by simp [e5]) HE0.out
              · go_wp2_with fail
                go_ret
                exact Ret.mk (by simp [e5]) HE0.out
          · have f4 : (op == op') = false := by simp [e4]
            have f4' : (op = op') = False := by simp [e4]
            go_wp2_with fail
            go_ret
            exact Ret.mk (by simp) HE0.out
        · have f3 : (s == s') = false := by simp [e3]
          have f3' : (s = s') = False := by simp [e3]
          go_wp2_with fail
          go_ret
          exact Ret.mk (by simp) HE0.out
      · have f2 : ((n : Int) == (n' : Int)) = false := by simp; omega
        have f2' : (n = n') = False := by simp [e2]
        go_wp2_with fail
        go_ret
        exact Ret.mk (by simp [e2]) HE0.out
    · have f1 : (kind == kind') = false := by simp [e1]
      have f1' : (kind = kind') = False := by simp [e1]
      go_wp2_with fail
      go_ret
      exact Ret.mk (by simp) HE0.out
end Go.Proofs.YtblfmokklfhklaaGreatDoor


namespace Go.Proofs.YtblfmokklfhklaaGreatDoor
open Go.ChangeShapes Go.WideShapes Go.ChangeAt Go.RowKit Go.Deep
set_option linter.unusedVariables false
set_option linter.unusedSimpArgs false

section
variable {H : Type} {enc : TypeId × Value → H} {w : World} {base b0 : Nat} {spare : Nat → Bool} {held : Bool} {r : Reach}
/-- A field of one cell, read alone. -/
theorem field_at {P : Program} {fs : Array Field} {cs : List Value} {ys : List (DataW H × List MemPlace)} {n : Nat} (hone : oneCellFields P fs = true)
    (hfl : ∀ (i : Nat) (f : Field), fs[i]? = some f → DataW.trod enc P w base spare held n f.type ((cs.drop f.offset).take (P.cellsOf f.type)) = ys[i]?)
    {i : Nat} {f : Field} (h : fs[i]? = some f) {c : Value} (hc : cs[i]? = some c) : DataW.trod enc P w base spare held n f.type [c] = ys[i]? := by
  obtain ⟨ho, hk⟩ := hone_of hone i f h
  have := hfl i f h
  rw [ho, hk] at this
  obtain ⟨hlt, hv⟩ := List.getElem?_eq_some_iff.1 hc
  rw [List.drop_eq_getElem_cons hlt, hv] at this
  exact this

theorem weights_mem_all {P : Program} {e : TypeId} {d : DataW H} {n : Nat} (hn : n ∈ d.weights P e) : ∀ {l : List (DataW H)}, d ∈ l → n ∈ DataW.weightsAll P e l
  | x :: r, h => by
    simp only [DataW.weightsAll, List.mem_append]
    rcases List.mem_cons.1 h with rfl | h
    · exact .inl hn
    · exact .inr (weights_mem_all hn h)

set_option maxRecDepth 100000 in
theorem trod_item : ∀ (fuel : Nat) (cs : List Value) (x : DataW H × List MemPlace), DataW.trod enc Tryz.prog w base spare held fuel 47 cs = some x → (∀ n ∈ x.1.weights Tryz.prog 47, n ≤ reachBytes) →
    ∃ (t : T) (A : Option Addr) (c : Nat), cs = [.int .i64 t.kind, .int .u64 (t.n : Int), str t.s, .slice A t.k c, .bool t.op] ∧ t.ok ∧ IsL w (fun _ => True) t A := by
  intro fuel
  induction fuel using Nat.strongRecOn with
  | ind fuel ih =>
    intro cs x h hz
    obtain ⟨ys, n', hn', hy, hlen, hyl, hfl⟩ := DataW.trod_struct Tryz.underlying47 h
    subst hn' hy
    have hz' : ∀ n ∈ DataW.weightsEach Tryz.prog [3, 23, 9, 45, 4] (ys.map (·.1)), n ≤ reachBytes := by
      intro n hn
      apply hz
      simp only [DataW.weights, Tryz.underlying47]
      exact hn
    clear hz
    have hR : reachBytes < 140737488355328 := by decide
    match cs, hlen with
    | [c0, c1, c2, c3, c4], _ =>
      have h0 := field_at (by kernel_rfl) hfl (i := 0) rfl rfl
      have h1 := field_at (by kernel_rfl) hfl (i := 1) rfl rfl
      have h2 := field_at (by kernel_rfl) hfl (i := 2) rfl rfl
      have h3 := field_at (by kernel_rfl) hfl (i := 3) rfl rfl
      have h4 := field_at (by kernel_rfl) hfl (i := 4) rfl rfl
      clear hfl h
      match ys, hyl with
      | [y0, y1, y2, y3, y4], _ =>
        obtain ⟨kd, hk, _, hkw⟩ := DataW.trod_int (k := .i64) (by kernel_rfl) h0
        obtain ⟨nn, hnn, _, hnw⟩ := DataW.trod_int (k := .u64) (by kernel_rfl) h1
        obtain ⟨s, hs, hsd, hsw⟩ := DataW.trod_string (by kernel_rfl) h2
        obtain ⟨op, hop, _⟩ := DataW.trod_bool (by kernel_rfl) h4
        have e0 : c0 = .int .i64 kd := by
          have : [c0] = [Value.int .i64 kd] := hk
          simpa using this
        have e1 : c1 = .int .u64 nn := by
          have : [c1] = [Value.int .u64 nn] := hnn
          simpa using this
        have e2 : c2 = .string s := by
          have : [c2] = [Value.string s] := hs
          simpa using this
        have e4 : c4 = .bool op := by
          have : [c4] = [Value.bool op] := hop
          simpa using this
        subst e0 e1 e2 e4
        have bk : -9223372036854775808 ≤ kd ∧ kd ≤ 9223372036854775807 := by simpa [Lit.wf, IntKind.min, IntKind.max, IntKind.signed, IntKind.bits] using hkw
        have bn : 0 ≤ nn ∧ nn ≤ 18446744073709551615 := by simpa [Lit.wf, IntKind.min, IntKind.max, IntKind.signed, IntKind.bits] using hnw
        have bs : s.data.toList.length < 4611686018427387904 := by
          have := hz' s.data.toList.length (DataW.weights_mem_each (j := 2) rfl (show _ = some (DataW.lit (.string s.data.toList)) by simp only [List.map, List.getElem?_cons_succ, List.getElem?_cons_zero]; rw [hsd]) _ (by simp [DataW.weights]))
          omega
        obtain ⟨nm, rfl⟩ := Int.eq_ofNat_of_zero_le bn.1
        rcases DataW.trod_slice (e := 47) (by kernel_rfl) h3 with ⟨hcs, _⟩ | ⟨a, len, cap', elems, rest, f, hf, hcs, hx, hb, hl, hm, hlen, hel, _, _⟩
        · have e3 : c3 = .slice none 0 0 := by simpa using hcs
          subst e3
          refine ⟨T.mk kd nm s.data.toList op 0 (fun _ => T.nil), none, 0, rfl, ?_, fun h => by omega⟩
          unfold T.ok
          exact ⟨bk, by omega, bs, by omega, fun i hi => by omega⟩
        · have e3 : c3 = .slice (some a) len cap' := by simpa using hcs
          subst e3
          have hC : Tryz.prog.cellsOf 47 = 5 := by kernel_rfl
          have hBy : Tryz.prog.bytesOf 47 = 64 := by kernel_rfl
          have hzs : ∀ n ∈ (y3.1).weights Tryz.prog 45, n ≤ reachBytes := fun n hn => hz' n (DataW.weights_mem_each (j := 3) rfl (show _ = some y3.1 by rfl) _ hn)
          rw [hx] at hzs
          simp only [DataW.weights, Tryz.underlying45] at hzs
          have bl : len < 4611686018427387904 := by
            have h8 := hzs _ List.mem_cons_self
            rw [hBy, List.length_map, hlen] at h8
            have h9 : len * 64 ≤ (len + (List.map (fun x => x.1) rest).length) * 64 := Nat.mul_le_mul_right _ (Nat.le_add_right _ _)
            omega
          have key : ∀ i, i < len → ∃ (t : T) (Ai : Option Addr) (ci : Nat), (w.cell? ((a.add (i * 5)).add 0) = some (.int .i64 t.kind) ∧ w.cell? ((a.add (i * 5)).add 1) = some (.int .u64 (t.n : Int)) ∧ w.cell? ((a.add (i * 5)).add 2) = some (str t.s) ∧ w.cell? ((a.add (i * 5)).add 3) = some (.slice Ai t.k ci) ∧ w.cell? ((a.add (i * 5)).add 4) = some (.bool t.op)) ∧ t.ok ∧ IsL w (fun _ => True) t Ai := by
            intro i hin
            have hi := hel i hin
            rw [List.getElem?_eq_getElem (by omega)] at hi
            obtain ⟨cs', hc, ht⟩ := Option.bind_eq_some_iff.1 hi
            have hz2 : ∀ n ∈ (elems[i]'(by omega)).1.weights Tryz.prog 47, n ≤ reachBytes := fun n hn => by
              apply hzs
              refine List.mem_cons_of_mem _ (List.mem_append_left _ (weights_mem_all hn ?_))
              exact List.mem_map.2 ⟨_, List.getElem_mem _, rfl⟩
            obtain ⟨t, Ai, ci, rfl, hok, hL⟩ := ih f (by omega) cs' _ ht hz2
            rw [hC] at hc
            obtain ⟨_, hcl, hat⟩ := World.cells?_some hc
            exact ⟨t, Ai, ci, ⟨hat 0 (by omega), hat 1 (by omega), hat 2 (by omega), hat 3 (by omega), hat 4 (by omega)⟩, hok, hL⟩
          have key2 : ∀ i, ∃ z : T × Option Addr × Nat, i < len → (w.cell? ((a.add (i * 5)).add 0) = some (.int .i64 z.1.kind) ∧ w.cell? ((a.add (i * 5)).add 1) = some (.int .u64 (z.1.n : Int)) ∧ w.cell? ((a.add (i * 5)).add 2) = some (str z.1.s) ∧ w.cell? ((a.add (i * 5)).add 3) = some (.slice z.2.1 z.1.k z.2.2) ∧ w.cell? ((a.add (i * 5)).add 4) = some (.bool z.1.op)) ∧ z.1.ok ∧ IsL w (fun _ => True) z.1 z.2.1 := fun i => by
            by_cases hin : i < len
            · obtain ⟨t, Ai, ci, h5⟩ := key i hin
              exact ⟨(t, Ai, ci), fun _ => h5⟩
            · exact ⟨(T.nil, none, 0), fun h => absurd h hin⟩
          obtain ⟨g, hg⟩ : ∃ g : Nat → T × Option Addr × Nat, ∀ i, i < len → (w.cell? ((a.add (i * 5)).add 0) = some (.int .i64 (g i).1.kind) ∧ w.cell? ((a.add (i * 5)).add 1) = some (.int .u64 ((g i).1.n : Int)) ∧ w.cell? ((a.add (i * 5)).add 2) = some (str (g i).1.s) ∧ w.cell? ((a.add (i * 5)).add 3) = some (.slice (g i).2.1 (g i).1.k (g i).2.2) ∧ w.cell? ((a.add (i * 5)).add 4) = some (.bool (g i).1.op)) ∧ (g i).1.ok ∧ IsL w (fun _ => True) (g i).1 (g i).2.1 :=
            ⟨fun i => Classical.choose (key2 i), fun i => Classical.choose_spec (key2 i)⟩
          refine ⟨T.mk kd nm s.data.toList op len (fun i => (g i).1), some a, cap', rfl, ?_, ?_⟩
          · unfold T.ok
            exact ⟨bk, by omega, bs, bl, fun i hi => (hg i hi).2.1⟩
          · intro h0
            obtain ⟨⟨z0, _⟩, _⟩ := hg 0 h0
            have z1 : w.cell? a = some (.int .i64 (g 0).1.kind) := by simpa [Addr.add] using z0
            have hsp := World.cell?_spot z1
            obtain ⟨ab, ao, sp⟩ := a
            simp only at hsp
            subst hsp
            refine ⟨ab, ao, rfl, World.block_lt_of_cell? w _ z1, trivial, fun i hin => ⟨(g i).2.1, (g i).2.2, ?_, (hg i hin).2.2⟩⟩
            obtain ⟨⟨g0, g1, g2, g3, g4⟩, _⟩ := hg i hin
            rw [addr_add, addr_add] at g0 g1 g2 g3 g4
            exact ⟨g0, g1, g2, g3, g4⟩

set_option maxRecDepth 100000 in
/-- An argument item.Item, opened. -/
theorem open_item {v : Value} {d : DataW H} {p : List MemPlace} (hval : Value.okWide Tryz.prog w r b0 47 v) (h : DataW.Trod enc Tryz.prog w base spare held 47 v d p) (hz : ∀ n ∈ d.weights Tryz.prog 47, n ≤ reachBytes) :
    ∃ (t : T) (A : Option Addr) (c : Nat), v = itemV t A c ∧ t.ok ∧ IsL w (fun _ => True) t A := by
  obtain ⟨cs, rfl, hsz⟩ := okWide_struct Tryz.underlying47 hval
  obtain ⟨fuel, hf⟩ := h
  obtain ⟨t, A, c, e, hok, hL⟩ := trod_item fuel _ _ hf hz
  refine ⟨t, A, c, ?_, hok, hL⟩
  have e2 : cs.toList = [.int .i64 t.kind, .int .u64 (t.n : Int), str t.s, .slice A t.k c, .bool t.op] := e
  rw [itemV, ← e2]
end
end Go.Proofs.YtblfmokklfhklaaGreatDoor


namespace Go.Proofs.YtblfmokklfhklaaGreatDoor
open Go.RowKit
set_option linter.unusedVariables false
set_option linter.unusedSimpArgs false

def t82 : T := T.mk 4 0 [] false 2 fun i => if i = 0 then numT 1 else strT [97]
theorem t82_build : buildV t82 = .tuple #[str [130, 1, 65, 97], .int .i64 0] := by
  have h1 : t82.right 8 = true := by decide
  have h2 : t82.bytes = [130, 1, 65, 97] := by decide
  rw [buildV, h1, h2]; rfl
theorem t82_ok : t82.ok := by
  unfold t82 T.ok
  refine ⟨by omega, by omega, by simp, by omega, fun i hi => ?_⟩
  dsimp only
  split
  · unfold numT T.ok; exact ⟨by omega, by omega, by simp, by omega, fun i hi => by omega⟩
  · unfold strT T.ok; exact ⟨by omega, by omega, by simp, by omega, fun i hi => by omega⟩
set_option maxRecDepth 20000 in
set_option maxHeartbeats 1600000 in
/-- The code's Same. -/
theorem Same_any (a b : T) (hoa : a.ok) (hob : b.ok) (A B : Option Addr) (c d : Nat) (w : World) (ha : IsL w (fun _ => True) a A) (hb : IsL w (fun _ => True) b B) :
    Calls Tryz.prog 79 #[itemV a A c, itemV b B d] w (Ret (.bool (a.right 8 && b.right 8 && a.same b)) w) := by
  have H := hid ha; have H' := hid hb; have HO := hid hoa; have HO' := hid hob
  have HBa : Hid (Blk ((w.alloc (.cells (itemC a A c) 47)).alloc (.cells (itemC b B d) 47)) w.heap.size 47 (itemC a A c)) := (Blk.new _ _ _).alloc _
  have HBb : Hid (Blk ((w.alloc (.cells (itemC a A c) 47)).alloc (.cells (itemC b B d) 47)) (w.heap.size + 1) 47 (itemC b B d)) := Blk.new' _ _ _ (by simp)
  have HE0 := hid (((Mod.refl [] w).alloc (.cells (itemC a A c) 47)).alloc (.cells (itemC b B d) 47))
  clear ha hb hoa hob
  go_enter Tryz.func79, Tryz.ntmps79
  go_wp2_with fail
  refine (iRight_any a HO.out A c _ (H.out.ext HE0.out)).mono ?_
  rintro e w2 ⟨rfl, hb2⟩
  have HE2 := hid (HE0.out.trans hb2)
  have hBa2 := HBa.out.ext hb2
  have hBb2 := HBb.out.ext hb2
  have ca0 : w2.cell? ⟨w.heap.size, 0, none⟩ = some (.int .i64 a.kind) := hBa2.cell 0
  have ca1 : w2.cell? ⟨w.heap.size, 1, none⟩ = some (.int .u64 (a.n : Int)) := hBa2.cell 1
  have ca2 : w2.cell? ⟨w.heap.size, 2, none⟩ = some (str a.s) := hBa2.cell 2
  have ca3 : w2.cell? ⟨w.heap.size, 3, none⟩ = some (.slice A a.k c) := hBa2.cell 3
  have ca4 : w2.cell? ⟨w.heap.size, 4, none⟩ = some (.bool a.op) := hBa2.cell 4
  have cb0 : w2.cell? ⟨w.heap.size + 1, 0, none⟩ = some (.int .i64 b.kind) := hBb2.cell 0
  have cb1 : w2.cell? ⟨w.heap.size + 1, 1, none⟩ = some (.int .u64 (b.n : Int)) := hBb2.cell 1
  have cb2 : w2.cell? ⟨w.heap.size + 1, 2, none⟩ = some (str b.s) := hBb2.cell 2
  have cb3 : w2.cell? ⟨w.heap.size + 1, 3, none⟩ = some (.slice B b.k d) := hBb2.cell 3
  have cb4 : w2.cell? ⟨w.heap.size + 1, 4, none⟩ = some (.bool b.op) := hBb2.cell 4
  have HA2 := hid hBa2; have HB2 := hid hBb2
  clear hBa2 hBb2 hb2
  cases hr : a.right 8
  · have HR := hid hr
    clear hr
    go_wp2_with fail
    go_ret
    exact Ret.mk (by simp [show a.right 8 = false from HR.out]) HE2.out
  · have HR := hid hr
    clear hr
    go_wp2_with fail
    refine (iRight_any b HO'.out B d _ (H'.out.ext HE2.out)).mono ?_
    rintro e w3 ⟨rfl, hb3⟩
    have HE3 := hid (HE2.out.trans hb3)
    have hBa2 := HA2.out.ext hb3
    have hBb2 := HB2.out.ext hb3
    clear ca0 ca1 ca2 ca3 ca4 cb0 cb1 cb2 cb3 cb4
    have ca0 : w3.cell? ⟨w.heap.size, 0, none⟩ = some (.int .i64 a.kind) := hBa2.cell 0
    have ca1 : w3.cell? ⟨w.heap.size, 1, none⟩ = some (.int .u64 (a.n : Int)) := hBa2.cell 1
    have ca2 : w3.cell? ⟨w.heap.size, 2, none⟩ = some (str a.s) := hBa2.cell 2
    have ca3 : w3.cell? ⟨w.heap.size, 3, none⟩ = some (.slice A a.k c) := hBa2.cell 3
    have ca4 : w3.cell? ⟨w.heap.size, 4, none⟩ = some (.bool a.op) := hBa2.cell 4
    have cb0 : w3.cell? ⟨w.heap.size + 1, 0, none⟩ = some (.int .i64 b.kind) := hBb2.cell 0
    have cb1 : w3.cell? ⟨w.heap.size + 1, 1, none⟩ = some (.int .u64 (b.n : Int)) := hBb2.cell 1
    have cb2 : w3.cell? ⟨w.heap.size + 1, 2, none⟩ = some (str b.s) := hBb2.cell 2
    have cb3 : w3.cell? ⟨w.heap.size + 1, 3, none⟩ = some (.slice B b.k d) := hBb2.cell 3
    have cb4 : w3.cell? ⟨w.heap.size + 1, 4, none⟩ = some (.bool b.op) := hBb2.cell 4
    clear hBa2 hBb2 hb3
    cases hr : b.right 8
    · have HR2 := hid hr
      clear hr
      go_wp2_with fail
      go_ret
      exact Ret.mk (by simp [show b.right 8 = false from HR2.out]) HE3.out
    · have HR2 := hid hr
      clear hr
      go_wp2_with fail
      refine (same_any a b HO.out HO'.out A c B d _ (H.out.ext HE3.out) (H'.out.ext HE3.out)).mono ?_
      rintro e w4 ⟨rfl, hb4⟩
      go_wp2_with fail
      go_ret
      exact Ret.mk (by simp [show a.right 8 = true from HR.out, show b.right 8 = true from HR2.out]) (HE3.out.trans hb4)

theorem same_law {a b : T} (hoa : a.ok) (hob : b.ok) (hra : a.right 8 = true) (hrb : b.right 8 = true) : a.same b = decide (a.bytes = b.bytes) := by
  have pa : a.plain = true := by rw [T.right_eq] at hra; simp at hra; exact hra.2
  have pb : b.plain = true := by rw [T.right_eq] at hrb; simp at hrb; exact hrb.2
  rw [Bool.eq_iff_iff, decide_eq_true_iff]
  exact ⟨T.same_bytes a b hob, fun h => (T.bytes_inj a b pa pb hoa hob [] [] (by rw [h])).1⟩

/-- The two arguments' blocks in a later world. -/
structure Two (W : World) (g : Nat) (a b : T) (A B : Option Addr) (c d : Nat) : Prop where
  a0 : W.cell? ⟨g, 0, none⟩ = some (.int .i64 a.kind)
  a1 : W.cell? ⟨g, 1, none⟩ = some (.int .u64 (a.n : Int))
  a2 : W.cell? ⟨g, 2, none⟩ = some (str a.s)
  a3 : W.cell? ⟨g, 3, none⟩ = some (.slice A a.k c)
  a4 : W.cell? ⟨g, 4, none⟩ = some (.bool a.op)
  b0 : W.cell? ⟨g + 1, 0, none⟩ = some (.int .i64 b.kind)
  b1 : W.cell? ⟨g + 1, 1, none⟩ = some (.int .u64 (b.n : Int))
  b2 : W.cell? ⟨g + 1, 2, none⟩ = some (str b.s)
  b3 : W.cell? ⟨g + 1, 3, none⟩ = some (.slice B b.k d)
  b4 : W.cell? ⟨g + 1, 4, none⟩ = some (.bool b.op)
theorem Two.new (w : World) (a b : T) (A B : Option Addr) (c d : Nat) : Hid (∀ W, Ext ((w.alloc (.cells (itemC a A c) 47)).alloc (.cells (itemC b B d) 47)) W → Two W w.heap.size a b A B c d) := fun W hW => by
  have h1 : Blk W w.heap.size 47 (itemC a A c) := ((Blk.new _ _ _).alloc _).ext hW
  have h2 : Blk W (w.heap.size + 1) 47 (itemC b B d) := (Blk.new' _ _ _ (by simp)).ext hW
  exact ⟨h1.cell 0, h1.cell 1, h1.cell 2, h1.cell 3, h1.cell 4, h2.cell 0, h2.cell 1, h2.cell 2, h2.cell 3, h2.cell 4⟩

end Go.Proofs.YtblfmokklfhklaaGreatDoor


namespace Go.Proofs.YtblfmokklfhklaaGreatDoor
open Go.RowKit
set_option linter.unusedVariables false
set_option linter.unusedSimpArgs false

theorem readE_name {t : T} (hok : t.ok) : (readE t).name.length < 4611686018427387904 := by
  unfold readE
  split
  · simp [zeroE]
  · rename_i h
    split
    · simp
    · split
      · cases t with
        | nil => exact absurd hok T.not_nil
        | mk kind n s op k ch =>
          have hk : k = 2 := by
            by_cases hk : k = 2
            · exact hk
            · exact absurd (Or.inr (Or.inl hk)) h
          subst hk
          have h1 := hok.2.2.2.2 1 (by omega)
          show (ch 1).s.length < _
          cases hc : ch 1 with
          | nil => simp [T.s]
          | mk a b d e f g => rw [hc] at h1; exact h1.2.2.1
      · simp [noneE]
def ofB (t : T) : Bool := (readE t).ok && (t.right 8 && t.same (eidT (readE t)))

set_option maxRecDepth 20000 in
set_option maxHeartbeats 1600000 in
theorem eidOf_yes (t : T) (hok : t.ok) (ho : (readE t).ok = true) (hs : (t.right 8 && t.same (eidT (readE t))) = true) (A : Option Addr) (c : Nat) (w : World) (h : IsL w (fun _ => True) t A) : Calls Tryz.prog 50 #[itemV t A c] w (Ret (.tuple #[(readE t).v, .int .i64 0]) w) := by
  have K1 : Hid (∀ W, IsL W (fun _ => True) t A → Calls Tryz.prog 78 #[itemV t A c] W (Ret (readE t).v W)) := fun W hW => eread_any t (by rintro rfl; exact T.not_nil hok) A c W hW
  have H := hid h
  have K2 := hid (fun W => eidItem_ok (readE t) ho W)
  obtain ⟨g1, g2, _, _⟩ := eidT_ok ho
  have K3 : Hid (∀ (B : Option Addr) (W : World), IsL W (fun _ => True) t A → IsL W (fun _ => True) (eidT (readE t)) B → Calls Tryz.prog 79 #[itemV t A c, itemV (eidT (readE t)) B 2] W (Ret (.bool true) W)) := fun B W h1 h2 => by
    have := Same_any t (eidT (readE t)) hok g1 A B c 2 W h1 h2
    rw [g2 8 (by omega), Bool.and_true, hs] at this
    exact this
  clear g1 g2 ho h hok hs
  generalize eidT (readE t) = y at *
  generalize readE t = e at *
  have HE := hid (((Mod.refl [] w).alloc (.cells (itemC t A c) 47)).alloc (.cells #[.int .i64 0, .string ⟨#[]⟩, .int .u64 0, .int .u64 0] 25))
  have HX := hid ((Blk.new w 47 (itemC t A c)).alloc (.cells #[.int .i64 0, .string ⟨#[]⟩, .int .u64 0, .int .u64 0] 25))
  have HQ := hid (Blk.new' (w.alloc (.cells (itemC t A c) 47)) 25 #[.int .i64 0, .string ⟨#[]⟩, .int .u64 0, .int .u64 0] (N := w.heap.size + 1) (by simp))
  go_enter Tryz.func50, Tryz.ntmps50
  go_wp2_with fail
  refine (K1.out _ (H.out.ext HE.out)).mono ?_
  rintro e1 w1 ⟨rfl, hb1⟩
  have HE1 := hid ((HE.out.trans hb1).alloc (.cells e.c 25))
  have HX1 := hid ((HX.out.ext hb1).alloc (.cells e.c 25))
  have HQ1 := hid ((HQ.out.ext hb1).alloc (.cells e.c 25))
  have HV1 := hid (Blk.new w1 25 e.c)
  clear hb1
  go_wp2_with fail
  refine (K2.out _).mono ?_
  rintro e1 w2 ⟨B, rfl, hb2, hl2⟩
  have HE2 := hid ((HE1.out.trans hb2).alloc (.cells (itemC y B 2) 47))
  have HX2 := hid ((HX1.out.ext hb2).alloc (.cells (itemC y B 2) 47))
  have HQ2 := hid ((HQ1.out.ext hb2).alloc (.cells (itemC y B 2) 47))
  have HV2 := hid ((HV1.out.ext hb2).alloc (.cells (itemC y B 2) 47))
  have HY2 := hid (Blk.new w2 47 (itemC y B 2))
  have HL2 : Hid (IsL (w2.alloc (.cells (itemC y B 2) 47)) (fun _ => True) y B) := IsL.ext (IsL.weak (fun _ _ _ => trivial) _ hl2) ((Mod.refl _ _).alloc _)
  have H2 := hid ((H.out.ext HE2.out))
  clear hb2 hl2
  obtain ⟨q0, q1, q2, q3, q4⟩ := cells5 HX2.out
  go_wp2_with fail
  refine (K3.out B _ H2.out HL2.out).mono ?_
  rintro e1 w3 ⟨rfl, hb3⟩
  have HE3 := hid (HE2.out.trans hb3)
  have HQ3 := hid (HQ2.out.ext hb3)
  have HV3 := hid (HV2.out.ext hb3)
  clear hb3 q0 q1 q2 q3 q4
  obtain ⟨r0, r1, r2, r3⟩ : w3.cell? ⟨w.heap.size + 1, 0, none⟩ = some (.int .i64 0) ∧ w3.cell? ⟨w.heap.size + 1, 1, none⟩ = some (str []) ∧ w3.cell? ⟨w.heap.size + 1, 2, none⟩ = some (.int .u64 0) ∧ w3.cell? ⟨w.heap.size + 1, 3, none⟩ = some (.int .u64 0) := ⟨HQ3.out.cell 0, HQ3.out.cell 1, HQ3.out.cell 2, HQ3.out.cell 3⟩
  have f0 := Blk.frozen HQ3.out 0
  have f1 := Blk.frozen HQ3.out 1
  have f2 := Blk.frozen HQ3.out 2
  have f3 := Blk.frozen HQ3.out 3
  obtain ⟨v0, v1, v2, v3⟩ : w3.cell? ⟨w1.heap.size, 0, none⟩ = some (.int .i64 e.sch) ∧ w3.cell? ⟨w1.heap.size, 1, none⟩ = some (str e.name) ∧ w3.cell? ⟨w1.heap.size, 2, none⟩ = some (.int .u64 (e.node : Int)) ∧ w3.cell? ⟨w1.heap.size, 3, none⟩ = some (.int .u64 (e.svc : Int)) := ⟨HV3.out.cell 0, HV3.out.cell 1, HV3.out.cell 2, HV3.out.cell 3⟩
  go_wp2_with fail
  have B4 := (((HQ3.out.set_ 0 (.int .i64 e.sch)).set_ 1 (str e.name)).set_ 2 (.int .u64 (e.node : Int))).set_ 3 (.int .u64 (e.svc : Int))
  obtain ⟨d0, d1, d2, d3⟩ := And.intro (B4.cell 0) (And.intro (B4.cell 1) (And.intro (B4.cell 2) (B4.cell 3)))
  simp only [List.setIfInBounds_toArray, List.set_cons_zero, List.set_cons_succ, List.getElem?_toArray, List.getElem?_cons_zero, List.getElem?_cons_succ] at d0 d1 d2 d3
  clear r0 r1 r2 r3 f0 f1 f2 f3 v0 v1 v2 v3
  refine bodyPost_ret (v := .tuple #[e.v, .int .i64 0]) (by simp [results, Tryz.results50, go_sem, d0, d1, d2, d3]) rfl (Ret.mk rfl ((((HE3.out.setCell (.inr (by show w.heap.size ≤ w.heap.size + 1; omega)) _).setCell (.inr (by show w.heap.size ≤ w.heap.size + 1; omega)) _).setCell (.inr (by show w.heap.size ≤ w.heap.size + 1; omega)) _).setCell (.inr (by show w.heap.size ≤ w.heap.size + 1; omega)) _))
set_option maxRecDepth 20000 in
set_option maxHeartbeats 1600000 in
theorem eidOf_no (t : T) (hok : t.ok) (ho : (readE t).ok = true) (hs : (t.right 8 && t.same (eidT (readE t))) = false) (A : Option Addr) (c : Nat) (w : World) (h : IsL w (fun _ => True) t A) : Calls Tryz.prog 50 #[itemV t A c] w (Ret (.tuple #[zeroE.v, .int .i64 2]) w) := by
  have K1 : Hid (∀ W, IsL W (fun _ => True) t A → Calls Tryz.prog 78 #[itemV t A c] W (Ret (readE t).v W)) := fun W hW => eread_any t (by rintro rfl; exact T.not_nil hok) A c W hW
  have H := hid h
  have K2 := hid (fun W => eidItem_ok (readE t) ho W)
  obtain ⟨g1, g2, _, _⟩ := eidT_ok ho
  have K3 : Hid (∀ (B : Option Addr) (W : World), IsL W (fun _ => True) t A → IsL W (fun _ => True) (eidT (readE t)) B → Calls Tryz.prog 79 #[itemV t A c, itemV (eidT (readE t)) B 2] W (Ret (.bool false) W)) := fun B W h1 h2 => by
    have := Same_any t (eidT (readE t)) hok g1 A B c 2 W h1 h2
    rw [g2 8 (by omega), Bool.and_true, hs] at this
    exact this
  clear g1 g2 ho h hok hs
  generalize eidT (readE t) = y at *
  generalize readE t = e at *
  have HE := hid (((Mod.refl [] w).alloc (.cells (itemC t A c) 47)).alloc (.cells #[.int .i64 0, .string ⟨#[]⟩, .int .u64 0, .int .u64 0] 25))
  have HX := hid ((Blk.new w 47 (itemC t A c)).alloc (.cells #[.int .i64 0, .string ⟨#[]⟩, .int .u64 0, .int .u64 0] 25))
  have HQ := hid (Blk.new' (w.alloc (.cells (itemC t A c) 47)) 25 #[.int .i64 0, .string ⟨#[]⟩, .int .u64 0, .int .u64 0] (N := w.heap.size + 1) (by simp))
  go_enter Tryz.func50, Tryz.ntmps50
  go_wp2_with fail
  refine (K1.out _ (H.out.ext HE.out)).mono ?_
  rintro e1 w1 ⟨rfl, hb1⟩
  have HE1 := hid ((HE.out.trans hb1).alloc (.cells e.c 25))
  have HX1 := hid ((HX.out.ext hb1).alloc (.cells e.c 25))
  have HQ1 := hid ((HQ.out.ext hb1).alloc (.cells e.c 25))
  have HV1 := hid (Blk.new w1 25 e.c)
  clear hb1
  go_wp2_with fail
  refine (K2.out _).mono ?_
  rintro e1 w2 ⟨B, rfl, hb2, hl2⟩
  have HE2 := hid ((HE1.out.trans hb2).alloc (.cells (itemC y B 2) 47))
  have HX2 := hid ((HX1.out.ext hb2).alloc (.cells (itemC y B 2) 47))
  have HQ2 := hid ((HQ1.out.ext hb2).alloc (.cells (itemC y B 2) 47))
  have HV2 := hid ((HV1.out.ext hb2).alloc (.cells (itemC y B 2) 47))
  have HY2 := hid (Blk.new w2 47 (itemC y B 2))
  have HL2 : Hid (IsL (w2.alloc (.cells (itemC y B 2) 47)) (fun _ => True) y B) := IsL.ext (IsL.weak (fun _ _ _ => trivial) _ hl2) ((Mod.refl _ _).alloc _)
  have H2 := hid ((H.out.ext HE2.out))
  clear hb2 hl2
  obtain ⟨q0, q1, q2, q3, q4⟩ := cells5 HX2.out
  go_wp2_with fail
  refine (K3.out B _ H2.out HL2.out).mono ?_
  rintro e1 w3 ⟨rfl, hb3⟩
  have HE3 := hid (HE2.out.trans hb3)
  have HQ3 := hid (HQ2.out.ext hb3)
  have HV3 := hid (HV2.out.ext hb3)
  clear hb3 q0 q1 q2 q3 q4
  obtain ⟨r0, r1, r2, r3⟩ : w3.cell? ⟨w.heap.size + 1, 0, none⟩ = some (.int .i64 0) ∧ w3.cell? ⟨w.heap.size + 1, 1, none⟩ = some (str []) ∧ w3.cell? ⟨w.heap.size + 1, 2, none⟩ = some (.int .u64 0) ∧ w3.cell? ⟨w.heap.size + 1, 3, none⟩ = some (.int .u64 0) := ⟨HQ3.out.cell 0, HQ3.out.cell 1, HQ3.out.cell 2, HQ3.out.cell 3⟩
  have f0 := Blk.frozen HQ3.out 0
  have f1 := Blk.frozen HQ3.out 1
  have f2 := Blk.frozen HQ3.out 2
  have f3 := Blk.frozen HQ3.out 3
  go_wp2_with fail
  have B4 := (((HQ3.out.set_ 0 (.int .i64 0)).set_ 1 (str [])).set_ 2 (.int .u64 0)).set_ 3 (.int .u64 0)
  obtain ⟨d0, d1, d2, d3⟩ := And.intro (B4.cell 0) (And.intro (B4.cell 1) (And.intro (B4.cell 2) (B4.cell 3)))
  simp only [List.setIfInBounds_toArray, List.set_cons_zero, List.set_cons_succ, List.getElem?_toArray, List.getElem?_cons_zero, List.getElem?_cons_succ] at d0 d1 d2 d3
  clear r0 r1 r2 r3 f0 f1 f2 f3
  refine bodyPost_ret (v := .tuple #[.agg #[.int .i64 0, str [], .int .u64 0, .int .u64 0], .int .i64 2]) (by simp [results, Tryz.results50, go_sem, d0, d1, d2, d3]) rfl (Ret.mk rfl ((((HE3.out.setCell (.inr (by show w.heap.size ≤ w.heap.size + 1; omega)) _).setCell (.inr (by show w.heap.size ≤ w.heap.size + 1; omega)) _).setCell (.inr (by show w.heap.size ≤ w.heap.size + 1; omega)) _).setCell (.inr (by show w.heap.size ≤ w.heap.size + 1; omega)) _))
set_option maxRecDepth 20000 in
set_option maxHeartbeats 1600000 in
theorem eidOf_bad (t : T) (hok : t.ok) (ho : (readE t).ok = false) (A : Option Addr) (c : Nat) (w : World) (h : IsL w (fun _ => True) t A) : Calls Tryz.prog 50 #[itemV t A c] w (Ret (.tuple #[zeroE.v, .int .i64 2]) w) := by
  have K1 : Hid (∀ W, IsL W (fun _ => True) t A → Calls Tryz.prog 78 #[itemV t A c] W (Ret (readE t).v W)) := fun W hW => eread_any t (by rintro rfl; exact T.not_nil hok) A c W hW
  have H := hid h
  have hl := readE_name hok
  have K2 : Hid (∀ W, Calls Tryz.prog 64 #[(readE t).v] W (Ret (.tuple #[itemV (numT 0) none 0, .int .i64 1]) W)) := fun W => eidItem_bad _ _ _ _ hl ho W
  clear ho h hok hl
  generalize readE t = e at *
  have HE := hid (((Mod.refl [] w).alloc (.cells (itemC t A c) 47)).alloc (.cells #[.int .i64 0, .string ⟨#[]⟩, .int .u64 0, .int .u64 0] 25))
  have HX := hid ((Blk.new w 47 (itemC t A c)).alloc (.cells #[.int .i64 0, .string ⟨#[]⟩, .int .u64 0, .int .u64 0] 25))
  have HQ := hid (Blk.new' (w.alloc (.cells (itemC t A c) 47)) 25 #[.int .i64 0, .string ⟨#[]⟩, .int .u64 0, .int .u64 0] (N := w.heap.size + 1) (by simp))
  go_enter Tryz.func50, Tryz.ntmps50
  go_wp2_with fail
  refine (K1.out _ (H.out.ext HE.out)).mono ?_
  rintro e1 w1 ⟨rfl, hb1⟩
  have HE1 := hid ((HE.out.trans hb1).alloc (.cells e.c 25))
  have HX1 := hid ((HX.out.ext hb1).alloc (.cells e.c 25))
  have HQ1 := hid ((HQ.out.ext hb1).alloc (.cells e.c 25))
  have HV1 := hid (Blk.new w1 25 e.c)
  clear hb1
  go_wp2_with fail
  refine (K2.out _).mono ?_
  rintro e1 w3 ⟨rfl, hb3⟩
  have HE3 := hid ((HE1.out.trans hb3).alloc (.cells (itemC (numT 0) none 0) 47))
  have HQ3 := hid ((HQ1.out.ext hb3).alloc (.cells (itemC (numT 0) none 0) 47))
  clear hb3
  obtain ⟨r0, r1, r2, r3⟩ : (w3.alloc (.cells (itemC (numT 0) none 0) 47)).cell? ⟨w.heap.size + 1, 0, none⟩ = some (.int .i64 0) ∧ (w3.alloc (.cells (itemC (numT 0) none 0) 47)).cell? ⟨w.heap.size + 1, 1, none⟩ = some (str []) ∧ (w3.alloc (.cells (itemC (numT 0) none 0) 47)).cell? ⟨w.heap.size + 1, 2, none⟩ = some (.int .u64 0) ∧ (w3.alloc (.cells (itemC (numT 0) none 0) 47)).cell? ⟨w.heap.size + 1, 3, none⟩ = some (.int .u64 0) := ⟨HQ3.out.cell 0, HQ3.out.cell 1, HQ3.out.cell 2, HQ3.out.cell 3⟩
  have f0 := Blk.frozen HQ3.out 0
  have f1 := Blk.frozen HQ3.out 1
  have f2 := Blk.frozen HQ3.out 2
  have f3 := Blk.frozen HQ3.out 3
  go_wp2_with fail
  have B4 := (((HQ3.out.set_ 0 (.int .i64 0)).set_ 1 (str [])).set_ 2 (.int .u64 0)).set_ 3 (.int .u64 0)
  obtain ⟨d0, d1, d2, d3⟩ := And.intro (B4.cell 0) (And.intro (B4.cell 1) (And.intro (B4.cell 2) (B4.cell 3)))
  simp only [List.setIfInBounds_toArray, List.set_cons_zero, List.set_cons_succ, List.getElem?_toArray, List.getElem?_cons_zero, List.getElem?_cons_succ] at d0 d1 d2 d3
  clear r0 r1 r2 r3 f0 f1 f2 f3
  refine bodyPost_ret (v := .tuple #[.agg #[.int .i64 0, str [], .int .u64 0, .int .u64 0], .int .i64 2]) (by simp [results, Tryz.results50, go_sem, d0, d1, d2, d3]) rfl (Ret.mk rfl ((((HE3.out.setCell (.inr (by show w.heap.size ≤ w.heap.size + 1; omega)) _).setCell (.inr (by show w.heap.size ≤ w.heap.size + 1; omega)) _).setCell (.inr (by show w.heap.size ≤ w.heap.size + 1; omega)) _).setCell (.inr (by show w.heap.size ≤ w.heap.size + 1; omega)) _))
theorem eidOf_any (t : T) (hok : t.ok) (A : Option Addr) (c : Nat) (w : World) (h : IsL w (fun _ => True) t A) : Calls Tryz.prog 50 #[itemV t A c] w (Ret (.tuple #[(if ofB t then readE t else zeroE).v, .int .i64 (if ofB t then 0 else 2)]) w) := by
  by_cases ho : (readE t).ok = true
  · by_cases hs : (t.right 8 && t.same (eidT (readE t))) = true
    · have hb : ofB t = true := by unfold ofB; rw [ho, hs]; rfl
      rw [hb]; exact eidOf_yes t hok ho hs A c w h
    · have hs2 : (t.right 8 && t.same (eidT (readE t))) = false := by simpa using hs
      have hb : ofB t = false := by unfold ofB; rw [ho, hs2]; rfl
      rw [hb]; exact eidOf_no t hok ho hs2 A c w h
  · have ho2 : (readE t).ok = false := by simpa using ho
    have hb : ofB t = false := by unfold ofB; rw [ho2]; rfl
    rw [hb]; exact eidOf_bad t hok ho2 A c w h
end Go.Proofs.YtblfmokklfhklaaGreatDoor
