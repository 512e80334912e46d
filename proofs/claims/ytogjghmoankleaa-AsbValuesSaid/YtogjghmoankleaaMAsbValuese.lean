/-
  Security texts: Right, Build; what a program that does nothing does not answer.
  Which names, primaries and bundles are of a size that is looked at.
  Security texts: of a size that is looked at; a number, and bytes, among pairs.
  Security texts: a number, and bytes, among pairs; the law AsbValues: its walk.
  Security texts: a number, and bytes, among pairs; the law AsbValues: its walk.
  An argument api.EID, opened; two numbers in a row.
  An argument api.Bundle, opened: its primary's cells; its blocks lie in memory.
  Arguments []asb.Pair and asb.ASB, opened.
-/
import Derived.Test.YtogjghmoankleaaMAsbValuesd
import Derived.OpenShut

namespace Go.Proofs.Ytogjghmoankleaa
open Go.RowKit
set_option linter.unusedVariables false
set_option linter.unusedSimpArgs false

set_option maxRecDepth 20000 in
set_option maxHeartbeats 4000000 in
theorem aRight_any (a : AV) (hw : a.wf) (hsm : a.shaped = true → a.small) (m : AA) (hmt : a.tk ≤ m.tc) (w : World) (h : AsL w anyQ a m) : Calls Try.prog 48 #[asbV a m] w (Ret (.bool a.right) w) := by
  have HE := hid ((Mod.refl [] w).alloc (.cells (asbC a m) 29))
  have HB0 := hid (Blk.new w 29 (asbC a m))
  have HL := hid (h.ext HE.out)
  have HWF := hid hw
  have KS : Hid (∀ W, Ext (w.alloc (.cells (asbC a m) 29)) W → Calls Try.prog 81 #[asbV a m] W (Ret (.bool a.shaped) W)) := hid (fun W hW => shaped_any a HWF.out m hmt W (HL.out.ext hW))
  have KB : Hid (a.shaped = true → ∀ W, Ext (w.alloc (.cells (asbC a m) 29)) W → Calls Try.prog 49 #[asbV a m] W (Ret (str a.bytes) W)) := hid (fun hs W hW => abuild_any a HWF.out (hsm hs) hs m W (HL.out.ext hW))
  have HR : Hid (a.right = (a.shaped && decide (a.bytes.length ≤ 4000))) := rfl
  have HBL : Hid (a.shaped = true → a.bytes.length ≤ 6000000) := hid (fun hs => by
    have h1 := catL_le (L := a.items) (B := 1000000) (fun t ht => by have := T.bytes_le t; have := (AV.items_all HWF.out (hsm hs) hs t ht).2.2; omega) a.items.length (Nat.le_refl _)
    have h2 : a.bytes = catL a.items a.items.length := by unfold AV.bytes catL; rw [List.take_length]
    have h3 := AV.items_length a
    rw [h2]; omega)
  clear hw hsm hmt h
  cases hs : a.shaped with
  | false =>
    rw [hs] at KS
    have HX : Hid (a.right = false) := hid (by rw [HR.out, hs]; rfl)
    clear hs KB HBL
    go_enter Try.func48, Try.ntmps48
    go_upto_region 1 with fail
    generalize w.alloc (.cells (asbC a m) 29) = V at *
    obtain ⟨e, he⟩ := Later.self V
    rw [he]
    clear he
    have tk1 : True := trivial
    have tk2 : True := trivial
    go_wp2_with (first | (clear tk1; refine wpList_row (by rfl) 29 _ rfl _ rfl (HB0.out.later _) Try.underlying29 rfl (by kernel_rfl) ?_) | (go_at_call 81; refine (Ret.later (KS.out _ (Later.h _))).mono ?_; rintro x _ ⟨rfl, e, rfl⟩))
    go_ret
    exact Ret.mk (by rw [HX.out]; rfl) (HE.out.trans e.h)
  | true =>
    rw [hs] at KS
    have KB := hid (KB.out hs)
    have hbl := HBL.out hs
    have HX : Hid (a.right = decide (a.bytes.length ≤ 4000)) := hid (by rw [HR.out, hs]; rfl)
    clear hs HBL HR
    generalize a.bytes = BB at *
    go_enter Try.func48, Try.ntmps48
    go_upto_region 1 with fail
    generalize w.alloc (.cells (asbC a m) 29) = V at *
    obtain ⟨e, he⟩ := Later.self V
    rw [he]
    clear he
    have tk1 : True := trivial
    have tk2 : True := trivial
    go_wp2_with (first | (clear tk1; refine wpList_row (by rfl) 29 _ rfl _ rfl (HB0.out.later _) Try.underlying29 rfl (by kernel_rfl) ?_) | (go_at_call 81; refine (Ret.later (KS.out _ (Later.h _))).mono ?_; rintro x _ ⟨rfl, e, rfl⟩) | (clear tk2; refine wpList_row (by rfl) 29 _ rfl _ rfl (HB0.out.later _) Try.underlying29 rfl (by kernel_rfl) ?_) | (go_at_call 49; refine (Ret.later (KB.out _ (Later.h _))).mono ?_; rintro x _ ⟨rfl, e, rfl⟩))
    go_ret
    refine Ret.mk ?_ (HE.out.trans e.h)
    rw [HX.out]
    simp
    try omega
/-- What Build hands back. -/
def abuildV (a : AV) : Value := if a.right then .tuple #[str a.bytes, .int .i64 0] else .tuple #[str [], .int .i64 1]
set_option maxRecDepth 20000 in
set_option maxHeartbeats 4000000 in
theorem aBuild_any (a : AV) (hw : a.wf) (hsm : a.shaped = true → a.small) (m : AA) (hmt : a.tk ≤ m.tc) (w : World) (h : AsL w anyQ a m) : Calls Try.prog 21 #[asbV a m] w (Ret (abuildV a) w) := by
  have HE := hid ((Mod.refl [] w).alloc (.cells (asbC a m) 29))
  have HB0 := hid (Blk.new w 29 (asbC a m))
  have HL := hid (h.ext HE.out)
  have HWF := hid hw
  have KS : Hid (∀ W, Ext (w.alloc (.cells (asbC a m) 29)) W → Calls Try.prog 48 #[asbV a m] W (Ret (.bool a.right) W)) := hid (fun W hW => aRight_any a HWF.out hsm m hmt W (HL.out.ext hW))
  have KB : Hid (a.right = true → ∀ W, Ext (w.alloc (.cells (asbC a m) 29)) W → Calls Try.prog 49 #[asbV a m] W (Ret (str a.bytes) W)) := hid (fun hr W hW => by
    have hs : a.shaped = true := by unfold AV.right at hr; rw [Bool.and_eq_true] at hr; exact hr.1
    exact abuild_any a HWF.out (hsm hs) hs m W (HL.out.ext hW))
  clear hw hsm hmt h
  cases hs : a.right with
  | false =>
    rw [hs] at KS
    have HX : Hid (abuildV a = .tuple #[str [], .int .i64 1]) := hid (by unfold abuildV; rw [hs]; rfl)
    clear hs KB
    go_enter Try.func21, Try.ntmps21
    go_upto_region 1 with fail
    generalize w.alloc (.cells (asbC a m) 29) = V at *
    obtain ⟨e, he⟩ := Later.self V
    rw [he]
    clear he
    have tk1 : True := trivial
    have tk2 : True := trivial
    go_wp2_with (first | (clear tk1; refine wpList_row (by rfl) 29 _ rfl _ rfl (HB0.out.later _) Try.underlying29 rfl (by kernel_rfl) ?_) | (go_at_call 48; refine (Ret.later (KS.out _ (Later.h _))).mono ?_; rintro x _ ⟨rfl, e, rfl⟩))
    refine bodyPost_ret (v := .tuple #[str [], .int .i64 1]) (by simp [results, Try.results21, go_sem]) rfl ?_
    exact Ret.mk (by rw [HX.out]) (HE.out.trans e.h)
  | true =>
    rw [hs] at KS
    have KB := hid (KB.out hs)
    have HX : Hid (abuildV a = .tuple #[str a.bytes, .int .i64 0]) := hid (by unfold abuildV; rw [hs]; rfl)
    clear hs
    generalize a.bytes = BB at *
    go_enter Try.func21, Try.ntmps21
    go_upto_region 1 with fail
    generalize w.alloc (.cells (asbC a m) 29) = V at *
    obtain ⟨e, he⟩ := Later.self V
    rw [he]
    clear he
    have tk1 : True := trivial
    have tk2 : True := trivial
    go_wp2_with (first | (clear tk1; refine wpList_row (by rfl) 29 _ rfl _ rfl (HB0.out.later _) Try.underlying29 rfl (by kernel_rfl) ?_) | (go_at_call 48; refine (Ret.later (KS.out _ (Later.h _))).mono ?_; rintro x _ ⟨rfl, e, rfl⟩) | (clear tk2; refine wpList_row (by rfl) 29 _ rfl _ rfl (HB0.out.later _) Try.underlying29 rfl (by kernel_rfl) ?_) | (go_at_call 49; refine (Ret.later (KB.out _ (Later.h _))).mono ?_; rintro x _ ⟨rfl, e, rfl⟩))
    refine bodyPost_ret (v := .tuple #[str BB, .int .i64 0]) (by simp [results, Try.results21, go_sem]) rfl ?_
    exact Ret.mk (by rw [HX.out]) (HE.out.trans e.h)
/-- The law's right text; its results' value is the bytes x. -/
def someP (x : List UInt8) : PL := ⟨1, fun _ => ⟨1, strT x⟩⟩
def someA (x : List UInt8) : AV := ⟨1, fun _ => 1, 1, ⟨1, [110, 111, 110, 101], 0, 0⟩, ⟨0, fun _ => ⟨0, T.nil⟩⟩, 1, fun _ => someP x⟩
theorem someA_wf {x : List UInt8} (hx : x.length < 4611686018427387904) : (someA x).wf := by
  refine ⟨⟨by show (1 : Nat) < 4611686018427387904; omega, fun i _ => by show _ ≤ (1 : Int) ∧ (1 : Int) ≤ _; omega⟩, by show _ ≤ (1 : Int) ∧ (1 : Int) ≤ _; omega, by show (4 : Nat) < 4611686018427387904; omega, ⟨by show (0 : Nat) < 4611686018427387904; omega, fun i hi => absurd hi (Nat.not_lt_zero _)⟩, by show (1 : Nat) < 4611686018427387904; omega, fun i hi => ⟨by show (1 : Nat) < 4611686018427387904; omega, fun j hj => ⟨str_ok hx, by show _ ≤ (1 : Int) ∧ (1 : Int) ≤ _; omega⟩⟩⟩
theorem someA_small {x : List UInt8} (hx : x.length ≤ 50000) : (someA x).small := by
  refine ⟨by show (1 : Nat) ≤ 100000; omega, ?_⟩
  simp [someA, someP, rsT, plT, pairT, listT, strT, numT, T.size, T.sum]
  omega
theorem someA_shaped {x : List UInt8} : (someA x).shaped = true := by
  simp [AV.shaped, someA, someP, unlikeB, codedB, T.all, resB, pairsB, valB, strT, T.kind, T.right, T.node]
  decide
theorem some_any15 (w : World) : Calls Try.prog 38 #[] w (fun e w' => ∃ m, e = .returned (asbV (someA [116]) m) ∧ Ext w w' ∧ AsL w' (fun b => w.heap.size ≤ b) (someA [116]) m ∧ 1 ≤ m.tc) := by
  go_enter Try.func38, Try.ntmps38
  go_wp2_with fail
  have HE := hid (((((Mod.refl [] w).alloc (.cells #[.slice (some ⟨w.heap.size + 1, 0, none⟩) 1 1, .int .i64 1, .int .i64 1, str [110, 111, 110, 101], .int .u64 0, .int .u64 0, .slice none 0 0, .slice (some ⟨w.heap.size + 1 + 1 + 1, 0, none⟩) 1 1] 29)).alloc (.cells #[.int .i64 1] 3)).alloc (.cells #[.int .i64 1, .int .i64 2, .int .u64 0, str [116], .slice none 0 0, .bool false] 40)).alloc (.cells #[.slice (some ⟨w.heap.size + 1 + 1, 0, none⟩) 1 1] 22))
  have HB0 : Hid (Blk ((((w.alloc (.cells #[.slice (some ⟨w.heap.size + 1, 0, none⟩) 1 1, .int .i64 1, .int .i64 1, str [110, 111, 110, 101], .int .u64 0, .int .u64 0, .slice none 0 0, .slice (some ⟨w.heap.size + 1 + 1 + 1, 0, none⟩) 1 1] 29)).alloc (.cells #[.int .i64 1] 3)).alloc (.cells #[.int .i64 1, .int .i64 2, .int .u64 0, str [116], .slice none 0 0, .bool false] 40)).alloc (.cells #[.slice (some ⟨w.heap.size + 1 + 1, 0, none⟩) 1 1] 22)) w.heap.size 29 #[.slice (some ⟨w.heap.size + 1, 0, none⟩) 1 1, .int .i64 1, .int .i64 1, str [110, 111, 110, 101], .int .u64 0, .int .u64 0, .slice none 0 0, .slice (some ⟨w.heap.size + 1 + 1 + 1, 0, none⟩) 1 1]) := hid ((((Blk.new w 29 #[.slice (some ⟨w.heap.size + 1, 0, none⟩) 1 1, .int .i64 1, .int .i64 1, str [110, 111, 110, 101], .int .u64 0, .int .u64 0, .slice none 0 0, .slice (some ⟨w.heap.size + 1 + 1 + 1, 0, none⟩) 1 1]).alloc (.cells #[.int .i64 1] 3)).alloc (.cells #[.int .i64 1, .int .i64 2, .int .u64 0, str [116], .slice none 0 0, .bool false] 40)).alloc (.cells #[.slice (some ⟨w.heap.size + 1 + 1, 0, none⟩) 1 1] 22))
  have HB1 : Hid (Blk ((((w.alloc (.cells #[.slice (some ⟨w.heap.size + 1, 0, none⟩) 1 1, .int .i64 1, .int .i64 1, str [110, 111, 110, 101], .int .u64 0, .int .u64 0, .slice none 0 0, .slice (some ⟨w.heap.size + 1 + 1 + 1, 0, none⟩) 1 1] 29)).alloc (.cells #[.int .i64 1] 3)).alloc (.cells #[.int .i64 1, .int .i64 2, .int .u64 0, str [116], .slice none 0 0, .bool false] 40)).alloc (.cells #[.slice (some ⟨w.heap.size + 1 + 1, 0, none⟩) 1 1] 22)) (w.heap.size + 1) 3 #[.int .i64 1]) := by unfold Hid; have := (Blk.newL (N := (w.heap.size + 1)) (w.alloc (.cells #[.slice (some ⟨w.heap.size + 1, 0, none⟩) 1 1, .int .i64 1, .int .i64 1, str [110, 111, 110, 101], .int .u64 0, .int .u64 0, .slice none 0 0, .slice (some ⟨w.heap.size + 1 + 1 + 1, 0, none⟩) 1 1] 29)) 3 #[.int .i64 1] (by simp)); exact ((this.alloc (.cells #[.int .i64 1, .int .i64 2, .int .u64 0, str [116], .slice none 0 0, .bool false] 40)).alloc (.cells #[.slice (some ⟨w.heap.size + 1 + 1, 0, none⟩) 1 1] 22))
  have HB2 : Hid (Blk ((((w.alloc (.cells #[.slice (some ⟨w.heap.size + 1, 0, none⟩) 1 1, .int .i64 1, .int .i64 1, str [110, 111, 110, 101], .int .u64 0, .int .u64 0, .slice none 0 0, .slice (some ⟨w.heap.size + 1 + 1 + 1, 0, none⟩) 1 1] 29)).alloc (.cells #[.int .i64 1] 3)).alloc (.cells #[.int .i64 1, .int .i64 2, .int .u64 0, str [116], .slice none 0 0, .bool false] 40)).alloc (.cells #[.slice (some ⟨w.heap.size + 1 + 1, 0, none⟩) 1 1] 22)) (w.heap.size + 1 + 1) 40 #[.int .i64 1, .int .i64 2, .int .u64 0, str [116], .slice none 0 0, .bool false]) := by unfold Hid; have := (Blk.newL (N := (w.heap.size + 1 + 1)) ((w.alloc (.cells #[.slice (some ⟨w.heap.size + 1, 0, none⟩) 1 1, .int .i64 1, .int .i64 1, str [110, 111, 110, 101], .int .u64 0, .int .u64 0, .slice none 0 0, .slice (some ⟨w.heap.size + 1 + 1 + 1, 0, none⟩) 1 1] 29)).alloc (.cells #[.int .i64 1] 3)) 40 #[.int .i64 1, .int .i64 2, .int .u64 0, str [116], .slice none 0 0, .bool false] (by simp)); exact (this.alloc (.cells #[.slice (some ⟨w.heap.size + 1 + 1, 0, none⟩) 1 1] 22))
  have HB3 : Hid (Blk ((((w.alloc (.cells #[.slice (some ⟨w.heap.size + 1, 0, none⟩) 1 1, .int .i64 1, .int .i64 1, str [110, 111, 110, 101], .int .u64 0, .int .u64 0, .slice none 0 0, .slice (some ⟨w.heap.size + 1 + 1 + 1, 0, none⟩) 1 1] 29)).alloc (.cells #[.int .i64 1] 3)).alloc (.cells #[.int .i64 1, .int .i64 2, .int .u64 0, str [116], .slice none 0 0, .bool false] 40)).alloc (.cells #[.slice (some ⟨w.heap.size + 1 + 1, 0, none⟩) 1 1] 22)) (w.heap.size + 1 + 1 + 1) 22 #[.slice (some ⟨w.heap.size + 1 + 1, 0, none⟩) 1 1]) := by unfold Hid; exact Blk.newL _ _ _ (by simp)
  show bodyPost _ _ _ _ _ ((((w.alloc (.cells #[.slice (some ⟨w.heap.size + 1, 0, none⟩) 1 1, .int .i64 1, .int .i64 1, str [110, 111, 110, 101], .int .u64 0, .int .u64 0, .slice none 0 0, .slice (some ⟨w.heap.size + 1 + 1 + 1, 0, none⟩) 1 1] 29)).alloc (.cells #[.int .i64 1] 3)).alloc (.cells #[.int .i64 1, .int .i64 2, .int .u64 0, str [116], .slice none 0 0, .bool false] 40)).alloc (.cells #[.slice (some ⟨w.heap.size + 1 + 1, 0, none⟩) 1 1] 22))
  generalize ((((w.alloc (.cells #[.slice (some ⟨w.heap.size + 1, 0, none⟩) 1 1, .int .i64 1, .int .i64 1, str [110, 111, 110, 101], .int .u64 0, .int .u64 0, .slice none 0 0, .slice (some ⟨w.heap.size + 1 + 1 + 1, 0, none⟩) 1 1] 29)).alloc (.cells #[.int .i64 1] 3)).alloc (.cells #[.int .i64 1, .int .i64 2, .int .u64 0, str [116], .slice none 0 0, .bool false] 40)).alloc (.cells #[.slice (some ⟨w.heap.size + 1 + 1, 0, none⟩) 1 1] 22)) = V at *
  refine bodyPost_ret (results_cell rfl _ (by rfl) HB0.out Try.underlying29 rfl (by kernel_rfl)) rfl ⟨⟨some ⟨w.heap.size + 1, 0, none⟩, 1, none, 0, some ⟨w.heap.size + 1 + 1 + 1, 0, none⟩, 1⟩, rfl, HE.out, ⟨?_, ?_, ?_, ?_⟩, Nat.le_refl _⟩
  · intro _
    exact ⟨w.heap.size + 1, 0, rfl, HB1.out.lt, fun i hi => by
      have hi : i = 0 := by have : i < 1 := hi; omega
      subst hi; exact HB1.out.cell 0⟩
  · intro b o h _
    cases h
    show w.heap.size ≤ w.heap.size + 1
    omega
  · intro h0; exact absurd h0 (Nat.not_lt_zero _)
  · intro _
    refine ⟨w.heap.size + 1 + 1 + 1, 0, rfl, HB3.out.lt, by show w.heap.size ≤ w.heap.size + 1 + 1 + 1; omega, fun i hi => ?_⟩
    have hi : i = 0 := by have : i < 1 := hi; omega
    subst hi
    refine ⟨some ⟨w.heap.size + 1 + 1, 0, none⟩, 1, HB3.out.cell 0, Nat.le_refl _, fun _ => ⟨w.heap.size + 1 + 1, 0, rfl, HB2.out.lt, by show w.heap.size ≤ w.heap.size + 1 + 1; omega, fun j hj => ?_⟩⟩
    have hj : j = 0 := by have : j < 1 := hj; omega
    subst hj
    exact ⟨none, 0, ⟨HB2.out.cell 0, HB2.out.cell 1, HB2.out.cell 2, HB2.out.cell 3, HB2.out.cell 4, HB2.out.cell 5⟩, IsL.leaf⟩
theorem someA_bytes : abuildV (someA [116]) = .tuple #[str [129, 1, 1, 0, 130, 1, 0, 129, 129, 130, 1, 65, 116], .int .i64 0] := by
  have h : (someA [116]).bytes = [129, 1, 1, 0, 130, 1, 0, 129, 129, 130, 1, 65, 116] := by decide +kernel
  unfold abuildV AV.right
  rw [someA_shaped, h]
  rfl
set_option maxRecDepth 20000 in
theorem awake15_any (w : World) : Calls Try.prog 10 #[] w (Ret (.bool true) w) := by
  have K1 := hid (fun W => some_any15 W)
  have K2 := hid (fun (m : AA) (hm : 1 ≤ m.tc) (Q : Nat → Prop) W (h : AsL W Q (someA [116]) m) => someA_bytes ▸ aBuild_any (someA [116]) (someA_wf (by decide)) (fun _ => someA_small (by decide)) m hm W ⟨h.t, fun _ _ _ _ => trivial, h.p.weak (fun _ _ _ => trivial), h.r.weak (fun _ _ _ => trivial)⟩)
  go_enter Try.func10, Try.ntmps10
  go_wp2_with (first | (go_at_call 38; refine (K1.out _).mono ?_; rintro x w1 ⟨m, rfl, hb1, hl1, hm⟩; have H1 := hid hb1; have HL1 := hid hl1; have HM := hid hm; clear hb1 hl1 hm) | (go_at_call 21; refine (K2.out m HM.out _ _ HL1.out).mono ?_; rintro x w2 ⟨rfl, hb2⟩; have H2 := hid hb2; clear hb2))
  go_ret
  exact Ret.mk rfl (H1.out.trans H2.out)
end Go.Proofs.Ytogjghmoankleaa


namespace Go.Proofs.Ytogjghmoankleaa
open Go.RowKit
set_option linter.unusedVariables false
set_option linter.unusedSimpArgs false

theorem few10L_any (e : EV) (w : World) : Calls Try.prog 23 #[.agg #[.int .i64 e.sch, str e.name, .int .u64 (e.node : Int), .int .u64 (e.svc : Int)]] w (Ret (.bool (decide (e.name.length ≤ 100))) w) := by
  go_enter Try.func23, Try.ntmps23
  go_wp2
  go_ret
  refine Ret.mk ?_ ((Mod.refl _ _).alloc _)
  simp
  omega
def PV.few (p : PV) : Bool := decide (p.d.name.length ≤ 100) && decide (p.s.name.length ≤ 100) && decide (p.r.name.length ≤ 100)
set_option maxRecDepth 20000 in
set_option maxHeartbeats 800000 in
theorem few11P_any (p : PV) (w : World) : Calls Try.prog 31 #[.agg p.c] w (Ret (.bool p.few) w) := by
  have HE := hid ((Mod.refl [] w).alloc (.cells p.c 68))
  have HB := hid (Blk.new w 68 p.c)
  have HF : Hid (p.few = (decide (p.d.name.length ≤ 100) && decide (p.s.name.length ≤ 100) && decide (p.r.name.length ≤ 100))) := rfl
  have K1 := hid (fun W => few10L_any p.d W)
  have K2 := hid (fun W => few10L_any p.s W)
  have K3 := hid (fun W => few10L_any p.r W)
  cases h1 : decide (p.d.name.length ≤ 100)
  all_goals cases h2 : decide (p.s.name.length ≤ 100)
  all_goals cases h3 : decide (p.r.name.length ≤ 100)
  all_goals rw [h1] at K1 HF
  all_goals rw [h2] at K2 HF
  all_goals rw [h3] at K3 HF
  all_goals clear h1 h2 h3
  all_goals go_enter Try.func31, Try.ntmps31
  all_goals go_upto_region 1 with fail
  all_goals generalize w.alloc (.cells p.c 68) = V at *
  all_goals have b2 : ∀ e : Later V, e.x.cell? ⟨w.heap.size, 2, none⟩ = some (.int .i64 p.d.sch) := HB.out.cellL 2 rfl
  all_goals have b3 : ∀ e : Later V, e.x.cell? ⟨w.heap.size, 3, none⟩ = some (str p.d.name) := HB.out.cellL 3 rfl
  all_goals have b4 : ∀ e : Later V, e.x.cell? ⟨w.heap.size, 4, none⟩ = some (.int .u64 (p.d.node : Int)) := HB.out.cellL 4 rfl
  all_goals have b5 : ∀ e : Later V, e.x.cell? ⟨w.heap.size, 5, none⟩ = some (.int .u64 (p.d.svc : Int)) := HB.out.cellL 5 rfl
  all_goals have b6 : ∀ e : Later V, e.x.cell? ⟨w.heap.size, 6, none⟩ = some (.int .i64 p.s.sch) := HB.out.cellL 6 rfl
  all_goals have b7 : ∀ e : Later V, e.x.cell? ⟨w.heap.size, 7, none⟩ = some (str p.s.name) := HB.out.cellL 7 rfl
  all_goals have b8 : ∀ e : Later V, e.x.cell? ⟨w.heap.size, 8, none⟩ = some (.int .u64 (p.s.node : Int)) := HB.out.cellL 8 rfl
  all_goals have b9 : ∀ e : Later V, e.x.cell? ⟨w.heap.size, 9, none⟩ = some (.int .u64 (p.s.svc : Int)) := HB.out.cellL 9 rfl
  all_goals have b10 : ∀ e : Later V, e.x.cell? ⟨w.heap.size, 10, none⟩ = some (.int .i64 p.r.sch) := HB.out.cellL 10 rfl
  all_goals have b11 : ∀ e : Later V, e.x.cell? ⟨w.heap.size, 11, none⟩ = some (str p.r.name) := HB.out.cellL 11 rfl
  all_goals have b12 : ∀ e : Later V, e.x.cell? ⟨w.heap.size, 12, none⟩ = some (.int .u64 (p.r.node : Int)) := HB.out.cellL 12 rfl
  all_goals have b13 : ∀ e : Later V, e.x.cell? ⟨w.heap.size, 13, none⟩ = some (.int .u64 (p.r.svc : Int)) := HB.out.cellL 13 rfl
  all_goals obtain ⟨e0, he0⟩ := Later.self V
  all_goals rw [he0]
  all_goals clear he0
  all_goals go_wp2_with (go_at_call 23; first | ((with_reducible refine (Ret.later (K1.out _)).mono ?_); rintro x _ ⟨rfl, e1, rfl⟩) | ((with_reducible refine (Ret.later (K2.out _)).mono ?_); rintro x _ ⟨rfl, e1, rfl⟩) | ((with_reducible refine (Ret.later (K3.out _)).mono ?_); rintro x _ ⟨rfl, e1, rfl⟩))
  all_goals go_ret
  all_goals exact Ret.mk (by rw [HF.out]; rfl) (HE.out.trans e1.h)
def bsFew (bs : Nat → BV) (i : Nat) : Bool := decide (4100 < (bs i).data.length)
def bunFew (p : PV) (bs : Nat → BV) (k : Nat) : Bool := decide (k ≤ 20) && ((firstOf (bsFew bs) k).isNone && p.few)
theorem bunFew_spec {p : PV} {bs : Nat → BV} {k : Nat} (h : bunFew p bs k = true) : k ≤ 20 ∧ p.few = true ∧ ∀ i, i < k → (bs i).data.length ≤ 4100 := by
  unfold bunFew at h
  simp only [Bool.and_eq_true, decide_eq_true_eq] at h
  refine ⟨h.1, h.2.2, fun i hi => ?_⟩
  cases hf : firstOf (bsFew bs) k with
  | some x => rw [hf] at h; simp at h
  | none =>
    have := firstOf_no hf i hi
    unfold bsFew at this
    simp at this
    exact this
theorem bunFew_long {p : PV} {bs : Nat → BV} {k i : Nat} (hi : i < k) (h : 4100 < (bs i).data.length) : bunFew p bs k = false := by
  cases hb : bunFew p bs k with
  | false => rfl
  | true => have := (bunFew_spec hb).2.2 i hi; omega
end Go.Proofs.Ytogjghmoankleaa


namespace Go.Proofs.Ytogjghmoankleaa
open Go.RowKit
set_option linter.unusedVariables false
set_option linter.unusedSimpArgs false

def fewP (p : PL) : Bool := T.all (fun i => few (p.a i).t 1000) (min p.k 20) && decide (p.k ≤ 10)
def fewA (a : AV) : Bool := T.all (fun i => fewP (a.rs i)) (min a.rk 30) && (decide (a.tk ≤ 20) && decide (a.rk ≤ 20) && fewP a.ps && decide (a.src.name.length ≤ 100))
set_option maxRecDepth 20000 in
set_option maxHeartbeats 1600000 in
theorem fewPairs_any (p : PL) (hw : p.wf) (A : Option Addr) (c : Nat) (w : World) (h : PsL w anyQ A p) : Calls Try.prog 39 #[.slice A p.k c] w (Ret (.bool (fewP p)) w) := by
  have HL := hid h
  have HW := hid hw
  have k0 : (p.k : Int) < 4611686018427387904 := by have := hw.1; omega
  have HF : Hid (fewP p = (T.all (fun i => few (p.a i).t 1000) (min p.k 20) && decide (p.k ≤ 10))) := rfl
  generalize hkk : p.k = k at *
  have HKK := hid hkk
  clear hw h hkk
  go_enter Try.func39, Try.ntmps39
  go_wp2_with fail
  go_loopw [3] (fun s3 wr => ∃ i : Nat, s3 = .int .i64 (i : Int) ∧ Hid (i ≤ min k 20 ∧ T.all (fun i => few (p.a i).t 1000) i = true) ∧ ∃ e : Later w, wr = e.x) (fun s3 _ => k - (intOf s3).toNat)
  case atStart => obtain ⟨e, he⟩ := Later.self w; exact ⟨0, rfl, (show Hid _ from ⟨Nat.zero_le _, rfl⟩), e, he⟩
  case round =>
    obtain ⟨i, rfl, hi, e, rfl⟩ := hrel
    have i0 : (0 : Int) ≤ (i : Int) := by omega
    by_cases hlt : i < k ∧ i < 20
    · obtain ⟨b, o, Ai, ci, rfl, hb, hat, hI⟩ := HL.out.at e.h (i := i) (by have := HKK.out; omega)
      obtain ⟨q0, q1, q2, q3, q4⟩ := hat.five
      have i1 : (i : Int) < (k : Int) := by omega
      have taa : decide (i < k) = true := decide_eq_true (by exact hlt.1)
      have tab : (i < k) = True := eq_true (by exact hlt.1)
      have tba : decide ((i : Int) < 20) = true := decide_eq_true (by omega)
      have tbb : ((i : Int) < 20) = True := eq_true (by omega)
      have tca : decide (i < 20) = true := decide_eq_true (by exact hlt.2)
      have tcb : (i < 20) = True := eq_true (by exact hlt.2)
      have HLT := hid hlt
      have KF := hid (fun e : Later w => fun (hI : IsL e.x anyQ (p.a i).t Ai) => iFew_any (p.a i).t 1000 (by decide) ((HW.out.2 i (by have := HKK.out; omega)).1) Ai ci e.x hI)
      have HI := hid hI
      clear hlt hI hb hat
      cases hf : few (p.a i).t 1000 with
      | false =>
        rw [hf] at KF
        have HN := hid (all_no (f := fun i => few (p.a i).t 1000) (k := min k 20) (by have := HLT.out; omega) hf)
        have HFIN : Hid (fewP p = false) := hid (by rw [HF.out, HN.out]; rfl)
        clear hf
        go_wp2_with (first | (go_at_call 77; refine (Ret.later (KF.out _ HI.out)).mono ?_; rintro x _ ⟨rfl, e, rfl⟩))
        go_ret
        exact Ret.mk (by rw [HFIN.out]; rfl) e.h
      | true =>
        rw [hf] at KF
        have HY := hid hf
        clear hf
        go_wp2_with (first | (go_at_call 77; refine (Ret.later (KF.out _ HI.out)).mono ?_; rintro x _ ⟨rfl, e, rfl⟩))
        go_roundw
        case rel => exact ⟨i + 1, by go_num, (show Hid _ from ⟨by have := HLT.out; omega, by rw [T.all, hi.out.2, HY.out]; rfl⟩), e, rfl⟩
        case measure => have := HLT.out; simp [intOf]; omega
    · have him : i = min k 20 := by have := hi.out.1; omega
      have HFIN : Hid (fewP p = decide (k ≤ 10)) := hid (by rw [HF.out, ← him, hi.out.2]; rfl)
      by_cases hk : i < k
      · have h20 : i = 20 := by omega
        have HX : Hid (fewP p = false) := hid (by rw [HFIN.out]; exact decide_eq_false (by omega))
        have taa : decide (i < k) = true := decide_eq_true (by exact hk)
        have tab : (i < k) = True := eq_true (by exact hk)
        have tba : decide ((i : Int) < 20) = false := decide_eq_false (by omega)
        have tbb : ((i : Int) < 20) = False := eq_false (by omega)
        have tca : decide (i < 20) = false := decide_eq_false (by omega)
        have tcb : (i < 20) = False := eq_false (by omega)
        have tda : decide ((i : Int) < (k : Int)) = true := decide_eq_true (by omega)
        have tdb : ((i : Int) < (k : Int)) = True := eq_true (by omega)
        have tea : decide (k ≤ 10) = false := decide_eq_false (by omega)
        have teb : (k ≤ 10) = False := eq_false (by omega)
        have tfa : decide ((k : Int) ≤ 10) = false := decide_eq_false (by omega)
        have tfb : ((k : Int) ≤ 10) = False := eq_false (by omega)
        clear hlt hk him h20
        go_wp2_with fail
        go_ret
        exact Ret.mk (by rw [HX.out]; rfl) e.h
      · have hik : i = k := by omega
        have HX := HFIN
        subst hik
        have ta : decide (i < i) = false := by simp
        clear hlt hk him
        by_cases h10 : i ≤ 10
        · rw [decide_eq_true h10] at HX
          have tea : decide (i ≤ 10) = true := decide_eq_true (by omega)
          have teb : (i ≤ 10) = True := eq_true (by omega)
          have tfa : decide ((i : Int) ≤ 10) = true := decide_eq_true (by omega)
          have tfb : ((i : Int) ≤ 10) = True := eq_true (by omega)
          clear h10
          go_wp2_with fail
          go_ret
          exact Ret.mk (by rw [HX.out]; rfl) e.h
        · rw [decide_eq_false h10] at HX
          have tea : decide (i ≤ 10) = false := decide_eq_false (by omega)
          have teb : (i ≤ 10) = False := eq_false (by omega)
          have tfa : decide ((i : Int) ≤ 10) = false := decide_eq_false (by omega)
          have tfb : ((i : Int) ≤ 10) = False := eq_false (by omega)
          clear h10
          go_wp2_with fail
          go_ret
          exact Ret.mk (by rw [HX.out]; rfl) e.h
set_option maxRecDepth 20000 in
set_option maxHeartbeats 4000000 in
theorem few15_any (a : AV) (hw : a.wf) (m : AA) (w : World) (h : AsL w anyQ a m) : Calls Try.prog 11 #[asbV a m] w (Ret (.bool (fewA a)) w) := by
  have HE := hid ((Mod.refl [] w).alloc (.cells (asbC a m) 29))
  have HB0 := hid (Blk.new w 29 (asbC a m))
  have HL := hid (h.ext HE.out)
  have HW := hid hw
  have tk0 : (a.tk : Int) < 4611686018427387904 := by have := hw.1.1; omega
  have rk0 : (a.rk : Int) < 4611686018427387904 := by have := hw.2.2.2.2.1; omega
  have KE := hid (fun W => few10L_any a.src W)
  have HF : Hid (fewA a = (T.all (fun i => fewP (a.rs i)) (min a.rk 30) && (decide (a.tk ≤ 20) && decide (a.rk ≤ 20) && fewP a.ps && decide (a.src.name.length ≤ 100)))) := rfl
  generalize hkk : a.rk = k at *
  have HKK := hid hkk
  clear hw h hkk
  go_enter Try.func11, Try.ntmps11
  go_upto_region 1 with fail
  generalize w.alloc (.cells (asbC a m) 29) = V at *
  have b0 : ∀ e : Later V, e.x.cell? ⟨w.heap.size, 0, none⟩ = some (.slice m.t a.tk m.tc) := HB0.out.cellL 0 rfl
  have b6 : ∀ e : Later V, e.x.cell? ⟨w.heap.size, 6, none⟩ = some (.slice m.p a.ps.k m.pc) := HB0.out.cellL 6 rfl
  have b7 : ∀ e : Later V, e.x.cell? ⟨w.heap.size, 7, none⟩ = some (.slice m.r k m.rc) := HB0.out.cellL 7 (by rw [← HKK.out]; rfl)
  have HRE : Hid (∀ e : Later V, e.x.rangeAt w.heap.size 2 [.int .i64 a.src.sch, str a.src.name, .int .u64 (a.src.node : Int), .int .u64 (a.src.svc : Int)]) := HB0.out.range 2 4 (by rfl)
  have KP := hid (fun e : Later V => fewPairs_any a.ps HW.out.2.2.2.1 m.p m.pc e.x (HL.out.p.ext e.h))
  go_upto_region 2 with fail
  go_loopw [3] (fun s3 wr => ∃ i : Nat, s3 = .int .i64 (i : Int) ∧ Hid (i ≤ min k 30 ∧ T.all (fun i => fewP (a.rs i)) i = true) ∧ ∃ e : Later V, wr = e.x) (fun s3 _ => k - (intOf s3).toNat)
  case atStart => obtain ⟨e, he⟩ := Later.self V; exact ⟨0, rfl, (show Hid _ from ⟨Nat.zero_le _, rfl⟩), e, he⟩
  case round =>
    obtain ⟨i, rfl, hi, e, rfl⟩ := hrel
    have i0 : (0 : Int) ≤ (i : Int) := by omega
    by_cases hlt : i < k ∧ i < 30
    · obtain ⟨b, o, Ai, ci, hmr, hb, q0, hkc, hP⟩ := HL.out.r.at e.h (i := i) (by have := HKK.out; omega)
      rw [hmr] at b7
      have i1 : (i : Int) < (k : Int) := by omega
      have taa : decide (i < k) = true := decide_eq_true (by exact hlt.1)
      have tab : (i < k) = True := eq_true (by exact hlt.1)
      have tba : decide ((i : Int) < 30) = true := decide_eq_true (by omega)
      have tbb : ((i : Int) < 30) = True := eq_true (by omega)
      have tca : decide (i < 30) = true := decide_eq_true (by exact hlt.2)
      have tcb : (i < 30) = True := eq_true (by exact hlt.2)
      have HLT := hid hlt
      have KF := hid (fewPairs_any (a.rs i) (HW.out.2.2.2.2.2 i (by have := HKK.out; omega)) Ai ci e.x hP)
      clear hlt hP hb hkc
      cases hf : fewP (a.rs i) with
      | false =>
        rw [hf] at KF
        have HN := hid (all_no (f := fun i => fewP (a.rs i)) (k := min k 30) (by have := HLT.out; omega) hf)
        have HFIN : Hid (fewA a = false) := hid (by rw [HF.out, HN.out]; rfl)
        clear hf
        go_wp2_with (first | (go_at_call 39; refine (Ret.later (KF.out)).mono ?_; rintro x _ ⟨rfl, e, rfl⟩))
        go_ret
        exact Ret.mk (by rw [HFIN.out]; rfl) (HE.out.trans e.h)
      | true =>
        rw [hf] at KF
        have HY := hid hf
        clear hf
        go_wp2_with (first | (go_at_call 39; refine (Ret.later (KF.out)).mono ?_; rintro x _ ⟨rfl, e, rfl⟩))
        go_roundw
        case rel => exact ⟨i + 1, by go_num, (show Hid _ from ⟨by have := HLT.out; omega, by rw [T.all, hi.out.2, HY.out]; rfl⟩), e, rfl⟩
        case measure => have := HLT.out; simp [intOf]; omega
    · have him : i = min k 30 := by have := hi.out.1; omega
      have HFIN : Hid (fewA a = (decide (a.tk ≤ 20) && decide (k ≤ 20) && fewP a.ps && decide (a.src.name.length ≤ 100))) := hid (by rw [HF.out, ← him, hi.out.2]; rfl)
      have hx : (decide (i < k) && decide (i < 30)) = false := by
        by_cases h1 : i < k
        · rw [decide_eq_false (show ¬ i < 30 by omega), Bool.and_false]
        · rw [decide_eq_false h1]; rfl
      generalize fewP a.ps = FP at *
      generalize decide (a.src.name.length ≤ 100) = FN at *
      generalize fewA a = FA at *
      by_cases hk : i < k
      case pos =>
        have taa : decide (i < k) = true := decide_eq_true (by exact hk)
        have tab : (i < k) = True := eq_true (by exact hk)
        have tba : decide ((i : Int) < 30) = false := decide_eq_false (by omega)
        have tbb : ((i : Int) < 30) = False := eq_false (by omega)
        have tca : decide (i < 30) = false := decide_eq_false (by omega)
        have tcb : (i < 30) = False := eq_false (by omega)
        have tda : decide ((i : Int) < (k : Int)) = true := decide_eq_true (by omega)
        have tdb : ((i : Int) < (k : Int)) = True := eq_true (by omega)
        have h30 : 30 < k := by omega
        clear hlt hk him hx
        go_upto_region 6 with fail
        have uea : decide (k ≤ 20) = false := decide_eq_false (by omega)
        have ueb : (k ≤ 20) = False := eq_false (by omega)
        have ufa : decide ((k : Int) ≤ 20) = false := decide_eq_false (by omega)
        have ufb : ((k : Int) ≤ 20) = False := eq_false (by omega)
        clear h30
        by_cases ht : a.tk ≤ 20
        case neg =>
          have uaa : decide (a.tk ≤ 20) = false := decide_eq_false (by omega)
          have uab : (a.tk ≤ 20) = False := eq_false (by omega)
          have uba : decide ((a.tk : Int) ≤ 20) = false := decide_eq_false (by omega)
          have ubb : ((a.tk : Int) ≤ 20) = False := eq_false (by omega)
          have HX : Hid (FA = false) := hid (by rw [HFIN.out, decide_eq_false ht]; rfl)
          have tk1 : True := trivial
          go_wp2_with (first | (clear tk1; refine wpList_mid (by rfl) 26 _ rfl _ 2 rfl _ _ (HRE.out _) Try.underlying26 rfl (by kernel_rfl) ?_) | (go_at_call 39; refine (Ret.later (KP.out _)).mono ?_; rintro x _ ⟨rfl, e, rfl⟩) | (go_at_call 23; refine (Ret.later (KE.out _)).mono ?_; rintro x _ ⟨rfl, e, rfl⟩))
          go_ret
          exact Ret.mk (by rw [HX.out]; rfl) (HE.out.trans e.h)
        have uaa : decide (a.tk ≤ 20) = true := decide_eq_true (by omega)
        have uab : (a.tk ≤ 20) = True := eq_true (by omega)
        have uba : decide ((a.tk : Int) ≤ 20) = true := decide_eq_true (by omega)
        have ubb : ((a.tk : Int) ≤ 20) = True := eq_true (by omega)
        rw [decide_eq_true ht] at HFIN
        clear ht
        have HX : Hid (FA = false) := hid (by rw [HFIN.out, uea]; rfl)
        have tk1 : True := trivial
        go_wp2_with (first | (clear tk1; refine wpList_mid (by rfl) 26 _ rfl _ 2 rfl _ _ (HRE.out _) Try.underlying26 rfl (by kernel_rfl) ?_) | (go_at_call 39; refine (Ret.later (KP.out _)).mono ?_; rintro x _ ⟨rfl, e, rfl⟩) | (go_at_call 23; refine (Ret.later (KE.out _)).mono ?_; rintro x _ ⟨rfl, e, rfl⟩))
        go_ret
        exact Ret.mk (by rw [HX.out]; rfl) (HE.out.trans e.h)
      have hik : i = k := by omega
      subst hik
      have ta : decide (i < i) = false := by simp
      clear hlt hk him hx
      go_upto_region 6 with fail
      by_cases ht : a.tk ≤ 20
      case neg =>
        have uaa : decide (a.tk ≤ 20) = false := decide_eq_false (by omega)
        have uab : (a.tk ≤ 20) = False := eq_false (by omega)
        have uba : decide ((a.tk : Int) ≤ 20) = false := decide_eq_false (by omega)
        have ubb : ((a.tk : Int) ≤ 20) = False := eq_false (by omega)
        have HX : Hid (FA = false) := hid (by rw [HFIN.out, decide_eq_false ht]; rfl)
        have tk1 : True := trivial
        go_wp2_with (first | (clear tk1; refine wpList_mid (by rfl) 26 _ rfl _ 2 rfl _ _ (HRE.out _) Try.underlying26 rfl (by kernel_rfl) ?_) | (go_at_call 39; refine (Ret.later (KP.out _)).mono ?_; rintro x _ ⟨rfl, e, rfl⟩) | (go_at_call 23; refine (Ret.later (KE.out _)).mono ?_; rintro x _ ⟨rfl, e, rfl⟩))
        go_ret
        exact Ret.mk (by rw [HX.out]; rfl) (HE.out.trans e.h)
      have uaa : decide (a.tk ≤ 20) = true := decide_eq_true (by omega)
      have uab : (a.tk ≤ 20) = True := eq_true (by omega)
      have uba : decide ((a.tk : Int) ≤ 20) = true := decide_eq_true (by omega)
      have ubb : ((a.tk : Int) ≤ 20) = True := eq_true (by omega)
      rw [decide_eq_true ht] at HFIN
      clear ht
      by_cases hk2 : i ≤ 20
      case neg =>
        have uca : decide (i ≤ 20) = false := decide_eq_false (by omega)
        have ucb : (i ≤ 20) = False := eq_false (by omega)
        have uda : decide ((i : Int) ≤ 20) = false := decide_eq_false (by omega)
        have udb : ((i : Int) ≤ 20) = False := eq_false (by omega)
        have HX : Hid (FA = false) := hid (by rw [HFIN.out, decide_eq_false hk2]; rfl)
        have tk1 : True := trivial
        go_wp2_with (first | (clear tk1; refine wpList_mid (by rfl) 26 _ rfl _ 2 rfl _ _ (HRE.out _) Try.underlying26 rfl (by kernel_rfl) ?_) | (go_at_call 39; refine (Ret.later (KP.out _)).mono ?_; rintro x _ ⟨rfl, e, rfl⟩) | (go_at_call 23; refine (Ret.later (KE.out _)).mono ?_; rintro x _ ⟨rfl, e, rfl⟩))
        go_ret
        exact Ret.mk (by rw [HX.out]; rfl) (HE.out.trans e.h)
      have uca : decide (i ≤ 20) = true := decide_eq_true (by omega)
      have ucb : (i ≤ 20) = True := eq_true (by omega)
      have uda : decide ((i : Int) ≤ 20) = true := decide_eq_true (by omega)
      have udb : ((i : Int) ≤ 20) = True := eq_true (by omega)
      rw [decide_eq_true hk2] at HFIN
      clear hk2
      cases FP with
      | false =>
        have HX : Hid (FA = false) := hid (by rw [HFIN.out]; rfl)
        have tk1 : True := trivial
        go_wp2_with (first | (clear tk1; refine wpList_mid (by rfl) 26 _ rfl _ 2 rfl _ _ (HRE.out _) Try.underlying26 rfl (by kernel_rfl) ?_) | (go_at_call 39; refine (Ret.later (KP.out _)).mono ?_; rintro x _ ⟨rfl, e, rfl⟩) | (go_at_call 23; refine (Ret.later (KE.out _)).mono ?_; rintro x _ ⟨rfl, e, rfl⟩))
        go_ret
        exact Ret.mk (by rw [HX.out]; rfl) (HE.out.trans e.h)
      | true =>
      cases FN with
      | false =>
        have HX : Hid (FA = false) := hid (by rw [HFIN.out]; rfl)
        have tk1 : True := trivial
        go_wp2_with (first | (clear tk1; refine wpList_mid (by rfl) 26 _ rfl _ 2 rfl _ _ (HRE.out _) Try.underlying26 rfl (by kernel_rfl) ?_) | (go_at_call 39; refine (Ret.later (KP.out _)).mono ?_; rintro x _ ⟨rfl, e, rfl⟩) | (go_at_call 23; refine (Ret.later (KE.out _)).mono ?_; rintro x _ ⟨rfl, e, rfl⟩))
        go_ret
        exact Ret.mk (by rw [HX.out]; rfl) (HE.out.trans e.h)
      | true =>
      have HX : Hid (FA = true) := hid (by rw [HFIN.out]; rfl)
      have tk1 : True := trivial
      go_wp2_with (first | (clear tk1; refine wpList_mid (by rfl) 26 _ rfl _ 2 rfl _ _ (HRE.out _) Try.underlying26 rfl (by kernel_rfl) ?_) | (go_at_call 39; refine (Ret.later (KP.out _)).mono ?_; rintro x _ ⟨rfl, e, rfl⟩) | (go_at_call 23; refine (Ret.later (KE.out _)).mono ?_; rintro x _ ⟨rfl, e, rfl⟩))
      go_ret
      exact Ret.mk (by rw [HX.out]; rfl) (HE.out.trans e.h)
end Go.Proofs.Ytogjghmoankleaa


namespace Go.Proofs.Ytogjghmoankleaa
open Go.RowKit
set_option linter.unusedVariables false
set_option linter.unusedSimpArgs false

def isID (p : PL) (id : Int) (i : Nat) : Bool := (p.a i).id == id
def IdPost (p : PL) (id kind : Int) (w : World) (e : Ending) (w' : World) : Prop :=
  Ext w w' ∧ ((∃ i A c, firstOf (isID p id) p.k = some i ∧ e = .returned (.tuple #[itemV (p.a i).t A c, .bool ((p.a i).t.kind == kind)])) ∨ (firstOf (isID p id) p.k = none ∧ e = .returned (.tuple #[.agg #[.int .i64 0, .int .u64 0, .string ⟨#[]⟩, .slice none 0 0, .bool false], .bool false])))
set_option maxRecDepth 20000 in
set_option maxHeartbeats 4000000 in
theorem value_any (p : PL) (id kind : Int) (hk : p.k < 4611686018427387904) (A : Option Addr) (c : Nat) (w : World) (h : PsL w anyQ A p) : Calls Try.prog 40 #[.slice A p.k c, .int .i64 id, .int .i64 kind] w (IdPost p id kind w) := by
  have HE := hid ((Mod.refl [] w).alloc (.cells #[.int .i64 0, .int .u64 0, .string ⟨#[]⟩, .slice none 0 0, .bool false] 38))
  have HB0 : Hid (Blk (w.alloc (.cells #[.int .i64 0, .int .u64 0, .string ⟨#[]⟩, .slice none 0 0, .bool false] 38)) w.heap.size 38 #[.int .i64 0, .int .u64 0, .string ⟨#[]⟩, .slice none 0 0, .bool false]) := hid (Blk.new w 38 #[.int .i64 0, .int .u64 0, .string ⟨#[]⟩, .slice none 0 0, .bool false])
  have HL := hid (h.ext HE.out)
  have k0 : (p.k : Int) < 4611686018427387904 := by omega
  generalize hkk : p.k = k at *
  have HKK := hid hkk
  clear hk h hkk
  go_enter Try.func40, Try.ntmps40
  go_upto_region 2 with fail
  have HRN : Hid (w.heap.size < (w.alloc (.cells #[.int .i64 0, .int .u64 0, .string ⟨#[]⟩, .slice none 0 0, .bool false] 38)).heap.size) := hid HB0.out.lt
  generalize w.alloc (.cells #[.int .i64 0, .int .u64 0, .string ⟨#[]⟩, .slice none 0 0, .bool false] 38) = V at *
  go_loopw [12] (fun s12 wr => ∃ i : Nat, s12 = .int .i64 (i : Int) ∧ Hid (i ≤ k ∧ ∀ j, j < i → isID p id j = false) ∧ ∃ e : Later V, wr = e.x) (fun s12 _ => k - (intOf s12).toNat)
  case atStart => obtain ⟨e, he⟩ := Later.self V; exact ⟨0, rfl, (show Hid _ from ⟨Nat.zero_le _, fun j hj => by omega⟩), e, he⟩
  case round =>
    obtain ⟨i, rfl, hi, e, rfl⟩ := hrel
    have i0 : (0 : Int) ≤ (i : Int) := by omega
    by_cases hlt : i < k
    · obtain ⟨b, o, Ai, ci, rfl, hb, ⟨q0, q1, q2, q3, q4, q5⟩, hI⟩ := HL.out.at e.h (i := i) (by have := HKK.out; omega)
      have tc : decide (i < k) = true := by simp [hlt]
      have i1 : (i : Int) < (k : Int) := by omega
      have HLT := hid hlt
      clear hlt hI hb
      go_upto_region 4 with fail
      have HNE : Hid (e.x.heap.size ∉ [w.heap.size]) := hid (by have := HRN.out; have := e.h.size; simp; omega)
      generalize hW1 : World.alloc e.x _ = W1
      have HG1 : Hid (Blk W1 e.x.heap.size 40 (prC (p.a i) Ai ci)) := hid (by rw [← hW1]; exact Blk.new _ _ _)
      have HX1 : Hid (Ext V W1) := hid (by rw [← hW1]; exact e.h.alloc _)
      clear hW1 q0 q1 q2 q3 q4 q5
      generalize e.x.heap.size = G at *
      have g0 : W1.cell? ⟨G, 0, none⟩ = some (.int .i64 (p.a i).id) := HG1.out.cell 0
      cases hq : isID p id i with
      | true =>
        have HQ := hid hq
        have tq : ((p.a i).id == id) = true := hq
        have tq2 : ((p.a i).id = id) = True := by rw [beq_iff_eq] at tq; exact eq_true tq
        clear hq
        go_upto_region 5 with fail
        clear g0
        have HG0 : Hid (∀ W, Mod [w.heap.size] W1 W → W.cell? ⟨G, 1, none⟩ = some (.int .i64 (p.a i).t.kind)) := hid (fun W hW => (HG1.out.mod hW HNE.out).cell 1)
        have HGM : Hid (∀ W, Mod [w.heap.size] W1 W → W.rangeAt G 1 [.int .i64 (p.a i).t.kind, .int .u64 ((p.a i).t.n : Int), str (p.a i).t.s, .slice Ai (p.a i).t.k ci, .bool (p.a i).t.op]) := hid (fun W hW => (HG1.out.mod hW HNE.out).rangeE (Mod.refl _ _) 1 5 (by rfl))
        refine wp_region_held_drew (S := fun w' => Mod [w.heap.size] W1 w') (by kernel_rfl) (Mod.refl _ _).drew (fun hHeld => ?_)
        have hR : Blk W1.drew w.heap.size 38 #[.int .i64 0, .int .u64 0, .string ⟨#[]⟩, .slice none 0 0, .bool false] := (HB0.out.ext HX1.out).drew
        generalize W1.drew = u0 at *
        refine' wpAnyH_take (i := 0) (v := _) rfl (by kernel_rfl) (by kernel_rfl) (by kernel_rfl) (fun _ _ _ h => h) (Or.inl ⟨by rfl, ?hy1⟩) hHeld ?rest1
        case hy1 => (rintro W hM; go_simp; (try with_reducible rfl))
        case rest1 =>
        (try simp only [Act.put, List.getElem_toArray, List.getElem_cons_zero, List.getElem_cons_succ, List.setIfInBounds_toArray, List.set_cons_zero, List.set_cons_succ])
        refine wpAnyH_take (i := 1) rfl (by kernel_rfl) (by kernel_rfl) (by kernel_rfl) (fun _ _ _ h => h) (yieldsIf_mid (by rfl) 38 _ rfl G 1 rfl [.int .i64 (p.a i).t.kind, .int .u64 ((p.a i).t.n : Int), str (p.a i).t.s, .slice Ai (p.a i).t.k ci, .bool (p.a i).t.op] HGM.out Try.underlying38 rfl (by kernel_rfl)) hHeld ?_
        (try simp only [Act.put, List.getElem_toArray, List.getElem_cons_zero, List.getElem_cons_succ, List.setIfInBounds_toArray, List.set_cons_zero, List.set_cons_succ])
        refine' wpAnyH_take (i := 2) (v := _) rfl (by kernel_rfl) (by kernel_rfl) (by kernel_rfl) (fun _ _ _ h => h) (Or.inl ⟨by rfl, ?hy2⟩) hHeld ?rest2
        case hy2 => (rintro W hM; go_simp; (try with_reducible rfl))
        case rest2 =>
        (try simp only [Act.put, List.getElem_toArray, List.getElem_cons_zero, List.getElem_cons_succ, List.setIfInBounds_toArray, List.set_cons_zero, List.set_cons_succ])
        refine' wpAnyH_take (i := 3) (v := _) rfl (by kernel_rfl) (by kernel_rfl) (by kernel_rfl) (fun _ _ _ h => h) (Or.inl ⟨by rfl, ?hy3⟩) hHeld ?rest3
        case hy3 => (rintro W hM; go_simp; (try with_reducible rfl))
        case rest3 =>
        (try simp only [Act.put, List.getElem_toArray, List.getElem_cons_zero, List.getElem_cons_succ, List.setIfInBounds_toArray, List.set_cons_zero, List.set_cons_succ])
        refine' wpAnyH_take (i := 4) (v := _) rfl (by kernel_rfl) (by kernel_rfl) (by kernel_rfl) (fun _ _ _ h => h) (Or.inl ⟨by rfl, ?hy4⟩) hHeld ?rest4
        case hy4 => (rintro W hM; have g1 := HG0.out W hM; go_simp; (try with_reducible rfl))
        case rest4 =>
        (try simp only [Act.put, List.getElem_toArray, List.getElem_cons_zero, List.getElem_cons_succ, List.setIfInBounds_toArray, List.set_cons_zero, List.set_cons_succ])
        refine' wpAnyH_take (i := 5) (v := _) rfl (by kernel_rfl) (by kernel_rfl) (by kernel_rfl) (fun _ _ _ h => h) (Or.inl ⟨by rfl, ?hy5⟩) hHeld ?rest5
        case hy5 => (rintro W hM; go_simp; (try with_reducible rfl))
        case rest5 =>
        (try simp only [Act.put, List.getElem_toArray, List.getElem_cons_zero, List.getElem_cons_succ, List.setIfInBounds_toArray, List.set_cons_zero, List.set_cons_succ])
        refine' wpAnyH_take (i := 6) (v := _) rfl (by kernel_rfl) (by kernel_rfl) (by kernel_rfl) (fun _ _ _ h => h) (Or.inl ⟨by rfl, ?hy6⟩) hHeld ?rest6
        case hy6 => (rintro W hM; go_simp; (try with_reducible rfl))
        case rest6 =>
        (try simp only [Act.put, List.getElem_toArray, List.getElem_cons_zero, List.getElem_cons_succ, List.setIfInBounds_toArray, List.set_cons_zero, List.set_cons_succ])
        refine wpAnyH_ready (rs := [7]) (by kernel_rfl) (by simp) ?_
        refine AllReadyH.cons rfl (fun K hK => ?_) AllReadyH.nil
        refine wp_store_mid 38 _ _ rfl w.heap.size 0 #[.int .i64 (p.a i).t.kind, .int .u64 ((p.a i).t.n : Int), str (p.a i).t.s, .slice Ai (p.a i).t.k ci, .bool (p.a i).t.op] (by rfl) (by rfl) (hR.there (Nat.le_refl 5)) (by kernel_rfl) (by simp [Value.oneCell']) ?_
        have hZB := setCells_all (ds := #[.int .i64 (p.a i).t.kind, .int .u64 ((p.a i).t.n : Int), str (p.a i).t.s, .slice Ai (p.a i).t.k ci, .bool (p.a i).t.op]) hR rfl
        have hZM := setCells_mod (b := w.heap.size) (#[.int .i64 (p.a i).t.kind, .int .u64 ((p.a i).t.n : Int), str (p.a i).t.s, .slice Ai (p.a i).t.k ci, .bool (p.a i).t.op] : Array Value).toList 0 hHeld (.inl (by simp))
        generalize hZ : World.setCells _ w.heap.size 0 _ = z at *
        clear hZ
        refine hK.out _ _ hZM (fun hHeld => ?_)
        clear hK K
        (try simp only [Act.put, List.getElem_toArray, List.getElem_cons_zero, List.getElem_cons_succ, List.setIfInBounds_toArray, List.set_cons_zero, List.set_cons_succ])
        refine' wpAnyH_take (i := 8) (v := _) rfl (by kernel_rfl) (by kernel_rfl) (by kernel_rfl) (fun _ _ _ h => h) (Or.inl ⟨by rfl, ?hy7⟩) hHeld ?rest7
        case hy7 => (rintro W hM; go_simp; (try with_reducible rfl))
        case rest7 =>
        (try simp only [Act.put, List.getElem_toArray, List.getElem_cons_zero, List.getElem_cons_succ, List.setIfInBounds_toArray, List.set_cons_zero, List.set_cons_succ])
        refine wpAnyH_done (by kernel_rfl) ?_ _
        have HZB := hid hZB
        have HEZ : Hid (Ext w z) := hid ((((HE.out.trans HX1.out).of_ext (S := [w.heap.size])).trans hHeld).new (fun k hk => .inr (by rw [List.mem_singleton] at hk; omega)))
        clear hZB hZM hHeld hR
        go_wp2_with fail
        refine bodyPost_ret (results_cell2 rfl _ (by rfl) (by rfl) HZB.out Try.underlying38 rfl (by kernel_rfl)) rfl ⟨HEZ.out, .inl ⟨i, Ai, ci, ?_, ?_⟩⟩
        · rw [HKK.out]; exact firstOf_some HLT.out HQ.out hi.out.2
        · first | rfl | simp
      | false =>
        have HQ := hid hq
        have tq : ((p.a i).id == id) = false := hq
        have tq2 : ((p.a i).id = id) = False := by rw [beq_eq_false_iff_ne] at tq; exact eq_false tq
        clear hq
        go_wp2_with fail
        go_roundw
        case rel => exact ⟨i + 1, by go_num, (show Hid _ from ⟨HLT.out, fun j hj => by
          by_cases e : j = i
          · subst e; exact HQ.out
          · exact hi.out.2 j (by omega)⟩), ⟨W1, HX1.out⟩, rfl⟩
        case measure => have := HLT.out; simp [intOf]; omega
    · obtain rfl : i = k := by have := hi.out.1; omega
      have tc : decide (i < i) = false := by simp
      obtain ⟨c0, c1, c2, c3, c4⟩ := cells5 (t := numT 0) (A := none) (c := 0) (HB0.out.later e)
      have f0 := (HB0.out.later e).frozen 0
      have f1 := (HB0.out.later e).frozen 1
      have f2 := (HB0.out.later e).frozen 2
      have f3 := (HB0.out.later e).frozen 3
      have f4 := (HB0.out.later e).frozen 4
      have HEE := hid (HE.out.trans e.h)
      obtain ⟨d0, d1, d2, d3, d4⟩ := cells5 (set5_blk (t := numT 0) (A := none) (c := 0) (t0 := numT 0) (A0 := none) (c0 := 0) (HB0.out.later e))
      go_wp2_with fail
      show bodyPost _ _ _ _ _ (set5 e.x w.heap.size (numT 0) none 0)
      have HBF := hid (set5_blk (t := numT 0) (A := none) (c := 0) (t0 := numT 0) (A0 := none) (c0 := 0) (HB0.out.later e))
      refine bodyPost_ret (results_cell2 rfl _ (by rfl) (by rfl) HBF.out Try.underlying38 rfl (by kernel_rfl)) rfl ⟨set5_mod HEE.out (Nat.le_refl _), .inr ⟨?_, rfl⟩⟩
      rw [HKK.out]; exact firstOf_none hi.out.2
end Go.Proofs.Ytogjghmoankleaa


namespace Go.Proofs.Ytogjghmoankleaa
open Go.RowKit
set_option linter.unusedVariables false
set_option linter.unusedSimpArgs false

theorem value_some (p : PL) (id kind : Int) (hk : p.k < 4611686018427387904) (A : Option Addr) (c : Nat) (w : World) (h : PsL w anyQ A p) {i : Nat} (hi : firstOf (isID p id) p.k = some i) : Calls Try.prog 40 #[.slice A p.k c, .int .i64 id, .int .i64 kind] w (fun e w' => ∃ A c, e = .returned (.tuple #[itemV (p.a i).t A c, .bool ((p.a i).t.kind == kind)]) ∧ Ext w w') := by
  refine (value_any p id kind hk A c w h).mono ?_
  rintro e w' ⟨hE, (⟨j, A, c, hf, rfl⟩ | ⟨hf, rfl⟩)⟩
  · rw [hi] at hf; cases hf; exact ⟨A, c, rfl, hE⟩
  · rw [hi] at hf; cases hf
theorem value_none (p : PL) (id kind : Int) (hk : p.k < 4611686018427387904) (A : Option Addr) (c : Nat) (w : World) (h : PsL w anyQ A p) (hi : firstOf (isID p id) p.k = none) : Calls Try.prog 40 #[.slice A p.k c, .int .i64 id, .int .i64 kind] w (Ret (.tuple #[.agg #[.int .i64 0, .int .u64 0, .string ⟨#[]⟩, .slice none 0 0, .bool false], .bool false]) w) := by
  refine (value_any p id kind hk A c w h).mono ?_
  rintro e w' ⟨hE, (⟨j, A, c, hf, rfl⟩ | ⟨hf, rfl⟩)⟩
  · rw [hi] at hf; cases hf
  · exact ⟨rfl, hE⟩
def numV (p : PL) (id : Int) : Value := match firstOf (isID p id) p.k with | some i => if (p.a i).t.kind == 0 then .tuple #[.int .u64 ((p.a i).t.n : Int), .bool true] else .tuple #[.int .u64 0, .bool false] | none => .tuple #[.int .u64 0, .bool false]
def strV (p : PL) (id : Int) : Value := match firstOf (isID p id) p.k with | some i => if (p.a i).t.kind == 2 then .tuple #[str (p.a i).t.s, .bool true] else .tuple #[str [], .bool false] | none => .tuple #[str [], .bool false]
set_option maxRecDepth 20000 in
set_option maxHeartbeats 1600000 in
theorem aNum_any (p : PL) (id : Int) (hk : p.k < 4611686018427387904) (A : Option Addr) (c : Nat) (w : World) (h : PsL w anyQ A p) : Calls Try.prog 12 #[.slice A p.k c, .int .i64 id] w (Ret (numV p id) w) := by
  cases hf : firstOf (isID p id) p.k with
  | none =>
    have K := hid (value_none p id 0 hk A c w h hf)
    have HX : Hid (numV p id = .tuple #[.int .u64 0, .bool false]) := hid (by unfold numV; rw [hf])
    clear hk h hf
    go_enter Try.func12, Try.ntmps12
    go_wp2_with (go_at_call 40; refine K.out.mono ?_; rintro x w1 ⟨rfl, hb⟩; have H1 := hid hb; clear hb)
    refine bodyPost_ret (v := .tuple #[.int .u64 0, .bool false]) (by simp [results, Try.results12, go_sem]) rfl ?_
    exact Ret.mk (by rw [HX.out]) (H1.out.alloc _)
  | some i =>
    have K := hid (value_some p id 0 hk A c w h hf)
    cases hq : ((p.a i).t.kind == 0) with
    | true =>
      have HX : Hid (numV p id = .tuple #[.int .u64 ((p.a i).t.n : Int), .bool true]) := hid (by unfold numV; rw [hf]; dsimp only; rw [hq]; rfl)
      rw [hq] at K
      clear hk h hf hq
      go_enter Try.func12, Try.ntmps12
      go_wp2_with (go_at_call 40; refine K.out.mono ?_; rintro x w1 ⟨A1, c1, rfl, hb⟩; have H1 := hid hb; clear hb)
      refine bodyPost_ret (v := .tuple #[.int .u64 ((p.a i).t.n : Int), .bool true]) (by simp [results, Try.results12, go_sem]) rfl ?_
      exact Ret.mk (by rw [HX.out]) (H1.out.alloc _)
    | false =>
      have HX : Hid (numV p id = .tuple #[.int .u64 0, .bool false]) := hid (by unfold numV; rw [hf]; dsimp only; rw [hq]; rfl)
      rw [hq] at K
      clear hk h hf hq
      go_enter Try.func12, Try.ntmps12
      go_wp2_with (go_at_call 40; refine K.out.mono ?_; rintro x w1 ⟨A1, c1, rfl, hb⟩; have H1 := hid hb; clear hb)
      refine bodyPost_ret (v := .tuple #[.int .u64 0, .bool false]) (by simp [results, Try.results12, go_sem]) rfl ?_
      exact Ret.mk (by rw [HX.out]) (H1.out.alloc _)
set_option maxRecDepth 20000 in
set_option maxHeartbeats 1600000 in
theorem aStr_any (p : PL) (id : Int) (hk : p.k < 4611686018427387904) (A : Option Addr) (c : Nat) (w : World) (h : PsL w anyQ A p) : Calls Try.prog 13 #[.slice A p.k c, .int .i64 id] w (Ret (strV p id) w) := by
  cases hf : firstOf (isID p id) p.k with
  | none =>
    have K := hid (value_none p id 2 hk A c w h hf)
    have HX : Hid (strV p id = .tuple #[str [], .bool false]) := hid (by unfold strV; rw [hf])
    clear hk h hf
    go_enter Try.func13, Try.ntmps13
    go_wp2_with (go_at_call 40; refine K.out.mono ?_; rintro x w1 ⟨rfl, hb⟩; have H1 := hid hb; clear hb)
    refine bodyPost_ret (v := .tuple #[str [], .bool false]) (by simp [results, Try.results13, go_sem]) rfl ?_
    exact Ret.mk (by rw [HX.out]) (H1.out.alloc _)
  | some i =>
    have K := hid (value_some p id 2 hk A c w h hf)
    cases hq : ((p.a i).t.kind == 2) with
    | true =>
      have HX : Hid (strV p id = .tuple #[str (p.a i).t.s, .bool true]) := hid (by unfold strV; rw [hf]; dsimp only; rw [hq]; rfl)
      rw [hq] at K
      clear hk h hf hq
      go_enter Try.func13, Try.ntmps13
      go_wp2_with (go_at_call 40; refine K.out.mono ?_; rintro x w1 ⟨A1, c1, rfl, hb⟩; have H1 := hid hb; clear hb)
      refine bodyPost_ret (v := .tuple #[str (p.a i).t.s, .bool true]) (by simp [results, Try.results13, go_sem]) rfl ?_
      exact Ret.mk (by rw [HX.out]) (H1.out.alloc _)
    | false =>
      have HX : Hid (strV p id = .tuple #[str [], .bool false]) := hid (by unfold strV; rw [hf]; dsimp only; rw [hq]; rfl)
      rw [hq] at K
      clear hk h hf hq
      go_enter Try.func13, Try.ntmps13
      go_wp2_with (go_at_call 40; refine K.out.mono ?_; rintro x w1 ⟨A1, c1, rfl, hb⟩; have H1 := hid hb; clear hb)
      refine bodyPost_ret (v := .tuple #[str [], .bool false]) (by simp [results, Try.results13, go_sem]) rfl ?_
      exact Ret.mk (by rw [HX.out]) (H1.out.alloc _)
/-- A text of these pairs alone. -/
def parA (p : PL) : AV := ⟨0, fun _ => 0, 0, ⟨0, [], 0, 0⟩, p, 0, fun _ => p⟩
theorem parA_wf {p : PL} (hw : p.wf) : (parA p).wf := ⟨⟨by show (0 : Nat) < 4611686018427387904; omega, fun i hi => absurd hi (Nat.not_lt_zero _)⟩, by show _ ≤ (0 : Int) ∧ (0 : Int) ≤ _; omega, by show (0 : Nat) < 4611686018427387904; omega, hw, by show (0 : Nat) < 4611686018427387904; omega, fun i hi => absurd hi (Nat.not_lt_zero _)⟩
set_option maxRecDepth 20000 in
set_option maxHeartbeats 8000000 in
theorem asbValues_any (p : PL) (hw : p.wf) (id : Int) (A : Option Addr) (c : Nat) (w : World) (h : PsL w anyQ A p) : Calls Try.prog 3 #[.slice A p.k c, .int .i64 id] w (Ret (.bool true) w) := by
  have HE := hid ((Mod.refl [] w).alloc (.cells #[.slice none 0 0, .int .i64 0, .int .i64 0, str [], .int .u64 0, .int .u64 0, .slice A p.k c, .slice none 0 0] 29))
  have HB0 : Hid (Blk (w.alloc (.cells #[.slice none 0 0, .int .i64 0, .int .i64 0, str [], .int .u64 0, .int .u64 0, .slice A p.k c, .slice none 0 0] 29)) w.heap.size 29 #[.slice none 0 0, .int .i64 0, .int .i64 0, str [], .int .u64 0, .int .u64 0, .slice A p.k c, .slice none 0 0]) := hid (Blk.new _ _ _)
  have HL := hid (h.ext HE.out)
  have HW := hid hw
  go_enter Try.func3, Try.ntmps3
  go_upto_region 2 with fail
  show Code.wp _ _ _ _ (w.alloc (.cells #[.slice none 0 0, .int .i64 0, .int .i64 0, str [], .int .u64 0, .int .u64 0, .slice A p.k c, .slice none 0 0] 29))
  generalize w.alloc (.cells #[.slice none 0 0, .int .i64 0, .int .i64 0, str [], .int .u64 0, .int .u64 0, .slice A p.k c, .slice none 0 0] 29) = V at *
  have KF : Hid (∀ e : Later V, Calls Try.prog 11 #[.agg #[.slice none 0 0, .int .i64 0, .int .i64 0, str [], .int .u64 0, .int .u64 0, .slice A p.k c, .slice none 0 0]] e.x (Ret (.bool (fewA (parA p))) e.x)) := hid (fun e => few15_any (parA p) (parA_wf hw) ⟨none, 0, A, c, none, 0⟩ e.x ⟨fun h0 => absurd h0 (Nat.not_lt_zero _), fun _ _ _ h0 => trivial, HL.out.ext e.h, fun h0 => absurd h0 (Nat.not_lt_zero _)⟩)
  have KN := hid (fun e : Later V => aNum_any p id hw.1 A c e.x (HL.out.ext e.h))
  have KS := hid (fun e : Later V => aStr_any p id hw.1 A c e.x (HL.out.ext e.h))
  have k0 : (p.k : Int) < 4611686018427387904 := by have := hw.1; omega
  generalize fewA (parA p) = B at *
  clear hw h
  obtain ⟨e, he⟩ := Later.self V
  rw [he]
  clear he
  have tk1 : True := trivial
  cases B with
  | false =>
    go_wp2_with (first | (go_at_call 10; refine (Ret.later (awake15_any _)).mono ?_; rintro x _ ⟨rfl, e, rfl⟩) | (go_at_call 11; refine (Ret.later (KF.out _)).mono ?_; rintro x _ ⟨rfl, e, rfl⟩) | (go_at_call 12; refine (Ret.later (KN.out _)).mono ?_; rintro x _ ⟨rfl, e, rfl⟩) | (go_at_call 13; refine (Ret.later (KS.out _)).mono ?_; rintro x _ ⟨rfl, e, rfl⟩) | (clear tk1; refine wpList_row (by rfl) 29 _ rfl _ rfl (HB0.out.later _) Try.underlying29 rfl (by kernel_rfl) ?_))
    go_ret
    exact Ret.mk rfl (HE.out.trans e.h)
  | true =>
  cases hf : firstOf (isID p id) p.k with
  | none =>
    have KN0 : Hid (numV p id = .tuple #[.int .u64 0, .bool false]) := hid (by unfold numV; rw [hf])
    have KS0 : Hid (strV p id = .tuple #[str [], .bool false]) := hid (by unfold strV; rw [hf])
    rw [KN0.out] at KN
    rw [KS0.out] at KS
    clear KN0 KS0
    have HFO := hid hf
    clear hf
    go_upto_region 7 with (first | (go_at_call 10; refine (Ret.later (awake15_any _)).mono ?_; rintro x _ ⟨rfl, e, rfl⟩) | (go_at_call 11; refine (Ret.later (KF.out _)).mono ?_; rintro x _ ⟨rfl, e, rfl⟩) | (go_at_call 12; refine (Ret.later (KN.out _)).mono ?_; rintro x _ ⟨rfl, e, rfl⟩) | (go_at_call 13; refine (Ret.later (KS.out _)).mono ?_; rintro x _ ⟨rfl, e, rfl⟩) | (clear tk1; refine wpList_row (by rfl) 29 _ rfl _ rfl (HB0.out.later _) Try.underlying29 rfl (by kernel_rfl) ?_))
    go_loopw [10] (fun s10 wr => ∃ i : Nat, s10 = .int .i64 (i : Int) ∧ Hid (i ≤ p.k ∧ ∀ j, j < i → isID p id j = false) ∧ ∃ e : Later V, wr = e.x) (fun s10 _ => p.k - (intOf s10).toNat)
    case atStart => exact ⟨0, rfl, (show Hid _ from ⟨Nat.zero_le _, fun j hj => by omega⟩), e, rfl⟩
    case round =>
      clear e
      obtain ⟨i, rfl, hi, e, rfl⟩ := hrel
      have i0' : (0 : Int) ≤ (i : Int) := by omega
      by_cases hlt : i < p.k
      · obtain ⟨b, o, Ai, ci, rfl, hb, hat, hI⟩ := HL.out.at e.h hlt
        obtain ⟨q0, q1, q2, q3, q4⟩ := hat.five
        have qi := hat.1
        have tc : decide (i < p.k) = true := by simp [hlt]
        have i1 : (i : Int) < (p.k : Int) := by omega
        have HLT := hid hlt
        clear hlt hI hb hat
        cases hq : isID p id i with
        | true =>
          have h1 := firstOf_some HLT.out hq hi.out.2
          rw [HFO.out] at h1
          cases h1
        | false =>
          have HQ := hid hq
          have tq : ((p.a i).id == id) = false := hq
          have tq2 : ((p.a i).id = id) = False := by rw [beq_eq_false_iff_ne] at tq; exact eq_false tq
          clear hq
          go_wp2_with fail
          go_roundw
          case rel => exact ⟨i + 1, by go_num, (show Hid _ from ⟨HLT.out, fun j hj => by
            by_cases e : j = i
            · subst e; exact HQ.out
            · exact hi.out.2 j (by omega)⟩), e, rfl⟩
          case measure => have := HLT.out; simp [intOf]; omega
      · have tc : decide (i < p.k) = false := by simp [hlt]
        have i1 : ((i : Int) < (p.k : Int)) = False := eq_false (by omega)
        clear hlt
        go_wp2_with fail
        go_ret
        exact Ret.mk (by first | rfl | simp) (HE.out.trans e.h)
  | some i0 =>
    cases hq0 : ((p.a i0).t.kind == 0) with
    | true =>
      have hq2 : ((p.a i0).t.kind == 2) = false := by rw [beq_iff_eq] at hq0; rw [beq_eq_false_iff_ne]; omega
      have KN0 : Hid (numV p id = .tuple #[.int .u64 ((p.a i0).t.n : Int), .bool true]) := hid (by unfold numV; rw [hf]; dsimp only; rw [hq0]; rfl)
      have KS0 : Hid (strV p id = .tuple #[str [], .bool false]) := hid (by unfold strV; rw [hf]; dsimp only; rw [hq2]; rfl)
      rw [KN0.out] at KN
      rw [KS0.out] at KS
      clear KN0 KS0
      have HFO := hid hf
      clear hf
      have Q0 := hid hq0
      have Q2 := hid hq2
      clear hq0 hq2
      go_upto_region 7 with (first | (go_at_call 10; refine (Ret.later (awake15_any _)).mono ?_; rintro x _ ⟨rfl, e, rfl⟩) | (go_at_call 11; refine (Ret.later (KF.out _)).mono ?_; rintro x _ ⟨rfl, e, rfl⟩) | (go_at_call 12; refine (Ret.later (KN.out _)).mono ?_; rintro x _ ⟨rfl, e, rfl⟩) | (go_at_call 13; refine (Ret.later (KS.out _)).mono ?_; rintro x _ ⟨rfl, e, rfl⟩) | (clear tk1; refine wpList_row (by rfl) 29 _ rfl _ rfl (HB0.out.later _) Try.underlying29 rfl (by kernel_rfl) ?_))
      go_loopw [10] (fun s10 wr => ∃ i : Nat, s10 = .int .i64 (i : Int) ∧ Hid (i ≤ p.k ∧ ∀ j, j < i → isID p id j = false) ∧ ∃ e : Later V, wr = e.x) (fun s10 _ => p.k - (intOf s10).toNat)
      case atStart => exact ⟨0, rfl, (show Hid _ from ⟨Nat.zero_le _, fun j hj => by omega⟩), e, rfl⟩
      case round =>
        clear e
        obtain ⟨i, rfl, hi, e, rfl⟩ := hrel
        have i0' : (0 : Int) ≤ (i : Int) := by omega
        by_cases hlt : i < p.k
        · obtain ⟨b, o, Ai, ci, rfl, hb, hat, hI⟩ := HL.out.at e.h hlt
          obtain ⟨q0, q1, q2, q3, q4⟩ := hat.five
          have qi := hat.1
          have tc : decide (i < p.k) = true := by simp [hlt]
          have i1 : (i : Int) < (p.k : Int) := by omega
          have HLT := hid hlt
          clear hlt hI hb hat
          cases hq : isID p id i with
          | true =>
            obtain rfl : i = i0 := by
              have h1 := firstOf_some HLT.out hq hi.out.2
              rw [HFO.out] at h1
              exact (Option.some.inj h1).symm
            have tq : ((p.a i).id == id) = true := hq
            have tq2 : ((p.a i).id = id) = True := by rw [beq_iff_eq] at tq; exact eq_true tq
            clear hq
            have hh := Q0.out
            rw [beq_iff_eq] at hh
            have kaa : (((p.a i).t.kind) == (0)) = true := by rw [beq_iff_eq]; exact hh
            have kab : (((p.a i).t.kind) = (0)) = True := eq_true (by exact hh)
            have kac : (((p.a i).t.kind) != (0)) = false := by rw [bne_eq_false_iff_eq]; exact hh
            clear hh
            have hh := Q2.out
            rw [beq_eq_false_iff_ne] at hh
            have kba : (((p.a i).t.kind) == (2)) = false := by rw [beq_eq_false_iff_ne]; exact hh
            have kbb : (((p.a i).t.kind) = (2)) = False := eq_false (by exact hh)
            have kbc : (((p.a i).t.kind) != (2)) = true := by rw [bne_iff_ne]; exact hh
            clear hh
            generalize (p.a i).t.n = n at *
            generalize (p.a i).t.s = s at *
            generalize (p.a i).t.kind = kd at *
            go_wp2_with fail
            go_ret
            exact Ret.mk (by first | rfl | simp) ((HE.out.trans e.h).alloc _)
          | false =>
            have HQ := hid hq
            have tq : ((p.a i).id == id) = false := hq
            have tq2 : ((p.a i).id = id) = False := by rw [beq_eq_false_iff_ne] at tq; exact eq_false tq
            clear hq
            go_wp2_with fail
            go_roundw
            case rel => exact ⟨i + 1, by go_num, (show Hid _ from ⟨HLT.out, fun j hj => by
              by_cases e : j = i
              · subst e; exact HQ.out
              · exact hi.out.2 j (by omega)⟩), e, rfl⟩
            case measure => have := HLT.out; simp [intOf]; omega
        · exfalso
          have := firstOf_spec HFO.out
          have h1 := hi.out.2 i0 (by have := hi.out.1; omega)
          rw [this.2.1] at h1
          cases h1
    | false =>
      cases hq2 : ((p.a i0).t.kind == 2) with
      | true =>
        have KN0 : Hid (numV p id = .tuple #[.int .u64 0, .bool false]) := hid (by unfold numV; rw [hf]; dsimp only; rw [hq0]; rfl)
        have KS0 : Hid (strV p id = .tuple #[str (p.a i0).t.s, .bool true]) := hid (by unfold strV; rw [hf]; dsimp only; rw [hq2]; rfl)
        rw [KN0.out] at KN
        rw [KS0.out] at KS
        clear KN0 KS0
        have HFO := hid hf
        clear hf
        have Q0 := hid hq0
        have Q2 := hid hq2
        clear hq0 hq2
        go_upto_region 7 with (first | (go_at_call 10; refine (Ret.later (awake15_any _)).mono ?_; rintro x _ ⟨rfl, e, rfl⟩) | (go_at_call 11; refine (Ret.later (KF.out _)).mono ?_; rintro x _ ⟨rfl, e, rfl⟩) | (go_at_call 12; refine (Ret.later (KN.out _)).mono ?_; rintro x _ ⟨rfl, e, rfl⟩) | (go_at_call 13; refine (Ret.later (KS.out _)).mono ?_; rintro x _ ⟨rfl, e, rfl⟩) | (clear tk1; refine wpList_row (by rfl) 29 _ rfl _ rfl (HB0.out.later _) Try.underlying29 rfl (by kernel_rfl) ?_))
        go_loopw [10] (fun s10 wr => ∃ i : Nat, s10 = .int .i64 (i : Int) ∧ Hid (i ≤ p.k ∧ ∀ j, j < i → isID p id j = false) ∧ ∃ e : Later V, wr = e.x) (fun s10 _ => p.k - (intOf s10).toNat)
        case atStart => exact ⟨0, rfl, (show Hid _ from ⟨Nat.zero_le _, fun j hj => by omega⟩), e, rfl⟩
        case round =>
          clear e
          obtain ⟨i, rfl, hi, e, rfl⟩ := hrel
          have i0' : (0 : Int) ≤ (i : Int) := by omega
          by_cases hlt : i < p.k
          · obtain ⟨b, o, Ai, ci, rfl, hb, hat, hI⟩ := HL.out.at e.h hlt
            obtain ⟨q0, q1, q2, q3, q4⟩ := hat.five
            have qi := hat.1
            have tc : decide (i < p.k) = true := by simp [hlt]
            have i1 : (i : Int) < (p.k : Int) := by omega
            have HLT := hid hlt
            clear hlt hI hb hat
            cases hq : isID p id i with
            | true =>
              obtain rfl : i = i0 := by
                have h1 := firstOf_some HLT.out hq hi.out.2
                rw [HFO.out] at h1
                exact (Option.some.inj h1).symm
              have tq : ((p.a i).id == id) = true := hq
              have tq2 : ((p.a i).id = id) = True := by rw [beq_iff_eq] at tq; exact eq_true tq
              clear hq
              have hh := Q0.out
              rw [beq_eq_false_iff_ne] at hh
              have kaa : (((p.a i).t.kind) == (0)) = false := by rw [beq_eq_false_iff_ne]; exact hh
              have kab : (((p.a i).t.kind) = (0)) = False := eq_false (by exact hh)
              have kac : (((p.a i).t.kind) != (0)) = true := by rw [bne_iff_ne]; exact hh
              clear hh
              have hh := Q2.out
              rw [beq_iff_eq] at hh
              have kba : (((p.a i).t.kind) == (2)) = true := by rw [beq_iff_eq]; exact hh
              have kbb : (((p.a i).t.kind) = (2)) = True := eq_true (by exact hh)
              have kbc : (((p.a i).t.kind) != (2)) = false := by rw [bne_eq_false_iff_eq]; exact hh
              clear hh
              generalize (p.a i).t.n = n at *
              generalize (p.a i).t.s = s at *
              generalize (p.a i).t.kind = kd at *
              go_wp2_with fail
              go_ret
              exact Ret.mk (by first | rfl | simp) ((HE.out.trans e.h).alloc _)
            | false =>
              have HQ := hid hq
              have tq : ((p.a i).id == id) = false := hq
              have tq2 : ((p.a i).id = id) = False := by rw [beq_eq_false_iff_ne] at tq; exact eq_false tq
              clear hq
              go_wp2_with fail
              go_roundw
              case rel => exact ⟨i + 1, by go_num, (show Hid _ from ⟨HLT.out, fun j hj => by
                by_cases e : j = i
                · subst e; exact HQ.out
                · exact hi.out.2 j (by omega)⟩), e, rfl⟩
              case measure => have := HLT.out; simp [intOf]; omega
          · exfalso
            have := firstOf_spec HFO.out
            have h1 := hi.out.2 i0 (by have := hi.out.1; omega)
            rw [this.2.1] at h1
            cases h1
      | false =>
        have KN0 : Hid (numV p id = .tuple #[.int .u64 0, .bool false]) := hid (by unfold numV; rw [hf]; dsimp only; rw [hq0]; rfl)
        have KS0 : Hid (strV p id = .tuple #[str [], .bool false]) := hid (by unfold strV; rw [hf]; dsimp only; rw [hq2]; rfl)
        rw [KN0.out] at KN
        rw [KS0.out] at KS
        clear KN0 KS0
        have HFO := hid hf
        clear hf
        have Q0 := hid hq0
        have Q2 := hid hq2
        clear hq0 hq2
        go_upto_region 7 with (first | (go_at_call 10; refine (Ret.later (awake15_any _)).mono ?_; rintro x _ ⟨rfl, e, rfl⟩) | (go_at_call 11; refine (Ret.later (KF.out _)).mono ?_; rintro x _ ⟨rfl, e, rfl⟩) | (go_at_call 12; refine (Ret.later (KN.out _)).mono ?_; rintro x _ ⟨rfl, e, rfl⟩) | (go_at_call 13; refine (Ret.later (KS.out _)).mono ?_; rintro x _ ⟨rfl, e, rfl⟩) | (clear tk1; refine wpList_row (by rfl) 29 _ rfl _ rfl (HB0.out.later _) Try.underlying29 rfl (by kernel_rfl) ?_))
        go_loopw [10] (fun s10 wr => ∃ i : Nat, s10 = .int .i64 (i : Int) ∧ Hid (i ≤ p.k ∧ ∀ j, j < i → isID p id j = false) ∧ ∃ e : Later V, wr = e.x) (fun s10 _ => p.k - (intOf s10).toNat)
        case atStart => exact ⟨0, rfl, (show Hid _ from ⟨Nat.zero_le _, fun j hj => by omega⟩), e, rfl⟩
        case round =>
          clear e
          obtain ⟨i, rfl, hi, e, rfl⟩ := hrel
          have i0' : (0 : Int) ≤ (i : Int) := by omega
          by_cases hlt : i < p.k
          · obtain ⟨b, o, Ai, ci, rfl, hb, hat, hI⟩ := HL.out.at e.h hlt
            obtain ⟨q0, q1, q2, q3, q4⟩ := hat.five
            have qi := hat.1
            have tc : decide (i < p.k) = true := by simp [hlt]
            have i1 : (i : Int) < (p.k : Int) := by omega
            have HLT := hid hlt
            clear hlt hI hb hat
            cases hq : isID p id i with
            | true =>
              obtain rfl : i = i0 := by
                have h1 := firstOf_some HLT.out hq hi.out.2
                rw [HFO.out] at h1
                exact (Option.some.inj h1).symm
              have tq : ((p.a i).id == id) = true := hq
              have tq2 : ((p.a i).id = id) = True := by rw [beq_iff_eq] at tq; exact eq_true tq
              clear hq
              have hh := Q0.out
              rw [beq_eq_false_iff_ne] at hh
              have kaa : (((p.a i).t.kind) == (0)) = false := by rw [beq_eq_false_iff_ne]; exact hh
              have kab : (((p.a i).t.kind) = (0)) = False := eq_false (by exact hh)
              have kac : (((p.a i).t.kind) != (0)) = true := by rw [bne_iff_ne]; exact hh
              clear hh
              have hh := Q2.out
              rw [beq_eq_false_iff_ne] at hh
              have kba : (((p.a i).t.kind) == (2)) = false := by rw [beq_eq_false_iff_ne]; exact hh
              have kbb : (((p.a i).t.kind) = (2)) = False := eq_false (by exact hh)
              have kbc : (((p.a i).t.kind) != (2)) = true := by rw [bne_iff_ne]; exact hh
              clear hh
              generalize (p.a i).t.n = n at *
              generalize (p.a i).t.s = s at *
              generalize (p.a i).t.kind = kd at *
              go_wp2_with fail
              go_ret
              exact Ret.mk (by first | rfl | simp) ((HE.out.trans e.h).alloc _)
            | false =>
              have HQ := hid hq
              have tq : ((p.a i).id == id) = false := hq
              have tq2 : ((p.a i).id = id) = False := by rw [beq_eq_false_iff_ne] at tq; exact eq_false tq
              clear hq
              go_wp2_with fail
              go_roundw
              case rel => exact ⟨i + 1, by go_num, (show Hid _ from ⟨HLT.out, fun j hj => by
                by_cases e : j = i
                · subst e; exact HQ.out
                · exact hi.out.2 j (by omega)⟩), e, rfl⟩
              case measure => have := HLT.out; simp [intOf]; omega
          · exfalso
            have := firstOf_spec HFO.out
            have h1 := hi.out.2 i0 (by have := hi.out.1; omega)
            rw [this.2.1] at h1
            cases h1
end Go.Proofs.Ytogjghmoankleaa


namespace Go.Proofs.Ytogjghmoankleaa
open Go.ChangeShapes Go.WideShapes Go.ChangeAt Go.RowKit Go.Deep
set_option linter.unusedVariables false
set_option linter.unusedSimpArgs false

section
variable {H : Type} {enc : TypeId × Value → H} {w : World} {base b0 : Nat} {spare : Nat → Bool} {held : Bool} {r : Reach}
set_option maxRecDepth 100000 in
theorem trod_eid {fuel : Nat} {cs : List Value} {x : DataW H × List MemPlace} (h : DataW.trod enc Try.prog w base spare held fuel 26 cs = some x) :
    ∃ e : EV, cs = [.int .i64 e.sch, str e.name, .int .u64 (e.node : Int), .int .u64 (e.svc : Int)] ∧ e.node < 18446744073709551616 ∧ e.svc < 18446744073709551616 ∧ (-9223372036854775808 ≤ e.sch ∧ e.sch ≤ 9223372036854775807) := by
  obtain ⟨ys, n', hn', hy, hlen, hyl, hfl⟩ := DataW.trod_struct Try.underlying26 h
  match cs, hlen with
  | [c0, c1, c2, c3], _ =>
    have h0 := field_at (by kernel_rfl) hfl (i := 0) rfl rfl
    have h1 := field_at (by kernel_rfl) hfl (i := 1) rfl rfl
    have h2 := field_at (by kernel_rfl) hfl (i := 2) rfl rfl
    have h3 := field_at (by kernel_rfl) hfl (i := 3) rfl rfl
    clear hfl h
    match ys, hyl with
    | [y0, y1, y2, y3], _ =>
      obtain ⟨sch, e0, _, w0⟩ := DataW.trod_int (k := .i64) (by kernel_rfl) h0
      obtain ⟨s, e1, _, _⟩ := DataW.trod_string (by kernel_rfl) h1
      obtain ⟨a, e2, _, w2⟩ := DataW.trod_int (k := .u64) (by kernel_rfl) h2
      obtain ⟨b, e3, _, w3⟩ := DataW.trod_int (k := .u64) (by kernel_rfl) h3
      have q0 : c0 = .int .i64 sch := by have : [c0] = [Value.int .i64 sch] := e0; simpa using this
      have q1 : c1 = .string s := by have : [c1] = [Value.string s] := e1; simpa using this
      have q2 : c2 = .int .u64 a := by have : [c2] = [Value.int .u64 a] := e2; simpa using this
      have q3 : c3 = .int .u64 b := by have : [c3] = [Value.int .u64 b] := e3; simpa using this
      subst q0 q1 q2 q3
      have b0 : -9223372036854775808 ≤ sch ∧ sch ≤ 9223372036854775807 := by simpa [Lit.wf, IntKind.min, IntKind.max, IntKind.signed, IntKind.bits] using w0
      have b2 : 0 ≤ a ∧ a ≤ 18446744073709551615 := by simpa [Lit.wf, IntKind.min, IntKind.max, IntKind.signed, IntKind.bits] using w2
      have b3 : 0 ≤ b ∧ b ≤ 18446744073709551615 := by simpa [Lit.wf, IntKind.min, IntKind.max, IntKind.signed, IntKind.bits] using w3
      obtain ⟨a, rfl⟩ := Int.eq_ofNat_of_zero_le b2.1
      obtain ⟨b, rfl⟩ := Int.eq_ofNat_of_zero_le b3.1
      exact ⟨⟨sch, s.data.toList, a, b⟩, rfl, by show a < _; omega, by show b < _; omega, b0⟩

set_option maxRecDepth 100000 in
theorem open_eid {v : Value} {d : DataW H} {p : List MemPlace} (hval : Value.okWide Try.prog w r b0 26 v) (h : DataW.Trod enc Try.prog w base spare held 26 v d p) :
    ∃ e : EV, v = e.v ∧ e.node < 18446744073709551616 ∧ e.svc < 18446744073709551616 ∧ (-9223372036854775808 ≤ e.sch ∧ e.sch ≤ 9223372036854775807) := by
  obtain ⟨cs, rfl, hsz⟩ := okWide_struct Try.underlying26 hval
  obtain ⟨fuel, hf⟩ := h
  have hcs : (Value.agg cs).cells.toList = cs.toList := rfl
  rw [hcs] at hf
  obtain ⟨e, he, h1, h2, h3⟩ := trod_eid hf
  refine ⟨e, ?_, h1, h2, h3⟩
  have : cs = (cs.toList).toArray := by simp
  rw [this, he]
theorem okWide_arr {P : Program} {t e : TypeId} {n : Nat} {v : Value} (ht : P.underlying t = some (.array n e)) (h : Value.okWide P w r base t v) : ∃ cs, v = .agg cs ∧ cs.size = P.cellsOf t := by
  simp only [Value.okWide, ht] at h
  obtain ⟨cs, h1, h2, _⟩ := h
  exact ⟨cs, h1, h2⟩
theorem two_ints {P : Program} {t e : TypeId} {k : IntKind} {fuel : Nat} {c0 c1 : Value} {x : DataW H × List MemPlace} (ht : P.underlying t = some (.array 2 e)) (he : P.underlying e = some (.int k)) (hC : P.cellsOf e = 1)
    (h : DataW.trod enc P w base spare held fuel t [c0, c1] = some x) : ∃ a b, c0 = .int k a ∧ c1 = .int k b ∧ (Lit.int k a).wf = true ∧ (Lit.int k b).wf = true := by
  obtain ⟨xs, m, _, _, _, hlen, hg⟩ := DataW.trod_array ht h
  have h0 := hg 0 (by omega)
  have h1 := hg 1 (by omega)
  rw [hC] at h0 h1
  match xs, hlen with
  | [y0, y1], _ =>
    obtain ⟨a, ha, _, hwa⟩ := DataW.trod_int (k := k) he h0
    obtain ⟨b, hb, _, hwb⟩ := DataW.trod_int (k := k) he h1
    exact ⟨a, b, by simpa using ha, by simpa using hb, hwa, hwb⟩
end
end Go.Proofs.Ytogjghmoankleaa


namespace Go.Proofs.Ytogjghmoankleaa
open Go.ChangeShapes Go.WideShapes Go.ChangeAt Go.RowKit Go.Deep
set_option linter.unusedVariables false
set_option linter.unusedSimpArgs false

/-- What every slice's shape obeys. -/
def SlA (A : Option Addr) (k c : Nat) : Prop := (A = none → k = 0 ∧ c = 0) ∧ k ≤ c ∧ c ≤ maxLen
def EV.wf (e : EV) : Prop := (-9223372036854775808 ≤ e.sch ∧ e.sch ≤ 9223372036854775807) ∧ e.node < 18446744073709551616 ∧ e.svc < 18446744073709551616
def PV.wf (p : PV) : Prop := p.fl < 18446744073709551616 ∧ (-9223372036854775808 ≤ p.crc ∧ p.crc ≤ 9223372036854775807) ∧ p.d.wf ∧ p.s.wf ∧ p.r.wf ∧ p.t < 18446744073709551616 ∧ p.q < 18446744073709551616 ∧ p.l < 18446744073709551616 ∧ p.o < 18446744073709551616 ∧ p.n < 18446744073709551616
def BV.wf (b : BV) : Prop := (-9223372036854775808 ≤ b.ty ∧ b.ty ≤ 9223372036854775807) ∧ (-9223372036854775808 ≤ b.num ∧ b.num ≤ 9223372036854775807) ∧ b.fl < 18446744073709551616 ∧ (-9223372036854775808 ≤ b.crc ∧ b.crc ≤ 9223372036854775807)
section
variable {H : Type} {enc : TypeId × Value → H} {w : World} {base b0 : Nat} {spare : Nat → Bool} {held : Bool} {r : Reach}
theorem fldB {P : Program} {n k : Nat} {ty : TypeId} {l : List Value} {off : Nat} {y : Option (DataW H × List MemPlace)} (hk : P.cellsOf ty = k) (h : DataW.trod enc P w base spare held n ty ((l.drop off).take (P.cellsOf ty)) = y) : DataW.trod enc P w base spare held n ty ((l.drop off).take k) = y := by rw [hk] at h; exact h
set_option maxRecDepth 100000 in
theorem trod_priC {fuel : Nat} {L : List Value} {x : DataW H × List MemPlace} (h : DataW.trod enc Try.prog w base spare held fuel 68 L = some x) : ∃ p : PV, L = p.c.toList ∧ p.wf := by
  obtain ⟨ys, n', hn', hy, hlen, hyl, hfl⟩ := DataW.trod_struct Try.underlying68 h
  clear h
  have k1 : Try.prog.cellsOf 24 = 1 := by kernel_rfl
  have k2 : Try.prog.cellsOf 3 = 1 := by kernel_rfl
  have k3 : Try.prog.cellsOf 26 = 4 := by kernel_rfl
  match L, hlen with
  | [c0, c1, c2, c3, c4, c5, c6, c7, c8, c9, c10, c11, c12, c13, c14, c15, c16, c17, c18], _ =>
    match ys, hyl with
    | [y0, y1, y2, y3, y4, y5, y6, y7, y8, y9], _ =>
      have h0 : DataW.trod enc Try.prog w base spare held n' 24 [c0] = some y0 := fldB k1 (hfl 0 _ rfl)
      have h1 : DataW.trod enc Try.prog w base spare held n' 3 [c1] = some y1 := fldB k2 (hfl 1 _ rfl)
      have h2 : DataW.trod enc Try.prog w base spare held n' 26 [c2, c3, c4, c5] = some y2 := fldB k3 (hfl 2 _ rfl)
      have h3 : DataW.trod enc Try.prog w base spare held n' 26 [c6, c7, c8, c9] = some y3 := fldB k3 (hfl 3 _ rfl)
      have h4 : DataW.trod enc Try.prog w base spare held n' 26 [c10, c11, c12, c13] = some y4 := fldB k3 (hfl 4 _ rfl)
      have h5 : DataW.trod enc Try.prog w base spare held n' 24 [c14] = some y5 := fldB k1 (hfl 5 _ rfl)
      have h6 : DataW.trod enc Try.prog w base spare held n' 24 [c15] = some y6 := fldB k1 (hfl 6 _ rfl)
      have h7 : DataW.trod enc Try.prog w base spare held n' 24 [c16] = some y7 := fldB k1 (hfl 7 _ rfl)
      have h8 : DataW.trod enc Try.prog w base spare held n' 24 [c17] = some y8 := fldB k1 (hfl 8 _ rfl)
      have h9 : DataW.trod enc Try.prog w base spare held n' 24 [c18] = some y9 := fldB k1 (hfl 9 _ rfl)
      clear hfl
      obtain ⟨z1, e1, _, w1⟩ := DataW.trod_int (k := .i64) (by kernel_rfl) h1
      have b1 : -9223372036854775808 ≤ z1 ∧ z1 ≤ 9223372036854775807 := by simpa [Lit.wf, IntKind.min, IntKind.max, IntKind.signed, IntKind.bits] using w1
      obtain ⟨E2, e2, n2, s2, x2⟩ := trod_eid h2
      obtain ⟨E3, e3, n3, s3, x3⟩ := trod_eid h3
      obtain ⟨E4, e4, n4, s4, x4⟩ := trod_eid h4
      obtain ⟨z0, e0, _, w0⟩ := DataW.trod_int (k := .u64) (by kernel_rfl) h0
      have b0 : 0 ≤ z0 ∧ z0 ≤ 18446744073709551615 := by simpa [Lit.wf, IntKind.min, IntKind.max, IntKind.signed, IntKind.bits] using w0
      obtain ⟨z0, rfl⟩ := Int.eq_ofNat_of_zero_le b0.1
      obtain ⟨z5, e5, _, w5⟩ := DataW.trod_int (k := .u64) (by kernel_rfl) h5
      have b5 : 0 ≤ z5 ∧ z5 ≤ 18446744073709551615 := by simpa [Lit.wf, IntKind.min, IntKind.max, IntKind.signed, IntKind.bits] using w5
      obtain ⟨z5, rfl⟩ := Int.eq_ofNat_of_zero_le b5.1
      obtain ⟨z6, e6, _, w6⟩ := DataW.trod_int (k := .u64) (by kernel_rfl) h6
      have b6 : 0 ≤ z6 ∧ z6 ≤ 18446744073709551615 := by simpa [Lit.wf, IntKind.min, IntKind.max, IntKind.signed, IntKind.bits] using w6
      obtain ⟨z6, rfl⟩ := Int.eq_ofNat_of_zero_le b6.1
      obtain ⟨z7, e7, _, w7⟩ := DataW.trod_int (k := .u64) (by kernel_rfl) h7
      have b7 : 0 ≤ z7 ∧ z7 ≤ 18446744073709551615 := by simpa [Lit.wf, IntKind.min, IntKind.max, IntKind.signed, IntKind.bits] using w7
      obtain ⟨z7, rfl⟩ := Int.eq_ofNat_of_zero_le b7.1
      obtain ⟨z8, e8, _, w8⟩ := DataW.trod_int (k := .u64) (by kernel_rfl) h8
      have b8 : 0 ≤ z8 ∧ z8 ≤ 18446744073709551615 := by simpa [Lit.wf, IntKind.min, IntKind.max, IntKind.signed, IntKind.bits] using w8
      obtain ⟨z8, rfl⟩ := Int.eq_ofNat_of_zero_le b8.1
      obtain ⟨z9, e9, _, w9⟩ := DataW.trod_int (k := .u64) (by kernel_rfl) h9
      have b9 : 0 ≤ z9 ∧ z9 ≤ 18446744073709551615 := by simpa [Lit.wf, IntKind.min, IntKind.max, IntKind.signed, IntKind.bits] using w9
      obtain ⟨z9, rfl⟩ := Int.eq_ofNat_of_zero_le b9.1
      simp only [List.cons.injEq, and_true] at e0 e1 e2 e3 e4 e5 e6 e7 e8 e9
      obtain ⟨rfl, rfl, rfl, rfl⟩ := e2
      obtain ⟨rfl, rfl, rfl, rfl⟩ := e3
      obtain ⟨rfl, rfl, rfl, rfl⟩ := e4
      subst e0 e1 e5 e6 e7 e8 e9
      exact ⟨⟨z0, z1, E2, E3, E4, z5, z6, z7, z8, z9⟩, rfl, by show z0 < _; omega, b1, ⟨x2, n2, s2⟩, ⟨x3, n3, s3⟩, ⟨x4, n4, s4⟩, by show z5 < _; omega, by show z6 < _; omega, by show z7 < _; omega, by show z8 < _; omega, by show z9 < _; omega⟩
end
end Go.Proofs.Ytogjghmoankleaa


namespace Go.Proofs.Ytogjghmoankleaa
open Go.ChangeShapes Go.WideShapes Go.ChangeAt Go.RowKit Go.Deep
set_option linter.unusedVariables false
set_option linter.unusedSimpArgs false

section
variable {H : Type} {enc : TypeId × Value → H} {w : World} {base b0 : Nat} {spare : Nat → Bool} {held : Bool} {r : Reach}
/-- A slice, opened: each element's cells obey R. -/
theorem trod_rows {Z : Type} [Nonempty Z] {te ts : TypeId} {z bz : Nat} (hu : Try.prog.underlying ts = some (.slice te)) (hC : Try.prog.cellsOf te = z) (hz0 : 0 < z) (hBy : Try.prog.bytesOf te = bz) (hb1 : 1 ≤ bz) (R : Z → List Value → Prop)
    (hstep : ∀ f cs x, DataW.trod enc Try.prog w base spare held f te cs = some x → (∀ n ∈ x.1.weights Try.prog te, n ≤ reachBytes) → ∃ t, R t cs)
    {fuel : Nat} {c3 : Value} {y : DataW H × List MemPlace} (h3 : DataW.trod enc Try.prog w base spare held fuel ts [c3] = some y) (hz : ∀ n ∈ y.1.weights Try.prog ts, n ≤ reachBytes) :
    ∃ (A : Option Addr) (k c : Nat) (g : Nat → Z), c3 = .slice A k c ∧ k < 4611686018427387904 ∧ SlA A k c ∧ (∀ i, i < k → ∃ cs, R (g i) cs) ∧
      (0 < k → ∃ b o, A = some ⟨b, o, none⟩ ∧ b < w.heap.size ∧ ∀ i, i < k → ∃ cs, cs.length = z ∧ R (g i) cs ∧ ∀ j u, cs[j]? = some u → w.cell? ⟨b, o + i * z + j, none⟩ = some u) := by
  have hR : reachBytes < 140737488355328 := by decide
  rcases DataW.trod_slice (e := te) hu h3 with ⟨hcs, _⟩ | ⟨a, len, cap', elems, rest, f, hf, hcs, hx, hb, hl, hm, hlen, hel, _, _⟩
  · have e3 : c3 = .slice none 0 0 := by simpa using hcs
    subst e3
    exact ⟨none, 0, 0, fun _ => Classical.choice inferInstance, rfl, by omega, ⟨fun _ => ⟨rfl, rfl⟩, Nat.le_refl _, Nat.zero_le _⟩, fun i hi => by omega, fun h => by omega⟩
  · have e3 : c3 = .slice (some a) len cap' := by simpa using hcs
    subst e3
    have hzs := hz
    rw [hx] at hzs
    simp only [DataW.weights, hu] at hzs
    have bl : len < 4611686018427387904 := by
      have h8 := hzs _ List.mem_cons_self
      rw [hBy, List.length_map, hlen] at h8
      have h9 : len * 1 ≤ (len + (List.map (fun x => x.1) rest).length) * bz := Nat.mul_le_mul (Nat.le_add_right _ _) hb1
      omega
    have key : ∀ i, i < len → ∃ (t : Z) (cs : List Value), cs.length = z ∧ R t cs ∧ ∀ j u, cs[j]? = some u → w.cell? ((a.add (i * z)).add j) = some u := by
      intro i hin
      have hi := hel i hin
      rw [List.getElem?_eq_getElem (by omega)] at hi
      obtain ⟨cs', hc, ht⟩ := Option.bind_eq_some_iff.1 hi
      have hz2 : ∀ n ∈ (elems[i]'(by omega)).1.weights Try.prog te, n ≤ reachBytes := fun n hn => by
        apply hzs
        refine List.mem_cons_of_mem _ (List.mem_append_left _ (weights_mem_all hn ?_))
        exact List.mem_map.2 ⟨_, List.getElem_mem _, rfl⟩
      obtain ⟨t, ht⟩ := hstep f cs' _ ht hz2
      rw [hC] at hc
      obtain ⟨_, hcl, hat⟩ := World.cells?_some hc
      refine ⟨t, cs', hcl, ht, fun j u hu => ?_⟩
      have hj := (List.getElem?_eq_some_iff.1 hu).1
      rw [hat j (by omega)]; exact hu
    have key2 : ∀ i, ∃ t : Z, i < len → ∃ cs : List Value, cs.length = z ∧ R t cs ∧ ∀ j u, cs[j]? = some u → w.cell? ((a.add (i * z)).add j) = some u := fun i => by
      by_cases hin : i < len
      · obtain ⟨t, h5⟩ := key i hin
        exact ⟨t, fun _ => h5⟩
      · exact ⟨Classical.choice inferInstance, fun h => absurd h hin⟩
    obtain ⟨g, hg⟩ : ∃ g : Nat → Z, ∀ i, i < len → ∃ cs : List Value, cs.length = z ∧ R (g i) cs ∧ ∀ j u, cs[j]? = some u → w.cell? ((a.add (i * z)).add j) = some u :=
      ⟨fun i => Classical.choose (key2 i), fun i => Classical.choose_spec (key2 i)⟩
    refine ⟨some a, len, cap', g, rfl, bl, ⟨(fun h => by cases h), hl, hm⟩, fun i hi => by obtain ⟨cs, _, h, _⟩ := hg i hi; exact ⟨cs, h⟩, fun h0 => ?_⟩
    obtain ⟨cs, hcl, _, hat⟩ := hg 0 h0
    have hc0 : cs[0]? = some (cs[0]'(by omega)) := List.getElem?_eq_getElem _
    have z1 : w.cell? a = some (cs[0]'(by omega)) := by
      have := hat 0 _ hc0
      simpa [Addr.add] using this
    have hsp := World.cell?_spot z1
    obtain ⟨ab, ao, sp⟩ := a
    simp only at hsp
    subst hsp
    refine ⟨ab, ao, rfl, World.block_lt_of_cell? w _ z1, fun i hin => ?_⟩
    obtain ⟨cs, hcl, hr, hat⟩ := hg i hin
    refine ⟨cs, hcl, hr, fun j u hj => ?_⟩
    have := hat j u hj
    rw [addr_add, addr_add] at this
    exact this
set_option maxRecDepth 100000 in
theorem trod_pair (fuel : Nat) (L : List Value) (x : DataW H × List MemPlace) (h : DataW.trod enc Try.prog w base spare held fuel 40 L = some x) (hz : ∀ n ∈ x.1.weights Try.prog 40, n ≤ reachBytes) :
    ∃ p : PR, ∃ A c, L = (prC p A c).toList ∧ p.t.ok ∧ (-9223372036854775808 ≤ p.id ∧ p.id ≤ 9223372036854775807) ∧ IsL w anyQ p.t A := by
  obtain ⟨ys, n', hn', hy, hlen, hyl, hfl⟩ := DataW.trod_struct Try.underlying40 h
  have hd : x.1 = .agg (ys.map (·.1)) := by rw [hy]
  have hz' : ∀ n ∈ DataW.weightsEach Try.prog [3, 38] (ys.map (·.1)), n ≤ reachBytes := by
    intro n hn
    apply hz
    rw [hd]
    simp only [DataW.weights, Try.underlying40]
    exact hn
  clear h hz hd hy
  have k1 : Try.prog.cellsOf 3 = 1 := by kernel_rfl
  have k2 : Try.prog.cellsOf 38 = 5 := by kernel_rfl
  match L, hlen with
  | [c0, c1, c2, c3, c4, c5], _ =>
    obtain ⟨y0, y1, rfl⟩ : ∃ y0 y1, ys = [y0, y1] := by clear hz' hfl; match ys, hyl with | [a, b], _ => exact ⟨a, b, rfl⟩
    have h0 : DataW.trod enc Try.prog w base spare held n' 3 [c0] = some y0 := fldB k1 (hfl 0 _ rfl)
    have h1 : DataW.trod enc Try.prog w base spare held n' 38 [c1, c2, c3, c4, c5] = some y1 := fldB k2 (hfl 1 _ rfl)
    clear hfl
    obtain ⟨id, e0, _, w0⟩ := DataW.trod_int (k := .i64) (by kernel_rfl) h0
    have q0 : c0 = .int .i64 id := by have : [c0] = [Value.int .i64 id] := e0; simpa using this
    subst q0
    have b0 : -9223372036854775808 ≤ id ∧ id ≤ 9223372036854775807 := by simpa [Lit.wf, IntKind.min, IntKind.max, IntKind.signed, IntKind.bits] using w0
    obtain ⟨t, A, c, e, hok, hL⟩ := trod_item n' _ _ h1 (fun n hn => hz' n (DataW.weights_mem_each (j := 1) rfl rfl n hn))
    simp only [List.cons.injEq, and_true] at e
    obtain ⟨rfl, rfl, rfl, rfl, rfl⟩ := e
    exact ⟨⟨id, t⟩, A, c, rfl, hok, b0, hL⟩
set_option maxRecDepth 100000 in
theorem trod_pairs {fuel : Nat} {c3 : Value} {y : DataW H × List MemPlace} (h3 : DataW.trod enc Try.prog w base spare held fuel 22 [c3] = some y) (hz : ∀ n ∈ y.1.weights Try.prog 22, n ≤ reachBytes) :
    ∃ (A : Option Addr) (c : Nat) (p : PL), c3 = .slice A p.k c ∧ p.wf ∧ PsL w anyQ A p ∧ SlA A p.k c := by
  haveI : Nonempty PR := ⟨⟨0, T.nil⟩⟩
  obtain ⟨A, k, c, g, rfl, hk, hs, hall, hcs⟩ := trod_rows (Z := PR) (by kernel_rfl) (by kernel_rfl : Try.prog.cellsOf 40 = 6) (by decide) (by kernel_rfl : Try.prog.bytesOf 40 = 72) (by decide)
    (fun p L => ∃ A c, L = (prC p A c).toList ∧ p.t.ok ∧ (-9223372036854775808 ≤ p.id ∧ p.id ≤ 9223372036854775807) ∧ IsL w anyQ p.t A) trod_pair h3 hz
  refine ⟨A, c, ⟨k, g⟩, rfl, ⟨hk, fun i hi => by obtain ⟨cs, A', c', _, h1, h2, _⟩ := hall i hi; exact ⟨h1, h2⟩⟩, fun h0 => ?_, hs⟩
  obtain ⟨b, o, rfl, hb, hc⟩ := hcs h0
  refine ⟨b, o, rfl, hb, trivial, fun i hi => ?_⟩
  obtain ⟨cs, _, ⟨A', c', rfl, _, _, hL⟩, hat⟩ := hc i hi
  exact ⟨A', c', ⟨hat 0 _ rfl, hat 1 _ rfl, hat 2 _ rfl, hat 3 _ rfl, hat 4 _ rfl, hat 5 _ rfl⟩, hL⟩
set_option maxRecDepth 100000 in
theorem trod_ints {fuel : Nat} {c3 : Value} {y : DataW H × List MemPlace} (h3 : DataW.trod enc Try.prog w base spare held fuel 23 [c3] = some y) (hz : ∀ n ∈ y.1.weights Try.prog 23, n ≤ reachBytes) :
    ∃ (A : Option Addr) (k c : Nat) (f : Nat → Int), c3 = .slice A k c ∧ k < 4611686018427387904 ∧ (∀ i, i < k → -9223372036854775808 ≤ f i ∧ f i ≤ 9223372036854775807) ∧ NsL w A k f ∧ SlA A k c := by
  obtain ⟨A, k, c, g, rfl, hk, hs, hall, hcs⟩ := trod_rows (Z := Int) (by kernel_rfl) (by kernel_rfl : Try.prog.cellsOf 3 = 1) (by decide) (by kernel_rfl : Try.prog.bytesOf 3 = 8) (by decide)
    (fun n L => L = [.int .i64 n] ∧ -9223372036854775808 ≤ n ∧ n ≤ 9223372036854775807) (fun f cs x h _ => by
      obtain ⟨n, e0, _, w0⟩ := DataW.trod_int (k := .i64) (by kernel_rfl) h
      exact ⟨n, e0, by simpa [Lit.wf, IntKind.min, IntKind.max, IntKind.signed, IntKind.bits] using w0⟩) h3 hz
  refine ⟨A, k, c, g, rfl, hk, fun i hi => by obtain ⟨cs, _, h⟩ := hall i hi; exact h, fun h0 => ?_, hs⟩
  obtain ⟨b, o, rfl, hb, hc⟩ := hcs h0
  refine ⟨b, o, rfl, hb, fun i hi => ?_⟩
  obtain ⟨cs, _, ⟨rfl, _⟩, hat⟩ := hc i hi
  have := hat 0 _ rfl
  rw [Nat.mul_one, Nat.add_zero] at this
  exact this
set_option maxRecDepth 100000 in
theorem trod_ress {fuel : Nat} {c3 : Value} {y : DataW H × List MemPlace} (h3 : DataW.trod enc Try.prog w base spare held fuel 27 [c3] = some y) (hz : ∀ n ∈ y.1.weights Try.prog 27, n ≤ reachBytes) :
    ∃ (A : Option Addr) (k c : Nat) (f : Nat → PL), c3 = .slice A k c ∧ k < 4611686018427387904 ∧ (∀ i, i < k → (f i).wf) ∧ RsL w anyQ A k f ∧ SlA A k c := by
  haveI : Nonempty PL := ⟨⟨0, fun _ => ⟨0, T.nil⟩⟩⟩
  obtain ⟨A, k, c, g, rfl, hk, hs, hall, hcs⟩ := trod_rows (Z := PL) (by kernel_rfl) (by kernel_rfl : Try.prog.cellsOf 22 = 1) (by decide) (by kernel_rfl : Try.prog.bytesOf 22 = 24) (by decide)
    (fun p L => ∃ A c, L = [.slice A p.k c] ∧ p.wf ∧ PsL w anyQ A p ∧ p.k ≤ c) (fun f cs x h hw => by
      match cs, DataW.trod_slice (e := 40) (by kernel_rfl) h with
      | _, .inl ⟨rfl, _⟩ =>
        obtain ⟨A, c, p, e, h1, h2, h3⟩ := trod_pairs h hw
        exact ⟨p, A, c, by rw [e], h1, h2, h3.2.1⟩
      | _, .inr ⟨a, len, cap', elems, rest, f', _, rfl, _⟩ =>
        obtain ⟨A, c, p, e, h1, h2, h3⟩ := trod_pairs h hw
        exact ⟨p, A, c, by rw [e], h1, h2, h3.2.1⟩) h3 hz
  refine ⟨A, k, c, g, rfl, hk, fun i hi => by obtain ⟨cs, _, _, _, h, _⟩ := hall i hi; exact h, fun h0 => ?_, hs⟩
  obtain ⟨b, o, rfl, hb, hc⟩ := hcs h0
  refine ⟨b, o, rfl, hb, trivial, fun i hi => ?_⟩
  obtain ⟨cs, _, ⟨A', c', rfl, _, hP, hkc⟩, hat⟩ := hc i hi
  have := hat 0 _ rfl
  rw [Nat.mul_one, Nat.add_zero] at this
  exact ⟨A', c', this, hkc, hP⟩
set_option maxRecDepth 100000 in
/-- An argument []asb.Pair, opened. -/
theorem open_apairs {v : Value} {d : DataW H} {q : List MemPlace} (hval : Value.okWide Try.prog w r b0 22 v) (h : DataW.Trod enc Try.prog w base spare held 22 v d q) (hz : ∀ n ∈ d.weights Try.prog 22, n ≤ reachBytes) :
    ∃ (A : Option Addr) (c : Nat) (p : PL), v = .slice A p.k c ∧ p.wf ∧ PsL w anyQ A p ∧ SlA A p.k c := by
  obtain ⟨fuel, hf⟩ := h
  obtain ⟨a, n, c, rfl⟩ := okWide_slice Try.underlying22 hval
  have hf' : DataW.trod enc Try.prog w base spare held fuel 22 [.slice a n c] = some (d, q) := hf
  exact trod_pairs hf' hz
set_option maxRecDepth 100000 in
/-- An argument asb.ASB, opened. -/
theorem open_asb {v : Value} {d : DataW H} {q : List MemPlace} (hval : Value.okWide Try.prog w r b0 29 v) (h : DataW.Trod enc Try.prog w base spare held 29 v d q) (hz : ∀ n ∈ d.weights Try.prog 29, n ≤ reachBytes) :
    ∃ (a : AV) (m : AA), v = asbV a m ∧ a.wf ∧ AsL w anyQ a m ∧ SlA m.t a.tk m.tc ∧ SlA m.p a.ps.k m.pc ∧ SlA m.r a.rk m.rc := by
  obtain ⟨cs, rfl, hsz⟩ := okWide_struct Try.underlying29 hval
  obtain ⟨fuel, hf⟩ := h
  obtain ⟨ys, n', hn', hy, hlen, hyl, hfl⟩ := DataW.trod_struct Try.underlying29 hf
  have hcs : (Value.agg cs).cells.toList = cs.toList := rfl
  rw [hcs] at hlen hfl
  obtain ⟨L, hL⟩ : ∃ L, L = cs.toList := ⟨_, rfl⟩
  rw [← hL] at hlen hfl
  have hcsL : cs = L.toArray := by rw [hL]
  subst hcsL
  have hd : d = .agg (ys.map (·.1)) := by simpa using congrArg Prod.fst hy
  have hz' : ∀ n ∈ DataW.weightsEach Try.prog [23, 3, 26, 22, 27] (ys.map (·.1)), n ≤ reachBytes := by
    intro n hn
    apply hz
    rw [hd]
    simp only [DataW.weights, Try.underlying29]
    exact hn
  clear hL hcs hf hval hsz hz
  have k0 : Try.prog.cellsOf 23 = 1 := by kernel_rfl
  have k1 : Try.prog.cellsOf 3 = 1 := by kernel_rfl
  have k2 : Try.prog.cellsOf 26 = 4 := by kernel_rfl
  have k3 : Try.prog.cellsOf 22 = 1 := by kernel_rfl
  have k4 : Try.prog.cellsOf 27 = 1 := by kernel_rfl
  match L, hlen with
  | [c0, c1, c2, c3, c4, c5, c6, c7], _ =>
    obtain ⟨y0, y1, y2, y3, y4, rfl⟩ : ∃ y0 y1 y2 y3 y4, ys = [y0, y1, y2, y3, y4] := by clear hd hz' hy hfl; match ys, hyl with | [a, b, c, d, e], _ => exact ⟨a, b, c, d, e, rfl⟩
    have h0 : DataW.trod enc Try.prog w base spare held n' 23 [c0] = some y0 := fldB k0 (hfl 0 _ rfl)
    have h1 : DataW.trod enc Try.prog w base spare held n' 3 [c1] = some y1 := fldB k1 (hfl 1 _ rfl)
    have h2 : DataW.trod enc Try.prog w base spare held n' 26 [c2, c3, c4, c5] = some y2 := fldB k2 (hfl 2 _ rfl)
    have h3 : DataW.trod enc Try.prog w base spare held n' 22 [c6] = some y3 := fldB k3 (hfl 3 _ rfl)
    have h4 : DataW.trod enc Try.prog w base spare held n' 27 [c7] = some y4 := fldB k4 (hfl 4 _ rfl)
    clear hfl
    obtain ⟨At, tk, tc, tg, rfl, ht1, ht2, ht3, ht4⟩ := trod_ints h0 (fun n hn => hz' n (DataW.weights_mem_each (j := 0) rfl rfl n hn))
    obtain ⟨cx, e1, _, w1⟩ := DataW.trod_int (k := .i64) (by kernel_rfl) h1
    have q1 : c1 = .int .i64 cx := by have : [c1] = [Value.int .i64 cx] := e1; simpa using this
    subst q1
    have b1 : -9223372036854775808 ≤ cx ∧ cx ≤ 9223372036854775807 := by simpa [Lit.wf, IntKind.min, IntKind.max, IntKind.signed, IntKind.bits] using w1
    obtain ⟨E, e2, s2, n2, x2⟩ := trod_eid h2
    obtain ⟨nm, enm, hnm⟩ : ∃ s : List UInt8, E.name = s ∧ s.length < 4611686018427387904 := by
      obtain ⟨zs, m', _, hy2, hl2, hyl2, hfl2⟩ := DataW.trod_struct Try.underlying26 h2
      have hname := field_at (by kernel_rfl) hfl2 (i := 1) rfl rfl
      obtain ⟨z0, z1, z2, z3, rfl⟩ : ∃ z0 z1 z2 z3, zs = [z0, z1, z2, z3] := by clear hy2 hfl2 hname; match zs, hyl2 with | [a, b, c, d], _ => exact ⟨a, b, c, d, rfl⟩
      obtain ⟨s, hs, hsd, _⟩ := DataW.trod_string (by kernel_rfl) hname
      have hs' : c3 = .string s := by have : [c3] = [Value.string s] := hs; simpa using this
      have e3 : c3 = str E.name := by simp only [List.cons.injEq, and_true] at e2; exact e2.2.1
      have hsE : s.data.toList = E.name := by
        rw [hs'] at e3
        simp only [Value.string.injEq] at e3
        rw [e3]
      have hw := hz' s.data.toList.length (DataW.weights_mem_each (j := 2) rfl rfl _ (by
        have hy2' : y2.1 = .agg ([z0, z1, z2, z3].map (·.1)) := by rw [hy2]
        show s.data.toList.length ∈ DataW.weights Try.prog 26 y2.1
        rw [hy2']
        simp only [DataW.weights, Try.underlying26]
        exact DataW.weights_mem_each (j := 1) rfl (show _ = some (DataW.lit (.string s.data.toList)) by
          simp only [List.map, List.getElem?_cons_succ, List.getElem?_cons_zero]; rw [hsd]) _ (by simp [DataW.weights])))
      have hR : reachBytes < 140737488355328 := by decide
      exact ⟨E.name, rfl, by rw [← hsE]; omega⟩
    simp only [List.cons.injEq, and_true] at e2
    obtain ⟨rfl, rfl, rfl, rfl⟩ := e2
    obtain ⟨Ap, pc, p, rfl, hp1, hp2, hp3⟩ := trod_pairs h3 (fun n hn => hz' n (DataW.weights_mem_each (j := 3) rfl rfl n hn))
    obtain ⟨Ar, rk, rc, rs, rfl, hr1, hr2, hr3, hr4⟩ := trod_ress h4 (fun n hn => hz' n (DataW.weights_mem_each (j := 4) rfl rfl n hn))
    exact ⟨⟨tk, tg, cx, E, p, rk, rs⟩, ⟨At, tc, Ap, pc, Ar, rc⟩, rfl, ⟨⟨ht1, ht2⟩, b1, by rw [enm]; exact hnm, hp1, hr1, hr2⟩, ⟨ht3, fun _ _ _ _ => trivial, hp2, hr3⟩, ht4, hp3, hr4⟩
end
end Go.Proofs.Ytogjghmoankleaa
