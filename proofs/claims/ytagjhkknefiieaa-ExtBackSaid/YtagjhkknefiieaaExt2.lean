/-
  Data of blocks: a name, a number, hops; made by the code.
-/
import Derived.Test.YtagjhkknefiieaaExt1
import Derived.Test.YtagjhkknefiieaaQx
namespace Go.Proofs.Ytagjhkknefiieaa
open Go.RowKit
set_option linter.unusedVariables false

set_option maxRecDepth 20000 in
theorem build_no (t : T) (A : Option Addr) (c : Nat) (w : World) : Calls Try.prog 29 #[itemV t A c, .bool false] w (Ret (.tuple #[str [], .int .i64 1]) w) := by
  go_enter Try.func29, Try.ntmps29
  go_wp2_with fail
  refine bodyPost_ret (v := .tuple #[str [], .int .i64 1]) (by simp [results, Try.results29, go_sem]) rfl (Ret.mk rfl (by repeat (first | exact Mod.refl _ _ | refine Mod.alloc ?_ _)))
set_option maxRecDepth 20000 in
theorem build_yes (t : T) (hok : t.ok) (hsz : t.size ≤ 100000) (hr : t.right 8 = true) (A : Option Addr) (c : Nat) (w : World) (h : IsL w (fun _ => True) t A) : Calls Try.prog 29 #[itemV t A c, .bool true] w (Ret (.tuple #[str t.bytes, .int .i64 0]) w) := by
  have K : Hid (∀ W, IsL W (fun _ => True) t A → Calls Try.prog 53 #[itemV t A c] W (Ret (.tuple #[str t.bytes, .int .i64 0]) W)) := fun W hW => by
    have := iBuild_any t hok hsz A c W hW
    rw [buildV, hr] at this
    exact this
  have H := hid h
  clear hok hsz hr h
  go_enter Try.func29, Try.ntmps29
  go_wp2_with fail
  refine (K.out _ (H.out.ext ((Mod.refl _ _).alloc _))).mono ?_
  rintro e w1 ⟨rfl, hb1⟩
  have HE1 := hid (((Mod.refl [] w).alloc (.cells (itemC t A c) 63)).trans hb1)
  clear hb1
  go_wp2_with fail
  refine bodyPost_ret (v := .tuple #[str t.bytes, .int .i64 0]) (by simp [results, Try.results29, go_sem]) rfl (Ret.mk rfl HE1.out)
theorem numT_facts (n : Nat) : (numT n).size ≤ 100000 ∧ (numT n).right 8 = true ∧ (numT n).bytes = headL 0 n := by
  refine ⟨by simp [numT, T.size, T.sum], by simp [numT, T.right, T.node, T.all], by simp [numT, T.bytes]⟩
set_option maxRecDepth 20000 in
set_option maxHeartbeats 800000 in
theorem Age_no (n : Nat) (h : 1099511627776 < n) (w : World) : Calls Try.prog 12 #[.int .u64 (n : Int)] w (Ret (.tuple #[str [], .int .i64 1]) w) := by
  have t1 : decide ((n : Int) ≤ 1099511627776) = false := by simp; omega
  clear h
  go_enter Try.func12, Try.ntmps12
  go_wp2_with fail
  refine (NumI_any _ _).mono ?_
  rintro e w1 ⟨rfl, hb1⟩
  go_wp2_with fail
  refine (build_no (numT n) none 0 _).mono ?_
  rintro e w2 ⟨rfl, hb2⟩
  go_wp2_with fail
  refine bodyPost_ret (v := .tuple #[str [], .int .i64 1]) (by simp [results, Try.results12, go_sem]) rfl (Ret.mk rfl (hb1.trans hb2))
set_option maxRecDepth 20000 in
set_option maxHeartbeats 800000 in
theorem Age_yes (n : Nat) (h : n ≤ 1099511627776) (w : World) : Calls Try.prog 12 #[.int .u64 (n : Int)] w (Ret (.tuple #[str (headL 0 n), .int .i64 0]) w) := by
  have t1 : decide ((n : Int) ≤ 1099511627776) = true := by simp; omega
  have K := hid (fun W => build_yes (numT n) (num_ok (by omega)) (numT_facts n).1 (numT_facts n).2.1 none 0 W (leaf_IsL rfl (by simp [numT])))
  rw [(numT_facts n).2.2] at K
  clear h
  go_enter Try.func12, Try.ntmps12
  go_wp2_with fail
  refine (NumI_any _ _).mono ?_
  rintro e w1 ⟨rfl, hb1⟩
  go_wp2_with fail
  refine (K.out _).mono ?_
  rintro e w2 ⟨rfl, hb2⟩
  go_wp2_with fail
  refine bodyPost_ret (v := .tuple #[str (headL 0 n), .int .i64 0]) (by simp [results, Try.results12, go_sem]) rfl (Ret.mk rfl (hb1.trans hb2))
def mayB (l c : Int) : Bool := decide (1 ≤ l) && decide (l ≤ 255) && decide (0 ≤ c) && decide (c ≤ 255)
theorem may_any (l c : Int) (w : World) : Calls Try.prog 37 #[.agg #[.int .i64 l, .int .i64 c]] w (Ret (.bool (mayB l c)) w) := by
  unfold mayB
  go_enter Try.func37, Try.ntmps37
  go_wp2
  all_goals go_ret
  all_goals refine Ret.mk ?_ ((Mod.refl _ _).alloc _)
  all_goals simp
  all_goals (intros; omega)
def pairT2 (a b : Nat) : T := T.mk 4 0 [] false 2 fun i => if i = 0 then numT a else numT b
theorem pairT2_facts (a b : Nat) (ha : a < 18446744073709551616) (hb : b < 18446744073709551616) : (pairT2 a b).ok ∧ (pairT2 a b).size ≤ 100000 ∧ (pairT2 a b).right 8 = true ∧ (pairT2 a b).bytes = 130 :: (headL 0 a ++ headL 0 b) := by
  refine ⟨?_, by simp [pairT2, numT, T.size, T.sum], by simp [pairT2, numT, T.right, T.node, T.all], ?_⟩
  · unfold pairT2 T.ok
    exact ⟨by omega, by omega, by simp, by omega, fun i hi => by dsimp only; split; exact num_ok ha; exact num_ok hb⟩
  · have : headL 4 2 = [130] := by decide
    simp [pairT2, numT, T.bytes, T.cat, this]
set_option maxRecDepth 20000 in
set_option maxHeartbeats 800000 in
theorem Hops_no (l c : Int) (h : mayB l c = false) (w : World) : Calls Try.prog 14 #[.int .i64 l, .int .i64 c] w (Ret (.tuple #[str [], .int .i64 1]) w) := by
  have KM := hid (fun W => may_any l c W)
  rw [h] at KM
  clear h
  go_enter Try.func14, Try.ntmps14
  go_wp2_with fail
  refine (NumI_any _ _).mono ?_
  rintro e w1 ⟨rfl, hb1⟩
  go_wp2_with fail
  refine (NumI_any _ _).mono ?_
  rintro e w2 ⟨rfl, hb2⟩
  have HE2 := hid (hb1.trans hb2)
  clear hb1 hb2
  go_wp2_with fail
  refine (ListV_any 2 _ 2 _).mono ?_
  rintro e w3 ⟨rfl, hb3⟩
  have HE3 := hid ((HE2.out.alloc _).trans hb3)
  clear hb3 HE2
  go_wp2_with fail
  refine (KM.out _).mono ?_
  rintro e w4 ⟨rfl, hb4⟩
  have HE4 := hid (HE3.out.trans hb4)
  clear hb4 HE3
  go_wp2_with fail
  refine (build_no (T.mk 4 0 [] false 2 fun _ => T.nil) (some ⟨w2.heap.size, 0, none⟩) 2 _).mono ?_
  rintro e w5 ⟨rfl, hb5⟩
  have HE5 := hid (HE4.out.trans hb5)
  clear hb5
  go_wp2_with fail
  refine bodyPost_ret (v := .tuple #[str [], .int .i64 1]) (by simp [results, Try.results14, go_sem]) rfl (Ret.mk rfl HE5.out)
set_option maxRecDepth 20000 in
set_option maxHeartbeats 800000 in
theorem Hops_yes (l c : Nat) (h : mayB l c = true) (w : World) : Calls Try.prog 14 #[.int .i64 (l : Int), .int .i64 (c : Int)] w (Ret (.tuple #[str (130 :: (headL 0 l ++ headL 0 c)), .int .i64 0]) w) := by
  have KM := hid (fun W => may_any l c W)
  rw [h] at KM
  have hb : l ≤ 255 ∧ c ≤ 255 := by simp [mayB] at h; omega
  obtain ⟨f1, f2, f3, f4⟩ := pairT2_facts l c (by omega) (by omega)
  have KB : Hid (∀ (A : Option Addr) (W : World), IsL W (fun _ => True) (pairT2 l c) A → Calls Try.prog 29 #[.agg #[.int .i64 4, .int .u64 0, str [], .slice A 2 2, .bool false], .bool true] W (Ret (.tuple #[str (130 :: (headL 0 l ++ headL 0 c)), .int .i64 0]) W)) := fun A W hW => by
    have := build_yes (pairT2 l c) f1 f2 f3 A 2 W hW
    rw [f4] at this
    exact this
  have t1 : IntKind.u64.wrap (l : Int) = (l : Int) := IntWalk.u64_in _ (by omega)
  have t2 : IntKind.u64.wrap (c : Int) = (c : Int) := IntWalk.u64_in _ (by omega)
  clear h f1 f2 f3 f4
  go_enter Try.func14, Try.ntmps14
  go_wp2_with fail
  refine (NumI_any _ _).mono ?_
  rintro e w1 ⟨rfl, hb1⟩
  go_wp2_with fail
  refine (NumI_any _ _).mono ?_
  rintro e w2 ⟨rfl, hb2⟩
  have HE2 := hid (hb1.trans hb2)
  clear hb1 hb2
  go_wp2_with fail
  refine (ListV_any 2 _ 2 _).mono ?_
  rintro e w3 ⟨rfl, hb3⟩
  have HE3 := hid ((HE2.out.alloc _).trans hb3)
  have HL3 : Hid (IsL w3 (fun _ => True) (pairT2 l c) (some ⟨w2.heap.size, 0, none⟩)) := two_IsL (numT l) (numT c) none none 0 0 trivial ((Blk.new w2 63 #[.int .i64 0, .int .u64 (l : Int), str [], .slice none 0 0, .bool false, .int .i64 0, .int .u64 (c : Int), str [], .slice none 0 0, .bool false]).ext hb3) (leaf_IsL rfl (by simp [numT])) (leaf_IsL rfl (by simp [numT]))
  clear hb3 HE2
  go_wp2_with fail
  refine (KM.out _).mono ?_
  rintro e w4 ⟨rfl, hb4⟩
  have HE4 := hid (HE3.out.trans hb4)
  have HL4 := hid (HL3.out.ext hb4)
  clear hb4 HE3
  go_wp2_with fail
  refine (KB.out _ _ HL4.out).mono ?_
  rintro e w5 ⟨rfl, hb5⟩
  have HE5 := hid (HE4.out.trans hb5)
  clear hb5
  go_wp2_with fail
  refine bodyPost_ret (v := .tuple #[str (130 :: (headL 0 l ++ headL 0 c)), .int .i64 0]) (by simp [results, Try.results14, go_sem]) rfl (Ret.mk rfl HE5.out)
set_option maxRecDepth 20000 in
theorem Prev_no (e : EV) (hs : Hid (e.name.length < 4611686018427387904)) (ho : e.ok = false) (w : World) : Calls Try.prog 9 #[e.v] w (Ret (.tuple #[str [], .int .i64 1]) w) := by
  obtain ⟨sch, name, node, svc⟩ := e
  have K := hid (fun W => eidItem_bad sch name node svc hs ho W)
  have HE := hid ((Mod.refl [] w).alloc (.cells (EV.c ⟨sch, name, node, svc⟩) 24))
  go_enter Try.func9, Try.ntmps9
  go_wp2_with fail
  refine (K.out _).mono ?_
  rintro e w1 ⟨rfl, hb1⟩
  have HE1 := hid (HE.out.trans hb1)
  clear hb1
  go_wp2_with fail
  refine (build_no (numT 0) none 0 _).mono ?_
  rintro e w2 ⟨rfl, hb2⟩
  have HE2 := hid (Mod.trans (by first | exact HE1.out | exact HE1.out.alloc _) hb2)
  clear hb2
  go_wp2_with fail
  refine bodyPost_ret (v := .tuple #[str [], .int .i64 1]) (by simp [results, Try.results9, go_sem]) rfl (Ret.mk rfl HE2.out)
set_option maxRecDepth 20000 in
theorem Prev_yes (e : EV) (ho : e.ok = true) (w : World) : Calls Try.prog 9 #[e.v] w (Ret (.tuple #[str (eidT e).bytes, .int .i64 0]) w) := by
  have K := hid (fun W => eidItem_ok e ho W)
  obtain ⟨g1, g2, g3, g4⟩ := eidT_ok ho
  have KB := hid (fun A W => build_yes (eidT e) g1 g4 (g2 8 (by omega)) A 2 W)
  obtain ⟨sch, name, node, svc⟩ := e
  have HE := hid ((Mod.refl [] w).alloc (.cells (EV.c ⟨sch, name, node, svc⟩) 24))
  generalize eidT ⟨sch, name, node, svc⟩ = t at *
  clear g1 g2 g3 g4
  go_enter Try.func9, Try.ntmps9
  go_wp2_with fail
  refine (K.out _).mono ?_
  rintro e w1 ⟨A, rfl, hb1, hl1⟩
  have HE1 := hid (HE.out.trans hb1)
  have HL1 := hid hl1
  clear hb1 hl1
  go_wp2_with fail
  refine (KB.out A _ (IsL.weak (fun _ _ _ => trivial) _ (by first | exact HL1.out | exact HL1.out.ext ((Mod.refl _ _).alloc _)))).mono ?_
  rintro e w2 ⟨rfl, hb2⟩
  have HE2 := hid (Mod.trans (by first | exact HE1.out | exact HE1.out.alloc _) hb2)
  clear hb2
  go_wp2_with fail
  refine bodyPost_ret (v := .tuple #[str t.bytes, .int .i64 0]) (by simp [results, Try.results9, go_sem]) rfl (Ret.mk rfl HE2.out)
set_option maxRecDepth 20000 in
theorem r14Prev (e : EV) (ho : e.ok = true) (w : World) : Calls Try.prog 11 #[e.v] w (Ret (str (eidT e).bytes) w) := by
  have K := hid (fun W => r10Item_ok e ho W)
  obtain ⟨g1, g2, g3, g4⟩ := eidT_ok ho
  have KB := hid (fun A W => rBytesI_any (eidT e) g1 g3 g4 A 2 W)
  obtain ⟨sch, name, node, svc⟩ := e
  have HE := hid ((Mod.refl [] w).alloc (.cells (EV.c ⟨sch, name, node, svc⟩) 24))
  generalize eidT ⟨sch, name, node, svc⟩ = t at *
  clear g1 g2 g3 g4
  go_enter Try.func11, Try.ntmps11
  go_wp2_with fail
  refine (K.out _).mono ?_
  rintro e w1 ⟨A, rfl, hb1, hl1⟩
  go_wp2_with fail
  refine (KB.out A _ (IsL.weak (fun _ _ _ => trivial) _ hl1)).mono ?_
  rintro e w2 ⟨rfl, hb2⟩
  go_wp2_with fail
  go_ret
  exact Ret.mk rfl (HE.out.trans (hb1.trans hb2))
theorem r14Age (n : Nat) (h : n < 18446744073709551616) (w : World) : Calls Try.prog 13 #[.int .u64 (n : Int)] w (Ret (str (headL 0 n)) w) := by
  have K : Hid (∀ W, Calls Try.prog 35 #[.int .i64 0, .int .u64 (n : Int)] W (Ret (str (headL 0 n)) W)) := fun W => by simpa using rhead_in 0 (n : Int) (by omega) (by omega) (by omega) (by omega) W
  go_enter Try.func13, Try.ntmps13
  go_wp2_with fail
  refine (K.out _).mono ?_
  rintro e w2 ⟨rfl, hb2⟩
  go_wp2_with fail
  go_ret
  exact Ret.mk rfl hb2
set_option maxRecDepth 20000 in
theorem r14Hops (l c : Nat) (hl : l ≤ 255) (hc : c ≤ 255) (w : World) : Calls Try.prog 15 #[.int .i64 (l : Int), .int .i64 (c : Int)] w (Ret (str (130 :: (headL 0 l ++ headL 0 c))) w) := by
  have K1 : Hid (∀ W, Calls Try.prog 35 #[.int .i64 0, .int .u64 (l : Int)] W (Ret (str (headL 0 l)) W)) := fun W => by simpa using rhead_in 0 (l : Int) (by omega) (by omega) (by omega) (by omega) W
  have K2 : Hid (∀ W, Calls Try.prog 35 #[.int .i64 0, .int .u64 (c : Int)] W (Ret (str (headL 0 c)) W)) := fun W => by simpa using rhead_in 0 (c : Int) (by omega) (by omega) (by omega) (by omega) W
  have t1 : IntKind.u64.wrap (l : Int) = (l : Int) := IntWalk.u64_in _ (by omega)
  have t2 : IntKind.u64.wrap (c : Int) = (c : Int) := IntWalk.u64_in _ (by omega)
  have g1 := headL_le 0 l
  have g2 := headL_le 0 c
  generalize headL 0 l = x at *
  generalize headL 0 c = y at *
  go_enter Try.func15, Try.ntmps15
  go_wp2_with fail
  refine (K1.out _).mono ?_
  rintro e w1 ⟨rfl, hb1⟩
  have hx1 : ¬ 9223372036854775807 < 1 + x.length := by omega
  go_wp2_with fail
  refine (K2.out _).mono ?_
  rintro e w2 ⟨rfl, hb2⟩
  have e1 : Value.string ((⟨#[130]⟩ : ByteArray) ++ ⟨x.toArray⟩) = str (130 :: x) := str_app [130] x
  rw [e1]
  have hx2 : ¬ 9223372036854775807 < (130 :: x).length + y.length := by simp; omega
  generalize hz : (130 : UInt8) :: x = z at *
  have HZ := hid hz; clear hz e1
  go_wp2_with fail
  go_ret
  exact Ret.mk (by rw [← List.cons_append, HZ.out]; exact str_app _ _) (hb1.trans hb2)
theorem Find_none (w : World) : Calls Try.prog 51 #[.agg #[.int .u64 0, .int .i64 0, .int .i64 0, str [], .int .u64 0, .int .u64 0, .int .i64 0, str [], .int .u64 0, .int .u64 0, .int .i64 0, str [], .int .u64 0, .int .u64 0, .int .u64 0, .int .u64 0, .int .u64 0, .int .u64 0, .int .u64 0, .slice none 0 0], .int .i64 7] w (Ret (.tuple #[.agg #[.int .i64 0, .int .i64 0, .int .u64 0, .int .i64 0, str []], .bool false]) w) := by
  go_enter Try.func51, Try.ntmps51
  go_wp2_with fail
  go_loop [11] (fun i => i = .int .i64 0) (fun i => 0)
  case atStart => rfl
  case round =>
    subst hrel
    go_wp2_with fail
    refine bodyPost_ret (v := .tuple #[.agg #[.int .i64 0, .int .i64 0, .int .u64 0, .int .i64 0, str []], .bool false]) (by simp [results, Try.results51, go_sem]) rfl (Ret.mk rfl (((Mod.refl _ _).alloc _).alloc _))
end Go.Proofs.Ytagjhkknefiieaa
