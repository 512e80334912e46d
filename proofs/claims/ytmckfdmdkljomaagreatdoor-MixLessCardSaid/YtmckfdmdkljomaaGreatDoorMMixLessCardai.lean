/-
 The name that an item may be.
-/
import Derived.Test.YtmckfdmdkljomaaGreatDoorMMixLessCardag
import Derived.Lib.SliceRun
import Derived.OpenShut
namespace Go.Proofs.YtmckfdmdkljomaaGreatDoor
open Go.RowKit
set_option linter.unusedVariables false
set_option linter.unusedSimpArgs false
def zeroE : EV := ⟨0, [], 0, 0⟩
def noneE : EV := ⟨1, [110, 111, 110, 101], 0, 0⟩
def readE (t : T) : EV :=
 if t.kind ≠ 4 \/ t.k ≠ 2 \/ (t.ch 0).kind ≠ 0 then zeroE
 else if (t.ch 0).n = 2 /\ (t.ch 1).k = 2 then ⟨2, [], ((t.ch 1).ch 0).n, ((t.ch 1).ch 1).n⟩
 else if (t.ch 0).n = 1 /\ (t.ch 1).kind = 3 then ⟨1, (t.ch 1).s, 0, 0⟩
 else noneE
set_option maxRecDepth 20000 in
set_option maxHeartbeats 800000 in
theorem eread_1 (t : T) (A : Option Addr) (c : Nat) (h : t.kind ≠ 4) (w : World) : Calls Tryz.prog 146 #[.agg (itemC t A c)] w (Ret zeroE.v w) := by
 have HE := hid (((Mod.refl [] w).alloc (.cells (itemC t A c) 68)).alloc (.cells #[.int .i64 0, .string ⟨#[]⟩, .int .u64 0, .int .u64 0] 24))
 have n1 : (t.kind == 4) = false := by simpa using h
 have n2 : (t.kind = 4) = False := by simpa using h
 have n3 : (t.kind != 4) = true := by simpa using h
 clear h
 go_enter Tryz.func146, Tryz.ntmps146
 go_wp2_with fail
 refine bodyPost_ret (v := .agg #[.int .i64 0, str [], .int .u64 0, .int .u64 0]) (by simp [results, Tryz.results146, go_sem]) rfl (Ret.mk rfl (by first | exact (((Mod.refl _ _).alloc _).alloc _) | exact ((((Mod.refl _ _).alloc _).alloc _).alloc _)))
set_option maxRecDepth 20000 in
set_option maxHeartbeats 800000 in
theorem eread_2 (n : Nat) (s : List UInt8) (op : Bool) (k : Nat) (A : Option Addr) (c : Nat) (h : k ≠ 2) (w : World) : Calls Tryz.prog 146 #[.agg #[.int .i64 4, .int .u64 (n : Int), str s, .slice A k c, .bool op]] w (Ret zeroE.v w) := by
 have HE := hid (((Mod.refl [] w).alloc (.cells #[.int .i64 4, .int .u64 (n : Int), str s, .slice A k c, .bool op] 68)).alloc (.cells #[.int .i64 0, .string ⟨#[]⟩, .int .u64 0, .int .u64 0] 24))
 have n1 : ((k : Int) == 2) = false := by simp; omega
 have n2 : ((k : Int) = 2) = False := by simp; omega
 have n3 : ((k : Int) != 2) = true := by simp; omega
 clear h
 go_enter Tryz.func146, Tryz.ntmps146
 go_wp2_with fail
 refine bodyPost_ret (v := .agg #[.int .i64 0, str [], .int .u64 0, .int .u64 0]) (by simp [results, Tryz.results146, go_sem]) rfl (Ret.mk rfl (by first | exact (((Mod.refl _ _).alloc _).alloc _) | exact ((((Mod.refl _ _).alloc _).alloc _).alloc _)))
set_option maxRecDepth 20000 in
set_option maxHeartbeats 800000 in
theorem eread_3 (n : Nat) (s : List UInt8) (op : Bool) (ch : Nat -> T) (b o c : Nat) (A0 A1 : Option Addr) (c0 c1 : Nat) (h : (ch 0).kind ≠ 0) (w : World) (hb : b < w.heap.size) (h0 : At5 w b o (ch 0) A0 c0) (h1 : At5 w b (o + 5) (ch 1) A1 c1) : Calls Tryz.prog 146 #[.agg #[.int .i64 4, .int .u64 (n : Int), str s, .slice (some ⟨b, o, none⟩) 2 c, .bool op]] w (Ret zeroE.v w) := by
 have HE := hid (((Mod.refl [] w).alloc (.cells #[.int .i64 4, .int .u64 (n : Int), str s, .slice (some ⟨b, o, none⟩) 2 c, .bool op] 68)).alloc (.cells #[.int .i64 0, .string ⟨#[]⟩, .int .u64 0, .int .u64 0] 24))
 obtain ⟨x0, x1, x2, x3, x4⟩ := h0.mod HE.out hb (by simp)
 obtain ⟨y0, y1, y2, y3, y4⟩ := h1.mod HE.out hb (by simp)
 have n1 : ((ch 0).kind == 0) = false := by simpa using h
 have n2 : ((ch 0).kind = 0) = False := by simpa using h
 have n3 : ((ch 0).kind != 0) = true := by simpa using h
 clear h h0 h1
 go_enter Tryz.func146, Tryz.ntmps146
 go_wp2_with fail
 refine bodyPost_ret (v := .agg #[.int .i64 0, str [], .int .u64 0, .int .u64 0]) (by simp [results, Tryz.results146, go_sem]) rfl (Ret.mk rfl (by first | exact (((Mod.refl _ _).alloc _).alloc _) | exact ((((Mod.refl _ _).alloc _).alloc _).alloc _)))
set_option maxRecDepth 20000 in
set_option maxHeartbeats 800000 in
theorem eread_4 (n : Nat) (s : List UInt8) (op : Bool) (ch : Nat -> T) (b o c : Nat) (A0 A1 : Option Addr) (c0 c1 : Nat) (b1 o1 : Nat) (A2 A3 : Option Addr) (c2 c3 : Nat) (hk0 : (ch 0).kind = 0) (hn0 : (ch 0).n = 2) (hk1 : (ch 1).k = 2) (hA : A1 = some ⟨b1, o1, none⟩) (w : World) (hb : b < w.heap.size) (h0 : At5 w b o (ch 0) A0 c0) (h1 : At5 w b (o + 5) (ch 1) A1 c1) (hb1 : b1 < w.heap.size) (h2 : At5 w b1 o1 ((ch 1).ch 0) A2 c2) (h3 : At5 w b1 (o1 + 5) ((ch 1).ch 1) A3 c3) : Calls Tryz.prog 146 #[.agg #[.int .i64 4, .int .u64 (n : Int), str s, .slice (some ⟨b, o, none⟩) 2 c, .bool op]] w (Ret (EV.v ⟨2, [], ((ch 1).ch 0).n, ((ch 1).ch 1).n⟩) w) := by
 have HE := hid (((Mod.refl [] w).alloc (.cells #[.int .i64 4, .int .u64 (n : Int), str s, .slice (some ⟨b, o, none⟩) 2 c, .bool op] 68)).alloc (.cells #[.int .i64 0, .string ⟨#[]⟩, .int .u64 0, .int .u64 0] 24))
 obtain ⟨x0, x1, x2, x3, x4⟩ := h0.mod HE.out hb (by simp)
 obtain ⟨y0, y1, y2, y3, y4⟩ := h1.mod HE.out hb (by simp)
 obtain ⟨_, z1, _⟩ := h2.mod HE.out hb1 (by simp)
 obtain ⟨_, v1, _⟩ := h3.mod HE.out hb1 (by simp)
 rw [hk0] at x0
 rw [hn0] at x1
 subst hA
 rw [hk1] at y3
 have HE3 := hid (HE.out.alloc (.cells #[.int .i64 (ch 1).kind, .int .u64 ((ch 1).n : Int), str (ch 1).s, .slice (some ⟨b1, o1, none⟩) 2 c1, .bool (ch 1).op] 68))
 have gx1 : (((w.alloc (.cells #[.int .i64 4, .int .u64 (n : Int), str s, .slice (some ⟨b, o, none⟩) 2 c, .bool op] 68)).alloc (.cells #[.int .i64 0, .string ⟨#[]⟩, .int .u64 0, .int .u64 0] 24)).alloc (.cells #[.int .i64 (ch 1).kind, .int .u64 ((ch 1).n : Int), str (ch 1).s, .slice (some ⟨b1, o1, none⟩) 2 c1, .bool (ch 1).op] 68)).cell? ⟨b, o + 1, none⟩ = some (.int .u64 2) := by have := (h0.mod HE3.out hb (by simp)).2.1; rw [hn0] at this; exact this
 have gz : (((w.alloc (.cells #[.int .i64 4, .int .u64 (n : Int), str s, .slice (some ⟨b, o, none⟩) 2 c, .bool op] 68)).alloc (.cells #[.int .i64 0, .string ⟨#[]⟩, .int .u64 0, .int .u64 0] 24)).alloc (.cells #[.int .i64 (ch 1).kind, .int .u64 ((ch 1).n : Int), str (ch 1).s, .slice (some ⟨b1, o1, none⟩) 2 c1, .bool (ch 1).op] 68)).cell? ⟨b1, o1 + 1, none⟩ = some (.int .u64 (((ch 1).ch 0).n : Int)) := (h2.mod HE3.out hb1 (by simp)).2.1
 have gv : (((w.alloc (.cells #[.int .i64 4, .int .u64 (n : Int), str s, .slice (some ⟨b, o, none⟩) 2 c, .bool op] 68)).alloc (.cells #[.int .i64 0, .string ⟨#[]⟩, .int .u64 0, .int .u64 0] 24)).alloc (.cells #[.int .i64 (ch 1).kind, .int .u64 ((ch 1).n : Int), str (ch 1).s, .slice (some ⟨b1, o1, none⟩) 2 c1, .bool (ch 1).op] 68)).cell? ⟨b1, o1 + 5 + 1, none⟩ = some (.int .u64 (((ch 1).ch 1).n : Int)) := (h3.mod HE3.out hb1 (by simp)).2.1
 clear hk0 hn0 hk1 h0 h1 h2 h3
 go_enter Tryz.func146, Tryz.ntmps146
 go_wp2_with fail
 go_region
 all_goals go_wp2_with fail
 all_goals refine bodyPost_ret (v := EV.v ⟨2, [], ((ch 1).ch 0).n, ((ch 1).ch 1).n⟩) (by simp [results, Tryz.results146, go_sem]) rfl (Ret.mk rfl ((((Mod.refl _ _).alloc _).alloc _).alloc _).drew)
set_option maxRecDepth 20000 in
set_option maxHeartbeats 800000 in
theorem eread_5 (n : Nat) (s : List UInt8) (op : Bool) (ch : Nat -> T) (b o c : Nat) (A0 A1 : Option Addr) (c0 c1 : Nat) (hk0 : (ch 0).kind = 0) (hn0 : (ch 0).n = 1) (hk1 : (ch 1).kind = 3) (w : World) (hb : b < w.heap.size) (h0 : At5 w b o (ch 0) A0 c0) (h1 : At5 w b (o + 5) (ch 1) A1 c1) : Calls Tryz.prog 146 #[.agg #[.int .i64 4, .int .u64 (n : Int), str s, .slice (some ⟨b, o, none⟩) 2 c, .bool op]] w (Ret (EV.v ⟨1, (ch 1).s, 0, 0⟩) w) := by
 have HE := hid (((Mod.refl [] w).alloc (.cells #[.int .i64 4, .int .u64 (n : Int), str s, .slice (some ⟨b, o, none⟩) 2 c, .bool op] 68)).alloc (.cells #[.int .i64 0, .string ⟨#[]⟩, .int .u64 0, .int .u64 0] 24))
 obtain ⟨x0, x1, x2, x3, x4⟩ := h0.mod HE.out hb (by simp)
 obtain ⟨y0, y1, y2, y3, y4⟩ := h1.mod HE.out hb (by simp)
 rw [hk0] at x0
 rw [hn0] at x1
 rw [hk1] at y0
 have HE3 := hid (HE.out.alloc (.cells #[.int .i64 3, .int .u64 ((ch 1).n : Int), str (ch 1).s, .slice A1 (ch 1).k c1, .bool (ch 1).op] 68))
 have gx1 : (((w.alloc (.cells #[.int .i64 4, .int .u64 (n : Int), str s, .slice (some ⟨b, o, none⟩) 2 c, .bool op] 68)).alloc (.cells #[.int .i64 0, .string ⟨#[]⟩, .int .u64 0, .int .u64 0] 24)).alloc (.cells #[.int .i64 3, .int .u64 ((ch 1).n : Int), str (ch 1).s, .slice A1 (ch 1).k c1, .bool (ch 1).op] 68)).cell? ⟨b, o + 1, none⟩ = some (.int .u64 1) := by have := (h0.mod HE3.out hb (by simp)).2.1; rw [hn0] at this; exact this
 clear hk0 hn0 hk1 h0 h1
 go_enter Tryz.func146, Tryz.ntmps146
 go_wp2_with fail
 refine bodyPost_ret (v := EV.v ⟨1, (ch 1).s, 0, 0⟩) (by simp [results, Tryz.results146, go_sem]) rfl (Ret.mk rfl (by first | exact (((Mod.refl _ _).alloc _).alloc _) | exact ((((Mod.refl _ _).alloc _).alloc _).alloc _)))
set_option maxRecDepth 20000 in
set_option maxHeartbeats 800000 in
theorem eread_6 (n : Nat) (s : List UInt8) (op : Bool) (ch : Nat -> T) (b o c : Nat) (A0 A1 : Option Addr) (c0 c1 : Nat) (hk0 : (ch 0).kind = 0) (hn0 : (ch 0).n = 2) (hk1 : (ch 1).k ≠ 2) (w : World) (hb : b < w.heap.size) (h0 : At5 w b o (ch 0) A0 c0) (h1 : At5 w b (o + 5) (ch 1) A1 c1) : Calls Tryz.prog 146 #[.agg #[.int .i64 4, .int .u64 (n : Int), str s, .slice (some ⟨b, o, none⟩) 2 c, .bool op]] w (Ret noneE.v w) := by
 have HE := hid (((Mod.refl [] w).alloc (.cells #[.int .i64 4, .int .u64 (n : Int), str s, .slice (some ⟨b, o, none⟩) 2 c, .bool op] 68)).alloc (.cells #[.int .i64 0, .string ⟨#[]⟩, .int .u64 0, .int .u64 0] 24))
 obtain ⟨x0, x1, x2, x3, x4⟩ := h0.mod HE.out hb (by simp)
 obtain ⟨y0, y1, y2, y3, y4⟩ := h1.mod HE.out hb (by simp)
 rw [hk0] at x0
 rw [hn0] at x1
 have n1 : (((ch 1).k : Int) == 2) = false := by simp; omega
 have n2 : (((ch 1).k : Int) = 2) = False := by simp; omega
 have HE3 := hid (HE.out.alloc (.cells #[.int .i64 (ch 1).kind, .int .u64 ((ch 1).n : Int), str (ch 1).s, .slice A1 (ch 1).k c1, .bool (ch 1).op] 68))
 have gx1 : (((w.alloc (.cells #[.int .i64 4, .int .u64 (n : Int), str s, .slice (some ⟨b, o, none⟩) 2 c, .bool op] 68)).alloc (.cells #[.int .i64 0, .string ⟨#[]⟩, .int .u64 0, .int .u64 0] 24)).alloc (.cells #[.int .i64 (ch 1).kind, .int .u64 ((ch 1).n : Int), str (ch 1).s, .slice A1 (ch 1).k c1, .bool (ch 1).op] 68)).cell? ⟨b, o + 1, none⟩ = some (.int .u64 2) := by have := (h0.mod HE3.out hb (by simp)).2.1; rw [hn0] at this; exact this
 clear hk0 hn0 hk1 h0 h1
 have HQ := hid ((Blk.new' (w.alloc (.cells #[.int .i64 4, .int .u64 (n : Int), str s, .slice (some ⟨b, o, none⟩) 2 c, .bool op] 68)) 24 #[.int .i64 0, .string ⟨#[]⟩, .int .u64 0, .int .u64 0] (N := w.heap.size + 1) (by simp)).alloc (.cells #[.int .i64 (ch 1).kind, .int .u64 ((ch 1).n : Int), str (ch 1).s, .slice A1 (ch 1).k c1, .bool (ch 1).op] 68))
 go_enter Tryz.func146, Tryz.ntmps146
 go_wp2_with fail
 refine (eidNone_any _).mono ?_
 rintro e w1 ⟨rfl, hb1⟩
 have HE1 : Hid (Ext w w1) := HE3.out.trans hb1
 have HQ1 := hid (HQ.out.ext hb1)
 clear hb1
 obtain ⟨r0, r1, r2, r3⟩ : w1.cell? ⟨w.heap.size + 1, 0, none⟩ = some (.int .i64 0) /\ w1.cell? ⟨w.heap.size + 1, 1, none⟩ = some (str []) /\ w1.cell? ⟨w.heap.size + 1, 2, none⟩ = some (.int .u64 0) /\ w1.cell? ⟨w.heap.size + 1, 3, none⟩ = some (.int .u64 0) := ⟨HQ1.out.cell 0, HQ1.out.cell 1, HQ1.out.cell 2, HQ1.out.cell 3⟩
 have f0 := Blk.frozen HQ1.out 0
 have f1 := Blk.frozen HQ1.out 1
 have f2 := Blk.frozen HQ1.out 2
 have f3 := Blk.frozen HQ1.out 3
 go_wp2_with fail
 have B4 := (((HQ1.out.set_ 0 (.int .i64 1)).set_ 1 (str [110, 111, 110, 101])).set_ 2 (.int .u64 0)).set_ 3 (.int .u64 0)
 obtain ⟨d0, d1, d2, d3⟩ := And.intro (B4.cell 0) (And.intro (B4.cell 1) (And.intro (B4.cell 2) (B4.cell 3)))
 simp only [List.setIfInBounds_toArray, List.set_cons_zero, List.set_cons_succ, List.getElem?_toArray, List.getElem?_cons_zero, List.getElem?_cons_succ] at d0 d1 d2 d3
 clear r0 r1 r2 r3 f0 f1 f2 f3
 refine bodyPost_ret (v := .agg #[.int .i64 1, str [110, 111, 110, 101], .int .u64 0, .int .u64 0]) (by simp [results, Tryz.results146, go_sem, d0, d1, d2, d3]) rfl (Ret.mk rfl ((((HE1.out.setCell (.inr (by show w.heap.size <= w.heap.size + 1; omega)) _).setCell (.inr (by show w.heap.size <= w.heap.size + 1; omega)) _).setCell (.inr (by show w.heap.size <= w.heap.size + 1; omega)) _).setCell (.inr (by show w.heap.size <= w.heap.size + 1; omega)) _))
set_option maxRecDepth 20000 in
set_option maxHeartbeats 800000 in
theorem eread_7 (n : Nat) (s : List UInt8) (op : Bool) (ch : Nat -> T) (b o c : Nat) (A0 A1 : Option Addr) (c0 c1 : Nat) (hk0 : (ch 0).kind = 0) (hn0 : (ch 0).n = 1) (hk1 : (ch 1).kind ≠ 3) (w : World) (hb : b < w.heap.size) (h0 : At5 w b o (ch 0) A0 c0) (h1 : At5 w b (o + 5) (ch 1) A1 c1) : Calls Tryz.prog 146 #[.agg #[.int .i64 4, .int .u64 (n : Int), str s, .slice (some ⟨b, o, none⟩) 2 c, .bool op]] w (Ret noneE.v w) := by
 have HE := hid (((Mod.refl [] w).alloc (.cells #[.int .i64 4, .int .u64 (n : Int), str s, .slice (some ⟨b, o, none⟩) 2 c, .bool op] 68)).alloc (.cells #[.int .i64 0, .string ⟨#[]⟩, .int .u64 0, .int .u64 0] 24))
 obtain ⟨x0, x1, x2, x3, x4⟩ := h0.mod HE.out hb (by simp)
 obtain ⟨y0, y1, y2, y3, y4⟩ := h1.mod HE.out hb (by simp)
 rw [hk0] at x0
 rw [hn0] at x1
 have n1 : ((ch 1).kind == 3) = false := by simpa using hk1
 have n2 : ((ch 1).kind = 3) = False := by simpa using hk1
 have HE3 := hid (HE.out.alloc (.cells #[.int .i64 (ch 1).kind, .int .u64 ((ch 1).n : Int), str (ch 1).s, .slice A1 (ch 1).k c1, .bool (ch 1).op] 68))
 have gx1 : (((w.alloc (.cells #[.int .i64 4, .int .u64 (n : Int), str s, .slice (some ⟨b, o, none⟩) 2 c, .bool op] 68)).alloc (.cells #[.int .i64 0, .string ⟨#[]⟩, .int .u64 0, .int .u64 0] 24)).alloc (.cells #[.int .i64 (ch 1).kind, .int .u64 ((ch 1).n : Int), str (ch 1).s, .slice A1 (ch 1).k c1, .bool (ch 1).op] 68)).cell? ⟨b, o + 1, none⟩ = some (.int .u64 1) := by have := (h0.mod HE3.out hb (by simp)).2.1; rw [hn0] at this; exact this
 clear hk0 hn0 hk1 h0 h1
 have HQ := hid ((Blk.new' (w.alloc (.cells #[.int .i64 4, .int .u64 (n : Int), str s, .slice (some ⟨b, o, none⟩) 2 c, .bool op] 68)) 24 #[.int .i64 0, .string ⟨#[]⟩, .int .u64 0, .int .u64 0] (N := w.heap.size + 1) (by simp)).alloc (.cells #[.int .i64 (ch 1).kind, .int .u64 ((ch 1).n : Int), str (ch 1).s, .slice A1 (ch 1).k c1, .bool (ch 1).op] 68))
 go_enter Tryz.func146, Tryz.ntmps146
 go_wp2_with fail
 refine (eidNone_any _).mono ?_
 rintro e w1 ⟨rfl, hb1⟩
 have HE1 : Hid (Ext w w1) := HE3.out.trans hb1
 have HQ1 := hid (HQ.out.ext hb1)
 clear hb1
 obtain ⟨r0, r1, r2, r3⟩ : w1.cell? ⟨w.heap.size + 1, 0, none⟩ = some (.int .i64 0) /\ w1.cell? ⟨w.heap.size + 1, 1, none⟩ = some (str []) /\ w1.cell? ⟨w.heap.size + 1, 2, none⟩ = some (.int .u64 0) /\ w1.cell? ⟨w.heap.size + 1, 3, none⟩ = some (.int .u64 0) := ⟨HQ1.out.cell 0, HQ1.out.cell 1, HQ1.out.cell 2, HQ1.out.cell 3⟩
 have f0 := Blk.frozen HQ1.out 0
 have f1 := Blk.frozen HQ1.out 1
 have f2 := Blk.frozen HQ1.out 2
 have f3 := Blk.frozen HQ1.out 3
 go_wp2_with fail
 have B4 := (((HQ1.out.set_ 0 (.int .i64 1)).set_ 1 (str [110, 111, 110, 101])).set_ 2 (.int .u64 0)).set_ 3 (.int .u64 0)
 obtain ⟨d0, d1, d2, d3⟩ := And.intro (B4.cell 0) (And.intro (B4.cell 1) (And.intro (B4.cell 2) (B4.cell 3)))
 simp only [List.setIfInBounds_toArray, List.set_cons_zero, List.set_cons_succ, List.getElem?_toArray, List.getElem?_cons_zero, List.getElem?_cons_succ] at d0 d1 d2 d3
 clear r0 r1 r2 r3 f0 f1 f2 f3
 refine bodyPost_ret (v := .agg #[.int .i64 1, str [110, 111, 110, 101], .int .u64 0, .int .u64 0]) (by simp [results, Tryz.results146, go_sem, d0, d1, d2, d3]) rfl (Ret.mk rfl ((((HE1.out.setCell (.inr (by show w.heap.size <= w.heap.size + 1; omega)) _).setCell (.inr (by show w.heap.size <= w.heap.size + 1; omega)) _).setCell (.inr (by show w.heap.size <= w.heap.size + 1; omega)) _).setCell (.inr (by show w.heap.size <= w.heap.size + 1; omega)) _))
set_option maxRecDepth 20000 in
set_option maxHeartbeats 800000 in
theorem eread_8 (n : Nat) (s : List UInt8) (op : Bool) (ch : Nat -> T) (b o c : Nat) (A0 A1 : Option Addr) (c0 c1 : Nat) (hk0 : (ch 0).kind = 0) (hn0 : (ch 0).n ≠ 1) (hn2 : (ch 0).n ≠ 2) (w : World) (hb : b < w.heap.size) (h0 : At5 w b o (ch 0) A0 c0) (h1 : At5 w b (o + 5) (ch 1) A1 c1) : Calls Tryz.prog 146 #[.agg #[.int .i64 4, .int .u64 (n : Int), str s, .slice (some ⟨b, o, none⟩) 2 c, .bool op]] w (Ret noneE.v w) := by
 have HE := hid (((Mod.refl [] w).alloc (.cells #[.int .i64 4, .int .u64 (n : Int), str s, .slice (some ⟨b, o, none⟩) 2 c, .bool op] 68)).alloc (.cells #[.int .i64 0, .string ⟨#[]⟩, .int .u64 0, .int .u64 0] 24))
 obtain ⟨x0, x1, x2, x3, x4⟩ := h0.mod HE.out hb (by simp)
 obtain ⟨y0, y1, y2, y3, y4⟩ := h1.mod HE.out hb (by simp)
 rw [hk0] at x0
 have n1 : (((ch 0).n : Int) == 1) = false := by simp; omega
 have n2 : (((ch 0).n : Int) = 1) = False := by simp; omega
 have n3 : (((ch 0).n : Int) == 2) = false := by simp; omega
 have n4 : (((ch 0).n : Int) = 2) = False := by simp; omega
 have HE3 := hid (HE.out.alloc (.cells #[.int .i64 (ch 1).kind, .int .u64 ((ch 1).n : Int), str (ch 1).s, .slice A1 (ch 1).k c1, .bool (ch 1).op] 68))
 have gx1 : (((w.alloc (.cells #[.int .i64 4, .int .u64 (n : Int), str s, .slice (some ⟨b, o, none⟩) 2 c, .bool op] 68)).alloc (.cells #[.int .i64 0, .string ⟨#[]⟩, .int .u64 0, .int .u64 0] 24)).alloc (.cells #[.int .i64 (ch 1).kind, .int .u64 ((ch 1).n : Int), str (ch 1).s, .slice A1 (ch 1).k c1, .bool (ch 1).op] 68)).cell? ⟨b, o + 1, none⟩ = some (.int .u64 ((ch 0).n : Int)) := by have := (h0.mod HE3.out hb (by simp)).2.1; exact this
 clear hk0 hn0 hn2 h0 h1
 have HQ := hid ((Blk.new' (w.alloc (.cells #[.int .i64 4, .int .u64 (n : Int), str s, .slice (some ⟨b, o, none⟩) 2 c, .bool op] 68)) 24 #[.int .i64 0, .string ⟨#[]⟩, .int .u64 0, .int .u64 0] (N := w.heap.size + 1) (by simp)).alloc (.cells #[.int .i64 (ch 1).kind, .int .u64 ((ch 1).n : Int), str (ch 1).s, .slice A1 (ch 1).k c1, .bool (ch 1).op] 68))
 go_enter Tryz.func146, Tryz.ntmps146
 go_wp2_with fail
 refine (eidNone_any _).mono ?_
 rintro e w1 ⟨rfl, hb1⟩
 have HE1 : Hid (Ext w w1) := HE3.out.trans hb1
 have HQ1 := hid (HQ.out.ext hb1)
 clear hb1
 obtain ⟨r0, r1, r2, r3⟩ : w1.cell? ⟨w.heap.size + 1, 0, none⟩ = some (.int .i64 0) /\ w1.cell? ⟨w.heap.size + 1, 1, none⟩ = some (str []) /\ w1.cell? ⟨w.heap.size + 1, 2, none⟩ = some (.int .u64 0) /\ w1.cell? ⟨w.heap.size + 1, 3, none⟩ = some (.int .u64 0) := ⟨HQ1.out.cell 0, HQ1.out.cell 1, HQ1.out.cell 2, HQ1.out.cell 3⟩
 have f0 := Blk.frozen HQ1.out 0
 have f1 := Blk.frozen HQ1.out 1
 have f2 := Blk.frozen HQ1.out 2
 have f3 := Blk.frozen HQ1.out 3
 go_wp2_with fail
 have B4 := (((HQ1.out.set_ 0 (.int .i64 1)).set_ 1 (str [110, 111, 110, 101])).set_ 2 (.int .u64 0)).set_ 3 (.int .u64 0)
 obtain ⟨d0, d1, d2, d3⟩ := And.intro (B4.cell 0) (And.intro (B4.cell 1) (And.intro (B4.cell 2) (B4.cell 3)))
 simp only [List.setIfInBounds_toArray, List.set_cons_zero, List.set_cons_succ, List.getElem?_toArray, List.getElem?_cons_zero, List.getElem?_cons_succ] at d0 d1 d2 d3
 clear r0 r1 r2 r3 f0 f1 f2 f3
 refine bodyPost_ret (v := .agg #[.int .i64 1, str [110, 111, 110, 101], .int .u64 0, .int .u64 0]) (by simp [results, Tryz.results146, go_sem, d0, d1, d2, d3]) rfl (Ret.mk rfl ((((HE1.out.setCell (.inr (by show w.heap.size <= w.heap.size + 1; omega)) _).setCell (.inr (by show w.heap.size <= w.heap.size + 1; omega)) _).setCell (.inr (by show w.heap.size <= w.heap.size + 1; omega)) _).setCell (.inr (by show w.heap.size <= w.heap.size + 1; omega)) _))
theorem eread_any (t : T) (ht : t ≠ T.nil) (A : Option Addr) (c : Nat) (w : World) (h : IsL w (fun _ => True) t A) : Calls Tryz.prog 146 #[itemV t A c] w (Ret (readE t).v w) := by
 by_cases h4 : t.kind = 4
 case neg =>
  have e : readE t = zeroE := by unfold readE; rw [if_pos (Or.inl h4)]
  rw [e]; exact eread_1 t A c h4 w
 obtain ⟨kind, n, s, op, k, ch, rfl⟩ : ∃ kind n s op k ch, t = T.mk kind n s op k ch := by cases t with | nil => exact absurd rfl ht | mk a b d e f g => exact ⟨a, b, d, e, f, g, rfl⟩
 have h4 : kind = 4 := h4
 subst h4
 by_cases hk : k = 2
 case neg =>
  have e : readE (T.mk 4 n s op k ch) = zeroE := by unfold readE; rw [if_pos (Or.inr (Or.inl (show (T.mk 4 n s op k ch).k ≠ 2 from hk)))]
  rw [e]; exact eread_2 n s op k A c hk w
 subst hk
 obtain ⟨b, o, ac, rfl, hb, _, hc⟩ := h.rows (by omega)
 obtain ⟨a0, i0⟩ := hc 0 (by omega)
 obtain ⟨a1, i1⟩ := hc 1 (by omega)
 have a0 : At5 w b o (ch 0) (ac 0).1 (ac 0).2 := by simpa using a0
 have a1 : At5 w b (o + 5) (ch 1) (ac 1).1 (ac 1).2 := by simpa using a1
 by_cases hk0 : (ch 0).kind = 0
 case neg =>
  have e : readE (T.mk 4 n s op 2 ch) = zeroE := by unfold readE; rw [if_pos (Or.inr (Or.inr (show ((T.mk 4 n s op 2 ch).ch 0).kind ≠ 0 from hk0)))]
  rw [e]; exact eread_3 n s op ch b o c _ _ _ _ hk0 w hb a0 a1
 have hz : ¬ ((T.mk 4 n s op 2 ch).kind ≠ 4 \/ (T.mk 4 n s op 2 ch).k ≠ 2 \/ ((T.mk 4 n s op 2 ch).ch 0).kind ≠ 0) := by
  rintro (h | h | h)
  . exact h rfl
  . exact h rfl
  . exact h hk0
 by_cases hn2 : (ch 0).n = 2
 .
  by_cases hk1 : (ch 1).k = 2
  .
   have e : readE (T.mk 4 n s op 2 ch) = ⟨2, [], ((ch 1).ch 0).n, ((ch 1).ch 1).n⟩ := by unfold readE; rw [if_neg hz, if_pos ⟨hn2, hk1⟩]; rfl
   rw [e]
   cases hc1 : ch 1 with
   | nil => rw [hc1] at hk1; cases hk1
   | mk k1 n1 s1 op1 kk ch1 =>
    rw [hc1] at i1 hk1
    have hkk : kk = 2 := hk1
    subst hkk
    obtain ⟨b1, o1, ac1, hA, hb1, _, hcc⟩ := i1.rows (by omega)
    obtain ⟨q0, _⟩ := hcc 0 (by omega)
    obtain ⟨q1, _⟩ := hcc 1 (by omega)
    have q0 : At5 w b1 o1 (ch1 0) (ac1 0).1 (ac1 0).2 := by simpa using q0
    have q1 : At5 w b1 (o1 + 5) (ch1 1) (ac1 1).1 (ac1 1).2 := by simpa using q1
    have h := eread_4 n s op ch b o c _ _ _ _ b1 o1 _ _ _ _ hk0 hn2 (by rw [hc1]; rfl) hA w hb a0 a1 hb1 (by rw [hc1]; exact q0) (by rw [hc1]; exact q1)
    rw [hc1] at h
    exact h
  .
   have e : readE (T.mk 4 n s op 2 ch) = noneE := by unfold readE; rw [if_neg hz, if_neg (fun h => hk1 h.2), if_neg (fun h => by have : (ch 0).n = 1 := h.1; omega)]
   rw [e]; exact eread_6 n s op ch b o c _ _ _ _ hk0 hn2 hk1 w hb a0 a1
 .
  by_cases hn1 : (ch 0).n = 1
  .
   by_cases hk1 : (ch 1).kind = 3
   .
    have e : readE (T.mk 4 n s op 2 ch) = ⟨1, (ch 1).s, 0, 0⟩ := by unfold readE; rw [if_neg hz, if_neg (fun h => hn2 h.1), if_pos ⟨hn1, hk1⟩]; rfl
    rw [e]; exact eread_5 n s op ch b o c _ _ _ _ hk0 hn1 hk1 w hb a0 a1
   .
    have e : readE (T.mk 4 n s op 2 ch) = noneE := by unfold readE; rw [if_neg hz, if_neg (fun h => hn2 h.1), if_neg (fun h => hk1 h.2)]
    rw [e]; exact eread_7 n s op ch b o c _ _ _ _ hk0 hn1 hk1 w hb a0 a1
  .
   have e : readE (T.mk 4 n s op 2 ch) = noneE := by unfold readE; rw [if_neg hz, if_neg (fun h => hn2 h.1), if_neg (fun h => hn1 h.1)]
   rw [e]; exact eread_8 n s op ch b o c _ _ _ _ hk0 hn1 hn2 w hb a0 a1
set_option maxRecDepth 20000 in
set_option maxHeartbeats 3200000 in
theorem same_any (a : T) : ∀ b : T, a.ok -> b.ok -> ∀ A c B d w, IsL w (fun _ => True) a A -> IsL w (fun _ => True) b B ->
  Calls Tryz.prog 173 #[itemV a A c, itemV b B d] w (Ret (.bool (a.same b)) w) := by
 induction a with
 | nil => intro b hok; cases hok
 | mk kind n s op k ch ih =>
  intro b
  rcases b with _ | ⟨kind', n', s', op', k', ch'⟩
  . intro _ hok; cases hok
  intro hok hok' A c B d w h h'
  have H := hid h; have HO := hid hok
  have H' := hid h'; have HO' := hid hok'
  have HI := hid ih
  have hk : Hid (k < 4611686018427387904) := by unfold T.ok at hok; exact hok.2.2.2.1
  have HR : Hid ((T.mk kind n s op k ch).same (T.mk kind' n' s' op' k' ch') = (kind == kind' && n == n' && s == s' && op == op' && k == k' && T.all (fun i => (ch i).same (ch' i)) k)) := rfl
  show Calls Tryz.prog 173 #[.agg #[.int .i64 kind, .int .u64 (n : Int), str s, .slice A k c, .bool op], .agg #[.int .i64 kind', .int .u64 (n' : Int), str s', .slice B k' d, .bool op']] w (Ret (.bool ((T.mk kind n s op k ch).same (T.mk kind' n' s' op' k' ch'))) w)
  rw [HR.out]
  have HBa : Hid (Blk ((w.alloc (.cells #[.int .i64 kind, .int .u64 (n : Int), str s, .slice A k c, .bool op] 68)).alloc (.cells #[.int .i64 kind', .int .u64 (n' : Int), str s', .slice B k' d, .bool op'] 68)) w.heap.size 68 #[.int .i64 kind, .int .u64 (n : Int), str s, .slice A k c, .bool op]) := (Blk.new _ _ _).alloc _
  have HBb : Hid (Blk ((w.alloc (.cells #[.int .i64 kind, .int .u64 (n : Int), str s, .slice A k c, .bool op] 68)).alloc (.cells #[.int .i64 kind', .int .u64 (n' : Int), str s', .slice B k' d, .bool op'] 68)) (w.heap.size + 1) 68 #[.int .i64 kind', .int .u64 (n' : Int), str s', .slice B k' d, .bool op']) := by
   exact Blk.new' _ _ _ (by simp)
  have HE0 := hid (((Mod.refl [] w).alloc (.cells #[.int .i64 kind, .int .u64 (n : Int), str s, .slice A k c, .bool op] 68)).alloc (.cells #[.int .i64 kind', .int .u64 (n' : Int), str s', .slice B k' d, .bool op'] 68))
  clear h hok h' hok' ih HR
  go_enter Tryz.func173, Tryz.ntmps173
  by_cases e1 : kind = kind'
  .
   subst e1
   by_cases e2 : n = n'
   .
    subst e2
    by_cases e3 : s = s'
    .
     subst e3
     by_cases e4 : op = op'
     .
      subst e4
      by_cases e5 : k = k'
      .
       subst e5
       have tk : ((k : Int) == (k : Int)) = true := by simp
       have HA := hid (fun (wr : World) (hX : Ext ((w.alloc (.cells #[.int .i64 kind, .int .u64 (n : Int), str s, .slice A k c, .bool op] 68)).alloc (.cells #[.int .i64 kind, .int .u64 (n : Int), str s, .slice B k d, .bool op] 68)) wr) => (show wr.cell? ⟨w.heap.size, 3, none⟩ = some (.slice A k c) /\ wr.cell? ⟨w.heap.size + 1, 3, none⟩ = some (.slice B k d) from ⟨(HBa.out.ext hX).cell 3, (HBb.out.ext hX).cell 3⟩))
       have HEB := hid (Mod.refl [] ((w.alloc (.cells #[.int .i64 kind, .int .u64 (n : Int), str s, .slice A k c, .bool op] 68)).alloc (.cells #[.int .i64 kind, .int .u64 (n : Int), str s, .slice B k d, .bool op] 68)))
       go_wp2_with fail
       go_loopw [44] (fun s44 wr => ∃ i : Nat, i <= k /\ s44 = .int .i64 (i : Int) /\ Hid (Ext ((w.alloc (.cells #[.int .i64 kind, .int .u64 (n : Int), str s, .slice A k c, .bool op] 68)).alloc (.cells #[.int .i64 kind, .int .u64 (n : Int), str s, .slice B k d, .bool op] 68)) wr /\ T.all (fun i => (ch i).same (ch' i)) i = true)) (fun i _ => k - (intOf i).toNat)
       case atStart => exact ⟨0, Nat.zero_le _, rfl, HEB.out, rfl⟩
       case round =>
        obtain ⟨i, hi, rfl, hX⟩ := hrel
        have HEW := hid (HE0.out.trans hX.out.1)
        have i0 : (0 : Int) <= (i : Int) := by omega
        by_cases hlt : i < k
        .
         obtain ⟨y0, y1⟩ := HA.out wr hX.out.1
         obtain ⟨b, o, Ai, ci, rfl, hb, ⟨k0, k1, k2, k3, k4⟩, hL⟩ := H.out.cells HEW.out hlt
         obtain ⟨b', o', Ai', ci', rfl, hb', ⟨l0, l1, l2, l3, l4⟩, hL'⟩ := H'.out.cells HEW.out hlt
         have i1 : (i : Int) < (k : Int) := by omega
         have ti : decide (i < k) = true := by simp [hlt]
         have HL := hid hL; have HL' := hid hL'; have HLT := hid hlt
         have HOi : Hid (ch i).ok := by have := HO.out; unfold T.ok at this; exact this.2.2.2.2 i hlt
         have HOi' : Hid (ch' i).ok := by have := HO'.out; unfold T.ok at this; exact this.2.2.2.2 i hlt
         have hb0 : b < wr.heap.size := Nat.lt_of_lt_of_le hb HEW.out.size
         have hb0' : b' < wr.heap.size := Nat.lt_of_lt_of_le hb' HEW.out.size
         have HL5 : Hid (∀ W, Ext wr W -> W.cell? ⟨b, o + i * 5 + 3, none⟩ = some (.slice Ai (ch i).k ci)) := fun W hW => (hW.cell hb0 (by simp)).trans k3
         have HL5' : Hid (∀ W, Ext wr W -> W.cell? ⟨b', o' + i * 5 + 3, none⟩ = some (.slice Ai' (ch' i).k ci')) := fun W hW => (hW.cell hb0' (by simp)).trans l3
         clear hb hb' hb0 hb0'
         have HC := hid (fun W hW => HI.out i (ch' i) HOi.out HOi'.out Ai ci Ai' ci' W (HL.out.ext hW) (HL'.out.ext hW))
         have HS : Hid (∀ W, Ext wr W -> W.cell? ⟨w.heap.size, 3, none⟩ = some (.slice (some ⟨b, o, none⟩) k c) /\ W.cell? ⟨w.heap.size + 1, 3, none⟩ = some (.slice (some ⟨b', o', none⟩) k d) /\ W.cell? ⟨b, o + i * 5, none⟩ = some (.int .i64 (ch i).kind) /\ W.cell? ⟨b, o + i * 5 + 1, none⟩ = some (.int .u64 ((ch i).n : Int)) /\ W.cell? ⟨b, o + i * 5 + 2, none⟩ = some (str (ch i).s) /\ W.cell? ⟨b, o + i * 5 + 3, none⟩ = some (.slice Ai (ch i).k ci) /\ W.cell? ⟨b, o + i * 5 + 4, none⟩ = some (.bool (ch i).op) /\ W.cell? ⟨b', o' + i * 5, none⟩ = some (.int .i64 (ch' i).kind) /\ W.cell? ⟨b', o' + i * 5 + 1, none⟩ = some (.int .u64 ((ch' i).n : Int)) /\ W.cell? ⟨b', o' + i * 5 + 2, none⟩ = some (str (ch' i).s) /\ W.cell? ⟨b', o' + i * 5 + 3, none⟩ = some (.slice Ai' (ch' i).k ci') /\ W.cell? ⟨b', o' + i * 5 + 4, none⟩ = some (.bool (ch' i).op)) := fun W hW => by
          obtain ⟨z0, z1⟩ := HA.out W (hX.out.1.trans hW)
          obtain ⟨e1, e2, Ai2, ci2, e3, _, ⟨p0, p1, p2, p3, p4⟩, _⟩ := H.out.cells (HEW.out.trans hW) hlt
          obtain ⟨e1', e2', Ai2', ci2', e3', _, ⟨q0, q1, q2, q3, q4⟩, _⟩ := H'.out.cells (HEW.out.trans hW) hlt
          simp only [Option.some.injEq, Addr.mk.injEq, and_true] at e3 e3'
          obtain ⟨rfl, rfl⟩ := e3
          obtain ⟨rfl, rfl⟩ := e3'
          have g3 := HL5.out W hW; have g3' := HL5'.out W hW
          rw [p3] at g3; rw [q3] at g3'
          exact ⟨z0, z1, p0, p1, p2, p3.trans g3, p4, q0, q1, q2, q3.trans g3', q4⟩
         clear hL hL' hlt
         have hk2 : (k : Int) < 4611686018427387904 := by have := hk.out; omega
         go_upto_region 6 with fail
         go_region_held3 (fun w' => w'.cell? ⟨w.heap.size, 3, none⟩ = some (.slice (some ⟨b, o, none⟩) k c) /\ w'.cell? ⟨w.heap.size + 1, 3, none⟩ = some (.slice (some ⟨b', o', none⟩) k d) /\ w'.cell? ⟨b, o + i * 5, none⟩ = some (.int .i64 (ch i).kind) /\ w'.cell? ⟨b, o + i * 5 + 1, none⟩ = some (.int .u64 ((ch i).n : Int)) /\ w'.cell? ⟨b, o + i * 5 + 2, none⟩ = some (str (ch i).s) /\ w'.cell? ⟨b, o + i * 5 + 3, none⟩ = some (.slice Ai (ch i).k ci) /\ w'.cell? ⟨b, o + i * 5 + 4, none⟩ = some (.bool (ch i).op) /\ w'.cell? ⟨b', o' + i * 5, none⟩ = some (.int .i64 (ch' i).kind) /\ w'.cell? ⟨b', o' + i * 5 + 1, none⟩ = some (.int .u64 ((ch' i).n : Int)) /\ w'.cell? ⟨b', o' + i * 5 + 2, none⟩ = some (str (ch' i).s) /\ w'.cell? ⟨b', o' + i * 5 + 3, none⟩ = some (.slice Ai' (ch' i).k ci') /\ w'.cell? ⟨b', o' + i * 5 + 4, none⟩ = some (.bool (ch' i).op)) (exact HS.out _ (by (repeat (first | with_reducible assumption | with_reducible exact Mod.refl _ _ | with_reducible refine Mod.drew ?_))))
          ((go_at_call 173; refine (HC.out _ ?_).mono ?_; (repeat (first | with_reducible assumption | with_reducible exact Mod.refl _ _ | with_reducible refine Mod.drew ?_)); rintro e w3 ⟨rfl, hb3⟩; have hx3 : Ext wr w3 := (by with_reducible refine Mod.trans ?_ hb3; (repeat (first | with_reducible assumption | with_reducible exact Mod.refl _ _ | with_reducible refine Mod.drew ?_)))))
         have HE3 := hid (hX.out.1.trans hx3)
         have HE4 := hid (HEW.out.trans hx3)
         have HW1 : Hid (wrap64 ((i : Int) + 1) = (i : Int) + 1) := IntWalk.wrap64_in _ (by omega)
         clear hb3 hk2
         cases hpl : (ch i).same (ch' i)
         .
          have hno : T.all (fun i => (ch i).same (ch' i)) k = false := by
           have hlt := HLT.out
           cases hh : T.all (fun i => (ch i).same (ch' i)) k with
           | false => rfl
           | true => have := T.all_iff.1 hh i hlt; rw [hpl] at this; cases this
          have HNO := hid hno
          clear hno hpl
          go_wp2_with fail
          go_ret
          exact Ret.mk (by rw [HNO.out]; simp) HE4.out
         .
          have HPL := hid hpl
          clear hpl
          go_wp2_with fail
          have hlt := HLT.out
          have G1 : Value.int .i64 (wrap64 ((i : Int) + 1)) = .int .i64 ((i + 1 : Nat) : Int) := by rw [HW1.out]; simp
          have G2 : T.all (fun i => (ch i).same (ch' i)) (i + 1) = true := by rw [T.all, hX.out.2, HPL.out]; rfl
          have G3 : k - (intOf (Value.int .i64 (wrap64 ((i : Int) + 1)))).toNat < k - (intOf (.int .i64 (i : Int))).toNat := by rw [G1]; simp only [intOf]; omega
          refine ⟨⟨i + 1, by omega, G1, (show Hid _ from ⟨HE3.out, G2⟩)⟩, G3⟩
        .
         obtain rfl : i = k := by omega
         have ti : decide (i < i) = false := by simp
         go_wp2_with fail
         go_ret
         exact Ret.mk (by rw [hX.out.2]; simp) HEW.out
      .
       have f5 : (k = k') = False := by simp [e5]
       have f5' : ((k : Int) == (k' : Int)) = false := by simp; omega
       cases op
       .
        go_wp2_with fail
        go_ret
        exact Ret.mk (by simp [e5]) HE0.out
       .
        go_wp2_with fail
        go_ret
        exact Ret.mk (by simp [e5]) HE0.out
     .
      have f4 : (op == op') = false := by simp [e4]
      have f4' : (op = op') = False := by simp [e4]
      go_wp2_with fail
      go_ret
      exact Ret.mk (by simp) HE0.out
    .
     have f3 : (s == s') = false := by simp [e3]
     have f3' : (s = s') = False := by simp [e3]
     go_wp2_with fail
     go_ret
     exact Ret.mk (by simp) HE0.out
   .
    have f2 : ((n : Int) == (n' : Int)) = false := by simp; omega
    have f2' : (n = n') = False := by simp [e2]
    go_wp2_with fail
    go_ret
    exact Ret.mk (by simp [e2]) HE0.out
  .
   have f1 : (kind == kind') = false := by simp [e1]
   have f1' : (kind = kind') = False := by simp [e1]
   go_wp2_with fail
   go_ret
   exact Ret.mk (by simp) HE0.out
set_option maxRecDepth 20000 in
set_option maxHeartbeats 1600000 in
theorem Same_any (a b : T) (hoa : a.ok) (hob : b.ok) (A B : Option Addr) (c d : Nat) (w : World) (ha : IsL w (fun _ => True) a A) (hb : IsL w (fun _ => True) b B) :
  Calls Tryz.prog 148 #[itemV a A c, itemV b B d] w (Ret (.bool (a.right 8 && b.right 8 && a.same b)) w) := by
 have H := hid ha; have H' := hid hb; have HO := hid hoa; have HO' := hid hob
 have HBa : Hid (Blk ((w.alloc (.cells (itemC a A c) 68)).alloc (.cells (itemC b B d) 68)) w.heap.size 68 (itemC a A c)) := (Blk.new _ _ _).alloc _
 have HBb : Hid (Blk ((w.alloc (.cells (itemC a A c) 68)).alloc (.cells (itemC b B d) 68)) (w.heap.size + 1) 68 (itemC b B d)) := Blk.new' _ _ _ (by simp)
 have HE0 := hid (((Mod.refl [] w).alloc (.cells (itemC a A c) 68)).alloc (.cells (itemC b B d) 68))
 clear ha hb hoa hob
 go_enter Tryz.func148, Tryz.ntmps148
 go_wp2_with fail
 refine (iRight_any a HO.out A c _ (H.out.ext HE0.out)).mono ?_
 rintro e w2 ⟨rfl, hb2⟩
 have HE2 := hid (HE0.out.trans hb2)
 have hBa2 := HBa.out.ext hb2
 have hBb2 := HBb.out.ext hb2
 have ca0 : w2.cell? ⟨w.heap.size, 0, none⟩ = some (.int .i64 a.kind) := hBa2.cell 0
 have ca1 : w2.cell? ⟨w.heap.size, 1, none⟩ = some (.int .u64 (a.n : Int)) := hBa2.cell 1
 have ca2 : w2.cell? ⟨w.heap.size, 2, none⟩ = some (str a.s) := hBa2.cell 2
 have ca3 : w2.cell? ⟨w.heap.size, 3, none⟩ = some (.slice A a.k c) := hBa2.cell 3
 have ca4 : w2.cell? ⟨w.heap.size, 4, none⟩ = some (.bool a.op) := hBa2.cell 4
 have cb0 : w2.cell? ⟨w.heap.size + 1, 0, none⟩ = some (.int .i64 b.kind) := hBb2.cell 0
 have cb1 : w2.cell? ⟨w.heap.size + 1, 1, none⟩ = some (.int .u64 (b.n : Int)) := hBb2.cell 1
 have cb2 : w2.cell? ⟨w.heap.size + 1, 2, none⟩ = some (str b.s) := hBb2.cell 2
 have cb3 : w2.cell? ⟨w.heap.size + 1, 3, none⟩ = some (.slice B b.k d) := hBb2.cell 3
 have cb4 : w2.cell? ⟨w.heap.size + 1, 4, none⟩ = some (.bool b.op) := hBb2.cell 4
 have HA2 := hid hBa2; have HB2 := hid hBb2
 clear hBa2 hBb2 hb2
 cases hr : a.right 8
 .
  have HR := hid hr
  clear hr
  go_wp2_with fail
  go_ret
  exact Ret.mk (by simp [show a.right 8 = false from HR.out]) HE2.out
 .
  have HR := hid hr
  clear hr
  go_wp2_with fail
  refine (iRight_any b HO'.out B d _ (H'.out.ext HE2.out)).mono ?_
  rintro e w3 ⟨rfl, hb3⟩
  have HE3 := hid (HE2.out.trans hb3)
  have hBa2 := HA2.out.ext hb3
  have hBb2 := HB2.out.ext hb3
  clear ca0 ca1 ca2 ca3 ca4 cb0 cb1 cb2 cb3 cb4
  have ca0 : w3.cell? ⟨w.heap.size, 0, none⟩ = some (.int .i64 a.kind) := hBa2.cell 0
  have ca1 : w3.cell? ⟨w.heap.size, 1, none⟩ = some (.int .u64 (a.n : Int)) := hBa2.cell 1
  have ca2 : w3.cell? ⟨w.heap.size, 2, none⟩ = some (str a.s) := hBa2.cell 2
  have ca3 : w3.cell? ⟨w.heap.size, 3, none⟩ = some (.slice A a.k c) := hBa2.cell 3
  have ca4 : w3.cell? ⟨w.heap.size, 4, none⟩ = some (.bool a.op) := hBa2.cell 4
  have cb0 : w3.cell? ⟨w.heap.size + 1, 0, none⟩ = some (.int .i64 b.kind) := hBb2.cell 0
  have cb1 : w3.cell? ⟨w.heap.size + 1, 1, none⟩ = some (.int .u64 (b.n : Int)) := hBb2.cell 1
  have cb2 : w3.cell? ⟨w.heap.size + 1, 2, none⟩ = some (str b.s) := hBb2.cell 2
  have cb3 : w3.cell? ⟨w.heap.size + 1, 3, none⟩ = some (.slice B b.k d) := hBb2.cell 3
  have cb4 : w3.cell? ⟨w.heap.size + 1, 4, none⟩ = some (.bool b.op) := hBb2.cell 4
  clear hBa2 hBb2 hb3
  cases hr : b.right 8
  .
   have HR2 := hid hr
   clear hr
   go_wp2_with fail
   go_ret
   exact Ret.mk (by simp [show b.right 8 = false from HR2.out]) HE3.out
  .
   have HR2 := hid hr
   clear hr
   go_wp2_with fail
   refine (same_any a b HO.out HO'.out A c B d _ (H.out.ext HE3.out) (H'.out.ext HE3.out)).mono ?_
   rintro e w4 ⟨rfl, hb4⟩
   go_wp2_with fail
   go_ret
   exact Ret.mk (by simp [show a.right 8 = true from HR.out, show b.right 8 = true from HR2.out]) (HE3.out.trans hb4)
structure Two (W : World) (g : Nat) (a b : T) (A B : Option Addr) (c d : Nat) : Prop where
 a0 : W.cell? ⟨g, 0, none⟩ = some (.int .i64 a.kind)
 a1 : W.cell? ⟨g, 1, none⟩ = some (.int .u64 (a.n : Int))
 a2 : W.cell? ⟨g, 2, none⟩ = some (str a.s)
 a3 : W.cell? ⟨g, 3, none⟩ = some (.slice A a.k c)
 a4 : W.cell? ⟨g, 4, none⟩ = some (.bool a.op)
 b0 : W.cell? ⟨g + 1, 0, none⟩ = some (.int .i64 b.kind)
 b1 : W.cell? ⟨g + 1, 1, none⟩ = some (.int .u64 (b.n : Int))
 b2 : W.cell? ⟨g + 1, 2, none⟩ = some (str b.s)
 b3 : W.cell? ⟨g + 1, 3, none⟩ = some (.slice B b.k d)
 b4 : W.cell? ⟨g + 1, 4, none⟩ = some (.bool b.op)
theorem Two.new (w : World) (a b : T) (A B : Option Addr) (c d : Nat) : Hid (∀ W, Ext ((w.alloc (.cells (itemC a A c) 68)).alloc (.cells (itemC b B d) 68)) W -> Two W w.heap.size a b A B c d) := fun W hW => by
 have h1 : Blk W w.heap.size 68 (itemC a A c) := ((Blk.new _ _ _).alloc _).ext hW
 have h2 : Blk W (w.heap.size + 1) 68 (itemC b B d) := (Blk.new' _ _ _ (by simp)).ext hW
 exact ⟨h1.cell 0, h1.cell 1, h1.cell 2, h1.cell 3, h1.cell 4, h2.cell 0, h2.cell 1, h2.cell 2, h2.cell 3, h2.cell 4⟩
set_option maxHeartbeats 800000 in
theorem CloneI_any {Q : Nat -> Prop} {kind : Int} {n : Nat} {s : List UInt8} {op : Bool} (ch : Nat -> T) (k : Nat) (hk : Hid (0 < k /\ k <= 1000)) (A : Option Addr) (c : Nat) (w : World) (h : IsL w Q (T.mk kind n s op k ch) A) :
  Calls Tryz.prog 180 #[.slice A k c] w (fun e w' => ∃ (g c' : Nat) (ac : Nat -> Option Addr × Nat), e = .returned (.slice (some ⟨g, 0, none⟩) k c') /\ Ext w w' /\ w.heap.size <= g /\ g < w'.heap.size /\ w'.ownsRow w.heap.size 68 5 (.slice (some ⟨g, 0, none⟩) k c') k (flatC ch ac k) /\ ∀ i, i < k -> IsL w' Q (ch i) (ac i).1) := by
 have he := Lib.run_eql_slice_nil (P := Tryz.prog)
 obtain ⟨i0, hi, hz0, hz1, hz2⟩ := info_parts infoItem
 obtain ⟨b, o, ac, rfl, hb, hq, hc⟩ := h.rows hk.out.1
 have hl := World.ownsRow_lit (base := w.heap.size) (e := 68) (size := 5) w #[] 0 (Nat.le_refl _) (Nat.zero_le _) rfl
 have hnews : Hid (∀ j u, (flatC ch ac k)[j]? = some u -> (w.alloc (.cells #[] 68)).cell? ((⟨b, o, none⟩ : Addr).add j) = some u) := flatC_news fun i hi => (hc i hi).1.mod (S := []) ((Mod.refl _ _).alloc _) hb (by simp)
 have hfl := hid (flatC_length ch ac k)
 have hfc := hid (flatC_one ch ac k)
 have HC := hid hc
 clear hc h
 go_enter Tryz.func180, Tryz.ntmps180
 go_wp2_with (at_builtin; refine wpList_append_own _ rfl _ _ 66 rfl w.heap.size 68 i0 _ 5 64 vqF hi hz0 hz1 hz2 rfl (by decide) _ _ _ rfl hl ⟨b, o, none⟩ k c (flatC ch ac k) rfl hfl.out hnews.out hfc.out (by have := hk.out; unfold maxLen; omega) (by have := hk.out; omega) (by simp) ?_; intro v' w1 hown' hgrow hnil)
 have hg2 : (w.alloc (.cells #[] 68)).grownBy w1 (some w.heap.size) := hgrow
 have hm : Ext w w1 := ((Mod.refl [] w).alloc (.cells #[] 68)).grown hg2 (fun k hk => .inr (by cases hk; exact Nat.le_refl _))
 have hown2 : w1.ownsRow w.heap.size 68 5 v' k (flatC ch ac k) := by simpa using hown'
 obtain ⟨m, rfl⟩ : ∃ m, k = m + 1 := ⟨k - 1, by have := hk.out.1; omega⟩
 obtain ⟨g, c', rfl, hg, hlt⟩ := own_form hown2
 go_wp2
 go_ret
 exact ⟨g, c', rfl, hm, hg, hlt, ac, hown2, fun i hi => (HC.out i hi).2.ext hm⟩
section
open Go.ChangeShapes Go.WideShapes Go.ChangeAt Go.Deep
section
variable {H : Type} {enc : TypeId × Value -> H} {w : World} {base b0 : Nat} {spare : Nat -> Bool} {held : Bool} {r : Reach}
set_option maxRecDepth 100000 in
theorem trod_eid {fuel : Nat} {cs : List Value} {x : DataW H × List MemPlace} (h : DataW.trod enc Tryz.prog w base spare held fuel 24 cs = some x) :
  ∃ e : EV, cs = [.int .i64 e.sch, str e.name, .int .u64 (e.node : Int), .int .u64 (e.svc : Int)] /\ e.node < 18446744073709551616 /\ e.svc < 18446744073709551616 /\ (-9223372036854775808 <= e.sch /\ e.sch <= 9223372036854775807) := by
 obtain ⟨ys, n', hn', hy, hlen, hyl, hfl⟩ := DataW.trod_struct vqE h
 match cs, hlen with
 | [c0, c1, c2, c3], _ =>
  have h0 := field_at (by kernel_rfl) hfl (i := 0) rfl rfl
  have h1 := field_at (by kernel_rfl) hfl (i := 1) rfl rfl
  have h2 := field_at (by kernel_rfl) hfl (i := 2) rfl rfl
  have h3 := field_at (by kernel_rfl) hfl (i := 3) rfl rfl
  clear hfl h
  match ys, hyl with
  | [y0, y1, y2, y3], _ =>
   obtain ⟨sch, e0, _, w0⟩ := DataW.trod_int (k := .i64) (by kernel_rfl) h0
   obtain ⟨s, e1, _, _⟩ := DataW.trod_string (by kernel_rfl) h1
   obtain ⟨a, e2, _, w2⟩ := DataW.trod_int (k := .u64) (by kernel_rfl) h2
   obtain ⟨b, e3, _, w3⟩ := DataW.trod_int (k := .u64) (by kernel_rfl) h3
   have q0 : c0 = .int .i64 sch := by have : [c0] = [Value.int .i64 sch] := e0; simpa using this
   have q1 : c1 = .string s := by have : [c1] = [Value.string s] := e1; simpa using this
   have q2 : c2 = .int .u64 a := by have : [c2] = [Value.int .u64 a] := e2; simpa using this
   have q3 : c3 = .int .u64 b := by have : [c3] = [Value.int .u64 b] := e3; simpa using this
   subst q0 q1 q2 q3
   have b0 : -9223372036854775808 <= sch /\ sch <= 9223372036854775807 := by simpa [Lit.wf, IntKind.min, IntKind.max, IntKind.signed, IntKind.bits] using w0
   have b2 : 0 <= a /\ a <= 18446744073709551615 := by simpa [Lit.wf, IntKind.min, IntKind.max, IntKind.signed, IntKind.bits] using w2
   have b3 : 0 <= b /\ b <= 18446744073709551615 := by simpa [Lit.wf, IntKind.min, IntKind.max, IntKind.signed, IntKind.bits] using w3
   obtain ⟨a, rfl⟩ := Int.eq_ofNat_of_zero_le b2.1
   obtain ⟨b, rfl⟩ := Int.eq_ofNat_of_zero_le b3.1
   exact ⟨⟨sch, s.data.toList, a, b⟩, rfl, by show a < _; omega, by show b < _; omega, b0⟩
end
end
end Go.Proofs.YtmckfdmdkljomaaGreatDoor
