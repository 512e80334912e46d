/-
 The name that an item may be.
-/
import Derived.Test.YthecmnbkjchjmaaGreatMExtHopsaj
namespace Go.Proofs.YthecmnbkjchjmaaGreat
open Go.RowKit
set_option linter.unusedVariables false
set_option linter.unusedSimpArgs false
def zeroE : EV := ⟨0, [], 0, 0⟩
def noneE : EV := ⟨1, [110, 111, 110, 101], 0, 0⟩
def readE (t : T) : EV :=
 if t.kind ≠ 4 \/ t.k ≠ 2 \/ (t.ch 0).kind ≠ 0 then zeroE
 else if (t.ch 0).n = 2 /\ (t.ch 1).k = 2 then ⟨2, [], ((t.ch 1).ch 0).n, ((t.ch 1).ch 1).n⟩
 else if (t.ch 0).n = 1 /\ (t.ch 1).kind = 3 then ⟨1, (t.ch 1).s, 0, 0⟩
 else noneE
set_option maxRecDepth 20000 in
set_option maxHeartbeats 800000 in
theorem eread_1 (t : T) (A : Option Addr) (c : Nat) (h : t.kind ≠ 4) (w : World) : Calls Tryz.prog 138 #[.agg (itemC t A c)] w (Ret zeroE.v w) := by
 have HE := hid (((Mod.refl [] w).alloc (.cells (itemC t A c) 86)).alloc (.cells #[.int .i64 0, .string ⟨#[]⟩, .int .u64 0, .int .u64 0] 24))
 have n1 : (t.kind == 4) = false := by simpa using h
 have n2 : (t.kind = 4) = False := by simpa using h
 have n3 : (t.kind != 4) = true := by simpa using h
 clear h
 go_enter Tryz.func138, Tryz.ntmps138
 go_wp2_with fail
 refine bodyPost_ret (v := .agg #[.int .i64 0, str [], .int .u64 0, .int .u64 0]) (by simp [results, Tryz.results138, go_sem]) rfl (Ret.mk rfl (by first | exact (((Mod.refl _ _).alloc _).alloc _) | exact ((((Mod.refl _ _).alloc _).alloc _).alloc _)))
set_option maxRecDepth 20000 in
set_option maxHeartbeats 800000 in
theorem eread_2 (n : Nat) (s : List UInt8) (op : Bool) (k : Nat) (A : Option Addr) (c : Nat) (h : k ≠ 2) (w : World) : Calls Tryz.prog 138 #[.agg #[.int .i64 4, .int .u64 (n : Int), str s, .slice A k c, .bool op]] w (Ret zeroE.v w) := by
 have HE := hid (((Mod.refl [] w).alloc (.cells #[.int .i64 4, .int .u64 (n : Int), str s, .slice A k c, .bool op] 86)).alloc (.cells #[.int .i64 0, .string ⟨#[]⟩, .int .u64 0, .int .u64 0] 24))
 have n1 : ((k : Int) == 2) = false := by simp; omega
 have n2 : ((k : Int) = 2) = False := by simp; omega
 have n3 : ((k : Int) != 2) = true := by simp; omega
 clear h
 go_enter Tryz.func138, Tryz.ntmps138
 go_wp2_with fail
 refine bodyPost_ret (v := .agg #[.int .i64 0, str [], .int .u64 0, .int .u64 0]) (by simp [results, Tryz.results138, go_sem]) rfl (Ret.mk rfl (by first | exact (((Mod.refl _ _).alloc _).alloc _) | exact ((((Mod.refl _ _).alloc _).alloc _).alloc _)))
set_option maxRecDepth 20000 in
set_option maxHeartbeats 800000 in
theorem eread_3 (n : Nat) (s : List UInt8) (op : Bool) (ch : Nat -> T) (b o c : Nat) (A0 A1 : Option Addr) (c0 c1 : Nat) (h : (ch 0).kind ≠ 0) (w : World) (hb : b < w.heap.size) (h0 : At5 w b o (ch 0) A0 c0) (h1 : At5 w b (o + 5) (ch 1) A1 c1) : Calls Tryz.prog 138 #[.agg #[.int .i64 4, .int .u64 (n : Int), str s, .slice (some ⟨b, o, none⟩) 2 c, .bool op]] w (Ret zeroE.v w) := by
 have HE := hid (((Mod.refl [] w).alloc (.cells #[.int .i64 4, .int .u64 (n : Int), str s, .slice (some ⟨b, o, none⟩) 2 c, .bool op] 86)).alloc (.cells #[.int .i64 0, .string ⟨#[]⟩, .int .u64 0, .int .u64 0] 24))
 obtain ⟨x0, x1, x2, x3, x4⟩ := h0.mod HE.out hb (by simp)
 obtain ⟨y0, y1, y2, y3, y4⟩ := h1.mod HE.out hb (by simp)
 have n1 : ((ch 0).kind == 0) = false := by simpa using h
 have n2 : ((ch 0).kind = 0) = False := by simpa using h
 have n3 : ((ch 0).kind != 0) = true := by simpa using h
 clear h h0 h1
 go_enter Tryz.func138, Tryz.ntmps138
 go_wp2_with fail
 refine bodyPost_ret (v := .agg #[.int .i64 0, str [], .int .u64 0, .int .u64 0]) (by simp [results, Tryz.results138, go_sem]) rfl (Ret.mk rfl (by first | exact (((Mod.refl _ _).alloc _).alloc _) | exact ((((Mod.refl _ _).alloc _).alloc _).alloc _)))
set_option maxRecDepth 20000 in
set_option maxHeartbeats 800000 in
theorem eread_4 (n : Nat) (s : List UInt8) (op : Bool) (ch : Nat -> T) (b o c : Nat) (A0 A1 : Option Addr) (c0 c1 : Nat) (b1 o1 : Nat) (A2 A3 : Option Addr) (c2 c3 : Nat) (hk0 : (ch 0).kind = 0) (hn0 : (ch 0).n = 2) (hk1 : (ch 1).k = 2) (hA : A1 = some ⟨b1, o1, none⟩) (w : World) (hb : b < w.heap.size) (h0 : At5 w b o (ch 0) A0 c0) (h1 : At5 w b (o + 5) (ch 1) A1 c1) (hb1 : b1 < w.heap.size) (h2 : At5 w b1 o1 ((ch 1).ch 0) A2 c2) (h3 : At5 w b1 (o1 + 5) ((ch 1).ch 1) A3 c3) : Calls Tryz.prog 138 #[.agg #[.int .i64 4, .int .u64 (n : Int), str s, .slice (some ⟨b, o, none⟩) 2 c, .bool op]] w (Ret (EV.v ⟨2, [], ((ch 1).ch 0).n, ((ch 1).ch 1).n⟩) w) := by
 have HE := hid (((Mod.refl [] w).alloc (.cells #[.int .i64 4, .int .u64 (n : Int), str s, .slice (some ⟨b, o, none⟩) 2 c, .bool op] 86)).alloc (.cells #[.int .i64 0, .string ⟨#[]⟩, .int .u64 0, .int .u64 0] 24))
 obtain ⟨x0, x1, x2, x3, x4⟩ := h0.mod HE.out hb (by simp)
 obtain ⟨y0, y1, y2, y3, y4⟩ := h1.mod HE.out hb (by simp)
 obtain ⟨_, z1, _⟩ := h2.mod HE.out hb1 (by simp)
 obtain ⟨_, v1, _⟩ := h3.mod HE.out hb1 (by simp)
 rw [hk0] at x0
 rw [hn0] at x1
 subst hA
 rw [hk1] at y3
 have HE3 := hid (HE.out.alloc (.cells #[.int .i64 (ch 1).kind, .int .u64 ((ch 1).n : Int), str (ch 1).s, .slice (some ⟨b1, o1, none⟩) 2 c1, .bool (ch 1).op] 86))
 have gx1 : (((w.alloc (.cells #[.int .i64 4, .int .u64 (n : Int), str s, .slice (some ⟨b, o, none⟩) 2 c, .bool op] 86)).alloc (.cells #[.int .i64 0, .string ⟨#[]⟩, .int .u64 0, .int .u64 0] 24)).alloc (.cells #[.int .i64 (ch 1).kind, .int .u64 ((ch 1).n : Int), str (ch 1).s, .slice (some ⟨b1, o1, none⟩) 2 c1, .bool (ch 1).op] 86)).cell? ⟨b, o + 1, none⟩ = some (.int .u64 2) := by have := (h0.mod HE3.out hb (by simp)).2.1; rw [hn0] at this; exact this
 have gz : (((w.alloc (.cells #[.int .i64 4, .int .u64 (n : Int), str s, .slice (some ⟨b, o, none⟩) 2 c, .bool op] 86)).alloc (.cells #[.int .i64 0, .string ⟨#[]⟩, .int .u64 0, .int .u64 0] 24)).alloc (.cells #[.int .i64 (ch 1).kind, .int .u64 ((ch 1).n : Int), str (ch 1).s, .slice (some ⟨b1, o1, none⟩) 2 c1, .bool (ch 1).op] 86)).cell? ⟨b1, o1 + 1, none⟩ = some (.int .u64 (((ch 1).ch 0).n : Int)) := (h2.mod HE3.out hb1 (by simp)).2.1
 have gv : (((w.alloc (.cells #[.int .i64 4, .int .u64 (n : Int), str s, .slice (some ⟨b, o, none⟩) 2 c, .bool op] 86)).alloc (.cells #[.int .i64 0, .string ⟨#[]⟩, .int .u64 0, .int .u64 0] 24)).alloc (.cells #[.int .i64 (ch 1).kind, .int .u64 ((ch 1).n : Int), str (ch 1).s, .slice (some ⟨b1, o1, none⟩) 2 c1, .bool (ch 1).op] 86)).cell? ⟨b1, o1 + 5 + 1, none⟩ = some (.int .u64 (((ch 1).ch 1).n : Int)) := (h3.mod HE3.out hb1 (by simp)).2.1
 clear hk0 hn0 hk1 h0 h1 h2 h3
 go_enter Tryz.func138, Tryz.ntmps138
 go_wp2_with fail
 go_region
 all_goals go_wp2_with fail
 all_goals refine bodyPost_ret (v := EV.v ⟨2, [], ((ch 1).ch 0).n, ((ch 1).ch 1).n⟩) (by simp [results, Tryz.results138, go_sem]) rfl (Ret.mk rfl ((((Mod.refl _ _).alloc _).alloc _).alloc _).drew)
set_option maxRecDepth 20000 in
set_option maxHeartbeats 800000 in
theorem eread_5 (n : Nat) (s : List UInt8) (op : Bool) (ch : Nat -> T) (b o c : Nat) (A0 A1 : Option Addr) (c0 c1 : Nat) (hk0 : (ch 0).kind = 0) (hn0 : (ch 0).n = 1) (hk1 : (ch 1).kind = 3) (w : World) (hb : b < w.heap.size) (h0 : At5 w b o (ch 0) A0 c0) (h1 : At5 w b (o + 5) (ch 1) A1 c1) : Calls Tryz.prog 138 #[.agg #[.int .i64 4, .int .u64 (n : Int), str s, .slice (some ⟨b, o, none⟩) 2 c, .bool op]] w (Ret (EV.v ⟨1, (ch 1).s, 0, 0⟩) w) := by
 have HE := hid (((Mod.refl [] w).alloc (.cells #[.int .i64 4, .int .u64 (n : Int), str s, .slice (some ⟨b, o, none⟩) 2 c, .bool op] 86)).alloc (.cells #[.int .i64 0, .string ⟨#[]⟩, .int .u64 0, .int .u64 0] 24))
 obtain ⟨x0, x1, x2, x3, x4⟩ := h0.mod HE.out hb (by simp)
 obtain ⟨y0, y1, y2, y3, y4⟩ := h1.mod HE.out hb (by simp)
 rw [hk0] at x0
 rw [hn0] at x1
 rw [hk1] at y0
 have HE3 := hid (HE.out.alloc (.cells #[.int .i64 3, .int .u64 ((ch 1).n : Int), str (ch 1).s, .slice A1 (ch 1).k c1, .bool (ch 1).op] 86))
 have gx1 : (((w.alloc (.cells #[.int .i64 4, .int .u64 (n : Int), str s, .slice (some ⟨b, o, none⟩) 2 c, .bool op] 86)).alloc (.cells #[.int .i64 0, .string ⟨#[]⟩, .int .u64 0, .int .u64 0] 24)).alloc (.cells #[.int .i64 3, .int .u64 ((ch 1).n : Int), str (ch 1).s, .slice A1 (ch 1).k c1, .bool (ch 1).op] 86)).cell? ⟨b, o + 1, none⟩ = some (.int .u64 1) := by have := (h0.mod HE3.out hb (by simp)).2.1; rw [hn0] at this; exact this
 clear hk0 hn0 hk1 h0 h1
 go_enter Tryz.func138, Tryz.ntmps138
 go_wp2_with fail
 refine bodyPost_ret (v := EV.v ⟨1, (ch 1).s, 0, 0⟩) (by simp [results, Tryz.results138, go_sem]) rfl (Ret.mk rfl (by first | exact (((Mod.refl _ _).alloc _).alloc _) | exact ((((Mod.refl _ _).alloc _).alloc _).alloc _)))
set_option maxRecDepth 20000 in
set_option maxHeartbeats 800000 in
theorem eread_6 (n : Nat) (s : List UInt8) (op : Bool) (ch : Nat -> T) (b o c : Nat) (A0 A1 : Option Addr) (c0 c1 : Nat) (hk0 : (ch 0).kind = 0) (hn0 : (ch 0).n = 2) (hk1 : (ch 1).k ≠ 2) (w : World) (hb : b < w.heap.size) (h0 : At5 w b o (ch 0) A0 c0) (h1 : At5 w b (o + 5) (ch 1) A1 c1) : Calls Tryz.prog 138 #[.agg #[.int .i64 4, .int .u64 (n : Int), str s, .slice (some ⟨b, o, none⟩) 2 c, .bool op]] w (Ret noneE.v w) := by
 have HE := hid (((Mod.refl [] w).alloc (.cells #[.int .i64 4, .int .u64 (n : Int), str s, .slice (some ⟨b, o, none⟩) 2 c, .bool op] 86)).alloc (.cells #[.int .i64 0, .string ⟨#[]⟩, .int .u64 0, .int .u64 0] 24))
 obtain ⟨x0, x1, x2, x3, x4⟩ := h0.mod HE.out hb (by simp)
 obtain ⟨y0, y1, y2, y3, y4⟩ := h1.mod HE.out hb (by simp)
 rw [hk0] at x0
 rw [hn0] at x1
 have n1 : (((ch 1).k : Int) == 2) = false := by simp; omega
 have n2 : (((ch 1).k : Int) = 2) = False := by simp; omega
 have HE3 := hid (HE.out.alloc (.cells #[.int .i64 (ch 1).kind, .int .u64 ((ch 1).n : Int), str (ch 1).s, .slice A1 (ch 1).k c1, .bool (ch 1).op] 86))
 have gx1 : (((w.alloc (.cells #[.int .i64 4, .int .u64 (n : Int), str s, .slice (some ⟨b, o, none⟩) 2 c, .bool op] 86)).alloc (.cells #[.int .i64 0, .string ⟨#[]⟩, .int .u64 0, .int .u64 0] 24)).alloc (.cells #[.int .i64 (ch 1).kind, .int .u64 ((ch 1).n : Int), str (ch 1).s, .slice A1 (ch 1).k c1, .bool (ch 1).op] 86)).cell? ⟨b, o + 1, none⟩ = some (.int .u64 2) := by have := (h0.mod HE3.out hb (by simp)).2.1; rw [hn0] at this; exact this
 clear hk0 hn0 hk1 h0 h1
 have HQ := hid ((Blk.new' (w.alloc (.cells #[.int .i64 4, .int .u64 (n : Int), str s, .slice (some ⟨b, o, none⟩) 2 c, .bool op] 86)) 24 #[.int .i64 0, .string ⟨#[]⟩, .int .u64 0, .int .u64 0] (N := w.heap.size + 1) (by simp)).alloc (.cells #[.int .i64 (ch 1).kind, .int .u64 ((ch 1).n : Int), str (ch 1).s, .slice A1 (ch 1).k c1, .bool (ch 1).op] 86))
 go_enter Tryz.func138, Tryz.ntmps138
 go_wp2_with fail
 refine (eidNone_any _).mono ?_
 rintro e w1 ⟨rfl, hb1⟩
 have HE1 : Hid (Ext w w1) := HE3.out.trans hb1
 have HQ1 := hid (HQ.out.ext hb1)
 clear hb1
 obtain ⟨r0, r1, r2, r3⟩ : w1.cell? ⟨w.heap.size + 1, 0, none⟩ = some (.int .i64 0) /\ w1.cell? ⟨w.heap.size + 1, 1, none⟩ = some (str []) /\ w1.cell? ⟨w.heap.size + 1, 2, none⟩ = some (.int .u64 0) /\ w1.cell? ⟨w.heap.size + 1, 3, none⟩ = some (.int .u64 0) := ⟨HQ1.out.cell 0, HQ1.out.cell 1, HQ1.out.cell 2, HQ1.out.cell 3⟩
 have f0 := Blk.frozen HQ1.out 0
 have f1 := Blk.frozen HQ1.out 1
 have f2 := Blk.frozen HQ1.out 2
 have f3 := Blk.frozen HQ1.out 3
 go_wp2_with fail
 have B4 := (((HQ1.out.set_ 0 (.int .i64 1)).set_ 1 (str [110, 111, 110, 101])).set_ 2 (.int .u64 0)).set_ 3 (.int .u64 0)
 obtain ⟨d0, d1, d2, d3⟩ := And.intro (B4.cell 0) (And.intro (B4.cell 1) (And.intro (B4.cell 2) (B4.cell 3)))
 simp only [List.setIfInBounds_toArray, List.set_cons_zero, List.set_cons_succ, List.getElem?_toArray, List.getElem?_cons_zero, List.getElem?_cons_succ] at d0 d1 d2 d3
 clear r0 r1 r2 r3 f0 f1 f2 f3
 refine bodyPost_ret (v := .agg #[.int .i64 1, str [110, 111, 110, 101], .int .u64 0, .int .u64 0]) (by simp [results, Tryz.results138, go_sem, d0, d1, d2, d3]) rfl (Ret.mk rfl ((((HE1.out.setCell (.inr (by show w.heap.size <= w.heap.size + 1; omega)) _).setCell (.inr (by show w.heap.size <= w.heap.size + 1; omega)) _).setCell (.inr (by show w.heap.size <= w.heap.size + 1; omega)) _).setCell (.inr (by show w.heap.size <= w.heap.size + 1; omega)) _))
set_option maxRecDepth 20000 in
set_option maxHeartbeats 800000 in
theorem eread_7 (n : Nat) (s : List UInt8) (op : Bool) (ch : Nat -> T) (b o c : Nat) (A0 A1 : Option Addr) (c0 c1 : Nat) (hk0 : (ch 0).kind = 0) (hn0 : (ch 0).n = 1) (hk1 : (ch 1).kind ≠ 3) (w : World) (hb : b < w.heap.size) (h0 : At5 w b o (ch 0) A0 c0) (h1 : At5 w b (o + 5) (ch 1) A1 c1) : Calls Tryz.prog 138 #[.agg #[.int .i64 4, .int .u64 (n : Int), str s, .slice (some ⟨b, o, none⟩) 2 c, .bool op]] w (Ret noneE.v w) := by
 have HE := hid (((Mod.refl [] w).alloc (.cells #[.int .i64 4, .int .u64 (n : Int), str s, .slice (some ⟨b, o, none⟩) 2 c, .bool op] 86)).alloc (.cells #[.int .i64 0, .string ⟨#[]⟩, .int .u64 0, .int .u64 0] 24))
 obtain ⟨x0, x1, x2, x3, x4⟩ := h0.mod HE.out hb (by simp)
 obtain ⟨y0, y1, y2, y3, y4⟩ := h1.mod HE.out hb (by simp)
 rw [hk0] at x0
 rw [hn0] at x1
 have n1 : ((ch 1).kind == 3) = false := by simpa using hk1
 have n2 : ((ch 1).kind = 3) = False := by simpa using hk1
 have HE3 := hid (HE.out.alloc (.cells #[.int .i64 (ch 1).kind, .int .u64 ((ch 1).n : Int), str (ch 1).s, .slice A1 (ch 1).k c1, .bool (ch 1).op] 86))
 have gx1 : (((w.alloc (.cells #[.int .i64 4, .int .u64 (n : Int), str s, .slice (some ⟨b, o, none⟩) 2 c, .bool op] 86)).alloc (.cells #[.int .i64 0, .string ⟨#[]⟩, .int .u64 0, .int .u64 0] 24)).alloc (.cells #[.int .i64 (ch 1).kind, .int .u64 ((ch 1).n : Int), str (ch 1).s, .slice A1 (ch 1).k c1, .bool (ch 1).op] 86)).cell? ⟨b, o + 1, none⟩ = some (.int .u64 1) := by have := (h0.mod HE3.out hb (by simp)).2.1; rw [hn0] at this; exact this
 clear hk0 hn0 hk1 h0 h1
 have HQ := hid ((Blk.new' (w.alloc (.cells #[.int .i64 4, .int .u64 (n : Int), str s, .slice (some ⟨b, o, none⟩) 2 c, .bool op] 86)) 24 #[.int .i64 0, .string ⟨#[]⟩, .int .u64 0, .int .u64 0] (N := w.heap.size + 1) (by simp)).alloc (.cells #[.int .i64 (ch 1).kind, .int .u64 ((ch 1).n : Int), str (ch 1).s, .slice A1 (ch 1).k c1, .bool (ch 1).op] 86))
 go_enter Tryz.func138, Tryz.ntmps138
 go_wp2_with fail
 refine (eidNone_any _).mono ?_
 rintro e w1 ⟨rfl, hb1⟩
 have HE1 : Hid (Ext w w1) := HE3.out.trans hb1
 have HQ1 := hid (HQ.out.ext hb1)
 clear hb1
 obtain ⟨r0, r1, r2, r3⟩ : w1.cell? ⟨w.heap.size + 1, 0, none⟩ = some (.int .i64 0) /\ w1.cell? ⟨w.heap.size + 1, 1, none⟩ = some (str []) /\ w1.cell? ⟨w.heap.size + 1, 2, none⟩ = some (.int .u64 0) /\ w1.cell? ⟨w.heap.size + 1, 3, none⟩ = some (.int .u64 0) := ⟨HQ1.out.cell 0, HQ1.out.cell 1, HQ1.out.cell 2, HQ1.out.cell 3⟩
 have f0 := Blk.frozen HQ1.out 0
 have f1 := Blk.frozen HQ1.out 1
 have f2 := Blk.frozen HQ1.out 2
 have f3 := Blk.frozen HQ1.out 3
 go_wp2_with fail
 have B4 := (((HQ1.out.set_ 0 (.int .i64 1)).set_ 1 (str [110, 111, 110, 101])).set_ 2 (.int .u64 0)).set_ 3 (.int .u64 0)
 obtain ⟨d0, d1, d2, d3⟩ := And.intro (B4.cell 0) (And.intro (B4.cell 1) (And.intro (B4.cell 2) (B4.cell 3)))
 simp only [List.setIfInBounds_toArray, List.set_cons_zero, List.set_cons_succ, List.getElem?_toArray, List.getElem?_cons_zero, List.getElem?_cons_succ] at d0 d1 d2 d3
 clear r0 r1 r2 r3 f0 f1 f2 f3
 refine bodyPost_ret (v := .agg #[.int .i64 1, str [110, 111, 110, 101], .int .u64 0, .int .u64 0]) (by simp [results, Tryz.results138, go_sem, d0, d1, d2, d3]) rfl (Ret.mk rfl ((((HE1.out.setCell (.inr (by show w.heap.size <= w.heap.size + 1; omega)) _).setCell (.inr (by show w.heap.size <= w.heap.size + 1; omega)) _).setCell (.inr (by show w.heap.size <= w.heap.size + 1; omega)) _).setCell (.inr (by show w.heap.size <= w.heap.size + 1; omega)) _))
set_option maxRecDepth 20000 in
set_option maxHeartbeats 800000 in
theorem eread_8 (n : Nat) (s : List UInt8) (op : Bool) (ch : Nat -> T) (b o c : Nat) (A0 A1 : Option Addr) (c0 c1 : Nat) (hk0 : (ch 0).kind = 0) (hn0 : (ch 0).n ≠ 1) (hn2 : (ch 0).n ≠ 2) (w : World) (hb : b < w.heap.size) (h0 : At5 w b o (ch 0) A0 c0) (h1 : At5 w b (o + 5) (ch 1) A1 c1) : Calls Tryz.prog 138 #[.agg #[.int .i64 4, .int .u64 (n : Int), str s, .slice (some ⟨b, o, none⟩) 2 c, .bool op]] w (Ret noneE.v w) := by
 have HE := hid (((Mod.refl [] w).alloc (.cells #[.int .i64 4, .int .u64 (n : Int), str s, .slice (some ⟨b, o, none⟩) 2 c, .bool op] 86)).alloc (.cells #[.int .i64 0, .string ⟨#[]⟩, .int .u64 0, .int .u64 0] 24))
 obtain ⟨x0, x1, x2, x3, x4⟩ := h0.mod HE.out hb (by simp)
 obtain ⟨y0, y1, y2, y3, y4⟩ := h1.mod HE.out hb (by simp)
 rw [hk0] at x0
 have n1 : (((ch 0).n : Int) == 1) = false := by simp; omega
 have n2 : (((ch 0).n : Int) = 1) = False := by simp; omega
 have n3 : (((ch 0).n : Int) == 2) = false := by simp; omega
 have n4 : (((ch 0).n : Int) = 2) = False := by simp; omega
 have HE3 := hid (HE.out.alloc (.cells #[.int .i64 (ch 1).kind, .int .u64 ((ch 1).n : Int), str (ch 1).s, .slice A1 (ch 1).k c1, .bool (ch 1).op] 86))
 have gx1 : (((w.alloc (.cells #[.int .i64 4, .int .u64 (n : Int), str s, .slice (some ⟨b, o, none⟩) 2 c, .bool op] 86)).alloc (.cells #[.int .i64 0, .string ⟨#[]⟩, .int .u64 0, .int .u64 0] 24)).alloc (.cells #[.int .i64 (ch 1).kind, .int .u64 ((ch 1).n : Int), str (ch 1).s, .slice A1 (ch 1).k c1, .bool (ch 1).op] 86)).cell? ⟨b, o + 1, none⟩ = some (.int .u64 ((ch 0).n : Int)) := by have := (h0.mod HE3.out hb (by simp)).2.1; exact this
 clear hk0 hn0 hn2 h0 h1
 have HQ := hid ((Blk.new' (w.alloc (.cells #[.int .i64 4, .int .u64 (n : Int), str s, .slice (some ⟨b, o, none⟩) 2 c, .bool op] 86)) 24 #[.int .i64 0, .string ⟨#[]⟩, .int .u64 0, .int .u64 0] (N := w.heap.size + 1) (by simp)).alloc (.cells #[.int .i64 (ch 1).kind, .int .u64 ((ch 1).n : Int), str (ch 1).s, .slice A1 (ch 1).k c1, .bool (ch 1).op] 86))
 go_enter Tryz.func138, Tryz.ntmps138
 go_wp2_with fail
 refine (eidNone_any _).mono ?_
 rintro e w1 ⟨rfl, hb1⟩
 have HE1 : Hid (Ext w w1) := HE3.out.trans hb1
 have HQ1 := hid (HQ.out.ext hb1)
 clear hb1
 obtain ⟨r0, r1, r2, r3⟩ : w1.cell? ⟨w.heap.size + 1, 0, none⟩ = some (.int .i64 0) /\ w1.cell? ⟨w.heap.size + 1, 1, none⟩ = some (str []) /\ w1.cell? ⟨w.heap.size + 1, 2, none⟩ = some (.int .u64 0) /\ w1.cell? ⟨w.heap.size + 1, 3, none⟩ = some (.int .u64 0) := ⟨HQ1.out.cell 0, HQ1.out.cell 1, HQ1.out.cell 2, HQ1.out.cell 3⟩
 have f0 := Blk.frozen HQ1.out 0
 have f1 := Blk.frozen HQ1.out 1
 have f2 := Blk.frozen HQ1.out 2
 have f3 := Blk.frozen HQ1.out 3
 go_wp2_with fail
 have B4 := (((HQ1.out.set_ 0 (.int .i64 1)).set_ 1 (str [110, 111, 110, 101])).set_ 2 (.int .u64 0)).set_ 3 (.int .u64 0)
 obtain ⟨d0, d1, d2, d3⟩ := And.intro (B4.cell 0) (And.intro (B4.cell 1) (And.intro (B4.cell 2) (B4.cell 3)))
 simp only [List.setIfInBounds_toArray, List.set_cons_zero, List.set_cons_succ, List.getElem?_toArray, List.getElem?_cons_zero, List.getElem?_cons_succ] at d0 d1 d2 d3
 clear r0 r1 r2 r3 f0 f1 f2 f3
 refine bodyPost_ret (v := .agg #[.int .i64 1, str [110, 111, 110, 101], .int .u64 0, .int .u64 0]) (by simp [results, Tryz.results138, go_sem, d0, d1, d2, d3]) rfl (Ret.mk rfl ((((HE1.out.setCell (.inr (by show w.heap.size <= w.heap.size + 1; omega)) _).setCell (.inr (by show w.heap.size <= w.heap.size + 1; omega)) _).setCell (.inr (by show w.heap.size <= w.heap.size + 1; omega)) _).setCell (.inr (by show w.heap.size <= w.heap.size + 1; omega)) _))
theorem eread_any (t : T) (ht : t ≠ T.nil) (A : Option Addr) (c : Nat) (w : World) (h : IsL w (fun _ => True) t A) : Calls Tryz.prog 138 #[itemV t A c] w (Ret (readE t).v w) := by
 by_cases h4 : t.kind = 4
 case neg =>
  have e : readE t = zeroE := by unfold readE; rw [if_pos (Or.inl h4)]
  rw [e]; exact eread_1 t A c h4 w
 obtain ⟨kind, n, s, op, k, ch, rfl⟩ : ∃ kind n s op k ch, t = T.mk kind n s op k ch := by cases t with | nil => exact absurd rfl ht | mk a b d e f g => exact ⟨a, b, d, e, f, g, rfl⟩
 have h4 : kind = 4 := h4
 subst h4
 by_cases hk : k = 2
 case neg =>
  have e : readE (T.mk 4 n s op k ch) = zeroE := by unfold readE; rw [if_pos (Or.inr (Or.inl (show (T.mk 4 n s op k ch).k ≠ 2 from hk)))]
  rw [e]; exact eread_2 n s op k A c hk w
 subst hk
 obtain ⟨b, o, ac, rfl, hb, _, hc⟩ := h.rows (by omega)
 obtain ⟨a0, i0⟩ := hc 0 (by omega)
 obtain ⟨a1, i1⟩ := hc 1 (by omega)
 have a0 : At5 w b o (ch 0) (ac 0).1 (ac 0).2 := by simpa using a0
 have a1 : At5 w b (o + 5) (ch 1) (ac 1).1 (ac 1).2 := by simpa using a1
 by_cases hk0 : (ch 0).kind = 0
 case neg =>
  have e : readE (T.mk 4 n s op 2 ch) = zeroE := by unfold readE; rw [if_pos (Or.inr (Or.inr (show ((T.mk 4 n s op 2 ch).ch 0).kind ≠ 0 from hk0)))]
  rw [e]; exact eread_3 n s op ch b o c _ _ _ _ hk0 w hb a0 a1
 have hz : ¬ ((T.mk 4 n s op 2 ch).kind ≠ 4 \/ (T.mk 4 n s op 2 ch).k ≠ 2 \/ ((T.mk 4 n s op 2 ch).ch 0).kind ≠ 0) := by
  rintro (h | h | h)
  . exact h rfl
  . exact h rfl
  . exact h hk0
 by_cases hn2 : (ch 0).n = 2
 .
  by_cases hk1 : (ch 1).k = 2
  .
   have e : readE (T.mk 4 n s op 2 ch) = ⟨2, [], ((ch 1).ch 0).n, ((ch 1).ch 1).n⟩ := by unfold readE; rw [if_neg hz, if_pos ⟨hn2, hk1⟩]; rfl
   rw [e]
   cases hc1 : ch 1 with
   | nil => rw [hc1] at hk1; cases hk1
   | mk k1 n1 s1 op1 kk ch1 =>
    rw [hc1] at i1 hk1
    have hkk : kk = 2 := hk1
    subst hkk
    obtain ⟨b1, o1, ac1, hA, hb1, _, hcc⟩ := i1.rows (by omega)
    obtain ⟨q0, _⟩ := hcc 0 (by omega)
    obtain ⟨q1, _⟩ := hcc 1 (by omega)
    have q0 : At5 w b1 o1 (ch1 0) (ac1 0).1 (ac1 0).2 := by simpa using q0
    have q1 : At5 w b1 (o1 + 5) (ch1 1) (ac1 1).1 (ac1 1).2 := by simpa using q1
    have h := eread_4 n s op ch b o c _ _ _ _ b1 o1 _ _ _ _ hk0 hn2 (by rw [hc1]; rfl) hA w hb a0 a1 hb1 (by rw [hc1]; exact q0) (by rw [hc1]; exact q1)
    rw [hc1] at h
    exact h
  .
   have e : readE (T.mk 4 n s op 2 ch) = noneE := by unfold readE; rw [if_neg hz, if_neg (fun h => hk1 h.2), if_neg (fun h => by have : (ch 0).n = 1 := h.1; omega)]
   rw [e]; exact eread_6 n s op ch b o c _ _ _ _ hk0 hn2 hk1 w hb a0 a1
 .
  by_cases hn1 : (ch 0).n = 1
  .
   by_cases hk1 : (ch 1).kind = 3
   .
    have e : readE (T.mk 4 n s op 2 ch) = ⟨1, (ch 1).s, 0, 0⟩ := by unfold readE; rw [if_neg hz, if_neg (fun h => hn2 h.1), if_pos ⟨hn1, hk1⟩]; rfl
    rw [e]; exact eread_5 n s op ch b o c _ _ _ _ hk0 hn1 hk1 w hb a0 a1
   .
    have e : readE (T.mk 4 n s op 2 ch) = noneE := by unfold readE; rw [if_neg hz, if_neg (fun h => hn2 h.1), if_neg (fun h => hk1 h.2)]
    rw [e]; exact eread_7 n s op ch b o c _ _ _ _ hk0 hn1 hk1 w hb a0 a1
  .
   have e : readE (T.mk 4 n s op 2 ch) = noneE := by unfold readE; rw [if_neg hz, if_neg (fun h => hn2 h.1), if_neg (fun h => hn1 h.1)]
   rw [e]; exact eread_8 n s op ch b o c _ _ _ _ hk0 hn1 hn2 w hb a0 a1
theorem readE_name {t : T} (hok : t.ok) : (readE t).name.length < 4611686018427387904 := by
 unfold readE
 split
 . simp [zeroE]
 .
  rename_i h
  split
  . simp
  .
   split
   .
    cases t with
    | nil => exact absurd hok T.not_nil
    | mk kind n s op k ch =>
     have hk : k = 2 := by
      by_cases hk : k = 2
      . exact hk
      . exact absurd (Or.inr (Or.inl hk)) h
     subst hk
     have h1 := hok.2.2.2.2 1 (by omega)
     show (ch 1).s.length < _
     cases hc : ch 1 with
     | nil => simp [T.s]
     | mk a b d e f g => rw [hc] at h1; exact h1.2.2.1
   . simp [noneE]
def ofB (t : T) : Bool := (readE t).ok && (t.right 8 && t.same (eidT (readE t)))
set_option maxRecDepth 20000 in
set_option maxHeartbeats 1600000 in
theorem eidOf_yes (t : T) (hok : t.ok) (ho : (readE t).ok = true) (hs : (t.right 8 && t.same (eidT (readE t))) = true) (A : Option Addr) (c : Nat) (w : World) (h : IsL w (fun _ => True) t A) : Calls Tryz.prog 117 #[itemV t A c] w (Ret (.tuple #[(readE t).v, .int .i64 0]) w) := by
 have K1 : Hid (∀ W, IsL W (fun _ => True) t A -> Calls Tryz.prog 138 #[itemV t A c] W (Ret (readE t).v W)) := fun W hW => eread_any t (by rintro rfl; exact T.not_nil hok) A c W hW
 have H := hid h
 have K2 := hid (fun W => eidItem_ok (readE t) ho W)
 obtain ⟨g1, g2, _, _⟩ := eidT_ok ho
 have K3 : Hid (∀ (B : Option Addr) (W : World), IsL W (fun _ => True) t A -> IsL W (fun _ => True) (eidT (readE t)) B -> Calls Tryz.prog 139 #[itemV t A c, itemV (eidT (readE t)) B 2] W (Ret (.bool true) W)) := fun B W h1 h2 => by
  have := Same_any t (eidT (readE t)) hok g1 A B c 2 W h1 h2
  rw [g2 8 (by omega), Bool.and_true, hs] at this
  exact this
 clear g1 g2 ho h hok hs
 generalize eidT (readE t) = y at *
 generalize readE t = e at *
 have HE := hid (((Mod.refl [] w).alloc (.cells (itemC t A c) 86)).alloc (.cells #[.int .i64 0, .string ⟨#[]⟩, .int .u64 0, .int .u64 0] 24))
 have HX := hid ((Blk.new w 86 (itemC t A c)).alloc (.cells #[.int .i64 0, .string ⟨#[]⟩, .int .u64 0, .int .u64 0] 24))
 have HQ := hid (Blk.new' (w.alloc (.cells (itemC t A c) 86)) 24 #[.int .i64 0, .string ⟨#[]⟩, .int .u64 0, .int .u64 0] (N := w.heap.size + 1) (by simp))
 go_enter Tryz.func117, Tryz.ntmps117
 go_wp2_with fail
 refine (K1.out _ (H.out.ext HE.out)).mono ?_
 rintro e1 w1 ⟨rfl, hb1⟩
 have HE1 := hid ((HE.out.trans hb1).alloc (.cells e.c 24))
 have HX1 := hid ((HX.out.ext hb1).alloc (.cells e.c 24))
 have HQ1 := hid ((HQ.out.ext hb1).alloc (.cells e.c 24))
 have HV1 := hid (Blk.new w1 24 e.c)
 clear hb1
 go_wp2_with fail
 refine (K2.out _).mono ?_
 rintro e1 w2 ⟨B, rfl, hb2, hl2⟩
 have HE2 := hid ((HE1.out.trans hb2).alloc (.cells (itemC y B 2) 86))
 have HX2 := hid ((HX1.out.ext hb2).alloc (.cells (itemC y B 2) 86))
 have HQ2 := hid ((HQ1.out.ext hb2).alloc (.cells (itemC y B 2) 86))
 have HV2 := hid ((HV1.out.ext hb2).alloc (.cells (itemC y B 2) 86))
 have HY2 := hid (Blk.new w2 86 (itemC y B 2))
 have HL2 : Hid (IsL (w2.alloc (.cells (itemC y B 2) 86)) (fun _ => True) y B) := IsL.ext (IsL.weak (fun _ _ _ => trivial) _ hl2) ((Mod.refl _ _).alloc _)
 have H2 := hid ((H.out.ext HE2.out))
 clear hb2 hl2
 obtain ⟨q0, q1, q2, q3, q4⟩ := cells5 HX2.out
 go_wp2_with fail
 refine (K3.out B _ H2.out HL2.out).mono ?_
 rintro e1 w3 ⟨rfl, hb3⟩
 have HE3 := hid (HE2.out.trans hb3)
 have HQ3 := hid (HQ2.out.ext hb3)
 have HV3 := hid (HV2.out.ext hb3)
 clear hb3 q0 q1 q2 q3 q4
 obtain ⟨r0, r1, r2, r3⟩ : w3.cell? ⟨w.heap.size + 1, 0, none⟩ = some (.int .i64 0) /\ w3.cell? ⟨w.heap.size + 1, 1, none⟩ = some (str []) /\ w3.cell? ⟨w.heap.size + 1, 2, none⟩ = some (.int .u64 0) /\ w3.cell? ⟨w.heap.size + 1, 3, none⟩ = some (.int .u64 0) := ⟨HQ3.out.cell 0, HQ3.out.cell 1, HQ3.out.cell 2, HQ3.out.cell 3⟩
 have f0 := Blk.frozen HQ3.out 0
 have f1 := Blk.frozen HQ3.out 1
 have f2 := Blk.frozen HQ3.out 2
 have f3 := Blk.frozen HQ3.out 3
 obtain ⟨v0, v1, v2, v3⟩ : w3.cell? ⟨w1.heap.size, 0, none⟩ = some (.int .i64 e.sch) /\ w3.cell? ⟨w1.heap.size, 1, none⟩ = some (str e.name) /\ w3.cell? ⟨w1.heap.size, 2, none⟩ = some (.int .u64 (e.node : Int)) /\ w3.cell? ⟨w1.heap.size, 3, none⟩ = some (.int .u64 (e.svc : Int)) := ⟨HV3.out.cell 0, HV3.out.cell 1, HV3.out.cell 2, HV3.out.cell 3⟩
 go_wp2_with fail
 have B4 := (((HQ3.out.set_ 0 (.int .i64 e.sch)).set_ 1 (str e.name)).set_ 2 (.int .u64 (e.node : Int))).set_ 3 (.int .u64 (e.svc : Int))
 obtain ⟨d0, d1, d2, d3⟩ := And.intro (B4.cell 0) (And.intro (B4.cell 1) (And.intro (B4.cell 2) (B4.cell 3)))
 simp only [List.setIfInBounds_toArray, List.set_cons_zero, List.set_cons_succ, List.getElem?_toArray, List.getElem?_cons_zero, List.getElem?_cons_succ] at d0 d1 d2 d3
 clear r0 r1 r2 r3 f0 f1 f2 f3 v0 v1 v2 v3
 refine bodyPost_ret (v := .tuple #[e.v, .int .i64 0]) (by simp [results, Tryz.results117, go_sem, d0, d1, d2, d3]) rfl (Ret.mk rfl ((((HE3.out.setCell (.inr (by show w.heap.size <= w.heap.size + 1; omega)) _).setCell (.inr (by show w.heap.size <= w.heap.size + 1; omega)) _).setCell (.inr (by show w.heap.size <= w.heap.size + 1; omega)) _).setCell (.inr (by show w.heap.size <= w.heap.size + 1; omega)) _))
set_option maxRecDepth 20000 in
set_option maxHeartbeats 1600000 in
theorem eidOf_no (t : T) (hok : t.ok) (ho : (readE t).ok = true) (hs : (t.right 8 && t.same (eidT (readE t))) = false) (A : Option Addr) (c : Nat) (w : World) (h : IsL w (fun _ => True) t A) : Calls Tryz.prog 117 #[itemV t A c] w (Ret (.tuple #[zeroE.v, .int .i64 2]) w) := by
 have K1 : Hid (∀ W, IsL W (fun _ => True) t A -> Calls Tryz.prog 138 #[itemV t A c] W (Ret (readE t).v W)) := fun W hW => eread_any t (by rintro rfl; exact T.not_nil hok) A c W hW
 have H := hid h
 have K2 := hid (fun W => eidItem_ok (readE t) ho W)
 obtain ⟨g1, g2, _, _⟩ := eidT_ok ho
 have K3 : Hid (∀ (B : Option Addr) (W : World), IsL W (fun _ => True) t A -> IsL W (fun _ => True) (eidT (readE t)) B -> Calls Tryz.prog 139 #[itemV t A c, itemV (eidT (readE t)) B 2] W (Ret (.bool false) W)) := fun B W h1 h2 => by
  have := Same_any t (eidT (readE t)) hok g1 A B c 2 W h1 h2
  rw [g2 8 (by omega), Bool.and_true, hs] at this
  exact this
 clear g1 g2 ho h hok hs
 generalize eidT (readE t) = y at *
 generalize readE t = e at *
 have HE := hid (((Mod.refl [] w).alloc (.cells (itemC t A c) 86)).alloc (.cells #[.int .i64 0, .string ⟨#[]⟩, .int .u64 0, .int .u64 0] 24))
 have HX := hid ((Blk.new w 86 (itemC t A c)).alloc (.cells #[.int .i64 0, .string ⟨#[]⟩, .int .u64 0, .int .u64 0] 24))
 have HQ := hid (Blk.new' (w.alloc (.cells (itemC t A c) 86)) 24 #[.int .i64 0, .string ⟨#[]⟩, .int .u64 0, .int .u64 0] (N := w.heap.size + 1) (by simp))
 go_enter Tryz.func117, Tryz.ntmps117
 go_wp2_with fail
 refine (K1.out _ (H.out.ext HE.out)).mono ?_
 rintro e1 w1 ⟨rfl, hb1⟩
 have HE1 := hid ((HE.out.trans hb1).alloc (.cells e.c 24))
 have HX1 := hid ((HX.out.ext hb1).alloc (.cells e.c 24))
 have HQ1 := hid ((HQ.out.ext hb1).alloc (.cells e.c 24))
 have HV1 := hid (Blk.new w1 24 e.c)
 clear hb1
 go_wp2_with fail
 refine (K2.out _).mono ?_
 rintro e1 w2 ⟨B, rfl, hb2, hl2⟩
 have HE2 := hid ((HE1.out.trans hb2).alloc (.cells (itemC y B 2) 86))
 have HX2 := hid ((HX1.out.ext hb2).alloc (.cells (itemC y B 2) 86))
 have HQ2 := hid ((HQ1.out.ext hb2).alloc (.cells (itemC y B 2) 86))
 have HV2 := hid ((HV1.out.ext hb2).alloc (.cells (itemC y B 2) 86))
 have HY2 := hid (Blk.new w2 86 (itemC y B 2))
 have HL2 : Hid (IsL (w2.alloc (.cells (itemC y B 2) 86)) (fun _ => True) y B) := IsL.ext (IsL.weak (fun _ _ _ => trivial) _ hl2) ((Mod.refl _ _).alloc _)
 have H2 := hid ((H.out.ext HE2.out))
 clear hb2 hl2
 obtain ⟨q0, q1, q2, q3, q4⟩ := cells5 HX2.out
 go_wp2_with fail
 refine (K3.out B _ H2.out HL2.out).mono ?_
 rintro e1 w3 ⟨rfl, hb3⟩
 have HE3 := hid (HE2.out.trans hb3)
 have HQ3 := hid (HQ2.out.ext hb3)
 have HV3 := hid (HV2.out.ext hb3)
 clear hb3 q0 q1 q2 q3 q4
 obtain ⟨r0, r1, r2, r3⟩ : w3.cell? ⟨w.heap.size + 1, 0, none⟩ = some (.int .i64 0) /\ w3.cell? ⟨w.heap.size + 1, 1, none⟩ = some (str []) /\ w3.cell? ⟨w.heap.size + 1, 2, none⟩ = some (.int .u64 0) /\ w3.cell? ⟨w.heap.size + 1, 3, none⟩ = some (.int .u64 0) := ⟨HQ3.out.cell 0, HQ3.out.cell 1, HQ3.out.cell 2, HQ3.out.cell 3⟩
 have f0 := Blk.frozen HQ3.out 0
 have f1 := Blk.frozen HQ3.out 1
 have f2 := Blk.frozen HQ3.out 2
 have f3 := Blk.frozen HQ3.out 3
 go_wp2_with fail
 have B4 := (((HQ3.out.set_ 0 (.int .i64 0)).set_ 1 (str [])).set_ 2 (.int .u64 0)).set_ 3 (.int .u64 0)
 obtain ⟨d0, d1, d2, d3⟩ := And.intro (B4.cell 0) (And.intro (B4.cell 1) (And.intro (B4.cell 2) (B4.cell 3)))
 simp only [List.setIfInBounds_toArray, List.set_cons_zero, List.set_cons_succ, List.getElem?_toArray, List.getElem?_cons_zero, List.getElem?_cons_succ] at d0 d1 d2 d3
 clear r0 r1 r2 r3 f0 f1 f2 f3
 refine bodyPost_ret (v := .tuple #[.agg #[.int .i64 0, str [], .int .u64 0, .int .u64 0], .int .i64 2]) (by simp [results, Tryz.results117, go_sem, d0, d1, d2, d3]) rfl (Ret.mk rfl ((((HE3.out.setCell (.inr (by show w.heap.size <= w.heap.size + 1; omega)) _).setCell (.inr (by show w.heap.size <= w.heap.size + 1; omega)) _).setCell (.inr (by show w.heap.size <= w.heap.size + 1; omega)) _).setCell (.inr (by show w.heap.size <= w.heap.size + 1; omega)) _))
set_option maxRecDepth 20000 in
set_option maxHeartbeats 1600000 in
theorem eidOf_bad (t : T) (hok : t.ok) (ho : (readE t).ok = false) (A : Option Addr) (c : Nat) (w : World) (h : IsL w (fun _ => True) t A) : Calls Tryz.prog 117 #[itemV t A c] w (Ret (.tuple #[zeroE.v, .int .i64 2]) w) := by
 have K1 : Hid (∀ W, IsL W (fun _ => True) t A -> Calls Tryz.prog 138 #[itemV t A c] W (Ret (readE t).v W)) := fun W hW => eread_any t (by rintro rfl; exact T.not_nil hok) A c W hW
 have H := hid h
 have hl := readE_name hok
 have K2 : Hid (∀ W, Calls Tryz.prog 58 #[(readE t).v] W (Ret (.tuple #[itemV (numT 0) none 0, .int .i64 1]) W)) := fun W => eidItem_bad _ _ _ _ hl ho W
 clear ho h hok hl
 generalize readE t = e at *
 have HE := hid (((Mod.refl [] w).alloc (.cells (itemC t A c) 86)).alloc (.cells #[.int .i64 0, .string ⟨#[]⟩, .int .u64 0, .int .u64 0] 24))
 have HX := hid ((Blk.new w 86 (itemC t A c)).alloc (.cells #[.int .i64 0, .string ⟨#[]⟩, .int .u64 0, .int .u64 0] 24))
 have HQ := hid (Blk.new' (w.alloc (.cells (itemC t A c) 86)) 24 #[.int .i64 0, .string ⟨#[]⟩, .int .u64 0, .int .u64 0] (N := w.heap.size + 1) (by simp))
 go_enter Tryz.func117, Tryz.ntmps117
 go_wp2_with fail
 refine (K1.out _ (H.out.ext HE.out)).mono ?_
 rintro e1 w1 ⟨rfl, hb1⟩
 have HE1 := hid ((HE.out.trans hb1).alloc (.cells e.c 24))
 have HX1 := hid ((HX.out.ext hb1).alloc (.cells e.c 24))
 have HQ1 := hid ((HQ.out.ext hb1).alloc (.cells e.c 24))
 have HV1 := hid (Blk.new w1 24 e.c)
 clear hb1
 go_wp2_with fail
 refine (K2.out _).mono ?_
 rintro e1 w3 ⟨rfl, hb3⟩
 have HE3 := hid ((HE1.out.trans hb3).alloc (.cells (itemC (numT 0) none 0) 86))
 have HQ3 := hid ((HQ1.out.ext hb3).alloc (.cells (itemC (numT 0) none 0) 86))
 clear hb3
 obtain ⟨r0, r1, r2, r3⟩ : (w3.alloc (.cells (itemC (numT 0) none 0) 86)).cell? ⟨w.heap.size + 1, 0, none⟩ = some (.int .i64 0) /\ (w3.alloc (.cells (itemC (numT 0) none 0) 86)).cell? ⟨w.heap.size + 1, 1, none⟩ = some (str []) /\ (w3.alloc (.cells (itemC (numT 0) none 0) 86)).cell? ⟨w.heap.size + 1, 2, none⟩ = some (.int .u64 0) /\ (w3.alloc (.cells (itemC (numT 0) none 0) 86)).cell? ⟨w.heap.size + 1, 3, none⟩ = some (.int .u64 0) := ⟨HQ3.out.cell 0, HQ3.out.cell 1, HQ3.out.cell 2, HQ3.out.cell 3⟩
 have f0 := Blk.frozen HQ3.out 0
 have f1 := Blk.frozen HQ3.out 1
 have f2 := Blk.frozen HQ3.out 2
 have f3 := Blk.frozen HQ3.out 3
 go_wp2_with fail
 have B4 := (((HQ3.out.set_ 0 (.int .i64 0)).set_ 1 (str [])).set_ 2 (.int .u64 0)).set_ 3 (.int .u64 0)
 obtain ⟨d0, d1, d2, d3⟩ := And.intro (B4.cell 0) (And.intro (B4.cell 1) (And.intro (B4.cell 2) (B4.cell 3)))
 simp only [List.setIfInBounds_toArray, List.set_cons_zero, List.set_cons_succ, List.getElem?_toArray, List.getElem?_cons_zero, List.getElem?_cons_succ] at d0 d1 d2 d3
 clear r0 r1 r2 r3 f0 f1 f2 f3
 refine bodyPost_ret (v := .tuple #[.agg #[.int .i64 0, str [], .int .u64 0, .int .u64 0], .int .i64 2]) (by simp [results, Tryz.results117, go_sem, d0, d1, d2, d3]) rfl (Ret.mk rfl ((((HE3.out.setCell (.inr (by show w.heap.size <= w.heap.size + 1; omega)) _).setCell (.inr (by show w.heap.size <= w.heap.size + 1; omega)) _).setCell (.inr (by show w.heap.size <= w.heap.size + 1; omega)) _).setCell (.inr (by show w.heap.size <= w.heap.size + 1; omega)) _))
theorem eidOf_any (t : T) (hok : t.ok) (A : Option Addr) (c : Nat) (w : World) (h : IsL w (fun _ => True) t A) : Calls Tryz.prog 117 #[itemV t A c] w (Ret (.tuple #[(if ofB t then readE t else zeroE).v, .int .i64 (if ofB t then 0 else 2)]) w) := by
 by_cases ho : (readE t).ok = true
 .
  by_cases hs : (t.right 8 && t.same (eidT (readE t))) = true
  .
   have hb : ofB t = true := by unfold ofB; rw [ho, hs]; rfl
   rw [hb]; exact eidOf_yes t hok ho hs A c w h
  .
   have hs2 : (t.right 8 && t.same (eidT (readE t))) = false := by simpa using hs
   have hb : ofB t = false := by unfold ofB; rw [ho, hs2]; rfl
   rw [hb]; exact eidOf_no t hok ho hs2 A c w h
 .
  have ho2 : (readE t).ok = false := by simpa using ho
  have hb : ofB t = false := by unfold ofB; rw [ho2]; rfl
  rw [hb]; exact eidOf_bad t hok ho2 A c w h
end Go.Proofs.YthecmnbkjchjmaaGreat
