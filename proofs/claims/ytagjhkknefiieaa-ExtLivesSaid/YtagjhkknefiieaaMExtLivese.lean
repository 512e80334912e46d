/-
  The name that an item may be.
  The name of an item.
  Data of blocks: a name, a number, hops; made by the code.
  What the laws of the layer wake the program by.
  What is made is read again: names.
  What is made is read again: numbers, hops.
  What is made is read again: hops, whole.
  What data tell, by their bytes alone: a name, an age, hops.
  The reference's item of bytes.
  What is read of any bytes: names.
  What is read of any bytes: numbers.
-/
import Derived.Test.YtagjhkknefiieaaMExtLivesd

namespace Go.Proofs.Ytagjhkknefiieaa
open Go.RowKit
set_option linter.unusedVariables false

def zeroE : EV := ⟨0, [], 0, 0⟩
def noneE : EV := ⟨1, [110, 111, 110, 101], 0, 0⟩
def readE (t : T) : EV :=
  if t.kind ≠ 4 ∨ t.k ≠ 2 ∨ (t.ch 0).kind ≠ 0 then zeroE
  else if (t.ch 0).n = 2 ∧ (t.ch 1).k = 2 then ⟨2, [], ((t.ch 1).ch 0).n, ((t.ch 1).ch 1).n⟩
  else if (t.ch 0).n = 1 ∧ (t.ch 1).kind = 3 then ⟨1, (t.ch 1).s, 0, 0⟩
  else noneE

set_option maxRecDepth 20000 in
set_option maxHeartbeats 800000 in
theorem eread_1 (t : T) (A : Option Addr) (c : Nat) (h : t.kind ≠ 4) (w : World) : Calls Try.prog 56 #[.agg (itemC t A c)] w (Ret zeroE.v w) := by
  have HE := hid (((Mod.refl [] w).alloc (.cells (itemC t A c) 63)).alloc (.cells #[.int .i64 0, .string ⟨#[]⟩, .int .u64 0, .int .u64 0] 24))
  have n1 : (t.kind == 4) = false := by simpa using h
  have n2 : (t.kind = 4) = False := by simpa using h
  have n3 : (t.kind != 4) = true := by simpa using h
  clear h
  go_enter Try.func56, Try.ntmps56
  go_wp2_with fail
  refine bodyPost_ret (v := .agg #[.int .i64 0, str [], .int .u64 0, .int .u64 0]) (by simp [results, Try.results56, go_sem]) rfl (Ret.mk rfl (by first | exact (((Mod.refl _ _).alloc _).alloc _) | exact ((((Mod.refl _ _).alloc _).alloc _).alloc _)))
set_option maxRecDepth 20000 in
set_option maxHeartbeats 800000 in
theorem eread_2 (n : Nat) (s : List UInt8) (op : Bool) (k : Nat) (A : Option Addr) (c : Nat) (h : k ≠ 2) (w : World) : Calls Try.prog 56 #[.agg #[.int .i64 4, .int .u64 (n : Int), str s, .slice A k c, .bool op]] w (Ret zeroE.v w) := by
  have HE := hid (((Mod.refl [] w).alloc (.cells #[.int .i64 4, .int .u64 (n : Int), str s, .slice A k c, .bool op] 63)).alloc (.cells #[.int .i64 0, .string ⟨#[]⟩, .int .u64 0, .int .u64 0] 24))
  have n1 : ((k : Int) == 2) = false := by simp; omega
  have n2 : ((k : Int) = 2) = False := by simp; omega
  have n3 : ((k : Int) != 2) = true := by simp; omega
  clear h
  go_enter Try.func56, Try.ntmps56
  go_wp2_with fail
  refine bodyPost_ret (v := .agg #[.int .i64 0, str [], .int .u64 0, .int .u64 0]) (by simp [results, Try.results56, go_sem]) rfl (Ret.mk rfl (by first | exact (((Mod.refl _ _).alloc _).alloc _) | exact ((((Mod.refl _ _).alloc _).alloc _).alloc _)))
set_option maxRecDepth 20000 in
set_option maxHeartbeats 800000 in
theorem eread_3 (n : Nat) (s : List UInt8) (op : Bool) (ch : Nat → T) (b o c : Nat) (A0 A1 : Option Addr) (c0 c1 : Nat) (h : (ch 0).kind ≠ 0) (w : World) (hb : b < w.heap.size) (h0 : At5 w b o (ch 0) A0 c0) (h1 : At5 w b (o + 5) (ch 1) A1 c1) : Calls Try.prog 56 #[.agg #[.int .i64 4, .int .u64 (n : Int), str s, .slice (some ⟨b, o, none⟩) 2 c, .bool op]] w (Ret zeroE.v w) := by
  have HE := hid (((Mod.refl [] w).alloc (.cells #[.int .i64 4, .int .u64 (n : Int), str s, .slice (some ⟨b, o, none⟩) 2 c, .bool op] 63)).alloc (.cells #[.int .i64 0, .string ⟨#[]⟩, .int .u64 0, .int .u64 0] 24))
  obtain ⟨x0, x1, x2, x3, x4⟩ := h0.mod HE.out hb (by simp)
  obtain ⟨y0, y1, y2, y3, y4⟩ := h1.mod HE.out hb (by simp)
  have n1 : ((ch 0).kind == 0) = false := by simpa using h
  have n2 : ((ch 0).kind = 0) = False := by simpa using h
  have n3 : ((ch 0).kind != 0) = true := by simpa using h
  clear h h0 h1
  go_enter Try.func56, Try.ntmps56
  go_wp2_with fail
  refine bodyPost_ret (v := .agg #[.int .i64 0, str [], .int .u64 0, .int .u64 0]) (by simp [results, Try.results56, go_sem]) rfl (Ret.mk rfl (by first | exact (((Mod.refl _ _).alloc _).alloc _) | exact ((((Mod.refl _ _).alloc _).alloc _).alloc _)))
set_option maxRecDepth 20000 in
set_option maxHeartbeats 800000 in
theorem eread_4 (n : Nat) (s : List UInt8) (op : Bool) (ch : Nat → T) (b o c : Nat) (A0 A1 : Option Addr) (c0 c1 : Nat) (b1 o1 : Nat) (A2 A3 : Option Addr) (c2 c3 : Nat) (hk0 : (ch 0).kind = 0) (hn0 : (ch 0).n = 2) (hk1 : (ch 1).k = 2) (hA : A1 = some ⟨b1, o1, none⟩) (w : World) (hb : b < w.heap.size) (h0 : At5 w b o (ch 0) A0 c0) (h1 : At5 w b (o + 5) (ch 1) A1 c1) (hb1 : b1 < w.heap.size) (h2 : At5 w b1 o1 ((ch 1).ch 0) A2 c2) (h3 : At5 w b1 (o1 + 5) ((ch 1).ch 1) A3 c3) : Calls Try.prog 56 #[.agg #[.int .i64 4, .int .u64 (n : Int), str s, .slice (some ⟨b, o, none⟩) 2 c, .bool op]] w (Ret (EV.v ⟨2, [], ((ch 1).ch 0).n, ((ch 1).ch 1).n⟩) w) := by
  have HE := hid (((Mod.refl [] w).alloc (.cells #[.int .i64 4, .int .u64 (n : Int), str s, .slice (some ⟨b, o, none⟩) 2 c, .bool op] 63)).alloc (.cells #[.int .i64 0, .string ⟨#[]⟩, .int .u64 0, .int .u64 0] 24))
  obtain ⟨x0, x1, x2, x3, x4⟩ := h0.mod HE.out hb (by simp)
  obtain ⟨y0, y1, y2, y3, y4⟩ := h1.mod HE.out hb (by simp)
  obtain ⟨_, z1, _⟩ := h2.mod HE.out hb1 (by simp)
  obtain ⟨_, v1, _⟩ := h3.mod HE.out hb1 (by simp)
  rw [hk0] at x0
  rw [hn0] at x1
  subst hA
  rw [hk1] at y3
  have HE3 := hid (HE.out.alloc (.cells #[.int .i64 (ch 1).kind, .int .u64 ((ch 1).n : Int), str (ch 1).s, .slice (some ⟨b1, o1, none⟩) 2 c1, .bool (ch 1).op] 63))
  have gx1 : (((w.alloc (.cells #[.int .i64 4, .int .u64 (n : Int), str s, .slice (some ⟨b, o, none⟩) 2 c, .bool op] 63)).alloc (.cells #[.int .i64 0, .string ⟨#[]⟩, .int .u64 0, .int .u64 0] 24)).alloc (.cells #[.int .i64 (ch 1).kind, .int .u64 ((ch 1).n : Int), str (ch 1).s, .slice (some ⟨b1, o1, none⟩) 2 c1, .bool (ch 1).op] 63)).cell? ⟨b, o + 1, none⟩ = some (.int .u64 2) := by have := (h0.mod HE3.out hb (by simp)).2.1; rw [hn0] at this; exact this
  have gz : (((w.alloc (.cells #[.int .i64 4, .int .u64 (n : Int), str s, .slice (some ⟨b, o, none⟩) 2 c, .bool op] 63)).alloc (.cells #[.int .i64 0, .string ⟨#[]⟩, .int .u64 0, .int .u64 0] 24)).alloc (.cells #[.int .i64 (ch 1).kind, .int .u64 ((ch 1).n : Int), str (ch 1).s, .slice (some ⟨b1, o1, none⟩) 2 c1, .bool (ch 1).op] 63)).cell? ⟨b1, o1 + 1, none⟩ = some (.int .u64 (((ch 1).ch 0).n : Int)) := (h2.mod HE3.out hb1 (by simp)).2.1
  have gv : (((w.alloc (.cells #[.int .i64 4, .int .u64 (n : Int), str s, .slice (some ⟨b, o, none⟩) 2 c, .bool op] 63)).alloc (.cells #[.int .i64 0, .string ⟨#[]⟩, .int .u64 0, .int .u64 0] 24)).alloc (.cells #[.int .i64 (ch 1).kind, .int .u64 ((ch 1).n : Int), str (ch 1).s, .slice (some ⟨b1, o1, none⟩) 2 c1, .bool (ch 1).op] 63)).cell? ⟨b1, o1 + 5 + 1, none⟩ = some (.int .u64 (((ch 1).ch 1).n : Int)) := (h3.mod HE3.out hb1 (by simp)).2.1
  clear hk0 hn0 hk1 h0 h1 h2 h3
  go_enter Try.func56, Try.ntmps56
  go_wp2_with fail
  go_region
  all_goals go_wp2_with fail
  all_goals refine bodyPost_ret (v := EV.v ⟨2, [], ((ch 1).ch 0).n, ((ch 1).ch 1).n⟩) (by simp [results, Try.results56, go_sem]) rfl (Ret.mk rfl ((((Mod.refl _ _).alloc _).alloc _).alloc _).drew)
set_option maxRecDepth 20000 in
set_option maxHeartbeats 800000 in
theorem eread_5 (n : Nat) (s : List UInt8) (op : Bool) (ch : Nat → T) (b o c : Nat) (A0 A1 : Option Addr) (c0 c1 : Nat) (hk0 : (ch 0).kind = 0) (hn0 : (ch 0).n = 1) (hk1 : (ch 1).kind = 3) (w : World) (hb : b < w.heap.size) (h0 : At5 w b o (ch 0) A0 c0) (h1 : At5 w b (o + 5) (ch 1) A1 c1) : Calls Try.prog 56 #[.agg #[.int .i64 4, .int .u64 (n : Int), str s, .slice (some ⟨b, o, none⟩) 2 c, .bool op]] w (Ret (EV.v ⟨1, (ch 1).s, 0, 0⟩) w) := by
  have HE := hid (((Mod.refl [] w).alloc (.cells #[.int .i64 4, .int .u64 (n : Int), str s, .slice (some ⟨b, o, none⟩) 2 c, .bool op] 63)).alloc (.cells #[.int .i64 0, .string ⟨#[]⟩, .int .u64 0, .int .u64 0] 24))
  obtain ⟨x0, x1, x2, x3, x4⟩ := h0.mod HE.out hb (by simp)
  obtain ⟨y0, y1, y2, y3, y4⟩ := h1.mod HE.out hb (by simp)
  rw [hk0] at x0
  rw [hn0] at x1
  rw [hk1] at y0
  have HE3 := hid (HE.out.alloc (.cells #[.int .i64 3, .int .u64 ((ch 1).n : Int), str (ch 1).s, .slice A1 (ch 1).k c1, .bool (ch 1).op] 63))
  have gx1 : (((w.alloc (.cells #[.int .i64 4, .int .u64 (n : Int), str s, .slice (some ⟨b, o, none⟩) 2 c, .bool op] 63)).alloc (.cells #[.int .i64 0, .string ⟨#[]⟩, .int .u64 0, .int .u64 0] 24)).alloc (.cells #[.int .i64 3, .int .u64 ((ch 1).n : Int), str (ch 1).s, .slice A1 (ch 1).k c1, .bool (ch 1).op] 63)).cell? ⟨b, o + 1, none⟩ = some (.int .u64 1) := by have := (h0.mod HE3.out hb (by simp)).2.1; rw [hn0] at this; exact this
  clear hk0 hn0 hk1 h0 h1
  go_enter Try.func56, Try.ntmps56
  go_wp2_with fail
  refine bodyPost_ret (v := EV.v ⟨1, (ch 1).s, 0, 0⟩) (by simp [results, Try.results56, go_sem]) rfl (Ret.mk rfl (by first | exact (((Mod.refl _ _).alloc _).alloc _) | exact ((((Mod.refl _ _).alloc _).alloc _).alloc _)))
set_option maxRecDepth 20000 in
set_option maxHeartbeats 800000 in
theorem eread_6 (n : Nat) (s : List UInt8) (op : Bool) (ch : Nat → T) (b o c : Nat) (A0 A1 : Option Addr) (c0 c1 : Nat) (hk0 : (ch 0).kind = 0) (hn0 : (ch 0).n = 2) (hk1 : (ch 1).k ≠ 2) (w : World) (hb : b < w.heap.size) (h0 : At5 w b o (ch 0) A0 c0) (h1 : At5 w b (o + 5) (ch 1) A1 c1) : Calls Try.prog 56 #[.agg #[.int .i64 4, .int .u64 (n : Int), str s, .slice (some ⟨b, o, none⟩) 2 c, .bool op]] w (Ret noneE.v w) := by
  have HE := hid (((Mod.refl [] w).alloc (.cells #[.int .i64 4, .int .u64 (n : Int), str s, .slice (some ⟨b, o, none⟩) 2 c, .bool op] 63)).alloc (.cells #[.int .i64 0, .string ⟨#[]⟩, .int .u64 0, .int .u64 0] 24))
  obtain ⟨x0, x1, x2, x3, x4⟩ := h0.mod HE.out hb (by simp)
  obtain ⟨y0, y1, y2, y3, y4⟩ := h1.mod HE.out hb (by simp)
  rw [hk0] at x0
  rw [hn0] at x1
  have n1 : (((ch 1).k : Int) == 2) = false := by simp; omega
  have n2 : (((ch 1).k : Int) = 2) = False := by simp; omega
  have HE3 := hid (HE.out.alloc (.cells #[.int .i64 (ch 1).kind, .int .u64 ((ch 1).n : Int), str (ch 1).s, .slice A1 (ch 1).k c1, .bool (ch 1).op] 63))
  have gx1 : (((w.alloc (.cells #[.int .i64 4, .int .u64 (n : Int), str s, .slice (some ⟨b, o, none⟩) 2 c, .bool op] 63)).alloc (.cells #[.int .i64 0, .string ⟨#[]⟩, .int .u64 0, .int .u64 0] 24)).alloc (.cells #[.int .i64 (ch 1).kind, .int .u64 ((ch 1).n : Int), str (ch 1).s, .slice A1 (ch 1).k c1, .bool (ch 1).op] 63)).cell? ⟨b, o + 1, none⟩ = some (.int .u64 2) := by have := (h0.mod HE3.out hb (by simp)).2.1; rw [hn0] at this; exact this
  clear hk0 hn0 hk1 h0 h1
  have HQ := hid ((Blk.new' (w.alloc (.cells #[.int .i64 4, .int .u64 (n : Int), str s, .slice (some ⟨b, o, none⟩) 2 c, .bool op] 63)) 24 #[.int .i64 0, .string ⟨#[]⟩, .int .u64 0, .int .u64 0] (N := w.heap.size + 1) (by simp)).alloc (.cells #[.int .i64 (ch 1).kind, .int .u64 ((ch 1).n : Int), str (ch 1).s, .slice A1 (ch 1).k c1, .bool (ch 1).op] 63))
  go_enter Try.func56, Try.ntmps56
  go_wp2_with fail
  refine (eidNone_any _).mono ?_
  rintro e w1 ⟨rfl, hb1⟩
  have HE1 : Hid (Ext w w1) := HE3.out.trans hb1
  have HQ1 := hid (HQ.out.ext hb1)
  clear hb1
  obtain ⟨r0, r1, r2, r3⟩ : w1.cell? ⟨w.heap.size + 1, 0, none⟩ = some (.int .i64 0) ∧ w1.cell? ⟨w.heap.size + 1, 1, none⟩ = some (str []) ∧ w1.cell? ⟨w.heap.size + 1, 2, none⟩ = some (.int .u64 0) ∧ w1.cell? ⟨w.heap.size + 1, 3, none⟩ = some (.int .u64 0) := ⟨HQ1.out.cell 0, HQ1.out.cell 1, HQ1.out.cell 2, HQ1.out.cell 3⟩
  have f0 := Blk.frozen HQ1.out 0
  have f1 := Blk.frozen HQ1.out 1
  have f2 := Blk.frozen HQ1.out 2
  have f3 := Blk.frozen HQ1.out 3
  go_wp2_with fail
  have B4 := (((HQ1.out.set_ 0 (.int .i64 1)).set_ 1 (str [110, 111, 110, 101])).set_ 2 (.int .u64 0)).set_ 3 (.int .u64 0)
  obtain ⟨d0, d1, d2, d3⟩ := And.intro (B4.cell 0) (And.intro (B4.cell 1) (And.intro (B4.cell 2) (B4.cell 3)))
  simp only [List.setIfInBounds_toArray, List.set_cons_zero, List.set_cons_succ, List.getElem?_toArray, List.getElem?_cons_zero, List.getElem?_cons_succ] at d0 d1 d2 d3
  clear r0 r1 r2 r3 f0 f1 f2 f3
  refine bodyPost_ret (v := .agg #[.int .i64 1, str [110, 111, 110, 101], .int .u64 0, .int .u64 0]) (by simp [results, Try.results56, go_sem, d0, d1, d2, d3]) rfl (Ret.mk rfl ((((HE1.out.setCell (.inr (by show w.heap.size ≤ w.heap.size + 1; omega)) _).setCell (.inr (by show w.heap.size ≤ w.heap.size + 1; omega)) _).setCell (.inr (by show w.heap.size ≤ w.heap.size + 1; omega)) _).setCell (.inr (by show w.heap.size ≤ w.heap.size + 1; omega)) _))
set_option maxRecDepth 20000 in
set_option maxHeartbeats 800000 in
theorem eread_7 (n : Nat) (s : List UInt8) (op : Bool) (ch : Nat → T) (b o c : Nat) (A0 A1 : Option Addr) (c0 c1 : Nat) (hk0 : (ch 0).kind = 0) (hn0 : (ch 0).n = 1) (hk1 : (ch 1).kind ≠ 3) (w : World) (hb : b < w.heap.size) (h0 : At5 w b o (ch 0) A0 c0) (h1 : At5 w b (o + 5) (ch 1) A1 c1) : Calls Try.prog 56 #[.agg #[.int .i64 4, .int .u64 (n : Int), str s, .slice (some ⟨b, o, none⟩) 2 c, .bool op]] w (Ret noneE.v w) := by
  have HE := hid (((Mod.refl [] w).alloc (.cells #[.int .i64 4, .int .u64 (n : Int), str s, .slice (some ⟨b, o, none⟩) 2 c, .bool op] 63)).alloc (.cells #[.int .i64 0, .string ⟨#[]⟩, .int .u64 0, .int .u64 0] 24))
  obtain ⟨x0, x1, x2, x3, x4⟩ := h0.mod HE.out hb (by simp)
  obtain ⟨y0, y1, y2, y3, y4⟩ := h1.mod HE.out hb (by simp)
  rw [hk0] at x0
  rw [hn0] at x1
  have n1 : ((ch 1).kind == 3) = false := by simpa using hk1
  have n2 : ((ch 1).kind = 3) = False := by simpa using hk1
  have HE3 := hid (HE.out.alloc (.cells #[.int .i64 (ch 1).kind, .int .u64 ((ch 1).n : Int), str (ch 1).s, .slice A1 (ch 1).k c1, .bool (ch 1).op] 63))
  have gx1 : (((w.alloc (.cells #[.int .i64 4, .int .u64 (n : Int), str s, .slice (some ⟨b, o, none⟩) 2 c, .bool op] 63)).alloc (.cells #[.int .i64 0, .string ⟨#[]⟩, .int .u64 0, .int .u64 0] 24)).alloc (.cells #[.int .i64 (ch 1).kind, .int .u64 ((ch 1).n : Int), str (ch 1).s, .slice A1 (ch 1).k c1, .bool (ch 1).op] 63)).cell? ⟨b, o + 1, none⟩ = some (.int .u64 1) := by have := (h0.mod HE3.out hb (by simp)).2.1; rw [hn0] at this; exact this
  clear hk0 hn0 hk1 h0 h1
  have HQ := hid ((Blk.new' (w.alloc (.cells #[.int .i64 4, .int .u64 (n : Int), str s, .slice (some ⟨b, o, none⟩) 2 c, .bool op] 63)) 24 #[.int .i64 0, .string ⟨#[]⟩, .int .u64 0, .int .u64 0] (N := w.heap.size + 1) (by simp)).alloc (.cells #[.int .i64 (ch 1).kind, .int .u64 ((ch 1).n : Int), str (ch 1).s, .slice A1 (ch 1).k c1, .bool (ch 1).op] 63))
  go_enter Try.func56, Try.ntmps56
  go_wp2_with fail
  refine (eidNone_any _).mono ?_
  rintro e w1 ⟨rfl, hb1⟩
  have HE1 : Hid (Ext w w1) := HE3.out.trans hb1
  have HQ1 := hid (HQ.out.ext hb1)
  clear hb1
  obtain ⟨r0, r1, r2, r3⟩ : w1.cell? ⟨w.heap.size + 1, 0, none⟩ = some (.int .i64 0) ∧ w1.cell? ⟨w.heap.size + 1, 1, none⟩ = some (str []) ∧ w1.cell? ⟨w.heap.size + 1, 2, none⟩ = some (.int .u64 0) ∧ w1.cell? ⟨w.heap.size + 1, 3, none⟩ = some (.int .u64 0) := ⟨HQ1.out.cell 0, HQ1.out.cell 1, HQ1.out.cell 2, HQ1.out.cell 3⟩
  have f0 := Blk.frozen HQ1.out 0
  have f1 := Blk.frozen HQ1.out 1
  have f2 := Blk.frozen HQ1.out 2
  have f3 := Blk.frozen HQ1.out 3
  go_wp2_with fail
  have B4 := (((HQ1.out.set_ 0 (.int .i64 1)).set_ 1 (str [110, 111, 110, 101])).set_ 2 (.int .u64 0)).set_ 3 (.int .u64 0)
  obtain ⟨d0, d1, d2, d3⟩ := And.intro (B4.cell 0) (And.intro (B4.cell 1) (And.intro (B4.cell 2) (B4.cell 3)))
  simp only [List.setIfInBounds_toArray, List.set_cons_zero, List.set_cons_succ, List.getElem?_toArray, List.getElem?_cons_zero, List.getElem?_cons_succ] at d0 d1 d2 d3
  clear r0 r1 r2 r3 f0 f1 f2 f3
  refine bodyPost_ret (v := .agg #[.int .i64 1, str [110, 111, 110, 101], .int .u64 0, .int .u64 0]) (by simp [results, Try.results56, go_sem, d0, d1, d2, d3]) rfl (Ret.mk rfl ((((HE1.out.setCell (.inr (by show w.heap.size ≤ w.heap.size + 1; omega)) _).setCell (.inr (by show w.heap.size ≤ w.heap.size + 1; omega)) _).setCell (.inr (by show w.heap.size ≤ w.heap.size + 1; omega)) _).setCell (.inr (by show w.heap.size ≤ w.heap.size + 1; omega)) _))
set_option maxRecDepth 20000 in
set_option maxHeartbeats 800000 in
theorem eread_8 (n : Nat) (s : List UInt8) (op : Bool) (ch : Nat → T) (b o c : Nat) (A0 A1 : Option Addr) (c0 c1 : Nat) (hk0 : (ch 0).kind = 0) (hn0 : (ch 0).n ≠ 1) (hn2 : (ch 0).n ≠ 2) (w : World) (hb : b < w.heap.size) (h0 : At5 w b o (ch 0) A0 c0) (h1 : At5 w b (o + 5) (ch 1) A1 c1) : Calls Try.prog 56 #[.agg #[.int .i64 4, .int .u64 (n : Int), str s, .slice (some ⟨b, o, none⟩) 2 c, .bool op]] w (Ret noneE.v w) := by
  have HE := hid (((Mod.refl [] w).alloc (.cells #[.int .i64 4, .int .u64 (n : Int), str s, .slice (some ⟨b, o, none⟩) 2 c, .bool op] 63)).alloc (.cells #[.int .i64 0, .string ⟨#[]⟩, .int .u64 0, .int .u64 0] 24))
  obtain ⟨x0, x1, x2, x3, x4⟩ := h0.mod HE.out hb (by simp)
  obtain ⟨y0, y1, y2, y3, y4⟩ := h1.mod HE.out hb (by simp)
  rw [hk0] at x0
  have n1 : (((ch 0).n : Int) == 1) = false := by simp; omega
  have n2 : (((ch 0).n : Int) = 1) = False := by simp; omega
  have n3 : (((ch 0).n : Int) == 2) = false := by simp; omega
  have n4 : (((ch 0).n : Int) = 2) = False := by simp; omega
  have HE3 := hid (HE.out.alloc (.cells #[.int .i64 (ch 1).kind, .int .u64 ((ch 1).n : Int), str (ch 1).s, .slice A1 (ch 1).k c1, .bool (ch 1).op] 63))
  have gx1 : (((w.alloc (.cells #[.int .i64 4, .int .u64 (n : Int), str s, .slice (some ⟨b, o, none⟩) 2 c, .bool op] 63)).alloc (.cells #[.int .i64 0, .string ⟨#[]⟩, .int .u64 0, .int .u64 0] 24)).alloc (.cells #[.int .i64 (ch 1).kind, .int .u64 ((ch 1).n : Int), str (ch 1).s, .slice A1 (ch 1).k c1, .bool (ch 1).op] 63)).cell? ⟨b, o + 1, none⟩ = some (.int .u64 ((ch 0).n : Int)) := by have := (h0.mod HE3.out hb (by simp)).2.1; exact this
  clear hk0 hn0 hn2 h0 h1
  have HQ := hid ((Blk.new' (w.alloc (.cells #[.int .i64 4, .int .u64 (n : Int), str s, .slice (some ⟨b, o, none⟩) 2 c, .bool op] 63)) 24 #[.int .i64 0, .string ⟨#[]⟩, .int .u64 0, .int .u64 0] (N := w.heap.size + 1) (by simp)).alloc (.cells #[.int .i64 (ch 1).kind, .int .u64 ((ch 1).n : Int), str (ch 1).s, .slice A1 (ch 1).k c1, .bool (ch 1).op] 63))
  go_enter Try.func56, Try.ntmps56
  go_wp2_with fail
  refine (eidNone_any _).mono ?_
  rintro e w1 ⟨rfl, hb1⟩
  have HE1 : Hid (Ext w w1) := HE3.out.trans hb1
  have HQ1 := hid (HQ.out.ext hb1)
  clear hb1
  obtain ⟨r0, r1, r2, r3⟩ : w1.cell? ⟨w.heap.size + 1, 0, none⟩ = some (.int .i64 0) ∧ w1.cell? ⟨w.heap.size + 1, 1, none⟩ = some (str []) ∧ w1.cell? ⟨w.heap.size + 1, 2, none⟩ = some (.int .u64 0) ∧ w1.cell? ⟨w.heap.size + 1, 3, none⟩ = some (.int .u64 0) := ⟨HQ1.out.cell 0, HQ1.out.cell 1, HQ1.out.cell 2, HQ1.out.cell 3⟩
  have f0 := Blk.frozen HQ1.out 0
  have f1 := Blk.frozen HQ1.out 1
  have f2 := Blk.frozen HQ1.out 2
  have f3 := Blk.frozen HQ1.out 3
  go_wp2_with fail
  have B4 := (((HQ1.out.set_ 0 (.int .i64 1)).set_ 1 (str [110, 111, 110, 101])).set_ 2 (.int .u64 0)).set_ 3 (.int .u64 0)
  obtain ⟨d0, d1, d2, d3⟩ := And.intro (B4.cell 0) (And.intro (B4.cell 1) (And.intro (B4.cell 2) (B4.cell 3)))
  simp only [List.setIfInBounds_toArray, List.set_cons_zero, List.set_cons_succ, List.getElem?_toArray, List.getElem?_cons_zero, List.getElem?_cons_succ] at d0 d1 d2 d3
  clear r0 r1 r2 r3 f0 f1 f2 f3
  refine bodyPost_ret (v := .agg #[.int .i64 1, str [110, 111, 110, 101], .int .u64 0, .int .u64 0]) (by simp [results, Try.results56, go_sem, d0, d1, d2, d3]) rfl (Ret.mk rfl ((((HE1.out.setCell (.inr (by show w.heap.size ≤ w.heap.size + 1; omega)) _).setCell (.inr (by show w.heap.size ≤ w.heap.size + 1; omega)) _).setCell (.inr (by show w.heap.size ≤ w.heap.size + 1; omega)) _).setCell (.inr (by show w.heap.size ≤ w.heap.size + 1; omega)) _))
theorem eread_any (t : T) (ht : t ≠ T.nil) (A : Option Addr) (c : Nat) (w : World) (h : IsL w (fun _ => True) t A) : Calls Try.prog 56 #[itemV t A c] w (Ret (readE t).v w) := by
  by_cases h4 : t.kind = 4
  case neg =>
    have e : readE t = zeroE := by unfold readE; rw [if_pos (Or.inl h4)]
    rw [e]; exact eread_1 t A c h4 w
  obtain ⟨kind, n, s, op, k, ch, rfl⟩ : ∃ kind n s op k ch, t = T.mk kind n s op k ch := by cases t with | nil => exact absurd rfl ht | mk a b d e f g => exact ⟨a, b, d, e, f, g, rfl⟩
  have h4 : kind = 4 := h4
  subst h4
  by_cases hk : k = 2
  case neg =>
    have e : readE (T.mk 4 n s op k ch) = zeroE := by unfold readE; rw [if_pos (Or.inr (Or.inl (show (T.mk 4 n s op k ch).k ≠ 2 from hk)))]
    rw [e]; exact eread_2 n s op k A c hk w
  subst hk
  obtain ⟨b, o, ac, rfl, hb, _, hc⟩ := h.rows (by omega)
  obtain ⟨a0, i0⟩ := hc 0 (by omega)
  obtain ⟨a1, i1⟩ := hc 1 (by omega)
  have a0 : At5 w b o (ch 0) (ac 0).1 (ac 0).2 := by simpa using a0
  have a1 : At5 w b (o + 5) (ch 1) (ac 1).1 (ac 1).2 := by simpa using a1
  by_cases hk0 : (ch 0).kind = 0
  case neg =>
    have e : readE (T.mk 4 n s op 2 ch) = zeroE := by unfold readE; rw [if_pos (Or.inr (Or.inr (show ((T.mk 4 n s op 2 ch).ch 0).kind ≠ 0 from hk0)))]
    rw [e]; exact eread_3 n s op ch b o c _ _ _ _ hk0 w hb a0 a1
  have hz : ¬ ((T.mk 4 n s op 2 ch).kind ≠ 4 ∨ (T.mk 4 n s op 2 ch).k ≠ 2 ∨ ((T.mk 4 n s op 2 ch).ch 0).kind ≠ 0) := by
    rintro (h | h | h)
    · exact h rfl
    · exact h rfl
    · exact h hk0
  by_cases hn2 : (ch 0).n = 2
  · by_cases hk1 : (ch 1).k = 2
    · have e : readE (T.mk 4 n s op 2 ch) = ⟨2, [], ((ch 1).ch 0).n, ((ch 1).ch 1).n⟩ := by unfold readE; rw [if_neg hz, if_pos ⟨hn2, hk1⟩]; rfl
      rw [e]
      cases hc1 : ch 1 with
      | nil => rw [hc1] at hk1; cases hk1
      | mk k1 n1 s1 op1 kk ch1 =>
        rw [hc1] at i1 hk1
        have hkk : kk = 2 := hk1
        subst hkk
        obtain ⟨b1, o1, ac1, hA, hb1, _, hcc⟩ := i1.rows (by omega)
        obtain ⟨q0, _⟩ := hcc 0 (by omega)
        obtain ⟨q1, _⟩ := hcc 1 (by omega)
        have q0 : At5 w b1 o1 (ch1 0) (ac1 0).1 (ac1 0).2 := by simpa using q0
        have q1 : At5 w b1 (o1 + 5) (ch1 1) (ac1 1).1 (ac1 1).2 := by simpa using q1
        have h := eread_4 n s op ch b o c _ _ _ _ b1 o1 _ _ _ _ hk0 hn2 (by rw [hc1]; rfl) hA w hb a0 a1 hb1 (by rw [hc1]; exact q0) (by rw [hc1]; exact q1)
        rw [hc1] at h
        exact h
    · have e : readE (T.mk 4 n s op 2 ch) = noneE := by unfold readE; rw [if_neg hz, if_neg (fun h => hk1 h.2), if_neg (fun h => by have : (ch 0).n = 1 := h.1; omega)]
      rw [e]; exact eread_6 n s op ch b o c _ _ _ _ hk0 hn2 hk1 w hb a0 a1
  · by_cases hn1 : (ch 0).n = 1
    · by_cases hk1 : (ch 1).kind = 3
      · have e : readE (T.mk 4 n s op 2 ch) = ⟨1, (ch 1).s, 0, 0⟩ := by unfold readE; rw [if_neg hz, if_neg (fun h => hn2 h.1), if_pos ⟨hn1, hk1⟩]; rfl
        rw [e]; exact eread_5 n s op ch b o c _ _ _ _ hk0 hn1 hk1 w hb a0 a1
      · have e : readE (T.mk 4 n s op 2 ch) = noneE := by unfold readE; rw [if_neg hz, if_neg (fun h => hn2 h.1), if_neg (fun h => hk1 h.2)]
        rw [e]; exact eread_7 n s op ch b o c _ _ _ _ hk0 hn1 hk1 w hb a0 a1
    · have e : readE (T.mk 4 n s op 2 ch) = noneE := by unfold readE; rw [if_neg hz, if_neg (fun h => hn2 h.1), if_neg (fun h => hn1 h.1)]
      rw [e]; exact eread_8 n s op ch b o c _ _ _ _ hk0 hn1 hn2 w hb a0 a1
end Go.Proofs.Ytagjhkknefiieaa


namespace Go.Proofs.Ytagjhkknefiieaa
open Go.RowKit
set_option linter.unusedVariables false

theorem readE_name {t : T} (hok : t.ok) : (readE t).name.length < 4611686018427387904 := by
  unfold readE
  split
  · simp [zeroE]
  · rename_i h
    split
    · simp
    · split
      · cases t with
        | nil => exact absurd hok T.not_nil
        | mk kind n s op k ch =>
          have hk : k = 2 := by
            by_cases hk : k = 2
            · exact hk
            · exact absurd (Or.inr (Or.inl hk)) h
          subst hk
          have h1 := hok.2.2.2.2 1 (by omega)
          show (ch 1).s.length < _
          cases hc : ch 1 with
          | nil => simp [T.s]
          | mk a b d e f g => rw [hc] at h1; exact h1.2.2.1
      · simp [noneE]
def ofB (t : T) : Bool := (readE t).ok && (t.right 8 && t.same (eidT (readE t)))

set_option maxRecDepth 20000 in
set_option maxHeartbeats 1600000 in
theorem eidOf_yes (t : T) (hok : t.ok) (ho : (readE t).ok = true) (hs : (t.right 8 && t.same (eidT (readE t))) = true) (A : Option Addr) (c : Nat) (w : World) (h : IsL w (fun _ => True) t A) : Calls Try.prog 40 #[itemV t A c] w (Ret (.tuple #[(readE t).v, .int .i64 0]) w) := by
  have K1 : Hid (∀ W, IsL W (fun _ => True) t A → Calls Try.prog 56 #[itemV t A c] W (Ret (readE t).v W)) := fun W hW => eread_any t (by rintro rfl; exact T.not_nil hok) A c W hW
  have H := hid h
  have K2 := hid (fun W => eidItem_ok (readE t) ho W)
  obtain ⟨g1, g2, _, _⟩ := eidT_ok ho
  have K3 : Hid (∀ (B : Option Addr) (W : World), IsL W (fun _ => True) t A → IsL W (fun _ => True) (eidT (readE t)) B → Calls Try.prog 57 #[itemV t A c, itemV (eidT (readE t)) B 2] W (Ret (.bool true) W)) := fun B W h1 h2 => by
    have := Same_any t (eidT (readE t)) hok g1 A B c 2 W h1 h2
    rw [g2 8 (by omega), Bool.and_true, hs] at this
    exact this
  clear g1 g2 ho h hok hs
  generalize eidT (readE t) = y at *
  generalize readE t = e at *
  have HE := hid (((Mod.refl [] w).alloc (.cells (itemC t A c) 63)).alloc (.cells #[.int .i64 0, .string ⟨#[]⟩, .int .u64 0, .int .u64 0] 24))
  have HX := hid ((Blk.new w 63 (itemC t A c)).alloc (.cells #[.int .i64 0, .string ⟨#[]⟩, .int .u64 0, .int .u64 0] 24))
  have HQ := hid (Blk.new' (w.alloc (.cells (itemC t A c) 63)) 24 #[.int .i64 0, .string ⟨#[]⟩, .int .u64 0, .int .u64 0] (N := w.heap.size + 1) (by simp))
  go_enter Try.func40, Try.ntmps40
  go_wp2_with fail
  refine (K1.out _ (H.out.ext HE.out)).mono ?_
  rintro e1 w1 ⟨rfl, hb1⟩
  have HE1 := hid ((HE.out.trans hb1).alloc (.cells e.c 24))
  have HX1 := hid ((HX.out.ext hb1).alloc (.cells e.c 24))
  have HQ1 := hid ((HQ.out.ext hb1).alloc (.cells e.c 24))
  have HV1 := hid (Blk.new w1 24 e.c)
  clear hb1
  go_wp2_with fail
  refine (K2.out _).mono ?_
  rintro e1 w2 ⟨B, rfl, hb2, hl2⟩
  have HE2 := hid ((HE1.out.trans hb2).alloc (.cells (itemC y B 2) 63))
  have HX2 := hid ((HX1.out.ext hb2).alloc (.cells (itemC y B 2) 63))
  have HQ2 := hid ((HQ1.out.ext hb2).alloc (.cells (itemC y B 2) 63))
  have HV2 := hid ((HV1.out.ext hb2).alloc (.cells (itemC y B 2) 63))
  have HY2 := hid (Blk.new w2 63 (itemC y B 2))
  have HL2 : Hid (IsL (w2.alloc (.cells (itemC y B 2) 63)) (fun _ => True) y B) := IsL.ext (IsL.weak (fun _ _ _ => trivial) _ hl2) ((Mod.refl _ _).alloc _)
  have H2 := hid ((H.out.ext HE2.out))
  clear hb2 hl2
  obtain ⟨q0, q1, q2, q3, q4⟩ := cells5 HX2.out
  go_wp2_with fail
  refine (K3.out B _ H2.out HL2.out).mono ?_
  rintro e1 w3 ⟨rfl, hb3⟩
  have HE3 := hid (HE2.out.trans hb3)
  have HQ3 := hid (HQ2.out.ext hb3)
  have HV3 := hid (HV2.out.ext hb3)
  clear hb3 q0 q1 q2 q3 q4
  obtain ⟨r0, r1, r2, r3⟩ : w3.cell? ⟨w.heap.size + 1, 0, none⟩ = some (.int .i64 0) ∧ w3.cell? ⟨w.heap.size + 1, 1, none⟩ = some (str []) ∧ w3.cell? ⟨w.heap.size + 1, 2, none⟩ = some (.int .u64 0) ∧ w3.cell? ⟨w.heap.size + 1, 3, none⟩ = some (.int .u64 0) := ⟨HQ3.out.cell 0, HQ3.out.cell 1, HQ3.out.cell 2, HQ3.out.cell 3⟩
  have f0 := Blk.frozen HQ3.out 0
  have f1 := Blk.frozen HQ3.out 1
  have f2 := Blk.frozen HQ3.out 2
  have f3 := Blk.frozen HQ3.out 3
  obtain ⟨v0, v1, v2, v3⟩ : w3.cell? ⟨w1.heap.size, 0, none⟩ = some (.int .i64 e.sch) ∧ w3.cell? ⟨w1.heap.size, 1, none⟩ = some (str e.name) ∧ w3.cell? ⟨w1.heap.size, 2, none⟩ = some (.int .u64 (e.node : Int)) ∧ w3.cell? ⟨w1.heap.size, 3, none⟩ = some (.int .u64 (e.svc : Int)) := ⟨HV3.out.cell 0, HV3.out.cell 1, HV3.out.cell 2, HV3.out.cell 3⟩
  go_wp2_with fail
  have B4 := (((HQ3.out.set_ 0 (.int .i64 e.sch)).set_ 1 (str e.name)).set_ 2 (.int .u64 (e.node : Int))).set_ 3 (.int .u64 (e.svc : Int))
  obtain ⟨d0, d1, d2, d3⟩ := And.intro (B4.cell 0) (And.intro (B4.cell 1) (And.intro (B4.cell 2) (B4.cell 3)))
  simp only [List.setIfInBounds_toArray, List.set_cons_zero, List.set_cons_succ, List.getElem?_toArray, List.getElem?_cons_zero, List.getElem?_cons_succ] at d0 d1 d2 d3
  clear r0 r1 r2 r3 f0 f1 f2 f3 v0 v1 v2 v3
  refine bodyPost_ret (v := .tuple #[e.v, .int .i64 0]) (by simp [results, Try.results40, go_sem, d0, d1, d2, d3]) rfl (Ret.mk rfl ((((HE3.out.setCell (.inr (by show w.heap.size ≤ w.heap.size + 1; omega)) _).setCell (.inr (by show w.heap.size ≤ w.heap.size + 1; omega)) _).setCell (.inr (by show w.heap.size ≤ w.heap.size + 1; omega)) _).setCell (.inr (by show w.heap.size ≤ w.heap.size + 1; omega)) _))
set_option maxRecDepth 20000 in
set_option maxHeartbeats 1600000 in
theorem eidOf_no (t : T) (hok : t.ok) (ho : (readE t).ok = true) (hs : (t.right 8 && t.same (eidT (readE t))) = false) (A : Option Addr) (c : Nat) (w : World) (h : IsL w (fun _ => True) t A) : Calls Try.prog 40 #[itemV t A c] w (Ret (.tuple #[zeroE.v, .int .i64 2]) w) := by
  have K1 : Hid (∀ W, IsL W (fun _ => True) t A → Calls Try.prog 56 #[itemV t A c] W (Ret (readE t).v W)) := fun W hW => eread_any t (by rintro rfl; exact T.not_nil hok) A c W hW
  have H := hid h
  have K2 := hid (fun W => eidItem_ok (readE t) ho W)
  obtain ⟨g1, g2, _, _⟩ := eidT_ok ho
  have K3 : Hid (∀ (B : Option Addr) (W : World), IsL W (fun _ => True) t A → IsL W (fun _ => True) (eidT (readE t)) B → Calls Try.prog 57 #[itemV t A c, itemV (eidT (readE t)) B 2] W (Ret (.bool false) W)) := fun B W h1 h2 => by
    have := Same_any t (eidT (readE t)) hok g1 A B c 2 W h1 h2
    rw [g2 8 (by omega), Bool.and_true, hs] at this
    exact this
  clear g1 g2 ho h hok hs
  generalize eidT (readE t) = y at *
  generalize readE t = e at *
  have HE := hid (((Mod.refl [] w).alloc (.cells (itemC t A c) 63)).alloc (.cells #[.int .i64 0, .string ⟨#[]⟩, .int .u64 0, .int .u64 0] 24))
  have HX := hid ((Blk.new w 63 (itemC t A c)).alloc (.cells #[.int .i64 0, .string ⟨#[]⟩, .int .u64 0, .int .u64 0] 24))
  have HQ := hid (Blk.new' (w.alloc (.cells (itemC t A c) 63)) 24 #[.int .i64 0, .string ⟨#[]⟩, .int .u64 0, .int .u64 0] (N := w.heap.size + 1) (by simp))
  go_enter Try.func40, Try.ntmps40
  go_wp2_with fail
  refine (K1.out _ (H.out.ext HE.out)).mono ?_
  rintro e1 w1 ⟨rfl, hb1⟩
  have HE1 := hid ((HE.out.trans hb1).alloc (.cells e.c 24))
  have HX1 := hid ((HX.out.ext hb1).alloc (.cells e.c 24))
  have HQ1 := hid ((HQ.out.ext hb1).alloc (.cells e.c 24))
  have HV1 := hid (Blk.new w1 24 e.c)
  clear hb1
  go_wp2_with fail
  refine (K2.out _).mono ?_
  rintro e1 w2 ⟨B, rfl, hb2, hl2⟩
  have HE2 := hid ((HE1.out.trans hb2).alloc (.cells (itemC y B 2) 63))
  have HX2 := hid ((HX1.out.ext hb2).alloc (.cells (itemC y B 2) 63))
  have HQ2 := hid ((HQ1.out.ext hb2).alloc (.cells (itemC y B 2) 63))
  have HV2 := hid ((HV1.out.ext hb2).alloc (.cells (itemC y B 2) 63))
  have HY2 := hid (Blk.new w2 63 (itemC y B 2))
  have HL2 : Hid (IsL (w2.alloc (.cells (itemC y B 2) 63)) (fun _ => True) y B) := IsL.ext (IsL.weak (fun _ _ _ => trivial) _ hl2) ((Mod.refl _ _).alloc _)
  have H2 := hid ((H.out.ext HE2.out))
  clear hb2 hl2
  obtain ⟨q0, q1, q2, q3, q4⟩ := cells5 HX2.out
  go_wp2_with fail
  refine (K3.out B _ H2.out HL2.out).mono ?_
  rintro e1 w3 ⟨rfl, hb3⟩
  have HE3 := hid (HE2.out.trans hb3)
  have HQ3 := hid (HQ2.out.ext hb3)
  have HV3 := hid (HV2.out.ext hb3)
  clear hb3 q0 q1 q2 q3 q4
  obtain ⟨r0, r1, r2, r3⟩ : w3.cell? ⟨w.heap.size + 1, 0, none⟩ = some (.int .i64 0) ∧ w3.cell? ⟨w.heap.size + 1, 1, none⟩ = some (str []) ∧ w3.cell? ⟨w.heap.size + 1, 2, none⟩ = some (.int .u64 0) ∧ w3.cell? ⟨w.heap.size + 1, 3, none⟩ = some (.int .u64 0) := ⟨HQ3.out.cell 0, HQ3.out.cell 1, HQ3.out.cell 2, HQ3.out.cell 3⟩
  have f0 := Blk.frozen HQ3.out 0
  have f1 := Blk.frozen HQ3.out 1
  have f2 := Blk.frozen HQ3.out 2
  have f3 := Blk.frozen HQ3.out 3
  go_wp2_with fail
  have B4 := (((HQ3.out.set_ 0 (.int .i64 0)).set_ 1 (str [])).set_ 2 (.int .u64 0)).set_ 3 (.int .u64 0)
  obtain ⟨d0, d1, d2, d3⟩ := And.intro (B4.cell 0) (And.intro (B4.cell 1) (And.intro (B4.cell 2) (B4.cell 3)))
  simp only [List.setIfInBounds_toArray, List.set_cons_zero, List.set_cons_succ, List.getElem?_toArray, List.getElem?_cons_zero, List.getElem?_cons_succ] at d0 d1 d2 d3
  clear r0 r1 r2 r3 f0 f1 f2 f3
  refine bodyPost_ret (v := .tuple #[.agg #[.int .i64 0, str [], .int .u64 0, .int .u64 0], .int .i64 2]) (by simp [results, Try.results40, go_sem, d0, d1, d2, d3]) rfl (Ret.mk rfl ((((HE3.out.setCell (.inr (by show w.heap.size ≤ w.heap.size + 1; omega)) _).setCell (.inr (by show w.heap.size ≤ w.heap.size + 1; omega)) _).setCell (.inr (by show w.heap.size ≤ w.heap.size + 1; omega)) _).setCell (.inr (by show w.heap.size ≤ w.heap.size + 1; omega)) _))
set_option maxRecDepth 20000 in
set_option maxHeartbeats 1600000 in
theorem eidOf_bad (t : T) (hok : t.ok) (ho : (readE t).ok = false) (A : Option Addr) (c : Nat) (w : World) (h : IsL w (fun _ => True) t A) : Calls Try.prog 40 #[itemV t A c] w (Ret (.tuple #[zeroE.v, .int .i64 2]) w) := by
  have K1 : Hid (∀ W, IsL W (fun _ => True) t A → Calls Try.prog 56 #[itemV t A c] W (Ret (readE t).v W)) := fun W hW => eread_any t (by rintro rfl; exact T.not_nil hok) A c W hW
  have H := hid h
  have hl := readE_name hok
  have K2 : Hid (∀ W, Calls Try.prog 28 #[(readE t).v] W (Ret (.tuple #[itemV (numT 0) none 0, .int .i64 1]) W)) := fun W => eidItem_bad _ _ _ _ hl ho W
  clear ho h hok hl
  generalize readE t = e at *
  have HE := hid (((Mod.refl [] w).alloc (.cells (itemC t A c) 63)).alloc (.cells #[.int .i64 0, .string ⟨#[]⟩, .int .u64 0, .int .u64 0] 24))
  have HX := hid ((Blk.new w 63 (itemC t A c)).alloc (.cells #[.int .i64 0, .string ⟨#[]⟩, .int .u64 0, .int .u64 0] 24))
  have HQ := hid (Blk.new' (w.alloc (.cells (itemC t A c) 63)) 24 #[.int .i64 0, .string ⟨#[]⟩, .int .u64 0, .int .u64 0] (N := w.heap.size + 1) (by simp))
  go_enter Try.func40, Try.ntmps40
  go_wp2_with fail
  refine (K1.out _ (H.out.ext HE.out)).mono ?_
  rintro e1 w1 ⟨rfl, hb1⟩
  have HE1 := hid ((HE.out.trans hb1).alloc (.cells e.c 24))
  have HX1 := hid ((HX.out.ext hb1).alloc (.cells e.c 24))
  have HQ1 := hid ((HQ.out.ext hb1).alloc (.cells e.c 24))
  have HV1 := hid (Blk.new w1 24 e.c)
  clear hb1
  go_wp2_with fail
  refine (K2.out _).mono ?_
  rintro e1 w3 ⟨rfl, hb3⟩
  have HE3 := hid ((HE1.out.trans hb3).alloc (.cells (itemC (numT 0) none 0) 63))
  have HQ3 := hid ((HQ1.out.ext hb3).alloc (.cells (itemC (numT 0) none 0) 63))
  clear hb3
  obtain ⟨r0, r1, r2, r3⟩ : (w3.alloc (.cells (itemC (numT 0) none 0) 63)).cell? ⟨w.heap.size + 1, 0, none⟩ = some (.int .i64 0) ∧ (w3.alloc (.cells (itemC (numT 0) none 0) 63)).cell? ⟨w.heap.size + 1, 1, none⟩ = some (str []) ∧ (w3.alloc (.cells (itemC (numT 0) none 0) 63)).cell? ⟨w.heap.size + 1, 2, none⟩ = some (.int .u64 0) ∧ (w3.alloc (.cells (itemC (numT 0) none 0) 63)).cell? ⟨w.heap.size + 1, 3, none⟩ = some (.int .u64 0) := ⟨HQ3.out.cell 0, HQ3.out.cell 1, HQ3.out.cell 2, HQ3.out.cell 3⟩
  have f0 := Blk.frozen HQ3.out 0
  have f1 := Blk.frozen HQ3.out 1
  have f2 := Blk.frozen HQ3.out 2
  have f3 := Blk.frozen HQ3.out 3
  go_wp2_with fail
  have B4 := (((HQ3.out.set_ 0 (.int .i64 0)).set_ 1 (str [])).set_ 2 (.int .u64 0)).set_ 3 (.int .u64 0)
  obtain ⟨d0, d1, d2, d3⟩ := And.intro (B4.cell 0) (And.intro (B4.cell 1) (And.intro (B4.cell 2) (B4.cell 3)))
  simp only [List.setIfInBounds_toArray, List.set_cons_zero, List.set_cons_succ, List.getElem?_toArray, List.getElem?_cons_zero, List.getElem?_cons_succ] at d0 d1 d2 d3
  clear r0 r1 r2 r3 f0 f1 f2 f3
  refine bodyPost_ret (v := .tuple #[.agg #[.int .i64 0, str [], .int .u64 0, .int .u64 0], .int .i64 2]) (by simp [results, Try.results40, go_sem, d0, d1, d2, d3]) rfl (Ret.mk rfl ((((HE3.out.setCell (.inr (by show w.heap.size ≤ w.heap.size + 1; omega)) _).setCell (.inr (by show w.heap.size ≤ w.heap.size + 1; omega)) _).setCell (.inr (by show w.heap.size ≤ w.heap.size + 1; omega)) _).setCell (.inr (by show w.heap.size ≤ w.heap.size + 1; omega)) _))
theorem eidOf_any (t : T) (hok : t.ok) (A : Option Addr) (c : Nat) (w : World) (h : IsL w (fun _ => True) t A) : Calls Try.prog 40 #[itemV t A c] w (Ret (.tuple #[(if ofB t then readE t else zeroE).v, .int .i64 (if ofB t then 0 else 2)]) w) := by
  by_cases ho : (readE t).ok = true
  · by_cases hs : (t.right 8 && t.same (eidT (readE t))) = true
    · have hb : ofB t = true := by unfold ofB; rw [ho, hs]; rfl
      rw [hb]; exact eidOf_yes t hok ho hs A c w h
    · have hs2 : (t.right 8 && t.same (eidT (readE t))) = false := by simpa using hs
      have hb : ofB t = false := by unfold ofB; rw [ho, hs2]; rfl
      rw [hb]; exact eidOf_no t hok ho hs2 A c w h
  · have ho2 : (readE t).ok = false := by simpa using ho
    have hb : ofB t = false := by unfold ofB; rw [ho2]; rfl
    rw [hb]; exact eidOf_bad t hok ho2 A c w h
end Go.Proofs.Ytagjhkknefiieaa


namespace Go.Proofs.Ytagjhkknefiieaa
open Go.RowKit
set_option linter.unusedVariables false

set_option maxRecDepth 20000 in
theorem build_no (t : T) (A : Option Addr) (c : Nat) (w : World) : Calls Try.prog 29 #[itemV t A c, .bool false] w (Ret (.tuple #[str [], .int .i64 1]) w) := by
  go_enter Try.func29, Try.ntmps29
  go_wp2_with fail
  refine bodyPost_ret (v := .tuple #[str [], .int .i64 1]) (by simp [results, Try.results29, go_sem]) rfl (Ret.mk rfl (by repeat (first | exact Mod.refl _ _ | refine Mod.alloc ?_ _)))
set_option maxRecDepth 20000 in
theorem build_yes (t : T) (hok : t.ok) (hsz : t.size ≤ 100000) (hr : t.right 8 = true) (A : Option Addr) (c : Nat) (w : World) (h : IsL w (fun _ => True) t A) : Calls Try.prog 29 #[itemV t A c, .bool true] w (Ret (.tuple #[str t.bytes, .int .i64 0]) w) := by
  have K : Hid (∀ W, IsL W (fun _ => True) t A → Calls Try.prog 53 #[itemV t A c] W (Ret (.tuple #[str t.bytes, .int .i64 0]) W)) := fun W hW => by
    have := iBuild_any t hok hsz A c W hW
    rw [buildV, hr] at this
    exact this
  have H := hid h
  clear hok hsz hr h
  go_enter Try.func29, Try.ntmps29
  go_wp2_with fail
  refine (K.out _ (H.out.ext ((Mod.refl _ _).alloc _))).mono ?_
  rintro e w1 ⟨rfl, hb1⟩
  have HE1 := hid (((Mod.refl [] w).alloc (.cells (itemC t A c) 63)).trans hb1)
  clear hb1
  go_wp2_with fail
  refine bodyPost_ret (v := .tuple #[str t.bytes, .int .i64 0]) (by simp [results, Try.results29, go_sem]) rfl (Ret.mk rfl HE1.out)
theorem numT_facts (n : Nat) : (numT n).size ≤ 100000 ∧ (numT n).right 8 = true ∧ (numT n).bytes = headL 0 n := by
  refine ⟨by simp [numT, T.size, T.sum], by simp [numT, T.right, T.node, T.all], by simp [numT, T.bytes]⟩
set_option maxRecDepth 20000 in
set_option maxHeartbeats 800000 in
theorem Age_no (n : Nat) (h : 1099511627776 < n) (w : World) : Calls Try.prog 12 #[.int .u64 (n : Int)] w (Ret (.tuple #[str [], .int .i64 1]) w) := by
  have t1 : decide ((n : Int) ≤ 1099511627776) = false := by simp; omega
  clear h
  go_enter Try.func12, Try.ntmps12
  go_wp2_with fail
  refine (NumI_any _ _).mono ?_
  rintro e w1 ⟨rfl, hb1⟩
  go_wp2_with fail
  refine (build_no (numT n) none 0 _).mono ?_
  rintro e w2 ⟨rfl, hb2⟩
  go_wp2_with fail
  refine bodyPost_ret (v := .tuple #[str [], .int .i64 1]) (by simp [results, Try.results12, go_sem]) rfl (Ret.mk rfl (hb1.trans hb2))
set_option maxRecDepth 20000 in
set_option maxHeartbeats 800000 in
theorem Age_yes (n : Nat) (h : n ≤ 1099511627776) (w : World) : Calls Try.prog 12 #[.int .u64 (n : Int)] w (Ret (.tuple #[str (headL 0 n), .int .i64 0]) w) := by
  have t1 : decide ((n : Int) ≤ 1099511627776) = true := by simp; omega
  have K := hid (fun W => build_yes (numT n) (num_ok (by omega)) (numT_facts n).1 (numT_facts n).2.1 none 0 W (leaf_IsL rfl (by simp [numT])))
  rw [(numT_facts n).2.2] at K
  clear h
  go_enter Try.func12, Try.ntmps12
  go_wp2_with fail
  refine (NumI_any _ _).mono ?_
  rintro e w1 ⟨rfl, hb1⟩
  go_wp2_with fail
  refine (K.out _).mono ?_
  rintro e w2 ⟨rfl, hb2⟩
  go_wp2_with fail
  refine bodyPost_ret (v := .tuple #[str (headL 0 n), .int .i64 0]) (by simp [results, Try.results12, go_sem]) rfl (Ret.mk rfl (hb1.trans hb2))
def mayB (l c : Int) : Bool := decide (1 ≤ l) && decide (l ≤ 255) && decide (0 ≤ c) && decide (c ≤ 255)
theorem may_any (l c : Int) (w : World) : Calls Try.prog 37 #[.agg #[.int .i64 l, .int .i64 c]] w (Ret (.bool (mayB l c)) w) := by
  unfold mayB
  go_enter Try.func37, Try.ntmps37
  go_wp2
  all_goals go_ret
  all_goals refine Ret.mk ?_ ((Mod.refl _ _).alloc _)
  all_goals simp
  all_goals (intros; omega)
def pairT2 (a b : Nat) : T := T.mk 4 0 [] false 2 fun i => if i = 0 then numT a else numT b
theorem pairT2_facts (a b : Nat) (ha : a < 18446744073709551616) (hb : b < 18446744073709551616) : (pairT2 a b).ok ∧ (pairT2 a b).size ≤ 100000 ∧ (pairT2 a b).right 8 = true ∧ (pairT2 a b).bytes = 130 :: (headL 0 a ++ headL 0 b) := by
  refine ⟨?_, by simp [pairT2, numT, T.size, T.sum], by simp [pairT2, numT, T.right, T.node, T.all], ?_⟩
  · unfold pairT2 T.ok
    exact ⟨by omega, by omega, by simp, by omega, fun i hi => by dsimp only; split; exact num_ok ha; exact num_ok hb⟩
  · have : headL 4 2 = [130] := by decide
    simp [pairT2, numT, T.bytes, T.cat, this]
set_option maxRecDepth 20000 in
set_option maxHeartbeats 800000 in
theorem Hops_no (l c : Int) (h : mayB l c = false) (w : World) : Calls Try.prog 14 #[.int .i64 l, .int .i64 c] w (Ret (.tuple #[str [], .int .i64 1]) w) := by
  have KM := hid (fun W => may_any l c W)
  rw [h] at KM
  clear h
  go_enter Try.func14, Try.ntmps14
  go_wp2_with fail
  refine (NumI_any _ _).mono ?_
  rintro e w1 ⟨rfl, hb1⟩
  go_wp2_with fail
  refine (NumI_any _ _).mono ?_
  rintro e w2 ⟨rfl, hb2⟩
  have HE2 := hid (hb1.trans hb2)
  clear hb1 hb2
  go_wp2_with fail
  refine (ListV_any 2 _ 2 _).mono ?_
  rintro e w3 ⟨rfl, hb3⟩
  have HE3 := hid ((HE2.out.alloc _).trans hb3)
  clear hb3 HE2
  go_wp2_with fail
  refine (KM.out _).mono ?_
  rintro e w4 ⟨rfl, hb4⟩
  have HE4 := hid (HE3.out.trans hb4)
  clear hb4 HE3
  go_wp2_with fail
  refine (build_no (T.mk 4 0 [] false 2 fun _ => T.nil) (some ⟨w2.heap.size, 0, none⟩) 2 _).mono ?_
  rintro e w5 ⟨rfl, hb5⟩
  have HE5 := hid (HE4.out.trans hb5)
  clear hb5
  go_wp2_with fail
  refine bodyPost_ret (v := .tuple #[str [], .int .i64 1]) (by simp [results, Try.results14, go_sem]) rfl (Ret.mk rfl HE5.out)
set_option maxRecDepth 20000 in
set_option maxHeartbeats 800000 in
theorem Hops_yes (l c : Nat) (h : mayB l c = true) (w : World) : Calls Try.prog 14 #[.int .i64 (l : Int), .int .i64 (c : Int)] w (Ret (.tuple #[str (130 :: (headL 0 l ++ headL 0 c)), .int .i64 0]) w) := by
  have KM := hid (fun W => may_any l c W)
  rw [h] at KM
  have hb : l ≤ 255 ∧ c ≤ 255 := by simp [mayB] at h; omega
  obtain ⟨f1, f2, f3, f4⟩ := pairT2_facts l c (by omega) (by omega)
  have KB : Hid (∀ (A : Option Addr) (W : World), IsL W (fun _ => True) (pairT2 l c) A → Calls Try.prog 29 #[.agg #[.int .i64 4, .int .u64 0, str [], .slice A 2 2, .bool false], .bool true] W (Ret (.tuple #[str (130 :: (headL 0 l ++ headL 0 c)), .int .i64 0]) W)) := fun A W hW => by
    have := build_yes (pairT2 l c) f1 f2 f3 A 2 W hW
    rw [f4] at this
    exact this
  have t1 : IntKind.u64.wrap (l : Int) = (l : Int) := IntWalk.u64_in _ (by omega)
  have t2 : IntKind.u64.wrap (c : Int) = (c : Int) := IntWalk.u64_in _ (by omega)
  clear h f1 f2 f3 f4
  go_enter Try.func14, Try.ntmps14
  go_wp2_with fail
  refine (NumI_any _ _).mono ?_
  rintro e w1 ⟨rfl, hb1⟩
  go_wp2_with fail
  refine (NumI_any _ _).mono ?_
  rintro e w2 ⟨rfl, hb2⟩
  have HE2 := hid (hb1.trans hb2)
  clear hb1 hb2
  go_wp2_with fail
  refine (ListV_any 2 _ 2 _).mono ?_
  rintro e w3 ⟨rfl, hb3⟩
  have HE3 := hid ((HE2.out.alloc _).trans hb3)
  have HL3 : Hid (IsL w3 (fun _ => True) (pairT2 l c) (some ⟨w2.heap.size, 0, none⟩)) := two_IsL (numT l) (numT c) none none 0 0 trivial ((Blk.new w2 63 #[.int .i64 0, .int .u64 (l : Int), str [], .slice none 0 0, .bool false, .int .i64 0, .int .u64 (c : Int), str [], .slice none 0 0, .bool false]).ext hb3) (leaf_IsL rfl (by simp [numT])) (leaf_IsL rfl (by simp [numT]))
  clear hb3 HE2
  go_wp2_with fail
  refine (KM.out _).mono ?_
  rintro e w4 ⟨rfl, hb4⟩
  have HE4 := hid (HE3.out.trans hb4)
  have HL4 := hid (HL3.out.ext hb4)
  clear hb4 HE3
  go_wp2_with fail
  refine (KB.out _ _ HL4.out).mono ?_
  rintro e w5 ⟨rfl, hb5⟩
  have HE5 := hid (HE4.out.trans hb5)
  clear hb5
  go_wp2_with fail
  refine bodyPost_ret (v := .tuple #[str (130 :: (headL 0 l ++ headL 0 c)), .int .i64 0]) (by simp [results, Try.results14, go_sem]) rfl (Ret.mk rfl HE5.out)
set_option maxRecDepth 20000 in
theorem Prev_no (e : EV) (hs : Hid (e.name.length < 4611686018427387904)) (ho : e.ok = false) (w : World) : Calls Try.prog 9 #[e.v] w (Ret (.tuple #[str [], .int .i64 1]) w) := by
  obtain ⟨sch, name, node, svc⟩ := e
  have K := hid (fun W => eidItem_bad sch name node svc hs ho W)
  have HE := hid ((Mod.refl [] w).alloc (.cells (EV.c ⟨sch, name, node, svc⟩) 24))
  go_enter Try.func9, Try.ntmps9
  go_wp2_with fail
  refine (K.out _).mono ?_
  rintro e w1 ⟨rfl, hb1⟩
  have HE1 := hid (HE.out.trans hb1)
  clear hb1
  go_wp2_with fail
  refine (build_no (numT 0) none 0 _).mono ?_
  rintro e w2 ⟨rfl, hb2⟩
  have HE2 := hid (Mod.trans (by first | exact HE1.out | exact HE1.out.alloc _) hb2)
  clear hb2
  go_wp2_with fail
  refine bodyPost_ret (v := .tuple #[str [], .int .i64 1]) (by simp [results, Try.results9, go_sem]) rfl (Ret.mk rfl HE2.out)
set_option maxRecDepth 20000 in
theorem Prev_yes (e : EV) (ho : e.ok = true) (w : World) : Calls Try.prog 9 #[e.v] w (Ret (.tuple #[str (eidT e).bytes, .int .i64 0]) w) := by
  have K := hid (fun W => eidItem_ok e ho W)
  obtain ⟨g1, g2, g3, g4⟩ := eidT_ok ho
  have KB := hid (fun A W => build_yes (eidT e) g1 g4 (g2 8 (by omega)) A 2 W)
  obtain ⟨sch, name, node, svc⟩ := e
  have HE := hid ((Mod.refl [] w).alloc (.cells (EV.c ⟨sch, name, node, svc⟩) 24))
  generalize eidT ⟨sch, name, node, svc⟩ = t at *
  clear g1 g2 g3 g4
  go_enter Try.func9, Try.ntmps9
  go_wp2_with fail
  refine (K.out _).mono ?_
  rintro e w1 ⟨A, rfl, hb1, hl1⟩
  have HE1 := hid (HE.out.trans hb1)
  have HL1 := hid hl1
  clear hb1 hl1
  go_wp2_with fail
  refine (KB.out A _ (IsL.weak (fun _ _ _ => trivial) _ (by first | exact HL1.out | exact HL1.out.ext ((Mod.refl _ _).alloc _)))).mono ?_
  rintro e w2 ⟨rfl, hb2⟩
  have HE2 := hid (Mod.trans (by first | exact HE1.out | exact HE1.out.alloc _) hb2)
  clear hb2
  go_wp2_with fail
  refine bodyPost_ret (v := .tuple #[str t.bytes, .int .i64 0]) (by simp [results, Try.results9, go_sem]) rfl (Ret.mk rfl HE2.out)
set_option maxRecDepth 20000 in
theorem r14Prev (e : EV) (ho : e.ok = true) (w : World) : Calls Try.prog 11 #[e.v] w (Ret (str (eidT e).bytes) w) := by
  have K := hid (fun W => r10Item_ok e ho W)
  obtain ⟨g1, g2, g3, g4⟩ := eidT_ok ho
  have KB := hid (fun A W => rBytesI_any (eidT e) g1 g3 g4 A 2 W)
  obtain ⟨sch, name, node, svc⟩ := e
  have HE := hid ((Mod.refl [] w).alloc (.cells (EV.c ⟨sch, name, node, svc⟩) 24))
  generalize eidT ⟨sch, name, node, svc⟩ = t at *
  clear g1 g2 g3 g4
  go_enter Try.func11, Try.ntmps11
  go_wp2_with fail
  refine (K.out _).mono ?_
  rintro e w1 ⟨A, rfl, hb1, hl1⟩
  go_wp2_with fail
  refine (KB.out A _ (IsL.weak (fun _ _ _ => trivial) _ hl1)).mono ?_
  rintro e w2 ⟨rfl, hb2⟩
  go_wp2_with fail
  go_ret
  exact Ret.mk rfl (HE.out.trans (hb1.trans hb2))
theorem r14Age (n : Nat) (h : n < 18446744073709551616) (w : World) : Calls Try.prog 13 #[.int .u64 (n : Int)] w (Ret (str (headL 0 n)) w) := by
  have K : Hid (∀ W, Calls Try.prog 35 #[.int .i64 0, .int .u64 (n : Int)] W (Ret (str (headL 0 n)) W)) := fun W => by simpa using rhead_in 0 (n : Int) (by omega) (by omega) (by omega) (by omega) W
  go_enter Try.func13, Try.ntmps13
  go_wp2_with fail
  refine (K.out _).mono ?_
  rintro e w2 ⟨rfl, hb2⟩
  go_wp2_with fail
  go_ret
  exact Ret.mk rfl hb2
set_option maxRecDepth 20000 in
theorem r14Hops (l c : Nat) (hl : l ≤ 255) (hc : c ≤ 255) (w : World) : Calls Try.prog 15 #[.int .i64 (l : Int), .int .i64 (c : Int)] w (Ret (str (130 :: (headL 0 l ++ headL 0 c))) w) := by
  have K1 : Hid (∀ W, Calls Try.prog 35 #[.int .i64 0, .int .u64 (l : Int)] W (Ret (str (headL 0 l)) W)) := fun W => by simpa using rhead_in 0 (l : Int) (by omega) (by omega) (by omega) (by omega) W
  have K2 : Hid (∀ W, Calls Try.prog 35 #[.int .i64 0, .int .u64 (c : Int)] W (Ret (str (headL 0 c)) W)) := fun W => by simpa using rhead_in 0 (c : Int) (by omega) (by omega) (by omega) (by omega) W
  have t1 : IntKind.u64.wrap (l : Int) = (l : Int) := IntWalk.u64_in _ (by omega)
  have t2 : IntKind.u64.wrap (c : Int) = (c : Int) := IntWalk.u64_in _ (by omega)
  have g1 := headL_le 0 l
  have g2 := headL_le 0 c
  generalize headL 0 l = x at *
  generalize headL 0 c = y at *
  go_enter Try.func15, Try.ntmps15
  go_wp2_with fail
  refine (K1.out _).mono ?_
  rintro e w1 ⟨rfl, hb1⟩
  have hx1 : ¬ 9223372036854775807 < 1 + x.length := by omega
  go_wp2_with fail
  refine (K2.out _).mono ?_
  rintro e w2 ⟨rfl, hb2⟩
  have e1 : Value.string ((⟨#[130]⟩ : ByteArray) ++ ⟨x.toArray⟩) = str (130 :: x) := str_app [130] x
  rw [e1]
  have hx2 : ¬ 9223372036854775807 < (130 :: x).length + y.length := by simp; omega
  generalize hz : (130 : UInt8) :: x = z at *
  have HZ := hid hz; clear hz e1
  go_wp2_with fail
  go_ret
  exact Ret.mk (by rw [← List.cons_append, HZ.out]; exact str_app _ _) (hb1.trans hb2)
theorem Find_none (w : World) : Calls Try.prog 51 #[.agg #[.int .u64 0, .int .i64 0, .int .i64 0, str [], .int .u64 0, .int .u64 0, .int .i64 0, str [], .int .u64 0, .int .u64 0, .int .i64 0, str [], .int .u64 0, .int .u64 0, .int .u64 0, .int .u64 0, .int .u64 0, .int .u64 0, .int .u64 0, .slice none 0 0], .int .i64 7] w (Ret (.tuple #[.agg #[.int .i64 0, .int .i64 0, .int .u64 0, .int .i64 0, str []], .bool false]) w) := by
  go_enter Try.func51, Try.ntmps51
  go_wp2_with fail
  go_loop [11] (fun i => i = .int .i64 0) (fun i => 0)
  case atStart => rfl
  case round =>
    subst hrel
    go_wp2_with fail
    refine bodyPost_ret (v := .tuple #[.agg #[.int .i64 0, .int .i64 0, .int .u64 0, .int .i64 0, str []], .bool false]) (by simp [results, Try.results51, go_sem]) rfl (Ret.mk rfl (((Mod.refl _ _).alloc _).alloc _))
end Go.Proofs.Ytagjhkknefiieaa


namespace Go.Proofs.Ytagjhkknefiieaa
open Go.RowKit
set_option linter.unusedVariables false

set_option maxRecDepth 20000 in
set_option maxHeartbeats 1600000 in
theorem Lived_none (w : World) : Calls Try.prog 26 #[.agg #[.int .u64 0, .int .i64 0, .int .i64 0, str [], .int .u64 0, .int .u64 0, .int .i64 0, str [], .int .u64 0, .int .u64 0, .int .i64 0, str [], .int .u64 0, .int .u64 0, .int .u64 0, .int .u64 0, .int .u64 0, .int .u64 0, .int .u64 0, .slice none 0 0], .int .u64 5] w (Ret (.int .u64 5) w) := by
  have HB := hid (Blk.new w 56 #[.int .u64 0, .int .i64 0, .int .i64 0, str [], .int .u64 0, .int .u64 0, .int .i64 0, str [], .int .u64 0, .int .u64 0, .int .i64 0, str [], .int .u64 0, .int .u64 0, .int .u64 0, .int .u64 0, .int .u64 0, .int .u64 0, .int .u64 0, .slice none 0 0])
  have HE := hid ((Mod.refl [] w).alloc (.cells #[.int .u64 0, .int .i64 0, .int .i64 0, str [], .int .u64 0, .int .u64 0, .int .i64 0, str [], .int .u64 0, .int .u64 0, .int .i64 0, str [], .int .u64 0, .int .u64 0, .int .u64 0, .int .u64 0, .int .u64 0, .int .u64 0, .int .u64 0, .slice none 0 0] 56))
  go_enter Try.func26, Try.ntmps26
  go_wp2_with (refine wpList_row (by rfl) 56 _ rfl _ rfl HB.out Try.underlying56 rfl (by kernel_rfl) ?_)
  refine (Find_none _).mono ?_
  rintro e w1 ⟨rfl, hb1⟩
  have HE1 := hid (HE.out.trans hb1)
  have c14 : (w1.alloc (.cells #[.int .i64 0, .int .i64 0, .int .u64 0, .int .i64 0, .string ⟨#[]⟩] 90)).cell? ⟨w.heap.size, 14, none⟩ = some (.int .u64 0) := ((HB.out.ext hb1).alloc _).cell 14
  clear hb1
  go_wp2_with fail
  go_ret
  exact Ret.mk rfl (HE1.out.alloc _)
set_option maxRecDepth 20000 in
set_option maxHeartbeats 1600000 in
theorem awake14_any (w : World) : Calls Try.prog 7 #[] w (Ret (.bool true) w) := by
  have K : Hid (∀ W, Calls Try.prog 14 #[.int .i64 30, .int .i64 0] W (Ret (.tuple #[str [130, 24, 30, 0], .int .i64 0]) W)) := fun W => Hops_yes 30 0 (by decide) W
  go_enter Try.func7, Try.ntmps7
  go_wp2_with fail
  refine (K.out _).mono ?_
  rintro e w1 ⟨rfl, hb1⟩
  go_wp2_with fail
  refine (Lived_none _).mono ?_
  rintro e w2 ⟨rfl, hb2⟩
  go_wp2_with fail
  go_ret
  exact Ret.mk rfl (hb1.trans hb2)
end Go.Proofs.Ytagjhkknefiieaa


namespace Go.Proofs.Ytagjhkknefiieaa
open Go.RowKit
set_option linter.unusedVariables false

theorem parse_back {x : T} (hx : x.right 8 = true) (hox : x.ok) : parseR x.bytes = (x.bytes.length, 0) := by
  have h := flt_bytes x 8 hx hox []
  rw [List.append_nil] at h
  unfold parseR
  rw [h]
  rw [if_neg (by rintro ⟨_, h⟩; exact Nat.lt_irrefl _ h)]
/-- A name's block's four cells, stored anew. -/
def set4 (W : World) (b : Nat) (e : EV) : World := (((W.setCell ⟨b, 0, none⟩ (.int .i64 e.sch)).setCell ⟨b, 1, none⟩ (str e.name)).setCell ⟨b, 2, none⟩ (.int .u64 (e.node : Int))).setCell ⟨b, 3, none⟩ (.int .u64 (e.svc : Int))
theorem set4_blk {W : World} {b : Nat} {e0 e : EV} (h : Blk W b 24 e0.c) : Blk (set4 W b e) b 24 e.c := by
  have := (((h.set_ 0 (.int .i64 e.sch)).set_ 1 (str e.name)).set_ 2 (.int .u64 (e.node : Int))).set_ 3 (.int .u64 (e.svc : Int))
  unfold set4
  simpa using this
theorem set4_mod {w W : World} {S : List Nat} {b : Nat} {e : EV} (h : Mod S w W) (hb : w.heap.size ≤ b) : Mod S w (set4 W b e) := (((h.setCell (.inr hb) _).setCell (.inr hb) _).setCell (.inr hb) _).setCell (.inr hb) _
theorem cells4 {W : World} {b : Nat} {e : EV} (h : Blk W b 24 e.c) : W.cell? ⟨b, 0, none⟩ = some (.int .i64 e.sch) ∧ W.cell? ⟨b, 1, none⟩ = some (str e.name) ∧ W.cell? ⟨b, 2, none⟩ = some (.int .u64 (e.node : Int)) ∧ W.cell? ⟨b, 3, none⟩ = some (.int .u64 (e.svc : Int)) := ⟨h.cell 0, h.cell 1, h.cell 2, h.cell 3⟩
/-- A right item's bytes, parsed: the same item. -/
theorem parse_same {x : T} (hx : x.right 8 = true) (hxp : x.plain = true) (hox : x.ok) (hl : x.bytes.length ≤ 1073741824) (w : World) : Calls Try.prog 55 #[str x.bytes] w (fun e w' => ∃ t A c, e = .returned (.tuple #[itemV t A c, .int .i64 (-1), .int .i64 0]) ∧ Ext w w' ∧ t.right 8 = true ∧ t.ok ∧ t.same x = true ∧ x.same t = true ∧ IsL w' (fun _ => True) t A) := by
  refine (parse_any x.bytes hl w).mono fun e w' ⟨hb, h⟩ => ?_
  have h0 : (parseR x.bytes).2 = 0 := by rw [parse_back hx hox]
  rcases h with ⟨h1, _⟩ | ⟨_, t, A, c, he, ⟨hr, hok⟩, hbt, hl⟩
  · exact absurd h0 h1
  · have hp : t.plain = true := by have := hr; rw [T.right_eq, Bool.and_eq_true] at this; exact this.2
    have e1 := (T.bytes_inj t x hp hxp hok hox [] [] (by rw [hbt])).1
    have e2 := (T.bytes_inj x t hxp hp hox hok [] [] (by rw [hbt])).1
    exact ⟨t, A, c, he, hb, hr, hok, e1, e2, hl⟩
theorem same_mk {t : T} {kind : Int} {n : Nat} {s : List UInt8} {op : Bool} {k : Nat} {ch : Nat → T} (h : (T.mk kind n s op k ch).same t = true) : t.kind = kind ∧ t.n = n ∧ t.s = s ∧ t.op = op ∧ t.k = k ∧ ∀ i, i < k → (ch i).same (t.ch i) = true := by
  unfold T.same at h
  simp only [Bool.and_eq_true, beq_iff_eq] at h
  obtain ⟨⟨⟨⟨⟨h1, h2⟩, h3⟩, h4⟩, h5⟩, h6⟩ := h
  exact ⟨h1.symm, h2.symm, h3.symm, h4.symm, h5.symm, T.all_iff.1 h6⟩
theorem readE_same {e : EV} (ho : e.ok = true) {t : T} (h : (eidT e).same t = true) : readE t = e := by
  rcases EV.ok_cases ho with rfl | ⟨name, rfl, hn, hl⟩ | ⟨node, svc, rfl, ha, hb⟩
  · obtain ⟨h1, h2, h3, h4, h5, h6⟩ := same_mk h
    have g0 := same_mk (h6 0 (by omega))
    have g1 : (numT 0).same (t.ch 1) = true := h6 1 (by omega)
    have g1 := same_mk g1
    have z : ¬ (t.kind ≠ 4 ∨ t.k ≠ 2 ∨ (t.ch 0).kind ≠ 0) := by rw [h1, h5, g0.1]; decide
    have z2 : ¬ ((t.ch 0).n = 2 ∧ (t.ch 1).k = 2) := by rintro ⟨h, _⟩; rw [g0.2.1] at h; revert h; decide
    have z3 : ¬ ((t.ch 0).n = 1 ∧ (t.ch 1).kind = 3) := by rintro ⟨_, h⟩; rw [g1.1] at h; revert h; decide
    unfold readE
    rw [if_neg z, if_neg z2, if_neg z3]
    rfl
  · have h0 : ¬ name = noneL := hn
    have e1 : eidT ⟨1, name, 0, 0⟩ = T.mk 4 0 [] false 2 fun i => if i = 0 then numT 1 else textT name := by simp [eidT, twoT, h0]
    rw [e1] at h
    obtain ⟨h1, h2, h3, h4, h5, h6⟩ := same_mk h
    have g0 := same_mk (h6 0 (by omega))
    have g1 : (textT name).same (t.ch 1) = true := h6 1 (by omega)
    have g1 := same_mk g1
    have z : ¬ (t.kind ≠ 4 ∨ t.k ≠ 2 ∨ (t.ch 0).kind ≠ 0) := by rw [h1, h5, g0.1]; decide
    have z2 : ¬ ((t.ch 0).n = 2 ∧ (t.ch 1).k = 2) := by rintro ⟨h, _⟩; rw [g0.2.1] at h; revert h; decide
    have z3 : (t.ch 0).n = 1 ∧ (t.ch 1).kind = 3 := by rw [g0.2.1, g1.1]; decide
    unfold readE
    rw [if_neg z, if_neg z2, if_pos z3, g1.2.2.1]
  · obtain ⟨h1, h2, h3, h4, h5, h6⟩ := same_mk h
    have g0 := same_mk (h6 0 (by omega))
    have g1 : (T.mk 4 0 [] false 2 (fun j => if j = 0 then numT node else numT svc)).same (t.ch 1) = true := h6 1 (by omega)
    have g1 := same_mk g1
    have k0 : (numT node).same ((t.ch 1).ch 0) = true := g1.2.2.2.2.2 0 (by omega)
    have k1 : (numT svc).same ((t.ch 1).ch 1) = true := g1.2.2.2.2.2 1 (by omega)
    have k0 := same_mk k0
    have k1 := same_mk k1
    have z : ¬ (t.kind ≠ 4 ∨ t.k ≠ 2 ∨ (t.ch 0).kind ≠ 0) := by rw [h1, h5, g0.1]; decide
    have z2 : (t.ch 0).n = 2 ∧ (t.ch 1).k = 2 := ⟨g0.2.1, g1.2.2.2.2.1⟩
    unfold readE
    rw [if_neg z, if_pos z2, k0.2.1, k1.2.1]
set_option maxRecDepth 20000 in
theorem rp1_yes (e : EV) (ho : e.ok = true) (t : T) (hok : t.ok) (hr : t.right 8 = true) (h1 : t.same (eidT e) = true) (h2 : (eidT e).same t = true) (A : Option Addr) (c : Nat) (w : World) (h : IsL w (fun _ => True) t A) : Calls Try.prog 39 #[itemV t A c] w (Ret (.tuple #[e.v, .bool true]) w) := by
  have hE := readE_same ho h2
  have K : Hid (∀ W, IsL W (fun _ => True) t A → Calls Try.prog 40 #[itemV t A c] W (Ret (.tuple #[e.v, .int .i64 0]) W)) := fun W hW => by
    have := eidOf_yes t hok (by rw [hE]; exact ho) (by rw [hE, hr, h1]; rfl) A c W hW
    rw [hE] at this
    exact this
  have H := hid h
  clear hE h h1 h2 hr hok ho
  have HE := hid (((Mod.refl [] w).alloc (.cells (itemC t A c) 63)).alloc (.cells #[.int .i64 0, .string ⟨#[]⟩, .int .u64 0, .int .u64 0] 24))
  have HQ : Hid (Blk ((w.alloc (.cells (itemC t A c) 63)).alloc (.cells #[.int .i64 0, .string ⟨#[]⟩, .int .u64 0, .int .u64 0] 24)) (w.heap.size + 1) 24 zeroE.c) := Blk.new' (w.alloc (.cells (itemC t A c) 63)) 24 #[.int .i64 0, .string ⟨#[]⟩, .int .u64 0, .int .u64 0] (N := w.heap.size + 1) (by simp)
  go_enter Try.func39, Try.ntmps39
  go_wp2_with fail
  refine (K.out _ (H.out.ext HE.out)).mono ?_
  rintro e1 w1 ⟨rfl, hb1⟩
  have HE1 := hid ((HE.out.trans hb1).alloc (.cells e.c 24))
  have HQ1 := hid ((HQ.out.ext hb1).alloc (.cells e.c 24))
  clear hb1
  obtain ⟨c0, c1, c2, c3⟩ := cells4 HQ1.out
  have f0 := Blk.frozen HQ1.out 0
  have f1 := Blk.frozen HQ1.out 1
  have f2 := Blk.frozen HQ1.out 2
  have f3 := Blk.frozen HQ1.out 3
  go_wp2_with fail
  obtain ⟨d0, d1, d2, d3⟩ := cells4 (set4_blk (e := e) HQ1.out)
  clear c0 c1 c2 c3 f0 f1 f2 f3
  show bodyPost _ _ _ _ _ (set4 (w1.alloc (.cells e.c 24)) (w.heap.size + 1) e)
  refine bodyPost_ret (v := .tuple #[e.v, .bool true]) (by simp [results, Try.results39, go_sem, d0, d1, d2, d3]) rfl (Ret.mk rfl (set4_mod HE1.out (by omega)))
set_option maxRecDepth 20000 in
theorem readEID_yes (e : EV) (ho : e.ok = true) (w : World) : Calls Try.prog 38 #[str (eidT e).bytes, .func (Fn.func 39) #[] #[]] w (Ret (.tuple #[e.v, .int .i64 0]) w) := by
  obtain ⟨g1, g2, g3, g4⟩ := eidT_ok ho
  have hl := T.bytes_le (eidT e)
  have K := hid (fun W => parse_same (g2 8 (by omega)) g3 g1 (by omega) W)
  clear hl g1 g2 g3 g4
  have HE := hid (((Mod.refl [] w).alloc (.cells #[.int .i64 0, .string ⟨#[]⟩, .int .u64 0, .int .u64 0] 24)).alloc (.cells #[.int .i64 0, .string ⟨#[]⟩, .int .u64 0, .int .u64 0] 24))
  have HQ : Hid (Blk ((w.alloc (.cells #[.int .i64 0, .string ⟨#[]⟩, .int .u64 0, .int .u64 0] 24)).alloc (.cells #[.int .i64 0, .string ⟨#[]⟩, .int .u64 0, .int .u64 0] 24)) w.heap.size 24 zeroE.c) := (Blk.new w 24 #[.int .i64 0, .string ⟨#[]⟩, .int .u64 0, .int .u64 0]).alloc _
  go_enter Try.func38, Try.ntmps38
  go_wp2_with fail
  refine (K.out _).mono ?_
  rintro e1 w1 ⟨t, A, c, rfl, hb1, hr, hok, hs1, hs2, hl1⟩
  have HE1 := hid ((HE.out.trans hb1).alloc (.cells (itemC t A c) 63))
  have HQ1 := hid ((HQ.out.ext hb1).alloc (.cells (itemC t A c) 63))
  have HL1 : Hid (IsL (w1.alloc (.cells (itemC t A c) 63)) (fun _ => True) t A) := IsL.ext hl1 ((Mod.refl _ _).alloc _)
  have KO := hid (fun W hW => rp1_yes e ho t hok hr hs1 hs2 A c W hW)
  clear hb1 hl1 hr hok hs1 hs2 K
  go_wp2_with fail
  refine (KO.out _ HL1.out).mono ?_
  rintro e1 w2 ⟨rfl, hb2⟩
  have HE2 := hid ((HE1.out.trans hb2).alloc (.cells e.c 24))
  have HQ2 := hid ((HQ1.out.ext hb2).alloc (.cells e.c 24))
  clear hb2
  obtain ⟨c0, c1, c2, c3⟩ := cells4 HQ2.out
  have f0 := Blk.frozen HQ2.out 0
  have f1 := Blk.frozen HQ2.out 1
  have f2 := Blk.frozen HQ2.out 2
  have f3 := Blk.frozen HQ2.out 3
  go_wp2_with fail
  obtain ⟨d0, d1, d2, d3⟩ := cells4 (set4_blk (e := e) HQ2.out)
  clear c0 c1 c2 c3 f0 f1 f2 f3
  show bodyPost _ _ _ _ _ (set4 (w2.alloc (.cells e.c 24)) w.heap.size e)
  refine bodyPost_ret (v := .tuple #[e.v, .int .i64 0]) (by simp [results, Try.results38, go_sem, d0, d1, d2, d3]) rfl (Ret.mk rfl (set4_mod HE2.out (by omega)))
set_option maxRecDepth 20000 in
theorem ReadPrev_yes (e : EV) (ho : e.ok = true) (w : World) : Calls Try.prog 16 #[str (eidT e).bytes] w (Ret (.tuple #[e.v, .int .i64 0]) w) := by
  have K := hid (fun W => readEID_yes e ho W)
  generalize (eidT e).bytes = l at *
  have HE := hid ((Mod.refl [] w).alloc (.cells #[.int .i64 0, .string ⟨#[]⟩, .int .u64 0, .int .u64 0] 24))
  have HQ : Hid (Blk (w.alloc (.cells #[.int .i64 0, .string ⟨#[]⟩, .int .u64 0, .int .u64 0] 24)) w.heap.size 24 zeroE.c) := Blk.new w 24 #[.int .i64 0, .string ⟨#[]⟩, .int .u64 0, .int .u64 0]
  go_enter Try.func16, Try.ntmps16
  go_wp2_with fail
  refine (K.out _).mono ?_
  rintro e1 w1 ⟨rfl, hb1⟩
  have HE1 := hid (HE.out.trans hb1)
  have HQ1 := hid (HQ.out.ext hb1)
  clear hb1
  obtain ⟨c0, c1, c2, c3⟩ := cells4 HQ1.out
  have f0 := Blk.frozen HQ1.out 0
  have f1 := Blk.frozen HQ1.out 1
  have f2 := Blk.frozen HQ1.out 2
  have f3 := Blk.frozen HQ1.out 3
  go_wp2_with fail
  obtain ⟨d0, d1, d2, d3⟩ := cells4 (set4_blk (e := e) HQ1.out)
  clear c0 c1 c2 c3 f0 f1 f2 f3
  show bodyPost _ _ _ _ _ (set4 w1 w.heap.size e)
  refine bodyPost_ret (v := .tuple #[e.v, .int .i64 0]) (by simp [results, Try.results16, go_sem, d0, d1, d2, d3]) rfl (Ret.mk rfl (set4_mod HE1.out (by omega)))
end Go.Proofs.Ytagjhkknefiieaa


namespace Go.Proofs.Ytagjhkknefiieaa
open Go.RowKit
set_option linter.unusedVariables false

theorem numT_plain (n : Nat) : (numT n).plain = true ∧ (numT n).bytes.length ≤ 9 := by
  have := headL_le 0 n
  exact ⟨by simp [numT, T.plain, T.node, T.all], by simpa [numT, T.bytes] using this⟩
set_option maxRecDepth 20000 in
theorem ra1_yes (n : Nat) (hn : n ≤ 1099511627776) (t : T) (h2 : (numT n).same t = true) (A : Option Addr) (c : Nat) (w : World) : Calls Try.prog 45 #[itemV t A c] w (Ret (.tuple #[.int .u64 (n : Int), .bool true]) w) := by
  obtain ⟨g1, g2, g3, g4, g5, _⟩ := same_mk h2
  have t1 : decide ((n : Int) ≤ 1099511627776) = true := by simp; omega
  unfold itemV
  rw [g1, g2, g3, g4, g5]
  clear g1 g2 g3 g4 g5 h2 hn
  go_enter Try.func45, Try.ntmps45
  go_wp2_with fail
  go_quiet (fail)
  go_wp2_with fail
  refine bodyPost_ret (v := .tuple #[.int .u64 (n : Int), .bool true]) (by simp [results, Try.results45, go_sem]) rfl (Ret.mk rfl (by first | exact ((Mod.refl _ _).alloc _).drewN _ | exact ((Mod.refl _ _).alloc _).drew))
set_option maxRecDepth 20000 in
theorem readU_yes (n : Nat) (hn : n ≤ 1099511627776) (w : World) : Calls Try.prog 44 #[str (headL 0 n), .func (Fn.func 45) #[] #[]] w (Ret (.tuple #[.int .u64 (n : Int), .int .i64 0]) w) := by
  have hp := numT_plain n
  have K := hid (fun W => parse_same (numT_facts n).2.1 hp.1 (num_ok (n := n) (by omega)) (by omega) W)
  rw [(numT_facts n).2.2] at K
  clear hp
  go_enter Try.func44, Try.ntmps44
  go_wp2_with fail
  refine (K.out _).mono ?_
  rintro e1 w1 ⟨t, A, c, rfl, hb1, hr, hok, hs1, hs2, hl1⟩
  have HB1 := hid hb1
  have KO := hid (fun W => ra1_yes n hn t hs2 A c W)
  clear hb1 hl1 hr hok hs1 hs2 K
  go_wp2_with fail
  refine (KO.out _).mono ?_
  rintro e1 w2 ⟨rfl, hb2⟩
  go_wp2_with fail
  refine bodyPost_ret (v := .tuple #[.int .u64 (n : Int), .int .i64 0]) (by simp [results, Try.results44, go_sem]) rfl (Ret.mk rfl ((HB1.out.alloc _).trans hb2))
set_option maxRecDepth 20000 in
theorem ReadAge_yes (n : Nat) (hn : n ≤ 1099511627776) (w : World) : Calls Try.prog 18 #[str (headL 0 n)] w (Ret (.tuple #[.int .u64 (n : Int), .int .i64 0]) w) := by
  have K := hid (fun W => readU_yes n hn W)
  generalize headL 0 n = l at *
  go_enter Try.func18, Try.ntmps18
  go_wp2_with fail
  refine (K.out _).mono ?_
  rintro e1 w1 ⟨rfl, hb1⟩
  go_wp2_with fail
  refine bodyPost_ret (v := .tuple #[.int .u64 (n : Int), .int .i64 0]) (by simp [results, Try.results18, go_sem]) rfl (Ret.mk rfl hb1)
set_option maxRecDepth 20000 in
set_option maxHeartbeats 800000 in
theorem rh1_yes (l k : Nat) (hm : mayB l k = true) (t : T) (h2 : (pairT2 l k).same t = true) (A : Option Addr) (c : Nat) (w : World) (h : IsL w (fun _ => True) t A) : Calls Try.prog 60 #[itemV t A c] w (Ret (.tuple #[.agg #[.int .i64 (l : Int), .int .i64 (k : Int)], .bool true]) w) := by
  have KM := hid (fun W => may_any l k W)
  rw [hm] at KM
  have hb : l ≤ 255 ∧ k ≤ 255 := by simp [mayB] at hm; omega
  obtain ⟨g1, g2, g3, g4, g5, g6⟩ := same_mk h2
  have q0 := same_mk (g6 0 (by omega))
  have q1 : (numT k).same (t.ch 1) = true := g6 1 (by omega)
  have q1 := same_mk q1
  obtain ⟨kind, n, s, op, kk, ch, rfl⟩ : ∃ kind n s op k ch, t = T.mk kind n s op k ch := by
    cases t with
    | nil => cases h
    | mk a b d e f g => exact ⟨a, b, d, e, f, g, rfl⟩
  have g1 : kind = 4 := g1
  have g4 : op = false := g4
  have g5 : kk = 2 := g5
  subst g1 g4 g5
  obtain ⟨b, o, ac, rfl, hb1, _, hc⟩ := h.rows (by omega)
  obtain ⟨a0, _⟩ := hc 0 (by omega)
  obtain ⟨a1, _⟩ := hc 1 (by omega)
  have a0 : At5 w b o (ch 0) (ac 0).1 (ac 0).2 := by simpa using a0
  have a1 : At5 w b (o + 5) (ch 1) (ac 1).1 (ac 1).2 := by simpa using a1
  have HE := hid ((Mod.refl [] w).alloc (.cells #[.int .i64 4, .int .u64 (n : Int), str s, .slice (some ⟨b, o, none⟩) 2 c, .bool false] 63))
  obtain ⟨x0, x1, _⟩ := a0.mod HE.out hb1 (by simp)
  obtain ⟨y0, y1, _⟩ := a1.mod HE.out hb1 (by simp)
  have z0 : (ch 0).kind = 0 := q0.1
  have z1 : (ch 0).n = l := q0.2.1
  have z2 : (ch 1).kind = 0 := q1.1
  have z3 : (ch 1).n = k := q1.2.1
  rw [z0] at x0
  rw [z1] at x1
  rw [z2] at y0
  rw [z3] at y1
  have HA0 := hid a0
  have HA1 := hid a1
  have Z1 := hid z1
  have Z3 := hid z3
  clear a0 a1 hc g6 q0 q1 z0 z1 z2 z3 h2 hm h
  show Calls _ _ #[.agg #[.int .i64 4, .int .u64 (n : Int), str s, .slice (some ⟨b, o, none⟩) 2 c, .bool false]] _ _
  have HE2 := hid (HE.out.alloc (.cells #[.int .i64 0, .int .i64 0] 75))
  have HX2 := hid ((Blk.new w 63 #[.int .i64 4, .int .u64 (n : Int), str s, .slice (some ⟨b, o, none⟩) 2 c, .bool false]).alloc (.cells #[.int .i64 0, .int .i64 0] 75))
  have HQ2 := hid (Blk.new' (w.alloc (.cells #[.int .i64 4, .int .u64 (n : Int), str s, .slice (some ⟨b, o, none⟩) 2 c, .bool false] 63)) 75 #[.int .i64 0, .int .i64 0] (N := w.heap.size + 1) (by simp))
  have ml : ((256 : Int) < (l : Int)) = False := by simp; omega
  have mk : ((256 : Int) < (k : Int)) = False := by simp; omega
  have tl : IntKind.i64.wrap (l : Int) = (l : Int) := IntWalk.i64_in _ (by omega)
  have tk : IntKind.i64.wrap (k : Int) = (k : Int) := IntWalk.i64_in _ (by omega)
  go_enter Try.func60, Try.ntmps60
  go_upto_region 3 with fail
  obtain ⟨V, hV⟩ : ∃ V, V = (w.alloc (.cells #[.int .i64 4, .int .u64 (n : Int), str s, .slice (some ⟨b, o, none⟩) 2 c, .bool false] 63)).alloc (.cells #[.int .i64 0, .int .i64 0] 75) := ⟨_, rfl⟩
  rw [← hV] at HE2 HX2 HQ2 ⊢
  have hs : V.heap.size = w.heap.size + 1 + 1 := by rw [hV]; simp
  have HS := hid hs
  have p3 : V.cell? ⟨w.heap.size, 3, none⟩ = some (.slice (some ⟨b, o, none⟩) 2 c) := HX2.out.cell 3
  have px : V.cell? ⟨b, o + 1, none⟩ = some (.int .u64 (l : Int)) := by have := (HA0.out.mod HE2.out hb1 (by simp)).2.1; rw [Z1.out] at this; exact this
  have py : V.cell? ⟨b, o + 5 + 1, none⟩ = some (.int .u64 (k : Int)) := by have := (HA1.out.mod HE2.out hb1 (by simp)).2.1; rw [Z3.out] at this; exact this
  clear x0 x1 y0 y1 hV hs
  go_cut [4] (fun s4 wx => ∃ g, s4 = .pointer (some ⟨g, 0, none⟩) ∧ Hid (Ext w wx ∧ Blk wx g 75 #[.int .i64 (l : Int), .int .i64 (k : Int)] ∧ Blk wx (w.heap.size + 1) 75 #[.int .i64 0, .int .i64 0] ∧ w.heap.size + 1 ≠ g))
  case first =>
    go_region_held3 (fun w' => w'.cell? ⟨w.heap.size, 3, none⟩ = some (.slice (some ⟨b, o, none⟩) 2 c) ∧ w'.cell? ⟨b, o + 1, none⟩ = some (.int .u64 (l : Int)) ∧ w'.cell? ⟨b, o + 5 + 1, none⟩ = some (.int .u64 (k : Int))) (go_keep) (first | fail)
    all_goals go_wp2_with fail
    all_goals go_meet
    all_goals exact ⟨_, rfl, (HE2.out.alloc _).drew, (Blk.new V 75 #[.int .i64 (l : Int), .int .i64 (k : Int)]).drew, (HQ2.out.alloc _).drew, by have := HS.out; omega⟩
  obtain ⟨g, rfl, hG⟩ := hcut
  have HGE := hid hG.out.1
  have HG := hid hG.out.2.1
  have HGQ := hid hG.out.2.2.1
  have hne : w.heap.size + 1 ≠ g := hG.out.2.2.2
  clear hG p3 px py ml mk tl tk
  rename World => V2
  have y0 : V2.cell? ⟨g, 0, none⟩ = some (.int .i64 (l : Int)) := HG.out.cell 0
  have y1 : V2.cell? ⟨g, 1, none⟩ = some (.int .i64 (k : Int)) := HG.out.cell 1
  have HS2 : Hid (∀ w', Ext V2 w' → w'.cell? ⟨g, 0, none⟩ = some (.int .i64 (l : Int)) ∧ w'.cell? ⟨g, 1, none⟩ = some (.int .i64 (k : Int))) := fun W hW => ⟨(HG.out.ext hW).cell 0, (HG.out.ext hW).cell 1⟩
  go_upto_region 4 with fail
  go_region_held3 (fun w' => w'.cell? ⟨g, 0, none⟩ = some (.int .i64 (l : Int)) ∧ w'.cell? ⟨g, 1, none⟩ = some (.int .i64 (k : Int))) (go_keep)
    (first
      | (go_at_call 37; refine (KM.out _).mono ?_; rintro x w3 ⟨rfl, hb3⟩; have hx : Ext V2 w3 := (by (with_reducible refine Mod.trans ?_ hb3); (repeat (first | with_reducible assumption | with_reducible exact Mod.refl _ _ | with_reducible refine Mod.drew ?_ | with_reducible refine Mod.alloc ?_ _))); have z := HS2.out w3 hx; have HQ3 := hid (HGQ.out.ext hx); have r0 : w3.cell? ⟨w.heap.size + 1, 0, none⟩ = some (.int .i64 0) := HQ3.out.cell 0; have r1 : w3.cell? ⟨w.heap.size + 1, 1, none⟩ = some (.int .i64 0) := HQ3.out.cell 1; have f0 := Blk.frozen HQ3.out 0; have f1 := Blk.frozen HQ3.out 1))
  all_goals go_wp2_with fail
  all_goals have B2 := (HQ3.out.set_ 0 (.int .i64 (l : Int))).set_ 1 (.int .i64 (k : Int))
  all_goals have d0 : ((w3.setCell ⟨w.heap.size + 1, 0, none⟩ (.int .i64 (l : Int))).setCell ⟨w.heap.size + 1, 1, none⟩ (.int .i64 (k : Int))).cell? ⟨w.heap.size + 1, 0, none⟩ = some (.int .i64 (l : Int)) := B2.cell 0
  all_goals have d1 : ((w3.setCell ⟨w.heap.size + 1, 0, none⟩ (.int .i64 (l : Int))).setCell ⟨w.heap.size + 1, 1, none⟩ (.int .i64 (k : Int))).cell? ⟨w.heap.size + 1, 1, none⟩ = some (.int .i64 (k : Int)) := B2.cell 1
  all_goals clear B2 r0 r1 f0 f1
  all_goals refine bodyPost_ret (v := .tuple #[.agg #[.int .i64 (l : Int), .int .i64 (k : Int)], .bool true]) (by simp [results, Try.results60, go_sem, d0, d1]) rfl (Ret.mk rfl (((HGE.out.trans hx).setCell (.inr (by show w.heap.size ≤ w.heap.size + 1; omega)) _).setCell (.inr (by show w.heap.size ≤ w.heap.size + 1; omega)) _))
end Go.Proofs.Ytagjhkknefiieaa


namespace Go.Proofs.Ytagjhkknefiieaa
open Go.RowKit
set_option linter.unusedVariables false

theorem pairT2_plain (l k : Nat) : (pairT2 l k).plain = true ∧ (pairT2 l k).size ≤ 100 := by
  exact ⟨by simp [pairT2, numT, T.plain, T.node, T.all], by simp [pairT2, numT, T.size, T.sum]⟩
set_option maxRecDepth 20000 in
set_option maxHeartbeats 800000 in
theorem readH_yes (l k : Nat) (hm : mayB l k = true) (w : World) : Calls Try.prog 59 #[str (130 :: (headL 0 l ++ headL 0 k)), .func (Fn.func 60) #[] #[]] w (Ret (.tuple #[.agg #[.int .i64 (l : Int), .int .i64 (k : Int)], .int .i64 0]) w) := by
  have hb : l ≤ 255 ∧ k ≤ 255 := by simp [mayB] at hm; omega
  have hp := pairT2_plain l k
  have hf := pairT2_facts l k (by omega) (by omega)
  have hl := T.bytes_le (pairT2 l k)
  have K := hid (fun W => parse_same hf.2.2.1 hp.1 hf.1 (by omega) W)
  rw [hf.2.2.2] at K
  have HM := hid hm
  clear hp hf hl hm hb
  generalize (130 : UInt8) :: (headL 0 l ++ headL 0 k) = L at *
  have HE := hid (((Mod.refl [] w).alloc (.cells #[.int .i64 0, .int .i64 0] 75)).alloc (.cells #[.int .i64 0, .int .i64 0] 75))
  have HQ := hid ((Blk.new w 75 #[.int .i64 0, .int .i64 0]).alloc (.cells #[.int .i64 0, .int .i64 0] 75))
  go_enter Try.func59, Try.ntmps59
  go_wp2_with fail
  refine (K.out _).mono ?_
  rintro e1 w1 ⟨t, A, c, rfl, hb1, hr, hok, hs1, hs2, hl1⟩
  have HE1 := hid ((HE.out.trans hb1).alloc (.cells (itemC t A c) 63))
  have HQ1 := hid ((HQ.out.ext hb1).alloc (.cells (itemC t A c) 63))
  have HL1 : Hid (IsL (w1.alloc (.cells (itemC t A c) 63)) (fun _ => True) t A) := IsL.ext hl1 ((Mod.refl _ _).alloc _)
  have KO := hid (fun W hW => rh1_yes l k HM.out t hs2 A c W hW)
  clear hb1 hl1 hr hok hs1 hs2 K
  go_wp2_with fail
  refine (KO.out _ HL1.out).mono ?_
  rintro e1 w2 ⟨rfl, hb2⟩
  have HE2 := hid ((HE1.out.trans hb2).alloc (.cells #[.int .i64 (l : Int), .int .i64 (k : Int)] 75))
  have HQ2 := hid ((HQ1.out.ext hb2).alloc (.cells #[.int .i64 (l : Int), .int .i64 (k : Int)] 75))
  clear hb2
  have r0 : (w2.alloc (.cells #[.int .i64 (l : Int), .int .i64 (k : Int)] 75)).cell? ⟨w.heap.size, 0, none⟩ = some (.int .i64 0) := HQ2.out.cell 0
  have r1 : (w2.alloc (.cells #[.int .i64 (l : Int), .int .i64 (k : Int)] 75)).cell? ⟨w.heap.size, 1, none⟩ = some (.int .i64 0) := HQ2.out.cell 1
  have f0 := Blk.frozen HQ2.out 0
  have f1 := Blk.frozen HQ2.out 1
  go_wp2_with fail
  have B2 := (HQ2.out.set_ 0 (.int .i64 (l : Int))).set_ 1 (.int .i64 (k : Int))
  have d0 : (((w2.alloc (.cells #[.int .i64 (l : Int), .int .i64 (k : Int)] 75)).setCell ⟨w.heap.size, 0, none⟩ (.int .i64 (l : Int))).setCell ⟨w.heap.size, 1, none⟩ (.int .i64 (k : Int))).cell? ⟨w.heap.size, 0, none⟩ = some (.int .i64 (l : Int)) := B2.cell 0
  have d1 : (((w2.alloc (.cells #[.int .i64 (l : Int), .int .i64 (k : Int)] 75)).setCell ⟨w.heap.size, 0, none⟩ (.int .i64 (l : Int))).setCell ⟨w.heap.size, 1, none⟩ (.int .i64 (k : Int))).cell? ⟨w.heap.size, 1, none⟩ = some (.int .i64 (k : Int)) := B2.cell 1
  clear B2 r0 r1 f0 f1
  refine bodyPost_ret (v := .tuple #[.agg #[.int .i64 (l : Int), .int .i64 (k : Int)], .int .i64 0]) (by simp [results, Try.results59, go_sem, d0, d1]) rfl (Ret.mk rfl ((HE2.out.setCell (.inr (Nat.le_refl _)) _).setCell (.inr (Nat.le_refl _)) _))
set_option maxRecDepth 20000 in
theorem readHops_yes (l k : Nat) (hm : mayB l k = true) (w : World) : Calls Try.prog 47 #[str (130 :: (headL 0 l ++ headL 0 k))] w (Ret (.tuple #[.agg #[.int .i64 (l : Int), .int .i64 (k : Int)], .int .i64 0]) w) := by
  have K := hid (fun W => readH_yes l k hm W)
  generalize (130 : UInt8) :: (headL 0 l ++ headL 0 k) = L at *
  have HE := hid ((Mod.refl [] w).alloc (.cells #[.int .i64 0, .int .i64 0] 75))
  have HQ := hid (Blk.new w 75 #[.int .i64 0, .int .i64 0])
  go_enter Try.func47, Try.ntmps47
  go_wp2_with fail
  refine (K.out _).mono ?_
  rintro e1 w1 ⟨rfl, hb1⟩
  have HE1 := hid (HE.out.trans hb1)
  have HQ1 := hid (HQ.out.ext hb1)
  clear hb1
  have r0 : w1.cell? ⟨w.heap.size, 0, none⟩ = some (.int .i64 0) := HQ1.out.cell 0
  have r1 : w1.cell? ⟨w.heap.size, 1, none⟩ = some (.int .i64 0) := HQ1.out.cell 1
  have f0 := Blk.frozen HQ1.out 0
  have f1 := Blk.frozen HQ1.out 1
  go_wp2_with fail
  have B2 := (HQ1.out.set_ 0 (.int .i64 (l : Int))).set_ 1 (.int .i64 (k : Int))
  have d0 : ((w1.setCell ⟨w.heap.size, 0, none⟩ (.int .i64 (l : Int))).setCell ⟨w.heap.size, 1, none⟩ (.int .i64 (k : Int))).cell? ⟨w.heap.size, 0, none⟩ = some (.int .i64 (l : Int)) := B2.cell 0
  have d1 : ((w1.setCell ⟨w.heap.size, 0, none⟩ (.int .i64 (l : Int))).setCell ⟨w.heap.size, 1, none⟩ (.int .i64 (k : Int))).cell? ⟨w.heap.size, 1, none⟩ = some (.int .i64 (k : Int)) := B2.cell 1
  clear B2 r0 r1 f0 f1
  refine bodyPost_ret (v := .tuple #[.agg #[.int .i64 (l : Int), .int .i64 (k : Int)], .int .i64 0]) (by simp [results, Try.results47, go_sem, d0, d1]) rfl (Ret.mk rfl ((HE1.out.setCell (.inr (Nat.le_refl _)) _).setCell (.inr (Nat.le_refl _)) _))
set_option maxRecDepth 20000 in
theorem ReadHops_yes (l k : Nat) (hm : mayB l k = true) (w : World) : Calls Try.prog 20 #[str (130 :: (headL 0 l ++ headL 0 k))] w (Ret (.tuple #[.int .i64 (l : Int), .int .i64 (k : Int), .int .i64 0]) w) := by
  have K := hid (fun W => readHops_yes l k hm W)
  generalize (130 : UInt8) :: (headL 0 l ++ headL 0 k) = L at *
  go_enter Try.func20, Try.ntmps20
  go_wp2_with fail
  refine (K.out _).mono ?_
  rintro e1 w1 ⟨rfl, hb1⟩
  go_wp2_with fail
  go_quiet (fail)
  go_wp2_with fail
  refine bodyPost_ret (v := .tuple #[.int .i64 (l : Int), .int .i64 (k : Int), .int .i64 0]) (by simp [results, Try.results20, go_sem]) rfl (Ret.mk rfl (by first | exact (hb1.alloc _).drewN _ | exact hb1.drewN _ | exact (hb1.alloc _).drew))
end Go.Proofs.Ytagjhkknefiieaa


namespace Go.Proofs.Ytagjhkknefiieaa
open Go.RowKit
set_option linter.unusedVariables false

theorem T.plain_of {t : T} {d : Nat} (h : t.right d = true) : t.plain = true := by
  rw [T.right_eq, Bool.and_eq_true] at h; exact h.2
theorem bytes_same {a b : T} (ha : a.plain = true) (hb : b.plain = true) (oa : a.ok) (ob : b.ok) (h : a.bytes = b.bytes) : a.same b = true := (T.bytes_inj a b ha hb oa ob [] [] (by rw [h])).1

def isPrev (s : List UInt8) (e : EV) : Prop := e.ok = true ∧ (eidT e).bytes = s
def isAge (s : List UInt8) (n : Nat) : Prop := n ≤ 1099511627776 ∧ headL 0 n = s
def isHops (s : List UInt8) (h : Nat × Nat) : Prop := mayB h.1 h.2 = true ∧ 130 :: (headL 0 h.1 ++ headL 0 h.2) = s

open Classical in
noncomputable def theO {α : Type} (P : α → Prop) : Option α := if h : ∃ e, P e then some h.choose else none
theorem theO_some {α : Type} {P : α → Prop} (u : ∀ x y, P x → P y → x = y) {x : α} (h : P x) : theO P = some x := by
  unfold theO
  have hx : ∃ e, P e := ⟨x, h⟩
  rw [dif_pos hx, u _ _ hx.choose_spec h]
theorem theO_none {α : Type} {P : α → Prop} (h : ∀ x, ¬ P x) : theO P = none := by
  unfold theO
  rw [dif_neg (by rintro ⟨x, hx⟩; exact h x hx)]
noncomputable def prevO (s : List UInt8) : Option EV := theO (isPrev s)
noncomputable def ageO (s : List UInt8) : Option Nat := theO (isAge s)
noncomputable def hopsO (s : List UInt8) : Option (Nat × Nat) := theO (isHops s)
def PTree (l : List UInt8) : Prop := (parseR l).2 = 0 → ∃ t : T, t.right 8 = true ∧ t.ok ∧ t.bytes = l

/-- Of a right tree the name that it may be. -/
theorem prev_tree {t : T} (hr : t.right 8 = true) (hok : t.ok) {e : EV} (h : isPrev t.bytes e) : readE t = e ∧ ofB t = true := by
  obtain ⟨g1, g2, g3, g4⟩ := eidT_ok h.1
  have p := T.plain_of hr
  have s1 := bytes_same g3 p g1 hok h.2
  have s2 := bytes_same p g3 hok g1 h.2.symm
  have e1 := readE_same h.1 s1
  refine ⟨e1, ?_⟩
  unfold ofB
  rw [e1, h.1, hr, s2]; rfl
theorem tree_prev {t : T} (hr : t.right 8 = true) (hok : t.ok) (h : ofB t = true) : isPrev t.bytes (readE t) := by
  unfold ofB at h
  rw [hr] at h
  simp only [Bool.and_eq_true, Bool.true_and] at h
  obtain ⟨g1, g2, g3, g4⟩ := eidT_ok h.1
  exact ⟨h.1, (T.same_bytes t _ g1 h.2).symm⟩
theorem isPrev_inj {s : List UInt8} (x y : EV) (hx : isPrev s x) (hy : isPrev s y) : x = y := by
  obtain ⟨g1, g2, g3, g4⟩ := eidT_ok hx.1
  have h1 := readE_same hx.1 (T.same_refl (eidT x))
  have h2 : isPrev (eidT x).bytes y := by rw [hx.2]; exact hy
  rw [← h1, (prev_tree (g2 8 (by omega)) g1 h2).1]
theorem prevO_bad {s : List UInt8} (h : (parseR s).2 ≠ 0) : prevO s = none := theO_none fun e he => h (by
  obtain ⟨g1, g2, g3, g4⟩ := eidT_ok he.1
  rw [← he.2, parse_back (g2 8 (by omega)) g1])
theorem prevO_tree {t : T} (hr : t.right 8 = true) (hok : t.ok) : prevO t.bytes = if ofB t then some (readE t) else none := by
  by_cases h : ofB t = true
  · rw [if_pos h]; exact theO_some isPrev_inj (tree_prev hr hok h)
  · rw [if_neg h]; exact theO_none fun e he => h (prev_tree hr hok he).2

theorem isAge_inj {s : List UInt8} (x y : Nat) (hx : isAge s x) (hy : isAge s y) : x = y := by
  have e : (numT x).bytes = (numT y).bytes := by rw [(numT_facts x).2.2, (numT_facts y).2.2, hx.2, hy.2]
  have := bytes_same (numT_plain x).1 (numT_plain y).1 (num_ok (by have := hx.1; omega)) (num_ok (by have := hy.1; omega)) e
  exact (same_mk this).2.1.symm
theorem ageO_bad {s : List UInt8} (h : (parseR s).2 ≠ 0) : ageO s = none := theO_none fun n hn => h (by
  rw [← hn.2, ← (numT_facts n).2.2, parse_back (numT_facts n).2.1 (num_ok (by have := hn.1; omega))])
def ageB (t : T) : Bool := decide (t.kind = 0) && decide (t.n ≤ 1099511627776)
theorem ageO_tree {t : T} (hr : t.right 8 = true) (hok : t.ok) : ageO t.bytes = if ageB t then some t.n else none := by
  have p := T.plain_of hr
  by_cases h : ageB t = true
  · rw [if_pos h]
    simp only [ageB, Bool.and_eq_true, decide_eq_true_eq] at h
    refine theO_some isAge_inj ⟨h.2, ?_⟩
    cases t with
    | nil => exact absurd hok T.not_nil
    | mk kind n s op k ch =>
      have hk : kind = 0 := h.1
      subst hk
      rfl
  · rw [if_neg h]
    refine theO_none fun n hn => h ?_
    have := bytes_same (numT_plain n).1 p (num_ok (by have := hn.1; omega)) hok (by rw [(numT_facts n).2.2, hn.2])
    have g := same_mk this
    simp only [ageB, Bool.and_eq_true, decide_eq_true_eq]
    exact ⟨g.1, by rw [g.2.1]; exact hn.1⟩

theorem may_le {h : Nat × Nat} (hm : mayB h.1 h.2 = true) : h.1 ≤ 255 ∧ h.2 ≤ 255 := by simp [mayB] at hm; omega
theorem isHops_inj {s : List UInt8} (x y : Nat × Nat) (hx : isHops s x) (hy : isHops s y) : x = y := by
  have bx := may_le hx.1
  have by_ := may_le hy.1
  have fx := pairT2_facts x.1 x.2 (by omega) (by omega)
  have fy := pairT2_facts y.1 y.2 (by omega) (by omega)
  have e : (pairT2 x.1 x.2).bytes = (pairT2 y.1 y.2).bytes := by rw [fx.2.2.2, fy.2.2.2, hx.2, hy.2]
  have := same_mk (bytes_same (pairT2_plain x.1 x.2).1 (pairT2_plain y.1 y.2).1 fx.1 fy.1 e)
  have a := same_mk (this.2.2.2.2.2 0 (by omega))
  have b : (numT x.2).same (numT y.2) = true := this.2.2.2.2.2 1 (by omega)
  have b := same_mk b
  exact Prod.ext a.2.1.symm b.2.1.symm
theorem hopsO_bad {s : List UInt8} (h : (parseR s).2 ≠ 0) : hopsO s = none := theO_none fun n hn => h (by
  have b := may_le hn.1
  have f := pairT2_facts n.1 n.2 (by omega) (by omega)
  rw [← hn.2, ← f.2.2.2, parse_back f.2.2.1 f.1])
def hopsB (t : T) : Bool := decide (t.kind = 4) && !t.op && decide (t.k = 2) && decide ((t.ch 0).kind = 0) && decide ((t.ch 1).kind = 0) && mayB (t.ch 0).n (t.ch 1).n
theorem hopsO_tree {t : T} (hr : t.right 8 = true) (hok : t.ok) : hopsO t.bytes = if hopsB t then some ((t.ch 0).n, (t.ch 1).n) else none := by
  have p := T.plain_of hr
  by_cases h : hopsB t = true
  · rw [if_pos h]
    simp only [hopsB, Bool.and_eq_true, decide_eq_true_eq, Bool.not_eq_true'] at h
    obtain ⟨⟨⟨⟨⟨h1, h2⟩, h3⟩, h4⟩, h5⟩, h6⟩ := h
    refine theO_some isHops_inj ⟨h6, ?_⟩
    cases t with
    | nil => exact absurd hok T.not_nil
    | mk kind n s op k ch =>
      have hk : kind = 4 := h1
      have ho : op = false := h2
      have hk2 : k = 2 := h3
      subst hk ho hk2
      have h4 : (ch 0).kind = 0 := h4
      have h5 : (ch 1).kind = 0 := h5
      have c0 : (ch 0).bytes = headL 0 (ch 0).n := by
        have : (ch 0).ok := hok.2.2.2.2 0 (by omega)
        revert this h4
        cases ch 0 with
        | nil => exact fun _ h => absurd h T.not_nil
        | mk kind n s op k ch => intro h4 _; have hk : kind = 0 := h4; subst hk; rfl
      have c1 : (ch 1).bytes = headL 0 (ch 1).n := by
        have : (ch 1).ok := hok.2.2.2.2 1 (by omega)
        revert this h5
        cases ch 1 with
        | nil => exact fun _ h => absurd h T.not_nil
        | mk kind n s op k ch => intro h4 _; have hk : kind = 0 := h4; subst hk; rfl
      show 130 :: (headL 0 (ch 0).n ++ headL 0 (ch 1).n) = _
      rw [← c0, ← c1]
      simp [T.bytes, T.cat, headL]
      rfl
  · rw [if_neg h]
    refine theO_none fun n hn => h ?_
    have b := may_le hn.1
    have f := pairT2_facts n.1 n.2 (by omega) (by omega)
    have g := same_mk (bytes_same (pairT2_plain n.1 n.2).1 p f.1 hok (f.2.2.2.trans hn.2))
    have a := same_mk (g.2.2.2.2.2 0 (by omega))
    have b : (numT n.2).same (t.ch 1) = true := g.2.2.2.2.2 1 (by omega)
    have b := same_mk b
    have hm := hn.1
    rw [← a.2.1, ← b.2.1] at hm
    simp only [hopsB, Bool.and_eq_true, decide_eq_true_eq, Bool.not_eq_true']
    exact ⟨⟨⟨⟨⟨g.1, g.2.2.2.1⟩, g.2.2.2.2.1⟩, a.1⟩, b.1⟩, hm⟩
end Go.Proofs.Ytagjhkknefiieaa


namespace Go.Proofs.Ytagjhkknefiieaa
open Go.RowKit
set_option linter.unusedVariables false

def IMade (t : T) (w : World) (e : Ending) (w' : World) : Prop := ∃ A c, e = .returned (itemV t A c) ∧ Ext w w' ∧ IsL w' (fun b => w.heap.size ≤ b) t A

theorem T.right_plain {t : T} {d : Nat} (h : t.right d = true) : t.plain = true := by
  rw [T.right_eq, Bool.and_eq_true] at h; exact h.2
theorem T.right_up (t : T) : ∀ d, t.right d = true → t.right (d + 1) = true := by
  induction t with
  | nil => intro d h; exact h
  | mk kind n s op k ch ih =>
    intro d h
    unfold T.right at h ⊢
    by_cases h0 : d < 1
    · rw [if_pos h0] at h; cases h
    · rw [if_neg h0, Bool.and_eq_true, T.all_iff] at h
      rw [if_neg (by omega), Bool.and_eq_true, T.all_iff]
      exact ⟨h.1, fun i hi => by have := ih i (d - 1) (h.2 i hi); rw [show d + 1 - 1 = d - 1 + 1 by omega]; exact this⟩
/-- An array's bytes, up to its i-th item. -/
def upto (op : Bool) (k : Nat) (ch : Nat → T) (i : Nat) : List UInt8 := (if op then [159] else headL 4 k) ++ T.cat (fun j => (ch j).bytes) i
def arrB (op : Bool) (k : Nat) (ch : Nat → T) : List UInt8 := (T.mk 4 0 [] op k ch).bytes
theorem arr_upto {op : Bool} {k : Nat} {ch : Nat → T} {i : Nat} (hi : i ≤ k) : ∃ r, arrB op k ch = upto op k ch i ++ r ∧ (i = k → r = if op then [255] else []) := by
  obtain ⟨r, hr⟩ := cat_split (fun i => (ch i).bytes) hi
  have e : arrB op k ch = (if op then [159] else headL 4 k) ++ (T.cat (fun j => (ch j).bytes) k ++ (if op then [255] else [])) := rfl
  refine ⟨r ++ (if op then [255] else []), ?_, ?_⟩
  · rw [e, hr]; unfold upto; simp only [List.append_assoc]
  · rintro rfl
    have : r = [] := by
      have := congrArg List.length hr
      rw [List.length_append] at this
      exact List.eq_nil_of_length_eq_zero (by omega)
    rw [this]; rfl
theorem upto_succ (op : Bool) (k : Nat) (ch : Nat → T) (i : Nat) : upto op k ch (i + 1) = upto op k ch i ++ (ch i).bytes := by
  unfold upto; rw [T.cat, List.append_assoc]
theorem arr_drop {op : Bool} {k : Nat} {ch : Nat → T} {i : Nat} (hi : i < k) : (arrB op k ch).drop (upto op k ch i).length = (ch i).bytes ++ (arrB op k ch).drop (upto op k ch (i + 1)).length := by
  obtain ⟨r, hr, _⟩ := arr_upto (op := op) (ch := ch) (show i + 1 ≤ k from hi)
  rw [hr, List.drop_left, upto_succ, List.append_assoc, List.drop_left]
theorem arr_le {op : Bool} {k : Nat} {ch : Nat → T} {i : Nat} (hi : i ≤ k) : (upto op k ch i).length + (if op then 1 else 0) ≤ (arrB op k ch).length := by
  obtain ⟨r, hr, _⟩ := arr_upto (op := op) (ch := ch) hi
  obtain ⟨r2, hr2, h2⟩ := arr_upto (op := op) (ch := ch) (Nat.le_refl k)
  have h2 := h2 rfl
  have hl : (upto op k ch i).length ≤ (upto op k ch k).length := by
    obtain ⟨r, hr⟩ := cat_split (fun i => (ch i).bytes) hi
    unfold upto; rw [hr]; simp
  rw [hr2, List.length_append, h2]
  cases op <;> simp <;> omega
theorem arr_full {op : Bool} {k : Nat} {ch : Nat → T} : (upto op k ch k).length + (if op then 1 else 0) = (arrB op k ch).length := by
  obtain ⟨r2, hr2, h2⟩ := arr_upto (op := op) (ch := ch) (Nat.le_refl k)
  rw [hr2, List.length_append, h2 rfl]
  cases op <;> simp

set_option maxRecDepth 20000 in
set_option maxHeartbeats 800000 in
theorem r13_num (l : List UInt8) (sz n : Nat) (o : Bool) (hr : readH l = some (sz, 0, n, o)) (w : World) : Calls Try.prog 43 #[str l] w (Ret (itemV (numT n) none 0) w) := by
  have K := hid (fun W => read_any l W)
  rw [hr] at K
  have HE := hid ((Mod.refl [] w).alloc (.cells (itemC nulT none 0) 63))
  have HQ := hid (Blk.new w 63 (itemC nulT none 0))
  clear hr
  go_enter Try.func43, Try.ntmps43
  go_wp2_with fail
  refine (K.out _).mono ?_
  rintro e1 w1 ⟨rfl, hb1⟩
  dsimp only [gotOf, gotV]
  have HE1 := hid ((HE.out.trans hb1).alloc (.cells #[.int .i64 (sz : Int), .int .i64 0, .int .u64 (n : Int), .bool o] 85))
  have HQ1 := hid ((HQ.out.ext hb1).alloc (.cells #[.int .i64 (sz : Int), .int .i64 0, .int .u64 (n : Int), .bool o] 85))
  clear hb1
  obtain ⟨c0, c1, c2, c3, c4⟩ := cells5 HQ1.out
  have f0 := HQ1.out.frozen 0
  have f1 := HQ1.out.frozen 1
  have f2 := HQ1.out.frozen 2
  have f3 := HQ1.out.frozen 3
  have f4 := HQ1.out.frozen 4
  go_wp2_with fail
  obtain ⟨d0, d1, d2, d3, d4⟩ := cells5 (set5_blk (t := numT n) (A := none) (c := 0) HQ1.out)
  clear c0 c1 c2 c3 c4 f0 f1 f2 f3 f4
  show bodyPost _ _ _ _ _ (set5 (w1.alloc (.cells #[.int .i64 (sz : Int), .int .i64 0, .int .u64 (n : Int), .bool o] 85)) w.heap.size (numT n) none 0)
  refine bodyPost_ret (v := itemV (numT n) none 0) (by simp [results, Try.results43, go_sem, d0, d1, d2, d3, d4]) rfl (Ret.mk rfl (set5_mod HE1.out (Nat.le_refl _)))
set_option maxRecDepth 20000 in
set_option maxHeartbeats 800000 in
theorem r13_str (l : List UInt8) (hl : l.length ≤ 1073741824) (sz m n : Nat) (o : Bool) (hm : m = 2 ∨ m = 3) (hr : readH l = some (sz, m, n, o)) (w : World) : Calls Try.prog 43 #[str l] w (Ret (itemV (sT m (l.drop sz)) none 0) w) := by
  have K := hid (fun W => read_any l W)
  rw [hr] at K
  have s1 : (sz : Int) ≤ (l.length : Int) := by have := (readH_some hr).le; omega
  have s0 : (0 : Int) ≤ (sz : Int) := by omega
  have l1 : (l.length : Int) ≤ 1073741824 := by omega
  have m0 : ((m : Int) == 0) = false := by simp; omega
  have m1 : ((m : Int) = 0) = False := by simp; omega
  have m4 : decide ((m : Int) < 4) = true := by simp; omega
  have m5 : ((m : Int) < 4) = True := by simp; omega
  have HE := hid ((Mod.refl [] w).alloc (.cells (itemC nulT none 0) 63))
  have HQ := hid (Blk.new w 63 (itemC nulT none 0))
  clear hr hm hl
  go_enter Try.func43, Try.ntmps43
  go_wp2_with fail
  refine (K.out _).mono ?_
  rintro e1 w1 ⟨rfl, hb1⟩
  dsimp only [gotOf, gotV]
  have HE1 := hid ((HE.out.trans hb1).alloc (.cells #[.int .i64 (sz : Int), .int .i64 (m : Int), .int .u64 (n : Int), .bool o] 85))
  have HQ1 := hid ((HQ.out.ext hb1).alloc (.cells #[.int .i64 (sz : Int), .int .i64 (m : Int), .int .u64 (n : Int), .bool o] 85))
  clear hb1
  obtain ⟨c0, c1, c2, c3, c4⟩ := cells5 HQ1.out
  have f0 := HQ1.out.frozen 0
  have f1 := HQ1.out.frozen 1
  have f2 := HQ1.out.frozen 2
  have f3 := HQ1.out.frozen 3
  have f4 := HQ1.out.frozen 4
  go_wp2_with fail
  go_region
  rw [extract_rest]
  go_wp2_with fail
  obtain ⟨d0, d1, d2, d3, d4⟩ := cells5 (set5_blk (t := sT m (l.drop sz)) (A := none) (c := 0) HQ1.out).drew
  clear c0 c1 c2 c3 c4 f0 f1 f2 f3 f4
  show bodyPost _ _ _ _ _ (set5 (w1.alloc (.cells #[.int .i64 (sz : Int), .int .i64 (m : Int), .int .u64 (n : Int), .bool o] 85)) w.heap.size (sT m (l.drop sz)) none 0).drew
  refine bodyPost_ret (v := itemV (sT m (l.drop sz)) none 0) (by simp [results, Try.results43, go_sem, d0, d1, d2, d3, d4]) rfl (Ret.mk rfl (set5_mod HE1.out (Nat.le_refl _)).drew)
set_option maxRecDepth 20000 in
set_option maxHeartbeats 1600000 in
theorem r13_arr_false (k : Nat) (ch : Nat → T) (ht : (T.mk 4 0 [] false k ch).right 8 = true) (hok : (T.mk 4 0 [] false k ch).ok) (hl : (arrB false k ch).length ≤ 1073741824)
    (IH : ∀ i, i < k → ∀ w, Calls Try.prog 43 #[str (ch i).bytes] w (IMade (ch i) w)) (w : World) : Calls Try.prog 43 #[str (arrB false k ch)] w (IMade (T.mk 4 0 [] false k ch) w) := by
  have hk1 : k ≤ 1000 ∧ ∀ i, i < k → (ch i).right 8 = true := by
    unfold T.right at ht
    rw [if_neg (by decide), Bool.and_eq_true, T.all_iff] at ht
    refine ⟨by have := ht.1; unfold T.node at this; simpa using this, fun i hi => T.right_up _ 7 (ht.2 i hi)⟩
  have hok1 : ∀ i, i < k → (ch i).ok := hok.2.2.2.2
  have hrH : readH (arrB false k ch) = some ((headL 4 k).length, 4, k, false) := by
    have := T.readH_bytes _ (T.right_plain ht) hok []
    rw [List.append_nil] at this
    exact this
  obtain ⟨P, hP⟩ : ∃ P : Nat → Nat, P = fun i => (upto false k ch i).length := ⟨_, rfl⟩
  have HN : Hid (∀ i, i < k → P i ≤ P (i + 1) ∧ flt 8 ((arrB false k ch).drop (P i)) = (P (i + 1) - P i, 0) ∧ ((arrB false k ch).drop (P i)).take (P (i + 1) - P i) = (ch i).bytes ∧ P (i + 1) ≤ (arrB false k ch).length ∧ P i < (arrB false k ch).length - 1 + 1) := fun i hi => by
    have e := arr_drop (op := false) (ch := ch) hi
    have u := upto_succ false k ch i
    have le := arr_le (op := false) (ch := ch) (show i + 1 ≤ k from hi)
    have hb : 0 < (ch i).bytes.length := by
      cases hc : (ch i).bytes with
      | nil =>
        have := T.readH_bytes _ (T.right_plain (hk1.2 i hi)) (hok1 i hi) []
        rw [hc] at this; simp [readH] at this
      | cons _ _ => simp
    have hp : P (i + 1) = P i + (ch i).bytes.length := by rw [hP]; dsimp only; rw [u, List.length_append]
    have hp2 : (upto false k ch i).length = P i := by rw [hP]
    have hp3 : (upto false k ch (i + 1)).length = P (i + 1) := by rw [hP]
    rw [hp2, hp3] at e
    rw [hp3] at le
    have hd : P (i + 1) - P i = (ch i).bytes.length := by omega
    refine ⟨by omega, ?_, ?_, by omega, ?_⟩
    · rw [e, hd]; exact flt_bytes (ch i) 8 (hk1.2 i hi) (hok1 i hi) _
    · rw [e, hd, List.take_left]
    · revert le; simp; omega
  have h0 : P 0 = (headL 4 k).length := by rw [hP]; simp [upto, T.cat]
  have HK : Hid (P k + 0 = (arrB false k ch).length) := by unfold Hid; rw [hP]; have := arr_full (op := false) (k := k) (ch := ch); simpa using this
  have HI : Hid (k ≤ 1000) := hk1.1
  have HIH : Hid (∀ i, i < k → ∀ w, Calls Try.prog 43 #[str (ch i).bytes] w (IMade (ch i) w)) := IH
  obtain ⟨sz, hsz⟩ : ∃ sz, sz = (headL 4 k).length := ⟨_, rfl⟩
  rw [← hsz] at h0 hrH
  have HRT := hid ht
  clear ht hok hk1 hok1 hP IH hsz
  generalize arrB false k ch = l at *
  have K := hid (fun W => read_any l W)
  have KF := hid (fun q (hq : q ≤ l.length) W => fault_any l hl 8 (by omega) q hq W)
  rw [hrH] at K
  have l1 : (l.length : Int) ≤ 1073741824 := by omega
  have HL := hid hl
  have HE := hid ((Mod.refl [] w).alloc (.cells (itemC nulT none 0) 63))
  have HQ := hid (Blk.new w 63 (itemC nulT none 0))
  have H0 := hid h0
  clear hrH hl h0
  go_enter Try.func43, Try.ntmps43
  go_wp2_with fail
  refine (K.out _).mono ?_
  rintro e1 w1 ⟨rfl, hb1⟩
  dsimp only [gotOf, gotV]
  (try simp only [show ((4 : Nat) : Int) = 4 from rfl])
  (try simp only [show ((0 : Nat) : Int) = 0 from rfl])
  have HE2 := hid (((HE.out.trans hb1).alloc (.cells #[.int .i64 (sz : Int), .int .i64 4, .int .u64 ((k : Int)), .bool false] 85)).alloc (.cells #[.int .i64 4, .int .u64 0, str [], .slice none 0 0, .bool false] 63))
  have HQ2 := hid (((HQ.out.ext hb1).alloc (.cells #[.int .i64 (sz : Int), .int .i64 4, .int .u64 ((k : Int)), .bool false] 85)).alloc (.cells #[.int .i64 4, .int .u64 0, str [], .slice none 0 0, .bool false] 63))
  have HG2 := hid ((Blk.new w1 85 #[.int .i64 (sz : Int), .int .i64 4, .int .u64 ((k : Int)), .bool false]).alloc (.cells #[.int .i64 4, .int .u64 0, str [], .slice none 0 0, .bool false] 63))
  have HX2 := hid (Blk.new' (w1.alloc (.cells #[.int .i64 (sz : Int), .int .i64 4, .int .u64 ((k : Int)), .bool false] 85)) 63 #[.int .i64 4, .int .u64 0, str [], .slice none 0 0, .bool false] (N := w1.heap.size + 1) (by simp))
  have hw1 : w.heap.size < w1.heap.size := by have := hb1.size; simp at this; omega
  have HW1 := hid hw1
  have HGL2 := hid (GL.nil (fun b => w1.heap.size + 2 ≤ b) (N := w1.heap.size + 2) (wr := (w1.alloc (.cells #[.int .i64 (sz : Int), .int .i64 4, .int .u64 ((k : Int)), .bool false] 85)).alloc (.cells #[.int .i64 4, .int .u64 0, str [], .slice none 0 0, .bool false] 63)) (by simp) ch (fun _ => (none, 0)))
  clear hb1 hw1 HE HQ
  go_wp2_with fail
  generalize w1.heap.size = G at *
  go_loopw [5, 6] (fun s5 s6 wr => ∃ (i : Nat) (A : Option Addr) (c : Nat) (ac : Nat → Option Addr × Nat), s5 = .int .i64 ((P i : Nat) : Int) ∧ s6 = .int .u64 (i : Int) ∧ Hid (i ≤ k) ∧ Hid (Ext w wr ∧ Blk wr w.heap.size 63 (itemC nulT none 0) ∧ Blk wr G 85 #[.int .i64 (sz : Int), .int .i64 4, .int .u64 ((k : Int)), .bool false] ∧ Blk wr (G + 1) 63 #[.int .i64 4, .int .u64 0, str [], .slice A i c, .bool false] ∧ GL (fun b => G + 2 ≤ b) (G + 2) wr i A c ch ac)) (fun _ s6 _ => k - (intOf s6).toNat)
  case atStart => exact ⟨0, none, 0, _, by rw [H0.out], rfl, (show Hid _ from Nat.zero_le _), (show Hid _ from ⟨HE2.out, HQ2.out, HG2.out, HX2.out, HGL2.out⟩)⟩
  case round =>
    clear HE2 HQ2 HG2 HX2 HGL2 H0
    obtain ⟨i, A, c, ac, rfl, rfl, hi, hW⟩ := hrel
    have g0 : wr.cell? ⟨G, 0, none⟩ = some (.int .i64 (sz : Int)) := hW.out.2.2.1.cell 0
    have g2 : wr.cell? ⟨G, 2, none⟩ = some (.int .u64 ((k : Int))) := hW.out.2.2.1.cell 2
    have g3 : wr.cell? ⟨G, 3, none⟩ = some (.bool false) := hW.out.2.2.1.cell 3
    have i0 : (0 : Int) ≤ (i : Int) := by omega
    have i1 : (i : Int) ≤ 1000 := by have := hi.out; have := HI.out; omega
    by_cases hlt : i < k
    · have tc : decide (i < k) = true := by simp [hlt]
      have q0 : (0 : Int) ≤ ((P i : Nat) : Int) := by omega
      have q1 : ((P i : Nat) : Int) ≤ ((P (i + 1) : Nat) : Int) := by have := (HN.out i hlt).1; omega
      have q2 : ((P (i + 1) : Nat) : Int) ≤ (l.length : Int) := by have := (HN.out i hlt).2.2.2.1; omega
      have HLT := hid hlt
      have hFV : faultV (P i) (flt 8 (l.drop (P i))) = .tuple #[.int .i64 ((P (i + 1) : Nat) : Int), .int .i64 0] := by
        rw [(HN.out i hlt).2.1, faultV]
        have := (HN.out i hlt).1
        simp only [show P i + (P (i + 1) - P i) = P (i + 1) by omega]
      have HFV := hid hFV
      clear hlt hFV
      go_wp2_with fail
      refine (KF.out (P i) (by omega) _).mono ?_
      rintro x w3 ⟨rfl, hb3⟩
      rw [HFV.out]
      have HW3 := hid (show Ext w w3 ∧ Blk w3 w.heap.size 63 (itemC nulT none 0) ∧ Blk w3 G 85 #[.int .i64 (sz : Int), .int .i64 4, .int .u64 ((k : Int)), .bool false] ∧ Blk w3 (G + 1) 63 #[.int .i64 4, .int .u64 0, str [], .slice A i c, .bool false] ∧ GL (fun b => G + 2 ≤ b) (G + 2) w3 i A c ch ac from ⟨hW.out.1.trans hb3, hW.out.2.1.ext hb3, hW.out.2.2.1.ext hb3, hW.out.2.2.2.1.ext hb3, hW.out.2.2.2.2.ext hb3⟩)
      have HB3 := hid hb3
      clear hb3 g0 g2 g3 hW
      have x3 : w3.cell? ⟨G + 1, 3, none⟩ = some (.slice A i c) := HW3.out.2.2.2.1.cell 3
      have y3 : w3.frozen? ⟨G + 1, 3, none⟩ = false := HW3.out.2.2.2.1.frozen 3
      have HKI := hid (HIH.out i HLT.out)
      have HS : Hid ((l.drop (P i)).take (P (i + 1) - P i) = (ch i).bytes) := (HN.out i HLT.out).2.2.1
      obtain ⟨i0', hi0, hz0, hz1, hz2⟩ := info_parts infoItem
      go_upto_region 12 with fail
      go_region_law (first
        | (refine step_append_lies _ rfl (.tmp 61) (.tmp 67) 61 rfl (G + 2) 63 i0' _ 5 64 Try.underlying61 hi0 hz0 hz1 hz2 rfl (by decide) (.slice A i c) i _ (by simp [Act.eval]) ho2 ⟨w2.heap.size, 0, none⟩ 1 1 [Value.int .i64 (ch i).kind, .int .u64 ((ch i).n : Int), str (ch i).s, .slice Ac (ch i).k cc, .bool (ch i).op] (by simp [Act.eval]) rfl (news5 w2 (ch i) Ac cc) (one5 (ch i) Ac cc) (by decide) (by have := HI.out; have := HLT.out; unfold maxLen; omega) (by have := HI.out; have := HLT.out; omega) (by have := HW3.out.2.2.2.2.room hm; simp; omega) (w2.heap.size + 1) (by simp) ?_; intro g' c' w4 hown' hgr hbl hgl; have hx4 := HW3.out.2.2.2.2.keep hm hgr HW3.out.2.2.2.1 (by omega); have x4 : w4.cell? ⟨G + 1, 3, none⟩ = some (.slice A i c) := hx4.cell 3; have xf : w4.frozen? ⟨G + 1, 3, none⟩ = false := hx4.frozen 3)
        | (go_simp; go_at_call 43; rw [extract_str, HS.out]; refine (HKI.out _).mono ?_; rintro x w2 ⟨Ac, cc, rfl, hm2, hs2⟩; have hm : Ext w3 w2 := (by first | exact hm2 | exact (Mod.refl _ _).drew.trans hm2); have ho2 := HW3.out.2.2.2.2.own2 hm (.cells (itemC (ch i) Ac cc) 63); have z3 : w2.cell? ⟨G + 1, 3, none⟩ = some (.slice A i c) := (HW3.out.2.2.2.1.ext hm).cell 3; have zf : w2.frozen? ⟨G + 1, 3, none⟩ = false := (HW3.out.2.2.2.1.ext hm).frozen 3; have z4 : (w2.alloc (.cells #[Value.int .i64 (ch i).kind, .int .u64 ((ch i).n : Int), str (ch i).s, .slice Ac (ch i).k cc, .bool (ch i).op] 63)).cell? ⟨G + 1, 3, none⟩ = some (.slice A i c) := ((HW3.out.2.2.2.1.ext hm).alloc _).cell 3; have hne : ¬ G + 1 = w2.heap.size := (by have := HW3.out.2.2.2.2.room hm; omega)))
      all_goals go_wp2_with fail
      all_goals have hblk : (Value.slice (some ⟨g', 0, none⟩) (i + 1) c').ownBlock = (Value.slice A i c).ownBlock ∨ ∀ k, (Value.slice (some ⟨g', 0, none⟩) (i + 1) c').ownBlock = some k → w2.heap.size ≤ k := hbl.elim (fun h => .inl h.symm) (fun h => .inr fun k hk => by simp [Value.ownBlock] at hk; omega)
      all_goals obtain ⟨g2, c2, e1, hL⟩ := HW3.out.2.2.2.2.step hm (IsL.weak (fun b hb hq => ⟨by have := HW3.out.2.2.2.2.nx; have hq2 : w3.heap.size ≤ b := hq; omega, .inr hq⟩) (ch i) hs2) hown' hgr hblk
      all_goals simp only [Value.slice.injEq, Option.some.injEq, Addr.mk.injEq, true_and, and_true] at e1
      all_goals obtain ⟨rfl, rfl⟩ := e1
      all_goals rw [putT_self] at hL
      all_goals have hwG : w.heap.size < G := HW1.out
      all_goals have k1 := (HW3.out.2.2.2.2.keep hm hgr HW3.out.2.1 (by omega)).far (p := ⟨G + 1, 3, none⟩) (by simp; omega) (.slice (some ⟨g', 0, none⟩) (i + 1) c')
      all_goals have k2 := (HW3.out.2.2.2.2.keep hm hgr HW3.out.2.2.1 (by omega)).far (p := ⟨G + 1, 3, none⟩) (by simp) (.slice (some ⟨g', 0, none⟩) (i + 1) c')
      all_goals have k3 := hx4.set_ 3 (.slice (some ⟨g', 0, none⟩) (i + 1) c')
      all_goals have k4 := (HW3.out.2.2.2.2.since HW3.out.1 (by omega) hm hgr).setCell (p := ⟨G + 1, 3, none⟩) (.inr (by show w.heap.size ≤ G + 1; omega)) (.slice (some ⟨g', 0, none⟩) (i + 1) c')
      all_goals have k5 := hL.mod ((Mod.refl [G + 1] w4).setCell (p := ⟨G + 1, 3, none⟩) (.inl (by simp)) (.slice (some ⟨g', 0, none⟩) (i + 1) c')) (fun k hk => by rw [List.mem_singleton] at hk; subst hk; exact ⟨by omega, by omega⟩)
      all_goals have hlt := HLT.out

      all_goals go_roundw
      all_goals first | (simp only [intOf]; omega) | exact ⟨i + 1, some ⟨g', 0, none⟩, c', _, rfl, by simp, (show Hid _ from hlt), (show Hid _ from ⟨k4, k1, k2, by simpa using k3, k5⟩)⟩
    · obtain rfl : i = k := by have := hi.out; omega
      have tc : decide (i < i) = false := by simp
      have HX := hid hW.out.2.2.2.1
      have HB := hid hW.out.2.1
      have HEW := hid hW.out.1
      have HGW := hid hW.out.2.2.2.2
      have x0 : wr.cell? ⟨G + 1, 0, none⟩ = some (.int .i64 4) := HX.out.cell 0
      have x1 : wr.cell? ⟨G + 1, 1, none⟩ = some (.int .u64 0) := HX.out.cell 1
      have x2 : wr.cell? ⟨G + 1, 2, none⟩ = some (str []) := HX.out.cell 2
      have x3 : wr.cell? ⟨G + 1, 3, none⟩ = some (.slice A i c) := HX.out.cell 3
      have x4 : wr.cell? ⟨G + 1, 4, none⟩ = some (.bool false) := HX.out.cell 4
      obtain ⟨c0, c1, c2, c3, c4⟩ := cells5 HB.out
      have f0 := HB.out.frozen 0
      have f1 := HB.out.frozen 1
      have f2 := HB.out.frozen 2
      have f3 := HB.out.frozen 3
      have f4 := HB.out.frozen 4
      clear hW
      go_wp2_with fail
      obtain ⟨d0, d1, d2, d3, d4⟩ := cells5 (set5_blk (t := T.mk 4 0 [] false i ch) (A := A) (c := c) HB.out)
      clear c0 c1 c2 c3 c4 f0 f1 f2 f3 f4 x0 x1 x2 x3 x4 g0 g2 g3
      show bodyPost _ _ _ _ _ (set5 wr w.heap.size (T.mk 4 0 [] false i ch) A c)
      refine bodyPost_ret (v := itemV (T.mk 4 0 [] false i ch) A c) (by simp [results, Try.results43, go_sem, d0, d1, d2, d3, d4]) rfl ⟨A, c, rfl, set5_mod HEW.out (Nat.le_refl _), ?_⟩
      have := HW1.out
      exact IsL.weak (fun b hb hq => by have hq2 : G + 2 ≤ b := hq; omega) (T.mk 4 0 [] false i ch) (IsL.mod set5_modb (fun b hq hb hm => by rw [List.mem_singleton] at hm; have hq2 : G + 2 ≤ b := hq; omega) (T.mk 4 0 [] false i ch) (HGW.out.isL (Q := fun b => G + 2 ≤ b) (fun b h => h) (fun b h => h) false))
set_option maxRecDepth 20000 in
set_option maxHeartbeats 1600000 in
theorem r13_arr_true (k : Nat) (ch : Nat → T) (ht : (T.mk 4 0 [] true k ch).right 8 = true) (hok : (T.mk 4 0 [] true k ch).ok) (hl : (arrB true k ch).length ≤ 1073741824)
    (IH : ∀ i, i < k → ∀ w, Calls Try.prog 43 #[str (ch i).bytes] w (IMade (ch i) w)) (w : World) : Calls Try.prog 43 #[str (arrB true k ch)] w (IMade (T.mk 4 0 [] true k ch) w) := by
  have hk1 : k ≤ 1000 ∧ ∀ i, i < k → (ch i).right 8 = true := by
    unfold T.right at ht
    rw [if_neg (by decide), Bool.and_eq_true, T.all_iff] at ht
    refine ⟨by have := ht.1; unfold T.node at this; simpa using this, fun i hi => T.right_up _ 7 (ht.2 i hi)⟩
  have hok1 : ∀ i, i < k → (ch i).ok := hok.2.2.2.2
  have hrH : readH (arrB true k ch) = some (1, 4, 0, true) := by
    have := T.readH_bytes _ (T.right_plain ht) hok []
    rw [List.append_nil] at this
    exact this
  obtain ⟨P, hP⟩ : ∃ P : Nat → Nat, P = fun i => (upto true k ch i).length := ⟨_, rfl⟩
  have HN : Hid (∀ i, i < k → P i ≤ P (i + 1) ∧ flt 8 ((arrB true k ch).drop (P i)) = (P (i + 1) - P i, 0) ∧ ((arrB true k ch).drop (P i)).take (P (i + 1) - P i) = (ch i).bytes ∧ P (i + 1) ≤ (arrB true k ch).length ∧ P i < (arrB true k ch).length - 1 + 0) := fun i hi => by
    have e := arr_drop (op := true) (ch := ch) hi
    have u := upto_succ true k ch i
    have le := arr_le (op := true) (ch := ch) (show i + 1 ≤ k from hi)
    have hb : 0 < (ch i).bytes.length := by
      cases hc : (ch i).bytes with
      | nil =>
        have := T.readH_bytes _ (T.right_plain (hk1.2 i hi)) (hok1 i hi) []
        rw [hc] at this; simp [readH] at this
      | cons _ _ => simp
    have hp : P (i + 1) = P i + (ch i).bytes.length := by rw [hP]; dsimp only; rw [u, List.length_append]
    have hp2 : (upto true k ch i).length = P i := by rw [hP]
    have hp3 : (upto true k ch (i + 1)).length = P (i + 1) := by rw [hP]
    rw [hp2, hp3] at e
    rw [hp3] at le
    have hd : P (i + 1) - P i = (ch i).bytes.length := by omega
    refine ⟨by omega, ?_, ?_, by omega, ?_⟩
    · rw [e, hd]; exact flt_bytes (ch i) 8 (hk1.2 i hi) (hok1 i hi) _
    · rw [e, hd, List.take_left]
    · revert le; simp; omega
  have h0 : P 0 = 1 := by rw [hP]; simp [upto, T.cat]
  have HK : Hid (P k + 1 = (arrB true k ch).length) := by unfold Hid; rw [hP]; have := arr_full (op := true) (k := k) (ch := ch); simpa using this
  have HI : Hid (k ≤ 1000) := hk1.1
  have HIH : Hid (∀ i, i < k → ∀ w, Calls Try.prog 43 #[str (ch i).bytes] w (IMade (ch i) w)) := IH
  obtain ⟨sz, hsz⟩ : ∃ sz, sz = 1 := ⟨_, rfl⟩
  rw [← hsz] at h0 hrH
  have HRT := hid ht
  clear ht hok hk1 hok1 hP IH hsz
  generalize arrB true k ch = l at *
  have K := hid (fun W => read_any l W)
  have KF := hid (fun q (hq : q ≤ l.length) W => fault_any l hl 8 (by omega) q hq W)
  rw [hrH] at K
  have l1 : (l.length : Int) ≤ 1073741824 := by omega
  have HL := hid hl
  have HE := hid ((Mod.refl [] w).alloc (.cells (itemC nulT none 0) 63))
  have HQ := hid (Blk.new w 63 (itemC nulT none 0))
  have H0 := hid h0
  clear hrH hl h0
  go_enter Try.func43, Try.ntmps43
  go_wp2_with fail
  refine (K.out _).mono ?_
  rintro e1 w1 ⟨rfl, hb1⟩
  dsimp only [gotOf, gotV]
  (try simp only [show ((4 : Nat) : Int) = 4 from rfl])
  (try simp only [show ((0 : Nat) : Int) = 0 from rfl])
  have HE2 := hid (((HE.out.trans hb1).alloc (.cells #[.int .i64 (sz : Int), .int .i64 4, .int .u64 (0), .bool true] 85)).alloc (.cells #[.int .i64 4, .int .u64 0, str [], .slice none 0 0, .bool true] 63))
  have HQ2 := hid (((HQ.out.ext hb1).alloc (.cells #[.int .i64 (sz : Int), .int .i64 4, .int .u64 (0), .bool true] 85)).alloc (.cells #[.int .i64 4, .int .u64 0, str [], .slice none 0 0, .bool true] 63))
  have HG2 := hid ((Blk.new w1 85 #[.int .i64 (sz : Int), .int .i64 4, .int .u64 (0), .bool true]).alloc (.cells #[.int .i64 4, .int .u64 0, str [], .slice none 0 0, .bool true] 63))
  have HX2 := hid (Blk.new' (w1.alloc (.cells #[.int .i64 (sz : Int), .int .i64 4, .int .u64 (0), .bool true] 85)) 63 #[.int .i64 4, .int .u64 0, str [], .slice none 0 0, .bool true] (N := w1.heap.size + 1) (by simp))
  have hw1 : w.heap.size < w1.heap.size := by have := hb1.size; simp at this; omega
  have HW1 := hid hw1
  have HGL2 := hid (GL.nil (fun b => w1.heap.size + 2 ≤ b) (N := w1.heap.size + 2) (wr := (w1.alloc (.cells #[.int .i64 (sz : Int), .int .i64 4, .int .u64 (0), .bool true] 85)).alloc (.cells #[.int .i64 4, .int .u64 0, str [], .slice none 0 0, .bool true] 63)) (by simp) ch (fun _ => (none, 0)))
  clear hb1 hw1 HE HQ
  go_wp2_with fail
  generalize w1.heap.size = G at *
  go_loopw [5, 6] (fun s5 s6 wr => ∃ (i : Nat) (A : Option Addr) (c : Nat) (ac : Nat → Option Addr × Nat), s5 = .int .i64 ((P i : Nat) : Int) ∧ s6 = .int .u64 (i : Int) ∧ Hid (i ≤ k) ∧ Hid (Ext w wr ∧ Blk wr w.heap.size 63 (itemC nulT none 0) ∧ Blk wr G 85 #[.int .i64 (sz : Int), .int .i64 4, .int .u64 (0), .bool true] ∧ Blk wr (G + 1) 63 #[.int .i64 4, .int .u64 0, str [], .slice A i c, .bool true] ∧ GL (fun b => G + 2 ≤ b) (G + 2) wr i A c ch ac)) (fun _ s6 _ => k - (intOf s6).toNat)
  case atStart => exact ⟨0, none, 0, _, by rw [H0.out], rfl, (show Hid _ from Nat.zero_le _), (show Hid _ from ⟨HE2.out, HQ2.out, HG2.out, HX2.out, HGL2.out⟩)⟩
  case round =>
    clear HE2 HQ2 HG2 HX2 HGL2 H0
    obtain ⟨i, A, c, ac, rfl, rfl, hi, hW⟩ := hrel
    have g0 : wr.cell? ⟨G, 0, none⟩ = some (.int .i64 (sz : Int)) := hW.out.2.2.1.cell 0
    have g2 : wr.cell? ⟨G, 2, none⟩ = some (.int .u64 (0)) := hW.out.2.2.1.cell 2
    have g3 : wr.cell? ⟨G, 3, none⟩ = some (.bool true) := hW.out.2.2.1.cell 3
    have i0 : (0 : Int) ≤ (i : Int) := by omega
    have i1 : (i : Int) ≤ 1000 := by have := hi.out; have := HI.out; omega
    by_cases hlt : i < k
    · have tc : decide (((P i : Nat) : Int) < (l.length : Int) - 1) = true := by have h1 := (HN.out i hlt).1; have h2 := (HN.out i hlt).2.2.2.2; simp; omega
      have q0 : (0 : Int) ≤ ((P i : Nat) : Int) := by omega
      have q1 : ((P i : Nat) : Int) ≤ ((P (i + 1) : Nat) : Int) := by have := (HN.out i hlt).1; omega
      have q2 : ((P (i + 1) : Nat) : Int) ≤ (l.length : Int) := by have := (HN.out i hlt).2.2.2.1; omega
      have HLT := hid hlt
      have hFV : faultV (P i) (flt 8 (l.drop (P i))) = .tuple #[.int .i64 ((P (i + 1) : Nat) : Int), .int .i64 0] := by
        rw [(HN.out i hlt).2.1, faultV]
        have := (HN.out i hlt).1
        simp only [show P i + (P (i + 1) - P i) = P (i + 1) by omega]
      have HFV := hid hFV
      clear hlt hFV
      go_wp2_with fail
      refine (KF.out (P i) (by omega) _).mono ?_
      rintro x w3 ⟨rfl, hb3⟩
      rw [HFV.out]
      have HW3 := hid (show Ext w w3 ∧ Blk w3 w.heap.size 63 (itemC nulT none 0) ∧ Blk w3 G 85 #[.int .i64 (sz : Int), .int .i64 4, .int .u64 (0), .bool true] ∧ Blk w3 (G + 1) 63 #[.int .i64 4, .int .u64 0, str [], .slice A i c, .bool true] ∧ GL (fun b => G + 2 ≤ b) (G + 2) w3 i A c ch ac from ⟨hW.out.1.trans hb3, hW.out.2.1.ext hb3, hW.out.2.2.1.ext hb3, hW.out.2.2.2.1.ext hb3, hW.out.2.2.2.2.ext hb3⟩)
      have HB3 := hid hb3
      clear hb3 g0 g2 g3 hW
      have x3 : w3.cell? ⟨G + 1, 3, none⟩ = some (.slice A i c) := HW3.out.2.2.2.1.cell 3
      have y3 : w3.frozen? ⟨G + 1, 3, none⟩ = false := HW3.out.2.2.2.1.frozen 3
      have HKI := hid (HIH.out i HLT.out)
      have HS : Hid ((l.drop (P i)).take (P (i + 1) - P i) = (ch i).bytes) := (HN.out i HLT.out).2.2.1
      obtain ⟨i0', hi0, hz0, hz1, hz2⟩ := info_parts infoItem
      go_upto_region 12 with fail
      go_region_law (first
        | (refine step_append_lies _ rfl (.tmp 61) (.tmp 67) 61 rfl (G + 2) 63 i0' _ 5 64 Try.underlying61 hi0 hz0 hz1 hz2 rfl (by decide) (.slice A i c) i _ (by simp [Act.eval]) ho2 ⟨w2.heap.size, 0, none⟩ 1 1 [Value.int .i64 (ch i).kind, .int .u64 ((ch i).n : Int), str (ch i).s, .slice Ac (ch i).k cc, .bool (ch i).op] (by simp [Act.eval]) rfl (news5 w2 (ch i) Ac cc) (one5 (ch i) Ac cc) (by decide) (by have := HI.out; have := HLT.out; unfold maxLen; omega) (by have := HI.out; have := HLT.out; omega) (by have := HW3.out.2.2.2.2.room hm; simp; omega) (w2.heap.size + 1) (by simp) ?_; intro g' c' w4 hown' hgr hbl hgl; have hx4 := HW3.out.2.2.2.2.keep hm hgr HW3.out.2.2.2.1 (by omega); have x4 : w4.cell? ⟨G + 1, 3, none⟩ = some (.slice A i c) := hx4.cell 3; have xf : w4.frozen? ⟨G + 1, 3, none⟩ = false := hx4.frozen 3)
        | (go_simp; go_at_call 43; rw [extract_str, HS.out]; refine (HKI.out _).mono ?_; rintro x w2 ⟨Ac, cc, rfl, hm2, hs2⟩; have hm : Ext w3 w2 := (by first | exact hm2 | exact (Mod.refl _ _).drew.trans hm2); have ho2 := HW3.out.2.2.2.2.own2 hm (.cells (itemC (ch i) Ac cc) 63); have z3 : w2.cell? ⟨G + 1, 3, none⟩ = some (.slice A i c) := (HW3.out.2.2.2.1.ext hm).cell 3; have zf : w2.frozen? ⟨G + 1, 3, none⟩ = false := (HW3.out.2.2.2.1.ext hm).frozen 3; have z4 : (w2.alloc (.cells #[Value.int .i64 (ch i).kind, .int .u64 ((ch i).n : Int), str (ch i).s, .slice Ac (ch i).k cc, .bool (ch i).op] 63)).cell? ⟨G + 1, 3, none⟩ = some (.slice A i c) := ((HW3.out.2.2.2.1.ext hm).alloc _).cell 3; have hne : ¬ G + 1 = w2.heap.size := (by have := HW3.out.2.2.2.2.room hm; omega)))
      all_goals go_wp2_with fail
      all_goals have hblk : (Value.slice (some ⟨g', 0, none⟩) (i + 1) c').ownBlock = (Value.slice A i c).ownBlock ∨ ∀ k, (Value.slice (some ⟨g', 0, none⟩) (i + 1) c').ownBlock = some k → w2.heap.size ≤ k := hbl.elim (fun h => .inl h.symm) (fun h => .inr fun k hk => by simp [Value.ownBlock] at hk; omega)
      all_goals obtain ⟨g2, c2, e1, hL⟩ := HW3.out.2.2.2.2.step hm (IsL.weak (fun b hb hq => ⟨by have := HW3.out.2.2.2.2.nx; have hq2 : w3.heap.size ≤ b := hq; omega, .inr hq⟩) (ch i) hs2) hown' hgr hblk
      all_goals simp only [Value.slice.injEq, Option.some.injEq, Addr.mk.injEq, true_and, and_true] at e1
      all_goals obtain ⟨rfl, rfl⟩ := e1
      all_goals rw [putT_self] at hL
      all_goals have hwG : w.heap.size < G := HW1.out
      all_goals have k1 := (HW3.out.2.2.2.2.keep hm hgr HW3.out.2.1 (by omega)).far (p := ⟨G + 1, 3, none⟩) (by simp; omega) (.slice (some ⟨g', 0, none⟩) (i + 1) c')
      all_goals have k2 := (HW3.out.2.2.2.2.keep hm hgr HW3.out.2.2.1 (by omega)).far (p := ⟨G + 1, 3, none⟩) (by simp) (.slice (some ⟨g', 0, none⟩) (i + 1) c')
      all_goals have k3 := hx4.set_ 3 (.slice (some ⟨g', 0, none⟩) (i + 1) c')
      all_goals have k4 := (HW3.out.2.2.2.2.since HW3.out.1 (by omega) hm hgr).setCell (p := ⟨G + 1, 3, none⟩) (.inr (by show w.heap.size ≤ G + 1; omega)) (.slice (some ⟨g', 0, none⟩) (i + 1) c')
      all_goals have k5 := hL.mod ((Mod.refl [G + 1] w4).setCell (p := ⟨G + 1, 3, none⟩) (.inl (by simp)) (.slice (some ⟨g', 0, none⟩) (i + 1) c')) (fun k hk => by rw [List.mem_singleton] at hk; subst hk; exact ⟨by omega, by omega⟩)
      all_goals have hlt := HLT.out

      all_goals go_roundw
      all_goals first | (simp only [intOf]; omega) | exact ⟨i + 1, some ⟨g', 0, none⟩, c', _, rfl, by simp, (show Hid _ from hlt), (show Hid _ from ⟨k4, k1, k2, by simpa using k3, k5⟩)⟩
    · obtain rfl : i = k := by have := hi.out; omega
      have tc : decide (((P i : Nat) : Int) < (l.length : Int) - 1) = false := by have := HK.out; simp; omega
      have HX := hid hW.out.2.2.2.1
      have HB := hid hW.out.2.1
      have HEW := hid hW.out.1
      have HGW := hid hW.out.2.2.2.2
      have x0 : wr.cell? ⟨G + 1, 0, none⟩ = some (.int .i64 4) := HX.out.cell 0
      have x1 : wr.cell? ⟨G + 1, 1, none⟩ = some (.int .u64 0) := HX.out.cell 1
      have x2 : wr.cell? ⟨G + 1, 2, none⟩ = some (str []) := HX.out.cell 2
      have x3 : wr.cell? ⟨G + 1, 3, none⟩ = some (.slice A i c) := HX.out.cell 3
      have x4 : wr.cell? ⟨G + 1, 4, none⟩ = some (.bool true) := HX.out.cell 4
      obtain ⟨c0, c1, c2, c3, c4⟩ := cells5 HB.out
      have f0 := HB.out.frozen 0
      have f1 := HB.out.frozen 1
      have f2 := HB.out.frozen 2
      have f3 := HB.out.frozen 3
      have f4 := HB.out.frozen 4
      clear hW
      go_wp2_with fail
      obtain ⟨d0, d1, d2, d3, d4⟩ := cells5 (set5_blk (t := T.mk 4 0 [] true i ch) (A := A) (c := c) HB.out)
      clear c0 c1 c2 c3 c4 f0 f1 f2 f3 f4 x0 x1 x2 x3 x4 g0 g2 g3
      show bodyPost _ _ _ _ _ (set5 wr w.heap.size (T.mk 4 0 [] true i ch) A c)
      refine bodyPost_ret (v := itemV (T.mk 4 0 [] true i ch) A c) (by simp [results, Try.results43, go_sem, d0, d1, d2, d3, d4]) rfl ⟨A, c, rfl, set5_mod HEW.out (Nat.le_refl _), ?_⟩
      have := HW1.out
      exact IsL.weak (fun b hb hq => by have hq2 : G + 2 ≤ b := hq; omega) (T.mk 4 0 [] true i ch) (IsL.mod set5_modb (fun b hq hb hm => by rw [List.mem_singleton] at hm; have hq2 : G + 2 ≤ b := hq; omega) (T.mk 4 0 [] true i ch) (HGW.out.isL (Q := fun b => G + 2 ≤ b) (fun b h => h) (fun b h => h) true))
/-- The item of a right item's bytes. -/
theorem r13_any (t : T) : t.right 8 = true → t.ok → t.bytes.length ≤ 1073741824 → ∀ w, Calls Try.prog 43 #[str t.bytes] w (IMade t w) := by
  induction t with
  | nil => intro _ h; exact absurd h T.not_nil
  | mk kind n s op k ch ih =>
    intro hr hok hl w
    have hp := T.right_plain hr
    have hh := T.readH_bytes _ hp hok []
    rw [List.append_nil] at hh
    have hnode : T.node kind n s op k = true := by
      unfold T.plain at hp; rw [Bool.and_eq_true] at hp; exact hp.1
    rcases T.node_kind hnode with rfl | rfl | rfl | rfl
    · have e : s = [] ∧ k = 0 ∧ op = false := by simpa [T.node, and_assoc] using hnode
      obtain ⟨rfl, rfl, rfl⟩ := e
      exact (r13_num _ _ n _ hh w).mono fun e w' h => ⟨none, 0, h.1, h.2, IsL.leaf⟩
    · have e : n = 0 ∧ k = 0 ∧ op = false := by simpa [T.node, and_assoc] using hnode
      obtain ⟨rfl, rfl, rfl⟩ := e
      have eb : (T.mk 2 0 s false 0 ch).bytes = headL 2 s.length ++ s := rfl
      rw [eb] at hh hl ⊢
      have h2 := r13_str _ hl _ 2 _ _ (.inl rfl) hh w
      rw [show (headL (2 : Int).toNat s.length).length = (headL 2 s.length).length from rfl, List.drop_left] at h2
      exact h2.mono fun e w' h => ⟨none, 0, h.1, h.2, IsL.leaf⟩
    · have e : n = 0 ∧ k = 0 ∧ op = false := by simpa [T.node, and_assoc] using hnode
      obtain ⟨rfl, rfl, rfl⟩ := e
      have eb : (T.mk 3 0 s false 0 ch).bytes = headL 3 s.length ++ s := rfl
      rw [eb] at hh hl ⊢
      have h2 := r13_str _ hl _ 3 _ _ (.inr rfl) hh w
      rw [show (headL (3 : Int).toNat s.length).length = (headL 3 s.length).length from rfl, List.drop_left] at h2
      exact h2.mono fun e w' h => ⟨none, 0, h.1, h.2, IsL.leaf⟩
    · have e : n = 0 ∧ s = [] := by
        have : (n = 0 ∧ s = []) ∧ k ≤ 1000 := by simpa [T.node, and_assoc] using hnode
        exact this.1
      obtain ⟨rfl, rfl⟩ := e
      have hk : ∀ i, i < k → (ch i).right 8 = true := by
        have h := hr
        unfold T.right at h
        rw [if_neg (by decide), Bool.and_eq_true, T.all_iff] at h
        exact fun i hi => T.right_up _ 7 (h.2 i hi)
      have hle : ∀ i, i < k → (ch i).bytes.length ≤ 1073741824 := fun i hi => by
        have e := arr_drop (op := op) (ch := ch) hi
        have := congrArg List.length e
        rw [List.length_drop, List.length_append] at this
        have hl2 : (arrB op k ch).length ≤ 1073741824 := hl
        omega
      have IH : ∀ i, i < k → ∀ w, Calls Try.prog 43 #[str (ch i).bytes] w (IMade (ch i) w) := fun i hi w => ih i (hk i hi) (hok.2.2.2.2 i hi) (hle i hi) w
      cases op with
      | false => exact r13_arr_false k ch hr hok hl IH w
      | true => exact r13_arr_true k ch hr hok hl IH w
end Go.Proofs.Ytagjhkknefiieaa


namespace Go.Proofs.Ytagjhkknefiieaa
open Go.RowKit
set_option linter.unusedVariables false

def PrevPost (l : List UInt8) (w : World) (e : Ending) (w' : World) : Prop := Ret (.tuple #[((prevO l).getD zeroE).v, .int .i64 (if (prevO l).isSome then 0 else 2)]) w e w' ∧ PTree l
theorem PrevPost.none {l : List UInt8} {w w' : World} {e : Ending} (hp : prevO l = none) (h : Ret (.tuple #[zeroE.v, .int .i64 2]) w e w') (hT : PTree l) : PrevPost l w e w' := by unfold PrevPost; rw [hp]; exact ⟨h, hT⟩
theorem PrevPost.some {l : List UInt8} {w w' : World} {e : Ending} {E : EV} (hp : prevO l = some E) (h : Ret (.tuple #[E.v, .int .i64 0]) w e w') (hT : PTree l) : PrevPost l w e w' := by unfold PrevPost; rw [hp]; exact ⟨h, hT⟩
set_option maxRecDepth 20000 in
theorem rp1_any (t : T) (hok : t.ok) (E : EV) (n : Int) (hE : ∀ A c W, IsL W (fun _ => True) t A → Calls Try.prog 40 #[itemV t A c] W (Ret (.tuple #[E.v, .int .i64 n]) W)) (A : Option Addr) (c : Nat) (w : World) (h : IsL w (fun _ => True) t A) : Calls Try.prog 39 #[itemV t A c] w (Ret (.tuple #[E.v, .bool (n == 0)]) w) := by
  have K : Hid (∀ W, IsL W (fun _ => True) t A → Calls Try.prog 40 #[itemV t A c] W (Ret (.tuple #[E.v, .int .i64 n]) W)) := fun W hW => hE A c W hW
  have H := hid h
  clear h hok hE
  have HE := hid (((Mod.refl [] w).alloc (.cells (itemC t A c) 63)).alloc (.cells #[.int .i64 0, .string ⟨#[]⟩, .int .u64 0, .int .u64 0] 24))
  have HQ : Hid (Blk ((w.alloc (.cells (itemC t A c) 63)).alloc (.cells #[.int .i64 0, .string ⟨#[]⟩, .int .u64 0, .int .u64 0] 24)) (w.heap.size + 1) 24 zeroE.c) := Blk.new' (w.alloc (.cells (itemC t A c) 63)) 24 #[.int .i64 0, .string ⟨#[]⟩, .int .u64 0, .int .u64 0] (N := w.heap.size + 1) (by simp)
  go_enter Try.func39, Try.ntmps39
  go_wp2_with fail
  refine (K.out _ (H.out.ext HE.out)).mono ?_
  rintro e1 w1 ⟨rfl, hb1⟩
  have HE1 := hid ((HE.out.trans hb1).alloc (.cells E.c 24))
  have HQ1 := hid ((HQ.out.ext hb1).alloc (.cells E.c 24))
  clear hb1
  obtain ⟨c0, c1, c2, c3⟩ := cells4 HQ1.out
  have f0 := Blk.frozen HQ1.out 0
  have f1 := Blk.frozen HQ1.out 1
  have f2 := Blk.frozen HQ1.out 2
  have f3 := Blk.frozen HQ1.out 3
  go_wp2_with fail
  obtain ⟨d0, d1, d2, d3⟩ := cells4 (set4_blk (e := E) HQ1.out)
  clear c0 c1 c2 c3 f0 f1 f2 f3
  show bodyPost _ _ _ _ _ (set4 (w1.alloc (.cells E.c 24)) (w.heap.size + 1) E)
  refine bodyPost_ret (v := .tuple #[E.v, .bool (n == 0)]) (by simp [results, Try.results39, go_sem, d0, d1, d2, d3]) rfl (Ret.mk rfl (set4_mod HE1.out (by omega)))
set_option maxRecDepth 20000 in
theorem readEID_any (l : List UInt8) (hl : l.length ≤ 1073741824) (w : World) : Calls Try.prog 38 #[str l, .func (Fn.func 39) #[] #[]] w (PrevPost l w) := by
  have K := hid (fun W => parse_any l hl W)
  have HE := hid (((Mod.refl [] w).alloc (.cells #[.int .i64 0, .string ⟨#[]⟩, .int .u64 0, .int .u64 0] 24)).alloc (.cells #[.int .i64 0, .string ⟨#[]⟩, .int .u64 0, .int .u64 0] 24))
  have HQ : Hid (Blk ((w.alloc (.cells #[.int .i64 0, .string ⟨#[]⟩, .int .u64 0, .int .u64 0] 24)).alloc (.cells #[.int .i64 0, .string ⟨#[]⟩, .int .u64 0, .int .u64 0] 24)) w.heap.size 24 zeroE.c) := (Blk.new w 24 #[.int .i64 0, .string ⟨#[]⟩, .int .u64 0, .int .u64 0]).alloc _
  have HN : Hid (Blk ((w.alloc (.cells #[.int .i64 0, .string ⟨#[]⟩, .int .u64 0, .int .u64 0] 24)).alloc (.cells #[.int .i64 0, .string ⟨#[]⟩, .int .u64 0, .int .u64 0] 24)) (w.heap.size + 1) 24 zeroE.c) := Blk.new' (w.alloc (.cells #[.int .i64 0, .string ⟨#[]⟩, .int .u64 0, .int .u64 0] 24)) 24 #[.int .i64 0, .string ⟨#[]⟩, .int .u64 0, .int .u64 0] (N := w.heap.size + 1) (by simp)
  go_enter Try.func38, Try.ntmps38
  go_wp2_with fail
  refine (K.out _).mono ?_
  rintro e1 w1 ⟨hb1, ⟨hz, rfl⟩ | ⟨hz, t, A, c, rfl, ⟨hr, hok⟩, hbt, hl1⟩⟩
  · have g1 : ((parseR l).2 == 0) = false := by simpa using hz
    have g2 : ((parseR l).2 = 0) = False := by simpa using hz
    have g3 : ((parseR l).2 != 0) = true := by simpa using hz
    have hT : PTree l := fun h => absurd h hz
    have HT := hid hT
    have HP := hid (prevO_bad hz)
    clear hz hT
    have HE1 := hid ((HE.out.trans hb1).alloc (.cells (itemC nulT none 0) 63))
    have HQ1 := hid ((HQ.out.ext hb1).alloc (.cells (itemC nulT none 0) 63))
    have HN1 := hid ((HN.out.ext hb1).alloc (.cells (itemC nulT none 0) 63))
    clear hb1
    obtain ⟨b0, b1, b2, b3⟩ := cells4 HN1.out
    obtain ⟨c0, c1, c2, c3⟩ := cells4 HQ1.out
    have f0 := Blk.frozen HQ1.out 0
    have f1 := Blk.frozen HQ1.out 1
    have f2 := Blk.frozen HQ1.out 2
    have f3 := Blk.frozen HQ1.out 3
    go_wp2_with fail
    obtain ⟨d0, d1, d2, d3⟩ := cells4 (set4_blk (e := zeroE) HQ1.out)
    clear b0 b1 b2 b3 c0 c1 c2 c3 f0 f1 f2 f3
    show bodyPost _ _ _ _ _ (set4 (w1.alloc (.cells (itemC nulT none 0) 63)) w.heap.size zeroE)
    refine bodyPost_ret (v := .tuple #[zeroE.v, .int .i64 2]) (by simp [results, Try.results38, go_sem, d0, d1, d2, d3]) rfl (.none HP.out (Ret.mk rfl (set4_mod HE1.out (by omega))) HT.out)
  · have hT : PTree l := fun _ => ⟨t, hr, hok, hbt⟩
    have HT := hid hT
    have HE1 := hid ((HE.out.trans hb1).alloc (.cells (itemC t A c) 63))
    have HQ1 := hid ((HQ.out.ext hb1).alloc (.cells (itemC t A c) 63))
    have HN1 := hid ((HN.out.ext hb1).alloc (.cells (itemC t A c) 63))
    have HL1 : Hid (IsL (w1.alloc (.cells (itemC t A c) 63)) (fun _ => True) t A) := IsL.ext hl1 ((Mod.refl _ _).alloc _)
    have hP := prevO_tree hr hok
    rw [hbt] at hP
    clear hb1 hz hT
    by_cases hB : ofB t = true
    · have KO := hid (fun W hW => rp1_any t hok (readE t) 0 (fun A c W hW => by have := eidOf_any t hok A c W hW; rw [hB] at this; exact this) A c W hW)
      rw [if_pos hB] at hP
      have HP := hid hP
      generalize readE t = E at *
      clear hl1 hr hok hB hbt hP K
      go_wp2_with fail
      refine (KO.out _ HL1.out).mono ?_
      rintro e1 w2 ⟨rfl, hb2⟩
      have HE2 := hid ((HE1.out.trans hb2).alloc (.cells E.c 24))
      have HQ2 := hid ((HQ1.out.ext hb2).alloc (.cells E.c 24))
      clear hb2
      obtain ⟨c0, c1, c2, c3⟩ := cells4 HQ2.out
      have f0 := Blk.frozen HQ2.out 0
      have f1 := Blk.frozen HQ2.out 1
      have f2 := Blk.frozen HQ2.out 2
      have f3 := Blk.frozen HQ2.out 3
      go_wp2_with fail
      obtain ⟨d0, d1, d2, d3⟩ := cells4 (set4_blk (e := E) HQ2.out)
      clear c0 c1 c2 c3 f0 f1 f2 f3
      show bodyPost _ _ _ _ _ (set4 (w2.alloc (.cells E.c 24)) w.heap.size E)
      refine bodyPost_ret (v := .tuple #[E.v, .int .i64 0]) (by simp [results, Try.results38, go_sem, d0, d1, d2, d3]) rfl (.some HP.out (Ret.mk rfl (set4_mod HE2.out (by omega))) HT.out)
    · have KO := hid (fun W hW => rp1_any t hok zeroE 2 (fun A c W hW => by have := eidOf_any t hok A c W hW; rw [if_neg hB, if_neg hB] at this; exact this) A c W hW)
      rw [if_neg hB] at hP
      have HP := hid hP
      clear hl1 hr hok hB hbt hP K
      go_wp2_with fail
      refine (KO.out _ HL1.out).mono ?_
      rintro e1 w2 ⟨rfl, hb2⟩
      have HE2 := hid ((HE1.out.trans hb2).alloc (.cells zeroE.c 24))
      have HQ2 := hid ((HQ1.out.ext hb2).alloc (.cells zeroE.c 24))
      have HN2 := hid ((HN1.out.ext hb2).alloc (.cells zeroE.c 24))
      clear hb2
      obtain ⟨b0, b1, b2, b3⟩ := cells4 HN2.out
      obtain ⟨c0, c1, c2, c3⟩ := cells4 HQ2.out
      have f0 := Blk.frozen HQ2.out 0
      have f1 := Blk.frozen HQ2.out 1
      have f2 := Blk.frozen HQ2.out 2
      have f3 := Blk.frozen HQ2.out 3
      go_wp2_with fail
      obtain ⟨d0, d1, d2, d3⟩ := cells4 (set4_blk (e := zeroE) HQ2.out)
      clear b0 b1 b2 b3 c0 c1 c2 c3 f0 f1 f2 f3
      show bodyPost _ _ _ _ _ (set4 (w2.alloc (.cells zeroE.c 24)) w.heap.size zeroE)
      refine bodyPost_ret (v := .tuple #[zeroE.v, .int .i64 2]) (by simp [results, Try.results38, go_sem, d0, d1, d2, d3]) rfl (.none HP.out (Ret.mk rfl (set4_mod HE2.out (by omega))) HT.out)
set_option maxRecDepth 20000 in
theorem ReadPrev_any (l : List UInt8) (hl : l.length ≤ 1073741824) (w : World) : Calls Try.prog 16 #[str l] w (PrevPost l w) := by
  have K := hid (fun W => readEID_any l hl W)
  have HE := hid ((Mod.refl [] w).alloc (.cells #[.int .i64 0, .string ⟨#[]⟩, .int .u64 0, .int .u64 0] 24))
  have HQ : Hid (Blk (w.alloc (.cells #[.int .i64 0, .string ⟨#[]⟩, .int .u64 0, .int .u64 0] 24)) w.heap.size 24 zeroE.c) := Blk.new w 24 #[.int .i64 0, .string ⟨#[]⟩, .int .u64 0, .int .u64 0]
  go_enter Try.func16, Try.ntmps16
  go_wp2_with fail
  refine (K.out _).mono ?_
  rintro e1 w1 h1
  obtain ⟨E, n, rfl, hb1, hP⟩ : ∃ E n, e1 = .returned (.tuple #[EV.v E, .int .i64 n]) ∧ Ext (w.alloc (.cells #[.int .i64 0, .string ⟨#[]⟩, .int .u64 0, .int .u64 0] 24)) w1 ∧ ∀ W W', Ext W W' → PrevPost l W (.returned (.tuple #[EV.v E, .int .i64 n])) W' := ⟨_, _, h1.1.1, h1.1.2, fun W W' h => ⟨⟨rfl, h⟩, h1.2⟩⟩
  have HE1 := hid (HE.out.trans hb1)
  have HQ1 := hid (HQ.out.ext hb1)
  have HP := hid hP
  clear hb1 hP h1
  obtain ⟨c0, c1, c2, c3⟩ := cells4 HQ1.out
  have f0 := Blk.frozen HQ1.out 0
  have f1 := Blk.frozen HQ1.out 1
  have f2 := Blk.frozen HQ1.out 2
  have f3 := Blk.frozen HQ1.out 3
  go_wp2_with fail
  obtain ⟨d0, d1, d2, d3⟩ := cells4 (set4_blk (e := E) HQ1.out)
  clear c0 c1 c2 c3 f0 f1 f2 f3
  show bodyPost _ _ _ _ _ (set4 w1 w.heap.size E)
  refine bodyPost_ret (v := .tuple #[E.v, .int .i64 n]) (by simp [results, Try.results16, go_sem, d0, d1, d2, d3]) rfl (HP.out _ _ (set4_mod HE1.out (by omega)))
end Go.Proofs.Ytagjhkknefiieaa


namespace Go.Proofs.Ytagjhkknefiieaa
open Go.RowKit
set_option linter.unusedVariables false

set_option maxRecDepth 20000 in
theorem ra1_kind (t : T) (hk : t.kind ≠ 0) (A : Option Addr) (c : Nat) (w : World) : Calls Try.prog 45 #[itemV t A c] w (Ret (.tuple #[.int .u64 (t.n : Int), .bool false]) w) := by
  have n1 : (t.kind == 0) = false := by simpa using hk
  have n2 : (t.kind = 0) = False := by simpa using hk
  have n3 : (t.kind != 0) = true := by simpa using hk
  clear hk
  obtain ⟨kd, hkd⟩ : ∃ x, x = t.kind := ⟨_, rfl⟩
  obtain ⟨nn, hnn⟩ : ∃ x, x = t.n := ⟨_, rfl⟩
  go_enter Try.func45, Try.ntmps45
  go_wp2_with fail
  go_quiet (fail)
  go_wp2_with fail
  refine bodyPost_ret (v := .tuple #[.int .u64 (t.n : Int), .bool false]) (by simp [results, Try.results45, go_sem]) rfl (Ret.mk rfl (by first | exact ((Mod.refl _ _).alloc _).drewN _ | exact ((Mod.refl _ _).alloc _).drew | exact ((Mod.refl _ _).alloc _)))
set_option maxRecDepth 20000 in
theorem ra1_num (t : T) (hk : t.kind = 0) (hn : 1099511627776 < t.n) (A : Option Addr) (c : Nat) (w : World) : Calls Try.prog 45 #[itemV t A c] w (Ret (.tuple #[.int .u64 (t.n : Int), .bool false]) w) := by
  have t1 : decide ((t.n : Int) ≤ 1099511627776) = false := by simp; omega
  have t2 : ((t.n : Int) ≤ 1099511627776) = False := by simp; omega
  clear hn
  obtain ⟨kd, hkd⟩ : ∃ x, x = t.kind := ⟨_, rfl⟩
  obtain ⟨nn, hnn⟩ : ∃ x, x = t.n := ⟨_, rfl⟩
  go_enter Try.func45, Try.ntmps45
  go_wp2_with fail
  go_quiet (fail)
  go_wp2_with fail
  refine bodyPost_ret (v := .tuple #[.int .u64 (t.n : Int), .bool false]) (by simp [results, Try.results45, go_sem]) rfl (Ret.mk rfl (by first | exact ((Mod.refl _ _).alloc _).drewN _ | exact ((Mod.refl _ _).alloc _).drew | exact ((Mod.refl _ _).alloc _)))
set_option maxRecDepth 20000 in
theorem ra1_ok (t : T) (hk : t.kind = 0) (hn : t.n ≤ 1099511627776) (A : Option Addr) (c : Nat) (w : World) : Calls Try.prog 45 #[itemV t A c] w (Ret (.tuple #[.int .u64 (t.n : Int), .bool true]) w) := by
  have t1 : decide ((t.n : Int) ≤ 1099511627776) = true := by simp; omega
  have t2 : ((t.n : Int) ≤ 1099511627776) = True := by simp; omega
  clear hn
  obtain ⟨kd, hkd⟩ : ∃ x, x = t.kind := ⟨_, rfl⟩
  obtain ⟨nn, hnn⟩ : ∃ x, x = t.n := ⟨_, rfl⟩
  go_enter Try.func45, Try.ntmps45
  go_wp2_with fail
  go_quiet (fail)
  go_wp2_with fail
  refine bodyPost_ret (v := .tuple #[.int .u64 (t.n : Int), .bool true]) (by simp [results, Try.results45, go_sem]) rfl (Ret.mk rfl (by first | exact ((Mod.refl _ _).alloc _).drewN _ | exact ((Mod.refl _ _).alloc _).drew | exact ((Mod.refl _ _).alloc _)))
theorem ra1_any (t : T) (A : Option Addr) (c : Nat) (w : World) : Calls Try.prog 45 #[itemV t A c] w (Ret (.tuple #[.int .u64 (t.n : Int), .bool (ageB t)]) w) := by
  by_cases hk : t.kind = 0
  · by_cases hn : t.n ≤ 1099511627776
    · have : ageB t = true := by simp [ageB, hk, hn]
      rw [this]; exact ra1_ok t hk hn A c w
    · have : ageB t = false := by simp [ageB, hk]; omega
      rw [this]; exact ra1_num t hk (by omega) A c w
  · have : ageB t = false := by simp [ageB, hk]
    rw [this]; exact ra1_kind t hk A c w
def AgePost (l : List UInt8) (w : World) (e : Ending) (w' : World) : Prop := Ret (.tuple #[.int .u64 (((ageO l).getD 0 : Nat) : Int), .int .i64 (if (ageO l).isSome then 0 else 2)]) w e w'
theorem AgePost.none {l : List UInt8} {w w' : World} {e : Ending} (hp : ageO l = none) (h : Ret (.tuple #[.int .u64 0, .int .i64 2]) w e w') : AgePost l w e w' := by unfold AgePost; rw [hp]; exact h
theorem AgePost.some {l : List UInt8} {w w' : World} {e : Ending} {E : Nat} (hp : ageO l = some E) (h : Ret (.tuple #[.int .u64 (E : Int), .int .i64 0]) w e w') : AgePost l w e w' := by unfold AgePost; rw [hp]; exact h
set_option maxRecDepth 20000 in
theorem readU_any (l : List UInt8) (hl : l.length ≤ 1073741824) (w : World) : Calls Try.prog 44 #[str l, .func (Fn.func 45) #[] #[]] w (AgePost l w) := by
  have K := hid (fun W => parse_any l hl W)
  go_enter Try.func44, Try.ntmps44
  go_wp2_with fail
  refine (K.out _).mono ?_
  rintro e1 w1 ⟨hb1, ⟨hz, rfl⟩ | ⟨hz, t, A, c, rfl, ⟨hr, hok⟩, hbt, hl1⟩⟩
  · have HP := hid (ageO_bad hz)
    have g1 : ((parseR l).2 == 0) = false := by simpa using hz
    have g2 : ((parseR l).2 = 0) = False := by simpa using hz
    have g3 : ((parseR l).2 != 0) = true := by simpa using hz
    have HE1 := hid (hb1.alloc (.cells (itemC nulT none 0) 63))
    clear hz hb1
    go_wp2_with fail
    refine bodyPost_ret (v := .tuple #[.int .u64 0, .int .i64 2]) (by simp [results, Try.results44, go_sem]) rfl (.none HP.out (Ret.mk rfl HE1.out))
  · have hP := ageO_tree hr hok
    rw [hbt] at hP
    have HE1 := hid (hb1.alloc (.cells (itemC t A c) 63))
    clear hz hb1
    by_cases hB : ageB t = true
    · have KO := hid (fun W => ra1_any t A c W)
      rw [hB] at KO
      rw [if_pos hB] at hP
      have HP := hid hP
      clear hl1 hr hok hB hbt hP K
      go_wp2_with fail
      refine (KO.out _).mono ?_
      rintro e1 w2 ⟨rfl, hb2⟩
      go_wp2_with fail
      refine bodyPost_ret (v := .tuple #[.int .u64 (t.n : Int), .int .i64 0]) (by simp [results, Try.results44, go_sem]) rfl (.some HP.out (Ret.mk rfl (HE1.out.trans hb2)))
    · have KO := hid (fun W => ra1_any t A c W)
      have hB2 : ageB t = false := by simpa using hB
      rw [hB2] at KO
      rw [if_neg hB] at hP
      have HP := hid hP
      clear hl1 hr hok hB hB2 hbt hP K
      go_wp2_with fail
      refine (KO.out _).mono ?_
      rintro e1 w2 ⟨rfl, hb2⟩
      go_wp2_with fail
      refine bodyPost_ret (v := .tuple #[.int .u64 0, .int .i64 2]) (by simp [results, Try.results44, go_sem]) rfl (.none HP.out (Ret.mk rfl (HE1.out.trans hb2)))
set_option maxRecDepth 20000 in
theorem ReadAge_any (l : List UInt8) (hl : l.length ≤ 1073741824) (w : World) : Calls Try.prog 18 #[str l] w (AgePost l w) := by
  have K := hid (fun W => readU_any l hl W)
  go_enter Try.func18, Try.ntmps18
  go_wp2_with fail
  refine (K.out _).mono ?_
  rintro e1 w1 h1
  obtain ⟨m, n, rfl, hb1, hP⟩ : ∃ (m : Nat) (n : Int), e1 = .returned (.tuple #[.int .u64 (m : Int), .int .i64 n]) ∧ Ext w w1 ∧ ∀ W W', Ext W W' → AgePost l W (.returned (.tuple #[.int .u64 (m : Int), .int .i64 n])) W' := ⟨_, _, h1.1, h1.2, fun W W' h => ⟨rfl, h⟩⟩
  have HP := hid hP
  clear hP h1
  go_wp2_with fail
  refine bodyPost_ret (v := .tuple #[.int .u64 (m : Int), .int .i64 n]) (by simp [results, Try.results18, go_sem]) rfl (HP.out _ _ hb1)
end Go.Proofs.Ytagjhkknefiieaa
