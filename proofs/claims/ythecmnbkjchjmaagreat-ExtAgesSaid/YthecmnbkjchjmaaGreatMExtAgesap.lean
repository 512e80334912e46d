/-
 A block's bytes; the block that the laws wake the program by.
-/
import Derived.Test.YthecmnbkjchjmaaGreatMExtAgesak
import Derived.Test.YthecmnbkjchjmaaGreatMExtAgesal
import Derived.Deep.AppendLies
import Derived.Deep.RegionLaw
import Derived.Lib.SliceRun

namespace Go.Proofs.YthecmnbkjchjmaaGreat
open Go.RowKit
set_option linter.unusedVariables false
set_option linter.unusedSimpArgs false

set_option maxRecDepth 20000 in
set_option maxHeartbeats 800000 in
theorem Build_ok (ty num fl crc : Nat) (data : List UInt8) (hb : BV.right ⟨ty, num, fl, crc, data⟩ = 0) (t : T) (hok : t.ok) (hsz : t.size <= 100000) (KS : Hid (∀ N A c W, N <= W.heap.size -> IsL W (fun b => N <= b) (blkT ty num fl crc data []) A -> Calls Tryz.prog 152 #[.int .i64 (crc : Int), itemV (blkT ty num fl crc data []) A c] W (fun e w' => ∃ A c, e = .returned (itemV t A c) /\ Ext W w' /\ IsL w' (fun b => N <= b) t A))) (w : World) : Calls Tryz.prog 114 #[BV.v ⟨ty, num, fl, crc, data⟩] w (Ret (buildV t) w) := by
 have HE0 := hid ((Mod.refl [] w).alloc (.cells (BV.c ⟨ty, num, fl, crc, data⟩) 38))
 go_enter Tryz.func114, Tryz.ntmps114
 go_wp2_with fail
 refine (Item_ok ty num fl crc data hb t KS _).mono ?_
 rintro e w1 ⟨A, c, rfl, hb1, hl1⟩
 have HE1 := hid (HE0.out.trans hb1)
 have HL1 := hid hl1
 clear hb1 hl1
 go_wp2_with fail
 refine (iBuild_any t hok hsz A c _ (IsL.ext (IsL.weak (fun _ _ _ => trivial) _ HL1.out) ((Mod.refl _ _).alloc _))).mono ?_
 rintro e w2 ⟨rfl, hb2⟩
 have HE2 := hid ((HE1.out.alloc _).trans hb2)
 clear hb2
 obtain ⟨s, E, hV⟩ : ∃ s E, buildV t = .tuple #[str s, .int .i64 E] := by unfold buildV; split; exact ⟨_, _, rfl⟩; exact ⟨_, _, rfl⟩
 rw [hV]
 go_wp2_with fail
 refine bodyPost_ret (v := .tuple #[str s, .int .i64 E]) (by simp [results, Tryz.results114, go_sem]) rfl (Ret.mk hV.symm HE2.out)

end Go.Proofs.YthecmnbkjchjmaaGreat


namespace Go.Proofs.YthecmnbkjchjmaaGreat
open Go.RowKit
set_option linter.unusedVariables false
set_option linter.unusedSimpArgs false

def zeroE : EV := ⟨0, [], 0, 0⟩
def noneE : EV := ⟨1, [110, 111, 110, 101], 0, 0⟩
def readE (t : T) : EV :=
 if t.kind ≠ 4 \/ t.k ≠ 2 \/ (t.ch 0).kind ≠ 0 then zeroE
 else if (t.ch 0).n = 2 /\ (t.ch 1).k = 2 then ⟨2, [], ((t.ch 1).ch 0).n, ((t.ch 1).ch 1).n⟩
 else if (t.ch 0).n = 1 /\ (t.ch 1).kind = 3 then ⟨1, (t.ch 1).s, 0, 0⟩
 else noneE

set_option maxRecDepth 20000 in
set_option maxHeartbeats 800000 in
theorem eread_1 (t : T) (A : Option Addr) (c : Nat) (h : t.kind ≠ 4) (w : World) : Calls Tryz.prog 138 #[.agg (itemC t A c)] w (Ret zeroE.v w) := by
 have HE := hid (((Mod.refl [] w).alloc (.cells (itemC t A c) 86)).alloc (.cells #[.int .i64 0, .string ⟨#[]⟩, .int .u64 0, .int .u64 0] 24))
 have n1 : (t.kind == 4) = false := by simpa using h
 have n2 : (t.kind = 4) = False := by simpa using h
 have n3 : (t.kind != 4) = true := by simpa using h
 clear h
 go_enter Tryz.func138, Tryz.ntmps138
 go_wp2_with fail
 refine bodyPost_ret (v := .agg #[.int .i64 0, str [], .int .u64 0, .int .u64 0]) (by simp [results, Tryz.results138, go_sem]) rfl (Ret.mk rfl (by first | exact (((Mod.refl _ _).alloc _).alloc _) | exact ((((Mod.refl _ _).alloc _).alloc _).alloc _)))
set_option maxRecDepth 20000 in
set_option maxHeartbeats 800000 in
theorem eread_2 (n : Nat) (s : List UInt8) (op : Bool) (k : Nat) (A : Option Addr) (c : Nat) (h : k ≠ 2) (w : World) : Calls Tryz.prog 138 #[.agg #[.int .i64 4, .int .u64 (n : Int), str s, .slice A k c, .bool op]] w (Ret zeroE.v w) := by
 have HE := hid (((Mod.refl [] w).alloc (.cells #[.int .i64 4, .int .u64 (n : Int), str s, .slice A k c, .bool op] 86)).alloc (.cells #[.int .i64 0, .string ⟨#[]⟩, .int .u64 0, .int .u64 0] 24))
 have n1 : ((k : Int) == 2) = false := by simp; omega
 have n2 : ((k : Int) = 2) = False := by simp; omega
 have n3 : ((k : Int) != 2) = true := by simp; omega
 clear h
 go_enter Tryz.func138, Tryz.ntmps138
 go_wp2_with fail
 refine bodyPost_ret (v := .agg #[.int .i64 0, str [], .int .u64 0, .int .u64 0]) (by simp [results, Tryz.results138, go_sem]) rfl (Ret.mk rfl (by first | exact (((Mod.refl _ _).alloc _).alloc _) | exact ((((Mod.refl _ _).alloc _).alloc _).alloc _)))
set_option maxRecDepth 20000 in
set_option maxHeartbeats 800000 in
theorem eread_3 (n : Nat) (s : List UInt8) (op : Bool) (ch : Nat -> T) (b o c : Nat) (A0 A1 : Option Addr) (c0 c1 : Nat) (h : (ch 0).kind ≠ 0) (w : World) (hb : b < w.heap.size) (h0 : At5 w b o (ch 0) A0 c0) (h1 : At5 w b (o + 5) (ch 1) A1 c1) : Calls Tryz.prog 138 #[.agg #[.int .i64 4, .int .u64 (n : Int), str s, .slice (some ⟨b, o, none⟩) 2 c, .bool op]] w (Ret zeroE.v w) := by
 have HE := hid (((Mod.refl [] w).alloc (.cells #[.int .i64 4, .int .u64 (n : Int), str s, .slice (some ⟨b, o, none⟩) 2 c, .bool op] 86)).alloc (.cells #[.int .i64 0, .string ⟨#[]⟩, .int .u64 0, .int .u64 0] 24))
 obtain ⟨x0, x1, x2, x3, x4⟩ := h0.mod HE.out hb (by simp)
 obtain ⟨y0, y1, y2, y3, y4⟩ := h1.mod HE.out hb (by simp)
 have n1 : ((ch 0).kind == 0) = false := by simpa using h
 have n2 : ((ch 0).kind = 0) = False := by simpa using h
 have n3 : ((ch 0).kind != 0) = true := by simpa using h
 clear h h0 h1
 go_enter Tryz.func138, Tryz.ntmps138
 go_wp2_with fail
 refine bodyPost_ret (v := .agg #[.int .i64 0, str [], .int .u64 0, .int .u64 0]) (by simp [results, Tryz.results138, go_sem]) rfl (Ret.mk rfl (by first | exact (((Mod.refl _ _).alloc _).alloc _) | exact ((((Mod.refl _ _).alloc _).alloc _).alloc _)))
set_option maxRecDepth 20000 in
set_option maxHeartbeats 800000 in
theorem eread_4 (n : Nat) (s : List UInt8) (op : Bool) (ch : Nat -> T) (b o c : Nat) (A0 A1 : Option Addr) (c0 c1 : Nat) (b1 o1 : Nat) (A2 A3 : Option Addr) (c2 c3 : Nat) (hk0 : (ch 0).kind = 0) (hn0 : (ch 0).n = 2) (hk1 : (ch 1).k = 2) (hA : A1 = some ⟨b1, o1, none⟩) (w : World) (hb : b < w.heap.size) (h0 : At5 w b o (ch 0) A0 c0) (h1 : At5 w b (o + 5) (ch 1) A1 c1) (hb1 : b1 < w.heap.size) (h2 : At5 w b1 o1 ((ch 1).ch 0) A2 c2) (h3 : At5 w b1 (o1 + 5) ((ch 1).ch 1) A3 c3) : Calls Tryz.prog 138 #[.agg #[.int .i64 4, .int .u64 (n : Int), str s, .slice (some ⟨b, o, none⟩) 2 c, .bool op]] w (Ret (EV.v ⟨2, [], ((ch 1).ch 0).n, ((ch 1).ch 1).n⟩) w) := by
 have HE := hid (((Mod.refl [] w).alloc (.cells #[.int .i64 4, .int .u64 (n : Int), str s, .slice (some ⟨b, o, none⟩) 2 c, .bool op] 86)).alloc (.cells #[.int .i64 0, .string ⟨#[]⟩, .int .u64 0, .int .u64 0] 24))
 obtain ⟨x0, x1, x2, x3, x4⟩ := h0.mod HE.out hb (by simp)
 obtain ⟨y0, y1, y2, y3, y4⟩ := h1.mod HE.out hb (by simp)
 obtain ⟨_, z1, _⟩ := h2.mod HE.out hb1 (by simp)
 obtain ⟨_, v1, _⟩ := h3.mod HE.out hb1 (by simp)
 rw [hk0] at x0
 rw [hn0] at x1
 subst hA
 rw [hk1] at y3
 have HE3 := hid (HE.out.alloc (.cells #[.int .i64 (ch 1).kind, .int .u64 ((ch 1).n : Int), str (ch 1).s, .slice (some ⟨b1, o1, none⟩) 2 c1, .bool (ch 1).op] 86))
 have gx1 : (((w.alloc (.cells #[.int .i64 4, .int .u64 (n : Int), str s, .slice (some ⟨b, o, none⟩) 2 c, .bool op] 86)).alloc (.cells #[.int .i64 0, .string ⟨#[]⟩, .int .u64 0, .int .u64 0] 24)).alloc (.cells #[.int .i64 (ch 1).kind, .int .u64 ((ch 1).n : Int), str (ch 1).s, .slice (some ⟨b1, o1, none⟩) 2 c1, .bool (ch 1).op] 86)).cell? ⟨b, o + 1, none⟩ = some (.int .u64 2) := by have := (h0.mod HE3.out hb (by simp)).2.1; rw [hn0] at this; exact this
 have gz : (((w.alloc (.cells #[.int .i64 4, .int .u64 (n : Int), str s, .slice (some ⟨b, o, none⟩) 2 c, .bool op] 86)).alloc (.cells #[.int .i64 0, .string ⟨#[]⟩, .int .u64 0, .int .u64 0] 24)).alloc (.cells #[.int .i64 (ch 1).kind, .int .u64 ((ch 1).n : Int), str (ch 1).s, .slice (some ⟨b1, o1, none⟩) 2 c1, .bool (ch 1).op] 86)).cell? ⟨b1, o1 + 1, none⟩ = some (.int .u64 (((ch 1).ch 0).n : Int)) := (h2.mod HE3.out hb1 (by simp)).2.1
 have gv : (((w.alloc (.cells #[.int .i64 4, .int .u64 (n : Int), str s, .slice (some ⟨b, o, none⟩) 2 c, .bool op] 86)).alloc (.cells #[.int .i64 0, .string ⟨#[]⟩, .int .u64 0, .int .u64 0] 24)).alloc (.cells #[.int .i64 (ch 1).kind, .int .u64 ((ch 1).n : Int), str (ch 1).s, .slice (some ⟨b1, o1, none⟩) 2 c1, .bool (ch 1).op] 86)).cell? ⟨b1, o1 + 5 + 1, none⟩ = some (.int .u64 (((ch 1).ch 1).n : Int)) := (h3.mod HE3.out hb1 (by simp)).2.1
 clear hk0 hn0 hk1 h0 h1 h2 h3
 go_enter Tryz.func138, Tryz.ntmps138
 go_wp2_with fail
 go_region
 all_goals go_wp2_with fail
 all_goals refine bodyPost_ret (v := EV.v ⟨2, [], ((ch 1).ch 0).n, ((ch 1).ch 1).n⟩) (by simp [results, Tryz.results138, go_sem]) rfl (Ret.mk rfl ((((Mod.refl _ _).alloc _).alloc _).alloc _).drew)
set_option maxRecDepth 20000 in
set_option maxHeartbeats 800000 in
theorem eread_5 (n : Nat) (s : List UInt8) (op : Bool) (ch : Nat -> T) (b o c : Nat) (A0 A1 : Option Addr) (c0 c1 : Nat) (hk0 : (ch 0).kind = 0) (hn0 : (ch 0).n = 1) (hk1 : (ch 1).kind = 3) (w : World) (hb : b < w.heap.size) (h0 : At5 w b o (ch 0) A0 c0) (h1 : At5 w b (o + 5) (ch 1) A1 c1) : Calls Tryz.prog 138 #[.agg #[.int .i64 4, .int .u64 (n : Int), str s, .slice (some ⟨b, o, none⟩) 2 c, .bool op]] w (Ret (EV.v ⟨1, (ch 1).s, 0, 0⟩) w) := by
 have HE := hid (((Mod.refl [] w).alloc (.cells #[.int .i64 4, .int .u64 (n : Int), str s, .slice (some ⟨b, o, none⟩) 2 c, .bool op] 86)).alloc (.cells #[.int .i64 0, .string ⟨#[]⟩, .int .u64 0, .int .u64 0] 24))
 obtain ⟨x0, x1, x2, x3, x4⟩ := h0.mod HE.out hb (by simp)
 obtain ⟨y0, y1, y2, y3, y4⟩ := h1.mod HE.out hb (by simp)
 rw [hk0] at x0
 rw [hn0] at x1
 rw [hk1] at y0
 have HE3 := hid (HE.out.alloc (.cells #[.int .i64 3, .int .u64 ((ch 1).n : Int), str (ch 1).s, .slice A1 (ch 1).k c1, .bool (ch 1).op] 86))
 have gx1 : (((w.alloc (.cells #[.int .i64 4, .int .u64 (n : Int), str s, .slice (some ⟨b, o, none⟩) 2 c, .bool op] 86)).alloc (.cells #[.int .i64 0, .string ⟨#[]⟩, .int .u64 0, .int .u64 0] 24)).alloc (.cells #[.int .i64 3, .int .u64 ((ch 1).n : Int), str (ch 1).s, .slice A1 (ch 1).k c1, .bool (ch 1).op] 86)).cell? ⟨b, o + 1, none⟩ = some (.int .u64 1) := by have := (h0.mod HE3.out hb (by simp)).2.1; rw [hn0] at this; exact this
 clear hk0 hn0 hk1 h0 h1
 go_enter Tryz.func138, Tryz.ntmps138
 go_wp2_with fail
 refine bodyPost_ret (v := EV.v ⟨1, (ch 1).s, 0, 0⟩) (by simp [results, Tryz.results138, go_sem]) rfl (Ret.mk rfl (by first | exact (((Mod.refl _ _).alloc _).alloc _) | exact ((((Mod.refl _ _).alloc _).alloc _).alloc _)))
set_option maxRecDepth 20000 in
set_option maxHeartbeats 800000 in
theorem eread_6 (n : Nat) (s : List UInt8) (op : Bool) (ch : Nat -> T) (b o c : Nat) (A0 A1 : Option Addr) (c0 c1 : Nat) (hk0 : (ch 0).kind = 0) (hn0 : (ch 0).n = 2) (hk1 : (ch 1).k ≠ 2) (w : World) (hb : b < w.heap.size) (h0 : At5 w b o (ch 0) A0 c0) (h1 : At5 w b (o + 5) (ch 1) A1 c1) : Calls Tryz.prog 138 #[.agg #[.int .i64 4, .int .u64 (n : Int), str s, .slice (some ⟨b, o, none⟩) 2 c, .bool op]] w (Ret noneE.v w) := by
 have HE := hid (((Mod.refl [] w).alloc (.cells #[.int .i64 4, .int .u64 (n : Int), str s, .slice (some ⟨b, o, none⟩) 2 c, .bool op] 86)).alloc (.cells #[.int .i64 0, .string ⟨#[]⟩, .int .u64 0, .int .u64 0] 24))
 obtain ⟨x0, x1, x2, x3, x4⟩ := h0.mod HE.out hb (by simp)
 obtain ⟨y0, y1, y2, y3, y4⟩ := h1.mod HE.out hb (by simp)
 rw [hk0] at x0
 rw [hn0] at x1
 have n1 : (((ch 1).k : Int) == 2) = false := by simp; omega
 have n2 : (((ch 1).k : Int) = 2) = False := by simp; omega
 have HE3 := hid (HE.out.alloc (.cells #[.int .i64 (ch 1).kind, .int .u64 ((ch 1).n : Int), str (ch 1).s, .slice A1 (ch 1).k c1, .bool (ch 1).op] 86))
 have gx1 : (((w.alloc (.cells #[.int .i64 4, .int .u64 (n : Int), str s, .slice (some ⟨b, o, none⟩) 2 c, .bool op] 86)).alloc (.cells #[.int .i64 0, .string ⟨#[]⟩, .int .u64 0, .int .u64 0] 24)).alloc (.cells #[.int .i64 (ch 1).kind, .int .u64 ((ch 1).n : Int), str (ch 1).s, .slice A1 (ch 1).k c1, .bool (ch 1).op] 86)).cell? ⟨b, o + 1, none⟩ = some (.int .u64 2) := by have := (h0.mod HE3.out hb (by simp)).2.1; rw [hn0] at this; exact this
 clear hk0 hn0 hk1 h0 h1
 have HQ := hid ((Blk.new' (w.alloc (.cells #[.int .i64 4, .int .u64 (n : Int), str s, .slice (some ⟨b, o, none⟩) 2 c, .bool op] 86)) 24 #[.int .i64 0, .string ⟨#[]⟩, .int .u64 0, .int .u64 0] (N := w.heap.size + 1) (by simp)).alloc (.cells #[.int .i64 (ch 1).kind, .int .u64 ((ch 1).n : Int), str (ch 1).s, .slice A1 (ch 1).k c1, .bool (ch 1).op] 86))
 go_enter Tryz.func138, Tryz.ntmps138
 go_wp2_with fail
 refine (eidNone_any _).mono ?_
 rintro e w1 ⟨rfl, hb1⟩
 have HE1 : Hid (Ext w w1) := HE3.out.trans hb1
 have HQ1 := hid (HQ.out.ext hb1)
 clear hb1
 obtain ⟨r0, r1, r2, r3⟩ : w1.cell? ⟨w.heap.size + 1, 0, none⟩ = some (.int .i64 0) /\ w1.cell? ⟨w.heap.size + 1, 1, none⟩ = some (str []) /\ w1.cell? ⟨w.heap.size + 1, 2, none⟩ = some (.int .u64 0) /\ w1.cell? ⟨w.heap.size + 1, 3, none⟩ = some (.int .u64 0) := ⟨HQ1.out.cell 0, HQ1.out.cell 1, HQ1.out.cell 2, HQ1.out.cell 3⟩
 have f0 := Blk.frozen HQ1.out 0
 have f1 := Blk.frozen HQ1.out 1
 have f2 := Blk.frozen HQ1.out 2
 have f3 := Blk.frozen HQ1.out 3
 go_wp2_with fail
 have B4 := (((HQ1.out.set_ 0 (.int .i64 1)).set_ 1 (str [110, 111, 110, 101])).set_ 2 (.int .u64 0)).set_ 3 (.int .u64 0)
 obtain ⟨d0, d1, d2, d3⟩ := And.intro (B4.cell 0) (And.intro (B4.cell 1) (And.intro (B4.cell 2) (B4.cell 3)))
 simp only [List.setIfInBounds_toArray, List.set_cons_zero, List.set_cons_succ, List.getElem?_toArray, List.getElem?_cons_zero, List.getElem?_cons_succ] at d0 d1 d2 d3
 clear r0 r1 r2 r3 f0 f1 f2 f3
 refine bodyPost_ret (v := .agg #[.int .i64 1, str [110, 111, 110, 101], .int .u64 0, .int .u64 0]) (by simp [results, Tryz.results138, go_sem, d0, d1, d2, d3]) rfl (Ret.mk rfl ((((HE1.out.setCell (.inr (by show w.heap.size <= w.heap.size + 1; omega)) _).setCell (.inr (by show w.heap.size <= w.heap.size + 1; omega)) _).setCell (.inr (by show w.heap.size <= w.heap.size + 1; omega)) _).setCell (.inr (by show w.heap.size <= w.heap.size + 1; omega)) _))
set_option maxRecDepth 20000 in
set_option maxHeartbeats 800000 in
theorem eread_7 (n : Nat) (s : List UInt8) (op : Bool) (ch : Nat -> T) (b o c : Nat) (A0 A1 : Option Addr) (c0 c1 : Nat) (hk0 : (ch 0).kind = 0) (hn0 : (ch 0).n = 1) (hk1 : (ch 1).kind ≠ 3) (w : World) (hb : b < w.heap.size) (h0 : At5 w b o (ch 0) A0 c0) (h1 : At5 w b (o + 5) (ch 1) A1 c1) : Calls Tryz.prog 138 #[.agg #[.int .i64 4, .int .u64 (n : Int), str s, .slice (some ⟨b, o, none⟩) 2 c, .bool op]] w (Ret noneE.v w) := by
 have HE := hid (((Mod.refl [] w).alloc (.cells #[.int .i64 4, .int .u64 (n : Int), str s, .slice (some ⟨b, o, none⟩) 2 c, .bool op] 86)).alloc (.cells #[.int .i64 0, .string ⟨#[]⟩, .int .u64 0, .int .u64 0] 24))
 obtain ⟨x0, x1, x2, x3, x4⟩ := h0.mod HE.out hb (by simp)
 obtain ⟨y0, y1, y2, y3, y4⟩ := h1.mod HE.out hb (by simp)
 rw [hk0] at x0
 rw [hn0] at x1
 have n1 : ((ch 1).kind == 3) = false := by simpa using hk1
 have n2 : ((ch 1).kind = 3) = False := by simpa using hk1
 have HE3 := hid (HE.out.alloc (.cells #[.int .i64 (ch 1).kind, .int .u64 ((ch 1).n : Int), str (ch 1).s, .slice A1 (ch 1).k c1, .bool (ch 1).op] 86))
 have gx1 : (((w.alloc (.cells #[.int .i64 4, .int .u64 (n : Int), str s, .slice (some ⟨b, o, none⟩) 2 c, .bool op] 86)).alloc (.cells #[.int .i64 0, .string ⟨#[]⟩, .int .u64 0, .int .u64 0] 24)).alloc (.cells #[.int .i64 (ch 1).kind, .int .u64 ((ch 1).n : Int), str (ch 1).s, .slice A1 (ch 1).k c1, .bool (ch 1).op] 86)).cell? ⟨b, o + 1, none⟩ = some (.int .u64 1) := by have := (h0.mod HE3.out hb (by simp)).2.1; rw [hn0] at this; exact this
 clear hk0 hn0 hk1 h0 h1
 have HQ := hid ((Blk.new' (w.alloc (.cells #[.int .i64 4, .int .u64 (n : Int), str s, .slice (some ⟨b, o, none⟩) 2 c, .bool op] 86)) 24 #[.int .i64 0, .string ⟨#[]⟩, .int .u64 0, .int .u64 0] (N := w.heap.size + 1) (by simp)).alloc (.cells #[.int .i64 (ch 1).kind, .int .u64 ((ch 1).n : Int), str (ch 1).s, .slice A1 (ch 1).k c1, .bool (ch 1).op] 86))
 go_enter Tryz.func138, Tryz.ntmps138
 go_wp2_with fail
 refine (eidNone_any _).mono ?_
 rintro e w1 ⟨rfl, hb1⟩
 have HE1 : Hid (Ext w w1) := HE3.out.trans hb1
 have HQ1 := hid (HQ.out.ext hb1)
 clear hb1
 obtain ⟨r0, r1, r2, r3⟩ : w1.cell? ⟨w.heap.size + 1, 0, none⟩ = some (.int .i64 0) /\ w1.cell? ⟨w.heap.size + 1, 1, none⟩ = some (str []) /\ w1.cell? ⟨w.heap.size + 1, 2, none⟩ = some (.int .u64 0) /\ w1.cell? ⟨w.heap.size + 1, 3, none⟩ = some (.int .u64 0) := ⟨HQ1.out.cell 0, HQ1.out.cell 1, HQ1.out.cell 2, HQ1.out.cell 3⟩
 have f0 := Blk.frozen HQ1.out 0
 have f1 := Blk.frozen HQ1.out 1
 have f2 := Blk.frozen HQ1.out 2
 have f3 := Blk.frozen HQ1.out 3
 go_wp2_with fail
 have B4 := (((HQ1.out.set_ 0 (.int .i64 1)).set_ 1 (str [110, 111, 110, 101])).set_ 2 (.int .u64 0)).set_ 3 (.int .u64 0)
 obtain ⟨d0, d1, d2, d3⟩ := And.intro (B4.cell 0) (And.intro (B4.cell 1) (And.intro (B4.cell 2) (B4.cell 3)))
 simp only [List.setIfInBounds_toArray, List.set_cons_zero, List.set_cons_succ, List.getElem?_toArray, List.getElem?_cons_zero, List.getElem?_cons_succ] at d0 d1 d2 d3
 clear r0 r1 r2 r3 f0 f1 f2 f3
 refine bodyPost_ret (v := .agg #[.int .i64 1, str [110, 111, 110, 101], .int .u64 0, .int .u64 0]) (by simp [results, Tryz.results138, go_sem, d0, d1, d2, d3]) rfl (Ret.mk rfl ((((HE1.out.setCell (.inr (by show w.heap.size <= w.heap.size + 1; omega)) _).setCell (.inr (by show w.heap.size <= w.heap.size + 1; omega)) _).setCell (.inr (by show w.heap.size <= w.heap.size + 1; omega)) _).setCell (.inr (by show w.heap.size <= w.heap.size + 1; omega)) _))
set_option maxRecDepth 20000 in
set_option maxHeartbeats 800000 in
theorem eread_8 (n : Nat) (s : List UInt8) (op : Bool) (ch : Nat -> T) (b o c : Nat) (A0 A1 : Option Addr) (c0 c1 : Nat) (hk0 : (ch 0).kind = 0) (hn0 : (ch 0).n ≠ 1) (hn2 : (ch 0).n ≠ 2) (w : World) (hb : b < w.heap.size) (h0 : At5 w b o (ch 0) A0 c0) (h1 : At5 w b (o + 5) (ch 1) A1 c1) : Calls Tryz.prog 138 #[.agg #[.int .i64 4, .int .u64 (n : Int), str s, .slice (some ⟨b, o, none⟩) 2 c, .bool op]] w (Ret noneE.v w) := by
 have HE := hid (((Mod.refl [] w).alloc (.cells #[.int .i64 4, .int .u64 (n : Int), str s, .slice (some ⟨b, o, none⟩) 2 c, .bool op] 86)).alloc (.cells #[.int .i64 0, .string ⟨#[]⟩, .int .u64 0, .int .u64 0] 24))
 obtain ⟨x0, x1, x2, x3, x4⟩ := h0.mod HE.out hb (by simp)
 obtain ⟨y0, y1, y2, y3, y4⟩ := h1.mod HE.out hb (by simp)
 rw [hk0] at x0
 have n1 : (((ch 0).n : Int) == 1) = false := by simp; omega
 have n2 : (((ch 0).n : Int) = 1) = False := by simp; omega
 have n3 : (((ch 0).n : Int) == 2) = false := by simp; omega
 have n4 : (((ch 0).n : Int) = 2) = False := by simp; omega
 have HE3 := hid (HE.out.alloc (.cells #[.int .i64 (ch 1).kind, .int .u64 ((ch 1).n : Int), str (ch 1).s, .slice A1 (ch 1).k c1, .bool (ch 1).op] 86))
 have gx1 : (((w.alloc (.cells #[.int .i64 4, .int .u64 (n : Int), str s, .slice (some ⟨b, o, none⟩) 2 c, .bool op] 86)).alloc (.cells #[.int .i64 0, .string ⟨#[]⟩, .int .u64 0, .int .u64 0] 24)).alloc (.cells #[.int .i64 (ch 1).kind, .int .u64 ((ch 1).n : Int), str (ch 1).s, .slice A1 (ch 1).k c1, .bool (ch 1).op] 86)).cell? ⟨b, o + 1, none⟩ = some (.int .u64 ((ch 0).n : Int)) := by have := (h0.mod HE3.out hb (by simp)).2.1; exact this
 clear hk0 hn0 hn2 h0 h1
 have HQ := hid ((Blk.new' (w.alloc (.cells #[.int .i64 4, .int .u64 (n : Int), str s, .slice (some ⟨b, o, none⟩) 2 c, .bool op] 86)) 24 #[.int .i64 0, .string ⟨#[]⟩, .int .u64 0, .int .u64 0] (N := w.heap.size + 1) (by simp)).alloc (.cells #[.int .i64 (ch 1).kind, .int .u64 ((ch 1).n : Int), str (ch 1).s, .slice A1 (ch 1).k c1, .bool (ch 1).op] 86))
 go_enter Tryz.func138, Tryz.ntmps138
 go_wp2_with fail
 refine (eidNone_any _).mono ?_
 rintro e w1 ⟨rfl, hb1⟩
 have HE1 : Hid (Ext w w1) := HE3.out.trans hb1
 have HQ1 := hid (HQ.out.ext hb1)
 clear hb1
 obtain ⟨r0, r1, r2, r3⟩ : w1.cell? ⟨w.heap.size + 1, 0, none⟩ = some (.int .i64 0) /\ w1.cell? ⟨w.heap.size + 1, 1, none⟩ = some (str []) /\ w1.cell? ⟨w.heap.size + 1, 2, none⟩ = some (.int .u64 0) /\ w1.cell? ⟨w.heap.size + 1, 3, none⟩ = some (.int .u64 0) := ⟨HQ1.out.cell 0, HQ1.out.cell 1, HQ1.out.cell 2, HQ1.out.cell 3⟩
 have f0 := Blk.frozen HQ1.out 0
 have f1 := Blk.frozen HQ1.out 1
 have f2 := Blk.frozen HQ1.out 2
 have f3 := Blk.frozen HQ1.out 3
 go_wp2_with fail
 have B4 := (((HQ1.out.set_ 0 (.int .i64 1)).set_ 1 (str [110, 111, 110, 101])).set_ 2 (.int .u64 0)).set_ 3 (.int .u64 0)
 obtain ⟨d0, d1, d2, d3⟩ := And.intro (B4.cell 0) (And.intro (B4.cell 1) (And.intro (B4.cell 2) (B4.cell 3)))
 simp only [List.setIfInBounds_toArray, List.set_cons_zero, List.set_cons_succ, List.getElem?_toArray, List.getElem?_cons_zero, List.getElem?_cons_succ] at d0 d1 d2 d3
 clear r0 r1 r2 r3 f0 f1 f2 f3
 refine bodyPost_ret (v := .agg #[.int .i64 1, str [110, 111, 110, 101], .int .u64 0, .int .u64 0]) (by simp [results, Tryz.results138, go_sem, d0, d1, d2, d3]) rfl (Ret.mk rfl ((((HE1.out.setCell (.inr (by show w.heap.size <= w.heap.size + 1; omega)) _).setCell (.inr (by show w.heap.size <= w.heap.size + 1; omega)) _).setCell (.inr (by show w.heap.size <= w.heap.size + 1; omega)) _).setCell (.inr (by show w.heap.size <= w.heap.size + 1; omega)) _))
theorem eread_any (t : T) (ht : t ≠ T.nil) (A : Option Addr) (c : Nat) (w : World) (h : IsL w (fun _ => True) t A) : Calls Tryz.prog 138 #[itemV t A c] w (Ret (readE t).v w) := by
 by_cases h4 : t.kind = 4
 case neg =>
  have e : readE t = zeroE := by unfold readE; rw [if_pos (Or.inl h4)]
  rw [e]; exact eread_1 t A c h4 w
 obtain ⟨kind, n, s, op, k, ch, rfl⟩ : ∃ kind n s op k ch, t = T.mk kind n s op k ch := by cases t with | nil => exact absurd rfl ht | mk a b d e f g => exact ⟨a, b, d, e, f, g, rfl⟩
 have h4 : kind = 4 := h4
 subst h4
 by_cases hk : k = 2
 case neg =>
  have e : readE (T.mk 4 n s op k ch) = zeroE := by unfold readE; rw [if_pos (Or.inr (Or.inl (show (T.mk 4 n s op k ch).k ≠ 2 from hk)))]
  rw [e]; exact eread_2 n s op k A c hk w
 subst hk
 obtain ⟨b, o, ac, rfl, hb, _, hc⟩ := h.rows (by omega)
 obtain ⟨a0, i0⟩ := hc 0 (by omega)
 obtain ⟨a1, i1⟩ := hc 1 (by omega)
 have a0 : At5 w b o (ch 0) (ac 0).1 (ac 0).2 := by simpa using a0
 have a1 : At5 w b (o + 5) (ch 1) (ac 1).1 (ac 1).2 := by simpa using a1
 by_cases hk0 : (ch 0).kind = 0
 case neg =>
  have e : readE (T.mk 4 n s op 2 ch) = zeroE := by unfold readE; rw [if_pos (Or.inr (Or.inr (show ((T.mk 4 n s op 2 ch).ch 0).kind ≠ 0 from hk0)))]
  rw [e]; exact eread_3 n s op ch b o c _ _ _ _ hk0 w hb a0 a1
 have hz : ¬ ((T.mk 4 n s op 2 ch).kind ≠ 4 \/ (T.mk 4 n s op 2 ch).k ≠ 2 \/ ((T.mk 4 n s op 2 ch).ch 0).kind ≠ 0) := by
  rintro (h | h | h)
  . exact h rfl
  . exact h rfl
  . exact h hk0
 by_cases hn2 : (ch 0).n = 2
 .
  by_cases hk1 : (ch 1).k = 2
  .
   have e : readE (T.mk 4 n s op 2 ch) = ⟨2, [], ((ch 1).ch 0).n, ((ch 1).ch 1).n⟩ := by unfold readE; rw [if_neg hz, if_pos ⟨hn2, hk1⟩]; rfl
   rw [e]
   cases hc1 : ch 1 with
   | nil => rw [hc1] at hk1; cases hk1
   | mk k1 n1 s1 op1 kk ch1 =>
    rw [hc1] at i1 hk1
    have hkk : kk = 2 := hk1
    subst hkk
    obtain ⟨b1, o1, ac1, hA, hb1, _, hcc⟩ := i1.rows (by omega)
    obtain ⟨q0, _⟩ := hcc 0 (by omega)
    obtain ⟨q1, _⟩ := hcc 1 (by omega)
    have q0 : At5 w b1 o1 (ch1 0) (ac1 0).1 (ac1 0).2 := by simpa using q0
    have q1 : At5 w b1 (o1 + 5) (ch1 1) (ac1 1).1 (ac1 1).2 := by simpa using q1
    have h := eread_4 n s op ch b o c _ _ _ _ b1 o1 _ _ _ _ hk0 hn2 (by rw [hc1]; rfl) hA w hb a0 a1 hb1 (by rw [hc1]; exact q0) (by rw [hc1]; exact q1)
    rw [hc1] at h
    exact h
  .
   have e : readE (T.mk 4 n s op 2 ch) = noneE := by unfold readE; rw [if_neg hz, if_neg (fun h => hk1 h.2), if_neg (fun h => by have : (ch 0).n = 1 := h.1; omega)]
   rw [e]; exact eread_6 n s op ch b o c _ _ _ _ hk0 hn2 hk1 w hb a0 a1
 .
  by_cases hn1 : (ch 0).n = 1
  .
   by_cases hk1 : (ch 1).kind = 3
   .
    have e : readE (T.mk 4 n s op 2 ch) = ⟨1, (ch 1).s, 0, 0⟩ := by unfold readE; rw [if_neg hz, if_neg (fun h => hn2 h.1), if_pos ⟨hn1, hk1⟩]; rfl
    rw [e]; exact eread_5 n s op ch b o c _ _ _ _ hk0 hn1 hk1 w hb a0 a1
   .
    have e : readE (T.mk 4 n s op 2 ch) = noneE := by unfold readE; rw [if_neg hz, if_neg (fun h => hn2 h.1), if_neg (fun h => hk1 h.2)]
    rw [e]; exact eread_7 n s op ch b o c _ _ _ _ hk0 hn1 hk1 w hb a0 a1
  .
   have e : readE (T.mk 4 n s op 2 ch) = noneE := by unfold readE; rw [if_neg hz, if_neg (fun h => hn2 h.1), if_neg (fun h => hn1 h.1)]
   rw [e]; exact eread_8 n s op ch b o c _ _ _ _ hk0 hn1 hn2 w hb a0 a1
end Go.Proofs.YthecmnbkjchjmaaGreat


namespace Go.Proofs.YthecmnbkjchjmaaGreat
open Go.RowKit
set_option linter.unusedVariables false
set_option linter.unusedSimpArgs false

def putT (ch : Nat -> T) (i : Nat) (t : T) (j : Nat) : T := if j = i then t else ch j
def putP (ac : Nat -> Option Addr × Nat) (i : Nat) (a : Option Addr × Nat) (j : Nat) : Option Addr × Nat := if j = i then a else ac j
theorem putT_self (ch : Nat -> T) (i : Nat) : putT ch i (ch i) = ch := by
 funext j
 unfold putT
 by_cases h : j = i
 . rw [if_pos h, h]
 . rw [if_neg h]

structure GL (Q0 : Nat -> Prop) (N : Nat) (wr : World) (i : Nat) (A : Option Addr) (c : Nat) (ch : Nat -> T) (ac : Nat -> Option Addr × Nat) : Prop where
 nx : N <= wr.heap.size
 own : wr.ownsRow N 86 5 (.slice A i c) i (flatC ch ac i)
 mem : ∀ j, j < i -> IsL wr (fun b => Q0 b /\ A ≠ some ⟨b, 0, none⟩) (ch j) (ac j).1

section
variable {Q0 : Nat -> Prop} {N : Nat} {wr : World} {i : Nat} {A : Option Addr} {c : Nat} {ch : Nat -> T} {ac : Nat -> Option Addr × Nat}
theorem GL.nil (Q0 : Nat -> Prop) {N : Nat} {wr : World} (h : N <= wr.heap.size) (ch : Nat -> T) (ac : Nat -> Option Addr × Nat) : GL Q0 N wr 0 none 0 ch ac := ⟨h, World.ownsRow_nil _ _ _ _, fun j hj => by omega⟩
theorem GL.mod (h : GL Q0 N wr i A c ch ac) {w2 : World} {S : List Nat} (hm : Mod S wr w2) (hS : ∀ k, k ∈ S -> k < N /\ ¬ Q0 k) : GL Q0 N w2 i A c ch ac :=
 ⟨Nat.le_trans h.nx hm.size, ownsRow_mod h.own hm (fun k hk hm => by have := (h.own.lt k hk).1; have := (hS k hm).1; omega), fun j hj => IsL.mod hm (fun k hq _ hk => (hS k hk).2 hq.1) (ch j) (h.mem j hj)⟩
theorem GL.ext (h : GL Q0 N wr i A c ch ac) {w2 : World} (hm : Ext wr w2) : GL Q0 N w2 i A c ch ac := h.mod hm (fun k hk => by cases hk)
theorem GL.own2 (h : GL Q0 N wr i A c ch ac) {w2 : World} (hm : Ext wr w2) (ob : Obj) : (w2.alloc ob).ownsRow N 86 5 (.slice A i c) i (flatC ch ac i) := (h.ext hm).own.alloc ob
theorem GL.room (h : GL Q0 N wr i A c ch ac) {w2 : World} (hm : Ext wr w2) : N <= w2.heap.size := Nat.le_trans h.nx hm.size
theorem GL.turned (h : GL Q0 N wr i A c ch ac) {w2 w4 : World} (hm : Ext wr w2) {ob : Obj} (hgr : (w2.alloc ob).grownBy w4 (Value.slice A i c).ownBlock) : ∃ S, (∀ k, k ∈ S ↔ (Value.slice A i c).ownBlock = some k) /\ Mod S w2 w4 := by
 obtain ⟨S, hS⟩ : ∃ S : List Nat, ∀ k, k ∈ S ↔ (Value.slice A i c).ownBlock = some k := by
  cases A with
  | none => exact ⟨[], fun k => by simp [Value.ownBlock]⟩
  | some a => exact ⟨[a.block], fun k => by simp [Value.ownBlock, eq_comm]⟩
 exact ⟨S, hS, ((Mod.refl S w2).alloc _).grown hgr (fun k hk => .inl ((hS k).2 hk))⟩
theorem GL.keep (h : GL Q0 N wr i A c ch ac) {w2 w4 : World} (hm : Ext wr w2) {ob : Obj} (hgr : (w2.alloc ob).grownBy w4 (Value.slice A i c).ownBlock) {b : Nat} {ty : TypeId} {cs : Array Value} (hB : Blk wr b ty cs) (hbN : b < N) : Blk w4 b ty cs := by
 obtain ⟨S, hS, hm4⟩ := h.turned hm hgr
 exact (hB.ext hm).mod hm4 (fun hk => by have := (h.own.lt b ((hS b).1 hk)).1; omega)
theorem GL.since (h : GL Q0 N wr i A c ch ac) {w w2 w4 : World} (hw : Ext w wr) (hwN : w.heap.size <= N) (hm : Ext wr w2) {ob : Obj} (hgr : (w2.alloc ob).grownBy w4 (Value.slice A i c).ownBlock) : Ext w w4 := by
 obtain ⟨S, hS, hm4⟩ := h.turned hm hgr
 refine Mod.new (S := S) (((hw.trans hm).of_ext).trans hm4) (fun k hk => .inr ?_)
 have := (h.own.lt k ((hS k).1 hk)).1; omega
theorem GL.step (h : GL Q0 N wr i A c ch ac) {w2 w4 : World} (hm : Ext wr w2) {t : T} {At : Option Addr} {ct : Nat} {v' : Value}
  (hL : IsL w2 (fun b => Q0 b /\ (b < N \/ wr.heap.size <= b)) t At)
  (hown : w4.ownsRow N 86 5 v' (i + 1) (flatC ch ac i ++ [.int .i64 t.kind, .int .u64 (t.n : Int), str t.s, .slice At t.k ct, .bool t.op])) {ob : Obj} (hgr : (w2.alloc ob).grownBy w4 (Value.slice A i c).ownBlock)
  (hbl : v'.ownBlock = (Value.slice A i c).ownBlock \/ ∀ k, v'.ownBlock = some k -> w2.heap.size <= k) :
  ∃ g' c', v' = .slice (some ⟨g', 0, none⟩) (i + 1) c' /\ GL Q0 N w4 (i + 1) (some ⟨g', 0, none⟩) c' (putT ch i t) (putP ac i (At, ct)) := by
 obtain ⟨S, hS, hm4⟩ := h.turned hm hgr
 obtain ⟨h8, h11, h12⟩ := h
 obtain ⟨g', c', rfl, hNg, hgl⟩ := own_form hown
 refine ⟨g', c', rfl, ?_⟩
 have hs2 := hm.size
 have hs4 := hm4.size
 have hrow : ∀ k, (Value.slice A i c).ownBlock = some k -> N <= k /\ k < wr.heap.size := h11.lt
 have hA' : ∀ b, b < wr.heap.size -> A ≠ some ⟨b, 0, none⟩ -> (some ⟨g', 0, none⟩ : Option Addr) ≠ some ⟨b, 0, none⟩ := by
  intro b hb hne he
  simp only [Option.some.injEq, Addr.mk.injEq, and_true] at he
  subst he
  rcases hbl with hbl | hbl
  .
   cases A with
   | none => simp [Value.ownBlock] at hbl
   | some a =>
    simp [Value.ownBlock] at hbl
    rcases h11.2 with ⟨hs, _⟩ | ⟨q, cap, cur, hs, _⟩
    . cases hs
    .
     simp only [Value.slice.injEq, Option.some.injEq] at hs
     obtain ⟨rfl, _⟩ := hs
     simp at hbl
     subst hbl
     exact hne rfl
  . have := hbl g' rfl; omega
 refine ⟨by omega, ?_, ?_⟩
 .
  rw [flatC, flatC_congr (ch := putT ch i t) (ac := putP ac i (At, ct)) (ch' := ch) (ac' := ac) (fun j hj => ⟨if_neg (by omega), if_neg (by omega)⟩), show putT ch i t i = t from if_pos rfl, show putP ac i (At, ct) i = (At, ct) from if_pos rfl]
  exact hown
 .
  intro j hj
  by_cases e : j = i
  .
   subst e
   rw [show putT ch j t j = t from if_pos rfl, show putP ac j (At, ct) j = (At, ct) from if_pos rfl]
   have q1 : IsL w2 (fun b => (Q0 b /\ (some ⟨g', 0, none⟩ : Option Addr) ≠ some ⟨b, 0, none⟩) /\ b ∉ S) t At := IsL.weak (fun k hk hq => ⟨⟨hq.1, fun he => by
    simp only [Option.some.injEq, Addr.mk.injEq, and_true] at he
    subst he
    rcases hbl with hbl | hbl
    . have := hrow g' hbl.symm; have := hq.2; omega
    . have := hbl g' rfl; have := hq.2; omega⟩, fun hkS => by have := hrow k ((hS k).1 hkS); have := hq.2; omega⟩) t hL
   exact IsL.weak (fun k hk hq => hq.1) t (IsL.mod hm4 (fun k hq hk hmm => hq.2 hmm) t q1)
  .
   rw [show putT ch i t j = ch j from if_neg e, show putP ac i (At, ct) j = ac j from if_neg e]
   have q0 := IsL.weak (R := fun b => (Q0 b /\ (some ⟨g', 0, none⟩ : Option Addr) ≠ some ⟨b, 0, none⟩) /\ A ≠ some ⟨b, 0, none⟩) (fun k hk hq => ⟨⟨hq.1, hA' k hk hq.2⟩, hq.2⟩) (ch j) (h12 j (by omega))
   have q1 := IsL.mod hm (fun k hq hk hm => by cases hm) (ch j) q0
   have q2 := IsL.mod hm4 (fun k hq hk hm => by
    have hk2 := (hS k).1 hm
    cases A with
    | none => simp [Value.ownBlock] at hk2
    | some a =>
     simp [Value.ownBlock] at hk2
     rcases h11.2 with ⟨hs, _⟩ | ⟨q, cap, cur, hs, _⟩
     . cases hs
     .
      simp only [Value.slice.injEq, Option.some.injEq] at hs
      obtain ⟨rfl, _⟩ := hs
      simp at hk2
      subst hk2
      exact hq.2 rfl) (ch j) q1
   exact IsL.weak (fun k hk hq => hq.1) (ch j) q2
theorem GL.isL (h : GL Q0 N wr i A c ch ac) {Q : Nat -> Prop} (hQ : ∀ b, Q0 b -> Q b) (hN : ∀ b, N <= b -> Q b) (op : Bool) : IsL wr Q (T.mk 4 0 [] op i ch) A := by
 intro h0
 obtain ⟨i', rfl⟩ : ∃ i', i = i' + 1 := ⟨i - 1, by omega⟩
 obtain ⟨g', c', hv, hNg, hgl⟩ := own_form h.own
 simp only [Value.slice.injEq] at hv
 obtain ⟨rfl, _, rfl⟩ := hv
 refine ⟨g', 0, rfl, hgl, hN _ hNg, fun j hj => ⟨(ac j).1, (ac j).2, ?_, IsL.weak (fun k hk hq => hQ _ hq.1) (ch j) (h.mem j hj)⟩⟩
 obtain ⟨f0, f1, f2, f3, f4⟩ := flatC_get ch ac (i' + 1) j hj
 refine ⟨?_, ?_, ?_, ?_, ?_⟩
 . rw [Nat.zero_add]; exact own_cells h.own f0
 . rw [Nat.zero_add]; exact own_cells h.own f1
 . rw [Nat.zero_add]; exact own_cells h.own f2
 . rw [Nat.zero_add]; exact own_cells h.own f3
 . rw [Nat.zero_add]; exact own_cells h.own f4
end
end Go.Proofs.YthecmnbkjchjmaaGreat


namespace Go.Proofs.YthecmnbkjchjmaaGreat
open Go.RowKit
set_option linter.unusedVariables false
set_option linter.unusedSimpArgs false

theorem infoBlock : (Tryz.prog.info? 38).map (fun i => (i.zero, i.size, i.bytes)) = some (some (.agg #[.int .i64 0, .int .i64 0, .int .u64 0, .int .i64 0, .string ⟨#[]⟩]), 5, 48) := by kernel_rfl
def flatB (bs : Nat -> BV) : Nat -> List Value
 | 0 => []
 | i + 1 => flatB bs i ++ [.int .i64 (bs i).ty, .int .i64 (bs i).num, .int .u64 ((bs i).fl : Int), .int .i64 (bs i).crc, str (bs i).data]
theorem flatB_length (bs : Nat -> BV) (i : Nat) : (flatB bs i).length = i * 5 := by
 induction i with
 | zero => rfl
 | succ i ih => rw [flatB, List.length_append, ih]; simp; omega
theorem flatB_get (bs : Nat -> BV) (i : Nat) : ∀ j, j < i -> (flatB bs i)[j * 5]? = some (.int .i64 (bs j).ty) /\ (flatB bs i)[j * 5 + 1]? = some (.int .i64 (bs j).num) /\ (flatB bs i)[j * 5 + 2]? = some (.int .u64 ((bs j).fl : Int)) /\
  (flatB bs i)[j * 5 + 3]? = some (.int .i64 (bs j).crc) /\ (flatB bs i)[j * 5 + 4]? = some (str (bs j).data) := by
 induction i with
 | zero => intro j hj; omega
 | succ i ih =>
  intro j hj
  have hl := flatB_length bs i
  rw [flatB]
  by_cases e : j = i
  .
   subst e
   refine ⟨?_, ?_, ?_, ?_, ?_⟩ <;> (rw [List.getElem?_append_right (by omega), hl]; simp)
  .
   have := ih j (by omega)
   refine ⟨?_, ?_, ?_, ?_, ?_⟩ <;> rw [List.getElem?_append_left (by omega)]
   . exact this.1
   . exact this.2.1
   . exact this.2.2.1
   . exact this.2.2.2.1
   . exact this.2.2.2.2
theorem flatB_idx (bs : Nat -> BV) (k : Nat) {j : Nat} {u : Value} (h : (flatB bs k)[j]? = some u) : ∃ i r, i < k /\ r < 5 /\ j = i * 5 + r := by
 have := (List.getElem?_eq_some_iff.1 h).1
 rw [flatB_length] at this
 exact ⟨j / 5, j % 5, by omega, by omega, by omega⟩
theorem flatB_news {W : World} {b o : Nat} {bs : Nat -> BV} {k : Nat} (h : ∀ i, i < k -> BAt W b (o + i * 5) (bs i)) : ∀ j u, (flatB bs k)[j]? = some u -> W.cell? ((⟨b, o, none⟩ : Addr).add j) = some u := by
 intro j u hj
 obtain ⟨i, r, hi, hr, rfl⟩ := flatB_idx bs k hj
 obtain ⟨g0, g1, g2, g3, g4⟩ := flatB_get bs k i hi
 obtain ⟨a0, a1, a2, a3, a4⟩ := h i hi
 rw [addr_add, <- Nat.add_assoc]
 have h5 : r = 0 \/ r = 1 \/ r = 2 \/ r = 3 \/ r = 4 := by omega
 rcases h5 with rfl | rfl | rfl | rfl | rfl
 . rw [<- hj, Nat.add_zero, Nat.add_zero, g0]; exact a0
 . rw [<- hj, g1]; exact a1
 . rw [<- hj, g2]; exact a2
 . rw [<- hj, g3]; exact a3
 . rw [<- hj, g4]; exact a4
theorem flatB_one (bs : Nat -> BV) (k : Nat) : ∀ u ∈ flatB bs k, u.oneCell' = true := by
 intro u hu
 obtain ⟨j, hj⟩ := List.getElem?_of_mem hu
 obtain ⟨i, r, hi, hr, rfl⟩ := flatB_idx bs k hj
 obtain ⟨g0, g1, g2, g3, g4⟩ := flatB_get bs k i hi
 have h5 : r = 0 \/ r = 1 \/ r = 2 \/ r = 3 \/ r = 4 := by omega
 rcases h5 with rfl | rfl | rfl | rfl | rfl
 . rw [Nat.add_zero, g0] at hj; cases hj; rfl
 . rw [g1] at hj; cases hj; rfl
 . rw [g2] at hj; cases hj; rfl
 . rw [g3] at hj; cases hj; rfl
 . rw [g4] at hj; cases hj; rfl
theorem oneB (b : BV) : ∀ u ∈ [Value.int .i64 b.ty, .int .i64 b.num, .int .u64 (b.fl : Int), .int .i64 b.crc, str b.data], u.oneCell' = true := by
 intro u hu
 simp at hu
 rcases hu with rfl | rfl | rfl | rfl | rfl <;> rfl
theorem own_BsL {W : World} {base k c : Nat} {A : Option Addr} {bs : Nat -> BV} (h : W.ownsRow base 38 5 (.slice A k c) k (flatB bs k)) : BsL W A k bs := by
 intro h0
 obtain ⟨k', rfl⟩ : ∃ k', k = k' + 1 := ⟨k - 1, by omega⟩
 obtain ⟨g, c', hv, hb, hlt⟩ := own_form h
 simp only [Value.slice.injEq] at hv
 obtain ⟨rfl, _, rfl⟩ := hv
 refine ⟨g, 0, rfl, hlt, fun i hi => ?_⟩
 obtain ⟨g0, g1, g2, g3, g4⟩ := flatB_get bs (k' + 1) i hi
 refine ⟨?_, ?_, ?_, ?_, ?_⟩ <;> rw [Nat.zero_add]
 . exact own_cells h g0
 . exact own_cells h g1
 . exact own_cells h g2
 . exact own_cells h g3
 . exact own_cells h g4
end Go.Proofs.YthecmnbkjchjmaaGreat


namespace Go.Proofs.YthecmnbkjchjmaaGreat
open Go.RowKit
set_option linter.unusedVariables false
set_option linter.unusedSimpArgs false

set_option maxHeartbeats 800000 in
theorem CloneB_any (bs : Nat -> BV) (k : Nat) (hk : Hid (0 < k /\ k <= 100000)) (A : Option Addr) (c : Nat) (w : World) (h : BsL w A k bs) :
  Calls Tryz.prog 82 #[.slice A k c] w (fun e w' => ∃ (g c' : Nat), e = .returned (.slice (some ⟨g, 0, none⟩) k c') /\ Ext w w' /\ w'.ownsRow w.heap.size 38 5 (.slice (some ⟨g, 0, none⟩) k c') k (flatB bs k)) := by
 have he := Lib.run_eql_slice_nil (P := Tryz.prog)
 obtain ⟨i0, hi, hz0, hz1, hz2⟩ := info_parts infoBlock
 obtain ⟨b, o, rfl, hb, hc⟩ := h hk.out.1
 have hl := World.ownsRow_lit (base := w.heap.size) (e := 38) (size := 5) w #[] 0 (Nat.le_refl _) (Nat.zero_le _) rfl
 have hnews : Hid (∀ j u, (flatB bs k)[j]? = some u -> (w.alloc (.cells #[] 38)).cell? ((⟨b, o, none⟩ : Addr).add j) = some u) := flatB_news fun i hi => (hc i hi).mod (S := []) ((Mod.refl _ _).alloc _) hb (by simp)
 have hfl := hid (flatB_length bs k)
 have hfc := hid (flatB_one bs k)
 clear hc h
 go_enter Tryz.func82, Tryz.ntmps82
 go_wp2_with (at_builtin; refine wpList_append_own _ rfl _ _ 27 rfl w.heap.size 38 i0 _ 5 48 Tryz.underlying27 hi hz0 hz1 hz2 rfl (by decide) _ _ _ rfl hl ⟨b, o, none⟩ k c (flatB bs k) rfl hfl.out hnews.out hfc.out (by have := hk.out; unfold maxLen; omega) (by have := hk.out; omega) (by simp) ?_; intro v' w1 hown' hgrow hnil)
 have hg2 : (w.alloc (.cells #[] 38)).grownBy w1 (some w.heap.size) := hgrow
 have hm : Ext w w1 := ((Mod.refl [] w).alloc (.cells #[] 38)).grown hg2 (fun k hk => .inr (by cases hk; exact Nat.le_refl _))
 have hown2 : w1.ownsRow w.heap.size 38 5 v' k (flatB bs k) := by simpa using hown'
 obtain ⟨m, rfl⟩ : ∃ m, k = m + 1 := ⟨k - 1, by have := hk.out.1; omega⟩
 obtain ⟨g, c', rfl, hg, hlt⟩ := own_form hown2
 go_wp2
 go_ret
 exact ⟨g, c', rfl, hm, hown2⟩
end Go.Proofs.YthecmnbkjchjmaaGreat
