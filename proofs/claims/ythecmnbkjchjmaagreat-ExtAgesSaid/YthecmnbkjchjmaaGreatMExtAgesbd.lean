/-
 What is read of any bytes: hops.
-/
import Derived.Test.YthecmnbkjchjmaaGreatMExtAgesbc

namespace Go.Proofs.YthecmnbkjchjmaaGreat
open Go.RowKit
set_option linter.unusedVariables false
set_option linter.unusedSimpArgs false

def RhPost (t : T) (w : World) (e : Ending) (w' : World) : Prop := ∃ a b : Int, Ret (.tuple #[.agg #[.int .i64 a, .int .i64 b], .bool (hopsB t)]) w e w' /\ (hopsB t = true -> a = ((t.ch 0).n : Int) /\ b = ((t.ch 1).n : Int))
theorem RhPost.no {t : T} {w w' : World} {e : Ending} (hB : hopsB t = false) {a b : Int} (h : Ret (.tuple #[.agg #[.int .i64 a, .int .i64 b], .bool false]) w e w') : RhPost t w e w' := ⟨a, b, by rw [hB]; exact h, fun h => by rw [hB] at h; cases h⟩
set_option maxRecDepth 20000 in
set_option maxHeartbeats 800000 in
theorem rh1_no1 (t : T) (hk : t.kind ≠ 4) (A : Option Addr) (c : Nat) (w : World) : Calls Tryz.prog 67 #[itemV t A c] w (Ret (.tuple #[.agg #[.int .i64 0, .int .i64 0], .bool false]) w) := by
 have n1 : (t.kind == 4) = false := by simpa using hk
 have n2 : (t.kind = 4) = False := by simpa using hk
 have n3 : (t.kind != 4) = true := by simpa using hk
 clear hk
 have HE := hid (((Mod.refl [] w).alloc (.cells (itemC t A c) 86)).alloc (.cells #[.int .i64 0, .int .i64 0] 75))
 go_enter Tryz.func67, Tryz.ntmps67
 go_wp2_with fail
 refine bodyPost_ret (v := .tuple #[.agg #[.int .i64 0, .int .i64 0], .bool false]) (by simp [results, Tryz.results67, go_sem]) rfl (Ret.mk rfl HE.out)
set_option maxRecDepth 20000 in
set_option maxHeartbeats 800000 in
theorem rh1_no2 (n : Nat) (s : List UInt8) (k : Nat) (A : Option Addr) (c : Nat) (w : World) : Calls Tryz.prog 67 #[.agg #[.int .i64 4, .int .u64 (n : Int), str s, .slice A k c, .bool true]] w (Ret (.tuple #[.agg #[.int .i64 0, .int .i64 0], .bool false]) w) := by
 have HE := hid (((Mod.refl [] w).alloc (.cells #[.int .i64 4, .int .u64 (n : Int), str s, .slice A k c, .bool true] 86)).alloc (.cells #[.int .i64 0, .int .i64 0] 75))
 go_enter Tryz.func67, Tryz.ntmps67
 go_wp2_with fail
 refine bodyPost_ret (v := .tuple #[.agg #[.int .i64 0, .int .i64 0], .bool false]) (by simp [results, Tryz.results67, go_sem]) rfl (Ret.mk rfl HE.out)
set_option maxRecDepth 20000 in
set_option maxHeartbeats 800000 in
theorem rh1_no3 (n : Nat) (s : List UInt8) (k : Nat) (h : k ≠ 2) (A : Option Addr) (c : Nat) (w : World) : Calls Tryz.prog 67 #[.agg #[.int .i64 4, .int .u64 (n : Int), str s, .slice A k c, .bool false]] w (Ret (.tuple #[.agg #[.int .i64 0, .int .i64 0], .bool false]) w) := by
 have n1 : ((k : Int) == 2) = false := by simp; omega
 have n2 : ((k : Int) = 2) = False := by simp; omega
 have n3 : ((k : Int) != 2) = true := by simp; omega
 clear h
 have HE := hid (((Mod.refl [] w).alloc (.cells #[.int .i64 4, .int .u64 (n : Int), str s, .slice A k c, .bool false] 86)).alloc (.cells #[.int .i64 0, .int .i64 0] 75))
 go_enter Tryz.func67, Tryz.ntmps67
 go_wp2_with fail
 refine bodyPost_ret (v := .tuple #[.agg #[.int .i64 0, .int .i64 0], .bool false]) (by simp [results, Tryz.results67, go_sem]) rfl (Ret.mk rfl HE.out)
set_option maxRecDepth 20000 in
set_option maxHeartbeats 800000 in
theorem rh1_no4 (n : Nat) (s : List UInt8) (ch : Nat -> T) (b o c : Nat) (A0 A1 : Option Addr) (c0 c1 : Nat) (h : (ch 0).kind ≠ 0) (w : World) (hb : b < w.heap.size) (h0 : At5 w b o (ch 0) A0 c0) (h1 : At5 w b (o + 5) (ch 1) A1 c1) : Calls Tryz.prog 67 #[.agg #[.int .i64 4, .int .u64 (n : Int), str s, .slice (some ⟨b, o, none⟩) 2 c, .bool false]] w (Ret (.tuple #[.agg #[.int .i64 0, .int .i64 0], .bool false]) w) := by
 have HE := hid (((Mod.refl [] w).alloc (.cells #[.int .i64 4, .int .u64 (n : Int), str s, .slice (some ⟨b, o, none⟩) 2 c, .bool false] 86)).alloc (.cells #[.int .i64 0, .int .i64 0] 75))
 obtain ⟨x0, x1, x2, x3, x4⟩ := h0.mod HE.out hb (by simp)
 obtain ⟨y0, y1, y2, y3, y4⟩ := h1.mod HE.out hb (by simp)
 have n1 : ((ch 0).kind == 0) = false := by simpa using h
 have n2 : ((ch 0).kind = 0) = False := by simpa using h
 have n3 : ((ch 0).kind != 0) = true := by simpa using h
 clear h h0 h1
 go_enter Tryz.func67, Tryz.ntmps67
 go_wp2_with fail
 refine bodyPost_ret (v := .tuple #[.agg #[.int .i64 0, .int .i64 0], .bool false]) (by simp [results, Tryz.results67, go_sem]) rfl (Ret.mk rfl HE.out)
set_option maxRecDepth 20000 in
set_option maxHeartbeats 800000 in
theorem rh1_no5 (n : Nat) (s : List UInt8) (ch : Nat -> T) (b o c : Nat) (A0 A1 : Option Addr) (c0 c1 : Nat) (hk : (ch 0).kind = 0) (h : (ch 1).kind ≠ 0) (w : World) (hb : b < w.heap.size) (h0 : At5 w b o (ch 0) A0 c0) (h1 : At5 w b (o + 5) (ch 1) A1 c1) : Calls Tryz.prog 67 #[.agg #[.int .i64 4, .int .u64 (n : Int), str s, .slice (some ⟨b, o, none⟩) 2 c, .bool false]] w (Ret (.tuple #[.agg #[.int .i64 0, .int .i64 0], .bool false]) w) := by
 have HE := hid (((Mod.refl [] w).alloc (.cells #[.int .i64 4, .int .u64 (n : Int), str s, .slice (some ⟨b, o, none⟩) 2 c, .bool false] 86)).alloc (.cells #[.int .i64 0, .int .i64 0] 75))
 obtain ⟨x0, x1, x2, x3, x4⟩ := h0.mod HE.out hb (by simp)
 obtain ⟨y0, y1, y2, y3, y4⟩ := h1.mod HE.out hb (by simp)
 rw [hk] at x0
 have n1 : ((ch 1).kind == 0) = false := by simpa using h
 have n2 : ((ch 1).kind = 0) = False := by simpa using h
 have n3 : ((ch 1).kind != 0) = true := by simpa using h
 clear h h0 h1
 go_enter Tryz.func67, Tryz.ntmps67
 go_wp2_with fail
 refine bodyPost_ret (v := .tuple #[.agg #[.int .i64 0, .int .i64 0], .bool false]) (by simp [results, Tryz.results67, go_sem]) rfl (Ret.mk rfl HE.out)
set_option maxRecDepth 20000 in
set_option maxHeartbeats 800000 in
theorem rh1_ff (n : Nat) (s : List UInt8) (ch : Nat -> T) (b o c : Nat) (A0 A1 : Option Addr) (c0 c1 : Nat) (B : Bool) (l k : Nat) (hl : l <= 256) (hk : k <= 256) (hm : mayB (l : Int) (k : Int) = B) (z0 : (ch 0).kind = 0) (z1 : (ch 0).n = l) (z2 : (ch 1).kind = 0) (z3 : (ch 1).n = k) (w : World) (hb : b < w.heap.size) (h0 : At5 w b o (ch 0) A0 c0) (h1 : At5 w b (o + 5) (ch 1) A1 c1) : Calls Tryz.prog 67 #[.agg #[.int .i64 4, .int .u64 (n : Int), str s, .slice (some ⟨b, o, none⟩) 2 c, .bool false]] w (Ret (.tuple #[.agg #[.int .i64 (l : Int), .int .i64 (k : Int)], .bool B]) w) := by
 have KM := hid (fun W => may_any (l : Int) (k : Int) W)
 rw [hm] at KM
 have HE := hid ((Mod.refl [] w).alloc (.cells #[.int .i64 4, .int .u64 (n : Int), str s, .slice (some ⟨b, o, none⟩) 2 c, .bool false] 86))
 have HA0 := hid h0
 have HA1 := hid h1
 have Z0 := hid z0
 have Z2 := hid z2
 have Z1 := hid z1
 have Z3 := hid z3
 have HE2 := hid (HE.out.alloc (.cells #[.int .i64 0, .int .i64 0] 75))
 have HX2 := hid ((Blk.new w 86 #[.int .i64 4, .int .u64 (n : Int), str s, .slice (some ⟨b, o, none⟩) 2 c, .bool false]).alloc (.cells #[.int .i64 0, .int .i64 0] 75))
 have HQ2 := hid (Blk.new' (w.alloc (.cells #[.int .i64 4, .int .u64 (n : Int), str s, .slice (some ⟨b, o, none⟩) 2 c, .bool false] 86)) 75 #[.int .i64 0, .int .i64 0] (N := w.heap.size + 1) (by simp))
 obtain ⟨x0, x1, _⟩ := h0.mod HE.out hb (by simp)
 obtain ⟨y0, y1, _⟩ := h1.mod HE.out hb (by simp)
 rw [z0] at x0
 rw [z1] at x1
 rw [z2] at y0
 rw [z3] at y1
 have ml : ((256 : Int) < (l : Int)) = False := by simp; omega
 have ml2 : min (l : Int) 256 = (l : Int) := by omega
 have mk : ((256 : Int) < (k : Int)) = False := by simp; omega
 have mk2 : min (k : Int) 256 = (k : Int) := by omega
 have tl : IntKind.i64.wrap (l : Int) = (l : Int) := IntWalk.i64_in _ (by omega)
 have tk : IntKind.i64.wrap (k : Int) = (k : Int) := IntWalk.i64_in _ (by omega)
 clear h0 h1 z0 z1 z2 z3 hl hk hm
 go_enter Tryz.func67, Tryz.ntmps67
 go_upto_region 3 with fail
 obtain ⟨V, hV⟩ : ∃ V, V = (w.alloc (.cells #[.int .i64 4, .int .u64 (n : Int), str s, .slice (some ⟨b, o, none⟩) 2 c, .bool false] 86)).alloc (.cells #[.int .i64 0, .int .i64 0] 75) := ⟨_, rfl⟩
 rw [<- hV] at HE2 HX2 HQ2 ⊢
 have hs : V.heap.size = w.heap.size + 1 + 1 := by rw [hV]; simp
 have HS := hid hs
 have p3 : V.cell? ⟨w.heap.size, 3, none⟩ = some (.slice (some ⟨b, o, none⟩) 2 c) := HX2.out.cell 3
 have px : V.cell? ⟨b, o + 1, none⟩ = some (.int .u64 (l : Int)) := by have := (HA0.out.mod HE2.out hb (by simp)).2.1; rw [Z1.out] at this; exact this
 have py : V.cell? ⟨b, o + 5 + 1, none⟩ = some (.int .u64 (k : Int)) := by have := (HA1.out.mod HE2.out hb (by simp)).2.1; rw [Z3.out] at this; exact this
 clear x0 x1 y0 y1 hV hs
 go_cut [4] (fun s4 wx => ∃ g, s4 = .pointer (some ⟨g, 0, none⟩) /\ Hid (Ext w wx /\ Blk wx g 75 #[.int .i64 (l : Int), .int .i64 (k : Int)] /\ Blk wx (w.heap.size + 1) 75 #[.int .i64 0, .int .i64 0] /\ w.heap.size + 1 ≠ g))
 case first =>
  go_region_held3 (fun w' => w'.cell? ⟨w.heap.size, 3, none⟩ = some (.slice (some ⟨b, o, none⟩) 2 c) /\ w'.cell? ⟨b, o + 1, none⟩ = some (.int .u64 (l : Int)) /\ w'.cell? ⟨b, o + 5 + 1, none⟩ = some (.int .u64 (k : Int))) (go_keep) (first | fail)
  all_goals go_wp2_with fail
  all_goals go_meet
  all_goals exact ⟨_, rfl, (HE2.out.alloc _).drew, (Blk.new V 75 #[.int .i64 (l : Int), .int .i64 (k : Int)]).drew, (HQ2.out.alloc _).drew, by have := HS.out; omega⟩
 obtain ⟨g, rfl, hG⟩ := hcut
 have HGE := hid hG.out.1
 have HG := hid hG.out.2.1
 have HGQ := hid hG.out.2.2.1
 have hne : w.heap.size + 1 ≠ g := hG.out.2.2.2
 clear hG p3 px py ml mk ml2 mk2 tl tk
 rename World => V2
 have y0 : V2.cell? ⟨g, 0, none⟩ = some (.int .i64 (l : Int)) := HG.out.cell 0
 have y1 : V2.cell? ⟨g, 1, none⟩ = some (.int .i64 (k : Int)) := HG.out.cell 1
 have HS2 : Hid (∀ w', Ext V2 w' -> w'.cell? ⟨g, 0, none⟩ = some (.int .i64 (l : Int)) /\ w'.cell? ⟨g, 1, none⟩ = some (.int .i64 (k : Int))) := fun W hW => ⟨(HG.out.ext hW).cell 0, (HG.out.ext hW).cell 1⟩
 go_upto_region 4 with fail
 go_region_held3 (fun w' => w'.cell? ⟨g, 0, none⟩ = some (.int .i64 (l : Int)) /\ w'.cell? ⟨g, 1, none⟩ = some (.int .i64 (k : Int))) (go_keep)
  (first
   | (go_at_call 47; refine (KM.out _).mono ?_; rintro x w3 ⟨rfl, hb3⟩; have hx : Ext V2 w3 := (by (with_reducible refine Mod.trans ?_ hb3); (repeat (first | with_reducible assumption | with_reducible exact Mod.refl _ _ | with_reducible refine Mod.drew ?_ | with_reducible refine Mod.alloc ?_ _))); have z := HS2.out w3 hx; have HQ3 := hid (HGQ.out.ext hx); have r0 : w3.cell? ⟨w.heap.size + 1, 0, none⟩ = some (.int .i64 0) := HQ3.out.cell 0; have r1 : w3.cell? ⟨w.heap.size + 1, 1, none⟩ = some (.int .i64 0) := HQ3.out.cell 1; have f0 := Blk.frozen HQ3.out 0; have f1 := Blk.frozen HQ3.out 1))
 all_goals go_wp2_with fail
 all_goals have B2 := (HQ3.out.set_ 0 (.int .i64 (l : Int))).set_ 1 (.int .i64 (k : Int))
 all_goals have d0 : ((w3.setCell ⟨w.heap.size + 1, 0, none⟩ (.int .i64 (l : Int))).setCell ⟨w.heap.size + 1, 1, none⟩ (.int .i64 (k : Int))).cell? ⟨w.heap.size + 1, 0, none⟩ = some (.int .i64 (l : Int)) := B2.cell 0
 all_goals have d1 : ((w3.setCell ⟨w.heap.size + 1, 0, none⟩ (.int .i64 (l : Int))).setCell ⟨w.heap.size + 1, 1, none⟩ (.int .i64 (k : Int))).cell? ⟨w.heap.size + 1, 1, none⟩ = some (.int .i64 (k : Int)) := B2.cell 1
 all_goals clear B2 r0 r1 f0 f1
 all_goals refine bodyPost_ret (v := .tuple #[.agg #[.int .i64 (l : Int), .int .i64 (k : Int)], .bool B]) (by simp [results, Tryz.results67, go_sem, d0, d1]) rfl (Ret.mk rfl (((HGE.out.trans hx).setCell (.inr (by show w.heap.size <= w.heap.size + 1; omega)) _).setCell (.inr (by show w.heap.size <= w.heap.size + 1; omega)) _))
set_option maxRecDepth 20000 in
set_option maxHeartbeats 800000 in
theorem rh1_ft (n : Nat) (s : List UInt8) (ch : Nat -> T) (b o c : Nat) (A0 A1 : Option Addr) (c0 c1 : Nat) (B : Bool) (l k : Nat) (hl : l <= 256) (hk : 256 < k) (hm : mayB (l : Int) 256 = B) (z0 : (ch 0).kind = 0) (z1 : (ch 0).n = l) (z2 : (ch 1).kind = 0) (z3 : (ch 1).n = k) (w : World) (hb : b < w.heap.size) (h0 : At5 w b o (ch 0) A0 c0) (h1 : At5 w b (o + 5) (ch 1) A1 c1) : Calls Tryz.prog 67 #[.agg #[.int .i64 4, .int .u64 (n : Int), str s, .slice (some ⟨b, o, none⟩) 2 c, .bool false]] w (Ret (.tuple #[.agg #[.int .i64 (l : Int), .int .i64 256], .bool B]) w) := by
 have KM := hid (fun W => may_any (l : Int) 256 W)
 rw [hm] at KM
 have HE := hid ((Mod.refl [] w).alloc (.cells #[.int .i64 4, .int .u64 (n : Int), str s, .slice (some ⟨b, o, none⟩) 2 c, .bool false] 86))
 have HA0 := hid h0
 have HA1 := hid h1
 have Z0 := hid z0
 have Z2 := hid z2
 have Z1 := hid z1
 have Z3 := hid z3
 have HE2 := hid (HE.out.alloc (.cells #[.int .i64 0, .int .i64 0] 75))
 have HX2 := hid ((Blk.new w 86 #[.int .i64 4, .int .u64 (n : Int), str s, .slice (some ⟨b, o, none⟩) 2 c, .bool false]).alloc (.cells #[.int .i64 0, .int .i64 0] 75))
 have HQ2 := hid (Blk.new' (w.alloc (.cells #[.int .i64 4, .int .u64 (n : Int), str s, .slice (some ⟨b, o, none⟩) 2 c, .bool false] 86)) 75 #[.int .i64 0, .int .i64 0] (N := w.heap.size + 1) (by simp))
 obtain ⟨x0, x1, _⟩ := h0.mod HE.out hb (by simp)
 obtain ⟨y0, y1, _⟩ := h1.mod HE.out hb (by simp)
 rw [z0] at x0
 rw [z1] at x1
 rw [z2] at y0
 rw [z3] at y1
 have ml : ((256 : Int) < (l : Int)) = False := by simp; omega
 have ml2 : min (l : Int) 256 = (l : Int) := by omega
 have mk : ((256 : Int) < (k : Int)) = True := by simp; omega
 have mk2 : min (k : Int) 256 = 256 := by omega
 have tl : IntKind.i64.wrap (l : Int) = (l : Int) := IntWalk.i64_in _ (by omega)
 clear h0 h1 z0 z1 z2 z3 hl hk hm
 go_enter Tryz.func67, Tryz.ntmps67
 go_upto_region 3 with fail
 obtain ⟨V, hV⟩ : ∃ V, V = (w.alloc (.cells #[.int .i64 4, .int .u64 (n : Int), str s, .slice (some ⟨b, o, none⟩) 2 c, .bool false] 86)).alloc (.cells #[.int .i64 0, .int .i64 0] 75) := ⟨_, rfl⟩
 rw [<- hV] at HE2 HX2 HQ2 ⊢
 have hs : V.heap.size = w.heap.size + 1 + 1 := by rw [hV]; simp
 have HS := hid hs
 have p3 : V.cell? ⟨w.heap.size, 3, none⟩ = some (.slice (some ⟨b, o, none⟩) 2 c) := HX2.out.cell 3
 have px : V.cell? ⟨b, o + 1, none⟩ = some (.int .u64 (l : Int)) := by have := (HA0.out.mod HE2.out hb (by simp)).2.1; rw [Z1.out] at this; exact this
 have py : V.cell? ⟨b, o + 5 + 1, none⟩ = some (.int .u64 (k : Int)) := by have := (HA1.out.mod HE2.out hb (by simp)).2.1; rw [Z3.out] at this; exact this
 clear x0 x1 y0 y1 hV hs
 go_cut [4] (fun s4 wx => ∃ g, s4 = .pointer (some ⟨g, 0, none⟩) /\ Hid (Ext w wx /\ Blk wx g 75 #[.int .i64 (l : Int), .int .i64 256] /\ Blk wx (w.heap.size + 1) 75 #[.int .i64 0, .int .i64 0] /\ w.heap.size + 1 ≠ g))
 case first =>
  go_region_held3 (fun w' => w'.cell? ⟨w.heap.size, 3, none⟩ = some (.slice (some ⟨b, o, none⟩) 2 c) /\ w'.cell? ⟨b, o + 1, none⟩ = some (.int .u64 (l : Int)) /\ w'.cell? ⟨b, o + 5 + 1, none⟩ = some (.int .u64 (k : Int))) (go_keep) (first | fail)
  all_goals go_wp2_with fail
  all_goals go_meet
  all_goals exact ⟨_, rfl, (HE2.out.alloc _).drew, (Blk.new V 75 #[.int .i64 (l : Int), .int .i64 256]).drew, (HQ2.out.alloc _).drew, by have := HS.out; omega⟩
 obtain ⟨g, rfl, hG⟩ := hcut
 have HGE := hid hG.out.1
 have HG := hid hG.out.2.1
 have HGQ := hid hG.out.2.2.1
 have hne : w.heap.size + 1 ≠ g := hG.out.2.2.2
 clear hG p3 px py ml mk ml2 mk2 tl
 rename World => V2
 have y0 : V2.cell? ⟨g, 0, none⟩ = some (.int .i64 (l : Int)) := HG.out.cell 0
 have y1 : V2.cell? ⟨g, 1, none⟩ = some (.int .i64 256) := HG.out.cell 1
 have HS2 : Hid (∀ w', Ext V2 w' -> w'.cell? ⟨g, 0, none⟩ = some (.int .i64 (l : Int)) /\ w'.cell? ⟨g, 1, none⟩ = some (.int .i64 256)) := fun W hW => ⟨(HG.out.ext hW).cell 0, (HG.out.ext hW).cell 1⟩
 go_upto_region 4 with fail
 go_region_held3 (fun w' => w'.cell? ⟨g, 0, none⟩ = some (.int .i64 (l : Int)) /\ w'.cell? ⟨g, 1, none⟩ = some (.int .i64 256)) (go_keep)
  (first
   | (go_at_call 47; refine (KM.out _).mono ?_; rintro x w3 ⟨rfl, hb3⟩; have hx : Ext V2 w3 := (by (with_reducible refine Mod.trans ?_ hb3); (repeat (first | with_reducible assumption | with_reducible exact Mod.refl _ _ | with_reducible refine Mod.drew ?_ | with_reducible refine Mod.alloc ?_ _))); have z := HS2.out w3 hx; have HQ3 := hid (HGQ.out.ext hx); have r0 : w3.cell? ⟨w.heap.size + 1, 0, none⟩ = some (.int .i64 0) := HQ3.out.cell 0; have r1 : w3.cell? ⟨w.heap.size + 1, 1, none⟩ = some (.int .i64 0) := HQ3.out.cell 1; have f0 := Blk.frozen HQ3.out 0; have f1 := Blk.frozen HQ3.out 1))
 all_goals go_wp2_with fail
 all_goals have B2 := (HQ3.out.set_ 0 (.int .i64 (l : Int))).set_ 1 (.int .i64 256)
 all_goals have d0 : ((w3.setCell ⟨w.heap.size + 1, 0, none⟩ (.int .i64 (l : Int))).setCell ⟨w.heap.size + 1, 1, none⟩ (.int .i64 256)).cell? ⟨w.heap.size + 1, 0, none⟩ = some (.int .i64 (l : Int)) := B2.cell 0
 all_goals have d1 : ((w3.setCell ⟨w.heap.size + 1, 0, none⟩ (.int .i64 (l : Int))).setCell ⟨w.heap.size + 1, 1, none⟩ (.int .i64 256)).cell? ⟨w.heap.size + 1, 1, none⟩ = some (.int .i64 256) := B2.cell 1
 all_goals clear B2 r0 r1 f0 f1
 all_goals refine bodyPost_ret (v := .tuple #[.agg #[.int .i64 (l : Int), .int .i64 256], .bool B]) (by simp [results, Tryz.results67, go_sem, d0, d1]) rfl (Ret.mk rfl (((HGE.out.trans hx).setCell (.inr (by show w.heap.size <= w.heap.size + 1; omega)) _).setCell (.inr (by show w.heap.size <= w.heap.size + 1; omega)) _))
set_option maxRecDepth 20000 in
set_option maxHeartbeats 800000 in
theorem rh1_tf (n : Nat) (s : List UInt8) (ch : Nat -> T) (b o c : Nat) (A0 A1 : Option Addr) (c0 c1 : Nat) (B : Bool) (l k : Nat) (hl : 256 < l) (hk : k <= 256) (hm : mayB 256 (k : Int) = B) (z0 : (ch 0).kind = 0) (z1 : (ch 0).n = l) (z2 : (ch 1).kind = 0) (z3 : (ch 1).n = k) (w : World) (hb : b < w.heap.size) (h0 : At5 w b o (ch 0) A0 c0) (h1 : At5 w b (o + 5) (ch 1) A1 c1) : Calls Tryz.prog 67 #[.agg #[.int .i64 4, .int .u64 (n : Int), str s, .slice (some ⟨b, o, none⟩) 2 c, .bool false]] w (Ret (.tuple #[.agg #[.int .i64 256, .int .i64 (k : Int)], .bool B]) w) := by
 have KM := hid (fun W => may_any 256 (k : Int) W)
 rw [hm] at KM
 have HE := hid ((Mod.refl [] w).alloc (.cells #[.int .i64 4, .int .u64 (n : Int), str s, .slice (some ⟨b, o, none⟩) 2 c, .bool false] 86))
 have HA0 := hid h0
 have HA1 := hid h1
 have Z0 := hid z0
 have Z2 := hid z2
 have Z1 := hid z1
 have Z3 := hid z3
 have HE2 := hid (HE.out.alloc (.cells #[.int .i64 0, .int .i64 0] 75))
 have HX2 := hid ((Blk.new w 86 #[.int .i64 4, .int .u64 (n : Int), str s, .slice (some ⟨b, o, none⟩) 2 c, .bool false]).alloc (.cells #[.int .i64 0, .int .i64 0] 75))
 have HQ2 := hid (Blk.new' (w.alloc (.cells #[.int .i64 4, .int .u64 (n : Int), str s, .slice (some ⟨b, o, none⟩) 2 c, .bool false] 86)) 75 #[.int .i64 0, .int .i64 0] (N := w.heap.size + 1) (by simp))
 obtain ⟨x0, x1, _⟩ := h0.mod HE.out hb (by simp)
 obtain ⟨y0, y1, _⟩ := h1.mod HE.out hb (by simp)
 rw [z0] at x0
 rw [z1] at x1
 rw [z2] at y0
 rw [z3] at y1
 have ml : ((256 : Int) < (l : Int)) = True := by simp; omega
 have ml2 : min (l : Int) 256 = 256 := by omega
 have mk : ((256 : Int) < (k : Int)) = False := by simp; omega
 have mk2 : min (k : Int) 256 = (k : Int) := by omega
 have tk : IntKind.i64.wrap (k : Int) = (k : Int) := IntWalk.i64_in _ (by omega)
 clear h0 h1 z0 z1 z2 z3 hl hk hm
 go_enter Tryz.func67, Tryz.ntmps67
 go_upto_region 3 with fail
 obtain ⟨V, hV⟩ : ∃ V, V = (w.alloc (.cells #[.int .i64 4, .int .u64 (n : Int), str s, .slice (some ⟨b, o, none⟩) 2 c, .bool false] 86)).alloc (.cells #[.int .i64 0, .int .i64 0] 75) := ⟨_, rfl⟩
 rw [<- hV] at HE2 HX2 HQ2 ⊢
 have hs : V.heap.size = w.heap.size + 1 + 1 := by rw [hV]; simp
 have HS := hid hs
 have p3 : V.cell? ⟨w.heap.size, 3, none⟩ = some (.slice (some ⟨b, o, none⟩) 2 c) := HX2.out.cell 3
 have px : V.cell? ⟨b, o + 1, none⟩ = some (.int .u64 (l : Int)) := by have := (HA0.out.mod HE2.out hb (by simp)).2.1; rw [Z1.out] at this; exact this
 have py : V.cell? ⟨b, o + 5 + 1, none⟩ = some (.int .u64 (k : Int)) := by have := (HA1.out.mod HE2.out hb (by simp)).2.1; rw [Z3.out] at this; exact this
 clear x0 x1 y0 y1 hV hs
 go_cut [4] (fun s4 wx => ∃ g, s4 = .pointer (some ⟨g, 0, none⟩) /\ Hid (Ext w wx /\ Blk wx g 75 #[.int .i64 256, .int .i64 (k : Int)] /\ Blk wx (w.heap.size + 1) 75 #[.int .i64 0, .int .i64 0] /\ w.heap.size + 1 ≠ g))
 case first =>
  go_region_held3 (fun w' => w'.cell? ⟨w.heap.size, 3, none⟩ = some (.slice (some ⟨b, o, none⟩) 2 c) /\ w'.cell? ⟨b, o + 1, none⟩ = some (.int .u64 (l : Int)) /\ w'.cell? ⟨b, o + 5 + 1, none⟩ = some (.int .u64 (k : Int))) (go_keep) (first | fail)
  all_goals go_wp2_with fail
  all_goals go_meet
  all_goals exact ⟨_, rfl, (HE2.out.alloc _).drew, (Blk.new V 75 #[.int .i64 256, .int .i64 (k : Int)]).drew, (HQ2.out.alloc _).drew, by have := HS.out; omega⟩
 obtain ⟨g, rfl, hG⟩ := hcut
 have HGE := hid hG.out.1
 have HG := hid hG.out.2.1
 have HGQ := hid hG.out.2.2.1
 have hne : w.heap.size + 1 ≠ g := hG.out.2.2.2
 clear hG p3 px py ml mk ml2 mk2 tk
 rename World => V2
 have y0 : V2.cell? ⟨g, 0, none⟩ = some (.int .i64 256) := HG.out.cell 0
 have y1 : V2.cell? ⟨g, 1, none⟩ = some (.int .i64 (k : Int)) := HG.out.cell 1
 have HS2 : Hid (∀ w', Ext V2 w' -> w'.cell? ⟨g, 0, none⟩ = some (.int .i64 256) /\ w'.cell? ⟨g, 1, none⟩ = some (.int .i64 (k : Int))) := fun W hW => ⟨(HG.out.ext hW).cell 0, (HG.out.ext hW).cell 1⟩
 go_upto_region 4 with fail
 go_region_held3 (fun w' => w'.cell? ⟨g, 0, none⟩ = some (.int .i64 256) /\ w'.cell? ⟨g, 1, none⟩ = some (.int .i64 (k : Int))) (go_keep)
  (first
   | (go_at_call 47; refine (KM.out _).mono ?_; rintro x w3 ⟨rfl, hb3⟩; have hx : Ext V2 w3 := (by (with_reducible refine Mod.trans ?_ hb3); (repeat (first | with_reducible assumption | with_reducible exact Mod.refl _ _ | with_reducible refine Mod.drew ?_ | with_reducible refine Mod.alloc ?_ _))); have z := HS2.out w3 hx; have HQ3 := hid (HGQ.out.ext hx); have r0 : w3.cell? ⟨w.heap.size + 1, 0, none⟩ = some (.int .i64 0) := HQ3.out.cell 0; have r1 : w3.cell? ⟨w.heap.size + 1, 1, none⟩ = some (.int .i64 0) := HQ3.out.cell 1; have f0 := Blk.frozen HQ3.out 0; have f1 := Blk.frozen HQ3.out 1))
 all_goals go_wp2_with fail
 all_goals have B2 := (HQ3.out.set_ 0 (.int .i64 256)).set_ 1 (.int .i64 (k : Int))
 all_goals have d0 : ((w3.setCell ⟨w.heap.size + 1, 0, none⟩ (.int .i64 256)).setCell ⟨w.heap.size + 1, 1, none⟩ (.int .i64 (k : Int))).cell? ⟨w.heap.size + 1, 0, none⟩ = some (.int .i64 256) := B2.cell 0
 all_goals have d1 : ((w3.setCell ⟨w.heap.size + 1, 0, none⟩ (.int .i64 256)).setCell ⟨w.heap.size + 1, 1, none⟩ (.int .i64 (k : Int))).cell? ⟨w.heap.size + 1, 1, none⟩ = some (.int .i64 (k : Int)) := B2.cell 1
 all_goals clear B2 r0 r1 f0 f1
 all_goals refine bodyPost_ret (v := .tuple #[.agg #[.int .i64 256, .int .i64 (k : Int)], .bool B]) (by simp [results, Tryz.results67, go_sem, d0, d1]) rfl (Ret.mk rfl (((HGE.out.trans hx).setCell (.inr (by show w.heap.size <= w.heap.size + 1; omega)) _).setCell (.inr (by show w.heap.size <= w.heap.size + 1; omega)) _))
set_option maxRecDepth 20000 in
set_option maxHeartbeats 800000 in
theorem rh1_tt (n : Nat) (s : List UInt8) (ch : Nat -> T) (b o c : Nat) (A0 A1 : Option Addr) (c0 c1 : Nat) (B : Bool) (l k : Nat) (hl : 256 < l) (hk : 256 < k) (hm : mayB 256 256 = B) (z0 : (ch 0).kind = 0) (z1 : (ch 0).n = l) (z2 : (ch 1).kind = 0) (z3 : (ch 1).n = k) (w : World) (hb : b < w.heap.size) (h0 : At5 w b o (ch 0) A0 c0) (h1 : At5 w b (o + 5) (ch 1) A1 c1) : Calls Tryz.prog 67 #[.agg #[.int .i64 4, .int .u64 (n : Int), str s, .slice (some ⟨b, o, none⟩) 2 c, .bool false]] w (Ret (.tuple #[.agg #[.int .i64 256, .int .i64 256], .bool B]) w) := by
 have KM := hid (fun W => may_any 256 256 W)
 rw [hm] at KM
 have HE := hid ((Mod.refl [] w).alloc (.cells #[.int .i64 4, .int .u64 (n : Int), str s, .slice (some ⟨b, o, none⟩) 2 c, .bool false] 86))
 have HA0 := hid h0
 have HA1 := hid h1
 have Z0 := hid z0
 have Z2 := hid z2
 have Z1 := hid z1
 have Z3 := hid z3
 have HE2 := hid (HE.out.alloc (.cells #[.int .i64 0, .int .i64 0] 75))
 have HX2 := hid ((Blk.new w 86 #[.int .i64 4, .int .u64 (n : Int), str s, .slice (some ⟨b, o, none⟩) 2 c, .bool false]).alloc (.cells #[.int .i64 0, .int .i64 0] 75))
 have HQ2 := hid (Blk.new' (w.alloc (.cells #[.int .i64 4, .int .u64 (n : Int), str s, .slice (some ⟨b, o, none⟩) 2 c, .bool false] 86)) 75 #[.int .i64 0, .int .i64 0] (N := w.heap.size + 1) (by simp))
 obtain ⟨x0, x1, _⟩ := h0.mod HE.out hb (by simp)
 obtain ⟨y0, y1, _⟩ := h1.mod HE.out hb (by simp)
 rw [z0] at x0
 rw [z1] at x1
 rw [z2] at y0
 rw [z3] at y1
 have ml : ((256 : Int) < (l : Int)) = True := by simp; omega
 have ml2 : min (l : Int) 256 = 256 := by omega
 have mk : ((256 : Int) < (k : Int)) = True := by simp; omega
 have mk2 : min (k : Int) 256 = 256 := by omega
 clear h0 h1 z0 z1 z2 z3 hl hk hm
 go_enter Tryz.func67, Tryz.ntmps67
 go_upto_region 3 with fail
 obtain ⟨V, hV⟩ : ∃ V, V = (w.alloc (.cells #[.int .i64 4, .int .u64 (n : Int), str s, .slice (some ⟨b, o, none⟩) 2 c, .bool false] 86)).alloc (.cells #[.int .i64 0, .int .i64 0] 75) := ⟨_, rfl⟩
 rw [<- hV] at HE2 HX2 HQ2 ⊢
 have hs : V.heap.size = w.heap.size + 1 + 1 := by rw [hV]; simp
 have HS := hid hs
 have p3 : V.cell? ⟨w.heap.size, 3, none⟩ = some (.slice (some ⟨b, o, none⟩) 2 c) := HX2.out.cell 3
 have px : V.cell? ⟨b, o + 1, none⟩ = some (.int .u64 (l : Int)) := by have := (HA0.out.mod HE2.out hb (by simp)).2.1; rw [Z1.out] at this; exact this
 have py : V.cell? ⟨b, o + 5 + 1, none⟩ = some (.int .u64 (k : Int)) := by have := (HA1.out.mod HE2.out hb (by simp)).2.1; rw [Z3.out] at this; exact this
 clear x0 x1 y0 y1 hV hs
 go_cut [4] (fun s4 wx => ∃ g, s4 = .pointer (some ⟨g, 0, none⟩) /\ Hid (Ext w wx /\ Blk wx g 75 #[.int .i64 256, .int .i64 256] /\ Blk wx (w.heap.size + 1) 75 #[.int .i64 0, .int .i64 0] /\ w.heap.size + 1 ≠ g))
 case first =>
  go_region_held3 (fun w' => w'.cell? ⟨w.heap.size, 3, none⟩ = some (.slice (some ⟨b, o, none⟩) 2 c) /\ w'.cell? ⟨b, o + 1, none⟩ = some (.int .u64 (l : Int)) /\ w'.cell? ⟨b, o + 5 + 1, none⟩ = some (.int .u64 (k : Int))) (go_keep) (first | fail)
  all_goals go_wp2_with fail
  all_goals go_meet
  all_goals exact ⟨_, rfl, (HE2.out.alloc _).drew, (Blk.new V 75 #[.int .i64 256, .int .i64 256]).drew, (HQ2.out.alloc _).drew, by have := HS.out; omega⟩
 obtain ⟨g, rfl, hG⟩ := hcut
 have HGE := hid hG.out.1
 have HG := hid hG.out.2.1
 have HGQ := hid hG.out.2.2.1
 have hne : w.heap.size + 1 ≠ g := hG.out.2.2.2
 clear hG p3 px py ml mk ml2 mk2
 rename World => V2
 have y0 : V2.cell? ⟨g, 0, none⟩ = some (.int .i64 256) := HG.out.cell 0
 have y1 : V2.cell? ⟨g, 1, none⟩ = some (.int .i64 256) := HG.out.cell 1
 have HS2 : Hid (∀ w', Ext V2 w' -> w'.cell? ⟨g, 0, none⟩ = some (.int .i64 256) /\ w'.cell? ⟨g, 1, none⟩ = some (.int .i64 256)) := fun W hW => ⟨(HG.out.ext hW).cell 0, (HG.out.ext hW).cell 1⟩
 go_upto_region 4 with fail
 go_region_held3 (fun w' => w'.cell? ⟨g, 0, none⟩ = some (.int .i64 256) /\ w'.cell? ⟨g, 1, none⟩ = some (.int .i64 256)) (go_keep)
  (first
   | (go_at_call 47; refine (KM.out _).mono ?_; rintro x w3 ⟨rfl, hb3⟩; have hx : Ext V2 w3 := (by (with_reducible refine Mod.trans ?_ hb3); (repeat (first | with_reducible assumption | with_reducible exact Mod.refl _ _ | with_reducible refine Mod.drew ?_ | with_reducible refine Mod.alloc ?_ _))); have z := HS2.out w3 hx; have HQ3 := hid (HGQ.out.ext hx); have r0 : w3.cell? ⟨w.heap.size + 1, 0, none⟩ = some (.int .i64 0) := HQ3.out.cell 0; have r1 : w3.cell? ⟨w.heap.size + 1, 1, none⟩ = some (.int .i64 0) := HQ3.out.cell 1; have f0 := Blk.frozen HQ3.out 0; have f1 := Blk.frozen HQ3.out 1))
 all_goals go_wp2_with fail
 all_goals have B2 := (HQ3.out.set_ 0 (.int .i64 256)).set_ 1 (.int .i64 256)
 all_goals have d0 : ((w3.setCell ⟨w.heap.size + 1, 0, none⟩ (.int .i64 256)).setCell ⟨w.heap.size + 1, 1, none⟩ (.int .i64 256)).cell? ⟨w.heap.size + 1, 0, none⟩ = some (.int .i64 256) := B2.cell 0
 all_goals have d1 : ((w3.setCell ⟨w.heap.size + 1, 0, none⟩ (.int .i64 256)).setCell ⟨w.heap.size + 1, 1, none⟩ (.int .i64 256)).cell? ⟨w.heap.size + 1, 1, none⟩ = some (.int .i64 256) := B2.cell 1
 all_goals clear B2 r0 r1 f0 f1
 all_goals refine bodyPost_ret (v := .tuple #[.agg #[.int .i64 256, .int .i64 256], .bool B]) (by simp [results, Tryz.results67, go_sem, d0, d1]) rfl (Ret.mk rfl (((HGE.out.trans hx).setCell (.inr (by show w.heap.size <= w.heap.size + 1; omega)) _).setCell (.inr (by show w.heap.size <= w.heap.size + 1; omega)) _))
end Go.Proofs.YthecmnbkjchjmaaGreat


namespace Go.Proofs.YthecmnbkjchjmaaGreat
open Go.RowKit
set_option linter.unusedVariables false
set_option linter.unusedSimpArgs false

theorem rh1_any (t : T) (hok : t.ok) (A : Option Addr) (c : Nat) (w : World) (h : IsL w (fun _ => True) t A) : Calls Tryz.prog 67 #[itemV t A c] w (RhPost t w) := by
 cases t with
 | nil => exact absurd hok T.not_nil
 | mk kind n s op k ch =>
  by_cases h4 : kind = 4
  .
   subst h4
   cases op with
   | true => exact (rh1_no2 n s k A c w).mono fun e w' h => .no (by simp [hopsB, T.op]) h
   | false =>
    by_cases hk : k = 2
    .
     subst hk
     obtain ⟨b, o, ac, rfl, hb, _, hc⟩ := h.rows (by omega)
     obtain ⟨a0, _⟩ := hc 0 (by omega)
     obtain ⟨a1, _⟩ := hc 1 (by omega)
     have a0 : At5 w b o (ch 0) (ac 0).1 (ac 0).2 := by simpa using a0
     have a1 : At5 w b (o + 5) (ch 1) (ac 1).1 (ac 1).2 := by simpa using a1
     by_cases z0 : (ch 0).kind = 0
     .
      by_cases z2 : (ch 1).kind = 0
      .
       have hB : hopsB (T.mk 4 n s false 2 ch) = mayB (ch 0).n (ch 1).n := by
        show (decide ((4 : Int) = 4) && !false && decide (2 = 2) && decide ((ch 0).kind = 0) && decide ((ch 1).kind = 0) && mayB (ch 0).n (ch 1).n) = _
        simp [z0, z2]
       by_cases p : (ch 0).n <= 256
       .
        by_cases q : (ch 1).n <= 256
        . exact (rh1_ff n s ch b o c _ _ _ _ _ _ _ p q hB.symm z0 rfl z2 rfl w hb a0 a1).mono fun e w' h => ⟨_, _, h, fun _ => ⟨rfl, rfl⟩⟩
        . exact (rh1_ft n s ch b o c _ _ _ _ false _ _ p (by omega) (by simp [mayB]) z0 rfl z2 rfl w hb a0 a1).mono fun e w' h => .no (by rw [hB]; simp [mayB]; omega) h
       .
        by_cases q : (ch 1).n <= 256
        . exact (rh1_tf n s ch b o c _ _ _ _ false _ _ (by omega) q (by simp [mayB]) z0 rfl z2 rfl w hb a0 a1).mono fun e w' h => .no (by rw [hB]; simp [mayB]; omega) h
        . exact (rh1_tt n s ch b o c _ _ _ _ false _ _ (by omega) (by omega) (by simp [mayB]) z0 rfl z2 rfl w hb a0 a1).mono fun e w' h => .no (by rw [hB]; simp [mayB]; omega) h
      . exact (rh1_no5 n s ch b o c _ _ _ _ z0 z2 w hb a0 a1).mono fun e w' h => .no (by simp [hopsB, T.ch, z2]) h
     . exact (rh1_no4 n s ch b o c _ _ _ _ z0 w hb a0 a1).mono fun e w' h => .no (by simp [hopsB, T.ch, z0]) h
    . exact (rh1_no3 n s k hk A c w).mono fun e w' h => .no (by simp [hopsB, T.k, hk]) h
  . exact (rh1_no1 (T.mk kind n s op k ch) h4 A c w).mono fun e w' h => .no (by simp [hopsB, T.kind, h4]) h
def HopsPost (l : List UInt8) (w : World) (e : Ending) (w' : World) : Prop := Ret (.tuple #[.agg #[.int .i64 ((((hopsO l).getD (0, 0)).1 : Nat) : Int), .int .i64 ((((hopsO l).getD (0, 0)).2 : Nat) : Int)], .int .i64 (if (hopsO l).isSome then 0 else 2)]) w e w'
theorem HopsPost.none {l : List UInt8} {w w' : World} {e : Ending} (hp : hopsO l = none) (h : Ret (.tuple #[.agg #[.int .i64 0, .int .i64 0], .int .i64 2]) w e w') : HopsPost l w e w' := by unfold HopsPost; rw [hp]; exact h
theorem HopsPost.some {l : List UInt8} {w w' : World} {e : Ending} {E : Nat × Nat} (hp : hopsO l = some E) (h : Ret (.tuple #[.agg #[.int .i64 (E.1 : Int), .int .i64 (E.2 : Int)], .int .i64 0]) w e w') : HopsPost l w e w' := by unfold HopsPost; rw [hp]; exact h
set_option maxRecDepth 20000 in
set_option maxHeartbeats 800000 in
theorem readH_any (l : List UInt8) (hl : l.length <= 1073741824) (w : World) : Calls Tryz.prog 66 #[str l, .func (Fn.func 67) #[] #[]] w (HopsPost l w) := by
 have K := hid (fun W => parse_any l hl W)
 have HE := hid (((Mod.refl [] w).alloc (.cells #[.int .i64 0, .int .i64 0] 75)).alloc (.cells #[.int .i64 0, .int .i64 0] 75))
 have HQ := hid ((Blk.new w 75 #[.int .i64 0, .int .i64 0]).alloc (.cells #[.int .i64 0, .int .i64 0] 75))
 have HN := hid (Blk.new' (w.alloc (.cells #[.int .i64 0, .int .i64 0] 75)) 75 #[.int .i64 0, .int .i64 0] (N := w.heap.size + 1) (by simp))
 go_enter Tryz.func66, Tryz.ntmps66
 go_wp2_with fail
 refine (K.out _).mono ?_
 rintro e1 w1 ⟨hb1, ⟨hz, rfl⟩ | ⟨hz, t, A, c, rfl, ⟨hr, hok⟩, hbt, hl1⟩⟩
 .
  have HP := hid (hopsO_bad hz)
  have g1 : ((parseR l).2 == 0) = false := by simpa using hz
  have g2 : ((parseR l).2 = 0) = False := by simpa using hz
  have g3 : ((parseR l).2 != 0) = true := by simpa using hz
  have HE1 := hid ((HE.out.trans hb1).alloc (.cells (itemC nulT none 0) 86))
  have HQ1 := hid ((HQ.out.ext hb1).alloc (.cells (itemC nulT none 0) 86))
  have HN1 := hid ((HN.out.ext hb1).alloc (.cells (itemC nulT none 0) 86))
  clear hz hb1
  have m0 : (w1.alloc (.cells (itemC nulT none 0) 86)).cell? ⟨w.heap.size + 1, 0, none⟩ = some (.int .i64 0) := HN1.out.cell 0
  have m1 : (w1.alloc (.cells (itemC nulT none 0) 86)).cell? ⟨w.heap.size + 1, 1, none⟩ = some (.int .i64 0) := HN1.out.cell 1
  have r0 : (w1.alloc (.cells (itemC nulT none 0) 86)).cell? ⟨w.heap.size, 0, none⟩ = some (.int .i64 0) := HQ1.out.cell 0
  have r1 : (w1.alloc (.cells (itemC nulT none 0) 86)).cell? ⟨w.heap.size, 1, none⟩ = some (.int .i64 0) := HQ1.out.cell 1
  have f0 := Blk.frozen HQ1.out 0
  have f1 := Blk.frozen HQ1.out 1
  go_wp2_with fail
  have B2 := (HQ1.out.set_ 0 (.int .i64 0)).set_ 1 (.int .i64 0)
  have d0 : (((w1.alloc (.cells (itemC nulT none 0) 86)).setCell ⟨w.heap.size, 0, none⟩ (.int .i64 0)).setCell ⟨w.heap.size, 1, none⟩ (.int .i64 0)).cell? ⟨w.heap.size, 0, none⟩ = some (.int .i64 0) := B2.cell 0
  have d1 : (((w1.alloc (.cells (itemC nulT none 0) 86)).setCell ⟨w.heap.size, 0, none⟩ (.int .i64 0)).setCell ⟨w.heap.size, 1, none⟩ (.int .i64 0)).cell? ⟨w.heap.size, 1, none⟩ = some (.int .i64 0) := B2.cell 1
  clear B2 r0 r1 f0 f1
  refine bodyPost_ret (v := .tuple #[.agg #[.int .i64 0, .int .i64 0], .int .i64 2]) (by simp [results, Tryz.results66, go_sem, d0, d1]) rfl (.none HP.out (Ret.mk rfl ((HE1.out.setCell (.inr (Nat.le_refl _)) _).setCell (.inr (Nat.le_refl _)) _)))
 .
  have hP := hopsO_tree hr hok
  rw [hbt] at hP
  have HE1 := hid ((HE.out.trans hb1).alloc (.cells (itemC t A c) 86))
  have HQ1 := hid ((HQ.out.ext hb1).alloc (.cells (itemC t A c) 86))
  have HN1 := hid ((HN.out.ext hb1).alloc (.cells (itemC t A c) 86))
  have HL1 : Hid (IsL (w1.alloc (.cells (itemC t A c) 86)) (fun _ => True) t A) := IsL.ext hl1 ((Mod.refl _ _).alloc _)
  clear hz hb1
  by_cases hB : hopsB t = true
  .
   have KO : Hid (∀ W, IsL W (fun _ => True) t A -> Calls Tryz.prog 67 #[itemV t A c] W (Ret (.tuple #[.agg #[.int .i64 ((t.ch 0).n : Int), .int .i64 ((t.ch 1).n : Int)], .bool true]) W)) := fun W hW => (rh1_any t hok A c W hW).mono fun e w' h => by
    obtain ⟨a, b, h1, h2⟩ := h
    obtain ⟨rfl, rfl⟩ := h2 hB
    rw [hB] at h1; exact h1
   rw [if_pos hB] at hP
   have HP := hid hP
   clear hl1 hr hok hB hbt hP K
   generalize (t.ch 0).n = l0 at *
   generalize (t.ch 1).n = l1 at *
   go_wp2_with fail
   refine (KO.out _ HL1.out).mono ?_
   rintro e1 w2 ⟨rfl, hb2⟩
   have HE2 := hid ((HE1.out.trans hb2).alloc (.cells #[.int .i64 (l0 : Int), .int .i64 (l1 : Int)] 75))
   have HQ2 := hid ((HQ1.out.ext hb2).alloc (.cells #[.int .i64 (l0 : Int), .int .i64 (l1 : Int)] 75))
   clear hb2
   have r0 : (w2.alloc (.cells #[.int .i64 (l0 : Int), .int .i64 (l1 : Int)] 75)).cell? ⟨w.heap.size, 0, none⟩ = some (.int .i64 0) := HQ2.out.cell 0
   have r1 : (w2.alloc (.cells #[.int .i64 (l0 : Int), .int .i64 (l1 : Int)] 75)).cell? ⟨w.heap.size, 1, none⟩ = some (.int .i64 0) := HQ2.out.cell 1
   have f0 := Blk.frozen HQ2.out 0
   have f1 := Blk.frozen HQ2.out 1
   go_wp2_with fail
   have B2 := (HQ2.out.set_ 0 (.int .i64 (l0 : Int))).set_ 1 (.int .i64 (l1 : Int))
   have d0 : (((w2.alloc (.cells #[.int .i64 (l0 : Int), .int .i64 (l1 : Int)] 75)).setCell ⟨w.heap.size, 0, none⟩ (.int .i64 (l0 : Int))).setCell ⟨w.heap.size, 1, none⟩ (.int .i64 (l1 : Int))).cell? ⟨w.heap.size, 0, none⟩ = some (.int .i64 (l0 : Int)) := B2.cell 0
   have d1 : (((w2.alloc (.cells #[.int .i64 (l0 : Int), .int .i64 (l1 : Int)] 75)).setCell ⟨w.heap.size, 0, none⟩ (.int .i64 (l0 : Int))).setCell ⟨w.heap.size, 1, none⟩ (.int .i64 (l1 : Int))).cell? ⟨w.heap.size, 1, none⟩ = some (.int .i64 (l1 : Int)) := B2.cell 1
   clear B2 r0 r1 f0 f1
   refine bodyPost_ret (v := .tuple #[.agg #[.int .i64 (l0 : Int), .int .i64 (l1 : Int)], .int .i64 0]) (by simp [results, Tryz.results66, go_sem, d0, d1]) rfl (.some HP.out (Ret.mk rfl ((HE2.out.setCell (.inr (Nat.le_refl _)) _).setCell (.inr (Nat.le_refl _)) _)))
  .
   have hB2 : hopsB t = false := by simpa using hB
   have KO : Hid (∀ W, IsL W (fun _ => True) t A -> Calls Tryz.prog 67 #[itemV t A c] W (fun e w' => ∃ a b : Int, Ret (.tuple #[.agg #[.int .i64 a, .int .i64 b], .bool false]) W e w')) := fun W hW => (rh1_any t hok A c W hW).mono fun e w' h => by
    obtain ⟨a, b, h1, h2⟩ := h
    rw [hB2] at h1; exact ⟨a, b, h1⟩
   rw [if_neg hB] at hP
   have HP := hid hP
   clear hl1 hr hok hB hB2 hbt hP K
   go_wp2_with fail
   refine (KO.out _ HL1.out).mono ?_
   rintro e1 w2 ⟨a, b, rfl, hb2⟩
   have HE2 := hid ((HE1.out.trans hb2).alloc (.cells #[.int .i64 a, .int .i64 b] 75))
   have HQ2 := hid ((HQ1.out.ext hb2).alloc (.cells #[.int .i64 a, .int .i64 b] 75))
   have HN2 := hid ((HN1.out.ext hb2).alloc (.cells #[.int .i64 a, .int .i64 b] 75))
   clear hb2
   have m0 : (w2.alloc (.cells #[.int .i64 a, .int .i64 b] 75)).cell? ⟨w.heap.size + 1, 0, none⟩ = some (.int .i64 0) := HN2.out.cell 0
   have m1 : (w2.alloc (.cells #[.int .i64 a, .int .i64 b] 75)).cell? ⟨w.heap.size + 1, 1, none⟩ = some (.int .i64 0) := HN2.out.cell 1
   have r0 : (w2.alloc (.cells #[.int .i64 a, .int .i64 b] 75)).cell? ⟨w.heap.size, 0, none⟩ = some (.int .i64 0) := HQ2.out.cell 0
   have r1 : (w2.alloc (.cells #[.int .i64 a, .int .i64 b] 75)).cell? ⟨w.heap.size, 1, none⟩ = some (.int .i64 0) := HQ2.out.cell 1
   have f0 := Blk.frozen HQ2.out 0
   have f1 := Blk.frozen HQ2.out 1
   go_wp2_with fail
   have B2 := (HQ2.out.set_ 0 (.int .i64 0)).set_ 1 (.int .i64 0)
   have d0 : (((w2.alloc (.cells #[.int .i64 a, .int .i64 b] 75)).setCell ⟨w.heap.size, 0, none⟩ (.int .i64 0)).setCell ⟨w.heap.size, 1, none⟩ (.int .i64 0)).cell? ⟨w.heap.size, 0, none⟩ = some (.int .i64 0) := B2.cell 0
   have d1 : (((w2.alloc (.cells #[.int .i64 a, .int .i64 b] 75)).setCell ⟨w.heap.size, 0, none⟩ (.int .i64 0)).setCell ⟨w.heap.size, 1, none⟩ (.int .i64 0)).cell? ⟨w.heap.size, 1, none⟩ = some (.int .i64 0) := B2.cell 1
   clear B2 r0 r1 f0 f1
   refine bodyPost_ret (v := .tuple #[.agg #[.int .i64 0, .int .i64 0], .int .i64 2]) (by simp [results, Tryz.results66, go_sem, d0, d1]) rfl (.none HP.out (Ret.mk rfl ((HE2.out.setCell (.inr (Nat.le_refl _)) _).setCell (.inr (Nat.le_refl _)) _)))
set_option maxRecDepth 20000 in
theorem readHops_any (l : List UInt8) (hl : l.length <= 1073741824) (w : World) : Calls Tryz.prog 41 #[str l] w (HopsPost l w) := by
 have K := hid (fun W => readH_any l hl W)
 have HE := hid ((Mod.refl [] w).alloc (.cells #[.int .i64 0, .int .i64 0] 75))
 have HQ := hid (Blk.new w 75 #[.int .i64 0, .int .i64 0])
 go_enter Tryz.func41, Tryz.ntmps41
 go_wp2_with fail
 refine (K.out _).mono ?_
 rintro e1 w1 h1
 obtain ⟨a, b, n, rfl, hb1, hP⟩ : ∃ (a b : Nat) (n : Int), e1 = .returned (.tuple #[.agg #[.int .i64 (a : Int), .int .i64 (b : Int)], .int .i64 n]) /\ Ext (w.alloc (.cells #[.int .i64 0, .int .i64 0] 75)) w1 /\ ∀ W W', Ext W W' -> HopsPost l W (.returned (.tuple #[.agg #[.int .i64 (a : Int), .int .i64 (b : Int)], .int .i64 n])) W' := ⟨_, _, _, h1.1, h1.2, fun W W' h => ⟨rfl, h⟩⟩
 have HP := hid hP
 have HE1 := hid (HE.out.trans hb1)
 have HQ1 := hid (HQ.out.ext hb1)
 clear hb1 hP h1
 have r0 : (w1).cell? ⟨w.heap.size, 0, none⟩ = some (.int .i64 0) := HQ1.out.cell 0
 have r1 : (w1).cell? ⟨w.heap.size, 1, none⟩ = some (.int .i64 0) := HQ1.out.cell 1
 have f0 := Blk.frozen HQ1.out 0
 have f1 := Blk.frozen HQ1.out 1
 go_wp2_with fail
 have B2 := (HQ1.out.set_ 0 (.int .i64 (a : Int))).set_ 1 (.int .i64 (b : Int))
 have d0 : (((w1).setCell ⟨w.heap.size, 0, none⟩ (.int .i64 (a : Int))).setCell ⟨w.heap.size, 1, none⟩ (.int .i64 (b : Int))).cell? ⟨w.heap.size, 0, none⟩ = some (.int .i64 (a : Int)) := B2.cell 0
 have d1 : (((w1).setCell ⟨w.heap.size, 0, none⟩ (.int .i64 (a : Int))).setCell ⟨w.heap.size, 1, none⟩ (.int .i64 (b : Int))).cell? ⟨w.heap.size, 1, none⟩ = some (.int .i64 (b : Int)) := B2.cell 1
 clear B2 r0 r1 f0 f1
 refine bodyPost_ret (v := .tuple #[.agg #[.int .i64 (a : Int), .int .i64 (b : Int)], .int .i64 n]) (by simp [results, Tryz.results41, go_sem, d0, d1]) rfl (HP.out _ _ ((HE1.out.setCell (.inr (Nat.le_refl _)) _).setCell (.inr (Nat.le_refl _)) _))
end Go.Proofs.YthecmnbkjchjmaaGreat
