/-
 The parser of items: an item.
-/
import Derived.Test.YtmckfdmdkljomaaGreatDoorMMixLessCardak
namespace Go.Proofs.YtmckfdmdkljomaaGreatDoor
open Go.RowKit
set_option linter.unusedVariables false
set_option linter.unusedSimpArgs false
theorem flt_none {d : Nat} {l : List UInt8} (h : readH l = none) : flt d l = (0, 2) := by
 cases d <;> (unfold flt; rw [h])
theorem flt_noK {d : Nat} {l : List UInt8} {sz m n : Nat} {o : Bool} (h : readH l = some (sz, m, n, o)) (hm : noK m = true) : flt d l = (0, 2) := by
 cases d <;> (unfold flt; rw [h]; dsimp only; rw [if_pos hm])
theorem flt_deep {l : List UInt8} {sz m n : Nat} {o : Bool} (h : readH l = some (sz, m, n, o)) (hm : noK m = false) : flt 0 l = (0, 3) := by
 unfold flt; rw [h]; dsimp only; rw [if_neg (by simp [hm])]
theorem flt_num {d : Nat} {l : List UInt8} {sz n : Nat} {o : Bool} (h : readH l = some (sz, 0, n, o)) : flt (d + 1) l = (sz, 0) := by
 unfold flt; rw [h]; rfl
theorem flt_str {d : Nat} {l : List UInt8} {sz m n : Nat} {o : Bool} (h : readH l = some (sz, m, n, o)) (hm : m = 2 \/ m = 3) : flt (d + 1) l = strR o l sz n := by
 unfold flt; rw [h]
 rcases hm with rfl | rfl <;> rfl
theorem flt_long {d : Nat} {l : List UInt8} {sz n : Nat} (h : readH l = some (sz, 4, n, false)) (hn : 1000 < n) : flt (d + 1) l = (0, 4) := by
 unfold flt; rw [h]; dsimp only
 rw [if_neg (by decide), if_neg (by decide), if_neg (by decide), if_pos ⟨rfl, hn⟩]
theorem flt_arr {d : Nat} {l : List UInt8} {sz n : Nat} {o : Bool} (h : readH l = some (sz, 4, n, o)) (hn : ¬ (o = false /\ 1000 < n)) : flt (d + 1) l = floop (flt d) l o n 1000 sz := by
 unfold flt; rw [h]; dsimp only
 rw [if_neg (by decide), if_neg (by decide), if_neg (by decide), if_neg hn]
theorem newarr_long {L : List UInt8} {sz n : Nat} (h : readH L = some (sz, 4, n, false)) (hn : 1000 < n) : ((RS.new L).Array).1.e = 4 := by
 have e := RS.Head_some (r := RS.new L) rfl h
 unfold RS.Array
 rw [e]
 dsimp only
 rw [if_pos rfl, if_neg (by decide), if_neg (by decide), if_pos hn]
 rfl
theorem newarr_ok {L : List UInt8} {sz n : Nat} {o : Bool} (h : readH L = some (sz, 4, n, o)) (hn : ¬ (o = false /\ 1000 < n)) : (RS.new L).Array = (⟨L, sz, -1, 0, 0⟩, if o = true then -1 else (n : Int)) := by
 have e := RS.Head_some (r := RS.new L) rfl h
 unfold RS.Array
 rw [e]
 dsimp only
 cases o
 .
  rw [if_pos rfl, if_neg (by decide), if_neg (by decide), if_neg (by intro h; exact hn ⟨rfl, h⟩)]
  simp [RS.new]
 .
  rw [if_pos rfl, if_neg (by decide), if_pos rfl]
  simp [RS.new]
theorem IPost.store {g : Nat} {l : List UInt8} {p : Nat} {F : Nat × Int} {d : Nat} {w W w4 : World} {t : T} {A : Option Addr} {c : Nat} (hg : g < w.heap.size) (hE : Mod [g] w W) (hW : w.heap.size < W.heap.size)
  (hm : Mod [g] W w4) (hp : PAt w4 g l (p + F.1) F.2) (hs : F.2 = 0 -> (t.right d = true /\ t.ok) /\ t.bytes ++ l.drop (p + F.1) = l.drop p /\ IsC w4 (fun b => W.heap.size <= b) t A c) :
  IPost g l p F d w (.returned (itemV t A c)) (set5 w4 w.heap.size t A c) := by
 refine ⟨t, A, c, rfl, set5_mod (hE.trans hm) (Nat.le_refl _), set5_far hp (by omega), fun h0 => ⟨(hs h0).1, (hs h0).2.1, ?_⟩⟩
 exact IsC.weak (fun k hk hq => by omega) t (IsC.mod set5_modb (fun k hq hk hm => by rw [List.mem_singleton] at hm; omega) t (hs h0).2.2)
structure IH1 (w : World) (g : Nat) (l : List UInt8) (p : Nat) (wx : World) (R : Nat) : Prop where
 ext : Ext w wx
 pa : PAt wx g l p 0
 ret : Blk wx w.heap.size 68 (itemC nulT none 0)
 rd : RdAt wx R (RS.new (l.drop p)).Head.1
 lt : w.heap.size < R
set_option maxRecDepth 20000 in
set_option maxHeartbeats 800000 in
theorem pitem_none (g : Nat) (l : List UInt8) (p : Nat) (hp : Hid (p <= l.length /\ l.length <= 1073741824)) (d : Nat) (hr : Hid (readH (l.drop p) = none)) (w : World) (h : PAt w g l p 0) :
  Calls Tryz.prog 118 #[.pointer (some ⟨g, 0, none⟩), .int .i64 (d : Int)] w (IPost g l p (flt d (l.drop p)) d w) := by
 have HF := hid (flt_none (d := d) hr.out)
 have hrk : Hid (RS.ok (RS.new (l.drop p))) := RS.new_ok (by have := hp.out; rw [List.length_drop]; omega)
 have hg : Hid (g < w.heap.size) := Blk.lt h
 have hgB : Hid (w.heap.size ≠ g) := by have := hg.out; unfold Hid; omega
 have H0 := hid (Blk.alloc h (.cells (itemC nulT none 0) 68))
 clear h
 go_enter Tryz.func118, Tryz.ntmps118
 go_wp2_with fail
 refine (preader_any g l p 0 hp _ H0.out).mono ?_
 rintro x w1 ⟨rfl, hb1, hr1⟩
 have P1 := hid (H0.out.ext hb1)
 have B1 := hid ((Blk.new w 68 (itemC nulT none 0)).ext hb1)
 have HE1 := hid (((Mod.refl [] w).alloc (.cells (itemC nulT none 0) 68)).trans hb1)
 have hR1 : RdAt w1 (w.heap.size + 1) (RS.new (l.drop p)) := by simpa using hr1
 have HR1 := hid hR1
 clear hr1 hR1 hb1 H0
 go_wp2_with fail
 refine (Head_any_r _ _ hrk.out _ HR1.out).mono ?_
 rintro x w2 ⟨rfl, hm2, hr2⟩
 have K2 : Hid (IH1 w g l p w2 (w.heap.size + 1)) := ⟨Mod.new (S := [w.heap.size + 1]) (HE1.out.of_ext.trans hm2) (fun k hk => by rw [List.mem_singleton] at hk; subst hk; exact .inr (by omega)), Blk.mod P1.out hm2 (by have := hg.out; simp; omega), B1.out.mod hm2 (by simp), hr2, by omega⟩
 clear P1 B1 HE1 HR1 hm2 hr2
 go_wp2_with fail
 refine (Bad_any _ _ _ K2.out.rd).mono ?_
 rintro x w3 ⟨rfl, hb3⟩
 have K3 : Hid (IH1 w g l p w3 (w.heap.size + 1)) := ⟨K2.out.ext.trans hb3, K2.out.pa.ext hb3, K2.out.ret.ext hb3, Blk.ext K2.out.rd hb3, by omega⟩
 clear K2 hb3
 have p1 : w3.cell? ⟨g, 1, none⟩ = some (.int .i64 (p : Int)) := PAt.at_ K3.out.pa
 have HH := hid (RS.Head_none (r := RS.new (l.drop p)) rfl hr.out)
 rw [HH.out]
 dsimp only
 go_wp2_with fail
 refine (pfail_any g l p p 2 _ K3.out.pa).mono ?_
 rintro x w9 ⟨rfl, hm9, hp9⟩
 have HB9 := hid (Blk.mod K3.out.ret hm9 (by simpa using hgB.out))
 have HM9 := hid hm9; have HP9 := hid hp9
 clear hm9 hp9
 obtain ⟨c0, c1, c2, c3, c4⟩ := cells5 HB9.out
 have f0 := Blk.frozen HB9.out 0
 have f1 := Blk.frozen HB9.out 1
 have f2 := Blk.frozen HB9.out 2
 have f3 := Blk.frozen HB9.out 3
 have f4 := Blk.frozen HB9.out 4
 go_wp2_with fail
 obtain ⟨d0, d1, d2, d3, d4⟩ := cells5 (set5_blk (t := nulT) (A := none) (c := 0) HB9.out)
 clear c0 c1 c2 c3 c4 f0 f1 f2 f3 f4
 show bodyPost _ _ _ _ _ (set5 w9 w.heap.size nulT none 0)
 refine bodyPost_ret (v := itemV nulT none 0) (by simp [results, Tryz.results118, go_sem, d0, d1, d2, d3, d4]) rfl ?_
 rw [HF.out]
 exact IPost.store hg.out ((K3.out.ext).of_ext) (Blk.lt K3.out.ret) HM9.out HP9.out (fun h => by cases h)
set_option maxRecDepth 20000 in
set_option maxHeartbeats 1600000 in
theorem pitem_noK (g : Nat) (l : List UInt8) (p : Nat) (hp : Hid (p <= l.length /\ l.length <= 1073741824)) (d sz m n : Nat) (o : Bool) (hm : Hid (m = 1 \/ m = 5 \/ m = 6 \/ m = 7)) (hr : Hid (readH (l.drop p) = some (sz, m, n, o))) (w : World) (h : PAt w g l p 0) :
  Calls Tryz.prog 118 #[.pointer (some ⟨g, 0, none⟩), .int .i64 (d : Int)] w (IPost g l p (flt d (l.drop p)) d w) := by
 have HF := hid (flt_noK (d := d) hr.out (by rcases hm.out with rfl | rfl | rfl | rfl <;> rfl))
 have hrk : Hid (RS.ok (RS.new (l.drop p))) := RS.new_ok (by have := hp.out; rw [List.length_drop]; omega)
 have hg : Hid (g < w.heap.size) := Blk.lt h
 have hgB : Hid (w.heap.size ≠ g) := by have := hg.out; unfold Hid; omega
 have H0 := hid (Blk.alloc h (.cells (itemC nulT none 0) 68))
 clear h
 go_enter Tryz.func118, Tryz.ntmps118
 go_wp2_with fail
 refine (preader_any g l p 0 hp _ H0.out).mono ?_
 rintro x w1 ⟨rfl, hb1, hr1⟩
 have P1 := hid (H0.out.ext hb1)
 have B1 := hid ((Blk.new w 68 (itemC nulT none 0)).ext hb1)
 have HE1 := hid (((Mod.refl [] w).alloc (.cells (itemC nulT none 0) 68)).trans hb1)
 have hR1 : RdAt w1 (w.heap.size + 1) (RS.new (l.drop p)) := by simpa using hr1
 have HR1 := hid hR1
 clear hr1 hR1 hb1 H0
 go_wp2_with fail
 refine (Head_any_r _ _ hrk.out _ HR1.out).mono ?_
 rintro x w2 ⟨rfl, hm2, hr2⟩
 have K2 : Hid (IH1 w g l p w2 (w.heap.size + 1)) := ⟨Mod.new (S := [w.heap.size + 1]) (HE1.out.of_ext.trans hm2) (fun k hk => by rw [List.mem_singleton] at hk; subst hk; exact .inr (by omega)), Blk.mod P1.out hm2 (by have := hg.out; simp; omega), B1.out.mod hm2 (by simp), hr2, by omega⟩
 clear P1 B1 HE1 HR1 hm2 hr2
 go_wp2_with fail
 refine (Bad_any _ _ _ K2.out.rd).mono ?_
 rintro x w3 ⟨rfl, hb3⟩
 have K3 : Hid (IH1 w g l p w3 (w.heap.size + 1)) := ⟨K2.out.ext.trans hb3, K2.out.pa.ext hb3, K2.out.ret.ext hb3, Blk.ext K2.out.rd hb3, by omega⟩
 clear K2 hb3
 have p1 : w3.cell? ⟨g, 1, none⟩ = some (.int .i64 (p : Int)) := PAt.at_ K3.out.pa
 have HH := hid (RS.Head_some (r := RS.new (l.drop p)) rfl hr.out)
 rw [HH.out]
 dsimp only
 rcases hm.out with rfl | rfl | rfl | rfl
 .
  go_wp2_with fail
  refine (pfail_any g l p p 2 _ K3.out.pa).mono ?_
  rintro x w9 ⟨rfl, hm9, hp9⟩
  have HB9 := hid (Blk.mod K3.out.ret hm9 (by simpa using hgB.out))
  have HM9 := hid hm9; have HP9 := hid hp9
  clear hm9 hp9
  obtain ⟨c0, c1, c2, c3, c4⟩ := cells5 HB9.out
  have f0 := Blk.frozen HB9.out 0
  have f1 := Blk.frozen HB9.out 1
  have f2 := Blk.frozen HB9.out 2
  have f3 := Blk.frozen HB9.out 3
  have f4 := Blk.frozen HB9.out 4
  go_wp2_with fail
  obtain ⟨d0, d1, d2, d3, d4⟩ := cells5 (set5_blk (t := nulT) (A := none) (c := 0) HB9.out)
  clear c0 c1 c2 c3 c4 f0 f1 f2 f3 f4
  show bodyPost _ _ _ _ _ (set5 w9 w.heap.size nulT none 0)
  refine bodyPost_ret (v := itemV nulT none 0) (by simp [results, Tryz.results118, go_sem, d0, d1, d2, d3, d4]) rfl ?_
  rw [HF.out]
  exact IPost.store hg.out ((K3.out.ext).of_ext) (Blk.lt K3.out.ret) HM9.out HP9.out (fun h => by cases h)
 .
  go_wp2_with fail
  refine (pfail_any g l p p 2 _ K3.out.pa).mono ?_
  rintro x w9 ⟨rfl, hm9, hp9⟩
  have HB9 := hid (Blk.mod K3.out.ret hm9 (by simpa using hgB.out))
  have HM9 := hid hm9; have HP9 := hid hp9
  clear hm9 hp9
  obtain ⟨c0, c1, c2, c3, c4⟩ := cells5 HB9.out
  have f0 := Blk.frozen HB9.out 0
  have f1 := Blk.frozen HB9.out 1
  have f2 := Blk.frozen HB9.out 2
  have f3 := Blk.frozen HB9.out 3
  have f4 := Blk.frozen HB9.out 4
  go_wp2_with fail
  obtain ⟨d0, d1, d2, d3, d4⟩ := cells5 (set5_blk (t := nulT) (A := none) (c := 0) HB9.out)
  clear c0 c1 c2 c3 c4 f0 f1 f2 f3 f4
  show bodyPost _ _ _ _ _ (set5 w9 w.heap.size nulT none 0)
  refine bodyPost_ret (v := itemV nulT none 0) (by simp [results, Tryz.results118, go_sem, d0, d1, d2, d3, d4]) rfl ?_
  rw [HF.out]
  exact IPost.store hg.out ((K3.out.ext).of_ext) (Blk.lt K3.out.ret) HM9.out HP9.out (fun h => by cases h)
 .
  go_wp2_with fail
  refine (pfail_any g l p p 2 _ K3.out.pa).mono ?_
  rintro x w9 ⟨rfl, hm9, hp9⟩
  have HB9 := hid (Blk.mod K3.out.ret hm9 (by simpa using hgB.out))
  have HM9 := hid hm9; have HP9 := hid hp9
  clear hm9 hp9
  obtain ⟨c0, c1, c2, c3, c4⟩ := cells5 HB9.out
  have f0 := Blk.frozen HB9.out 0
  have f1 := Blk.frozen HB9.out 1
  have f2 := Blk.frozen HB9.out 2
  have f3 := Blk.frozen HB9.out 3
  have f4 := Blk.frozen HB9.out 4
  go_wp2_with fail
  obtain ⟨d0, d1, d2, d3, d4⟩ := cells5 (set5_blk (t := nulT) (A := none) (c := 0) HB9.out)
  clear c0 c1 c2 c3 c4 f0 f1 f2 f3 f4
  show bodyPost _ _ _ _ _ (set5 w9 w.heap.size nulT none 0)
  refine bodyPost_ret (v := itemV nulT none 0) (by simp [results, Tryz.results118, go_sem, d0, d1, d2, d3, d4]) rfl ?_
  rw [HF.out]
  exact IPost.store hg.out ((K3.out.ext).of_ext) (Blk.lt K3.out.ret) HM9.out HP9.out (fun h => by cases h)
 .
  go_wp2_with fail
  refine (pfail_any g l p p 2 _ K3.out.pa).mono ?_
  rintro x w9 ⟨rfl, hm9, hp9⟩
  have HB9 := hid (Blk.mod K3.out.ret hm9 (by simpa using hgB.out))
  have HM9 := hid hm9; have HP9 := hid hp9
  clear hm9 hp9
  obtain ⟨c0, c1, c2, c3, c4⟩ := cells5 HB9.out
  have f0 := Blk.frozen HB9.out 0
  have f1 := Blk.frozen HB9.out 1
  have f2 := Blk.frozen HB9.out 2
  have f3 := Blk.frozen HB9.out 3
  have f4 := Blk.frozen HB9.out 4
  go_wp2_with fail
  obtain ⟨d0, d1, d2, d3, d4⟩ := cells5 (set5_blk (t := nulT) (A := none) (c := 0) HB9.out)
  clear c0 c1 c2 c3 c4 f0 f1 f2 f3 f4
  show bodyPost _ _ _ _ _ (set5 w9 w.heap.size nulT none 0)
  refine bodyPost_ret (v := itemV nulT none 0) (by simp [results, Tryz.results118, go_sem, d0, d1, d2, d3, d4]) rfl ?_
  rw [HF.out]
  exact IPost.store hg.out ((K3.out.ext).of_ext) (Blk.lt K3.out.ret) HM9.out HP9.out (fun h => by cases h)
set_option maxRecDepth 20000 in
set_option maxHeartbeats 1600000 in
theorem pitem_deep (g : Nat) (l : List UInt8) (p : Nat) (hp : Hid (p <= l.length /\ l.length <= 1073741824)) (sz m n : Nat) (o : Bool) (hm : Hid (m = 0 \/ m = 2 \/ m = 3 \/ m = 4)) (hr : Hid (readH (l.drop p) = some (sz, m, n, o))) (w : World) (h : PAt w g l p 0) :
  Calls Tryz.prog 118 #[.pointer (some ⟨g, 0, none⟩), .int .i64 0] w (IPost g l p (flt 0 (l.drop p)) 0 w) := by
 have HF := hid (flt_deep hr.out (by rcases hm.out with rfl | rfl | rfl | rfl <;> rfl))
 have hrk : Hid (RS.ok (RS.new (l.drop p))) := RS.new_ok (by have := hp.out; rw [List.length_drop]; omega)
 have hg : Hid (g < w.heap.size) := Blk.lt h
 have hgB : Hid (w.heap.size ≠ g) := by have := hg.out; unfold Hid; omega
 have H0 := hid (Blk.alloc h (.cells (itemC nulT none 0) 68))
 clear h
 go_enter Tryz.func118, Tryz.ntmps118
 go_wp2_with fail
 refine (preader_any g l p 0 hp _ H0.out).mono ?_
 rintro x w1 ⟨rfl, hb1, hr1⟩
 have P1 := hid (H0.out.ext hb1)
 have B1 := hid ((Blk.new w 68 (itemC nulT none 0)).ext hb1)
 have HE1 := hid (((Mod.refl [] w).alloc (.cells (itemC nulT none 0) 68)).trans hb1)
 have hR1 : RdAt w1 (w.heap.size + 1) (RS.new (l.drop p)) := by simpa using hr1
 have HR1 := hid hR1
 clear hr1 hR1 hb1 H0
 go_wp2_with fail
 refine (Head_any_r _ _ hrk.out _ HR1.out).mono ?_
 rintro x w2 ⟨rfl, hm2, hr2⟩
 have K2 : Hid (IH1 w g l p w2 (w.heap.size + 1)) := ⟨Mod.new (S := [w.heap.size + 1]) (HE1.out.of_ext.trans hm2) (fun k hk => by rw [List.mem_singleton] at hk; subst hk; exact .inr (by omega)), Blk.mod P1.out hm2 (by have := hg.out; simp; omega), B1.out.mod hm2 (by simp), hr2, by omega⟩
 clear P1 B1 HE1 HR1 hm2 hr2
 go_wp2_with fail
 refine (Bad_any _ _ _ K2.out.rd).mono ?_
 rintro x w3 ⟨rfl, hb3⟩
 have K3 : Hid (IH1 w g l p w3 (w.heap.size + 1)) := ⟨K2.out.ext.trans hb3, K2.out.pa.ext hb3, K2.out.ret.ext hb3, Blk.ext K2.out.rd hb3, by omega⟩
 clear K2 hb3
 have p1 : w3.cell? ⟨g, 1, none⟩ = some (.int .i64 (p : Int)) := PAt.at_ K3.out.pa
 have HH := hid (RS.Head_some (r := RS.new (l.drop p)) rfl hr.out)
 rw [HH.out]
 dsimp only
 rcases hm.out with rfl | rfl | rfl | rfl
 .
  go_wp2_with fail
  refine (pfail_any g l p p 3 _ K3.out.pa).mono ?_
  rintro x w9 ⟨rfl, hm9, hp9⟩
  have HB9 := hid (Blk.mod K3.out.ret hm9 (by simpa using hgB.out))
  have HM9 := hid hm9; have HP9 := hid hp9
  clear hm9 hp9
  obtain ⟨c0, c1, c2, c3, c4⟩ := cells5 HB9.out
  have f0 := Blk.frozen HB9.out 0
  have f1 := Blk.frozen HB9.out 1
  have f2 := Blk.frozen HB9.out 2
  have f3 := Blk.frozen HB9.out 3
  have f4 := Blk.frozen HB9.out 4
  go_wp2_with fail
  obtain ⟨d0, d1, d2, d3, d4⟩ := cells5 (set5_blk (t := nulT) (A := none) (c := 0) HB9.out)
  clear c0 c1 c2 c3 c4 f0 f1 f2 f3 f4
  show bodyPost _ _ _ _ _ (set5 w9 w.heap.size nulT none 0)
  refine bodyPost_ret (v := itemV nulT none 0) (by simp [results, Tryz.results118, go_sem, d0, d1, d2, d3, d4]) rfl ?_
  rw [HF.out]
  exact IPost.store hg.out ((K3.out.ext).of_ext) (Blk.lt K3.out.ret) HM9.out HP9.out (fun h => by cases h)
 .
  go_wp2_with fail
  refine (pfail_any g l p p 3 _ K3.out.pa).mono ?_
  rintro x w9 ⟨rfl, hm9, hp9⟩
  have HB9 := hid (Blk.mod K3.out.ret hm9 (by simpa using hgB.out))
  have HM9 := hid hm9; have HP9 := hid hp9
  clear hm9 hp9
  obtain ⟨c0, c1, c2, c3, c4⟩ := cells5 HB9.out
  have f0 := Blk.frozen HB9.out 0
  have f1 := Blk.frozen HB9.out 1
  have f2 := Blk.frozen HB9.out 2
  have f3 := Blk.frozen HB9.out 3
  have f4 := Blk.frozen HB9.out 4
  go_wp2_with fail
  obtain ⟨d0, d1, d2, d3, d4⟩ := cells5 (set5_blk (t := nulT) (A := none) (c := 0) HB9.out)
  clear c0 c1 c2 c3 c4 f0 f1 f2 f3 f4
  show bodyPost _ _ _ _ _ (set5 w9 w.heap.size nulT none 0)
  refine bodyPost_ret (v := itemV nulT none 0) (by simp [results, Tryz.results118, go_sem, d0, d1, d2, d3, d4]) rfl ?_
  rw [HF.out]
  exact IPost.store hg.out ((K3.out.ext).of_ext) (Blk.lt K3.out.ret) HM9.out HP9.out (fun h => by cases h)
 .
  go_wp2_with fail
  refine (pfail_any g l p p 3 _ K3.out.pa).mono ?_
  rintro x w9 ⟨rfl, hm9, hp9⟩
  have HB9 := hid (Blk.mod K3.out.ret hm9 (by simpa using hgB.out))
  have HM9 := hid hm9; have HP9 := hid hp9
  clear hm9 hp9
  obtain ⟨c0, c1, c2, c3, c4⟩ := cells5 HB9.out
  have f0 := Blk.frozen HB9.out 0
  have f1 := Blk.frozen HB9.out 1
  have f2 := Blk.frozen HB9.out 2
  have f3 := Blk.frozen HB9.out 3
  have f4 := Blk.frozen HB9.out 4
  go_wp2_with fail
  obtain ⟨d0, d1, d2, d3, d4⟩ := cells5 (set5_blk (t := nulT) (A := none) (c := 0) HB9.out)
  clear c0 c1 c2 c3 c4 f0 f1 f2 f3 f4
  show bodyPost _ _ _ _ _ (set5 w9 w.heap.size nulT none 0)
  refine bodyPost_ret (v := itemV nulT none 0) (by simp [results, Tryz.results118, go_sem, d0, d1, d2, d3, d4]) rfl ?_
  rw [HF.out]
  exact IPost.store hg.out ((K3.out.ext).of_ext) (Blk.lt K3.out.ret) HM9.out HP9.out (fun h => by cases h)
 .
  go_wp2_with fail
  refine (pfail_any g l p p 3 _ K3.out.pa).mono ?_
  rintro x w9 ⟨rfl, hm9, hp9⟩
  have HB9 := hid (Blk.mod K3.out.ret hm9 (by simpa using hgB.out))
  have HM9 := hid hm9; have HP9 := hid hp9
  clear hm9 hp9
  obtain ⟨c0, c1, c2, c3, c4⟩ := cells5 HB9.out
  have f0 := Blk.frozen HB9.out 0
  have f1 := Blk.frozen HB9.out 1
  have f2 := Blk.frozen HB9.out 2
  have f3 := Blk.frozen HB9.out 3
  have f4 := Blk.frozen HB9.out 4
  go_wp2_with fail
  obtain ⟨d0, d1, d2, d3, d4⟩ := cells5 (set5_blk (t := nulT) (A := none) (c := 0) HB9.out)
  clear c0 c1 c2 c3 c4 f0 f1 f2 f3 f4
  show bodyPost _ _ _ _ _ (set5 w9 w.heap.size nulT none 0)
  refine bodyPost_ret (v := itemV nulT none 0) (by simp [results, Tryz.results118, go_sem, d0, d1, d2, d3, d4]) rfl ?_
  rw [HF.out]
  exact IPost.store hg.out ((K3.out.ext).of_ext) (Blk.lt K3.out.ret) HM9.out HP9.out (fun h => by cases h)
set_option maxRecDepth 20000 in
set_option maxHeartbeats 1600000 in
theorem pitem_str (g : Nat) (l : List UInt8) (p : Nat) (hp : Hid (p <= l.length /\ l.length <= 1073741824)) (d sz m n : Nat) (o : Bool) (hm : Hid (m = 2 \/ m = 3)) (hr : Hid (readH (l.drop p) = some (sz, m, n, o))) (w : World) (h : PAt w g l p 0) :
  Calls Tryz.prog 118 #[.pointer (some ⟨g, 0, none⟩), .int .i64 ((d : Int) + 1)] w (IPost g l p (flt (d + 1) (l.drop p)) (d + 1) w) := by
 have HF := hid (flt_str (d := d) hr.out hm.out)
 have hrk : Hid (RS.ok (RS.new (l.drop p))) := RS.new_ok (by have := hp.out; rw [List.length_drop]; omega)
 have hg : Hid (g < w.heap.size) := Blk.lt h
 have hgB : Hid (w.heap.size ≠ g) := by have := hg.out; unfold Hid; omega
 have H0 := hid (Blk.alloc h (.cells (itemC nulT none 0) 68))
 clear h
 go_enter Tryz.func118, Tryz.ntmps118
 go_wp2_with fail
 refine (preader_any g l p 0 hp _ H0.out).mono ?_
 rintro x w1 ⟨rfl, hb1, hr1⟩
 have P1 := hid (H0.out.ext hb1)
 have B1 := hid ((Blk.new w 68 (itemC nulT none 0)).ext hb1)
 have HE1 := hid (((Mod.refl [] w).alloc (.cells (itemC nulT none 0) 68)).trans hb1)
 have hR1 : RdAt w1 (w.heap.size + 1) (RS.new (l.drop p)) := by simpa using hr1
 have HR1 := hid hR1
 clear hr1 hR1 hb1 H0
 go_wp2_with fail
 refine (Head_any_r _ _ hrk.out _ HR1.out).mono ?_
 rintro x w2 ⟨rfl, hm2, hr2⟩
 have K2 : Hid (IH1 w g l p w2 (w.heap.size + 1)) := ⟨Mod.new (S := [w.heap.size + 1]) (HE1.out.of_ext.trans hm2) (fun k hk => by rw [List.mem_singleton] at hk; subst hk; exact .inr (by omega)), Blk.mod P1.out hm2 (by have := hg.out; simp; omega), B1.out.mod hm2 (by simp), hr2, by omega⟩
 clear P1 B1 HE1 HR1 hm2 hr2
 go_wp2_with fail
 refine (Bad_any _ _ _ K2.out.rd).mono ?_
 rintro x w3 ⟨rfl, hb3⟩
 have K3 : Hid (IH1 w g l p w3 (w.heap.size + 1)) := ⟨K2.out.ext.trans hb3, K2.out.pa.ext hb3, K2.out.ret.ext hb3, Blk.ext K2.out.rd hb3, by omega⟩
 clear K2 hb3
 have p1 : w3.cell? ⟨g, 1, none⟩ = some (.int .i64 (p : Int)) := PAt.at_ K3.out.pa
 have HH := hid (RS.Head_some (r := RS.new (l.drop p)) rfl hr.out)
 rw [HH.out]
 dsimp only
 have td : decide ((d : Int) + 1 < 1) = false := by simp; omega
 have td2 : ((d : Int) + 1 < 1) = False := by simp; omega
 rcases hm.out with rfl | rfl
 .
  go_wp2_with fail
  refine (pstr_any 2 (by first | exact .inl rfl | exact .inr rfl) g l p hp d sz n o hr _ K3.out.pa).mono ?_
  rintro x w9 ⟨t, A, c, rfl, hm9, hp9, hs9⟩
  have HB9 := hid (Blk.mod K3.out.ret hm9 (by simpa using hgB.out))
  have HM9 := hid hm9; have HP9 := hid hp9; have HS9 := hid hs9
  clear hm9 hp9 hs9
  obtain ⟨c0, c1, c2, c3, c4⟩ := cells5 HB9.out
  have f0 := Blk.frozen HB9.out 0
  have f1 := Blk.frozen HB9.out 1
  have f2 := Blk.frozen HB9.out 2
  have f3 := Blk.frozen HB9.out 3
  have f4 := Blk.frozen HB9.out 4
  go_wp2_with fail
  obtain ⟨d0, d1, d2, d3, d4⟩ := cells5 (set5_blk (t := t) (A := A) (c := c) HB9.out)
  clear c0 c1 c2 c3 c4 f0 f1 f2 f3 f4
  show bodyPost _ _ _ _ _ (set5 w9 w.heap.size t A c)
  refine bodyPost_ret (v := itemV t A c) (by simp [results, Tryz.results118, go_sem, d0, d1, d2, d3, d4]) rfl ?_
  rw [HF.out]
  exact IPost.store hg.out (K3.out.ext.of_ext) (Blk.lt K3.out.ret) HM9.out HP9.out HS9.out
 .
  go_wp2_with fail
  refine (pstr_any 3 (by first | exact .inl rfl | exact .inr rfl) g l p hp d sz n o hr _ K3.out.pa).mono ?_
  rintro x w9 ⟨t, A, c, rfl, hm9, hp9, hs9⟩
  have HB9 := hid (Blk.mod K3.out.ret hm9 (by simpa using hgB.out))
  have HM9 := hid hm9; have HP9 := hid hp9; have HS9 := hid hs9
  clear hm9 hp9 hs9
  obtain ⟨c0, c1, c2, c3, c4⟩ := cells5 HB9.out
  have f0 := Blk.frozen HB9.out 0
  have f1 := Blk.frozen HB9.out 1
  have f2 := Blk.frozen HB9.out 2
  have f3 := Blk.frozen HB9.out 3
  have f4 := Blk.frozen HB9.out 4
  go_wp2_with fail
  obtain ⟨d0, d1, d2, d3, d4⟩ := cells5 (set5_blk (t := t) (A := A) (c := c) HB9.out)
  clear c0 c1 c2 c3 c4 f0 f1 f2 f3 f4
  show bodyPost _ _ _ _ _ (set5 w9 w.heap.size t A c)
  refine bodyPost_ret (v := itemV t A c) (by simp [results, Tryz.results118, go_sem, d0, d1, d2, d3, d4]) rfl ?_
  rw [HF.out]
  exact IPost.store hg.out (K3.out.ext.of_ext) (Blk.lt K3.out.ret) HM9.out HP9.out HS9.out
theorem newhead {L : List UInt8} {sz m n : Nat} {o : Bool} (h : readH L = some (sz, m, n, o)) : (RS.new L).Head = (⟨L, sz, -1, 0, 0⟩, m, n, o) := by
 rw [RS.Head_some (r := RS.new L) rfl h]; simp [RS.new]
theorem numT_good {l : List UInt8} {p sz n d : Nat} {o : Bool} (h : readH (l.drop p) = some (sz, 0, n, o)) : ((numT n).right (d + 1) = true /\ (numT n).ok) /\ (numT n).bytes ++ l.drop (p + sz) = l.drop p := by
 have hs := readH_some h
 have ho : o = false := by
  cases o with
  | false => rfl
  | true => have := (hs.opened rfl).2.2.1; revert this; decide
 subst ho
 refine ⟨⟨?_, ?_⟩, ?_⟩
 . unfold numT T.right T.node; simp [T.all]
 . unfold numT T.ok; exact ⟨by omega, hs.n64, by simp, by omega, fun i hi => by omega⟩
 .
  have e : (numT n).bytes = headL 0 n := rfl
  rw [e, <- (hs.closed rfl).1, <- List.drop_drop, List.take_append_drop]
set_option maxRecDepth 20000 in
set_option maxHeartbeats 1600000 in
theorem pitem_num (g : Nat) (l : List UInt8) (p : Nat) (hp : Hid (p <= l.length /\ l.length <= 1073741824)) (d sz n : Nat) (o : Bool) (hr : Hid (readH (l.drop p) = some (sz, 0, n, o))) (w : World) (h : PAt w g l p 0) :
  Calls Tryz.prog 118 #[.pointer (some ⟨g, 0, none⟩), .int .i64 ((d : Int) + 1)] w (IPost g l p (flt (d + 1) (l.drop p)) (d + 1) w) := by
 have HF := hid (flt_num (d := d) hr.out)
 have hsz : Hid (sz <= 1073741824) := by have h1 := (readH_some hr.out).le; have h2 := hp.out; rw [List.length_drop] at h1; unfold Hid; omega
 have hrk : Hid (RS.ok (RS.new (l.drop p))) := RS.new_ok (by have := hp.out; rw [List.length_drop]; omega)
 have hg : Hid (g < w.heap.size) := Blk.lt h
 have hgB : Hid (w.heap.size ≠ g) := by have := hg.out; unfold Hid; omega
 have H0 := hid (Blk.alloc h (.cells (itemC nulT none 0) 68))
 clear h
 go_enter Tryz.func118, Tryz.ntmps118
 go_wp2_with fail
 refine (preader_any g l p 0 hp _ H0.out).mono ?_
 rintro x w1 ⟨rfl, hb1, hr1⟩
 have P1 := hid (H0.out.ext hb1)
 have B1 := hid ((Blk.new w 68 (itemC nulT none 0)).ext hb1)
 have HE1 := hid (((Mod.refl [] w).alloc (.cells (itemC nulT none 0) 68)).trans hb1)
 have hR1 : RdAt w1 (w.heap.size + 1) (RS.new (l.drop p)) := by simpa using hr1
 have HR1 := hid hR1
 clear hr1 hR1 hb1 H0
 go_wp2_with fail
 refine (Head_any_r _ _ hrk.out _ HR1.out).mono ?_
 rintro x w2 ⟨rfl, hm2, hr2⟩
 have K2 : Hid (IH1 w g l p w2 (w.heap.size + 1)) := ⟨Mod.new (S := [w.heap.size + 1]) (HE1.out.of_ext.trans hm2) (fun k hk => by rw [List.mem_singleton] at hk; subst hk; exact .inr (by omega)), Blk.mod P1.out hm2 (by have := hg.out; simp; omega), B1.out.mod hm2 (by simp), hr2, by omega⟩
 clear P1 B1 HE1 HR1 hm2 hr2
 go_wp2_with fail
 refine (Bad_any _ _ _ K2.out.rd).mono ?_
 rintro x w3 ⟨rfl, hb3⟩
 have K3 : Hid (IH1 w g l p w3 (w.heap.size + 1)) := ⟨K2.out.ext.trans hb3, K2.out.pa.ext hb3, K2.out.ret.ext hb3, Blk.ext K2.out.rd hb3, by omega⟩
 clear K2 hb3
 have p1 : w3.cell? ⟨g, 1, none⟩ = some (.int .i64 (p : Int)) := PAt.at_ K3.out.pa
 have HH := hid (newhead hr.out)
 have HR3 : Hid (RdAt w3 (w.heap.size + 1) ⟨l.drop p, sz, -1, 0, 0⟩) := by have := K3.out.rd; rw [HH.out] at this; exact this
 rw [HH.out]
 dsimp only
 clear p1
 have td : decide ((d : Int) + 1 < 1) = false := by simp; omega
 have td2 : ((d : Int) + 1 < 1) = False := by simp; omega
 have q1 : w3.cell? ⟨g, 1, none⟩ = some (.int .i64 (p : Int)) := PAt.at_ K3.out.pa
 have z1 : w3.frozen? ⟨g, 1, none⟩ = false := PAt.froz K3.out.pa 1
 have tw : IntKind.i64.wrap ((p : Int) + (sz : Int)) = (p : Int) + (sz : Int) := IntWalk.i64_in _ (by have := hp.out; have := hsz.out; omega)
 have HP9 : Hid (Mod [g] w3 (w3.setCell ⟨g, 1, none⟩ (.int .i64 ((p : Int) + (sz : Int)))) /\ PAt (w3.setCell ⟨g, 1, none⟩ (.int .i64 ((p : Int) + (sz : Int)))) g l (p + sz) 0 /\ Blk (w3.setCell ⟨g, 1, none⟩ (.int .i64 ((p : Int) + (sz : Int)))) w.heap.size 68 (itemC nulT none 0)) := by
  refine ⟨(Mod.refl _ _).setCell (.inl (by simp)) _, ?_, Blk.far K3.out.ret (by simpa using hgB.out) _⟩
  have := Blk.set_ K3.out.pa 1 (.int .i64 ((p + sz : Nat) : Int))
  simpa [PAt] using this
 go_upto_region 11 with fail
 go_cut [] (fun wx => Hid (Mod [g] w3 wx /\ PAt wx g l (p + sz) 0 /\ Blk wx w.heap.size 68 (itemC nulT none 0)))
 case first =>
  go_region_with ((go_at_call 141; refine (At_any (w.heap.size + 1) ⟨l.drop p, sz, -1, 0, 0⟩ _ ?_).mono ?_; (first | exact HR3.out | exact Blk.drew HR3.out | exact Blk.drew (Blk.drew HR3.out)); rintro x w' ⟨rfl, rfl⟩))
  all_goals go_wp2_with fail
  all_goals go_meet
  all_goals exact ⟨by first | exact HP9.out.1 | exact HP9.out.1.drew, HP9.out.2⟩
 clear q1 z1 tw HP9
 have hc2 := hid hcut.out
 clear hcut
 go_wp2_with fail
 refine (Num_any n _).mono ?_
 rintro x w9 ⟨rfl, hb9⟩
 have HB9 := hid (hc2.out.2.2.ext hb9)
 have HM9 := hid (hc2.out.1.trans hb9.of_ext)
 have HP9 := hid (Blk.ext hc2.out.2.1 hb9)
 clear hb9
 have HG := hid (numT_good (d := d) hr.out)
 have HLs : Hid (∀ W Q, IsC W Q (numT n) none 0) := fun W Q => IsC.leaf
 generalize numT n = t at *
 obtain ⟨c0, c1, c2, c3, c4⟩ := cells5 HB9.out
 have f0 := Blk.frozen HB9.out 0
 have f1 := Blk.frozen HB9.out 1
 have f2 := Blk.frozen HB9.out 2
 have f3 := Blk.frozen HB9.out 3
 have f4 := Blk.frozen HB9.out 4
 go_wp2_with fail
 obtain ⟨d0, d1, d2, d3, d4⟩ := cells5 (set5_blk (t := t) (A := none) (c := 0) HB9.out)
 clear c0 c1 c2 c3 c4 f0 f1 f2 f3 f4
 show bodyPost _ _ _ _ _ (set5 w9 w.heap.size t none 0)
 refine bodyPost_ret (v := itemV t none 0) (by simp [results, Tryz.results118, go_sem, d0, d1, d2, d3, d4]) rfl ?_
 rw [HF.out]
 exact IPost.store hg.out (K3.out.ext.of_ext) (Blk.lt K3.out.ret) HM9.out HP9.out (fun _ => ⟨HG.out.1, HG.out.2, HLs.out _ _⟩)
set_option maxRecDepth 20000 in
set_option maxHeartbeats 1600000 in
theorem pitem_long (g : Nat) (l : List UInt8) (p : Nat) (hp : Hid (p <= l.length /\ l.length <= 1073741824)) (d sz n : Nat) (hn : Hid (1000 < n)) (hr : Hid (readH (l.drop p) = some (sz, 4, n, false))) (w : World) (h : PAt w g l p 0) :
  Calls Tryz.prog 118 #[.pointer (some ⟨g, 0, none⟩), .int .i64 ((d : Int) + 1)] w (IPost g l p (flt (d + 1) (l.drop p)) (d + 1) w) := by
 have HF := hid (flt_long (d := d) hr.out hn.out)
 have hrk : Hid (RS.ok (RS.new (l.drop p))) := RS.new_ok (by have := hp.out; rw [List.length_drop]; omega)
 have hg : Hid (g < w.heap.size) := Blk.lt h
 have hgB : Hid (w.heap.size ≠ g) := by have := hg.out; unfold Hid; omega
 have H0 := hid (Blk.alloc h (.cells (itemC nulT none 0) 68))
 clear h
 go_enter Tryz.func118, Tryz.ntmps118
 go_wp2_with fail
 refine (preader_any g l p 0 hp _ H0.out).mono ?_
 rintro x w1 ⟨rfl, hb1, hr1⟩
 have P1 := hid (H0.out.ext hb1)
 have B1 := hid ((Blk.new w 68 (itemC nulT none 0)).ext hb1)
 have HE1 := hid (((Mod.refl [] w).alloc (.cells (itemC nulT none 0) 68)).trans hb1)
 have hR1 : RdAt w1 (w.heap.size + 1) (RS.new (l.drop p)) := by simpa using hr1
 have HR1 := hid hR1
 clear hr1 hR1 hb1 H0
 go_wp2_with fail
 refine (Head_any_r _ _ hrk.out _ HR1.out).mono ?_
 rintro x w2 ⟨rfl, hm2, hr2⟩
 have K2 : Hid (IH1 w g l p w2 (w.heap.size + 1)) := ⟨Mod.new (S := [w.heap.size + 1]) (HE1.out.of_ext.trans hm2) (fun k hk => by rw [List.mem_singleton] at hk; subst hk; exact .inr (by omega)), Blk.mod P1.out hm2 (by have := hg.out; simp; omega), B1.out.mod hm2 (by simp), hr2, by omega⟩
 clear P1 B1 HE1 HR1 hm2 hr2
 go_wp2_with fail
 refine (Bad_any _ _ _ K2.out.rd).mono ?_
 rintro x w3 ⟨rfl, hb3⟩
 have K3 : Hid (IH1 w g l p w3 (w.heap.size + 1)) := ⟨K2.out.ext.trans hb3, K2.out.pa.ext hb3, K2.out.ret.ext hb3, Blk.ext K2.out.rd hb3, by omega⟩
 clear K2 hb3
 have p1 : w3.cell? ⟨g, 1, none⟩ = some (.int .i64 (p : Int)) := PAt.at_ K3.out.pa
 have HH := hid (newhead hr.out)
 rw [HH.out]
 dsimp only
 have td : decide ((d : Int) + 1 < 1) = false := by simp; omega
 have td2 : ((d : Int) + 1 < 1) = False := by simp; omega
 go_wp2_with fail
 refine (preader_any g l p 0 hp _ K3.out.pa).mono ?_
 rintro x w4 ⟨rfl, hb4, hr4⟩
 have P4 := hid (Blk.ext K3.out.pa hb4)
 have B4 := hid (K3.out.ret.ext hb4)
 have HR4 := hid hr4
 have HS4 := hid (Blk.lt K3.out.ret)
 have HS5 : Hid (w3.heap.size ≠ g /\ w3.heap.size ≠ w.heap.size) := by have h1 := hg.out; have h2 := HS4.out; unfold Hid; omega
 have HE4 := hid (K3.out.ext.trans hb4)
 clear hb4 hr4 p1
 go_wp2_with fail
 refine (Array_any _ _ hrk.out _ HR4.out).mono ?_
 rintro x w5 ⟨rfl, hm5, hr5⟩
 have HA := hid (newarr_long hr.out hn.out)
 have P5 := hid (Blk.mod P4.out hm5 (by simpa using fun e => HS5.out.1 e.symm))
 have B5 := hid (B4.out.mod hm5 (by simpa using fun e => HS5.out.2 e.symm))
 have M5 : Hid (Ext w w5) := Mod.new (S := [w3.heap.size]) (HE4.out.of_ext.trans hm5) (fun k hk => by rw [List.mem_singleton] at hk; subst hk; exact .inr K3.out.ext.size)
 have HR5 := hid hr5
 clear hm5 hr5
 go_wp2_with fail
 refine (Bad_any _ _ _ HR5.out).mono ?_
 rintro x w6 ⟨rfl, hb6⟩
 rw [HA.out]
 have P6 := hid (Blk.ext P5.out hb6)
 have B6 := hid (B5.out.ext hb6)
 have M6 := hid (M5.out.trans hb6)
 have p1 : w6.cell? ⟨g, 1, none⟩ = some (.int .i64 (p : Int)) := PAt.at_ P6.out
 clear hb6
 go_wp2_with fail
 refine (pfail_any g l p p 4 _ P6.out).mono ?_
 rintro x w9 ⟨rfl, hm9, hp9⟩
 have HB9 := hid (Blk.mod B6.out hm9 (by simpa using hgB.out))
 have HM9 := hid hm9; have HP9 := hid hp9
 clear hm9 hp9
 obtain ⟨c0, c1, c2, c3, c4⟩ := cells5 HB9.out
 have f0 := Blk.frozen HB9.out 0
 have f1 := Blk.frozen HB9.out 1
 have f2 := Blk.frozen HB9.out 2
 have f3 := Blk.frozen HB9.out 3
 have f4 := Blk.frozen HB9.out 4
 go_wp2_with fail
 obtain ⟨d0, d1, d2, d3, d4⟩ := cells5 (set5_blk (t := nulT) (A := none) (c := 0) HB9.out)
 clear c0 c1 c2 c3 c4 f0 f1 f2 f3 f4
 show bodyPost _ _ _ _ _ (set5 w9 w.heap.size nulT none 0)
 refine bodyPost_ret (v := itemV nulT none 0) (by simp [results, Tryz.results118, go_sem, d0, d1, d2, d3, d4]) rfl ?_
 rw [HF.out]
 exact IPost.store hg.out ((M6.out).of_ext) (Blk.lt B6.out) HM9.out HP9.out (fun h => by cases h)
set_option maxRecDepth 20000 in
set_option maxHeartbeats 1600000 in
theorem pitem_arr_false (g : Nat) (l : List UInt8) (p : Nat) (hp : Hid (p <= l.length /\ l.length <= 1073741824)) (d sz n : Nat) (hd : Hid (d <= 8)) (IH : Hid (∀ (p : Nat), p <= l.length -> ∀ w, PAt w g l p 0 -> Calls Tryz.prog 118 #[.pointer (some ⟨g, 0, none⟩), .int .i64 (d : Int)] w (IPost g l p (flt d (l.drop p)) d w))) (hn : Hid (¬ (false = false /\ 1000 < n))) (hr : Hid (readH (l.drop p) = some (sz, 4, n, false))) (w : World) (h : PAt w g l p 0) :
  Calls Tryz.prog 118 #[.pointer (some ⟨g, 0, none⟩), .int .i64 ((d : Int) + 1)] w (IPost g l p (flt (d + 1) (l.drop p)) (d + 1) w) := by
 have HF := hid (flt_arr (d := d) hr.out hn.out)
 have HA := hid (newarr_ok hr.out hn.out)
 have HNN : Hid (false = false -> n <= 1000) := by have := hn.out; unfold Hid; simp at this ⊢; try omega
 have hsz : Hid (sz <= 1073741824) := by have h1 := (readH_some hr.out).le; have h2 := hp.out; rw [List.length_drop] at h1; unfold Hid; omega
 have hrk : Hid (RS.ok (RS.new (l.drop p))) := RS.new_ok (by have := hp.out; rw [List.length_drop]; omega)
 have hg : Hid (g < w.heap.size) := Blk.lt h
 have hgB : Hid (w.heap.size ≠ g) := by have := hg.out; unfold Hid; omega
 have H0 := hid (Blk.alloc h (.cells (itemC nulT none 0) 68))
 clear h
 go_enter Tryz.func118, Tryz.ntmps118
 go_wp2_with fail
 refine (preader_any g l p 0 hp _ H0.out).mono ?_
 rintro x w1 ⟨rfl, hb1, hr1⟩
 have P1 := hid (H0.out.ext hb1)
 have B1 := hid ((Blk.new w 68 (itemC nulT none 0)).ext hb1)
 have HE1 := hid (((Mod.refl [] w).alloc (.cells (itemC nulT none 0) 68)).trans hb1)
 have hR1 : RdAt w1 (w.heap.size + 1) (RS.new (l.drop p)) := by simpa using hr1
 have HR1 := hid hR1
 clear hr1 hR1 hb1 H0
 go_wp2_with fail
 refine (Head_any_r _ _ hrk.out _ HR1.out).mono ?_
 rintro x w2 ⟨rfl, hm2, hr2⟩
 have K2 : Hid (IH1 w g l p w2 (w.heap.size + 1)) := ⟨Mod.new (S := [w.heap.size + 1]) (HE1.out.of_ext.trans hm2) (fun k hk => by rw [List.mem_singleton] at hk; subst hk; exact .inr (by omega)), Blk.mod P1.out hm2 (by have := hg.out; simp; omega), B1.out.mod hm2 (by simp), hr2, by omega⟩
 clear P1 B1 HE1 HR1 hm2 hr2
 go_wp2_with fail
 refine (Bad_any _ _ _ K2.out.rd).mono ?_
 rintro x w3 ⟨rfl, hb3⟩
 have K3 : Hid (IH1 w g l p w3 (w.heap.size + 1)) := ⟨K2.out.ext.trans hb3, K2.out.pa.ext hb3, K2.out.ret.ext hb3, Blk.ext K2.out.rd hb3, by omega⟩
 clear K2 hb3
 have p1 : w3.cell? ⟨g, 1, none⟩ = some (.int .i64 (p : Int)) := PAt.at_ K3.out.pa
 have HH := hid (newhead hr.out)
 rw [HH.out]
 dsimp only
 have td : decide ((d : Int) + 1 < 1) = false := by simp; omega
 have td2 : ((d : Int) + 1 < 1) = False := by simp; omega
 go_wp2_with fail
 refine (preader_any g l p 0 hp _ K3.out.pa).mono ?_
 rintro x w4 ⟨rfl, hb4, hr4⟩
 have P4 := hid (Blk.ext K3.out.pa hb4)
 have B4 := hid (K3.out.ret.ext hb4)
 have HR4 := hid hr4
 have HS4 := hid (Blk.lt K3.out.ret)
 have HS5 : Hid (w3.heap.size ≠ g /\ w3.heap.size ≠ w.heap.size) := by have h1 := hg.out; have h2 := HS4.out; unfold Hid; omega
 have HE4 := hid (K3.out.ext.trans hb4)
 clear hb4 hr4 p1
 go_wp2_with fail
 refine (Array_any _ _ hrk.out _ HR4.out).mono ?_
 rintro x w5 ⟨rfl, hm5, hr5⟩
 rw [HA.out] at hr5 ⊢
 simp only [Bool.false_eq_true, if_false]
 have P5 := hid (Blk.mod P4.out hm5 (by simpa using fun e => HS5.out.1 e.symm))
 have B5 := hid (B4.out.mod hm5 (by simpa using fun e => HS5.out.2 e.symm))
 have M5 : Hid (Ext w w5) := Mod.new (S := [w3.heap.size]) (HE4.out.of_ext.trans hm5) (fun k hk => by rw [List.mem_singleton] at hk; subst hk; exact .inr K3.out.ext.size)
 have HR5 := hid hr5
 clear hm5 hr5
 go_wp2_with fail
 refine (Bad_any _ _ _ HR5.out).mono ?_
 rintro x w6 ⟨rfl, hb6⟩
 have P6 := hid (Blk.ext P5.out hb6)
 have B6 := hid (B5.out.ext hb6)
 have M6 := hid (M5.out.trans hb6)
 have HR6 : Hid (RdAt w6 w3.heap.size ⟨l.drop p, sz, -1, 0, 0⟩) := Blk.ext HR5.out hb6
 clear hb6
 have q1 : w6.cell? ⟨g, 1, none⟩ = some (.int .i64 (p : Int)) := PAt.at_ P6.out
 have z1 : w6.frozen? ⟨g, 1, none⟩ = false := PAt.froz P6.out 1
 have tw : IntKind.i64.wrap ((p : Int) + (sz : Int)) = (p : Int) + (sz : Int) := IntWalk.i64_in _ (by have := hp.out; have := hsz.out; omega)
 have HP9 : Hid (Mod [g] w6 (w6.setCell ⟨g, 1, none⟩ (.int .i64 ((p : Int) + (sz : Int)))) /\ PAt (w6.setCell ⟨g, 1, none⟩ (.int .i64 ((p : Int) + (sz : Int)))) g l (p + sz) 0 /\ Blk (w6.setCell ⟨g, 1, none⟩ (.int .i64 ((p : Int) + (sz : Int)))) w.heap.size 68 (itemC nulT none 0)) := by
  refine ⟨(Mod.refl _ _).setCell (.inl (by simp)) _, ?_, Blk.far B6.out (by simpa using hgB.out) _⟩
  have := Blk.set_ P6.out 1 (.int .i64 ((p + sz : Nat) : Int))
  simpa [PAt] using this
 go_upto_region 20 with fail
 go_cut [] (fun wx => Hid (Mod [g] w6 wx /\ PAt wx g l (p + sz) 0 /\ Blk wx w.heap.size 68 (itemC nulT none 0)))
 case first =>
  go_region_with ((go_at_call 141; refine (At_any w3.heap.size ⟨l.drop p, sz, -1, 0, 0⟩ _ ?_).mono ?_; (first | exact HR6.out | exact Blk.drew HR6.out | exact Blk.drew (Blk.drew HR6.out)); rintro x w' ⟨rfl, rfl⟩))
  all_goals go_wp2_with fail
  all_goals go_meet
  all_goals exact ⟨by first | exact HP9.out.1 | exact HP9.out.1.drew, HP9.out.2⟩
 clear q1 z1 tw HP9
 have hc2 := hid hcut.out
 clear hcut
 go_wp2_with fail
 refine (plist_any d hd g l (show Hid _ from hp.out.2) IH p sz n false (n : Int) (by unfold Hid; simp) hr (by unfold Hid; first | exact HNN.out | (have := HNN.out; simpa using this) | simp) (by have h1 := (readH_some hr.out).le; have h2 := hp.out; rw [List.length_drop] at h1; unfold Hid; omega) _ hc2.out.2.1).mono ?_
 rintro x w9 ⟨t, A, c, rfl, hm9, hp9, hs9⟩
 have HB9 := hid (Blk.mod hc2.out.2.2 hm9 (by simpa using hgB.out))
 have HM9 := hid hm9; have HP9 := hid hp9; have HS9 := hid hs9
 clear hm9 hp9 hs9
 obtain ⟨c0, c1, c2, c3, c4⟩ := cells5 HB9.out
 have f0 := Blk.frozen HB9.out 0
 have f1 := Blk.frozen HB9.out 1
 have f2 := Blk.frozen HB9.out 2
 have f3 := Blk.frozen HB9.out 3
 have f4 := Blk.frozen HB9.out 4
 go_wp2_with fail
 obtain ⟨d0, d1, d2, d3, d4⟩ := cells5 (set5_blk (t := t) (A := A) (c := c) HB9.out)
 clear c0 c1 c2 c3 c4 f0 f1 f2 f3 f4
 show bodyPost _ _ _ _ _ (set5 w9 w.heap.size t A c)
 refine bodyPost_ret (v := itemV t A c) (by simp [results, Tryz.results118, go_sem, d0, d1, d2, d3, d4]) rfl ?_
 rw [HF.out]
 exact IPost.store hg.out (M6.out.of_ext.trans hc2.out.1) (Blk.lt hc2.out.2.2) HM9.out HP9.out HS9.out
set_option maxRecDepth 20000 in
set_option maxHeartbeats 1600000 in
theorem pitem_arr_true (g : Nat) (l : List UInt8) (p : Nat) (hp : Hid (p <= l.length /\ l.length <= 1073741824)) (d sz n : Nat) (hd : Hid (d <= 8)) (IH : Hid (∀ (p : Nat), p <= l.length -> ∀ w, PAt w g l p 0 -> Calls Tryz.prog 118 #[.pointer (some ⟨g, 0, none⟩), .int .i64 (d : Int)] w (IPost g l p (flt d (l.drop p)) d w))) (hn : Hid (¬ (true = false /\ 1000 < n))) (hr : Hid (readH (l.drop p) = some (sz, 4, n, true))) (w : World) (h : PAt w g l p 0) :
  Calls Tryz.prog 118 #[.pointer (some ⟨g, 0, none⟩), .int .i64 ((d : Int) + 1)] w (IPost g l p (flt (d + 1) (l.drop p)) (d + 1) w) := by
 have HF := hid (flt_arr (d := d) hr.out hn.out)
 have HA := hid (newarr_ok hr.out hn.out)
 have HNN : Hid (true = false -> n <= 1000) := by have := hn.out; unfold Hid; simp at this ⊢; try omega
 have hsz : Hid (sz <= 1073741824) := by have h1 := (readH_some hr.out).le; have h2 := hp.out; rw [List.length_drop] at h1; unfold Hid; omega
 have hrk : Hid (RS.ok (RS.new (l.drop p))) := RS.new_ok (by have := hp.out; rw [List.length_drop]; omega)
 have hg : Hid (g < w.heap.size) := Blk.lt h
 have hgB : Hid (w.heap.size ≠ g) := by have := hg.out; unfold Hid; omega
 have H0 := hid (Blk.alloc h (.cells (itemC nulT none 0) 68))
 clear h
 go_enter Tryz.func118, Tryz.ntmps118
 go_wp2_with fail
 refine (preader_any g l p 0 hp _ H0.out).mono ?_
 rintro x w1 ⟨rfl, hb1, hr1⟩
 have P1 := hid (H0.out.ext hb1)
 have B1 := hid ((Blk.new w 68 (itemC nulT none 0)).ext hb1)
 have HE1 := hid (((Mod.refl [] w).alloc (.cells (itemC nulT none 0) 68)).trans hb1)
 have hR1 : RdAt w1 (w.heap.size + 1) (RS.new (l.drop p)) := by simpa using hr1
 have HR1 := hid hR1
 clear hr1 hR1 hb1 H0
 go_wp2_with fail
 refine (Head_any_r _ _ hrk.out _ HR1.out).mono ?_
 rintro x w2 ⟨rfl, hm2, hr2⟩
 have K2 : Hid (IH1 w g l p w2 (w.heap.size + 1)) := ⟨Mod.new (S := [w.heap.size + 1]) (HE1.out.of_ext.trans hm2) (fun k hk => by rw [List.mem_singleton] at hk; subst hk; exact .inr (by omega)), Blk.mod P1.out hm2 (by have := hg.out; simp; omega), B1.out.mod hm2 (by simp), hr2, by omega⟩
 clear P1 B1 HE1 HR1 hm2 hr2
 go_wp2_with fail
 refine (Bad_any _ _ _ K2.out.rd).mono ?_
 rintro x w3 ⟨rfl, hb3⟩
 have K3 : Hid (IH1 w g l p w3 (w.heap.size + 1)) := ⟨K2.out.ext.trans hb3, K2.out.pa.ext hb3, K2.out.ret.ext hb3, Blk.ext K2.out.rd hb3, by omega⟩
 clear K2 hb3
 have p1 : w3.cell? ⟨g, 1, none⟩ = some (.int .i64 (p : Int)) := PAt.at_ K3.out.pa
 have HH := hid (newhead hr.out)
 rw [HH.out]
 dsimp only
 have td : decide ((d : Int) + 1 < 1) = false := by simp; omega
 have td2 : ((d : Int) + 1 < 1) = False := by simp; omega
 go_wp2_with fail
 refine (preader_any g l p 0 hp _ K3.out.pa).mono ?_
 rintro x w4 ⟨rfl, hb4, hr4⟩
 have P4 := hid (Blk.ext K3.out.pa hb4)
 have B4 := hid (K3.out.ret.ext hb4)
 have HR4 := hid hr4
 have HS4 := hid (Blk.lt K3.out.ret)
 have HS5 : Hid (w3.heap.size ≠ g /\ w3.heap.size ≠ w.heap.size) := by have h1 := hg.out; have h2 := HS4.out; unfold Hid; omega
 have HE4 := hid (K3.out.ext.trans hb4)
 clear hb4 hr4 p1
 go_wp2_with fail
 refine (Array_any _ _ hrk.out _ HR4.out).mono ?_
 rintro x w5 ⟨rfl, hm5, hr5⟩
 rw [HA.out] at hr5 ⊢
 simp only [if_true]
 have P5 := hid (Blk.mod P4.out hm5 (by simpa using fun e => HS5.out.1 e.symm))
 have B5 := hid (B4.out.mod hm5 (by simpa using fun e => HS5.out.2 e.symm))
 have M5 : Hid (Ext w w5) := Mod.new (S := [w3.heap.size]) (HE4.out.of_ext.trans hm5) (fun k hk => by rw [List.mem_singleton] at hk; subst hk; exact .inr K3.out.ext.size)
 have HR5 := hid hr5
 clear hm5 hr5
 go_wp2_with fail
 refine (Bad_any _ _ _ HR5.out).mono ?_
 rintro x w6 ⟨rfl, hb6⟩
 have P6 := hid (Blk.ext P5.out hb6)
 have B6 := hid (B5.out.ext hb6)
 have M6 := hid (M5.out.trans hb6)
 have HR6 : Hid (RdAt w6 w3.heap.size ⟨l.drop p, sz, -1, 0, 0⟩) := Blk.ext HR5.out hb6
 clear hb6
 have q1 : w6.cell? ⟨g, 1, none⟩ = some (.int .i64 (p : Int)) := PAt.at_ P6.out
 have z1 : w6.frozen? ⟨g, 1, none⟩ = false := PAt.froz P6.out 1
 have tw : IntKind.i64.wrap ((p : Int) + (sz : Int)) = (p : Int) + (sz : Int) := IntWalk.i64_in _ (by have := hp.out; have := hsz.out; omega)
 have HP9 : Hid (Mod [g] w6 (w6.setCell ⟨g, 1, none⟩ (.int .i64 ((p : Int) + (sz : Int)))) /\ PAt (w6.setCell ⟨g, 1, none⟩ (.int .i64 ((p : Int) + (sz : Int)))) g l (p + sz) 0 /\ Blk (w6.setCell ⟨g, 1, none⟩ (.int .i64 ((p : Int) + (sz : Int)))) w.heap.size 68 (itemC nulT none 0)) := by
  refine ⟨(Mod.refl _ _).setCell (.inl (by simp)) _, ?_, Blk.far B6.out (by simpa using hgB.out) _⟩
  have := Blk.set_ P6.out 1 (.int .i64 ((p + sz : Nat) : Int))
  simpa [PAt] using this
 go_upto_region 20 with fail
 go_cut [] (fun wx => Hid (Mod [g] w6 wx /\ PAt wx g l (p + sz) 0 /\ Blk wx w.heap.size 68 (itemC nulT none 0)))
 case first =>
  go_region_with ((go_at_call 141; refine (At_any w3.heap.size ⟨l.drop p, sz, -1, 0, 0⟩ _ ?_).mono ?_; (first | exact HR6.out | exact Blk.drew HR6.out | exact Blk.drew (Blk.drew HR6.out)); rintro x w' ⟨rfl, rfl⟩))
  all_goals go_wp2_with fail
  all_goals go_meet
  all_goals exact ⟨by first | exact HP9.out.1 | exact HP9.out.1.drew, HP9.out.2⟩
 clear q1 z1 tw HP9
 have hc2 := hid hcut.out
 clear hcut
 go_wp2_with fail
 refine (plist_any d hd g l (show Hid _ from hp.out.2) IH p sz n true (-1) (by unfold Hid; simp) hr (by unfold Hid; first | exact HNN.out | (have := HNN.out; simpa using this) | simp) (by have h1 := (readH_some hr.out).le; have h2 := hp.out; rw [List.length_drop] at h1; unfold Hid; omega) _ hc2.out.2.1).mono ?_
 rintro x w9 ⟨t, A, c, rfl, hm9, hp9, hs9⟩
 have HB9 := hid (Blk.mod hc2.out.2.2 hm9 (by simpa using hgB.out))
 have HM9 := hid hm9; have HP9 := hid hp9; have HS9 := hid hs9
 clear hm9 hp9 hs9
 obtain ⟨c0, c1, c2, c3, c4⟩ := cells5 HB9.out
 have f0 := Blk.frozen HB9.out 0
 have f1 := Blk.frozen HB9.out 1
 have f2 := Blk.frozen HB9.out 2
 have f3 := Blk.frozen HB9.out 3
 have f4 := Blk.frozen HB9.out 4
 go_wp2_with fail
 obtain ⟨d0, d1, d2, d3, d4⟩ := cells5 (set5_blk (t := t) (A := A) (c := c) HB9.out)
 clear c0 c1 c2 c3 c4 f0 f1 f2 f3 f4
 show bodyPost _ _ _ _ _ (set5 w9 w.heap.size t A c)
 refine bodyPost_ret (v := itemV t A c) (by simp [results, Tryz.results118, go_sem, d0, d1, d2, d3, d4]) rfl ?_
 rw [HF.out]
 exact IPost.store hg.out (M6.out.of_ext.trans hc2.out.1) (Blk.lt hc2.out.2.2) HM9.out HP9.out HS9.out
theorem pitem_any (g : Nat) (l : List UInt8) (hl : l.length <= 1073741824) : ∀ d : Nat, d <= 9 -> ∀ p, p <= l.length -> ∀ w, PAt w g l p 0 -> Calls Tryz.prog 118 #[.pointer (some ⟨g, 0, none⟩), .int .i64 (d : Int)] w (IPost g l p (flt d (l.drop p)) d w) := by
 intro d
 induction d with
 | zero =>
  intro _ p hp w h
  cases hr : readH (l.drop p) with
  | none => exact pitem_none g l p ⟨hp, hl⟩ 0 hr w h
  | some x =>
   obtain ⟨sz, m, n, o⟩ := x
   have hm := (readH_some hr).m7
   have h8 : (m = 1 \/ m = 5 \/ m = 6 \/ m = 7) \/ (m = 0 \/ m = 2 \/ m = 3 \/ m = 4) := by omega
   rcases h8 with h8 | h8
   . exact pitem_noK g l p ⟨hp, hl⟩ 0 sz m n o h8 hr w h
   . exact pitem_deep g l p ⟨hp, hl⟩ sz m n o h8 hr w h
 | succ d ih =>
  intro hd p hp w h
  have ih' := ih (by omega)
  have e : ((d + 1 : Nat) : Int) = (d : Int) + 1 := by omega
  cases hr : readH (l.drop p) with
  | none => exact pitem_none g l p ⟨hp, hl⟩ (d + 1) hr w h
  | some x =>
   obtain ⟨sz, m, n, o⟩ := x
   have hm := (readH_some hr).m7
   have h8 : (m = 1 \/ m = 5 \/ m = 6 \/ m = 7) \/ m = 0 \/ (m = 2 \/ m = 3) \/ m = 4 := by omega
   rcases h8 with h8 | rfl | h8 | rfl
   . exact pitem_noK g l p ⟨hp, hl⟩ (d + 1) sz m n o h8 hr w h
   . rw [e]; exact pitem_num g l p ⟨hp, hl⟩ d sz n o hr w h
   . rw [e]; exact pitem_str g l p ⟨hp, hl⟩ d sz m n o h8 hr w h
   .
    rw [e]
    cases o with
    | false =>
     by_cases hn : 1000 < n
     . exact pitem_long g l p ⟨hp, hl⟩ d sz n hn hr w h
     . exact pitem_arr_false g l p ⟨hp, hl⟩ d sz n (by unfold Hid; omega) ih' (fun h => hn h.2) hr w h
    | true => exact pitem_arr_true g l p ⟨hp, hl⟩ d sz n (by unfold Hid; omega) ih' (fun h => by cases h.1) hr w h
def parseR (l : List UInt8) : Nat × Int := if (flt 8 l).2 = 0 /\ (flt 8 l).1 < l.length then ((flt 8 l).1, 2) else flt 8 l
def PPost (l : List UInt8) (w : World) (x : Ending) (w' : World) : Prop :=
 Ext w w' /\ (((parseR l).2 ≠ 0 /\ x = .returned (.tuple #[itemV nulT none 0, .int .i64 ((parseR l).1 : Int), .int .i64 (parseR l).2])) \/
  ((parseR l).2 = 0 /\ ∃ t A c, x = .returned (.tuple #[itemV t A c, .int .i64 (-1), .int .i64 0]) /\ (t.right 8 = true /\ t.ok) /\ t.bytes = l /\ IsL w' (fun _ => True) t A))
def PPostC (l : List UInt8) (w : World) (x : Ending) (w' : World) : Prop :=
 Ext w w' /\ (((parseR l).2 ≠ 0 /\ x = .returned (.tuple #[itemV nulT none 0, .int .i64 ((parseR l).1 : Int), .int .i64 (parseR l).2])) \/
  ((parseR l).2 = 0 /\ ∃ t A c, x = .returned (.tuple #[itemV t A c, .int .i64 (-1), .int .i64 0]) /\ (t.right 8 = true /\ t.ok) /\ t.bytes = l /\ IsC w' (fun _ => True) t A c))
theorem PPostC.out {l : List UInt8} {w : World} {x : Ending} {w' : World} (h : PPostC l w x w') : PPost l w x w' := by
 obtain ⟨hb, h | ⟨h0, t, A, c, h1, h2, h3, h4⟩⟩ := h
 . exact ⟨hb, .inl h⟩
 . exact ⟨hb, .inr ⟨h0, t, A, c, h1, h2, h3, h4.isL⟩⟩
set_option maxRecDepth 20000 in
set_option maxHeartbeats 1600000 in
theorem parse_anyC (l : List UInt8) (hl : Hid (l.length <= 1073741824)) (w : World) : Calls Tryz.prog 98 #[str l] w (PPostC l w) := by
 have hF0 : Hid (flt 8 (l.drop 0) = flt 8 l) := by unfold Hid; rw [List.drop_zero]
 have HP1 : Hid (PAt ((w.alloc (.cells (itemC nulT none 0) 68)).alloc (.cells #[str l, .int .i64 ((0 : Nat) : Int), .int .i64 0] 150)) (w.heap.size + 1) l 0 0) := Blk.newAt _ _ _ (by simp)
 have HB1 : Hid (Blk ((w.alloc (.cells (itemC nulT none 0) 68)).alloc (.cells #[str l, .int .i64 ((0 : Nat) : Int), .int .i64 0] 150)) w.heap.size 68 (itemC nulT none 0)) := (Blk.new _ _ _).alloc _
 have HE1 := hid (((Mod.refl [w.heap.size + 1] w).alloc (.cells (itemC nulT none 0) 68)).alloc (.cells #[str l, .int .i64 ((0 : Nat) : Int), .int .i64 0] 150))
 go_enter Tryz.func98, Tryz.ntmps98
 go_upto_region 2 with fail
 go_cut [6] (fun s6 wx => ∃ X t A c, s6 = .pointer (some ⟨X, 0, none⟩) /\ Hid (Mod [w.heap.size + 1] w wx /\ PAt wx (w.heap.size + 1) l (flt 8 l).1 (flt 8 l).2 /\ Blk wx w.heap.size 68 (itemC nulT none 0) /\ Blk wx X 68 (itemC t A c) /\ w.heap.size + 1 < X /\
   ((flt 8 l).2 = 0 -> (t.right 8 = true /\ t.ok) /\ t.bytes ++ l.drop (flt 8 l).1 = l /\ IsC wx (fun b => w.heap.size + 2 <= b /\ b ≠ X) t A c)))
 case first =>
  go_wp2_with fail
  refine (pitem_any (w.heap.size + 1) l hl.out 8 (by omega) 0 (by omega) _ HP1.out).mono ?_
  rintro x w2 ⟨t, A, c, rfl, hm2, hp2, hs2⟩
  rw [hF0.out] at hp2 hs2
  rw [Nat.zero_add] at hp2 hs2
  rw [List.drop_zero] at hs2
  have HB2 := hid (HB1.out.mod hm2 (by simp))
  have HP2 := hid hp2
  have HS2 := hid hs2
  have HE2 := hid (HE1.out.trans hm2)
  clear hm2 hp2 hs2 HB1 HE1 HP1
  go_wp2_with fail
  go_meet
  refine ⟨w2.heap.size, t, A, c, rfl, HE2.out.alloc _, Blk.alloc HP2.out _, HB2.out.alloc _, Blk.new _ _ _, Blk.lt HP2.out, fun h0 => ⟨(HS2.out h0).1, (HS2.out h0).2.1, ?_⟩⟩
  have h3 := (HS2.out h0).2.2
  exact IsC.ext (IsC.weak (fun k hk hq => ⟨by simpa using hq, by omega⟩) t h3) ((Mod.refl _ _).alloc _)
 obtain ⟨X, t, A, c, rfl, hH⟩ := hcut
 clear HB1 HE1 HP1 hF0
 obtain ⟨E, hE⟩ : ∃ E, E = (flt 8 l).2 := ⟨_, rfl⟩
 obtain ⟨q, hq⟩ : ∃ q, q = (flt 8 l).1 := ⟨_, rfl⟩
 have HPR : Hid (parseR l = if E = 0 /\ q < l.length then (q, 2) else (q, E)) := by unfold Hid parseR; rw [hE, hq]
 rw [<- hE, <- hq] at hH
 have hql : q <= l.length := by rw [hq]; exact flt_le 8 l
 have q0 : (0 : Int) <= (q : Int) := by omega
 have q1 : (q : Int) <= (l.length : Int) := by omega
 have l1 : (l.length : Int) <= 1073741824 := by have := hl.out; omega
 have HQL := hid hql
 clear hE hq hql
 have p1 : wc.cell? ⟨w.heap.size + 1, 1, none⟩ = some (.int .i64 (q : Int)) := PAt.at_ hH.out.2.1
 have p2 : wc.cell? ⟨w.heap.size + 1, 2, none⟩ = some (.int .i64 E) := PAt.err hH.out.2.1
 by_cases hE : E = 0
 .
  subst hE
  by_cases hql : q < l.length
  .
   have tl : decide (q < l.length) = true := by simp [hql]
   have tl2 : decide ((q : Int) < (l.length : Int)) = true := by simp [hql]
   have HPE := hid HPR.out
   rw [if_pos ⟨rfl, hql⟩] at HPE
   clear hql
   go_upto_region 4 with fail
   go_wp2_with fail
   refine (pfail_any (w.heap.size + 1) l q q 2 _ hH.out.2.1).mono ?_
   rintro x w3 ⟨rfl, hm3, hp3⟩
   have HM3 := hid (hH.out.1.trans hm3)
   have HP3 := hid hp3
   have HB3 := hid (hH.out.2.2.1.mod hm3 (by simp))
   clear hm3 hp3 p1 p2
   have p1 : w3.cell? ⟨w.heap.size + 1, 1, none⟩ = some (.int .i64 (q : Int)) := PAt.at_ HP3.out
   have p2 : w3.cell? ⟨w.heap.size + 1, 2, none⟩ = some (.int .i64 2) := PAt.err HP3.out
   obtain ⟨c0, c1, c2, c3, c4⟩ := cells5 HB3.out
   have f0 := Blk.frozen HB3.out 0
   have f1 := Blk.frozen HB3.out 1
   have f2 := Blk.frozen HB3.out 2
   have f3 := Blk.frozen HB3.out 3
   have f4 := Blk.frozen HB3.out 4
   go_upto_region 6 with fail
   have HW : Hid (Mod [w.heap.size + 1] w (set5 w3 w.heap.size nulT none 0).drew /\ Blk (set5 w3 w.heap.size nulT none 0).drew w.heap.size 68 (itemC nulT none 0)) := ⟨(set5_mod HM3.out (Nat.le_refl _)).drew, Blk.drew (set5_blk HB3.out)⟩
   go_cut [3, 4] (fun s3 s4 wx => s3 = .int .i64 (q : Int) /\ s4 = .int .i64 2 /\ Hid (Mod [w.heap.size + 1] w wx /\ Blk wx w.heap.size 68 (itemC nulT none 0)))
   case first =>
    go_region
    all_goals go_wp2_with fail
    all_goals go_meet
    all_goals exact ⟨rfl, rfl, HW.out.1, HW.out.2⟩
   clear c0 c1 c2 c3 c4 f0 f1 f2 f3 f4
   obtain ⟨rfl, rfl, hR⟩ := hcut
   obtain ⟨d0, d1, d2, d3, d4⟩ := cells5 hR.out.2
   go_wp2_with fail
   refine bodyPost_ret (v := .tuple #[itemV nulT none 0, .int .i64 (q : Int), .int .i64 2]) (by simp [results, Tryz.results98, go_sem, d0, d1, d2, d3, d4]) rfl ?_
   refine ⟨Mod.new (S := [w.heap.size + 1]) hR.out.1 (fun k hk => by rw [List.mem_singleton] at hk; subst hk; exact .inr (by omega)), .inl ?_⟩
   rw [HPE.out]
   exact ⟨(show ¬ ((2 : Int) = 0) by decide), rfl⟩
  .
   have tl : decide (q < l.length) = false := by simp [hql]
   have tl2 : decide ((q : Int) < (l.length : Int)) = false := by simp; omega
   have HPE := hid HPR.out
   rw [if_neg (fun h => hql h.2)] at HPE
   have HQ := hid hql
   clear hql
   obtain ⟨x0, x1, x2, x3, x4⟩ := cells5 hH.out.2.2.2.1
   obtain ⟨c0, c1, c2, c3, c4⟩ := cells5 hH.out.2.2.1
   have f0 := Blk.frozen hH.out.2.2.1 0
   have f1 := Blk.frozen hH.out.2.2.1 1
   have f2 := Blk.frozen hH.out.2.2.1 2
   have f3 := Blk.frozen hH.out.2.2.1 3
   have f4 := Blk.frozen hH.out.2.2.1 4
   go_wp2_with fail
   obtain ⟨d0, d1, d2, d3, d4⟩ := cells5 (set5_blk (t := t) (A := A) (c := c) hH.out.2.2.1)
   clear c0 c1 c2 c3 c4 f0 f1 f2 f3 f4 x0 x1 x2 x3 x4 p1 p2
   show bodyPost _ _ _ _ _ (set5 wc w.heap.size t A c)
   refine bodyPost_ret (v := .tuple #[itemV t A c, .int .i64 (-1), .int .i64 0]) (by simp [results, Tryz.results98, go_sem, d0, d1, d2, d3, d4]) rfl ?_
   refine ⟨Mod.new (S := [w.heap.size + 1]) (set5_mod hH.out.1 (Nat.le_refl _)) (fun k hk => by rw [List.mem_singleton] at hk; subst hk; exact .inr (by omega)), .inr ?_⟩
   have h1 := hH.out.2.2.2.2.2 (by first | rfl | trivial)
   rw [HPE.out]
   refine ⟨rfl, t, A, c, rfl, h1.1, ?_, ?_⟩
   .
    have h2 := h1.2.1
    have hqe : q = l.length := by have := HQ.out; have := HQL.out; omega
    rw [hqe, List.drop_length, List.append_nil] at h2
    exact h2
   . exact IsC.weak (fun k hk hq => trivial) t (IsC.mod set5_modb (fun k hq hk hm => by rw [List.mem_singleton] at hm; have := hq.1; omega) t h1.2.2)
 .
  have te : (E == 0) = false := by simp [hE]
  have te2 : (E = 0) = False := by simp [hE]
  have tn : (E != 0) = true := by simp [hE]
  have HPE := hid HPR.out
  rw [if_neg (fun h => hE h.1)] at HPE
  have HNE := hid hE
  clear hE
  obtain ⟨c0, c1, c2, c3, c4⟩ := cells5 hH.out.2.2.1
  have f0 := Blk.frozen hH.out.2.2.1 0
  have f1 := Blk.frozen hH.out.2.2.1 1
  have f2 := Blk.frozen hH.out.2.2.1 2
  have f3 := Blk.frozen hH.out.2.2.1 3
  have f4 := Blk.frozen hH.out.2.2.1 4
  go_upto_region 6 with fail
  have HW : Hid (Mod [w.heap.size + 1] w (set5 wc w.heap.size nulT none 0).drew /\ Blk (set5 wc w.heap.size nulT none 0).drew w.heap.size 68 (itemC nulT none 0)) := ⟨(set5_mod hH.out.1 (Nat.le_refl _)).drew, Blk.drew (set5_blk hH.out.2.2.1)⟩
  go_cut [3, 4] (fun s3 s4 wx => s3 = .int .i64 (q : Int) /\ s4 = .int .i64 E /\ Hid (Mod [w.heap.size + 1] w wx /\ Blk wx w.heap.size 68 (itemC nulT none 0)))
  case first =>
   go_region
   all_goals go_wp2_with fail
   all_goals go_meet
   all_goals exact ⟨rfl, rfl, HW.out.1, HW.out.2⟩
  clear c0 c1 c2 c3 c4 f0 f1 f2 f3 f4
  obtain ⟨rfl, rfl, hR⟩ := hcut
  obtain ⟨d0, d1, d2, d3, d4⟩ := cells5 hR.out.2
  go_wp2_with fail
  refine bodyPost_ret (v := .tuple #[itemV nulT none 0, .int .i64 (q : Int), .int .i64 E]) (by simp [results, Tryz.results98, go_sem, d0, d1, d2, d3, d4]) rfl ?_
  refine ⟨Mod.new (S := [w.heap.size + 1]) hR.out.1 (fun k hk => by rw [List.mem_singleton] at hk; subst hk; exact .inr (by omega)), .inl ?_⟩
  rw [HPE.out]
  exact ⟨HNE.out, rfl⟩
theorem parse_any (l : List UInt8) (hl : Hid (l.length <= 1073741824)) (w : World) : Calls Tryz.prog 98 #[str l] w (PPost l w) := (parse_anyC l hl w).mono fun _ _ h => h.out
end Go.Proofs.YtmckfdmdkljomaaGreatDoor
