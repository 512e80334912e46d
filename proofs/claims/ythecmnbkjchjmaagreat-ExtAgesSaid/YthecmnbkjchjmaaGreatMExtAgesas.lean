/-
 The parser of items: an item.
-/
import Derived.Test.YthecmnbkjchjmaaGreatMExtAgesar

namespace Go.Proofs.YthecmnbkjchjmaaGreat
open Go.RowKit
set_option linter.unusedVariables false
set_option linter.unusedSimpArgs false

theorem flt_none {d : Nat} {l : List UInt8} (h : readH l = none) : flt d l = (0, 2) := by
 cases d <;> (unfold flt; rw [h])
theorem flt_noK {d : Nat} {l : List UInt8} {sz m n : Nat} {o : Bool} (h : readH l = some (sz, m, n, o)) (hm : noK m = true) : flt d l = (0, 2) := by
 cases d <;> (unfold flt; rw [h]; dsimp only; rw [if_pos hm])
theorem flt_deep {l : List UInt8} {sz m n : Nat} {o : Bool} (h : readH l = some (sz, m, n, o)) (hm : noK m = false) : flt 0 l = (0, 3) := by
 unfold flt; rw [h]; dsimp only; rw [if_neg (by simp [hm])]
theorem flt_num {d : Nat} {l : List UInt8} {sz n : Nat} {o : Bool} (h : readH l = some (sz, 0, n, o)) : flt (d + 1) l = (sz, 0) := by
 unfold flt; rw [h]; rfl
theorem flt_str {d : Nat} {l : List UInt8} {sz m n : Nat} {o : Bool} (h : readH l = some (sz, m, n, o)) (hm : m = 2 \/ m = 3) : flt (d + 1) l = strR o l sz n := by
 unfold flt; rw [h]
 rcases hm with rfl | rfl <;> rfl
theorem flt_long {d : Nat} {l : List UInt8} {sz n : Nat} (h : readH l = some (sz, 4, n, false)) (hn : 1000 < n) : flt (d + 1) l = (0, 4) := by
 unfold flt; rw [h]; dsimp only
 rw [if_neg (by decide), if_neg (by decide), if_neg (by decide), if_pos ⟨rfl, hn⟩]
theorem flt_arr {d : Nat} {l : List UInt8} {sz n : Nat} {o : Bool} (h : readH l = some (sz, 4, n, o)) (hn : ¬ (o = false /\ 1000 < n)) : flt (d + 1) l = floop (flt d) l o n 1000 sz := by
 unfold flt; rw [h]; dsimp only
 rw [if_neg (by decide), if_neg (by decide), if_neg (by decide), if_neg hn]

theorem newarr_long {L : List UInt8} {sz n : Nat} (h : readH L = some (sz, 4, n, false)) (hn : 1000 < n) : ((RS.new L).Array).1.e = 4 := by
 have e := RS.Head_some (r := RS.new L) rfl h
 unfold RS.Array
 rw [e]
 dsimp only
 rw [if_pos rfl, if_neg (by decide), if_neg (by decide), if_pos hn]
 rfl
theorem newarr_ok {L : List UInt8} {sz n : Nat} {o : Bool} (h : readH L = some (sz, 4, n, o)) (hn : ¬ (o = false /\ 1000 < n)) : (RS.new L).Array = (⟨L, sz, -1, 0, 0⟩, if o = true then -1 else (n : Int)) := by
 have e := RS.Head_some (r := RS.new L) rfl h
 unfold RS.Array
 rw [e]
 dsimp only
 cases o
 .
  rw [if_pos rfl, if_neg (by decide), if_neg (by decide), if_neg (by intro h; exact hn ⟨rfl, h⟩)]
  simp [RS.new]
 .
  rw [if_pos rfl, if_neg (by decide), if_pos rfl]
  simp [RS.new]

theorem IPost.store {g : Nat} {l : List UInt8} {p : Nat} {F : Nat × Int} {d : Nat} {w W w4 : World} {t : T} {A : Option Addr} {c : Nat} (hg : g < w.heap.size) (hE : Mod [g] w W) (hW : w.heap.size < W.heap.size)
  (hm : Mod [g] W w4) (hp : PAt w4 g l (p + F.1) F.2) (hs : F.2 = 0 -> (t.right d = true /\ t.ok) /\ t.bytes ++ l.drop (p + F.1) = l.drop p /\ IsC w4 (fun b => W.heap.size <= b) t A c) :
  IPost g l p F d w (.returned (itemV t A c)) (set5 w4 w.heap.size t A c) := by
 refine ⟨t, A, c, rfl, set5_mod (hE.trans hm) (Nat.le_refl _), set5_far hp (by omega), fun h0 => ⟨(hs h0).1, (hs h0).2.1, ?_⟩⟩
 exact IsC.weak (fun k hk hq => by omega) t (IsC.mod set5_modb (fun k hq hk hm => by rw [List.mem_singleton] at hm; omega) t (hs h0).2.2)

structure IH1 (w : World) (g : Nat) (l : List UInt8) (p : Nat) (wx : World) (R : Nat) : Prop where
 ext : Ext w wx
 pa : PAt wx g l p 0
 ret : Blk wx w.heap.size 86 (itemC nulT none 0)
 rd : RdAt wx R (RS.new (l.drop p)).Head.1
 lt : w.heap.size < R

set_option maxRecDepth 20000 in
set_option maxHeartbeats 800000 in
theorem pitem_none (g : Nat) (l : List UInt8) (p : Nat) (hp : Hid (p <= l.length /\ l.length <= 1073741824)) (d : Nat) (hr : Hid (readH (l.drop p) = none)) (w : World) (h : PAt w g l p 0) :
  Calls Tryz.prog 100 #[.pointer (some ⟨g, 0, none⟩), .int .i64 (d : Int)] w (IPost g l p (flt d (l.drop p)) d w) := by
 have HF := hid (flt_none (d := d) hr.out)
 have hrk : Hid (RS.ok (RS.new (l.drop p))) := RS.new_ok (by have := hp.out; rw [List.length_drop]; omega)
 have hg : Hid (g < w.heap.size) := Blk.lt h
 have hgB : Hid (w.heap.size ≠ g) := by have := hg.out; unfold Hid; omega
 have H0 := hid (Blk.alloc h (.cells (itemC nulT none 0) 86))
 clear h
 go_enter Tryz.func100, Tryz.ntmps100
 go_wp2_with fail
 refine (preader_any g l p 0 hp _ H0.out).mono ?_
 rintro x w1 ⟨rfl, hb1, hr1⟩
 have P1 := hid (H0.out.ext hb1)
 have B1 := hid ((Blk.new w 86 (itemC nulT none 0)).ext hb1)
 have HE1 := hid (((Mod.refl [] w).alloc (.cells (itemC nulT none 0) 86)).trans hb1)
 have hR1 : RdAt w1 (w.heap.size + 1) (RS.new (l.drop p)) := by simpa using hr1
 have HR1 := hid hR1
 clear hr1 hR1 hb1 H0
 go_wp2_with fail
 refine (Head_any_r _ _ hrk.out _ HR1.out).mono ?_
 rintro x w2 ⟨rfl, hm2, hr2⟩
 have K2 : Hid (IH1 w g l p w2 (w.heap.size + 1)) := ⟨Mod.new (S := [w.heap.size + 1]) (HE1.out.of_ext.trans hm2) (fun k hk => by rw [List.mem_singleton] at hk; subst hk; exact .inr (by omega)), Blk.mod P1.out hm2 (by have := hg.out; simp; omega), B1.out.mod hm2 (by simp), hr2, by omega⟩
 clear P1 B1 HE1 HR1 hm2 hr2
 go_wp2_with fail
 refine (Bad_any _ _ _ K2.out.rd).mono ?_
 rintro x w3 ⟨rfl, hb3⟩
 have K3 : Hid (IH1 w g l p w3 (w.heap.size + 1)) := ⟨K2.out.ext.trans hb3, K2.out.pa.ext hb3, K2.out.ret.ext hb3, Blk.ext K2.out.rd hb3, by omega⟩
 clear K2 hb3
 have p1 : w3.cell? ⟨g, 1, none⟩ = some (.int .i64 (p : Int)) := PAt.at_ K3.out.pa
 have HH := hid (RS.Head_none (r := RS.new (l.drop p)) rfl hr.out)
 rw [HH.out]
 dsimp only
 go_wp2_with fail
 refine (pfail_any g l p p 2 _ K3.out.pa).mono ?_
 rintro x w9 ⟨rfl, hm9, hp9⟩
 have HB9 := hid (Blk.mod K3.out.ret hm9 (by simpa using hgB.out))
 have HM9 := hid hm9; have HP9 := hid hp9
 clear hm9 hp9
 obtain ⟨c0, c1, c2, c3, c4⟩ := cells5 HB9.out
 have f0 := Blk.frozen HB9.out 0
 have f1 := Blk.frozen HB9.out 1
 have f2 := Blk.frozen HB9.out 2
 have f3 := Blk.frozen HB9.out 3
 have f4 := Blk.frozen HB9.out 4
 go_wp2_with fail
 obtain ⟨d0, d1, d2, d3, d4⟩ := cells5 (set5_blk (t := nulT) (A := none) (c := 0) HB9.out)
 clear c0 c1 c2 c3 c4 f0 f1 f2 f3 f4
 show bodyPost _ _ _ _ _ (set5 w9 w.heap.size nulT none 0)
 refine bodyPost_ret (v := itemV nulT none 0) (by simp [results, Tryz.results100, go_sem, d0, d1, d2, d3, d4]) rfl ?_
 rw [HF.out]
 exact IPost.store hg.out ((K3.out.ext).of_ext) (Blk.lt K3.out.ret) HM9.out HP9.out (fun h => by cases h)

set_option maxRecDepth 20000 in
set_option maxHeartbeats 1600000 in
theorem pitem_noK (g : Nat) (l : List UInt8) (p : Nat) (hp : Hid (p <= l.length /\ l.length <= 1073741824)) (d sz m n : Nat) (o : Bool) (hm : Hid (m = 1 \/ m = 5 \/ m = 6 \/ m = 7)) (hr : Hid (readH (l.drop p) = some (sz, m, n, o))) (w : World) (h : PAt w g l p 0) :
  Calls Tryz.prog 100 #[.pointer (some ⟨g, 0, none⟩), .int .i64 (d : Int)] w (IPost g l p (flt d (l.drop p)) d w) := by
 have HF := hid (flt_noK (d := d) hr.out (by rcases hm.out with rfl | rfl | rfl | rfl <;> rfl))
 have hrk : Hid (RS.ok (RS.new (l.drop p))) := RS.new_ok (by have := hp.out; rw [List.length_drop]; omega)
 have hg : Hid (g < w.heap.size) := Blk.lt h
 have hgB : Hid (w.heap.size ≠ g) := by have := hg.out; unfold Hid; omega
 have H0 := hid (Blk.alloc h (.cells (itemC nulT none 0) 86))
 clear h
 go_enter Tryz.func100, Tryz.ntmps100
 go_wp2_with fail
 refine (preader_any g l p 0 hp _ H0.out).mono ?_
 rintro x w1 ⟨rfl, hb1, hr1⟩
 have P1 := hid (H0.out.ext hb1)
 have B1 := hid ((Blk.new w 86 (itemC nulT none 0)).ext hb1)
 have HE1 := hid (((Mod.refl [] w).alloc (.cells (itemC nulT none 0) 86)).trans hb1)
 have hR1 : RdAt w1 (w.heap.size + 1) (RS.new (l.drop p)) := by simpa using hr1
 have HR1 := hid hR1
 clear hr1 hR1 hb1 H0
 go_wp2_with fail
 refine (Head_any_r _ _ hrk.out _ HR1.out).mono ?_
 rintro x w2 ⟨rfl, hm2, hr2⟩
 have K2 : Hid (IH1 w g l p w2 (w.heap.size + 1)) := ⟨Mod.new (S := [w.heap.size + 1]) (HE1.out.of_ext.trans hm2) (fun k hk => by rw [List.mem_singleton] at hk; subst hk; exact .inr (by omega)), Blk.mod P1.out hm2 (by have := hg.out; simp; omega), B1.out.mod hm2 (by simp), hr2, by omega⟩
 clear P1 B1 HE1 HR1 hm2 hr2
 go_wp2_with fail
 refine (Bad_any _ _ _ K2.out.rd).mono ?_
 rintro x w3 ⟨rfl, hb3⟩
 have K3 : Hid (IH1 w g l p w3 (w.heap.size + 1)) := ⟨K2.out.ext.trans hb3, K2.out.pa.ext hb3, K2.out.ret.ext hb3, Blk.ext K2.out.rd hb3, by omega⟩
 clear K2 hb3
 have p1 : w3.cell? ⟨g, 1, none⟩ = some (.int .i64 (p : Int)) := PAt.at_ K3.out.pa
 have HH := hid (RS.Head_some (r := RS.new (l.drop p)) rfl hr.out)
 rw [HH.out]
 dsimp only
 rcases hm.out with rfl | rfl | rfl | rfl
 .
  go_wp2_with fail
  refine (pfail_any g l p p 2 _ K3.out.pa).mono ?_
  rintro x w9 ⟨rfl, hm9, hp9⟩
  have HB9 := hid (Blk.mod K3.out.ret hm9 (by simpa using hgB.out))
  have HM9 := hid hm9; have HP9 := hid hp9
  clear hm9 hp9
  obtain ⟨c0, c1, c2, c3, c4⟩ := cells5 HB9.out
  have f0 := Blk.frozen HB9.out 0
  have f1 := Blk.frozen HB9.out 1
  have f2 := Blk.frozen HB9.out 2
  have f3 := Blk.frozen HB9.out 3
  have f4 := Blk.frozen HB9.out 4
  go_wp2_with fail
  obtain ⟨d0, d1, d2, d3, d4⟩ := cells5 (set5_blk (t := nulT) (A := none) (c := 0) HB9.out)
  clear c0 c1 c2 c3 c4 f0 f1 f2 f3 f4
  show bodyPost _ _ _ _ _ (set5 w9 w.heap.size nulT none 0)
  refine bodyPost_ret (v := itemV nulT none 0) (by simp [results, Tryz.results100, go_sem, d0, d1, d2, d3, d4]) rfl ?_
  rw [HF.out]
  exact IPost.store hg.out ((K3.out.ext).of_ext) (Blk.lt K3.out.ret) HM9.out HP9.out (fun h => by cases h)
 .
  go_wp2_with fail
  refine (pfail_any g l p p 2 _ K3.out.pa).mono ?_
  rintro x w9 ⟨rfl, hm9, hp9⟩
  have HB9 := hid (Blk.mod K3.out.ret hm9 (by simpa using hgB.out))
  have HM9 := hid hm9; have HP9 := hid hp9
  clear hm9 hp9
  obtain ⟨c0, c1, c2, c3, c4⟩ := cells5 HB9.out
  have f0 := Blk.frozen HB9.out 0
  have f1 := Blk.frozen HB9.out 1
  have f2 := Blk.frozen HB9.out 2
  have f3 := Blk.frozen HB9.out 3
  have f4 := Blk.frozen HB9.out 4
  go_wp2_with fail
  obtain ⟨d0, d1, d2, d3, d4⟩ := cells5 (set5_blk (t := nulT) (A := none) (c := 0) HB9.out)
  clear c0 c1 c2 c3 c4 f0 f1 f2 f3 f4
  show bodyPost _ _ _ _ _ (set5 w9 w.heap.size nulT none 0)
  refine bodyPost_ret (v := itemV nulT none 0) (by simp [results, Tryz.results100, go_sem, d0, d1, d2, d3, d4]) rfl ?_
  rw [HF.out]
  exact IPost.store hg.out ((K3.out.ext).of_ext) (Blk.lt K3.out.ret) HM9.out HP9.out (fun h => by cases h)
 .
  go_wp2_with fail
  refine (pfail_any g l p p 2 _ K3.out.pa).mono ?_
  rintro x w9 ⟨rfl, hm9, hp9⟩
  have HB9 := hid (Blk.mod K3.out.ret hm9 (by simpa using hgB.out))
  have HM9 := hid hm9; have HP9 := hid hp9
  clear hm9 hp9
  obtain ⟨c0, c1, c2, c3, c4⟩ := cells5 HB9.out
  have f0 := Blk.frozen HB9.out 0
  have f1 := Blk.frozen HB9.out 1
  have f2 := Blk.frozen HB9.out 2
  have f3 := Blk.frozen HB9.out 3
  have f4 := Blk.frozen HB9.out 4
  go_wp2_with fail
  obtain ⟨d0, d1, d2, d3, d4⟩ := cells5 (set5_blk (t := nulT) (A := none) (c := 0) HB9.out)
  clear c0 c1 c2 c3 c4 f0 f1 f2 f3 f4
  show bodyPost _ _ _ _ _ (set5 w9 w.heap.size nulT none 0)
  refine bodyPost_ret (v := itemV nulT none 0) (by simp [results, Tryz.results100, go_sem, d0, d1, d2, d3, d4]) rfl ?_
  rw [HF.out]
  exact IPost.store hg.out ((K3.out.ext).of_ext) (Blk.lt K3.out.ret) HM9.out HP9.out (fun h => by cases h)
 .
  go_wp2_with fail
  refine (pfail_any g l p p 2 _ K3.out.pa).mono ?_
  rintro x w9 ⟨rfl, hm9, hp9⟩
  have HB9 := hid (Blk.mod K3.out.ret hm9 (by simpa using hgB.out))
  have HM9 := hid hm9; have HP9 := hid hp9
  clear hm9 hp9
  obtain ⟨c0, c1, c2, c3, c4⟩ := cells5 HB9.out
  have f0 := Blk.frozen HB9.out 0
  have f1 := Blk.frozen HB9.out 1
  have f2 := Blk.frozen HB9.out 2
  have f3 := Blk.frozen HB9.out 3
  have f4 := Blk.frozen HB9.out 4
  go_wp2_with fail
  obtain ⟨d0, d1, d2, d3, d4⟩ := cells5 (set5_blk (t := nulT) (A := none) (c := 0) HB9.out)
  clear c0 c1 c2 c3 c4 f0 f1 f2 f3 f4
  show bodyPost _ _ _ _ _ (set5 w9 w.heap.size nulT none 0)
  refine bodyPost_ret (v := itemV nulT none 0) (by simp [results, Tryz.results100, go_sem, d0, d1, d2, d3, d4]) rfl ?_
  rw [HF.out]
  exact IPost.store hg.out ((K3.out.ext).of_ext) (Blk.lt K3.out.ret) HM9.out HP9.out (fun h => by cases h)

set_option maxRecDepth 20000 in
set_option maxHeartbeats 1600000 in
theorem pitem_deep (g : Nat) (l : List UInt8) (p : Nat) (hp : Hid (p <= l.length /\ l.length <= 1073741824)) (sz m n : Nat) (o : Bool) (hm : Hid (m = 0 \/ m = 2 \/ m = 3 \/ m = 4)) (hr : Hid (readH (l.drop p) = some (sz, m, n, o))) (w : World) (h : PAt w g l p 0) :
  Calls Tryz.prog 100 #[.pointer (some ⟨g, 0, none⟩), .int .i64 0] w (IPost g l p (flt 0 (l.drop p)) 0 w) := by
 have HF := hid (flt_deep hr.out (by rcases hm.out with rfl | rfl | rfl | rfl <;> rfl))
 have hrk : Hid (RS.ok (RS.new (l.drop p))) := RS.new_ok (by have := hp.out; rw [List.length_drop]; omega)
 have hg : Hid (g < w.heap.size) := Blk.lt h
 have hgB : Hid (w.heap.size ≠ g) := by have := hg.out; unfold Hid; omega
 have H0 := hid (Blk.alloc h (.cells (itemC nulT none 0) 86))
 clear h
 go_enter Tryz.func100, Tryz.ntmps100
 go_wp2_with fail
 refine (preader_any g l p 0 hp _ H0.out).mono ?_
 rintro x w1 ⟨rfl, hb1, hr1⟩
 have P1 := hid (H0.out.ext hb1)
 have B1 := hid ((Blk.new w 86 (itemC nulT none 0)).ext hb1)
 have HE1 := hid (((Mod.refl [] w).alloc (.cells (itemC nulT none 0) 86)).trans hb1)
 have hR1 : RdAt w1 (w.heap.size + 1) (RS.new (l.drop p)) := by simpa using hr1
 have HR1 := hid hR1
 clear hr1 hR1 hb1 H0
 go_wp2_with fail
 refine (Head_any_r _ _ hrk.out _ HR1.out).mono ?_
 rintro x w2 ⟨rfl, hm2, hr2⟩
 have K2 : Hid (IH1 w g l p w2 (w.heap.size + 1)) := ⟨Mod.new (S := [w.heap.size + 1]) (HE1.out.of_ext.trans hm2) (fun k hk => by rw [List.mem_singleton] at hk; subst hk; exact .inr (by omega)), Blk.mod P1.out hm2 (by have := hg.out; simp; omega), B1.out.mod hm2 (by simp), hr2, by omega⟩
 clear P1 B1 HE1 HR1 hm2 hr2
 go_wp2_with fail
 refine (Bad_any _ _ _ K2.out.rd).mono ?_
 rintro x w3 ⟨rfl, hb3⟩
 have K3 : Hid (IH1 w g l p w3 (w.heap.size + 1)) := ⟨K2.out.ext.trans hb3, K2.out.pa.ext hb3, K2.out.ret.ext hb3, Blk.ext K2.out.rd hb3, by omega⟩
 clear K2 hb3
 have p1 : w3.cell? ⟨g, 1, none⟩ = some (.int .i64 (p : Int)) := PAt.at_ K3.out.pa
 have HH := hid (RS.Head_some (r := RS.new (l.drop p)) rfl hr.out)
 rw [HH.out]
 dsimp only
 rcases hm.out with rfl | rfl | rfl | rfl
 .
  go_wp2_with fail
  refine (pfail_any g l p p 3 _ K3.out.pa).mono ?_
  rintro x w9 ⟨rfl, hm9, hp9⟩
  have HB9 := hid (Blk.mod K3.out.ret hm9 (by simpa using hgB.out))
  have HM9 := hid hm9; have HP9 := hid hp9
  clear hm9 hp9
  obtain ⟨c0, c1, c2, c3, c4⟩ := cells5 HB9.out
  have f0 := Blk.frozen HB9.out 0
  have f1 := Blk.frozen HB9.out 1
  have f2 := Blk.frozen HB9.out 2
  have f3 := Blk.frozen HB9.out 3
  have f4 := Blk.frozen HB9.out 4
  go_wp2_with fail
  obtain ⟨d0, d1, d2, d3, d4⟩ := cells5 (set5_blk (t := nulT) (A := none) (c := 0) HB9.out)
  clear c0 c1 c2 c3 c4 f0 f1 f2 f3 f4
  show bodyPost _ _ _ _ _ (set5 w9 w.heap.size nulT none 0)
  refine bodyPost_ret (v := itemV nulT none 0) (by simp [results, Tryz.results100, go_sem, d0, d1, d2, d3, d4]) rfl ?_
  rw [HF.out]
  exact IPost.store hg.out ((K3.out.ext).of_ext) (Blk.lt K3.out.ret) HM9.out HP9.out (fun h => by cases h)
 .
  go_wp2_with fail
  refine (pfail_any g l p p 3 _ K3.out.pa).mono ?_
  rintro x w9 ⟨rfl, hm9, hp9⟩
  have HB9 := hid (Blk.mod K3.out.ret hm9 (by simpa using hgB.out))
  have HM9 := hid hm9; have HP9 := hid hp9
  clear hm9 hp9
  obtain ⟨c0, c1, c2, c3, c4⟩ := cells5 HB9.out
  have f0 := Blk.frozen HB9.out 0
  have f1 := Blk.frozen HB9.out 1
  have f2 := Blk.frozen HB9.out 2
  have f3 := Blk.frozen HB9.out 3
  have f4 := Blk.frozen HB9.out 4
  go_wp2_with fail
  obtain ⟨d0, d1, d2, d3, d4⟩ := cells5 (set5_blk (t := nulT) (A := none) (c := 0) HB9.out)
  clear c0 c1 c2 c3 c4 f0 f1 f2 f3 f4
  show bodyPost _ _ _ _ _ (set5 w9 w.heap.size nulT none 0)
  refine bodyPost_ret (v := itemV nulT none 0) (by simp [results, Tryz.results100, go_sem, d0, d1, d2, d3, d4]) rfl ?_
  rw [HF.out]
  exact IPost.store hg.out ((K3.out.ext).of_ext) (Blk.lt K3.out.ret) HM9.out HP9.out (fun h => by cases h)
 .
  go_wp2_with fail
  refine (pfail_any g l p p 3 _ K3.out.pa).mono ?_
  rintro x w9 ⟨rfl, hm9, hp9⟩
  have HB9 := hid (Blk.mod K3.out.ret hm9 (by simpa using hgB.out))
  have HM9 := hid hm9; have HP9 := hid hp9
  clear hm9 hp9
  obtain ⟨c0, c1, c2, c3, c4⟩ := cells5 HB9.out
  have f0 := Blk.frozen HB9.out 0
  have f1 := Blk.frozen HB9.out 1
  have f2 := Blk.frozen HB9.out 2
  have f3 := Blk.frozen HB9.out 3
  have f4 := Blk.frozen HB9.out 4
  go_wp2_with fail
  obtain ⟨d0, d1, d2, d3, d4⟩ := cells5 (set5_blk (t := nulT) (A := none) (c := 0) HB9.out)
  clear c0 c1 c2 c3 c4 f0 f1 f2 f3 f4
  show bodyPost _ _ _ _ _ (set5 w9 w.heap.size nulT none 0)
  refine bodyPost_ret (v := itemV nulT none 0) (by simp [results, Tryz.results100, go_sem, d0, d1, d2, d3, d4]) rfl ?_
  rw [HF.out]
  exact IPost.store hg.out ((K3.out.ext).of_ext) (Blk.lt K3.out.ret) HM9.out HP9.out (fun h => by cases h)
 .
  go_wp2_with fail
  refine (pfail_any g l p p 3 _ K3.out.pa).mono ?_
  rintro x w9 ⟨rfl, hm9, hp9⟩
  have HB9 := hid (Blk.mod K3.out.ret hm9 (by simpa using hgB.out))
  have HM9 := hid hm9; have HP9 := hid hp9
  clear hm9 hp9
  obtain ⟨c0, c1, c2, c3, c4⟩ := cells5 HB9.out
  have f0 := Blk.frozen HB9.out 0
  have f1 := Blk.frozen HB9.out 1
  have f2 := Blk.frozen HB9.out 2
  have f3 := Blk.frozen HB9.out 3
  have f4 := Blk.frozen HB9.out 4
  go_wp2_with fail
  obtain ⟨d0, d1, d2, d3, d4⟩ := cells5 (set5_blk (t := nulT) (A := none) (c := 0) HB9.out)
  clear c0 c1 c2 c3 c4 f0 f1 f2 f3 f4
  show bodyPost _ _ _ _ _ (set5 w9 w.heap.size nulT none 0)
  refine bodyPost_ret (v := itemV nulT none 0) (by simp [results, Tryz.results100, go_sem, d0, d1, d2, d3, d4]) rfl ?_
  rw [HF.out]
  exact IPost.store hg.out ((K3.out.ext).of_ext) (Blk.lt K3.out.ret) HM9.out HP9.out (fun h => by cases h)

set_option maxRecDepth 20000 in
set_option maxHeartbeats 1600000 in
theorem pitem_str (g : Nat) (l : List UInt8) (p : Nat) (hp : Hid (p <= l.length /\ l.length <= 1073741824)) (d sz m n : Nat) (o : Bool) (hm : Hid (m = 2 \/ m = 3)) (hr : Hid (readH (l.drop p) = some (sz, m, n, o))) (w : World) (h : PAt w g l p 0) :
  Calls Tryz.prog 100 #[.pointer (some ⟨g, 0, none⟩), .int .i64 ((d : Int) + 1)] w (IPost g l p (flt (d + 1) (l.drop p)) (d + 1) w) := by
 have HF := hid (flt_str (d := d) hr.out hm.out)
 have hrk : Hid (RS.ok (RS.new (l.drop p))) := RS.new_ok (by have := hp.out; rw [List.length_drop]; omega)
 have hg : Hid (g < w.heap.size) := Blk.lt h
 have hgB : Hid (w.heap.size ≠ g) := by have := hg.out; unfold Hid; omega
 have H0 := hid (Blk.alloc h (.cells (itemC nulT none 0) 86))
 clear h
 go_enter Tryz.func100, Tryz.ntmps100
 go_wp2_with fail
 refine (preader_any g l p 0 hp _ H0.out).mono ?_
 rintro x w1 ⟨rfl, hb1, hr1⟩
 have P1 := hid (H0.out.ext hb1)
 have B1 := hid ((Blk.new w 86 (itemC nulT none 0)).ext hb1)
 have HE1 := hid (((Mod.refl [] w).alloc (.cells (itemC nulT none 0) 86)).trans hb1)
 have hR1 : RdAt w1 (w.heap.size + 1) (RS.new (l.drop p)) := by simpa using hr1
 have HR1 := hid hR1
 clear hr1 hR1 hb1 H0
 go_wp2_with fail
 refine (Head_any_r _ _ hrk.out _ HR1.out).mono ?_
 rintro x w2 ⟨rfl, hm2, hr2⟩
 have K2 : Hid (IH1 w g l p w2 (w.heap.size + 1)) := ⟨Mod.new (S := [w.heap.size + 1]) (HE1.out.of_ext.trans hm2) (fun k hk => by rw [List.mem_singleton] at hk; subst hk; exact .inr (by omega)), Blk.mod P1.out hm2 (by have := hg.out; simp; omega), B1.out.mod hm2 (by simp), hr2, by omega⟩
 clear P1 B1 HE1 HR1 hm2 hr2
 go_wp2_with fail
 refine (Bad_any _ _ _ K2.out.rd).mono ?_
 rintro x w3 ⟨rfl, hb3⟩
 have K3 : Hid (IH1 w g l p w3 (w.heap.size + 1)) := ⟨K2.out.ext.trans hb3, K2.out.pa.ext hb3, K2.out.ret.ext hb3, Blk.ext K2.out.rd hb3, by omega⟩
 clear K2 hb3
 have p1 : w3.cell? ⟨g, 1, none⟩ = some (.int .i64 (p : Int)) := PAt.at_ K3.out.pa
 have HH := hid (RS.Head_some (r := RS.new (l.drop p)) rfl hr.out)
 rw [HH.out]
 dsimp only
 have td : decide ((d : Int) + 1 < 1) = false := by simp; omega
 have td2 : ((d : Int) + 1 < 1) = False := by simp; omega
 rcases hm.out with rfl | rfl
 .
  go_wp2_with fail
  refine (pstr_any 2 (by first | exact .inl rfl | exact .inr rfl) g l p hp d sz n o hr _ K3.out.pa).mono ?_
  rintro x w9 ⟨t, A, c, rfl, hm9, hp9, hs9⟩
  have HB9 := hid (Blk.mod K3.out.ret hm9 (by simpa using hgB.out))
  have HM9 := hid hm9; have HP9 := hid hp9; have HS9 := hid hs9
  clear hm9 hp9 hs9
  obtain ⟨c0, c1, c2, c3, c4⟩ := cells5 HB9.out
  have f0 := Blk.frozen HB9.out 0
  have f1 := Blk.frozen HB9.out 1
  have f2 := Blk.frozen HB9.out 2
  have f3 := Blk.frozen HB9.out 3
  have f4 := Blk.frozen HB9.out 4
  go_wp2_with fail
  obtain ⟨d0, d1, d2, d3, d4⟩ := cells5 (set5_blk (t := t) (A := A) (c := c) HB9.out)
  clear c0 c1 c2 c3 c4 f0 f1 f2 f3 f4
  show bodyPost _ _ _ _ _ (set5 w9 w.heap.size t A c)
  refine bodyPost_ret (v := itemV t A c) (by simp [results, Tryz.results100, go_sem, d0, d1, d2, d3, d4]) rfl ?_
  rw [HF.out]
  exact IPost.store hg.out (K3.out.ext.of_ext) (Blk.lt K3.out.ret) HM9.out HP9.out HS9.out
 .
  go_wp2_with fail
  refine (pstr_any 3 (by first | exact .inl rfl | exact .inr rfl) g l p hp d sz n o hr _ K3.out.pa).mono ?_
  rintro x w9 ⟨t, A, c, rfl, hm9, hp9, hs9⟩
  have HB9 := hid (Blk.mod K3.out.ret hm9 (by simpa using hgB.out))
  have HM9 := hid hm9; have HP9 := hid hp9; have HS9 := hid hs9
  clear hm9 hp9 hs9
  obtain ⟨c0, c1, c2, c3, c4⟩ := cells5 HB9.out
  have f0 := Blk.frozen HB9.out 0
  have f1 := Blk.frozen HB9.out 1
  have f2 := Blk.frozen HB9.out 2
  have f3 := Blk.frozen HB9.out 3
  have f4 := Blk.frozen HB9.out 4
  go_wp2_with fail
  obtain ⟨d0, d1, d2, d3, d4⟩ := cells5 (set5_blk (t := t) (A := A) (c := c) HB9.out)
  clear c0 c1 c2 c3 c4 f0 f1 f2 f3 f4
  show bodyPost _ _ _ _ _ (set5 w9 w.heap.size t A c)
  refine bodyPost_ret (v := itemV t A c) (by simp [results, Tryz.results100, go_sem, d0, d1, d2, d3, d4]) rfl ?_
  rw [HF.out]
  exact IPost.store hg.out (K3.out.ext.of_ext) (Blk.lt K3.out.ret) HM9.out HP9.out HS9.out

theorem newhead {L : List UInt8} {sz m n : Nat} {o : Bool} (h : readH L = some (sz, m, n, o)) : (RS.new L).Head = (⟨L, sz, -1, 0, 0⟩, m, n, o) := by
 rw [RS.Head_some (r := RS.new L) rfl h]; simp [RS.new]
theorem numT_good {l : List UInt8} {p sz n d : Nat} {o : Bool} (h : readH (l.drop p) = some (sz, 0, n, o)) : ((numT n).right (d + 1) = true /\ (numT n).ok) /\ (numT n).bytes ++ l.drop (p + sz) = l.drop p := by
 have hs := readH_some h
 have ho : o = false := by
  cases o with
  | false => rfl
  | true => have := (hs.opened rfl).2.2.1; revert this; decide
 subst ho
 refine ⟨⟨?_, ?_⟩, ?_⟩
 . unfold numT T.right T.node; simp [T.all]
 . unfold numT T.ok; exact ⟨by omega, hs.n64, by simp, by omega, fun i hi => by omega⟩
 .
  have e : (numT n).bytes = headL 0 n := rfl
  rw [e, <- (hs.closed rfl).1, <- List.drop_drop, List.take_append_drop]

set_option maxRecDepth 20000 in
set_option maxHeartbeats 1600000 in
theorem pitem_num (g : Nat) (l : List UInt8) (p : Nat) (hp : Hid (p <= l.length /\ l.length <= 1073741824)) (d sz n : Nat) (o : Bool) (hr : Hid (readH (l.drop p) = some (sz, 0, n, o))) (w : World) (h : PAt w g l p 0) :
  Calls Tryz.prog 100 #[.pointer (some ⟨g, 0, none⟩), .int .i64 ((d : Int) + 1)] w (IPost g l p (flt (d + 1) (l.drop p)) (d + 1) w) := by
 have HF := hid (flt_num (d := d) hr.out)
 have hsz : Hid (sz <= 1073741824) := by have h1 := (readH_some hr.out).le; have h2 := hp.out; rw [List.length_drop] at h1; unfold Hid; omega
 have hrk : Hid (RS.ok (RS.new (l.drop p))) := RS.new_ok (by have := hp.out; rw [List.length_drop]; omega)
 have hg : Hid (g < w.heap.size) := Blk.lt h
 have hgB : Hid (w.heap.size ≠ g) := by have := hg.out; unfold Hid; omega
 have H0 := hid (Blk.alloc h (.cells (itemC nulT none 0) 86))
 clear h
 go_enter Tryz.func100, Tryz.ntmps100
 go_wp2_with fail
 refine (preader_any g l p 0 hp _ H0.out).mono ?_
 rintro x w1 ⟨rfl, hb1, hr1⟩
 have P1 := hid (H0.out.ext hb1)
 have B1 := hid ((Blk.new w 86 (itemC nulT none 0)).ext hb1)
 have HE1 := hid (((Mod.refl [] w).alloc (.cells (itemC nulT none 0) 86)).trans hb1)
 have hR1 : RdAt w1 (w.heap.size + 1) (RS.new (l.drop p)) := by simpa using hr1
 have HR1 := hid hR1
 clear hr1 hR1 hb1 H0
 go_wp2_with fail
 refine (Head_any_r _ _ hrk.out _ HR1.out).mono ?_
 rintro x w2 ⟨rfl, hm2, hr2⟩
 have K2 : Hid (IH1 w g l p w2 (w.heap.size + 1)) := ⟨Mod.new (S := [w.heap.size + 1]) (HE1.out.of_ext.trans hm2) (fun k hk => by rw [List.mem_singleton] at hk; subst hk; exact .inr (by omega)), Blk.mod P1.out hm2 (by have := hg.out; simp; omega), B1.out.mod hm2 (by simp), hr2, by omega⟩
 clear P1 B1 HE1 HR1 hm2 hr2
 go_wp2_with fail
 refine (Bad_any _ _ _ K2.out.rd).mono ?_
 rintro x w3 ⟨rfl, hb3⟩
 have K3 : Hid (IH1 w g l p w3 (w.heap.size + 1)) := ⟨K2.out.ext.trans hb3, K2.out.pa.ext hb3, K2.out.ret.ext hb3, Blk.ext K2.out.rd hb3, by omega⟩
 clear K2 hb3
 have p1 : w3.cell? ⟨g, 1, none⟩ = some (.int .i64 (p : Int)) := PAt.at_ K3.out.pa
 have HH := hid (newhead hr.out)
 have HR3 : Hid (RdAt w3 (w.heap.size + 1) ⟨l.drop p, sz, -1, 0, 0⟩) := by have := K3.out.rd; rw [HH.out] at this; exact this
 rw [HH.out]
 dsimp only
 clear p1
 have td : decide ((d : Int) + 1 < 1) = false := by simp; omega
 have td2 : ((d : Int) + 1 < 1) = False := by simp; omega
 have q1 : w3.cell? ⟨g, 1, none⟩ = some (.int .i64 (p : Int)) := PAt.at_ K3.out.pa
 have z1 : w3.frozen? ⟨g, 1, none⟩ = false := PAt.froz K3.out.pa 1
 have tw : IntKind.i64.wrap ((p : Int) + (sz : Int)) = (p : Int) + (sz : Int) := IntWalk.i64_in _ (by have := hp.out; have := hsz.out; omega)
 have HP9 : Hid (Mod [g] w3 (w3.setCell ⟨g, 1, none⟩ (.int .i64 ((p : Int) + (sz : Int)))) /\ PAt (w3.setCell ⟨g, 1, none⟩ (.int .i64 ((p : Int) + (sz : Int)))) g l (p + sz) 0 /\ Blk (w3.setCell ⟨g, 1, none⟩ (.int .i64 ((p : Int) + (sz : Int)))) w.heap.size 86 (itemC nulT none 0)) := by
  refine ⟨(Mod.refl _ _).setCell (.inl (by simp)) _, ?_, Blk.far K3.out.ret (by simpa using hgB.out) _⟩
  have := Blk.set_ K3.out.pa 1 (.int .i64 ((p + sz : Nat) : Int))
  simpa [PAt] using this
 go_upto_region 11 with fail
 go_cut [] (fun wx => Hid (Mod [g] w3 wx /\ PAt wx g l (p + sz) 0 /\ Blk wx w.heap.size 86 (itemC nulT none 0)))
 case first =>
  go_region_with ((go_at_call 122; refine (At_any (w.heap.size + 1) ⟨l.drop p, sz, -1, 0, 0⟩ _ ?_).mono ?_; (first | exact HR3.out | exact Blk.drew HR3.out | exact Blk.drew (Blk.drew HR3.out)); rintro x w' ⟨rfl, rfl⟩))
  all_goals go_wp2_with fail
  all_goals go_meet
  all_goals exact ⟨by first | exact HP9.out.1 | exact HP9.out.1.drew, HP9.out.2⟩
 clear q1 z1 tw HP9
 have hc2 := hid hcut.out
 clear hcut
 go_wp2_with fail
 refine (Num_any n _).mono ?_
 rintro x w9 ⟨rfl, hb9⟩
 have HB9 := hid (hc2.out.2.2.ext hb9)
 have HM9 := hid (hc2.out.1.trans hb9.of_ext)
 have HP9 := hid (Blk.ext hc2.out.2.1 hb9)
 clear hb9
 have HG := hid (numT_good (d := d) hr.out)
 have HLs : Hid (∀ W Q, IsC W Q (numT n) none 0) := fun W Q => IsC.leaf
 generalize numT n = t at *
 obtain ⟨c0, c1, c2, c3, c4⟩ := cells5 HB9.out
 have f0 := Blk.frozen HB9.out 0
 have f1 := Blk.frozen HB9.out 1
 have f2 := Blk.frozen HB9.out 2
 have f3 := Blk.frozen HB9.out 3
 have f4 := Blk.frozen HB9.out 4
 go_wp2_with fail
 obtain ⟨d0, d1, d2, d3, d4⟩ := cells5 (set5_blk (t := t) (A := none) (c := 0) HB9.out)
 clear c0 c1 c2 c3 c4 f0 f1 f2 f3 f4
 show bodyPost _ _ _ _ _ (set5 w9 w.heap.size t none 0)
 refine bodyPost_ret (v := itemV t none 0) (by simp [results, Tryz.results100, go_sem, d0, d1, d2, d3, d4]) rfl ?_
 rw [HF.out]
 exact IPost.store hg.out (K3.out.ext.of_ext) (Blk.lt K3.out.ret) HM9.out HP9.out (fun _ => ⟨HG.out.1, HG.out.2, HLs.out _ _⟩)

set_option maxRecDepth 20000 in
set_option maxHeartbeats 1600000 in
theorem pitem_long (g : Nat) (l : List UInt8) (p : Nat) (hp : Hid (p <= l.length /\ l.length <= 1073741824)) (d sz n : Nat) (hn : Hid (1000 < n)) (hr : Hid (readH (l.drop p) = some (sz, 4, n, false))) (w : World) (h : PAt w g l p 0) :
  Calls Tryz.prog 100 #[.pointer (some ⟨g, 0, none⟩), .int .i64 ((d : Int) + 1)] w (IPost g l p (flt (d + 1) (l.drop p)) (d + 1) w) := by
 have HF := hid (flt_long (d := d) hr.out hn.out)
 have hrk : Hid (RS.ok (RS.new (l.drop p))) := RS.new_ok (by have := hp.out; rw [List.length_drop]; omega)
 have hg : Hid (g < w.heap.size) := Blk.lt h
 have hgB : Hid (w.heap.size ≠ g) := by have := hg.out; unfold Hid; omega
 have H0 := hid (Blk.alloc h (.cells (itemC nulT none 0) 86))
 clear h
 go_enter Tryz.func100, Tryz.ntmps100
 go_wp2_with fail
 refine (preader_any g l p 0 hp _ H0.out).mono ?_
 rintro x w1 ⟨rfl, hb1, hr1⟩
 have P1 := hid (H0.out.ext hb1)
 have B1 := hid ((Blk.new w 86 (itemC nulT none 0)).ext hb1)
 have HE1 := hid (((Mod.refl [] w).alloc (.cells (itemC nulT none 0) 86)).trans hb1)
 have hR1 : RdAt w1 (w.heap.size + 1) (RS.new (l.drop p)) := by simpa using hr1
 have HR1 := hid hR1
 clear hr1 hR1 hb1 H0
 go_wp2_with fail
 refine (Head_any_r _ _ hrk.out _ HR1.out).mono ?_
 rintro x w2 ⟨rfl, hm2, hr2⟩
 have K2 : Hid (IH1 w g l p w2 (w.heap.size + 1)) := ⟨Mod.new (S := [w.heap.size + 1]) (HE1.out.of_ext.trans hm2) (fun k hk => by rw [List.mem_singleton] at hk; subst hk; exact .inr (by omega)), Blk.mod P1.out hm2 (by have := hg.out; simp; omega), B1.out.mod hm2 (by simp), hr2, by omega⟩
 clear P1 B1 HE1 HR1 hm2 hr2
 go_wp2_with fail
 refine (Bad_any _ _ _ K2.out.rd).mono ?_
 rintro x w3 ⟨rfl, hb3⟩
 have K3 : Hid (IH1 w g l p w3 (w.heap.size + 1)) := ⟨K2.out.ext.trans hb3, K2.out.pa.ext hb3, K2.out.ret.ext hb3, Blk.ext K2.out.rd hb3, by omega⟩
 clear K2 hb3
 have p1 : w3.cell? ⟨g, 1, none⟩ = some (.int .i64 (p : Int)) := PAt.at_ K3.out.pa
 have HH := hid (newhead hr.out)
 rw [HH.out]
 dsimp only
 have td : decide ((d : Int) + 1 < 1) = false := by simp; omega
 have td2 : ((d : Int) + 1 < 1) = False := by simp; omega
 go_wp2_with fail
 refine (preader_any g l p 0 hp _ K3.out.pa).mono ?_
 rintro x w4 ⟨rfl, hb4, hr4⟩
 have P4 := hid (Blk.ext K3.out.pa hb4)
 have B4 := hid (K3.out.ret.ext hb4)
 have HR4 := hid hr4
 have HS4 := hid (Blk.lt K3.out.ret)
 have HS5 : Hid (w3.heap.size ≠ g /\ w3.heap.size ≠ w.heap.size) := by have h1 := hg.out; have h2 := HS4.out; unfold Hid; omega
 have HE4 := hid (K3.out.ext.trans hb4)
 clear hb4 hr4 p1
 go_wp2_with fail
 refine (Array_any _ _ hrk.out _ HR4.out).mono ?_
 rintro x w5 ⟨rfl, hm5, hr5⟩
 have HA := hid (newarr_long hr.out hn.out)
 have P5 := hid (Blk.mod P4.out hm5 (by simpa using fun e => HS5.out.1 e.symm))
 have B5 := hid (B4.out.mod hm5 (by simpa using fun e => HS5.out.2 e.symm))
 have M5 : Hid (Ext w w5) := Mod.new (S := [w3.heap.size]) (HE4.out.of_ext.trans hm5) (fun k hk => by rw [List.mem_singleton] at hk; subst hk; exact .inr K3.out.ext.size)
 have HR5 := hid hr5
 clear hm5 hr5
 go_wp2_with fail
 refine (Bad_any _ _ _ HR5.out).mono ?_
 rintro x w6 ⟨rfl, hb6⟩
 rw [HA.out]
 have P6 := hid (Blk.ext P5.out hb6)
 have B6 := hid (B5.out.ext hb6)
 have M6 := hid (M5.out.trans hb6)
 have p1 : w6.cell? ⟨g, 1, none⟩ = some (.int .i64 (p : Int)) := PAt.at_ P6.out
 clear hb6
 go_wp2_with fail
 refine (pfail_any g l p p 4 _ P6.out).mono ?_
 rintro x w9 ⟨rfl, hm9, hp9⟩
 have HB9 := hid (Blk.mod B6.out hm9 (by simpa using hgB.out))
 have HM9 := hid hm9; have HP9 := hid hp9
 clear hm9 hp9
 obtain ⟨c0, c1, c2, c3, c4⟩ := cells5 HB9.out
 have f0 := Blk.frozen HB9.out 0
 have f1 := Blk.frozen HB9.out 1
 have f2 := Blk.frozen HB9.out 2
 have f3 := Blk.frozen HB9.out 3
 have f4 := Blk.frozen HB9.out 4
 go_wp2_with fail
 obtain ⟨d0, d1, d2, d3, d4⟩ := cells5 (set5_blk (t := nulT) (A := none) (c := 0) HB9.out)
 clear c0 c1 c2 c3 c4 f0 f1 f2 f3 f4
 show bodyPost _ _ _ _ _ (set5 w9 w.heap.size nulT none 0)
 refine bodyPost_ret (v := itemV nulT none 0) (by simp [results, Tryz.results100, go_sem, d0, d1, d2, d3, d4]) rfl ?_
 rw [HF.out]
 exact IPost.store hg.out ((M6.out).of_ext) (Blk.lt B6.out) HM9.out HP9.out (fun h => by cases h)

set_option maxRecDepth 20000 in
set_option maxHeartbeats 1600000 in
theorem pitem_arr_false (g : Nat) (l : List UInt8) (p : Nat) (hp : Hid (p <= l.length /\ l.length <= 1073741824)) (d sz n : Nat) (hd : Hid (d <= 8)) (IH : Hid (∀ (p : Nat), p <= l.length -> ∀ w, PAt w g l p 0 -> Calls Tryz.prog 100 #[.pointer (some ⟨g, 0, none⟩), .int .i64 (d : Int)] w (IPost g l p (flt d (l.drop p)) d w))) (hn : Hid (¬ (false = false /\ 1000 < n))) (hr : Hid (readH (l.drop p) = some (sz, 4, n, false))) (w : World) (h : PAt w g l p 0) :
  Calls Tryz.prog 100 #[.pointer (some ⟨g, 0, none⟩), .int .i64 ((d : Int) + 1)] w (IPost g l p (flt (d + 1) (l.drop p)) (d + 1) w) := by
 have HF := hid (flt_arr (d := d) hr.out hn.out)
 have HA := hid (newarr_ok hr.out hn.out)
 have HNN : Hid (false = false -> n <= 1000) := by have := hn.out; unfold Hid; simp at this ⊢; try omega
 have hsz : Hid (sz <= 1073741824) := by have h1 := (readH_some hr.out).le; have h2 := hp.out; rw [List.length_drop] at h1; unfold Hid; omega
 have hrk : Hid (RS.ok (RS.new (l.drop p))) := RS.new_ok (by have := hp.out; rw [List.length_drop]; omega)
 have hg : Hid (g < w.heap.size) := Blk.lt h
 have hgB : Hid (w.heap.size ≠ g) := by have := hg.out; unfold Hid; omega
 have H0 := hid (Blk.alloc h (.cells (itemC nulT none 0) 86))
 clear h
 go_enter Tryz.func100, Tryz.ntmps100
 go_wp2_with fail
 refine (preader_any g l p 0 hp _ H0.out).mono ?_
 rintro x w1 ⟨rfl, hb1, hr1⟩
 have P1 := hid (H0.out.ext hb1)
 have B1 := hid ((Blk.new w 86 (itemC nulT none 0)).ext hb1)
 have HE1 := hid (((Mod.refl [] w).alloc (.cells (itemC nulT none 0) 86)).trans hb1)
 have hR1 : RdAt w1 (w.heap.size + 1) (RS.new (l.drop p)) := by simpa using hr1
 have HR1 := hid hR1
 clear hr1 hR1 hb1 H0
 go_wp2_with fail
 refine (Head_any_r _ _ hrk.out _ HR1.out).mono ?_
 rintro x w2 ⟨rfl, hm2, hr2⟩
 have K2 : Hid (IH1 w g l p w2 (w.heap.size + 1)) := ⟨Mod.new (S := [w.heap.size + 1]) (HE1.out.of_ext.trans hm2) (fun k hk => by rw [List.mem_singleton] at hk; subst hk; exact .inr (by omega)), Blk.mod P1.out hm2 (by have := hg.out; simp; omega), B1.out.mod hm2 (by simp), hr2, by omega⟩
 clear P1 B1 HE1 HR1 hm2 hr2
 go_wp2_with fail
 refine (Bad_any _ _ _ K2.out.rd).mono ?_
 rintro x w3 ⟨rfl, hb3⟩
 have K3 : Hid (IH1 w g l p w3 (w.heap.size + 1)) := ⟨K2.out.ext.trans hb3, K2.out.pa.ext hb3, K2.out.ret.ext hb3, Blk.ext K2.out.rd hb3, by omega⟩
 clear K2 hb3
 have p1 : w3.cell? ⟨g, 1, none⟩ = some (.int .i64 (p : Int)) := PAt.at_ K3.out.pa
 have HH := hid (newhead hr.out)
 rw [HH.out]
 dsimp only
 have td : decide ((d : Int) + 1 < 1) = false := by simp; omega
 have td2 : ((d : Int) + 1 < 1) = False := by simp; omega
 go_wp2_with fail
 refine (preader_any g l p 0 hp _ K3.out.pa).mono ?_
 rintro x w4 ⟨rfl, hb4, hr4⟩
 have P4 := hid (Blk.ext K3.out.pa hb4)
 have B4 := hid (K3.out.ret.ext hb4)
 have HR4 := hid hr4
 have HS4 := hid (Blk.lt K3.out.ret)
 have HS5 : Hid (w3.heap.size ≠ g /\ w3.heap.size ≠ w.heap.size) := by have h1 := hg.out; have h2 := HS4.out; unfold Hid; omega
 have HE4 := hid (K3.out.ext.trans hb4)
 clear hb4 hr4 p1
 go_wp2_with fail
 refine (Array_any _ _ hrk.out _ HR4.out).mono ?_
 rintro x w5 ⟨rfl, hm5, hr5⟩
 rw [HA.out] at hr5 ⊢
 simp only [Bool.false_eq_true, if_false]
 have P5 := hid (Blk.mod P4.out hm5 (by simpa using fun e => HS5.out.1 e.symm))
 have B5 := hid (B4.out.mod hm5 (by simpa using fun e => HS5.out.2 e.symm))
 have M5 : Hid (Ext w w5) := Mod.new (S := [w3.heap.size]) (HE4.out.of_ext.trans hm5) (fun k hk => by rw [List.mem_singleton] at hk; subst hk; exact .inr K3.out.ext.size)
 have HR5 := hid hr5
 clear hm5 hr5
 go_wp2_with fail
 refine (Bad_any _ _ _ HR5.out).mono ?_
 rintro x w6 ⟨rfl, hb6⟩
 have P6 := hid (Blk.ext P5.out hb6)
 have B6 := hid (B5.out.ext hb6)
 have M6 := hid (M5.out.trans hb6)
 have HR6 : Hid (RdAt w6 w3.heap.size ⟨l.drop p, sz, -1, 0, 0⟩) := Blk.ext HR5.out hb6
 clear hb6
 have q1 : w6.cell? ⟨g, 1, none⟩ = some (.int .i64 (p : Int)) := PAt.at_ P6.out
 have z1 : w6.frozen? ⟨g, 1, none⟩ = false := PAt.froz P6.out 1
 have tw : IntKind.i64.wrap ((p : Int) + (sz : Int)) = (p : Int) + (sz : Int) := IntWalk.i64_in _ (by have := hp.out; have := hsz.out; omega)
 have HP9 : Hid (Mod [g] w6 (w6.setCell ⟨g, 1, none⟩ (.int .i64 ((p : Int) + (sz : Int)))) /\ PAt (w6.setCell ⟨g, 1, none⟩ (.int .i64 ((p : Int) + (sz : Int)))) g l (p + sz) 0 /\ Blk (w6.setCell ⟨g, 1, none⟩ (.int .i64 ((p : Int) + (sz : Int)))) w.heap.size 86 (itemC nulT none 0)) := by
  refine ⟨(Mod.refl _ _).setCell (.inl (by simp)) _, ?_, Blk.far B6.out (by simpa using hgB.out) _⟩
  have := Blk.set_ P6.out 1 (.int .i64 ((p + sz : Nat) : Int))
  simpa [PAt] using this
 go_upto_region 20 with fail
 go_cut [] (fun wx => Hid (Mod [g] w6 wx /\ PAt wx g l (p + sz) 0 /\ Blk wx w.heap.size 86 (itemC nulT none 0)))
 case first =>
  go_region_with ((go_at_call 122; refine (At_any w3.heap.size ⟨l.drop p, sz, -1, 0, 0⟩ _ ?_).mono ?_; (first | exact HR6.out | exact Blk.drew HR6.out | exact Blk.drew (Blk.drew HR6.out)); rintro x w' ⟨rfl, rfl⟩))
  all_goals go_wp2_with fail
  all_goals go_meet
  all_goals exact ⟨by first | exact HP9.out.1 | exact HP9.out.1.drew, HP9.out.2⟩
 clear q1 z1 tw HP9
 have hc2 := hid hcut.out
 clear hcut
 go_wp2_with fail
 refine (plist_any d hd g l (show Hid _ from hp.out.2) IH p sz n false (n : Int) (by unfold Hid; simp) hr (by unfold Hid; first | exact HNN.out | (have := HNN.out; simpa using this) | simp) (by have h1 := (readH_some hr.out).le; have h2 := hp.out; rw [List.length_drop] at h1; unfold Hid; omega) _ hc2.out.2.1).mono ?_
 rintro x w9 ⟨t, A, c, rfl, hm9, hp9, hs9⟩
 have HB9 := hid (Blk.mod hc2.out.2.2 hm9 (by simpa using hgB.out))
 have HM9 := hid hm9; have HP9 := hid hp9; have HS9 := hid hs9
 clear hm9 hp9 hs9
 obtain ⟨c0, c1, c2, c3, c4⟩ := cells5 HB9.out
 have f0 := Blk.frozen HB9.out 0
 have f1 := Blk.frozen HB9.out 1
 have f2 := Blk.frozen HB9.out 2
 have f3 := Blk.frozen HB9.out 3
 have f4 := Blk.frozen HB9.out 4
 go_wp2_with fail
 obtain ⟨d0, d1, d2, d3, d4⟩ := cells5 (set5_blk (t := t) (A := A) (c := c) HB9.out)
 clear c0 c1 c2 c3 c4 f0 f1 f2 f3 f4
 show bodyPost _ _ _ _ _ (set5 w9 w.heap.size t A c)
 refine bodyPost_ret (v := itemV t A c) (by simp [results, Tryz.results100, go_sem, d0, d1, d2, d3, d4]) rfl ?_
 rw [HF.out]
 exact IPost.store hg.out (M6.out.of_ext.trans hc2.out.1) (Blk.lt hc2.out.2.2) HM9.out HP9.out HS9.out

set_option maxRecDepth 20000 in
set_option maxHeartbeats 1600000 in
theorem pitem_arr_true (g : Nat) (l : List UInt8) (p : Nat) (hp : Hid (p <= l.length /\ l.length <= 1073741824)) (d sz n : Nat) (hd : Hid (d <= 8)) (IH : Hid (∀ (p : Nat), p <= l.length -> ∀ w, PAt w g l p 0 -> Calls Tryz.prog 100 #[.pointer (some ⟨g, 0, none⟩), .int .i64 (d : Int)] w (IPost g l p (flt d (l.drop p)) d w))) (hn : Hid (¬ (true = false /\ 1000 < n))) (hr : Hid (readH (l.drop p) = some (sz, 4, n, true))) (w : World) (h : PAt w g l p 0) :
  Calls Tryz.prog 100 #[.pointer (some ⟨g, 0, none⟩), .int .i64 ((d : Int) + 1)] w (IPost g l p (flt (d + 1) (l.drop p)) (d + 1) w) := by
 have HF := hid (flt_arr (d := d) hr.out hn.out)
 have HA := hid (newarr_ok hr.out hn.out)
 have HNN : Hid (true = false -> n <= 1000) := by have := hn.out; unfold Hid; simp at this ⊢; try omega
 have hsz : Hid (sz <= 1073741824) := by have h1 := (readH_some hr.out).le; have h2 := hp.out; rw [List.length_drop] at h1; unfold Hid; omega
 have hrk : Hid (RS.ok (RS.new (l.drop p))) := RS.new_ok (by have := hp.out; rw [List.length_drop]; omega)
 have hg : Hid (g < w.heap.size) := Blk.lt h
 have hgB : Hid (w.heap.size ≠ g) := by have := hg.out; unfold Hid; omega
 have H0 := hid (Blk.alloc h (.cells (itemC nulT none 0) 86))
 clear h
 go_enter Tryz.func100, Tryz.ntmps100
 go_wp2_with fail
 refine (preader_any g l p 0 hp _ H0.out).mono ?_
 rintro x w1 ⟨rfl, hb1, hr1⟩
 have P1 := hid (H0.out.ext hb1)
 have B1 := hid ((Blk.new w 86 (itemC nulT none 0)).ext hb1)
 have HE1 := hid (((Mod.refl [] w).alloc (.cells (itemC nulT none 0) 86)).trans hb1)
 have hR1 : RdAt w1 (w.heap.size + 1) (RS.new (l.drop p)) := by simpa using hr1
 have HR1 := hid hR1
 clear hr1 hR1 hb1 H0
 go_wp2_with fail
 refine (Head_any_r _ _ hrk.out _ HR1.out).mono ?_
 rintro x w2 ⟨rfl, hm2, hr2⟩
 have K2 : Hid (IH1 w g l p w2 (w.heap.size + 1)) := ⟨Mod.new (S := [w.heap.size + 1]) (HE1.out.of_ext.trans hm2) (fun k hk => by rw [List.mem_singleton] at hk; subst hk; exact .inr (by omega)), Blk.mod P1.out hm2 (by have := hg.out; simp; omega), B1.out.mod hm2 (by simp), hr2, by omega⟩
 clear P1 B1 HE1 HR1 hm2 hr2
 go_wp2_with fail
 refine (Bad_any _ _ _ K2.out.rd).mono ?_
 rintro x w3 ⟨rfl, hb3⟩
 have K3 : Hid (IH1 w g l p w3 (w.heap.size + 1)) := ⟨K2.out.ext.trans hb3, K2.out.pa.ext hb3, K2.out.ret.ext hb3, Blk.ext K2.out.rd hb3, by omega⟩
 clear K2 hb3
 have p1 : w3.cell? ⟨g, 1, none⟩ = some (.int .i64 (p : Int)) := PAt.at_ K3.out.pa
 have HH := hid (newhead hr.out)
 rw [HH.out]
 dsimp only
 have td : decide ((d : Int) + 1 < 1) = false := by simp; omega
 have td2 : ((d : Int) + 1 < 1) = False := by simp; omega
 go_wp2_with fail
 refine (preader_any g l p 0 hp _ K3.out.pa).mono ?_
 rintro x w4 ⟨rfl, hb4, hr4⟩
 have P4 := hid (Blk.ext K3.out.pa hb4)
 have B4 := hid (K3.out.ret.ext hb4)
 have HR4 := hid hr4
 have HS4 := hid (Blk.lt K3.out.ret)
 have HS5 : Hid (w3.heap.size ≠ g /\ w3.heap.size ≠ w.heap.size) := by have h1 := hg.out; have h2 := HS4.out; unfold Hid; omega
 have HE4 := hid (K3.out.ext.trans hb4)
 clear hb4 hr4 p1
 go_wp2_with fail
 refine (Array_any _ _ hrk.out _ HR4.out).mono ?_
 rintro x w5 ⟨rfl, hm5, hr5⟩
 rw [HA.out] at hr5 ⊢
 simp only [if_true]
 have P5 := hid (Blk.mod P4.out hm5 (by simpa using fun e => HS5.out.1 e.symm))
 have B5 := hid (B4.out.mod hm5 (by simpa using fun e => HS5.out.2 e.symm))
 have M5 : Hid (Ext w w5) := Mod.new (S := [w3.heap.size]) (HE4.out.of_ext.trans hm5) (fun k hk => by rw [List.mem_singleton] at hk; subst hk; exact .inr K3.out.ext.size)
 have HR5 := hid hr5
 clear hm5 hr5
 go_wp2_with fail
 refine (Bad_any _ _ _ HR5.out).mono ?_
 rintro x w6 ⟨rfl, hb6⟩
 have P6 := hid (Blk.ext P5.out hb6)
 have B6 := hid (B5.out.ext hb6)
 have M6 := hid (M5.out.trans hb6)
 have HR6 : Hid (RdAt w6 w3.heap.size ⟨l.drop p, sz, -1, 0, 0⟩) := Blk.ext HR5.out hb6
 clear hb6
 have q1 : w6.cell? ⟨g, 1, none⟩ = some (.int .i64 (p : Int)) := PAt.at_ P6.out
 have z1 : w6.frozen? ⟨g, 1, none⟩ = false := PAt.froz P6.out 1
 have tw : IntKind.i64.wrap ((p : Int) + (sz : Int)) = (p : Int) + (sz : Int) := IntWalk.i64_in _ (by have := hp.out; have := hsz.out; omega)
 have HP9 : Hid (Mod [g] w6 (w6.setCell ⟨g, 1, none⟩ (.int .i64 ((p : Int) + (sz : Int)))) /\ PAt (w6.setCell ⟨g, 1, none⟩ (.int .i64 ((p : Int) + (sz : Int)))) g l (p + sz) 0 /\ Blk (w6.setCell ⟨g, 1, none⟩ (.int .i64 ((p : Int) + (sz : Int)))) w.heap.size 86 (itemC nulT none 0)) := by
  refine ⟨(Mod.refl _ _).setCell (.inl (by simp)) _, ?_, Blk.far B6.out (by simpa using hgB.out) _⟩
  have := Blk.set_ P6.out 1 (.int .i64 ((p + sz : Nat) : Int))
  simpa [PAt] using this
 go_upto_region 20 with fail
 go_cut [] (fun wx => Hid (Mod [g] w6 wx /\ PAt wx g l (p + sz) 0 /\ Blk wx w.heap.size 86 (itemC nulT none 0)))
 case first =>
  go_region_with ((go_at_call 122; refine (At_any w3.heap.size ⟨l.drop p, sz, -1, 0, 0⟩ _ ?_).mono ?_; (first | exact HR6.out | exact Blk.drew HR6.out | exact Blk.drew (Blk.drew HR6.out)); rintro x w' ⟨rfl, rfl⟩))
  all_goals go_wp2_with fail
  all_goals go_meet
  all_goals exact ⟨by first | exact HP9.out.1 | exact HP9.out.1.drew, HP9.out.2⟩
 clear q1 z1 tw HP9
 have hc2 := hid hcut.out
 clear hcut
 go_wp2_with fail
 refine (plist_any d hd g l (show Hid _ from hp.out.2) IH p sz n true (-1) (by unfold Hid; simp) hr (by unfold Hid; first | exact HNN.out | (have := HNN.out; simpa using this) | simp) (by have h1 := (readH_some hr.out).le; have h2 := hp.out; rw [List.length_drop] at h1; unfold Hid; omega) _ hc2.out.2.1).mono ?_
 rintro x w9 ⟨t, A, c, rfl, hm9, hp9, hs9⟩
 have HB9 := hid (Blk.mod hc2.out.2.2 hm9 (by simpa using hgB.out))
 have HM9 := hid hm9; have HP9 := hid hp9; have HS9 := hid hs9
 clear hm9 hp9 hs9
 obtain ⟨c0, c1, c2, c3, c4⟩ := cells5 HB9.out
 have f0 := Blk.frozen HB9.out 0
 have f1 := Blk.frozen HB9.out 1
 have f2 := Blk.frozen HB9.out 2
 have f3 := Blk.frozen HB9.out 3
 have f4 := Blk.frozen HB9.out 4
 go_wp2_with fail
 obtain ⟨d0, d1, d2, d3, d4⟩ := cells5 (set5_blk (t := t) (A := A) (c := c) HB9.out)
 clear c0 c1 c2 c3 c4 f0 f1 f2 f3 f4
 show bodyPost _ _ _ _ _ (set5 w9 w.heap.size t A c)
 refine bodyPost_ret (v := itemV t A c) (by simp [results, Tryz.results100, go_sem, d0, d1, d2, d3, d4]) rfl ?_
 rw [HF.out]
 exact IPost.store hg.out (M6.out.of_ext.trans hc2.out.1) (Blk.lt hc2.out.2.2) HM9.out HP9.out HS9.out


theorem pitem_any (g : Nat) (l : List UInt8) (hl : l.length <= 1073741824) : ∀ d : Nat, d <= 9 -> ∀ p, p <= l.length -> ∀ w, PAt w g l p 0 -> Calls Tryz.prog 100 #[.pointer (some ⟨g, 0, none⟩), .int .i64 (d : Int)] w (IPost g l p (flt d (l.drop p)) d w) := by
 intro d
 induction d with
 | zero =>
  intro _ p hp w h
  cases hr : readH (l.drop p) with
  | none => exact pitem_none g l p ⟨hp, hl⟩ 0 hr w h
  | some x =>
   obtain ⟨sz, m, n, o⟩ := x
   have hm := (readH_some hr).m7
   have h8 : (m = 1 \/ m = 5 \/ m = 6 \/ m = 7) \/ (m = 0 \/ m = 2 \/ m = 3 \/ m = 4) := by omega
   rcases h8 with h8 | h8
   . exact pitem_noK g l p ⟨hp, hl⟩ 0 sz m n o h8 hr w h
   . exact pitem_deep g l p ⟨hp, hl⟩ sz m n o h8 hr w h
 | succ d ih =>
  intro hd p hp w h
  have ih' := ih (by omega)
  have e : ((d + 1 : Nat) : Int) = (d : Int) + 1 := by omega
  cases hr : readH (l.drop p) with
  | none => exact pitem_none g l p ⟨hp, hl⟩ (d + 1) hr w h
  | some x =>
   obtain ⟨sz, m, n, o⟩ := x
   have hm := (readH_some hr).m7
   have h8 : (m = 1 \/ m = 5 \/ m = 6 \/ m = 7) \/ m = 0 \/ (m = 2 \/ m = 3) \/ m = 4 := by omega
   rcases h8 with h8 | rfl | h8 | rfl
   . exact pitem_noK g l p ⟨hp, hl⟩ (d + 1) sz m n o h8 hr w h
   . rw [e]; exact pitem_num g l p ⟨hp, hl⟩ d sz n o hr w h
   . rw [e]; exact pitem_str g l p ⟨hp, hl⟩ d sz m n o h8 hr w h
   .
    rw [e]
    cases o with
    | false =>
     by_cases hn : 1000 < n
     . exact pitem_long g l p ⟨hp, hl⟩ d sz n hn hr w h
     . exact pitem_arr_false g l p ⟨hp, hl⟩ d sz n (by unfold Hid; omega) ih' (fun h => hn h.2) hr w h
    | true => exact pitem_arr_true g l p ⟨hp, hl⟩ d sz n (by unfold Hid; omega) ih' (fun h => by cases h.1) hr w h
end Go.Proofs.YthecmnbkjchjmaaGreat
