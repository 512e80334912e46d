/-
  The parser of items: an item.
  Parse: the item of bytes, or what is wrong, and where.
  What is made is read again: names.
  block.Of: what gives up, and what is read.
  The reader of a primary: check, count.
  Rows of blocks of the call's own: their cells; what is appended to them.
  The numbers of items (primary.nums).
  A struct in the midst of a block, loaded in a region whose operations are held.
  Three names, read into the reader.
-/
import Derived.Test.YtfgipgpbjfhflaaGreatMBundleBackf
import Derived.StillTailTactics
import Derived.Defers
import Derived.Recover
import Derived.Deep.AppendLies
import Derived.Deep.RegionLaw

namespace Go.Proofs.YtfgipgpbjfhflaaGreat
open Go.RowKit
set_option linter.unusedVariables false
set_option linter.unusedSimpArgs false

theorem flt_none {d : Nat} {l : List UInt8} (h : readH l = none) : flt d l = (0, 2) := by
  cases d <;> (unfold flt; rw [h])
theorem flt_noK {d : Nat} {l : List UInt8} {sz m n : Nat} {o : Bool} (h : readH l = some (sz, m, n, o)) (hm : noK m = true) : flt d l = (0, 2) := by
  cases d <;> (unfold flt; rw [h]; dsimp only; rw [if_pos hm])
theorem flt_deep {l : List UInt8} {sz m n : Nat} {o : Bool} (h : readH l = some (sz, m, n, o)) (hm : noK m = false) : flt 0 l = (0, 3) := by
  unfold flt; rw [h]; dsimp only; rw [if_neg (by simp [hm])]
theorem flt_num {d : Nat} {l : List UInt8} {sz n : Nat} {o : Bool} (h : readH l = some (sz, 0, n, o)) : flt (d + 1) l = (sz, 0) := by
  unfold flt; rw [h]; rfl
theorem flt_str {d : Nat} {l : List UInt8} {sz m n : Nat} {o : Bool} (h : readH l = some (sz, m, n, o)) (hm : m = 2 ∨ m = 3) : flt (d + 1) l = strR o l sz n := by
  unfold flt; rw [h]
  rcases hm with rfl | rfl <;> rfl
theorem flt_long {d : Nat} {l : List UInt8} {sz n : Nat} (h : readH l = some (sz, 4, n, false)) (hn : 1000 < n) : flt (d + 1) l = (0, 4) := by
  unfold flt; rw [h]; dsimp only
  rw [if_neg (by decide), if_neg (by decide), if_neg (by decide), if_pos ⟨rfl, hn⟩]
theorem flt_arr {d : Nat} {l : List UInt8} {sz n : Nat} {o : Bool} (h : readH l = some (sz, 4, n, o)) (hn : ¬ (o = false ∧ 1000 < n)) : flt (d + 1) l = floop (flt d) l o n 1000 sz := by
  unfold flt; rw [h]; dsimp only
  rw [if_neg (by decide), if_neg (by decide), if_neg (by decide), if_neg hn]

theorem newarr_long {L : List UInt8} {sz n : Nat} (h : readH L = some (sz, 4, n, false)) (hn : 1000 < n) : ((RS.new L).Array).1.e = 4 := by
  have e := RS.Head_some (r := RS.new L) rfl h
  unfold RS.Array
  rw [e]
  dsimp only
  rw [if_pos rfl, if_neg (by decide), if_neg (by decide), if_pos hn]
  rfl
theorem newarr_ok {L : List UInt8} {sz n : Nat} {o : Bool} (h : readH L = some (sz, 4, n, o)) (hn : ¬ (o = false ∧ 1000 < n)) : (RS.new L).Array = (⟨L, sz, -1, 0, 0⟩, if o = true then -1 else (n : Int)) := by
  have e := RS.Head_some (r := RS.new L) rfl h
  unfold RS.Array
  rw [e]
  dsimp only
  cases o
  · rw [if_pos rfl, if_neg (by decide), if_neg (by decide), if_neg (by intro h; exact hn ⟨rfl, h⟩)]
    simp [RS.new]
  · rw [if_pos rfl, if_neg (by decide), if_pos rfl]
    simp [RS.new]

/-- What came back, stored as the result. -/
theorem IPost.store {g : Nat} {l : List UInt8} {p : Nat} {F : Nat × Int} {d : Nat} {w W w4 : World} {t : T} {A : Option Addr} {c : Nat} (hg : g < w.heap.size) (hE : Mod [g] w W) (hW : w.heap.size < W.heap.size)
    (hm : Mod [g] W w4) (hp : PAt w4 g l (p + F.1) F.2) (hs : F.2 = 0 → (t.right d = true ∧ t.ok) ∧ t.bytes ++ l.drop (p + F.1) = l.drop p ∧ IsC w4 (fun b => W.heap.size ≤ b) t A c) :
    IPost g l p F d w (.returned (itemV t A c)) (set5 w4 w.heap.size t A c) := by
  refine ⟨t, A, c, rfl, set5_mod (hE.trans hm) (Nat.le_refl _), set5_far hp (by omega), fun h0 => ⟨(hs h0).1, (hs h0).2.1, ?_⟩⟩
  exact IsC.weak (fun k hk hq => by omega) t (IsC.mod set5_modb (fun k hq hk hm => by rw [List.mem_singleton] at hm; omega) t (hs h0).2.2)

/-- What holds once the head has been read. -/
structure IH1 (w : World) (g : Nat) (l : List UInt8) (p : Nat) (wx : World) (R : Nat) : Prop where
  ext : Ext w wx
  pa : PAt wx g l p 0
  ret : Blk wx w.heap.size 52 (itemC nulT none 0)
  rd : RdAt wx R (RS.new (l.drop p)).Head.1
  lt : w.heap.size < R

set_option maxRecDepth 20000 in
set_option maxHeartbeats 800000 in
theorem pitem_none (g : Nat) (l : List UInt8) (p : Nat) (hp : Hid (p ≤ l.length ∧ l.length ≤ 1073741824)) (d : Nat) (hr : Hid (readH (l.drop p) = none)) (w : World) (h : PAt w g l p 0) :
    Calls Tryz.prog 31 #[.pointer (some ⟨g, 0, none⟩), .int .i64 (d : Int)] w (IPost g l p (flt d (l.drop p)) d w) := by
  have HF := hid (flt_none (d := d) hr.out)
  have hrk : Hid (RS.ok (RS.new (l.drop p))) := RS.new_ok (by have := hp.out; rw [List.length_drop]; omega)
  have hg : Hid (g < w.heap.size) := Blk.lt h
  have hgB : Hid (w.heap.size ≠ g) := by have := hg.out; unfold Hid; omega
  have H0 := hid (Blk.alloc h (.cells (itemC nulT none 0) 52))
  clear h
  go_enter Tryz.func31, Tryz.ntmps31
  go_wp2_with fail
  refine (preader_any g l p 0 hp _ H0.out).mono ?_
  rintro x w1 ⟨rfl, hb1, hr1⟩
  have P1 := hid (H0.out.ext hb1)
  have B1 := hid ((Blk.new w 52 (itemC nulT none 0)).ext hb1)
  have HE1 := hid (((Mod.refl [] w).alloc (.cells (itemC nulT none 0) 52)).trans hb1)
  have hR1 : RdAt w1 (w.heap.size + 1) (RS.new (l.drop p)) := by simpa using hr1
  have HR1 := hid hR1
  clear hr1 hR1 hb1 H0
  go_wp2_with fail
  refine (Head_any_r _ _ hrk.out _ HR1.out).mono ?_
  rintro x w2 ⟨rfl, hm2, hr2⟩
  have K2 : Hid (IH1 w g l p w2 (w.heap.size + 1)) := ⟨Mod.new (S := [w.heap.size + 1]) (HE1.out.of_ext.trans hm2) (fun k hk => by rw [List.mem_singleton] at hk; subst hk; exact .inr (by omega)), Blk.mod P1.out hm2 (by have := hg.out; simp; omega), B1.out.mod hm2 (by simp), hr2, by omega⟩
  clear P1 B1 HE1 HR1 hm2 hr2
  go_wp2_with fail
  refine (Bad_any _ _ _ K2.out.rd).mono ?_
  rintro x w3 ⟨rfl, hb3⟩
  have K3 : Hid (IH1 w g l p w3 (w.heap.size + 1)) := ⟨K2.out.ext.trans hb3, K2.out.pa.ext hb3, K2.out.ret.ext hb3, Blk.ext K2.out.rd hb3, by omega⟩
  clear K2 hb3
  have p1 : w3.cell? ⟨g, 1, none⟩ = some (.int .i64 (p : Int)) := PAt.at_ K3.out.pa
  have HH := hid (RS.Head_none (r := RS.new (l.drop p)) rfl hr.out)
  rw [HH.out]
  dsimp only
  go_wp2_with fail
  refine (pfail_any g l p p 2 _ K3.out.pa).mono ?_
  rintro x w9 ⟨rfl, hm9, hp9⟩
  have HB9 := hid (Blk.mod K3.out.ret hm9 (by simpa using hgB.out))
  have HM9 := hid hm9; have HP9 := hid hp9
  clear hm9 hp9
  obtain ⟨c0, c1, c2, c3, c4⟩ := cells5 HB9.out
  have f0 := Blk.frozen HB9.out 0
  have f1 := Blk.frozen HB9.out 1
  have f2 := Blk.frozen HB9.out 2
  have f3 := Blk.frozen HB9.out 3
  have f4 := Blk.frozen HB9.out 4
  go_wp2_with fail
  obtain ⟨d0, d1, d2, d3, d4⟩ := cells5 (set5_blk (t := nulT) (A := none) (c := 0) HB9.out)
  clear c0 c1 c2 c3 c4 f0 f1 f2 f3 f4
  show bodyPost _ _ _ _ _ (set5 w9 w.heap.size nulT none 0)
  refine bodyPost_ret (v := itemV nulT none 0) (by simp [results, Tryz.results31, go_sem, d0, d1, d2, d3, d4]) rfl ?_
  rw [HF.out]
  exact IPost.store hg.out ((K3.out.ext).of_ext) (Blk.lt K3.out.ret) HM9.out HP9.out (fun h => by cases h)

set_option maxRecDepth 20000 in
set_option maxHeartbeats 1600000 in
theorem pitem_noK (g : Nat) (l : List UInt8) (p : Nat) (hp : Hid (p ≤ l.length ∧ l.length ≤ 1073741824)) (d sz m n : Nat) (o : Bool) (hm : Hid (m = 1 ∨ m = 5 ∨ m = 6 ∨ m = 7)) (hr : Hid (readH (l.drop p) = some (sz, m, n, o))) (w : World) (h : PAt w g l p 0) :
    Calls Tryz.prog 31 #[.pointer (some ⟨g, 0, none⟩), .int .i64 (d : Int)] w (IPost g l p (flt d (l.drop p)) d w) := by
  have HF := hid (flt_noK (d := d) hr.out (by rcases hm.out with rfl | rfl | rfl | rfl <;> rfl))
  have hrk : Hid (RS.ok (RS.new (l.drop p))) := RS.new_ok (by have := hp.out; rw [List.length_drop]; omega)
  have hg : Hid (g < w.heap.size) := Blk.lt h
  have hgB : Hid (w.heap.size ≠ g) := by have := hg.out; unfold Hid; omega
  have H0 := hid (Blk.alloc h (.cells (itemC nulT none 0) 52))
  clear h
  go_enter Tryz.func31, Tryz.ntmps31
  go_wp2_with fail
  refine (preader_any g l p 0 hp _ H0.out).mono ?_
  rintro x w1 ⟨rfl, hb1, hr1⟩
  have P1 := hid (H0.out.ext hb1)
  have B1 := hid ((Blk.new w 52 (itemC nulT none 0)).ext hb1)
  have HE1 := hid (((Mod.refl [] w).alloc (.cells (itemC nulT none 0) 52)).trans hb1)
  have hR1 : RdAt w1 (w.heap.size + 1) (RS.new (l.drop p)) := by simpa using hr1
  have HR1 := hid hR1
  clear hr1 hR1 hb1 H0
  go_wp2_with fail
  refine (Head_any_r _ _ hrk.out _ HR1.out).mono ?_
  rintro x w2 ⟨rfl, hm2, hr2⟩
  have K2 : Hid (IH1 w g l p w2 (w.heap.size + 1)) := ⟨Mod.new (S := [w.heap.size + 1]) (HE1.out.of_ext.trans hm2) (fun k hk => by rw [List.mem_singleton] at hk; subst hk; exact .inr (by omega)), Blk.mod P1.out hm2 (by have := hg.out; simp; omega), B1.out.mod hm2 (by simp), hr2, by omega⟩
  clear P1 B1 HE1 HR1 hm2 hr2
  go_wp2_with fail
  refine (Bad_any _ _ _ K2.out.rd).mono ?_
  rintro x w3 ⟨rfl, hb3⟩
  have K3 : Hid (IH1 w g l p w3 (w.heap.size + 1)) := ⟨K2.out.ext.trans hb3, K2.out.pa.ext hb3, K2.out.ret.ext hb3, Blk.ext K2.out.rd hb3, by omega⟩
  clear K2 hb3
  have p1 : w3.cell? ⟨g, 1, none⟩ = some (.int .i64 (p : Int)) := PAt.at_ K3.out.pa
  have HH := hid (RS.Head_some (r := RS.new (l.drop p)) rfl hr.out)
  rw [HH.out]
  dsimp only
  rcases hm.out with rfl | rfl | rfl | rfl
  · go_wp2_with fail
    refine (pfail_any g l p p 2 _ K3.out.pa).mono ?_
    rintro x w9 ⟨rfl, hm9, hp9⟩
    have HB9 := hid (Blk.mod K3.out.ret hm9 (by simpa using hgB.out))
    have HM9 := hid hm9; have HP9 := hid hp9
    clear hm9 hp9
    obtain ⟨c0, c1, c2, c3, c4⟩ := cells5 HB9.out
    have f0 := Blk.frozen HB9.out 0
    have f1 := Blk.frozen HB9.out 1
    have f2 := Blk.frozen HB9.out 2
    have f3 := Blk.frozen HB9.out 3
    have f4 := Blk.frozen HB9.out 4
    go_wp2_with fail
    obtain ⟨d0, d1, d2, d3, d4⟩ := cells5 (set5_blk (t := nulT) (A := none) (c := 0) HB9.out)
    clear c0 c1 c2 c3 c4 f0 f1 f2 f3 f4
    show bodyPost _ _ _ _ _ (set5 w9 w.heap.size nulT none 0)
    refine bodyPost_ret (v := itemV nulT none 0) (by simp [results, Tryz.results31, go_sem, d0, d1, d2, d3, d4]) rfl ?_
    rw [HF.out]
    exact IPost.store hg.out ((K3.out.ext).of_ext) (Blk.lt K3.out.ret) HM9.out HP9.out (fun h => by cases h)
  · go_wp2_with fail
    refine (pfail_any g l p p 2 _ K3.out.pa).mono ?_
    rintro x w9 ⟨rfl, hm9, hp9⟩
    have HB9 := hid (Blk.mod K3.out.ret hm9 (by simpa using hgB.out))
    have HM9 := hid hm9; have HP9 := hid hp9
    clear hm9 hp9
    obtain ⟨c0, c1, c2, c3, c4⟩ := cells5 HB9.out
    have f0 := Blk.frozen HB9.out 0
    have f1 := Blk.frozen HB9.out 1
    have f2 := Blk.frozen HB9.out 2
    have f3 := Blk.frozen HB9.out 3
    have f4 := Blk.frozen HB9.out 4
    go_wp2_with fail
    obtain ⟨d0, d1, d2, d3, d4⟩ := cells5 (set5_blk (t := nulT) (A := none) (c := 0) HB9.out)
    clear c0 c1 c2 c3 c4 f0 f1 f2 f3 f4
    show bodyPost _ _ _ _ _ (set5 w9 w.heap.size nulT none 0)
    refine bodyPost_ret (v := itemV nulT none 0) (by simp [results, Tryz.results31, go_sem, d0, d1, d2, d3, d4]) rfl ?_
    rw [HF.out]
    exact IPost.store hg.out ((K3.out.ext).of_ext) (Blk.lt K3.out.ret) HM9.out HP9.out (fun h => by cases h)
  · go_wp2_with fail
    refine (pfail_any g l p p 2 _ K3.out.pa).mono ?_
    rintro x w9 ⟨rfl, hm9, hp9⟩
    have HB9 := hid (Blk.mod K3.out.ret hm9 (by simpa using hgB.out))
    have HM9 := hid hm9; have HP9 := hid hp9
    clear hm9 hp9
    obtain ⟨c0, c1, c2, c3, c4⟩ := cells5 HB9.out
    have f0 := Blk.frozen HB9.out 0
    have f1 := Blk.frozen HB9.out 1
    have f2 := Blk.frozen HB9.out 2
    have f3 := Blk.frozen HB9.out 3
    have f4 := Blk.frozen HB9.out 4
    go_wp2_with fail
    obtain ⟨d0, d1, d2, d3, d4⟩ := cells5 (set5_blk (t := nulT) (A := none) (c := 0) HB9.out)
    clear c0 c1 c2 c3 c4 f0 f1 f2 f3 f4
    show bodyPost _ _ _ _ _ (set5 w9 w.heap.size nulT none 0)
    refine bodyPost_ret (v := itemV nulT none 0) (by simp [results, Tryz.results31, go_sem, d0, d1, d2, d3, d4]) rfl ?_
    rw [HF.out]
    exact IPost.store hg.out ((K3.out.ext).of_ext) (Blk.lt K3.out.ret) HM9.out HP9.out (fun h => by cases h)
  · go_wp2_with fail
    refine (pfail_any g l p p 2 _ K3.out.pa).mono ?_
    rintro x w9 ⟨rfl, hm9, hp9⟩
    have HB9 := hid (Blk.mod K3.out.ret hm9 (by simpa using hgB.out))
    have HM9 := hid hm9; have HP9 := hid hp9
    clear hm9 hp9
    obtain ⟨c0, c1, c2, c3, c4⟩ := cells5 HB9.out
    have f0 := Blk.frozen HB9.out 0
    have f1 := Blk.frozen HB9.out 1
    have f2 := Blk.frozen HB9.out 2
    have f3 := Blk.frozen HB9.out 3
    have f4 := Blk.frozen HB9.out 4
    go_wp2_with fail
    obtain ⟨d0, d1, d2, d3, d4⟩ := cells5 (set5_blk (t := nulT) (A := none) (c := 0) HB9.out)
    clear c0 c1 c2 c3 c4 f0 f1 f2 f3 f4
    show bodyPost _ _ _ _ _ (set5 w9 w.heap.size nulT none 0)
    refine bodyPost_ret (v := itemV nulT none 0) (by simp [results, Tryz.results31, go_sem, d0, d1, d2, d3, d4]) rfl ?_
    rw [HF.out]
    exact IPost.store hg.out ((K3.out.ext).of_ext) (Blk.lt K3.out.ret) HM9.out HP9.out (fun h => by cases h)

set_option maxRecDepth 20000 in
set_option maxHeartbeats 1600000 in
theorem pitem_deep (g : Nat) (l : List UInt8) (p : Nat) (hp : Hid (p ≤ l.length ∧ l.length ≤ 1073741824)) (sz m n : Nat) (o : Bool) (hm : Hid (m = 0 ∨ m = 2 ∨ m = 3 ∨ m = 4)) (hr : Hid (readH (l.drop p) = some (sz, m, n, o))) (w : World) (h : PAt w g l p 0) :
    Calls Tryz.prog 31 #[.pointer (some ⟨g, 0, none⟩), .int .i64 0] w (IPost g l p (flt 0 (l.drop p)) 0 w) := by
  have HF := hid (flt_deep hr.out (by rcases hm.out with rfl | rfl | rfl | rfl <;> rfl))
  have hrk : Hid (RS.ok (RS.new (l.drop p))) := RS.new_ok (by have := hp.out; rw [List.length_drop]; omega)
  have hg : Hid (g < w.heap.size) := Blk.lt h
  have hgB : Hid (w.heap.size ≠ g) := by have := hg.out; unfold Hid; omega
  have H0 := hid (Blk.alloc h (.cells (itemC nulT none 0) 52))
  clear h
  go_enter Tryz.func31, Tryz.ntmps31
  go_wp2_with fail
  refine (preader_any g l p 0 hp _ H0.out).mono ?_
  rintro x w1 ⟨rfl, hb1, hr1⟩
  have P1 := hid (H0.out.ext hb1)
  have B1 := hid ((Blk.new w 52 (itemC nulT none 0)).ext hb1)
  have HE1 := hid (((Mod.refl [] w).alloc (.cells (itemC nulT none 0) 52)).trans hb1)
  have hR1 : RdAt w1 (w.heap.size + 1) (RS.new (l.drop p)) := by simpa using hr1
  have HR1 := hid hR1
  clear hr1 hR1 hb1 H0
  go_wp2_with fail
  refine (Head_any_r _ _ hrk.out _ HR1.out).mono ?_
  rintro x w2 ⟨rfl, hm2, hr2⟩
  have K2 : Hid (IH1 w g l p w2 (w.heap.size + 1)) := ⟨Mod.new (S := [w.heap.size + 1]) (HE1.out.of_ext.trans hm2) (fun k hk => by rw [List.mem_singleton] at hk; subst hk; exact .inr (by omega)), Blk.mod P1.out hm2 (by have := hg.out; simp; omega), B1.out.mod hm2 (by simp), hr2, by omega⟩
  clear P1 B1 HE1 HR1 hm2 hr2
  go_wp2_with fail
  refine (Bad_any _ _ _ K2.out.rd).mono ?_
  rintro x w3 ⟨rfl, hb3⟩
  have K3 : Hid (IH1 w g l p w3 (w.heap.size + 1)) := ⟨K2.out.ext.trans hb3, K2.out.pa.ext hb3, K2.out.ret.ext hb3, Blk.ext K2.out.rd hb3, by omega⟩
  clear K2 hb3
  have p1 : w3.cell? ⟨g, 1, none⟩ = some (.int .i64 (p : Int)) := PAt.at_ K3.out.pa
  have HH := hid (RS.Head_some (r := RS.new (l.drop p)) rfl hr.out)
  rw [HH.out]
  dsimp only
  rcases hm.out with rfl | rfl | rfl | rfl
  · go_wp2_with fail
    refine (pfail_any g l p p 3 _ K3.out.pa).mono ?_
    rintro x w9 ⟨rfl, hm9, hp9⟩
    have HB9 := hid (Blk.mod K3.out.ret hm9 (by simpa using hgB.out))
    have HM9 := hid hm9; have HP9 := hid hp9
    clear hm9 hp9
    obtain ⟨c0, c1, c2, c3, c4⟩ := cells5 HB9.out
    have f0 := Blk.frozen HB9.out 0
    have f1 := Blk.frozen HB9.out 1
    have f2 := Blk.frozen HB9.out 2
    have f3 := Blk.frozen HB9.out 3
    have f4 := Blk.frozen HB9.out 4
    go_wp2_with fail
    obtain ⟨d0, d1, d2, d3, d4⟩ := cells5 (set5_blk (t := nulT) (A := none) (c := 0) HB9.out)
    clear c0 c1 c2 c3 c4 f0 f1 f2 f3 f4
    show bodyPost _ _ _ _ _ (set5 w9 w.heap.size nulT none 0)
    refine bodyPost_ret (v := itemV nulT none 0) (by simp [results, Tryz.results31, go_sem, d0, d1, d2, d3, d4]) rfl ?_
    rw [HF.out]
    exact IPost.store hg.out ((K3.out.ext).of_ext) (Blk.lt K3.out.ret) HM9.out HP9.out (fun h => by cases h)
  · go_wp2_with fail
    refine (pfail_any g l p p 3 _ K3.out.pa).mono ?_
    rintro x w9 ⟨rfl, hm9, hp9⟩
    have HB9 := hid (Blk.mod K3.out.ret hm9 (by simpa using hgB.out))
    have HM9 := hid hm9; have HP9 := hid hp9
    clear hm9 hp9
    obtain ⟨c0, c1, c2, c3, c4⟩ := cells5 HB9.out
    have f0 := Blk.frozen HB9.out 0
    have f1 := Blk.frozen HB9.out 1
    have f2 := Blk.frozen HB9.out 2
    have f3 := Blk.frozen HB9.out 3
    have f4 := Blk.frozen HB9.out 4
    go_wp2_with fail
    obtain ⟨d0, d1, d2, d3, d4⟩ := cells5 (set5_blk (t := nulT) (A := none) (c := 0) HB9.out)
    clear c0 c1 c2 c3 c4 f0 f1 f2 f3 f4
    show bodyPost _ _ _ _ _ (set5 w9 w.heap.size nulT none 0)
    refine bodyPost_ret (v := itemV nulT none 0) (by simp [results, Tryz.results31, go_sem, d0, d1, d2, d3, d4]) rfl ?_
    rw [HF.out]
    exact IPost.store hg.out ((K3.out.ext).of_ext) (Blk.lt K3.out.ret) HM9.out HP9.out (fun h => by cases h)
  · go_wp2_with fail
    refine (pfail_any g l p p 3 _ K3.out.pa).mono ?_
    rintro x w9 ⟨rfl, hm9, hp9⟩
    have HB9 := hid (Blk.mod K3.out.ret hm9 (by simpa using hgB.out))
    have HM9 := hid hm9; have HP9 := hid hp9
    clear hm9 hp9
    obtain ⟨c0, c1, c2, c3, c4⟩ := cells5 HB9.out
    have f0 := Blk.frozen HB9.out 0
    have f1 := Blk.frozen HB9.out 1
    have f2 := Blk.frozen HB9.out 2
    have f3 := Blk.frozen HB9.out 3
    have f4 := Blk.frozen HB9.out 4
    go_wp2_with fail
    obtain ⟨d0, d1, d2, d3, d4⟩ := cells5 (set5_blk (t := nulT) (A := none) (c := 0) HB9.out)
    clear c0 c1 c2 c3 c4 f0 f1 f2 f3 f4
    show bodyPost _ _ _ _ _ (set5 w9 w.heap.size nulT none 0)
    refine bodyPost_ret (v := itemV nulT none 0) (by simp [results, Tryz.results31, go_sem, d0, d1, d2, d3, d4]) rfl ?_
    rw [HF.out]
    exact IPost.store hg.out ((K3.out.ext).of_ext) (Blk.lt K3.out.ret) HM9.out HP9.out (fun h => by cases h)
  · go_wp2_with fail
    refine (pfail_any g l p p 3 _ K3.out.pa).mono ?_
    rintro x w9 ⟨rfl, hm9, hp9⟩
    have HB9 := hid (Blk.mod K3.out.ret hm9 (by simpa using hgB.out))
    have HM9 := hid hm9; have HP9 := hid hp9
    clear hm9 hp9
    obtain ⟨c0, c1, c2, c3, c4⟩ := cells5 HB9.out
    have f0 := Blk.frozen HB9.out 0
    have f1 := Blk.frozen HB9.out 1
    have f2 := Blk.frozen HB9.out 2
    have f3 := Blk.frozen HB9.out 3
    have f4 := Blk.frozen HB9.out 4
    go_wp2_with fail
    obtain ⟨d0, d1, d2, d3, d4⟩ := cells5 (set5_blk (t := nulT) (A := none) (c := 0) HB9.out)
    clear c0 c1 c2 c3 c4 f0 f1 f2 f3 f4
    show bodyPost _ _ _ _ _ (set5 w9 w.heap.size nulT none 0)
    refine bodyPost_ret (v := itemV nulT none 0) (by simp [results, Tryz.results31, go_sem, d0, d1, d2, d3, d4]) rfl ?_
    rw [HF.out]
    exact IPost.store hg.out ((K3.out.ext).of_ext) (Blk.lt K3.out.ret) HM9.out HP9.out (fun h => by cases h)

set_option maxRecDepth 20000 in
set_option maxHeartbeats 1600000 in
theorem pitem_str (g : Nat) (l : List UInt8) (p : Nat) (hp : Hid (p ≤ l.length ∧ l.length ≤ 1073741824)) (d sz m n : Nat) (o : Bool) (hm : Hid (m = 2 ∨ m = 3)) (hr : Hid (readH (l.drop p) = some (sz, m, n, o))) (w : World) (h : PAt w g l p 0) :
    Calls Tryz.prog 31 #[.pointer (some ⟨g, 0, none⟩), .int .i64 ((d : Int) + 1)] w (IPost g l p (flt (d + 1) (l.drop p)) (d + 1) w) := by
  have HF := hid (flt_str (d := d) hr.out hm.out)
  have hrk : Hid (RS.ok (RS.new (l.drop p))) := RS.new_ok (by have := hp.out; rw [List.length_drop]; omega)
  have hg : Hid (g < w.heap.size) := Blk.lt h
  have hgB : Hid (w.heap.size ≠ g) := by have := hg.out; unfold Hid; omega
  have H0 := hid (Blk.alloc h (.cells (itemC nulT none 0) 52))
  clear h
  go_enter Tryz.func31, Tryz.ntmps31
  go_wp2_with fail
  refine (preader_any g l p 0 hp _ H0.out).mono ?_
  rintro x w1 ⟨rfl, hb1, hr1⟩
  have P1 := hid (H0.out.ext hb1)
  have B1 := hid ((Blk.new w 52 (itemC nulT none 0)).ext hb1)
  have HE1 := hid (((Mod.refl [] w).alloc (.cells (itemC nulT none 0) 52)).trans hb1)
  have hR1 : RdAt w1 (w.heap.size + 1) (RS.new (l.drop p)) := by simpa using hr1
  have HR1 := hid hR1
  clear hr1 hR1 hb1 H0
  go_wp2_with fail
  refine (Head_any_r _ _ hrk.out _ HR1.out).mono ?_
  rintro x w2 ⟨rfl, hm2, hr2⟩
  have K2 : Hid (IH1 w g l p w2 (w.heap.size + 1)) := ⟨Mod.new (S := [w.heap.size + 1]) (HE1.out.of_ext.trans hm2) (fun k hk => by rw [List.mem_singleton] at hk; subst hk; exact .inr (by omega)), Blk.mod P1.out hm2 (by have := hg.out; simp; omega), B1.out.mod hm2 (by simp), hr2, by omega⟩
  clear P1 B1 HE1 HR1 hm2 hr2
  go_wp2_with fail
  refine (Bad_any _ _ _ K2.out.rd).mono ?_
  rintro x w3 ⟨rfl, hb3⟩
  have K3 : Hid (IH1 w g l p w3 (w.heap.size + 1)) := ⟨K2.out.ext.trans hb3, K2.out.pa.ext hb3, K2.out.ret.ext hb3, Blk.ext K2.out.rd hb3, by omega⟩
  clear K2 hb3
  have p1 : w3.cell? ⟨g, 1, none⟩ = some (.int .i64 (p : Int)) := PAt.at_ K3.out.pa
  have HH := hid (RS.Head_some (r := RS.new (l.drop p)) rfl hr.out)
  rw [HH.out]
  dsimp only
  have td : decide ((d : Int) + 1 < 1) = false := by simp; omega
  have td2 : ((d : Int) + 1 < 1) = False := by simp; omega
  rcases hm.out with rfl | rfl
  · go_wp2_with fail
    refine (pstr_any 2 (by first | exact .inl rfl | exact .inr rfl) g l p hp d sz n o hr _ K3.out.pa).mono ?_
    rintro x w9 ⟨t, A, c, rfl, hm9, hp9, hs9⟩
    have HB9 := hid (Blk.mod K3.out.ret hm9 (by simpa using hgB.out))
    have HM9 := hid hm9; have HP9 := hid hp9; have HS9 := hid hs9
    clear hm9 hp9 hs9
    obtain ⟨c0, c1, c2, c3, c4⟩ := cells5 HB9.out
    have f0 := Blk.frozen HB9.out 0
    have f1 := Blk.frozen HB9.out 1
    have f2 := Blk.frozen HB9.out 2
    have f3 := Blk.frozen HB9.out 3
    have f4 := Blk.frozen HB9.out 4
    go_wp2_with fail
    obtain ⟨d0, d1, d2, d3, d4⟩ := cells5 (set5_blk (t := t) (A := A) (c := c) HB9.out)
    clear c0 c1 c2 c3 c4 f0 f1 f2 f3 f4
    show bodyPost _ _ _ _ _ (set5 w9 w.heap.size t A c)
    refine bodyPost_ret (v := itemV t A c) (by simp [results, Tryz.results31, go_sem, d0, d1, d2, d3, d4]) rfl ?_
    rw [HF.out]
    exact IPost.store hg.out (K3.out.ext.of_ext) (Blk.lt K3.out.ret) HM9.out HP9.out HS9.out
  · go_wp2_with fail
    refine (pstr_any 3 (by first | exact .inl rfl | exact .inr rfl) g l p hp d sz n o hr _ K3.out.pa).mono ?_
    rintro x w9 ⟨t, A, c, rfl, hm9, hp9, hs9⟩
    have HB9 := hid (Blk.mod K3.out.ret hm9 (by simpa using hgB.out))
    have HM9 := hid hm9; have HP9 := hid hp9; have HS9 := hid hs9
    clear hm9 hp9 hs9
    obtain ⟨c0, c1, c2, c3, c4⟩ := cells5 HB9.out
    have f0 := Blk.frozen HB9.out 0
    have f1 := Blk.frozen HB9.out 1
    have f2 := Blk.frozen HB9.out 2
    have f3 := Blk.frozen HB9.out 3
    have f4 := Blk.frozen HB9.out 4
    go_wp2_with fail
    obtain ⟨d0, d1, d2, d3, d4⟩ := cells5 (set5_blk (t := t) (A := A) (c := c) HB9.out)
    clear c0 c1 c2 c3 c4 f0 f1 f2 f3 f4
    show bodyPost _ _ _ _ _ (set5 w9 w.heap.size t A c)
    refine bodyPost_ret (v := itemV t A c) (by simp [results, Tryz.results31, go_sem, d0, d1, d2, d3, d4]) rfl ?_
    rw [HF.out]
    exact IPost.store hg.out (K3.out.ext.of_ext) (Blk.lt K3.out.ret) HM9.out HP9.out HS9.out

theorem newhead {L : List UInt8} {sz m n : Nat} {o : Bool} (h : readH L = some (sz, m, n, o)) : (RS.new L).Head = (⟨L, sz, -1, 0, 0⟩, m, n, o) := by
  rw [RS.Head_some (r := RS.new L) rfl h]; simp [RS.new]
theorem numT_good {l : List UInt8} {p sz n d : Nat} {o : Bool} (h : readH (l.drop p) = some (sz, 0, n, o)) : ((numT n).right (d + 1) = true ∧ (numT n).ok) ∧ (numT n).bytes ++ l.drop (p + sz) = l.drop p := by
  have hs := readH_some h
  have ho : o = false := by
    cases o with
    | false => rfl
    | true => have := (hs.opened rfl).2.2.1; revert this; decide
  subst ho
  refine ⟨⟨?_, ?_⟩, ?_⟩
  · unfold numT T.right T.node; simp [T.all]
  · unfold numT T.ok; exact ⟨by omega, hs.n64, by simp, by omega, fun i hi => by omega⟩
  · have e : (numT n).bytes = headL 0 n := rfl
    rw [e, ← (hs.closed rfl).1, ← List.drop_drop, List.take_append_drop]

set_option maxRecDepth 20000 in
set_option maxHeartbeats 1600000 in
theorem pitem_num (g : Nat) (l : List UInt8) (p : Nat) (hp : Hid (p ≤ l.length ∧ l.length ≤ 1073741824)) (d sz n : Nat) (o : Bool) (hr : Hid (readH (l.drop p) = some (sz, 0, n, o))) (w : World) (h : PAt w g l p 0) :
    Calls Tryz.prog 31 #[.pointer (some ⟨g, 0, none⟩), .int .i64 ((d : Int) + 1)] w (IPost g l p (flt (d + 1) (l.drop p)) (d + 1) w) := by
  have HF := hid (flt_num (d := d) hr.out)
  have hsz : Hid (sz ≤ 1073741824) := by have h1 := (readH_some hr.out).le; have h2 := hp.out; rw [List.length_drop] at h1; unfold Hid; omega
  have hrk : Hid (RS.ok (RS.new (l.drop p))) := RS.new_ok (by have := hp.out; rw [List.length_drop]; omega)
  have hg : Hid (g < w.heap.size) := Blk.lt h
  have hgB : Hid (w.heap.size ≠ g) := by have := hg.out; unfold Hid; omega
  have H0 := hid (Blk.alloc h (.cells (itemC nulT none 0) 52))
  clear h
  go_enter Tryz.func31, Tryz.ntmps31
  go_wp2_with fail
  refine (preader_any g l p 0 hp _ H0.out).mono ?_
  rintro x w1 ⟨rfl, hb1, hr1⟩
  have P1 := hid (H0.out.ext hb1)
  have B1 := hid ((Blk.new w 52 (itemC nulT none 0)).ext hb1)
  have HE1 := hid (((Mod.refl [] w).alloc (.cells (itemC nulT none 0) 52)).trans hb1)
  have hR1 : RdAt w1 (w.heap.size + 1) (RS.new (l.drop p)) := by simpa using hr1
  have HR1 := hid hR1
  clear hr1 hR1 hb1 H0
  go_wp2_with fail
  refine (Head_any_r _ _ hrk.out _ HR1.out).mono ?_
  rintro x w2 ⟨rfl, hm2, hr2⟩
  have K2 : Hid (IH1 w g l p w2 (w.heap.size + 1)) := ⟨Mod.new (S := [w.heap.size + 1]) (HE1.out.of_ext.trans hm2) (fun k hk => by rw [List.mem_singleton] at hk; subst hk; exact .inr (by omega)), Blk.mod P1.out hm2 (by have := hg.out; simp; omega), B1.out.mod hm2 (by simp), hr2, by omega⟩
  clear P1 B1 HE1 HR1 hm2 hr2
  go_wp2_with fail
  refine (Bad_any _ _ _ K2.out.rd).mono ?_
  rintro x w3 ⟨rfl, hb3⟩
  have K3 : Hid (IH1 w g l p w3 (w.heap.size + 1)) := ⟨K2.out.ext.trans hb3, K2.out.pa.ext hb3, K2.out.ret.ext hb3, Blk.ext K2.out.rd hb3, by omega⟩
  clear K2 hb3
  have p1 : w3.cell? ⟨g, 1, none⟩ = some (.int .i64 (p : Int)) := PAt.at_ K3.out.pa
  have HH := hid (newhead hr.out)
  have HR3 : Hid (RdAt w3 (w.heap.size + 1) ⟨l.drop p, sz, -1, 0, 0⟩) := by have := K3.out.rd; rw [HH.out] at this; exact this
  rw [HH.out]
  dsimp only
  clear p1
  have td : decide ((d : Int) + 1 < 1) = false := by simp; omega
  have td2 : ((d : Int) + 1 < 1) = False := by simp; omega
  have q1 : w3.cell? ⟨g, 1, none⟩ = some (.int .i64 (p : Int)) := PAt.at_ K3.out.pa
  have z1 : w3.frozen? ⟨g, 1, none⟩ = false := PAt.froz K3.out.pa 1
  have tw : IntKind.i64.wrap ((p : Int) + (sz : Int)) = (p : Int) + (sz : Int) := IntWalk.i64_in _ (by have := hp.out; have := hsz.out; omega)
  have HP9 : Hid (Mod [g] w3 (w3.setCell ⟨g, 1, none⟩ (.int .i64 ((p : Int) + (sz : Int)))) ∧ PAt (w3.setCell ⟨g, 1, none⟩ (.int .i64 ((p : Int) + (sz : Int)))) g l (p + sz) 0 ∧ Blk (w3.setCell ⟨g, 1, none⟩ (.int .i64 ((p : Int) + (sz : Int)))) w.heap.size 52 (itemC nulT none 0)) := by
    refine ⟨(Mod.refl _ _).setCell (.inl (by simp)) _, ?_, Blk.far K3.out.ret (by simpa using hgB.out) _⟩
    have := Blk.set_ K3.out.pa 1 (.int .i64 ((p + sz : Nat) : Int))
    simpa [PAt] using this
  go_upto_region 11 with fail
  go_cut [] (fun wx => Hid (Mod [g] w3 wx ∧ PAt wx g l (p + sz) 0 ∧ Blk wx w.heap.size 52 (itemC nulT none 0)))
  case first =>
    go_region_with ((go_at_call 56; refine (At_any (w.heap.size + 1) ⟨l.drop p, sz, -1, 0, 0⟩ _ ?_).mono ?_; (first | exact HR3.out | exact Blk.drew HR3.out | exact Blk.drew (Blk.drew HR3.out)); rintro x w' ⟨rfl, rfl⟩))
    all_goals go_wp2_with fail
    all_goals go_meet
    all_goals exact ⟨by first | exact HP9.out.1 | exact HP9.out.1.drew, HP9.out.2⟩
  clear q1 z1 tw HP9
  have hc2 := hid hcut.out
  clear hcut
  go_wp2_with fail
  refine (Num_any n _).mono ?_
  rintro x w9 ⟨rfl, hb9⟩
  have HB9 := hid (hc2.out.2.2.ext hb9)
  have HM9 := hid (hc2.out.1.trans hb9.of_ext)
  have HP9 := hid (Blk.ext hc2.out.2.1 hb9)
  clear hb9
  have HG := hid (numT_good (d := d) hr.out)
  have HLs : Hid (∀ W Q, IsC W Q (numT n) none 0) := fun W Q => IsC.leaf
  generalize numT n = t at *
  obtain ⟨c0, c1, c2, c3, c4⟩ := cells5 HB9.out
  have f0 := Blk.frozen HB9.out 0
  have f1 := Blk.frozen HB9.out 1
  have f2 := Blk.frozen HB9.out 2
  have f3 := Blk.frozen HB9.out 3
  have f4 := Blk.frozen HB9.out 4
  go_wp2_with fail
  obtain ⟨d0, d1, d2, d3, d4⟩ := cells5 (set5_blk (t := t) (A := none) (c := 0) HB9.out)
  clear c0 c1 c2 c3 c4 f0 f1 f2 f3 f4
  show bodyPost _ _ _ _ _ (set5 w9 w.heap.size t none 0)
  refine bodyPost_ret (v := itemV t none 0) (by simp [results, Tryz.results31, go_sem, d0, d1, d2, d3, d4]) rfl ?_
  rw [HF.out]
  exact IPost.store hg.out (K3.out.ext.of_ext) (Blk.lt K3.out.ret) HM9.out HP9.out (fun _ => ⟨HG.out.1, HG.out.2, HLs.out _ _⟩)

set_option maxRecDepth 20000 in
set_option maxHeartbeats 1600000 in
theorem pitem_long (g : Nat) (l : List UInt8) (p : Nat) (hp : Hid (p ≤ l.length ∧ l.length ≤ 1073741824)) (d sz n : Nat) (hn : Hid (1000 < n)) (hr : Hid (readH (l.drop p) = some (sz, 4, n, false))) (w : World) (h : PAt w g l p 0) :
    Calls Tryz.prog 31 #[.pointer (some ⟨g, 0, none⟩), .int .i64 ((d : Int) + 1)] w (IPost g l p (flt (d + 1) (l.drop p)) (d + 1) w) := by
  have HF := hid (flt_long (d := d) hr.out hn.out)
  have hrk : Hid (RS.ok (RS.new (l.drop p))) := RS.new_ok (by have := hp.out; rw [List.length_drop]; omega)
  have hg : Hid (g < w.heap.size) := Blk.lt h
  have hgB : Hid (w.heap.size ≠ g) := by have := hg.out; unfold Hid; omega
  have H0 := hid (Blk.alloc h (.cells (itemC nulT none 0) 52))
  clear h
  go_enter Tryz.func31, Tryz.ntmps31
  go_wp2_with fail
  refine (preader_any g l p 0 hp _ H0.out).mono ?_
  rintro x w1 ⟨rfl, hb1, hr1⟩
  have P1 := hid (H0.out.ext hb1)
  have B1 := hid ((Blk.new w 52 (itemC nulT none 0)).ext hb1)
  have HE1 := hid (((Mod.refl [] w).alloc (.cells (itemC nulT none 0) 52)).trans hb1)
  have hR1 : RdAt w1 (w.heap.size + 1) (RS.new (l.drop p)) := by simpa using hr1
  have HR1 := hid hR1
  clear hr1 hR1 hb1 H0
  go_wp2_with fail
  refine (Head_any_r _ _ hrk.out _ HR1.out).mono ?_
  rintro x w2 ⟨rfl, hm2, hr2⟩
  have K2 : Hid (IH1 w g l p w2 (w.heap.size + 1)) := ⟨Mod.new (S := [w.heap.size + 1]) (HE1.out.of_ext.trans hm2) (fun k hk => by rw [List.mem_singleton] at hk; subst hk; exact .inr (by omega)), Blk.mod P1.out hm2 (by have := hg.out; simp; omega), B1.out.mod hm2 (by simp), hr2, by omega⟩
  clear P1 B1 HE1 HR1 hm2 hr2
  go_wp2_with fail
  refine (Bad_any _ _ _ K2.out.rd).mono ?_
  rintro x w3 ⟨rfl, hb3⟩
  have K3 : Hid (IH1 w g l p w3 (w.heap.size + 1)) := ⟨K2.out.ext.trans hb3, K2.out.pa.ext hb3, K2.out.ret.ext hb3, Blk.ext K2.out.rd hb3, by omega⟩
  clear K2 hb3
  have p1 : w3.cell? ⟨g, 1, none⟩ = some (.int .i64 (p : Int)) := PAt.at_ K3.out.pa
  have HH := hid (newhead hr.out)
  rw [HH.out]
  dsimp only
  have td : decide ((d : Int) + 1 < 1) = false := by simp; omega
  have td2 : ((d : Int) + 1 < 1) = False := by simp; omega
  go_wp2_with fail
  refine (preader_any g l p 0 hp _ K3.out.pa).mono ?_
  rintro x w4 ⟨rfl, hb4, hr4⟩
  have P4 := hid (Blk.ext K3.out.pa hb4)
  have B4 := hid (K3.out.ret.ext hb4)
  have HR4 := hid hr4
  have HS4 := hid (Blk.lt K3.out.ret)
  have HS5 : Hid (w3.heap.size ≠ g ∧ w3.heap.size ≠ w.heap.size) := by have h1 := hg.out; have h2 := HS4.out; unfold Hid; omega
  have HE4 := hid (K3.out.ext.trans hb4)
  clear hb4 hr4 p1
  go_wp2_with fail
  refine (Array_any _ _ hrk.out _ HR4.out).mono ?_
  rintro x w5 ⟨rfl, hm5, hr5⟩
  have HA := hid (newarr_long hr.out hn.out)
  have P5 := hid (Blk.mod P4.out hm5 (by simpa using fun e => HS5.out.1 e.symm))
  have B5 := hid (B4.out.mod hm5 (by simpa using fun e => HS5.out.2 e.symm))
  have M5 : Hid (Ext w w5) := Mod.new (S := [w3.heap.size]) (HE4.out.of_ext.trans hm5) (fun k hk => by rw [List.mem_singleton] at hk; subst hk; exact .inr K3.out.ext.size)
  have HR5 := hid hr5
  clear hm5 hr5
  go_wp2_with fail
  refine (Bad_any _ _ _ HR5.out).mono ?_
  rintro x w6 ⟨rfl, hb6⟩
  rw [HA.out]
  have P6 := hid (Blk.ext P5.out hb6)
  have B6 := hid (B5.out.ext hb6)
  have M6 := hid (M5.out.trans hb6)
  have p1 : w6.cell? ⟨g, 1, none⟩ = some (.int .i64 (p : Int)) := PAt.at_ P6.out
  clear hb6
  go_wp2_with fail
  refine (pfail_any g l p p 4 _ P6.out).mono ?_
  rintro x w9 ⟨rfl, hm9, hp9⟩
  have HB9 := hid (Blk.mod B6.out hm9 (by simpa using hgB.out))
  have HM9 := hid hm9; have HP9 := hid hp9
  clear hm9 hp9
  obtain ⟨c0, c1, c2, c3, c4⟩ := cells5 HB9.out
  have f0 := Blk.frozen HB9.out 0
  have f1 := Blk.frozen HB9.out 1
  have f2 := Blk.frozen HB9.out 2
  have f3 := Blk.frozen HB9.out 3
  have f4 := Blk.frozen HB9.out 4
  go_wp2_with fail
  obtain ⟨d0, d1, d2, d3, d4⟩ := cells5 (set5_blk (t := nulT) (A := none) (c := 0) HB9.out)
  clear c0 c1 c2 c3 c4 f0 f1 f2 f3 f4
  show bodyPost _ _ _ _ _ (set5 w9 w.heap.size nulT none 0)
  refine bodyPost_ret (v := itemV nulT none 0) (by simp [results, Tryz.results31, go_sem, d0, d1, d2, d3, d4]) rfl ?_
  rw [HF.out]
  exact IPost.store hg.out ((M6.out).of_ext) (Blk.lt B6.out) HM9.out HP9.out (fun h => by cases h)

set_option maxRecDepth 20000 in
set_option maxHeartbeats 1600000 in
theorem pitem_arr_false (g : Nat) (l : List UInt8) (p : Nat) (hp : Hid (p ≤ l.length ∧ l.length ≤ 1073741824)) (d sz n : Nat) (hd : Hid (d ≤ 8)) (IH : Hid (∀ (p : Nat), p ≤ l.length → ∀ w, PAt w g l p 0 → Calls Tryz.prog 31 #[.pointer (some ⟨g, 0, none⟩), .int .i64 (d : Int)] w (IPost g l p (flt d (l.drop p)) d w))) (hn : Hid (¬ (false = false ∧ 1000 < n))) (hr : Hid (readH (l.drop p) = some (sz, 4, n, false))) (w : World) (h : PAt w g l p 0) :
    Calls Tryz.prog 31 #[.pointer (some ⟨g, 0, none⟩), .int .i64 ((d : Int) + 1)] w (IPost g l p (flt (d + 1) (l.drop p)) (d + 1) w) := by
  have HF := hid (flt_arr (d := d) hr.out hn.out)
  have HA := hid (newarr_ok hr.out hn.out)
  have HNN : Hid (false = false → n ≤ 1000) := by have := hn.out; unfold Hid; simp at this ⊢; try omega
  have hsz : Hid (sz ≤ 1073741824) := by have h1 := (readH_some hr.out).le; have h2 := hp.out; rw [List.length_drop] at h1; unfold Hid; omega
  have hrk : Hid (RS.ok (RS.new (l.drop p))) := RS.new_ok (by have := hp.out; rw [List.length_drop]; omega)
  have hg : Hid (g < w.heap.size) := Blk.lt h
  have hgB : Hid (w.heap.size ≠ g) := by have := hg.out; unfold Hid; omega
  have H0 := hid (Blk.alloc h (.cells (itemC nulT none 0) 52))
  clear h
  go_enter Tryz.func31, Tryz.ntmps31
  go_wp2_with fail
  refine (preader_any g l p 0 hp _ H0.out).mono ?_
  rintro x w1 ⟨rfl, hb1, hr1⟩
  have P1 := hid (H0.out.ext hb1)
  have B1 := hid ((Blk.new w 52 (itemC nulT none 0)).ext hb1)
  have HE1 := hid (((Mod.refl [] w).alloc (.cells (itemC nulT none 0) 52)).trans hb1)
  have hR1 : RdAt w1 (w.heap.size + 1) (RS.new (l.drop p)) := by simpa using hr1
  have HR1 := hid hR1
  clear hr1 hR1 hb1 H0
  go_wp2_with fail
  refine (Head_any_r _ _ hrk.out _ HR1.out).mono ?_
  rintro x w2 ⟨rfl, hm2, hr2⟩
  have K2 : Hid (IH1 w g l p w2 (w.heap.size + 1)) := ⟨Mod.new (S := [w.heap.size + 1]) (HE1.out.of_ext.trans hm2) (fun k hk => by rw [List.mem_singleton] at hk; subst hk; exact .inr (by omega)), Blk.mod P1.out hm2 (by have := hg.out; simp; omega), B1.out.mod hm2 (by simp), hr2, by omega⟩
  clear P1 B1 HE1 HR1 hm2 hr2
  go_wp2_with fail
  refine (Bad_any _ _ _ K2.out.rd).mono ?_
  rintro x w3 ⟨rfl, hb3⟩
  have K3 : Hid (IH1 w g l p w3 (w.heap.size + 1)) := ⟨K2.out.ext.trans hb3, K2.out.pa.ext hb3, K2.out.ret.ext hb3, Blk.ext K2.out.rd hb3, by omega⟩
  clear K2 hb3
  have p1 : w3.cell? ⟨g, 1, none⟩ = some (.int .i64 (p : Int)) := PAt.at_ K3.out.pa
  have HH := hid (newhead hr.out)
  rw [HH.out]
  dsimp only
  have td : decide ((d : Int) + 1 < 1) = false := by simp; omega
  have td2 : ((d : Int) + 1 < 1) = False := by simp; omega
  go_wp2_with fail
  refine (preader_any g l p 0 hp _ K3.out.pa).mono ?_
  rintro x w4 ⟨rfl, hb4, hr4⟩
  have P4 := hid (Blk.ext K3.out.pa hb4)
  have B4 := hid (K3.out.ret.ext hb4)
  have HR4 := hid hr4
  have HS4 := hid (Blk.lt K3.out.ret)
  have HS5 : Hid (w3.heap.size ≠ g ∧ w3.heap.size ≠ w.heap.size) := by have h1 := hg.out; have h2 := HS4.out; unfold Hid; omega
  have HE4 := hid (K3.out.ext.trans hb4)
  clear hb4 hr4 p1
  go_wp2_with fail
  refine (Array_any _ _ hrk.out _ HR4.out).mono ?_
  rintro x w5 ⟨rfl, hm5, hr5⟩
  rw [HA.out] at hr5 ⊢
  simp only [Bool.false_eq_true, if_false]
  have P5 := hid (Blk.mod P4.out hm5 (by simpa using fun e => HS5.out.1 e.symm))
  have B5 := hid (B4.out.mod hm5 (by simpa using fun e => HS5.out.2 e.symm))
  have M5 : Hid (Ext w w5) := Mod.new (S := [w3.heap.size]) (HE4.out.of_ext.trans hm5) (fun k hk => by rw [List.mem_singleton] at hk; subst hk; exact .inr K3.out.ext.size)
  have HR5 := hid hr5
  clear hm5 hr5
  go_wp2_with fail
  refine (Bad_any _ _ _ HR5.out).mono ?_
  rintro x w6 ⟨rfl, hb6⟩
  have P6 := hid (Blk.ext P5.out hb6)
  have B6 := hid (B5.out.ext hb6)
  have M6 := hid (M5.out.trans hb6)
  have HR6 : Hid (RdAt w6 w3.heap.size ⟨l.drop p, sz, -1, 0, 0⟩) := Blk.ext HR5.out hb6
  clear hb6
  have q1 : w6.cell? ⟨g, 1, none⟩ = some (.int .i64 (p : Int)) := PAt.at_ P6.out
  have z1 : w6.frozen? ⟨g, 1, none⟩ = false := PAt.froz P6.out 1
  have tw : IntKind.i64.wrap ((p : Int) + (sz : Int)) = (p : Int) + (sz : Int) := IntWalk.i64_in _ (by have := hp.out; have := hsz.out; omega)
  have HP9 : Hid (Mod [g] w6 (w6.setCell ⟨g, 1, none⟩ (.int .i64 ((p : Int) + (sz : Int)))) ∧ PAt (w6.setCell ⟨g, 1, none⟩ (.int .i64 ((p : Int) + (sz : Int)))) g l (p + sz) 0 ∧ Blk (w6.setCell ⟨g, 1, none⟩ (.int .i64 ((p : Int) + (sz : Int)))) w.heap.size 52 (itemC nulT none 0)) := by
    refine ⟨(Mod.refl _ _).setCell (.inl (by simp)) _, ?_, Blk.far B6.out (by simpa using hgB.out) _⟩
    have := Blk.set_ P6.out 1 (.int .i64 ((p + sz : Nat) : Int))
    simpa [PAt] using this
  go_upto_region 20 with fail
  go_cut [] (fun wx => Hid (Mod [g] w6 wx ∧ PAt wx g l (p + sz) 0 ∧ Blk wx w.heap.size 52 (itemC nulT none 0)))
  case first =>
    go_region_with ((go_at_call 56; refine (At_any w3.heap.size ⟨l.drop p, sz, -1, 0, 0⟩ _ ?_).mono ?_; (first | exact HR6.out | exact Blk.drew HR6.out | exact Blk.drew (Blk.drew HR6.out)); rintro x w' ⟨rfl, rfl⟩))
    all_goals go_wp2_with fail
    all_goals go_meet
    all_goals exact ⟨by first | exact HP9.out.1 | exact HP9.out.1.drew, HP9.out.2⟩
  clear q1 z1 tw HP9
  have hc2 := hid hcut.out
  clear hcut
  go_wp2_with fail
  refine (plist_any d hd g l (show Hid _ from hp.out.2) IH p sz n false (n : Int) (by unfold Hid; simp) hr (by unfold Hid; first | exact HNN.out | (have := HNN.out; simpa using this) | simp) (by have h1 := (readH_some hr.out).le; have h2 := hp.out; rw [List.length_drop] at h1; unfold Hid; omega) _ hc2.out.2.1).mono ?_
  rintro x w9 ⟨t, A, c, rfl, hm9, hp9, hs9⟩
  have HB9 := hid (Blk.mod hc2.out.2.2 hm9 (by simpa using hgB.out))
  have HM9 := hid hm9; have HP9 := hid hp9; have HS9 := hid hs9
  clear hm9 hp9 hs9
  obtain ⟨c0, c1, c2, c3, c4⟩ := cells5 HB9.out
  have f0 := Blk.frozen HB9.out 0
  have f1 := Blk.frozen HB9.out 1
  have f2 := Blk.frozen HB9.out 2
  have f3 := Blk.frozen HB9.out 3
  have f4 := Blk.frozen HB9.out 4
  go_wp2_with fail
  obtain ⟨d0, d1, d2, d3, d4⟩ := cells5 (set5_blk (t := t) (A := A) (c := c) HB9.out)
  clear c0 c1 c2 c3 c4 f0 f1 f2 f3 f4
  show bodyPost _ _ _ _ _ (set5 w9 w.heap.size t A c)
  refine bodyPost_ret (v := itemV t A c) (by simp [results, Tryz.results31, go_sem, d0, d1, d2, d3, d4]) rfl ?_
  rw [HF.out]
  exact IPost.store hg.out (M6.out.of_ext.trans hc2.out.1) (Blk.lt hc2.out.2.2) HM9.out HP9.out HS9.out

set_option maxRecDepth 20000 in
set_option maxHeartbeats 1600000 in
theorem pitem_arr_true (g : Nat) (l : List UInt8) (p : Nat) (hp : Hid (p ≤ l.length ∧ l.length ≤ 1073741824)) (d sz n : Nat) (hd : Hid (d ≤ 8)) (IH : Hid (∀ (p : Nat), p ≤ l.length → ∀ w, PAt w g l p 0 → Calls Tryz.prog 31 #[.pointer (some ⟨g, 0, none⟩), .int .i64 (d : Int)] w (IPost g l p (flt d (l.drop p)) d w))) (hn : Hid (¬ (true = false ∧ 1000 < n))) (hr : Hid (readH (l.drop p) = some (sz, 4, n, true))) (w : World) (h : PAt w g l p 0) :
    Calls Tryz.prog 31 #[.pointer (some ⟨g, 0, none⟩), .int .i64 ((d : Int) + 1)] w (IPost g l p (flt (d + 1) (l.drop p)) (d + 1) w) := by
  have HF := hid (flt_arr (d := d) hr.out hn.out)
  have HA := hid (newarr_ok hr.out hn.out)
  have HNN : Hid (true = false → n ≤ 1000) := by have := hn.out; unfold Hid; simp at this ⊢; try omega
  have hsz : Hid (sz ≤ 1073741824) := by have h1 := (readH_some hr.out).le; have h2 := hp.out; rw [List.length_drop] at h1; unfold Hid; omega
  have hrk : Hid (RS.ok (RS.new (l.drop p))) := RS.new_ok (by have := hp.out; rw [List.length_drop]; omega)
  have hg : Hid (g < w.heap.size) := Blk.lt h
  have hgB : Hid (w.heap.size ≠ g) := by have := hg.out; unfold Hid; omega
  have H0 := hid (Blk.alloc h (.cells (itemC nulT none 0) 52))
  clear h
  go_enter Tryz.func31, Tryz.ntmps31
  go_wp2_with fail
  refine (preader_any g l p 0 hp _ H0.out).mono ?_
  rintro x w1 ⟨rfl, hb1, hr1⟩
  have P1 := hid (H0.out.ext hb1)
  have B1 := hid ((Blk.new w 52 (itemC nulT none 0)).ext hb1)
  have HE1 := hid (((Mod.refl [] w).alloc (.cells (itemC nulT none 0) 52)).trans hb1)
  have hR1 : RdAt w1 (w.heap.size + 1) (RS.new (l.drop p)) := by simpa using hr1
  have HR1 := hid hR1
  clear hr1 hR1 hb1 H0
  go_wp2_with fail
  refine (Head_any_r _ _ hrk.out _ HR1.out).mono ?_
  rintro x w2 ⟨rfl, hm2, hr2⟩
  have K2 : Hid (IH1 w g l p w2 (w.heap.size + 1)) := ⟨Mod.new (S := [w.heap.size + 1]) (HE1.out.of_ext.trans hm2) (fun k hk => by rw [List.mem_singleton] at hk; subst hk; exact .inr (by omega)), Blk.mod P1.out hm2 (by have := hg.out; simp; omega), B1.out.mod hm2 (by simp), hr2, by omega⟩
  clear P1 B1 HE1 HR1 hm2 hr2
  go_wp2_with fail
  refine (Bad_any _ _ _ K2.out.rd).mono ?_
  rintro x w3 ⟨rfl, hb3⟩
  have K3 : Hid (IH1 w g l p w3 (w.heap.size + 1)) := ⟨K2.out.ext.trans hb3, K2.out.pa.ext hb3, K2.out.ret.ext hb3, Blk.ext K2.out.rd hb3, by omega⟩
  clear K2 hb3
  have p1 : w3.cell? ⟨g, 1, none⟩ = some (.int .i64 (p : Int)) := PAt.at_ K3.out.pa
  have HH := hid (newhead hr.out)
  rw [HH.out]
  dsimp only
  have td : decide ((d : Int) + 1 < 1) = false := by simp; omega
  have td2 : ((d : Int) + 1 < 1) = False := by simp; omega
  go_wp2_with fail
  refine (preader_any g l p 0 hp _ K3.out.pa).mono ?_
  rintro x w4 ⟨rfl, hb4, hr4⟩
  have P4 := hid (Blk.ext K3.out.pa hb4)
  have B4 := hid (K3.out.ret.ext hb4)
  have HR4 := hid hr4
  have HS4 := hid (Blk.lt K3.out.ret)
  have HS5 : Hid (w3.heap.size ≠ g ∧ w3.heap.size ≠ w.heap.size) := by have h1 := hg.out; have h2 := HS4.out; unfold Hid; omega
  have HE4 := hid (K3.out.ext.trans hb4)
  clear hb4 hr4 p1
  go_wp2_with fail
  refine (Array_any _ _ hrk.out _ HR4.out).mono ?_
  rintro x w5 ⟨rfl, hm5, hr5⟩
  rw [HA.out] at hr5 ⊢
  simp only [if_true]
  have P5 := hid (Blk.mod P4.out hm5 (by simpa using fun e => HS5.out.1 e.symm))
  have B5 := hid (B4.out.mod hm5 (by simpa using fun e => HS5.out.2 e.symm))
  have M5 : Hid (Ext w w5) := Mod.new (S := [w3.heap.size]) (HE4.out.of_ext.trans hm5) (fun k hk => by rw [List.mem_singleton] at hk; subst hk; exact .inr K3.out.ext.size)
  have HR5 := hid hr5
  clear hm5 hr5
  go_wp2_with fail
  refine (Bad_any _ _ _ HR5.out).mono ?_
  rintro x w6 ⟨rfl, hb6⟩
  have P6 := hid (Blk.ext P5.out hb6)
  have B6 := hid (B5.out.ext hb6)
  have M6 := hid (M5.out.trans hb6)
  have HR6 : Hid (RdAt w6 w3.heap.size ⟨l.drop p, sz, -1, 0, 0⟩) := Blk.ext HR5.out hb6
  clear hb6
  have q1 : w6.cell? ⟨g, 1, none⟩ = some (.int .i64 (p : Int)) := PAt.at_ P6.out
  have z1 : w6.frozen? ⟨g, 1, none⟩ = false := PAt.froz P6.out 1
  have tw : IntKind.i64.wrap ((p : Int) + (sz : Int)) = (p : Int) + (sz : Int) := IntWalk.i64_in _ (by have := hp.out; have := hsz.out; omega)
  have HP9 : Hid (Mod [g] w6 (w6.setCell ⟨g, 1, none⟩ (.int .i64 ((p : Int) + (sz : Int)))) ∧ PAt (w6.setCell ⟨g, 1, none⟩ (.int .i64 ((p : Int) + (sz : Int)))) g l (p + sz) 0 ∧ Blk (w6.setCell ⟨g, 1, none⟩ (.int .i64 ((p : Int) + (sz : Int)))) w.heap.size 52 (itemC nulT none 0)) := by
    refine ⟨(Mod.refl _ _).setCell (.inl (by simp)) _, ?_, Blk.far B6.out (by simpa using hgB.out) _⟩
    have := Blk.set_ P6.out 1 (.int .i64 ((p + sz : Nat) : Int))
    simpa [PAt] using this
  go_upto_region 20 with fail
  go_cut [] (fun wx => Hid (Mod [g] w6 wx ∧ PAt wx g l (p + sz) 0 ∧ Blk wx w.heap.size 52 (itemC nulT none 0)))
  case first =>
    go_region_with ((go_at_call 56; refine (At_any w3.heap.size ⟨l.drop p, sz, -1, 0, 0⟩ _ ?_).mono ?_; (first | exact HR6.out | exact Blk.drew HR6.out | exact Blk.drew (Blk.drew HR6.out)); rintro x w' ⟨rfl, rfl⟩))
    all_goals go_wp2_with fail
    all_goals go_meet
    all_goals exact ⟨by first | exact HP9.out.1 | exact HP9.out.1.drew, HP9.out.2⟩
  clear q1 z1 tw HP9
  have hc2 := hid hcut.out
  clear hcut
  go_wp2_with fail
  refine (plist_any d hd g l (show Hid _ from hp.out.2) IH p sz n true (-1) (by unfold Hid; simp) hr (by unfold Hid; first | exact HNN.out | (have := HNN.out; simpa using this) | simp) (by have h1 := (readH_some hr.out).le; have h2 := hp.out; rw [List.length_drop] at h1; unfold Hid; omega) _ hc2.out.2.1).mono ?_
  rintro x w9 ⟨t, A, c, rfl, hm9, hp9, hs9⟩
  have HB9 := hid (Blk.mod hc2.out.2.2 hm9 (by simpa using hgB.out))
  have HM9 := hid hm9; have HP9 := hid hp9; have HS9 := hid hs9
  clear hm9 hp9 hs9
  obtain ⟨c0, c1, c2, c3, c4⟩ := cells5 HB9.out
  have f0 := Blk.frozen HB9.out 0
  have f1 := Blk.frozen HB9.out 1
  have f2 := Blk.frozen HB9.out 2
  have f3 := Blk.frozen HB9.out 3
  have f4 := Blk.frozen HB9.out 4
  go_wp2_with fail
  obtain ⟨d0, d1, d2, d3, d4⟩ := cells5 (set5_blk (t := t) (A := A) (c := c) HB9.out)
  clear c0 c1 c2 c3 c4 f0 f1 f2 f3 f4
  show bodyPost _ _ _ _ _ (set5 w9 w.heap.size t A c)
  refine bodyPost_ret (v := itemV t A c) (by simp [results, Tryz.results31, go_sem, d0, d1, d2, d3, d4]) rfl ?_
  rw [HF.out]
  exact IPost.store hg.out (M6.out.of_ext.trans hc2.out.1) (Blk.lt hc2.out.2.2) HM9.out HP9.out HS9.out


theorem pitem_any (g : Nat) (l : List UInt8) (hl : l.length ≤ 1073741824) : ∀ d : Nat, d ≤ 9 → ∀ p, p ≤ l.length → ∀ w, PAt w g l p 0 → Calls Tryz.prog 31 #[.pointer (some ⟨g, 0, none⟩), .int .i64 (d : Int)] w (IPost g l p (flt d (l.drop p)) d w) := by
  intro d
  induction d with
  | zero =>
    intro _ p hp w h
    cases hr : readH (l.drop p) with
    | none => exact pitem_none g l p ⟨hp, hl⟩ 0 hr w h
    | some x =>
      obtain ⟨sz, m, n, o⟩ := x
      have hm := (readH_some hr).m7
      have h8 : (m = 1 ∨ m = 5 ∨ m = 6 ∨ m = 7) ∨ (m = 0 ∨ m = 2 ∨ m = 3 ∨ m = 4) := by omega
      rcases h8 with h8 | h8
      · exact pitem_noK g l p ⟨hp, hl⟩ 0 sz m n o h8 hr w h
      · exact pitem_deep g l p ⟨hp, hl⟩ sz m n o h8 hr w h
  | succ d ih =>
    intro hd p hp w h
    have ih' := ih (by omega)
    have e : ((d + 1 : Nat) : Int) = (d : Int) + 1 := by omega
    cases hr : readH (l.drop p) with
    | none => exact pitem_none g l p ⟨hp, hl⟩ (d + 1) hr w h
    | some x =>
      obtain ⟨sz, m, n, o⟩ := x
      have hm := (readH_some hr).m7
      have h8 : (m = 1 ∨ m = 5 ∨ m = 6 ∨ m = 7) ∨ m = 0 ∨ (m = 2 ∨ m = 3) ∨ m = 4 := by omega
      rcases h8 with h8 | rfl | h8 | rfl
      · exact pitem_noK g l p ⟨hp, hl⟩ (d + 1) sz m n o h8 hr w h
      · rw [e]; exact pitem_num g l p ⟨hp, hl⟩ d sz n o hr w h
      · rw [e]; exact pitem_str g l p ⟨hp, hl⟩ d sz m n o h8 hr w h
      · rw [e]
        cases o with
        | false =>
          by_cases hn : 1000 < n
          · exact pitem_long g l p ⟨hp, hl⟩ d sz n hn hr w h
          · exact pitem_arr_false g l p ⟨hp, hl⟩ d sz n (by unfold Hid; omega) ih' (fun h => hn h.2) hr w h
        | true => exact pitem_arr_true g l p ⟨hp, hl⟩ d sz n (by unfold Hid; omega) ih' (fun h => by cases h.1) hr w h
end Go.Proofs.YtfgipgpbjfhflaaGreat


namespace Go.Proofs.YtfgipgpbjfhflaaGreat
open Go.RowKit
set_option linter.unusedVariables false
set_option linter.unusedSimpArgs false

/-- Place and error of a whole text. -/
def parseR (l : List UInt8) : Nat × Int := if (flt 8 l).2 = 0 ∧ (flt 8 l).1 < l.length then ((flt 8 l).1, 2) else flt 8 l
def PPost (l : List UInt8) (w : World) (x : Ending) (w' : World) : Prop :=
  Ext w w' ∧ (((parseR l).2 ≠ 0 ∧ x = .returned (.tuple #[itemV nulT none 0, .int .i64 ((parseR l).1 : Int), .int .i64 (parseR l).2])) ∨
    ((parseR l).2 = 0 ∧ ∃ t A c, x = .returned (.tuple #[itemV t A c, .int .i64 (-1), .int .i64 0]) ∧ (t.right 8 = true ∧ t.ok) ∧ t.bytes = l ∧ IsL w' (fun _ => True) t A))
def PPostC (l : List UInt8) (w : World) (x : Ending) (w' : World) : Prop :=
  Ext w w' ∧ (((parseR l).2 ≠ 0 ∧ x = .returned (.tuple #[itemV nulT none 0, .int .i64 ((parseR l).1 : Int), .int .i64 (parseR l).2])) ∨
    ((parseR l).2 = 0 ∧ ∃ t A c, x = .returned (.tuple #[itemV t A c, .int .i64 (-1), .int .i64 0]) ∧ (t.right 8 = true ∧ t.ok) ∧ t.bytes = l ∧ IsC w' (fun _ => True) t A c))
theorem PPostC.out {l : List UInt8} {w : World} {x : Ending} {w' : World} (h : PPostC l w x w') : PPost l w x w' := by
  obtain ⟨hb, h | ⟨h0, t, A, c, h1, h2, h3, h4⟩⟩ := h
  · exact ⟨hb, .inl h⟩
  · exact ⟨hb, .inr ⟨h0, t, A, c, h1, h2, h3, h4.isL⟩⟩

set_option maxRecDepth 20000 in
set_option maxHeartbeats 1600000 in
theorem parse_anyC (l : List UInt8) (hl : Hid (l.length ≤ 1073741824)) (w : World) : Calls Tryz.prog 20 #[str l] w (PPostC l w) := by
  have hF0 : Hid (flt 8 (l.drop 0) = flt 8 l) := by unfold Hid; rw [List.drop_zero]
  have HP1 : Hid (PAt ((w.alloc (.cells (itemC nulT none 0) 52)).alloc (.cells #[str l, .int .i64 ((0 : Nat) : Int), .int .i64 0] 63)) (w.heap.size + 1) l 0 0) := Blk.newAt _ _ _ (by simp)
  have HB1 : Hid (Blk ((w.alloc (.cells (itemC nulT none 0) 52)).alloc (.cells #[str l, .int .i64 ((0 : Nat) : Int), .int .i64 0] 63)) w.heap.size 52 (itemC nulT none 0)) := (Blk.new _ _ _).alloc _
  have HE1 := hid (((Mod.refl [w.heap.size + 1] w).alloc (.cells (itemC nulT none 0) 52)).alloc (.cells #[str l, .int .i64 ((0 : Nat) : Int), .int .i64 0] 63))
  go_enter Tryz.func20, Tryz.ntmps20
  go_upto_region 2 with fail
  go_cut [6] (fun s6 wx => ∃ X t A c, s6 = .pointer (some ⟨X, 0, none⟩) ∧ Hid (Mod [w.heap.size + 1] w wx ∧ PAt wx (w.heap.size + 1) l (flt 8 l).1 (flt 8 l).2 ∧ Blk wx w.heap.size 52 (itemC nulT none 0) ∧ Blk wx X 52 (itemC t A c) ∧ w.heap.size + 1 < X ∧
      ((flt 8 l).2 = 0 → (t.right 8 = true ∧ t.ok) ∧ t.bytes ++ l.drop (flt 8 l).1 = l ∧ IsC wx (fun b => w.heap.size + 2 ≤ b ∧ b ≠ X) t A c)))
  case first =>
    go_wp2_with fail
    refine (pitem_any (w.heap.size + 1) l hl.out 8 (by omega) 0 (by omega) _ HP1.out).mono ?_
    rintro x w2 ⟨t, A, c, rfl, hm2, hp2, hs2⟩
    rw [hF0.out] at hp2 hs2
    rw [Nat.zero_add] at hp2 hs2
    rw [List.drop_zero] at hs2
    have HB2 := hid (HB1.out.mod hm2 (by simp))
    have HP2 := hid hp2
    have HS2 := hid hs2
    have HE2 := hid (HE1.out.trans hm2)
    clear hm2 hp2 hs2 HB1 HE1 HP1
    go_wp2_with fail
    go_meet
    refine ⟨w2.heap.size, t, A, c, rfl, HE2.out.alloc _, Blk.alloc HP2.out _, HB2.out.alloc _, Blk.new _ _ _, Blk.lt HP2.out, fun h0 => ⟨(HS2.out h0).1, (HS2.out h0).2.1, ?_⟩⟩
    have h3 := (HS2.out h0).2.2
    exact IsC.ext (IsC.weak (fun k hk hq => ⟨by simpa using hq, by omega⟩) t h3) ((Mod.refl _ _).alloc _)
  obtain ⟨X, t, A, c, rfl, hH⟩ := hcut
  clear HB1 HE1 HP1 hF0
  obtain ⟨E, hE⟩ : ∃ E, E = (flt 8 l).2 := ⟨_, rfl⟩
  obtain ⟨q, hq⟩ : ∃ q, q = (flt 8 l).1 := ⟨_, rfl⟩
  have HPR : Hid (parseR l = if E = 0 ∧ q < l.length then (q, 2) else (q, E)) := by unfold Hid parseR; rw [hE, hq]
  rw [← hE, ← hq] at hH
  have hql : q ≤ l.length := by rw [hq]; exact flt_le 8 l
  have q0 : (0 : Int) ≤ (q : Int) := by omega
  have q1 : (q : Int) ≤ (l.length : Int) := by omega
  have l1 : (l.length : Int) ≤ 1073741824 := by have := hl.out; omega
  have HQL := hid hql
  clear hE hq hql
  have p1 : wc.cell? ⟨w.heap.size + 1, 1, none⟩ = some (.int .i64 (q : Int)) := PAt.at_ hH.out.2.1
  have p2 : wc.cell? ⟨w.heap.size + 1, 2, none⟩ = some (.int .i64 E) := PAt.err hH.out.2.1
  by_cases hE : E = 0
  · subst hE
    by_cases hql : q < l.length
    · have tl : decide (q < l.length) = true := by simp [hql]
      have tl2 : decide ((q : Int) < (l.length : Int)) = true := by simp [hql]
      have HPE := hid HPR.out
      rw [if_pos ⟨rfl, hql⟩] at HPE
      clear hql
      go_upto_region 4 with fail
      go_wp2_with fail
      refine (pfail_any (w.heap.size + 1) l q q 2 _ hH.out.2.1).mono ?_
      rintro x w3 ⟨rfl, hm3, hp3⟩
      have HM3 := hid (hH.out.1.trans hm3)
      have HP3 := hid hp3
      have HB3 := hid (hH.out.2.2.1.mod hm3 (by simp))
      clear hm3 hp3 p1 p2
      have p1 : w3.cell? ⟨w.heap.size + 1, 1, none⟩ = some (.int .i64 (q : Int)) := PAt.at_ HP3.out
      have p2 : w3.cell? ⟨w.heap.size + 1, 2, none⟩ = some (.int .i64 2) := PAt.err HP3.out
      obtain ⟨c0, c1, c2, c3, c4⟩ := cells5 HB3.out
      have f0 := Blk.frozen HB3.out 0
      have f1 := Blk.frozen HB3.out 1
      have f2 := Blk.frozen HB3.out 2
      have f3 := Blk.frozen HB3.out 3
      have f4 := Blk.frozen HB3.out 4
      go_upto_region 6 with fail
      have HW : Hid (Mod [w.heap.size + 1] w (set5 w3 w.heap.size nulT none 0).drew ∧ Blk (set5 w3 w.heap.size nulT none 0).drew w.heap.size 52 (itemC nulT none 0)) := ⟨(set5_mod HM3.out (Nat.le_refl _)).drew, Blk.drew (set5_blk HB3.out)⟩
      go_cut [3, 4] (fun s3 s4 wx => s3 = .int .i64 (q : Int) ∧ s4 = .int .i64 2 ∧ Hid (Mod [w.heap.size + 1] w wx ∧ Blk wx w.heap.size 52 (itemC nulT none 0)))
      case first =>
        go_region
        all_goals go_wp2_with fail
        all_goals go_meet
        all_goals exact ⟨rfl, rfl, HW.out.1, HW.out.2⟩
      clear c0 c1 c2 c3 c4 f0 f1 f2 f3 f4
      obtain ⟨rfl, rfl, hR⟩ := hcut
      obtain ⟨d0, d1, d2, d3, d4⟩ := cells5 hR.out.2
      go_wp2_with fail
      refine bodyPost_ret (v := .tuple #[itemV nulT none 0, .int .i64 (q : Int), .int .i64 2]) (by simp [results, Tryz.results20, go_sem, d0, d1, d2, d3, d4]) rfl ?_
      refine ⟨Mod.new (S := [w.heap.size + 1]) hR.out.1 (fun k hk => by rw [List.mem_singleton] at hk; subst hk; exact .inr (by omega)), .inl ?_⟩
      rw [HPE.out]
      exact ⟨(show ¬ ((2 : Int) = 0) by decide), rfl⟩
    · have tl : decide (q < l.length) = false := by simp [hql]
      have tl2 : decide ((q : Int) < (l.length : Int)) = false := by simp; omega
      have HPE := hid HPR.out
      rw [if_neg (fun h => hql h.2)] at HPE
      have HQ := hid hql
      clear hql
      obtain ⟨x0, x1, x2, x3, x4⟩ := cells5 hH.out.2.2.2.1
      obtain ⟨c0, c1, c2, c3, c4⟩ := cells5 hH.out.2.2.1
      have f0 := Blk.frozen hH.out.2.2.1 0
      have f1 := Blk.frozen hH.out.2.2.1 1
      have f2 := Blk.frozen hH.out.2.2.1 2
      have f3 := Blk.frozen hH.out.2.2.1 3
      have f4 := Blk.frozen hH.out.2.2.1 4
      go_wp2_with fail
      obtain ⟨d0, d1, d2, d3, d4⟩ := cells5 (set5_blk (t := t) (A := A) (c := c) hH.out.2.2.1)
      clear c0 c1 c2 c3 c4 f0 f1 f2 f3 f4 x0 x1 x2 x3 x4 p1 p2
      show bodyPost _ _ _ _ _ (set5 wc w.heap.size t A c)
      refine bodyPost_ret (v := .tuple #[itemV t A c, .int .i64 (-1), .int .i64 0]) (by simp [results, Tryz.results20, go_sem, d0, d1, d2, d3, d4]) rfl ?_
      refine ⟨Mod.new (S := [w.heap.size + 1]) (set5_mod hH.out.1 (Nat.le_refl _)) (fun k hk => by rw [List.mem_singleton] at hk; subst hk; exact .inr (by omega)), .inr ?_⟩
      have h1 := hH.out.2.2.2.2.2 (by first | rfl | trivial)
      rw [HPE.out]
      refine ⟨rfl, t, A, c, rfl, h1.1, ?_, ?_⟩
      · have h2 := h1.2.1
        have hqe : q = l.length := by have := HQ.out; have := HQL.out; omega
        rw [hqe, List.drop_length, List.append_nil] at h2
        exact h2
      · exact IsC.weak (fun k hk hq => trivial) t (IsC.mod set5_modb (fun k hq hk hm => by rw [List.mem_singleton] at hm; have := hq.1; omega) t h1.2.2)
  · have te : (E == 0) = false := by simp [hE]
    have te2 : (E = 0) = False := by simp [hE]
    have tn : (E != 0) = true := by simp [hE]
    have HPE := hid HPR.out
    rw [if_neg (fun h => hE h.1)] at HPE
    have HNE := hid hE
    clear hE
    obtain ⟨c0, c1, c2, c3, c4⟩ := cells5 hH.out.2.2.1
    have f0 := Blk.frozen hH.out.2.2.1 0
    have f1 := Blk.frozen hH.out.2.2.1 1
    have f2 := Blk.frozen hH.out.2.2.1 2
    have f3 := Blk.frozen hH.out.2.2.1 3
    have f4 := Blk.frozen hH.out.2.2.1 4
    go_upto_region 6 with fail
    have HW : Hid (Mod [w.heap.size + 1] w (set5 wc w.heap.size nulT none 0).drew ∧ Blk (set5 wc w.heap.size nulT none 0).drew w.heap.size 52 (itemC nulT none 0)) := ⟨(set5_mod hH.out.1 (Nat.le_refl _)).drew, Blk.drew (set5_blk hH.out.2.2.1)⟩
    go_cut [3, 4] (fun s3 s4 wx => s3 = .int .i64 (q : Int) ∧ s4 = .int .i64 E ∧ Hid (Mod [w.heap.size + 1] w wx ∧ Blk wx w.heap.size 52 (itemC nulT none 0)))
    case first =>
      go_region
      all_goals go_wp2_with fail
      all_goals go_meet
      all_goals exact ⟨rfl, rfl, HW.out.1, HW.out.2⟩
    clear c0 c1 c2 c3 c4 f0 f1 f2 f3 f4
    obtain ⟨rfl, rfl, hR⟩ := hcut
    obtain ⟨d0, d1, d2, d3, d4⟩ := cells5 hR.out.2
    go_wp2_with fail
    refine bodyPost_ret (v := .tuple #[itemV nulT none 0, .int .i64 (q : Int), .int .i64 E]) (by simp [results, Tryz.results20, go_sem, d0, d1, d2, d3, d4]) rfl ?_
    refine ⟨Mod.new (S := [w.heap.size + 1]) hR.out.1 (fun k hk => by rw [List.mem_singleton] at hk; subst hk; exact .inr (by omega)), .inl ?_⟩
    rw [HPE.out]
    exact ⟨HNE.out, rfl⟩
end Go.Proofs.YtfgipgpbjfhflaaGreat


namespace Go.Proofs.YtfgipgpbjfhflaaGreat
open Go.RowKit
set_option linter.unusedVariables false
set_option linter.unusedSimpArgs false

theorem parse_back {x : T} (hx : x.right 8 = true) (hox : x.ok) : parseR x.bytes = (x.bytes.length, 0) := by
  have h := flt_bytes x 8 hx hox []
  rw [List.append_nil] at h
  unfold parseR
  rw [h]
  rw [if_neg (by rintro ⟨_, h⟩; exact Nat.lt_irrefl _ h)]
theorem same_mk {t : T} {kind : Int} {n : Nat} {s : List UInt8} {op : Bool} {k : Nat} {ch : Nat → T} (h : (T.mk kind n s op k ch).same t = true) : t.kind = kind ∧ t.n = n ∧ t.s = s ∧ t.op = op ∧ t.k = k ∧ ∀ i, i < k → (ch i).same (t.ch i) = true := by
  unfold T.same at h
  simp only [Bool.and_eq_true, beq_iff_eq] at h
  obtain ⟨⟨⟨⟨⟨h1, h2⟩, h3⟩, h4⟩, h5⟩, h6⟩ := h
  exact ⟨h1.symm, h2.symm, h3.symm, h4.symm, h5.symm, T.all_iff.1 h6⟩
theorem readE_same {e : EV} (ho : e.ok = true) {t : T} (h : (eidT e).same t = true) : readE t = e := by
  rcases EV.ok_cases ho with rfl | ⟨name, rfl, hn, hl⟩ | ⟨node, svc, rfl, ha, hb⟩
  · obtain ⟨h1, h2, h3, h4, h5, h6⟩ := same_mk h
    have g0 := same_mk (h6 0 (by omega))
    have g1 : (numT 0).same (t.ch 1) = true := h6 1 (by omega)
    have g1 := same_mk g1
    have z : ¬ (t.kind ≠ 4 ∨ t.k ≠ 2 ∨ (t.ch 0).kind ≠ 0) := by rw [h1, h5, g0.1]; decide
    have z2 : ¬ ((t.ch 0).n = 2 ∧ (t.ch 1).k = 2) := by rintro ⟨h, _⟩; rw [g0.2.1] at h; revert h; decide
    have z3 : ¬ ((t.ch 0).n = 1 ∧ (t.ch 1).kind = 3) := by rintro ⟨_, h⟩; rw [g1.1] at h; revert h; decide
    unfold readE
    rw [if_neg z, if_neg z2, if_neg z3]
    rfl
  · have h0 : ¬ name = noneL := hn
    have e1 : eidT ⟨1, name, 0, 0⟩ = T.mk 4 0 [] false 2 fun i => if i = 0 then numT 1 else textT name := by simp [eidT, twoT, h0]
    rw [e1] at h
    obtain ⟨h1, h2, h3, h4, h5, h6⟩ := same_mk h
    have g0 := same_mk (h6 0 (by omega))
    have g1 : (textT name).same (t.ch 1) = true := h6 1 (by omega)
    have g1 := same_mk g1
    have z : ¬ (t.kind ≠ 4 ∨ t.k ≠ 2 ∨ (t.ch 0).kind ≠ 0) := by rw [h1, h5, g0.1]; decide
    have z2 : ¬ ((t.ch 0).n = 2 ∧ (t.ch 1).k = 2) := by rintro ⟨h, _⟩; rw [g0.2.1] at h; revert h; decide
    have z3 : (t.ch 0).n = 1 ∧ (t.ch 1).kind = 3 := by rw [g0.2.1, g1.1]; decide
    unfold readE
    rw [if_neg z, if_neg z2, if_pos z3, g1.2.2.1]
  · obtain ⟨h1, h2, h3, h4, h5, h6⟩ := same_mk h
    have g0 := same_mk (h6 0 (by omega))
    have g1 : (T.mk 4 0 [] false 2 (fun j => if j = 0 then numT node else numT svc)).same (t.ch 1) = true := h6 1 (by omega)
    have g1 := same_mk g1
    have k0 : (numT node).same ((t.ch 1).ch 0) = true := g1.2.2.2.2.2 0 (by omega)
    have k1 : (numT svc).same ((t.ch 1).ch 1) = true := g1.2.2.2.2.2 1 (by omega)
    have k0 := same_mk k0
    have k1 := same_mk k1
    have z : ¬ (t.kind ≠ 4 ∨ t.k ≠ 2 ∨ (t.ch 0).kind ≠ 0) := by rw [h1, h5, g0.1]; decide
    have z2 : (t.ch 0).n = 2 ∧ (t.ch 1).k = 2 := ⟨g0.2.1, g1.2.2.2.2.1⟩
    unfold readE
    rw [if_neg z, if_pos z2, k0.2.1, k1.2.1]
end Go.Proofs.YtfgipgpbjfhflaaGreat


namespace Go.Proofs.YtfgipgpbjfhflaaGreat
open Go.RowKit
set_option linter.unusedVariables false
set_option linter.unusedSimpArgs false

/-- The call gives up with an error. -/
def Pan (r : Int) (w : World) (e : Ending) (w' : World) : Prop := e = .panicked [{ v := .iface 106 (.agg #[.int .i64 r]), recovered := false }] ∧ Ext w w'
set_option maxRecDepth 20000 in
theorem need_yes (r : Int) (w : World) : Calls Tryz.prog 103 #[.bool true, .int .i64 r] w (Ret (.tuple #[]) w) := by
  go_enter Tryz.func103, Tryz.ntmps103
  go_wp2_with fail
  refine bodyPost_ret (results_none rfl _ _ _) rfl ?_
  exact Ret.mk rfl (Mod.refl [] w)
set_option maxRecDepth 20000 in
theorem need_no (r : Int) (w : World) : Calls Tryz.prog 103 #[.bool false, .int .i64 r] w (Pan r w) := by
  go_enter Tryz.func103, Tryz.ntmps103
  go_wp2_with fail
  exact ⟨rfl, rfl, Mod.refl [] w⟩
/-- What a number says, or one that is too great. -/
def numO (n : Nat) : Int := if n < 65536 then (n : Int) else 65536
set_option maxRecDepth 20000 in
theorem bnum_few (K : Int) (N : Nat) (s : List UInt8) (op : Bool) (k : Nat) (A : Option Addr) (c : Nat) (hk : K = 0) (hn : N < 65536) (w : World) : Calls Tryz.prog 104 #[.agg #[.int .i64 K, .int .u64 (N : Int), str s, .slice A k c, .bool op]] w (Ret (.int .i64 (numO N)) w) := by
  have KN := hid (fun W => need_yes 2 W)
  have HE := hid ((Mod.refl [] w).alloc (.cells #[.int .i64 K, .int .u64 (N : Int), str s, .slice A k c, .bool op] 52))
  have HB0 : Hid (Blk (w.alloc (.cells #[.int .i64 K, .int .u64 (N : Int), str s, .slice A k c, .bool op] 52)) w.heap.size 52 #[.int .i64 K, .int .u64 (N : Int), str s, .slice A k c, .bool op]) := hid (Blk.new w _ _)
  have t1 : (K == 0) = true := by rw [hk]; rfl
  have t2 : (K = 0) = True := eq_true hk
  have n0 : (0 : Int) ≤ (N : Int) := by omega
  have m0 : (N : Int) < 65536 := by omega
  have m1 : (65536 < (N : Int)) = False := eq_false (by omega)
  have m2 : ((N : Int) < 65536) = True := eq_true (by omega)
  have HR : Hid (min (N : Int) 65536 = numO N) := hid (by unfold numO; rw [if_pos hn]; omega)
  clear hk hn
  go_enter Tryz.func104, Tryz.ntmps104
  go_upto_region 1 with fail
  generalize (w.alloc (.cells #[.int .i64 K, .int .u64 (N : Int), str s, .slice A k c, .bool op] 52)) = V at *
  have c0 : ∀ e : Later V, e.x.cell? ⟨w.heap.size, 0, none⟩ = some (.int .i64 K) := HB0.out.cellL 0 rfl
  have c1 : ∀ e : Later V, e.x.cell? ⟨w.heap.size, 1, none⟩ = some (.int .u64 (N : Int)) := HB0.out.cellL 1 rfl
  obtain ⟨e, he⟩ := Later.self V
  rw [he]
  clear he
  go_upto_region 2 with (go_at_call 103; refine (Ret.later (KN.out _)).mono ?_; rintro x _ ⟨rfl, e, rfl⟩)
  go_wp2_with fail
  go_ret
  exact Ret.mk (by show Value.int .i64 (min (N : Int) 65536) = _; rw [HR.out]) (HE.out.trans e.h)
set_option maxRecDepth 20000 in
theorem bnum_many (K : Int) (N : Nat) (s : List UInt8) (op : Bool) (k : Nat) (A : Option Addr) (c : Nat) (hk : K = 0) (hn : ¬ N < 65536) (hok : N < 18446744073709551616) (w : World) : Calls Tryz.prog 104 #[.agg #[.int .i64 K, .int .u64 (N : Int), str s, .slice A k c, .bool op]] w (Ret (.int .i64 (numO N)) w) := by
  have KN := hid (fun W => need_yes 2 W)
  have HE := hid ((Mod.refl [] w).alloc (.cells #[.int .i64 K, .int .u64 (N : Int), str s, .slice A k c, .bool op] 52))
  have HB0 : Hid (Blk (w.alloc (.cells #[.int .i64 K, .int .u64 (N : Int), str s, .slice A k c, .bool op] 52)) w.heap.size 52 #[.int .i64 K, .int .u64 (N : Int), str s, .slice A k c, .bool op]) := hid (Blk.new w _ _)
  have t1 : (K == 0) = true := by rw [hk]; rfl
  have t2 : (K = 0) = True := eq_true hk
  have HR : Hid (min (N : Int) 65536 = numO N) := hid (by unfold numO; rw [if_neg hn]; omega)
  clear hk hn hok
  go_enter Tryz.func104, Tryz.ntmps104
  go_upto_region 1 with fail
  generalize (w.alloc (.cells #[.int .i64 K, .int .u64 (N : Int), str s, .slice A k c, .bool op] 52)) = V at *
  have c0 : ∀ e : Later V, e.x.cell? ⟨w.heap.size, 0, none⟩ = some (.int .i64 K) := HB0.out.cellL 0 rfl
  have c1 : ∀ e : Later V, e.x.cell? ⟨w.heap.size, 1, none⟩ = some (.int .u64 (N : Int)) := HB0.out.cellL 1 rfl
  obtain ⟨e, he⟩ := Later.self V
  rw [he]
  clear he
  go_upto_region 2 with (go_at_call 103; refine (Ret.later (KN.out _)).mono ?_; rintro x _ ⟨rfl, e, rfl⟩)
  go_wp2_with fail
  go_ret
  exact Ret.mk (by show Value.int .i64 (min (N : Int) 65536) = _; rw [HR.out]) (HE.out.trans e.h)
theorem bnum_yes (t : T) (A : Option Addr) (c : Nat) (hk : t.kind = 0) (hok : t.n < 18446744073709551616) (w : World) : Calls Tryz.prog 104 #[itemV t A c] w (Ret (.int .i64 (numO t.n)) w) := by
  by_cases h : t.n < 65536
  · exact bnum_few _ _ _ _ _ A c hk h w
  · exact bnum_many _ _ _ _ _ A c hk h hok w
set_option maxRecDepth 20000 in
theorem bnum_no (t : T) (A : Option Addr) (c : Nat) (hk : t.kind ≠ 0) (w : World) : Calls Tryz.prog 104 #[itemV t A c] w (Pan 2 w) := by
  have KN := hid (fun W => need_no 2 W)
  have HE := hid ((Mod.refl [] w).alloc (.cells (itemC t A c) 52))
  have HB0 : Hid (Blk (w.alloc (.cells (itemC t A c) 52)) w.heap.size 52 (itemC t A c)) := hid (Blk.new w 52 (itemC t A c))
  have t1 : (t.kind == 0) = false := by rw [beq_eq_false_iff_ne]; exact hk
  have t2 : (t.kind = 0) = False := eq_false hk
  clear hk
  go_enter Tryz.func104, Tryz.ntmps104
  go_upto_region 1 with fail
  generalize (w.alloc (.cells (itemC t A c) 52)) = V at *
  have c0 : ∀ e : Later V, e.x.cell? ⟨w.heap.size, 0, none⟩ = some (.int .i64 t.kind) := HB0.out.cellL 0 rfl
  obtain ⟨e, he⟩ := Later.self V
  rw [he]
  clear he
  go_upto_region 2 with (go_at_call 103; refine (KN.out _).mono ?_; rintro x w1 ⟨rfl, hb1⟩)
  exact ⟨rfl, rfl, HE.out.trans (e.h.trans hb1)⟩
set_option maxRecDepth 20000 in
set_option maxHeartbeats 1600000 in
theorem ofc_panic (b e : Nat) (r : Int) (bl : Array Value) (w : World) (hbe : b ≠ e) (hb : Blk w b 42 bl) (hl : bl.size = 5) (he : Blk w e 32 #[.int .i64 0]) :
    CallsD Tryz.prog 68 #[.pointer (some ⟨b, 0, none⟩), .pointer (some ⟨e, 0, none⟩)] (.panicking [{ v := .iface 106 (.agg #[.int .i64 r]), recovered := false }]) w fun x u' w' =>
      x = .returned (.tuple #[]) ∧ u' = .panicking [{ v := .iface 106 (.agg #[.int .i64 r]), recovered := true }] ∧ Mod [b, e] w w' ∧ Blk w' b 42 (BV.c zeroB) ∧ Blk w' e 32 #[.int .i64 r] := by
  have hta : ∀ (I : TypeId) (W : World), (Instr.typeAssert (.iface 106 (.agg #[.int .i64 r])) I 106 true).run Tryz.prog W = .ok (.tuple #[.agg #[.int .i64 r], .bool true]) W := fun I W => by kernel_rfl
  refine callsD_of_wpS Tryz.func68 rfl fun c₀ cs hu => ?_
  apply wpS_seq
  apply wpS_region
  simp [wpOpsS, go_sem, recoverD, hu, hta, Tryz.ntmps68, Exit.thenS, Array.replicate, List.replicate]
  refine wpS_of_wp ?_
  have HB0 : Hid (Blk (w.alloc (.cells #[.int .i64 r] 106)) w.heap.size 106 #[.int .i64 r]) := hid (Blk.new w _ _)
  have HE : Hid (Ext w (w.alloc (.cells #[.int .i64 r] 106))) := hid ((Mod.refl [] w).alloc _)
  have HBb := hid (hb.ext HE.out)
  have HBe := hid (he.ext HE.out)
  generalize w.alloc (.cells #[.int .i64 r] 106) = V at *
  clear hta
  go_upto_region 2 with fail
  have HC : Hid (∀ W, Mod [b, e] V W → W.cell? ⟨w.heap.size, 0, none⟩ = some (.int .i64 r)) := hid (fun W hW => (HB0.out.mod hW (by have := hb.lt; have := he.lt; simp; omega)).cell 0)
  refine wp_region_held_drew (S := fun w' => Mod [b, e] V w' ∧ (∃ cs, Blk w' b 42 cs ∧ cs.size = 5) ∧ ∃ z, Blk w' e 32 #[z]) (by kernel_rfl) ⟨(Mod.refl _ _).drew, ⟨bl, HBb.out.drew, hl⟩, ⟨_, HBe.out.drew⟩⟩ (fun hHeld => ?_)
  refine' wpAnyH_take (i := 0) (v := _) rfl (by kernel_rfl) (by kernel_rfl) (by kernel_rfl) (fun _ _ _ h => h) (Or.inl ⟨by rfl, ?hy⟩) hHeld ?rest
  case hy => (rintro W ⟨hM, _⟩; go_simp; (try with_reducible rfl))
  case rest =>
  (try simp only [Act.put, gTl, g0l, gSl, sTl, s0l, sSl])
  refine' wpAnyH_take (i := 1) (v := _) rfl (by kernel_rfl) (by kernel_rfl) (by kernel_rfl) (fun _ _ _ h => h) (Or.inl ⟨by rfl, ?hy⟩) hHeld ?rest
  case hy => (rintro W ⟨hM, _⟩; go_simp; (try with_reducible rfl))
  case rest =>
  (try simp only [Act.put, gTl, g0l, gSl, sTl, s0l, sSl])
  refine' wpAnyH_take (i := 2) (v := _) rfl (by kernel_rfl) (by kernel_rfl) (by kernel_rfl) (fun _ _ _ h => h) (Or.inl ⟨by rfl, ?hy⟩) hHeld ?rest
  case hy => (rintro W ⟨hM, _⟩; have x1 := HC.out W hM; go_simp; (try with_reducible rfl))
  case rest =>
  (try simp only [Act.put, gTl, g0l, gSl, sTl, s0l, sSl])
  refine wpAnyH_ready (rs := [3]) (by kernel_rfl) (by simp) ?_
  refine AllReadyH.cons rfl (fun K hK => ?_) AllReadyH.nil
  obtain ⟨hM0, ⟨cs0, hb0, hc0⟩, z0, he0⟩ := hHeld
  refine wp_store_mid 42 _ _ rfl b 0 (BV.c zeroB) (by rfl) (by rfl) (hb0.there (by rw [hc0]; exact Nat.le_refl _)) (by kernel_rfl) (by simp [Value.oneCell']) ?_
  have hZB := setCells_all (ds := BV.c zeroB) hb0 (by rw [hc0]; rfl)
  have hZE := he0.mod (setCells_mod (w := V.drew) (W := V.drew) (S := [b]) (b := b) (BV.c zeroB).toList 0 (Mod.refl _ _) (.inl (by simp))) (by simp; omega)
  have hZM := setCells_mod (b := b) (BV.c zeroB).toList 0 hM0 (.inl (by simp))
  generalize hZ : World.setCells _ b 0 (BV.c zeroB).toList = Z at *
  clear hZ
  refine hK.out _ _ ⟨hZM, ⟨_, hZB, rfl⟩, _, hZE⟩ (fun hHeld => ?_)
  clear hK K
  (try simp only [Act.put, gTl, g0l, gSl, sTl, s0l, sSl])
  refine wpAnyH_ready (rs := [4]) (by kernel_rfl) (by simp) ?_
  refine AllReadyH.cons rfl (fun K hK => ?_) AllReadyH.nil
  have y1 : Z.cell? ⟨e, 0, none⟩ = some z0 := hZE.cell 0
  have y2 : Z.frozen? ⟨e, 0, none⟩ = false := hZE.frozen 0
  go_simp
  have hYE := hZE.set_ 0 (.int .i64 r)
  have hYB := hZB.far (p := ⟨e, 0, none⟩) hbe (.int .i64 r)
  have hYM := hZM.setCell (p := ⟨e, 0, none⟩) (.inl (by simp)) (.int .i64 r)
  generalize hY : Z.setCell ⟨e, 0, none⟩ (.int .i64 r) = Y at *
  clear hY
  refine hK.out _ _ ⟨hYM, ⟨_, hYB, rfl⟩, _, hYE⟩ (fun hHeld => ?_)
  clear hK K
  (try simp only [Act.put, gTl, g0l, gSl, sTl, s0l, sSl])
  refine wpAnyH_done (by kernel_rfl) ?_ _
  go_wp2_with fail
  refine ⟨rfl, _, rfl, .tuple #[], results_none rfl _ _ _, rfl, rfl, HE.out.of_ext.trans hYM, hYB, hYE⟩
theorem ofc_idle (b e : Nat) (w : World) :
    CallsD Tryz.prog 68 #[.pointer (some ⟨b, 0, none⟩), .pointer (some ⟨e, 0, none⟩)] .returning w fun x u' w' => x = .returned (.tuple #[]) ∧ u' = .returning ∧ Ext w w' := by
  have hta : ∀ (I : TypeId) (W : World), (Instr.typeAssert .nilIface I 106 true).run Tryz.prog W = .ok (.tuple #[.agg #[.int .i64 0], .bool false]) W := fun I W => by kernel_rfl
  refine callsD_of_wpS Tryz.func68 rfl fun c₀ cs hu => ?_
  apply wpS_seq
  apply wpS_region
  simp [wpOpsS, go_sem, recoverD, hu, hta, Tryz.ntmps68, Exit.thenS, Array.replicate, List.replicate]
  refine wpS_of_wp ?_
  have HE : Hid (Ext w (w.alloc (.cells #[.int .i64 0] 106))) := hid ((Mod.refl [] w).alloc _)
  generalize w.alloc (.cells #[.int .i64 0] 106) = V at *
  clear hta
  go_wp2_with fail
  cases c₀
  simp only at hu
  subst hu
  exact ⟨rfl, _, rfl, .tuple #[], results_none rfl _ _ _, rfl, rfl, HE.out⟩
end Go.Proofs.YtfgipgpbjfhflaaGreat


namespace Go.Proofs.YtfgipgpbjfhflaaGreat
open Go.RowKit
set_option linter.unusedVariables false
set_option linter.unusedSimpArgs false

/-- A reader's cells. -/
abbrev rdC (p : PV) (s : List UInt8) (bad : Bool) : Array Value := #[.int .u64 (p.fl : Int), .int .i64 p.crc, .int .i64 p.d.sch, str p.d.name, .int .u64 (p.d.node : Int), .int .u64 (p.d.svc : Int), .int .i64 p.s.sch, str p.s.name, .int .u64 (p.s.node : Int), .int .u64 (p.s.svc : Int), .int .i64 p.r.sch, str p.r.name, .int .u64 (p.r.node : Int), .int .u64 (p.r.svc : Int), .int .u64 (p.t : Int), .int .u64 (p.q : Int), .int .u64 (p.l : Int), .int .u64 (p.o : Int), .int .u64 (p.n : Int), str s, .bool bad]
/-- The call turns the reader alone. -/
def Chk (R : Nat) (p : PV) (s : List UInt8) (bad : Bool) (w : World) (e : Ending) (w' : World) : Prop := e = .returned (.tuple #[]) ∧ Mod [R] w w' ∧ Blk w' R 97 (rdC p s bad)
set_option maxRecDepth 20000 in
theorem pchk_false_false (R : Nat) (p : PV) (s : List UInt8) (w : World) (h : Blk w R 97 (rdC p s false)) : Calls Tryz.prog 90 #[.pointer (some ⟨R, 0, none⟩), .bool false] w (Chk R p s true w) := by
  have c0 : w.cell? ⟨R, 20, none⟩ = some (.bool false) := h.cell 20
  have c1 : w.frozen? ⟨R, 20, none⟩ = false := h.frozen 20
  have HB : Hid (Blk (w.setCell ⟨R, 20, none⟩ (.bool true)) R 97 (rdC p s true)) := hid (h.set_ 20 (.bool true))
  have HM : Hid (Mod [R] w (w.setCell ⟨R, 20, none⟩ (.bool true))) := hid ((Mod.refl _ _).setCell (.inl (by simp)) _)
  clear h
  go_enter Tryz.func90, Tryz.ntmps90
  go_wp2_with fail
  refine bodyPost_ret (results_none rfl _ _ _) rfl ?_
  exact ⟨rfl, HM.out, HB.out⟩
set_option maxRecDepth 20000 in
theorem pchk_false_true (R : Nat) (p : PV) (s : List UInt8) (w : World) (h : Blk w R 97 (rdC p s false)) : Calls Tryz.prog 90 #[.pointer (some ⟨R, 0, none⟩), .bool true] w (Chk R p s false w) := by
  have c0 : w.cell? ⟨R, 20, none⟩ = some (.bool false) := h.cell 20
  have c1 : w.frozen? ⟨R, 20, none⟩ = false := h.frozen 20
  have HB : Hid (Blk (w.setCell ⟨R, 20, none⟩ (.bool false)) R 97 (rdC p s false)) := hid (h.set_ 20 (.bool false))
  have HM : Hid (Mod [R] w (w.setCell ⟨R, 20, none⟩ (.bool false))) := hid ((Mod.refl _ _).setCell (.inl (by simp)) _)
  clear h
  go_enter Tryz.func90, Tryz.ntmps90
  go_wp2_with fail
  refine bodyPost_ret (results_none rfl _ _ _) rfl ?_
  exact ⟨rfl, HM.out, HB.out⟩
set_option maxRecDepth 20000 in
theorem pchk_true_false (R : Nat) (p : PV) (s : List UInt8) (w : World) (h : Blk w R 97 (rdC p s true)) : Calls Tryz.prog 90 #[.pointer (some ⟨R, 0, none⟩), .bool false] w (Chk R p s true w) := by
  have c0 : w.cell? ⟨R, 20, none⟩ = some (.bool true) := h.cell 20
  have c1 : w.frozen? ⟨R, 20, none⟩ = false := h.frozen 20
  have HB : Hid (Blk (w.setCell ⟨R, 20, none⟩ (.bool true)) R 97 (rdC p s true)) := hid (h.set_ 20 (.bool true))
  have HM : Hid (Mod [R] w (w.setCell ⟨R, 20, none⟩ (.bool true))) := hid ((Mod.refl _ _).setCell (.inl (by simp)) _)
  clear h
  go_enter Tryz.func90, Tryz.ntmps90
  go_wp2_with fail
  refine bodyPost_ret (results_none rfl _ _ _) rfl ?_
  exact ⟨rfl, HM.out, HB.out⟩
set_option maxRecDepth 20000 in
theorem pchk_true_true (R : Nat) (p : PV) (s : List UInt8) (w : World) (h : Blk w R 97 (rdC p s true)) : Calls Tryz.prog 90 #[.pointer (some ⟨R, 0, none⟩), .bool true] w (Chk R p s true w) := by
  have c0 : w.cell? ⟨R, 20, none⟩ = some (.bool true) := h.cell 20
  have c1 : w.frozen? ⟨R, 20, none⟩ = false := h.frozen 20
  have HB : Hid (Blk (w.setCell ⟨R, 20, none⟩ (.bool true)) R 97 (rdC p s true)) := hid (h.set_ 20 (.bool true))
  have HM : Hid (Mod [R] w (w.setCell ⟨R, 20, none⟩ (.bool true))) := hid ((Mod.refl _ _).setCell (.inl (by simp)) _)
  clear h
  go_enter Tryz.func90, Tryz.ntmps90
  go_wp2_with fail
  refine bodyPost_ret (results_none rfl _ _ _) rfl ?_
  exact ⟨rfl, HM.out, HB.out⟩
theorem pchk (R : Nat) (p : PV) (s : List UInt8) (bad ok : Bool) (w : World) (h : Blk w R 97 (rdC p s bad)) : Calls Tryz.prog 90 #[.pointer (some ⟨R, 0, none⟩), .bool ok] w (Chk R p s (bad || !ok) w) := by
  cases bad <;> cases ok
  · exact pchk_false_false R p s w h
  · exact pchk_false_true R p s w h
  · exact pchk_true_false R p s w h
  · exact pchk_true_true R p s w h
def cntN (fl k : Nat) : Nat := 8 + ((if fl % 2 = 1 then 2 else 0) + (if k = 1 ∨ k = 2 then 1 else 0))
set_option maxRecDepth 20000 in
set_option maxHeartbeats 800000 in
theorem pcount (fl k : Nat) (hf : fl < 18446744073709551616) (hk : k < 18446744073709551616) (w : World) : Calls Tryz.prog 92 #[.int .u64 (fl : Int), .int .u64 (k : Int)] w (Ret (.int .i64 (cntN fl k : Nat)) w) := by
  have hb' : bits .and .u64 (fl : Int) 1 = if fl % 2 = 1 then 1 else 0 := by
    have hb := u64_and_powP fl 0 hf (by decide)
    rw [Nat.pow_zero, Nat.div_one] at hb
    exact hb
  have k0 : (0 : Int) ≤ (k : Int) := by omega
  by_cases h1 : fl % 2 = 1
  case pos =>
    have ha : bits .and .u64 (fl : Int) 1 = 1 := by rw [hb', if_pos h1]
    by_cases k1 : k = 1
    case pos =>
      have HC : Hid (cntN fl k = 11) := hid (by unfold cntN; rw [if_pos h1, if_pos (by omega)])
      have t1a : (((k : Int)) == (1)) = true := by rw [beq_iff_eq]; omega
      have t1b : (((k : Int)) = (1)) = True := eq_true (by omega)
      have t1c : (((k : Int)) != (1)) = false := by rw [bne_eq_false_iff_eq]; omega
      have s1a : ((k) == (1)) = true := by rw [beq_iff_eq]; omega
      have s1b : ((k) = (1)) = True := eq_true (by omega)
      have s1c : ((k) != (1)) = false := by rw [bne_eq_false_iff_eq]; omega
      have t2a : (((k : Int)) == (2)) = false := by rw [beq_eq_false_iff_ne]; omega
      have t2b : (((k : Int)) = (2)) = False := eq_false (by omega)
      have t2c : (((k : Int)) != (2)) = true := by rw [bne_iff_ne]; omega
      have s2a : ((k) == (2)) = false := by rw [beq_eq_false_iff_ne]; omega
      have s2b : ((k) = (2)) = False := eq_false (by omega)
      have s2c : ((k) != (2)) = true := by rw [bne_iff_ne]; omega
      clear hb' h1 hf hk k1
      go_enter Tryz.func92, Tryz.ntmps92
      go_wp2_with fail
      go_ret
      exact Ret.mk (by rw [HC.out]; rfl) (Mod.refl [] w)
    by_cases k2 : k = 2
    case pos =>
      have HC : Hid (cntN fl k = 11) := hid (by unfold cntN; rw [if_pos h1, if_pos (by omega)])
      have t1a : (((k : Int)) == (1)) = false := by rw [beq_eq_false_iff_ne]; omega
      have t1b : (((k : Int)) = (1)) = False := eq_false (by omega)
      have t1c : (((k : Int)) != (1)) = true := by rw [bne_iff_ne]; omega
      have s1a : ((k) == (1)) = false := by rw [beq_eq_false_iff_ne]; omega
      have s1b : ((k) = (1)) = False := eq_false (by omega)
      have s1c : ((k) != (1)) = true := by rw [bne_iff_ne]; omega
      have t2a : (((k : Int)) == (2)) = true := by rw [beq_iff_eq]; omega
      have t2b : (((k : Int)) = (2)) = True := eq_true (by omega)
      have t2c : (((k : Int)) != (2)) = false := by rw [bne_eq_false_iff_eq]; omega
      have s2a : ((k) == (2)) = true := by rw [beq_iff_eq]; omega
      have s2b : ((k) = (2)) = True := eq_true (by omega)
      have s2c : ((k) != (2)) = false := by rw [bne_eq_false_iff_eq]; omega
      clear hb' h1 hf hk k2 k1
      go_enter Tryz.func92, Tryz.ntmps92
      go_wp2_with fail
      go_ret
      exact Ret.mk (by rw [HC.out]; rfl) (Mod.refl [] w)
    have HC : Hid (cntN fl k = 10) := hid (by unfold cntN; rw [if_pos h1, if_neg (by omega)])
    have t1a : (((k : Int)) == (1)) = false := by rw [beq_eq_false_iff_ne]; omega
    have t1b : (((k : Int)) = (1)) = False := eq_false (by omega)
    have t1c : (((k : Int)) != (1)) = true := by rw [bne_iff_ne]; omega
    have s1a : ((k) == (1)) = false := by rw [beq_eq_false_iff_ne]; omega
    have s1b : ((k) = (1)) = False := eq_false (by omega)
    have s1c : ((k) != (1)) = true := by rw [bne_iff_ne]; omega
    have t2a : (((k : Int)) == (2)) = false := by rw [beq_eq_false_iff_ne]; omega
    have t2b : (((k : Int)) = (2)) = False := eq_false (by omega)
    have t2c : (((k : Int)) != (2)) = true := by rw [bne_iff_ne]; omega
    have s2a : ((k) == (2)) = false := by rw [beq_eq_false_iff_ne]; omega
    have s2b : ((k) = (2)) = False := eq_false (by omega)
    have s2c : ((k) != (2)) = true := by rw [bne_iff_ne]; omega
    clear hb' h1 hf hk k1 k2
    go_enter Tryz.func92, Tryz.ntmps92
    go_wp2_with fail
    go_ret
    exact Ret.mk (by rw [HC.out]; rfl) (Mod.refl [] w)
  have ha : bits .and .u64 (fl : Int) 1 = 0 := by rw [hb', if_neg h1]
  by_cases k1 : k = 1
  case pos =>
    have HC : Hid (cntN fl k = 9) := hid (by unfold cntN; rw [if_neg h1, if_pos (by omega)])
    have t1a : (((k : Int)) == (1)) = true := by rw [beq_iff_eq]; omega
    have t1b : (((k : Int)) = (1)) = True := eq_true (by omega)
    have t1c : (((k : Int)) != (1)) = false := by rw [bne_eq_false_iff_eq]; omega
    have s1a : ((k) == (1)) = true := by rw [beq_iff_eq]; omega
    have s1b : ((k) = (1)) = True := eq_true (by omega)
    have s1c : ((k) != (1)) = false := by rw [bne_eq_false_iff_eq]; omega
    have t2a : (((k : Int)) == (2)) = false := by rw [beq_eq_false_iff_ne]; omega
    have t2b : (((k : Int)) = (2)) = False := eq_false (by omega)
    have t2c : (((k : Int)) != (2)) = true := by rw [bne_iff_ne]; omega
    have s2a : ((k) == (2)) = false := by rw [beq_eq_false_iff_ne]; omega
    have s2b : ((k) = (2)) = False := eq_false (by omega)
    have s2c : ((k) != (2)) = true := by rw [bne_iff_ne]; omega
    clear hb' h1 hf hk k1
    go_enter Tryz.func92, Tryz.ntmps92
    go_wp2_with fail
    go_ret
    exact Ret.mk (by rw [HC.out]; rfl) (Mod.refl [] w)
  by_cases k2 : k = 2
  case pos =>
    have HC : Hid (cntN fl k = 9) := hid (by unfold cntN; rw [if_neg h1, if_pos (by omega)])
    have t1a : (((k : Int)) == (1)) = false := by rw [beq_eq_false_iff_ne]; omega
    have t1b : (((k : Int)) = (1)) = False := eq_false (by omega)
    have t1c : (((k : Int)) != (1)) = true := by rw [bne_iff_ne]; omega
    have s1a : ((k) == (1)) = false := by rw [beq_eq_false_iff_ne]; omega
    have s1b : ((k) = (1)) = False := eq_false (by omega)
    have s1c : ((k) != (1)) = true := by rw [bne_iff_ne]; omega
    have t2a : (((k : Int)) == (2)) = true := by rw [beq_iff_eq]; omega
    have t2b : (((k : Int)) = (2)) = True := eq_true (by omega)
    have t2c : (((k : Int)) != (2)) = false := by rw [bne_eq_false_iff_eq]; omega
    have s2a : ((k) == (2)) = true := by rw [beq_iff_eq]; omega
    have s2b : ((k) = (2)) = True := eq_true (by omega)
    have s2c : ((k) != (2)) = false := by rw [bne_eq_false_iff_eq]; omega
    clear hb' h1 hf hk k2 k1
    go_enter Tryz.func92, Tryz.ntmps92
    go_wp2_with fail
    go_ret
    exact Ret.mk (by rw [HC.out]; rfl) (Mod.refl [] w)
  have HC : Hid (cntN fl k = 8) := hid (by unfold cntN; rw [if_neg h1, if_neg (by omega)])
  have t1a : (((k : Int)) == (1)) = false := by rw [beq_eq_false_iff_ne]; omega
  have t1b : (((k : Int)) = (1)) = False := eq_false (by omega)
  have t1c : (((k : Int)) != (1)) = true := by rw [bne_iff_ne]; omega
  have s1a : ((k) == (1)) = false := by rw [beq_eq_false_iff_ne]; omega
  have s1b : ((k) = (1)) = False := eq_false (by omega)
  have s1c : ((k) != (1)) = true := by rw [bne_iff_ne]; omega
  have t2a : (((k : Int)) == (2)) = false := by rw [beq_eq_false_iff_ne]; omega
  have t2b : (((k : Int)) = (2)) = False := eq_false (by omega)
  have t2c : (((k : Int)) != (2)) = true := by rw [bne_iff_ne]; omega
  have s2a : ((k) == (2)) = false := by rw [beq_eq_false_iff_ne]; omega
  have s2b : ((k) = (2)) = False := eq_false (by omega)
  have s2c : ((k) != (2)) = true := by rw [bne_iff_ne]; omega
  clear hb' h1 hf hk k1 k2
  go_enter Tryz.func92, Tryz.ntmps92
  go_wp2_with fail
  go_ret
  exact Ret.mk (by rw [HC.out]; rfl) (Mod.refl [] w)
end Go.Proofs.YtfgipgpbjfhflaaGreat


namespace Go.Proofs.YtfgipgpbjfhflaaGreat
open Go.RowKit
set_option linter.unusedVariables false
set_option linter.unusedSimpArgs false

theorem infoBlock : (Tryz.prog.info? 42).map (fun i => (i.zero, i.size, i.bytes)) = some (some (.agg #[.int .i64 0, .int .i64 0, .int .u64 0, .int .i64 0, .string ⟨#[]⟩]), 5, 48) := by kernel_rfl
/-- The row's cells: the first i blocks'. -/
def flatB (bs : Nat → BV) : Nat → List Value
  | 0 => []
  | i + 1 => flatB bs i ++ [.int .i64 (bs i).ty, .int .i64 (bs i).num, .int .u64 ((bs i).fl : Int), .int .i64 (bs i).crc, str (bs i).data]
theorem flatB_length (bs : Nat → BV) (i : Nat) : (flatB bs i).length = i * 5 := by
  induction i with
  | zero => rfl
  | succ i ih => rw [flatB, List.length_append, ih]; simp; omega
theorem flatB_get (bs : Nat → BV) (i : Nat) : ∀ j, j < i → (flatB bs i)[j * 5]? = some (.int .i64 (bs j).ty) ∧ (flatB bs i)[j * 5 + 1]? = some (.int .i64 (bs j).num) ∧ (flatB bs i)[j * 5 + 2]? = some (.int .u64 ((bs j).fl : Int)) ∧
    (flatB bs i)[j * 5 + 3]? = some (.int .i64 (bs j).crc) ∧ (flatB bs i)[j * 5 + 4]? = some (str (bs j).data) := by
  induction i with
  | zero => intro j hj; omega
  | succ i ih =>
    intro j hj
    have hl := flatB_length bs i
    rw [flatB]
    by_cases e : j = i
    · subst e
      refine ⟨?_, ?_, ?_, ?_, ?_⟩ <;> (rw [List.getElem?_append_right (by omega), hl]; simp)
    · have := ih j (by omega)
      refine ⟨?_, ?_, ?_, ?_, ?_⟩ <;> rw [List.getElem?_append_left (by omega)]
      · exact this.1
      · exact this.2.1
      · exact this.2.2.1
      · exact this.2.2.2.1
      · exact this.2.2.2.2
/-- One block's cells, just made. -/
theorem newsB (W : World) (b : BV) : ∀ j u, [Value.int .i64 b.ty, .int .i64 b.num, .int .u64 (b.fl : Int), .int .i64 b.crc, str b.data][j]? = some u →
    (W.alloc (.cells (BV.c b) 42)).cell? ((⟨W.heap.size, 0, none⟩ : Addr).add j) = some u := by
  intro j u hj
  rw [addr_add, Nat.zero_add]
  rw [(Blk.new W 42 (BV.c b)).cell j]
  simpa using hj
theorem oneB (b : BV) : ∀ u ∈ [Value.int .i64 b.ty, .int .i64 b.num, .int .u64 (b.fl : Int), .int .i64 b.crc, str b.data], u.oneCell' = true := by
  intro u hu
  simp at hu
  rcases hu with rfl | rfl | rfl | rfl | rfl <;> rfl
/-- A row of one's own lies in memory as a bundle's blocks do. -/
theorem own_BsL {W : World} {base k c : Nat} {A : Option Addr} {bs : Nat → BV} (h : W.ownsRow base 42 5 (.slice A k c) k (flatB bs k)) : BsL W A k bs := by
  intro h0
  obtain ⟨k', rfl⟩ : ∃ k', k = k' + 1 := ⟨k - 1, by omega⟩
  obtain ⟨g, c', hv, hb, hlt⟩ := own_form h
  simp only [Value.slice.injEq] at hv
  obtain ⟨rfl, _, rfl⟩ := hv
  refine ⟨g, 0, rfl, hlt, fun i hi => ?_⟩
  obtain ⟨g0, g1, g2, g3, g4⟩ := flatB_get bs (k' + 1) i hi
  refine ⟨?_, ?_, ?_, ?_, ?_⟩ <;> rw [Nat.zero_add]
  · exact own_cells h g0
  · exact own_cells h g1
  · exact own_cells h g2
  · exact own_cells h g3
  · exact own_cells h g4
/-- Which blocks an append turns: the row's own. -/
theorem own_turned {w2 w4 : World} {base n size : Nat} {e : TypeId} {v : Value} {xs : List Value} (h : w2.ownsRow base e size v n xs) {w : World} {S : List Nat} (hw : Mod S w w2) (hgr : w2.grownBy w4 v.ownBlock) (hb : w.heap.size ≤ base) : Mod S w w4 :=
  hw.grown hgr (fun k hk => .inr (Nat.le_trans hb (h.lt k hk).1))
theorem own_far {w2 w4 : World} {base n size : Nat} {e : TypeId} {v : Value} {xs : List Value} (h : w2.ownsRow base e size v n xs) (hgr : w2.grownBy w4 v.ownBlock) {b : Nat} {ty : TypeId} {cs : Array Value} (hB : Blk w2 b ty cs) (hbN : b < base) : Blk w4 b ty cs :=
  (hgr.block b hB.lt (fun e => by have := (h.lt b e.symm).1; omega)).trans hB
end Go.Proofs.YtfgipgpbjfhflaaGreat


namespace Go.Proofs.YtfgipgpbjfhflaaGreat
open Go.RowKit
set_option linter.unusedVariables false
set_option linter.unusedSimpArgs false

theorem infoU64 : (Tryz.prog.info? 22).map (fun i => (i.zero, i.size, i.bytes)) = some (some (.int .u64 0), 1, 8) := by kernel_rfl
/-- The first i numbers, as cells. -/
def flatN (f : Nat → Nat) : Nat → List Value
  | 0 => []
  | i + 1 => flatN f i ++ [.int .u64 (f i : Int)]
theorem flatN_length (f : Nat → Nat) : ∀ i, (flatN f i).length = i
  | 0 => rfl
  | i + 1 => by simp [flatN, flatN_length f i]
theorem flatN_get (f : Nat → Nat) : ∀ (k i : Nat), i < k → (flatN f k)[i]? = some (.int .u64 (f i : Int))
  | k + 1, i, h => by
    unfold flatN
    by_cases e : i < k
    · rw [List.getElem?_append_left (by rw [flatN_length]; exact e)]; exact flatN_get f k i e
    · obtain rfl : i = k := by omega
      rw [List.getElem?_append_right (by rw [flatN_length]; exact Nat.le_refl _), flatN_length]; simp
/-- What nums answers. -/
def NumsPost (ch : Nat → T) (k : Nat) (w : World) (e : Ending) (w' : World) : Prop := Ext w w' ∧
  (((∀ i, i < k → (ch i).kind = 0) ∧ ∃ A c, e = .returned (.tuple #[.slice A k c, .bool true]) ∧ w'.ownsRow w.heap.size 22 1 (.slice A k c) k (flatN (fun i => (ch i).n) k)) ∨
   ((∃ i, i < k ∧ (ch i).kind ≠ 0) ∧ e = .returned (.tuple #[.slice none 0 0, .bool false])))
set_option maxRecDepth 20000 in
set_option maxHeartbeats 4000000 in
theorem pnums (ch : Nat → T) (ac : Nat → Option Addr × Nat) (k c b o : Nat) (hk : k ≤ 1000) (w : World) (hb : b < w.heap.size) (hc : ∀ i, i < k → At5 w b (o + i * 5) (ch i) (ac i).1 (ac i).2) : Calls Tryz.prog 91 #[.slice (some ⟨b, o, none⟩) k c] w (NumsPost ch k w) := by
  have HC := hid (fun (W : World) (hW : Ext w W) i (hi : i < k) => (hc i hi).mod hW hb (by simp))
  have HK := hid hk
  have k0 : (k : Int) ≤ 1000 := by omega
  have HW0 := hid (Mod.refl [] w)
  clear hc hk hb
  go_enter Tryz.func91, Tryz.ntmps91
  go_wp2_with fail
  go_loopw [4, 9] (fun s4 s9 wr => ∃ (i : Nat) (A' : Option Addr) (c' : Nat), s9 = .int .i64 (i : Int) ∧ s4 = .slice A' i c' ∧ Hid (i ≤ k ∧ Ext w wr ∧ wr.ownsRow w.heap.size 22 1 (.slice A' i c') i (flatN (fun j => (ch j).n) i) ∧ ∀ j, j < i → (ch j).kind = 0)) (fun _ s9 _ => k - (intOf s9).toNat)
  case atStart => exact ⟨0, none, 0, rfl, rfl, (show Hid _ from ⟨Nat.zero_le _, HW0.out, World.ownsRow_nil _ _ _ _, fun j hj => by omega⟩)⟩
  case round =>
    clear HW0
    obtain ⟨i, A', c', rfl, rfl, hS⟩ := hrel
    rename World => wr
    have i0 : (0 : Int) ≤ (i : Int) := by omega
    by_cases hlt : i < k
    · obtain ⟨q0, q1, q2, q3, q4⟩ := HC.out wr hS.out.2.1 i hlt
      have tc : decide (i < k) = true := by simp [hlt]
      have i1 : (i : Int) < (k : Int) := by omega
      have HLT := hid hlt
      clear hlt
      go_upto_region 5 with fail
      generalize hW1 : World.alloc wr _ = W1
      have HG1 : Hid (Blk W1 wr.heap.size 52 (itemC (ch i) (ac i).1 (ac i).2)) := hid (by rw [← hW1]; exact Blk.new _ _ _)
      have hS1 : Hid (i ≤ k ∧ Ext w W1 ∧ W1.ownsRow w.heap.size 22 1 (.slice A' i c') i (flatN (fun j => (ch j).n) i) ∧ ∀ j, j < i → (ch j).kind = 0) := hid (by
        have h := hS.out
        rw [← hW1]; exact ⟨h.1, h.2.1.alloc _, h.2.2.1.alloc _, h.2.2.2⟩)
      have HSZ : Hid (w.heap.size ≤ wr.heap.size) := hid hS.out.2.1.size
      clear hW1 hS q0 q1 q2 q3 q4
      generalize wr.heap.size = G at *
      have g0 : W1.cell? ⟨G, 0, none⟩ = some (.int .i64 (ch i).kind) := HG1.out.cell 0
      have g1 : W1.cell? ⟨G, 1, none⟩ = some (.int .u64 ((ch i).n : Int)) := HG1.out.cell 1
      by_cases hk0 : (ch i).kind = 0
      case neg =>
        have HNK := hid hk0
        have tka : (((ch i).kind) == (0)) = false := by rw [beq_eq_false_iff_ne]; exact hk0
        have tkb : (((ch i).kind) = (0)) = False := eq_false (by exact hk0)
        have tkc : (((ch i).kind) != (0)) = true := by rw [bne_iff_ne]; exact hk0
        clear hk0
        go_wp2_with fail
        refine bodyPost_ret (v := .tuple #[.slice none 0 0, .bool false]) (by simp [results, Tryz.results91, go_sem]) rfl ?_
        exact ⟨hS1.out.2.1, .inr ⟨⟨i, HLT.out, HNK.out⟩, rfl⟩⟩
      have HNK := hid hk0
      have tka : (((ch i).kind) == (0)) = true := by rw [beq_iff_eq]; exact hk0
      have tkb : (((ch i).kind) = (0)) = True := eq_true (by exact hk0)
      have tkc : (((ch i).kind) != (0)) = false := by rw [bne_eq_false_iff_eq]; exact hk0
      clear hk0
      obtain ⟨ib, hi, hz0, hz1, hz2⟩ := info_parts infoU64
      go_wp2_with (at_builtin; refine wpList_append_own _ rfl _ _ 128 rfl w.heap.size 22 ib _ 1 8 Tryz.underlying128 hi hz0 hz1 hz2 rfl (by decide) _ _ _ rfl (hS1.out.2.2.1.alloc _) ⟨W1.heap.size, 0, none⟩ 1 1 [.int .u64 ((ch i).n : Int)] rfl rfl (fun j u hu => by (match j, hu with | 0, hu => (simp at hu; subst hu; rw [addr_add]; exact (Blk.new _ _ _).cell 0))) (by simp [Value.oneCell']) (by have := HLT.out; have := HK.out; simp [maxLen]; omega) (by have := HLT.out; have := HK.out; omega) (by have := hS1.out.2.1.size; simp; omega) ?_; intro v' w4 hown' hgrow _; obtain ⟨g', c4, rfl, hg', hlt'⟩ := own_form hown'; have hE4 := own_turned (hS1.out.2.2.1.alloc _) (hS1.out.2.1.alloc _) hgrow (Nat.le_refl _); have HO4 := hid hown'; have HE4 := hid hE4; clear hown' hgrow hE4 hg' hlt')
      go_roundw
      case rel => exact ⟨i + 1, some ⟨g', 0, none⟩, c4, by go_num, rfl, (show Hid _ from ⟨HLT.out, HE4.out, by simpa [flatN] using HO4.out, fun j hj => by by_cases e : j = i; (subst e; exact HNK.out); exact hS1.out.2.2.2 j (by omega)⟩)⟩
      case measure => have := HLT.out; simp [intOf]; omega
    · obtain rfl : i = k := by have := hS.out.1; omega
      have tc : decide (i < i) = false := by simp
      go_wp2_with fail
      refine bodyPost_ret (v := .tuple #[.slice A' i c', .bool true]) (by simp [results, Tryz.results91, go_sem]) rfl ?_
      exact ⟨hS.out.2.1, .inl ⟨hS.out.2.2.2, A', c', rfl, hS.out.2.2.1⟩⟩
end Go.Proofs.YtfgipgpbjfhflaaGreat


namespace Go.Proofs.YtfgipgpbjfhflaaGreat
open Go.RowKit
set_option linter.unusedVariables false
set_option linter.unusedSimpArgs false

end Go.Proofs.YtfgipgpbjfhflaaGreat


namespace Go.Proofs.YtfgipgpbjfhflaaGreat
open Go.RowKit
set_option linter.unusedVariables false
set_option linter.unusedSimpArgs false

theorem Blk.thereAt {W : World} {b : Nat} {t : TypeId} {cs : Array Value} (h : Blk W b t cs) {o n : Nat} (hn : o + n ≤ cs.size) : W.there b o n := fun j hj => by
  refine ⟨?_, h.frozen (o + j)⟩
  rw [h.cell (o + j), Array.getElem?_eq_getElem (by omega)]; rfl
theorem setCells_part {t : TypeId} {b : Nat} {W : World} {cs : Array Value} (h : Blk W b t cs) (i : Nat) (l : List Value) : Blk (W.setCells b i l) b t (writeFrom cs i l) := setRow_eq l W i ▸ setRow_blk l W i cs h
/-- The name that an item may be; zero, where it is none's. -/
def nmE (t : T) : EV := if ofB t then readE t else zeroE
/-- The reader behind i of the names. -/
def nmP (p : PV) (ch : Nat → T) : Nat → PV
  | 0 => p
  | 1 => { p with d := nmE (ch 0) }
  | 2 => { p with d := nmE (ch 0), s := nmE (ch 1) }
  | _ => { p with d := nmE (ch 0), s := nmE (ch 1), r := nmE (ch 2) }
def nmB (bad : Bool) (ch : Nat → T) : Nat → Bool
  | 0 => bad
  | i + 1 => nmB bad ch i || !ofB (ch i)
set_option maxRecDepth 20000 in
set_option maxHeartbeats 8000000 in
theorem pnames (R : Nat) (p : PV) (s : List UInt8) (bad : Bool) (ch : Nat → T) (ac : Nat → Option Addr × Nat) (b o k c : Nat) (hk : k = 3) (w : World) (h : Blk w R 97 (rdC p s bad)) (hok : ∀ i, i < 3 → (ch i).ok) (hb : b < w.heap.size) (hbR : b ≠ R) (hc : ∀ i, i < 3 → At5 w b (o + i * 5) (ch i) (ac i).1 (ac i).2) (hl : ∀ i, i < 3 → IsL w (fun n => n ≠ R) (ch i) (ac i).1) : Calls Tryz.prog 93 #[.pointer (some ⟨R, 0, none⟩), .slice (some ⟨b, o, none⟩) k c] w (Chk R (nmP p ch 3) s (nmB bad ch 3) w) := by
  subst hk
  have HR := hid h
  have HC := hid (fun (W : World) (hW : Mod [R] w W) i (hi : i < 3) => (hc i hi).mod hW hb (by simpa using hbR))
  have HI := hid (fun (W : World) (hW : Mod [R] w W) i (hi : i < 3) => IsL.weak (R := fun _ => True) (fun _ _ _ => trivial) _ (IsL.mod hW (fun k hk _ => by simpa using hk) _ (hl i hi)))
  have KO : Hid (∀ i, i < 3 → ∀ W, IsL W (fun _ => True) (ch i) (ac i).1 → Calls Tryz.prog 119 #[itemV (ch i) (ac i).1 (ac i).2] W (Ret (.tuple #[(nmE (ch i)).v, .int .i64 (if ofB (ch i) = true then 0 else 2)]) W)) := hid (fun i hi W hW => eidOf_any (ch i) (hok i hi) (ac i).1 (ac i).2 W hW)
  have HRL := hid h.lt
  clear h hok hb hbR hc hl
  go_enter Tryz.func93, Tryz.ntmps93
  go_upto_region 0 with fail
  go_cut [20, 21, 22] (fun s20 s21 s22 wx => ∃ G, s20 = .slice (some ⟨G, 0, none⟩) 3 3 ∧ s21 = .int .i64 3 ∧ s22 = .int .i64 0 ∧ Hid (Ext w wx ∧ w.heap.size ≤ G ∧ Blk wx G 155 #[.pointer (some ⟨R, 2, none⟩), .pointer (some ⟨R, 6, none⟩), .pointer (some ⟨R, 10, none⟩)]))
  case first =>
    refine wp_region_held_drew (S := fun w' => Ext w w') (by kernel_rfl) (Mod.refl _ _).drew (fun hHeld => ?_)
    generalize w.drew = u0 at *
    refine' wpAnyH_take (i := 0) (v := _) rfl (by kernel_rfl) (by kernel_rfl) (by kernel_rfl) (fun _ _ _ h => h) (Or.inl ⟨by rfl, ?hy1⟩) hHeld ?rest1
    case hy1 => (rintro W hM; go_simp; (try with_reducible rfl))
    case rest1 =>
    (try simp only [Act.put, gTl, g0l, gSl, sTl, s0l, sSl])
    refine' wpAnyH_take (i := 1) (v := _) rfl (by kernel_rfl) (by kernel_rfl) (by kernel_rfl) (fun _ _ _ h => h) (Or.inl ⟨by rfl, ?hy2⟩) hHeld ?rest2
    case hy2 => (rintro W hM; go_simp; (try with_reducible rfl))
    case rest2 =>
    (try simp only [Act.put, gTl, g0l, gSl, sTl, s0l, sSl])
    refine' wpAnyH_take (i := 2) (v := _) rfl (by kernel_rfl) (by kernel_rfl) (by kernel_rfl) (fun _ _ _ h => h) (Or.inl ⟨by rfl, ?hy3⟩) hHeld ?rest3
    case hy3 => (rintro W hM; go_simp; (try with_reducible rfl))
    case rest3 =>
    (try simp only [Act.put, gTl, g0l, gSl, sTl, s0l, sSl])
    refine' wpAnyH_take (i := 3) (v := _) rfl (by kernel_rfl) (by kernel_rfl) (by kernel_rfl) (fun _ _ _ h => h) (Or.inl ⟨by rfl, ?hy4⟩) hHeld ?rest4
    case hy4 => (rintro W hM; go_simp; (try with_reducible rfl))
    case rest4 =>
    (try simp only [Act.put, gTl, g0l, gSl, sTl, s0l, sSl])
    refine' wpAnyH_take (i := 4) (v := _) rfl (by kernel_rfl) (by kernel_rfl) (by kernel_rfl) (fun _ _ _ h => h) (Or.inl ⟨by rfl, ?hy5⟩) hHeld ?rest5
    case hy5 => (rintro W hM; go_simp; (try with_reducible rfl))
    case rest5 =>
    (try simp only [Act.put, gTl, g0l, gSl, sTl, s0l, sSl])
    refine' wpAnyH_take (i := 5) (v := _) rfl (by kernel_rfl) (by kernel_rfl) (by kernel_rfl) (fun _ _ _ h => h) (Or.inl ⟨by rfl, ?hy6⟩) hHeld ?rest6
    case hy6 => (rintro W hM; go_simp; (try with_reducible rfl))
    case rest6 =>
    (try simp only [Act.put, gTl, g0l, gSl, sTl, s0l, sSl])
    refine' wpAnyH_take (i := 6) (v := _) rfl (by kernel_rfl) (by kernel_rfl) (by kernel_rfl) (fun _ _ _ h => h) (Or.inl ⟨by rfl, ?hy7⟩) hHeld ?rest7
    case hy7 => (rintro W hM; go_simp; (try with_reducible rfl))
    case rest7 =>
    (try simp only [Act.put, gTl, g0l, gSl, sTl, s0l, sSl])
    refine' wpAnyH_take (i := 7) (v := _) rfl (by kernel_rfl) (by kernel_rfl) (by kernel_rfl) (fun _ _ _ h => h) (Or.inl ⟨by rfl, ?hy8⟩) hHeld ?rest8
    case hy8 => (rintro W hM; go_simp; (try with_reducible rfl))
    case rest8 =>
    (try simp only [Act.put, gTl, g0l, gSl, sTl, s0l, sSl])
    refine' wpAnyH_take (i := 8) (v := _) rfl (by kernel_rfl) (by kernel_rfl) (by kernel_rfl) (fun _ _ _ h => h) (Or.inl ⟨by rfl, ?hy9⟩) hHeld ?rest9
    case hy9 => (rintro W hM; go_simp; (try with_reducible rfl))
    case rest9 =>
    (try simp only [Act.put, gTl, g0l, gSl, sTl, s0l, sSl])
    refine' wpAnyH_take (i := 9) (v := _) rfl (by kernel_rfl) (by kernel_rfl) (by kernel_rfl) (fun _ _ _ h => h) (Or.inl ⟨by rfl, ?hy10⟩) hHeld ?rest10
    case hy10 => (rintro W hM; go_simp; (try with_reducible rfl))
    case rest10 =>
    (try simp only [Act.put, gTl, g0l, gSl, sTl, s0l, sSl])
    refine' wpAnyH_take (i := 10) (v := _) rfl (by kernel_rfl) (by kernel_rfl) (by kernel_rfl) (fun _ _ _ h => h) (Or.inl ⟨by rfl, ?hy11⟩) hHeld ?rest11
    case hy11 => (rintro W hM; go_simp; (try with_reducible rfl))
    case rest11 =>
    (try simp only [Act.put, gTl, g0l, gSl, sTl, s0l, sSl])
    refine' wpAnyH_take (i := 11) (v := _) rfl (by kernel_rfl) (by kernel_rfl) (by kernel_rfl) (fun _ _ _ h => h) (Or.inl ⟨by rfl, ?hy12⟩) hHeld ?rest12
    case hy12 => (rintro W hM; go_simp; (try with_reducible rfl))
    case rest12 =>
    (try simp only [Act.put, gTl, g0l, gSl, sTl, s0l, sSl])
    refine' wpAnyH_take (i := 14) (v := _) rfl (by kernel_rfl) (by kernel_rfl) (by kernel_rfl) (fun _ _ _ h => h) (Or.inl ⟨by rfl, ?hy13⟩) hHeld ?rest13
    case hy13 => (rintro W hM; go_simp; (try with_reducible rfl))
    case rest13 =>
    (try simp only [Act.put, gTl, g0l, gSl, sTl, s0l, sSl])
    refine wpAnyH_ready (rs := [12]) (by kernel_rfl) (by simp) ?_
    refine AllReadyH.cons rfl (fun K hK => ?_) AllReadyH.nil
    go_simp
    generalize hV : World.alloc u0 _ = y1
    have hB : Blk y1 u0.heap.size 155 #[.pointer (some ⟨R, 2, none⟩), .pointer (some ⟨R, 6, none⟩), .pointer (some ⟨R, 10, none⟩)] := by rw [← hV]; exact Blk.new _ _ _
    have hX : Ext u0 y1 := by rw [← hV]; exact (Mod.refl [] _).alloc _
    have hN : w.heap.size ≤ u0.heap.size := hHeld.size
    clear hV
    refine hK.out _ _ (hHeld.trans hX) (fun hHeld => ?_)
    clear hK K
    (try simp only [Act.put, gTl, g0l, gSl, sTl, s0l, sSl])
    refine' wpAnyH_take (i := 13) (v := _) rfl (by kernel_rfl) (by kernel_rfl) (by kernel_rfl) (fun _ _ _ h => h) (Or.inl ⟨by rfl, ?hy14⟩) hHeld ?rest14
    case hy14 => (rintro W hM; go_simp; (try with_reducible rfl))
    case rest14 =>
    (try simp only [Act.put, gTl, g0l, gSl, sTl, s0l, sSl])
    refine wpAnyH_done (by kernel_rfl) ?_ _
    go_wp2_with fail
    go_meet
    exact ⟨_, rfl, rfl, rfl, hHeld, hN, hB⟩
  obtain ⟨G, rfl, rfl, rfl, hG⟩ := hcut
  have hG0 : Hid (Mod [R] w wc ∧ w.heap.size ≤ G ∧ Blk wc G 155 #[.pointer (some ⟨R, 2, none⟩), .pointer (some ⟨R, 6, none⟩), .pointer (some ⟨R, 10, none⟩)] ∧ Blk wc R 97 (rdC p s bad)) := hid ⟨hG.out.1.mono (by simp), hG.out.2.1, hG.out.2.2, HR.out.ext hG.out.1⟩
  have HGR : Hid (G ≠ R) := hid (by have := hG.out.2.1; have := HRL.out; omega)
  clear hG HR
  go_wp2_with fail
  go_loopw [22] (fun s22 wr => ∃ i : Nat, s22 = .int .i64 (i : Int) ∧ Hid (i ≤ 3 ∧ Mod [R] w wr ∧ Blk wr R 97 (rdC (nmP p ch i) s (nmB bad ch i)) ∧ Blk wr G 155 #[.pointer (some ⟨R, 2, none⟩), .pointer (some ⟨R, 6, none⟩), .pointer (some ⟨R, 10, none⟩)])) (fun s22 _ => 3 - (intOf s22).toNat)
  case atStart => exact ⟨0, rfl, hid ⟨Nat.zero_le _, hG0.out.1, hG0.out.2.2.2, hG0.out.2.2.1⟩⟩
  case round =>
    clear hG0
    obtain ⟨i, rfl, hS⟩ := hrel
    rename World => wr
    match i, hS with
    | 0, hS =>
      obtain ⟨q0, q1, q2, q3, q4⟩ := HC.out wr hS.out.2.1 0 (by decide)
      have KI := hid (fun W (hW : Ext wr W) => KO.out 0 (by decide) W (IsL.ext (HI.out wr hS.out.2.1 0 (by decide)) hW))
      have p1 : wr.cell? ⟨G, 0, none⟩ = some (.pointer (some ⟨R, 2, none⟩)) := hS.out.2.2.2.cell 0
      simp only [Nat.zero_mul, Nat.one_mul, Nat.add_zero, Nat.reduceMul] at q0 q1 q2 q3 q4
      go_upto_region 4 with (go_at_call 119; refine (KI.out _ (Mod.refl [] _)).mono ?_; rintro x w1 ⟨rfl, hx⟩; have HX := hid hx; clear hx)
      clear q0 q1 q2 q3 q4 p1 KI
      have hOE : Hid ((((if ofB (ch 0) = true then 0 else 2) : Int) == 0) = ofB (ch 0)) := hid (by cases ofB (ch 0) <;> rfl)
      generalize ((if ofB (ch 0) = true then 0 else 2) : Int) = E at *
      generalize hZ : World.alloc w1 _ = Z
      have BE : Hid (Blk Z w1.heap.size 24 #[.int .i64 (nmE (ch 0)).sch, str (nmE (ch 0)).name, .int .u64 ((nmE (ch 0)).node : Int), .int .u64 ((nmE (ch 0)).svc : Int)]) := hid (by rw [← hZ]; exact Blk.new _ _ _)
      have HZ : Hid (Ext wr Z) := hid (by rw [← hZ]; exact HX.out.alloc _)
      have HNE : Hid (w1.heap.size ≠ R) := hid (by have := HX.out.size; have := hS.out.2.2.1.lt; omega)
      have BR : Hid (Blk Z R 97 (rdC (nmP p ch 0) s (nmB bad ch 0))) := hid (hS.out.2.2.1.ext HZ.out)
      clear hZ HX
      generalize w1.heap.size = NE at *
      go_upto_region 5 with (go_at_call 90; refine (pchk R (nmP p ch 0) s (nmB bad ch 0) _ _ BR.out).mono ?_; rintro x w2 ⟨rfl, hm, hB⟩; have HM := hid hm; have HB := hid hB; clear hm hB)
      rw [hOE.out] at HB
      have BE2 := hid (BE.out.mod HM.out (by simpa using HNE.out))
      have BG2 : Hid (Blk w2 G 155 #[.pointer (some ⟨R, 2, none⟩), .pointer (some ⟨R, 6, none⟩), .pointer (some ⟨R, 10, none⟩)]) := hid ((hS.out.2.2.2.ext HZ.out).mod HM.out (by simpa using HGR.out))
      have HM2 : Hid (Mod [R] w w2) := hid (hS.out.2.1.trans ((HZ.out.mono (by simp)).trans HM.out))
      clear hS BE HZ HM BR HNE hOE
      have z0 := BE2.out.cell 0
      have z1 := BE2.out.cell 1
      have z2 := BE2.out.cell 2
      have z3 := BE2.out.cell 3
      simp only [List.getElem?_toArray, List.getElem?_cons_zero, List.getElem?_cons_succ] at z0 z1 z2 z3
      clear BE2
      go_upto_region 6 with (refine wpList_store_mid rfl 24 _ _ rfl R 2 #[.int .i64 (nmE (ch 0)).sch, str (nmE (ch 0)).name, .int .u64 ((nmE (ch 0)).node : Int), .int .u64 ((nmE (ch 0)).svc : Int)] (by rfl) (by rfl) (HB.out.thereAt (by simp)) (by kernel_rfl) (by simp [Value.oneCell']) ?_)
      have BR3 := hid (setCells_part (b := R) (cs := rdC (nmP p ch 0) s (nmB bad ch 0 || !ofB (ch 0))) HB.out 2 [.int .i64 (nmE (ch 0)).sch, str (nmE (ch 0)).name, .int .u64 ((nmE (ch 0)).node : Int), .int .u64 ((nmE (ch 0)).svc : Int)])
      have HM3 : Hid (Mod [R] w (w2.setCells R 2 [.int .i64 (nmE (ch 0)).sch, str (nmE (ch 0)).name, .int .u64 ((nmE (ch 0)).node : Int), .int .u64 ((nmE (ch 0)).svc : Int)])) := hid (setCells_mod _ _ HM2.out (.inl (by simp)))
      have BG3 : Hid (Blk (w2.setCells R 2 [.int .i64 (nmE (ch 0)).sch, str (nmE (ch 0)).name, .int .u64 ((nmE (ch 0)).node : Int), .int .u64 ((nmE (ch 0)).svc : Int)]) G 155 #[.pointer (some ⟨R, 2, none⟩), .pointer (some ⟨R, 6, none⟩), .pointer (some ⟨R, 10, none⟩)]) := hid (BG2.out.mod (setCells_mod (w := w2) (W := w2) (S := [R]) _ _ (Mod.refl _ _) (.inl (by simp))) (by simpa using HGR.out))
      generalize World.setCells _ R 2 _ = W3 at *
      clear HB HM2 BG2 z0 z1 z2 z3
      go_wp2_with fail
      go_roundw
      case rel => exact ⟨1, rfl, hid ⟨by decide, HM3.out, BR3.out, BG3.out⟩⟩
      case measure => simp [intOf]
    | 1, hS =>
      obtain ⟨q0, q1, q2, q3, q4⟩ := HC.out wr hS.out.2.1 1 (by decide)
      have KI := hid (fun W (hW : Ext wr W) => KO.out 1 (by decide) W (IsL.ext (HI.out wr hS.out.2.1 1 (by decide)) hW))
      have p1 : wr.cell? ⟨G, 1, none⟩ = some (.pointer (some ⟨R, 6, none⟩)) := hS.out.2.2.2.cell 1
      simp only [Nat.zero_mul, Nat.one_mul, Nat.add_zero, Nat.reduceMul] at q0 q1 q2 q3 q4
      go_upto_region 4 with (go_at_call 119; refine (KI.out _ (Mod.refl [] _)).mono ?_; rintro x w1 ⟨rfl, hx⟩; have HX := hid hx; clear hx)
      clear q0 q1 q2 q3 q4 p1 KI
      have hOE : Hid ((((if ofB (ch 1) = true then 0 else 2) : Int) == 0) = ofB (ch 1)) := hid (by cases ofB (ch 1) <;> rfl)
      generalize ((if ofB (ch 1) = true then 0 else 2) : Int) = E at *
      generalize hZ : World.alloc w1 _ = Z
      have BE : Hid (Blk Z w1.heap.size 24 #[.int .i64 (nmE (ch 1)).sch, str (nmE (ch 1)).name, .int .u64 ((nmE (ch 1)).node : Int), .int .u64 ((nmE (ch 1)).svc : Int)]) := hid (by rw [← hZ]; exact Blk.new _ _ _)
      have HZ : Hid (Ext wr Z) := hid (by rw [← hZ]; exact HX.out.alloc _)
      have HNE : Hid (w1.heap.size ≠ R) := hid (by have := HX.out.size; have := hS.out.2.2.1.lt; omega)
      have BR : Hid (Blk Z R 97 (rdC (nmP p ch 1) s (nmB bad ch 1))) := hid (hS.out.2.2.1.ext HZ.out)
      clear hZ HX
      generalize w1.heap.size = NE at *
      go_upto_region 5 with (go_at_call 90; refine (pchk R (nmP p ch 1) s (nmB bad ch 1) _ _ BR.out).mono ?_; rintro x w2 ⟨rfl, hm, hB⟩; have HM := hid hm; have HB := hid hB; clear hm hB)
      rw [hOE.out] at HB
      have BE2 := hid (BE.out.mod HM.out (by simpa using HNE.out))
      have BG2 : Hid (Blk w2 G 155 #[.pointer (some ⟨R, 2, none⟩), .pointer (some ⟨R, 6, none⟩), .pointer (some ⟨R, 10, none⟩)]) := hid ((hS.out.2.2.2.ext HZ.out).mod HM.out (by simpa using HGR.out))
      have HM2 : Hid (Mod [R] w w2) := hid (hS.out.2.1.trans ((HZ.out.mono (by simp)).trans HM.out))
      clear hS BE HZ HM BR HNE hOE
      have z0 := BE2.out.cell 0
      have z1 := BE2.out.cell 1
      have z2 := BE2.out.cell 2
      have z3 := BE2.out.cell 3
      simp only [List.getElem?_toArray, List.getElem?_cons_zero, List.getElem?_cons_succ] at z0 z1 z2 z3
      clear BE2
      go_upto_region 6 with (refine wpList_store_mid rfl 24 _ _ rfl R 6 #[.int .i64 (nmE (ch 1)).sch, str (nmE (ch 1)).name, .int .u64 ((nmE (ch 1)).node : Int), .int .u64 ((nmE (ch 1)).svc : Int)] (by rfl) (by rfl) (HB.out.thereAt (by simp)) (by kernel_rfl) (by simp [Value.oneCell']) ?_)
      have BR3 := hid (setCells_part (b := R) (cs := rdC (nmP p ch 1) s (nmB bad ch 1 || !ofB (ch 1))) HB.out 6 [.int .i64 (nmE (ch 1)).sch, str (nmE (ch 1)).name, .int .u64 ((nmE (ch 1)).node : Int), .int .u64 ((nmE (ch 1)).svc : Int)])
      have HM3 : Hid (Mod [R] w (w2.setCells R 6 [.int .i64 (nmE (ch 1)).sch, str (nmE (ch 1)).name, .int .u64 ((nmE (ch 1)).node : Int), .int .u64 ((nmE (ch 1)).svc : Int)])) := hid (setCells_mod _ _ HM2.out (.inl (by simp)))
      have BG3 : Hid (Blk (w2.setCells R 6 [.int .i64 (nmE (ch 1)).sch, str (nmE (ch 1)).name, .int .u64 ((nmE (ch 1)).node : Int), .int .u64 ((nmE (ch 1)).svc : Int)]) G 155 #[.pointer (some ⟨R, 2, none⟩), .pointer (some ⟨R, 6, none⟩), .pointer (some ⟨R, 10, none⟩)]) := hid (BG2.out.mod (setCells_mod (w := w2) (W := w2) (S := [R]) _ _ (Mod.refl _ _) (.inl (by simp))) (by simpa using HGR.out))
      generalize World.setCells _ R 6 _ = W3 at *
      clear HB HM2 BG2 z0 z1 z2 z3
      go_wp2_with fail
      go_roundw
      case rel => exact ⟨2, rfl, hid ⟨by decide, HM3.out, BR3.out, BG3.out⟩⟩
      case measure => simp [intOf]
    | 2, hS =>
      obtain ⟨q0, q1, q2, q3, q4⟩ := HC.out wr hS.out.2.1 2 (by decide)
      have KI := hid (fun W (hW : Ext wr W) => KO.out 2 (by decide) W (IsL.ext (HI.out wr hS.out.2.1 2 (by decide)) hW))
      have p1 : wr.cell? ⟨G, 2, none⟩ = some (.pointer (some ⟨R, 10, none⟩)) := hS.out.2.2.2.cell 2
      simp only [Nat.zero_mul, Nat.one_mul, Nat.add_zero, Nat.reduceMul] at q0 q1 q2 q3 q4
      go_upto_region 4 with (go_at_call 119; refine (KI.out _ (Mod.refl [] _)).mono ?_; rintro x w1 ⟨rfl, hx⟩; have HX := hid hx; clear hx)
      clear q0 q1 q2 q3 q4 p1 KI
      have hOE : Hid ((((if ofB (ch 2) = true then 0 else 2) : Int) == 0) = ofB (ch 2)) := hid (by cases ofB (ch 2) <;> rfl)
      generalize ((if ofB (ch 2) = true then 0 else 2) : Int) = E at *
      generalize hZ : World.alloc w1 _ = Z
      have BE : Hid (Blk Z w1.heap.size 24 #[.int .i64 (nmE (ch 2)).sch, str (nmE (ch 2)).name, .int .u64 ((nmE (ch 2)).node : Int), .int .u64 ((nmE (ch 2)).svc : Int)]) := hid (by rw [← hZ]; exact Blk.new _ _ _)
      have HZ : Hid (Ext wr Z) := hid (by rw [← hZ]; exact HX.out.alloc _)
      have HNE : Hid (w1.heap.size ≠ R) := hid (by have := HX.out.size; have := hS.out.2.2.1.lt; omega)
      have BR : Hid (Blk Z R 97 (rdC (nmP p ch 2) s (nmB bad ch 2))) := hid (hS.out.2.2.1.ext HZ.out)
      clear hZ HX
      generalize w1.heap.size = NE at *
      go_upto_region 5 with (go_at_call 90; refine (pchk R (nmP p ch 2) s (nmB bad ch 2) _ _ BR.out).mono ?_; rintro x w2 ⟨rfl, hm, hB⟩; have HM := hid hm; have HB := hid hB; clear hm hB)
      rw [hOE.out] at HB
      have BE2 := hid (BE.out.mod HM.out (by simpa using HNE.out))
      have BG2 : Hid (Blk w2 G 155 #[.pointer (some ⟨R, 2, none⟩), .pointer (some ⟨R, 6, none⟩), .pointer (some ⟨R, 10, none⟩)]) := hid ((hS.out.2.2.2.ext HZ.out).mod HM.out (by simpa using HGR.out))
      have HM2 : Hid (Mod [R] w w2) := hid (hS.out.2.1.trans ((HZ.out.mono (by simp)).trans HM.out))
      clear hS BE HZ HM BR HNE hOE
      have z0 := BE2.out.cell 0
      have z1 := BE2.out.cell 1
      have z2 := BE2.out.cell 2
      have z3 := BE2.out.cell 3
      simp only [List.getElem?_toArray, List.getElem?_cons_zero, List.getElem?_cons_succ] at z0 z1 z2 z3
      clear BE2
      go_upto_region 6 with (refine wpList_store_mid rfl 24 _ _ rfl R 10 #[.int .i64 (nmE (ch 2)).sch, str (nmE (ch 2)).name, .int .u64 ((nmE (ch 2)).node : Int), .int .u64 ((nmE (ch 2)).svc : Int)] (by rfl) (by rfl) (HB.out.thereAt (by simp)) (by kernel_rfl) (by simp [Value.oneCell']) ?_)
      have BR3 := hid (setCells_part (b := R) (cs := rdC (nmP p ch 2) s (nmB bad ch 2 || !ofB (ch 2))) HB.out 10 [.int .i64 (nmE (ch 2)).sch, str (nmE (ch 2)).name, .int .u64 ((nmE (ch 2)).node : Int), .int .u64 ((nmE (ch 2)).svc : Int)])
      have HM3 : Hid (Mod [R] w (w2.setCells R 10 [.int .i64 (nmE (ch 2)).sch, str (nmE (ch 2)).name, .int .u64 ((nmE (ch 2)).node : Int), .int .u64 ((nmE (ch 2)).svc : Int)])) := hid (setCells_mod _ _ HM2.out (.inl (by simp)))
      have BG3 : Hid (Blk (w2.setCells R 10 [.int .i64 (nmE (ch 2)).sch, str (nmE (ch 2)).name, .int .u64 ((nmE (ch 2)).node : Int), .int .u64 ((nmE (ch 2)).svc : Int)]) G 155 #[.pointer (some ⟨R, 2, none⟩), .pointer (some ⟨R, 6, none⟩), .pointer (some ⟨R, 10, none⟩)]) := hid (BG2.out.mod (setCells_mod (w := w2) (W := w2) (S := [R]) _ _ (Mod.refl _ _) (.inl (by simp))) (by simpa using HGR.out))
      generalize World.setCells _ R 10 _ = W3 at *
      clear HB HM2 BG2 z0 z1 z2 z3
      go_wp2_with fail
      go_roundw
      case rel => exact ⟨3, rfl, hid ⟨by decide, HM3.out, BR3.out, BG3.out⟩⟩
      case measure => simp [intOf]
    | 3, hS =>
      go_wp2_with fail
      refine bodyPost_ret (results_none rfl _ _ _) rfl ?_
      exact ⟨rfl, hS.out.2.1, hS.out.2.2.1⟩
    | i + 4, hS => exact absurd hS.out.1 (by omega)
end Go.Proofs.YtfgipgpbjfhflaaGreat
