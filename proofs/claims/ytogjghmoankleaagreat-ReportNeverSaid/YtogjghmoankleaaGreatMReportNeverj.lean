/-
  The parser of items: an item.
  Parse: the item of bytes, or what is wrong, and where.
  What is made is read again: names.
  What is made is read again: numbers, hops.
  What is made is read again: hops, whole.
  What data tell, by their bytes alone: a name, an age, hops.
  The walk of the reference's Read: it returns how a head is read.
  The walk of the reference's Read: a number behind the first byte.
  The reference's Read, whatever the bytes; and its reader's fail.
  The reference's Fault: where, and what, is wrong first.
  The law ItemParses: its walk.
  A list of items that grows by append: what is kept from round to round.
  The reference's item of bytes.
  Reports, plainly: what bytes tell.
  What is read of any bytes: names.
  What is read of any bytes: numbers.
  What is read of any bytes: hops.
  What is read of any bytes: hops, whole.
  What the reference reads of any bytes: numbers.
  What the reference reads of any bytes: hops.
  The reference's name of any item.
  What the reference reads of any bytes: a name.
  Reports: Parse.
  Reports: the reference's Parse, where there is none.
  Reports: the reference's Parse, where there is none (4 parts).
  Reports: the reference's Parse, where there is none (6 parts).
  Reports: the reference's Parse of what has a report's shape (4 parts).
  Reports: the reference's Parse of what has a report's shape (6 parts).
  Primaries: the whole bytes, with and without a sum, as the reference puts them together.
  A block's header.
-/
import Derived.Test.YtogjghmoankleaaGreatMReportNeveri
import Derived.Deep.AppendLies
import Derived.Deep.RegionLaw

namespace Go.Proofs.YtogjghmoankleaaGreat
open Go.RowKit
set_option linter.unusedVariables false
set_option linter.unusedSimpArgs false

theorem flt_none {d : Nat} {l : List UInt8} (h : readH l = none) : flt d l = (0, 2) := by
  cases d <;> (unfold flt; rw [h])
theorem flt_noK {d : Nat} {l : List UInt8} {sz m n : Nat} {o : Bool} (h : readH l = some (sz, m, n, o)) (hm : noK m = true) : flt d l = (0, 2) := by
  cases d <;> (unfold flt; rw [h]; dsimp only; rw [if_pos hm])
theorem flt_deep {l : List UInt8} {sz m n : Nat} {o : Bool} (h : readH l = some (sz, m, n, o)) (hm : noK m = false) : flt 0 l = (0, 3) := by
  unfold flt; rw [h]; dsimp only; rw [if_neg (by simp [hm])]
theorem flt_num {d : Nat} {l : List UInt8} {sz n : Nat} {o : Bool} (h : readH l = some (sz, 0, n, o)) : flt (d + 1) l = (sz, 0) := by
  unfold flt; rw [h]; rfl
theorem flt_str {d : Nat} {l : List UInt8} {sz m n : Nat} {o : Bool} (h : readH l = some (sz, m, n, o)) (hm : m = 2 ∨ m = 3) : flt (d + 1) l = strR o l sz n := by
  unfold flt; rw [h]
  rcases hm with rfl | rfl <;> rfl
theorem flt_long {d : Nat} {l : List UInt8} {sz n : Nat} (h : readH l = some (sz, 4, n, false)) (hn : 1000 < n) : flt (d + 1) l = (0, 4) := by
  unfold flt; rw [h]; dsimp only
  rw [if_neg (by decide), if_neg (by decide), if_neg (by decide), if_pos ⟨rfl, hn⟩]
theorem flt_arr {d : Nat} {l : List UInt8} {sz n : Nat} {o : Bool} (h : readH l = some (sz, 4, n, o)) (hn : ¬ (o = false ∧ 1000 < n)) : flt (d + 1) l = floop (flt d) l o n 1000 sz := by
  unfold flt; rw [h]; dsimp only
  rw [if_neg (by decide), if_neg (by decide), if_neg (by decide), if_neg hn]

theorem newarr_long {L : List UInt8} {sz n : Nat} (h : readH L = some (sz, 4, n, false)) (hn : 1000 < n) : ((RS.new L).Array).1.e = 4 := by
  have e := RS.Head_some (r := RS.new L) rfl h
  unfold RS.Array
  rw [e]
  dsimp only
  rw [if_pos rfl, if_neg (by decide), if_neg (by decide), if_pos hn]
  rfl
theorem newarr_ok {L : List UInt8} {sz n : Nat} {o : Bool} (h : readH L = some (sz, 4, n, o)) (hn : ¬ (o = false ∧ 1000 < n)) : (RS.new L).Array = (⟨L, sz, -1, 0, 0⟩, if o = true then -1 else (n : Int)) := by
  have e := RS.Head_some (r := RS.new L) rfl h
  unfold RS.Array
  rw [e]
  dsimp only
  cases o
  · rw [if_pos rfl, if_neg (by decide), if_neg (by decide), if_neg (by intro h; exact hn ⟨rfl, h⟩)]
    simp [RS.new]
  · rw [if_pos rfl, if_neg (by decide), if_pos rfl]
    simp [RS.new]

/-- What came back, stored as the result. -/
theorem IPost.store {g : Nat} {l : List UInt8} {p : Nat} {F : Nat × Int} {d : Nat} {w W w4 : World} {t : T} {A : Option Addr} {c : Nat} (hg : g < w.heap.size) (hE : Mod [g] w W) (hW : w.heap.size < W.heap.size)
    (hm : Mod [g] W w4) (hp : PAt w4 g l (p + F.1) F.2) (hs : F.2 = 0 → (t.right d = true ∧ t.ok) ∧ t.bytes ++ l.drop (p + F.1) = l.drop p ∧ IsL w4 (fun b => W.heap.size ≤ b) t A) :
    IPost g l p F d w (.returned (itemV t A c)) (set5 w4 w.heap.size t A c) := by
  refine ⟨t, A, c, rfl, set5_mod (hE.trans hm) (Nat.le_refl _), set5_far hp (by omega), fun h0 => ⟨(hs h0).1, (hs h0).2.1, ?_⟩⟩
  exact IsL.weak (fun k hk hq => by omega) t (IsL.mod set5_modb (fun k hq hk hm => by rw [List.mem_singleton] at hm; omega) t (hs h0).2.2)

/-- What holds once the head has been read. -/
structure IH1 (w : World) (g : Nat) (l : List UInt8) (p : Nat) (wx : World) (R : Nat) : Prop where
  ext : Ext w wx
  pa : PAt wx g l p 0
  ret : Blk wx w.heap.size 64 (itemC nulT none 0)
  rd : RdAt wx R (RS.new (l.drop p)).Head.1
  lt : w.heap.size < R

set_option maxRecDepth 20000 in
set_option maxHeartbeats 800000 in
theorem pitem_none (g : Nat) (l : List UInt8) (p : Nat) (hp : Hid (p ≤ l.length ∧ l.length ≤ 1073741824)) (d : Nat) (hr : Hid (readH (l.drop p) = none)) (w : World) (h : PAt w g l p 0) :
    Calls Tryz.prog 40 #[.pointer (some ⟨g, 0, none⟩), .int .i64 (d : Int)] w (IPost g l p (flt d (l.drop p)) d w) := by
  have HF := hid (flt_none (d := d) hr.out)
  have hrk : Hid (RS.ok (RS.new (l.drop p))) := RS.new_ok (by have := hp.out; rw [List.length_drop]; omega)
  have hg : Hid (g < w.heap.size) := Blk.lt h
  have hgB : Hid (w.heap.size ≠ g) := by have := hg.out; unfold Hid; omega
  have H0 := hid (Blk.alloc h (.cells (itemC nulT none 0) 64))
  clear h
  go_enter Tryz.func40, Tryz.ntmps40
  go_wp2_with fail
  refine (preader_any g l p 0 hp _ H0.out).mono ?_
  rintro x w1 ⟨rfl, hb1, hr1⟩
  have P1 := hid (H0.out.ext hb1)
  have B1 := hid ((Blk.new w 64 (itemC nulT none 0)).ext hb1)
  have HE1 := hid (((Mod.refl [] w).alloc (.cells (itemC nulT none 0) 64)).trans hb1)
  have hR1 : RdAt w1 (w.heap.size + 1) (RS.new (l.drop p)) := by simpa using hr1
  have HR1 := hid hR1
  clear hr1 hR1 hb1 H0
  go_wp2_with fail
  refine (Head_any_r _ _ hrk.out _ HR1.out).mono ?_
  rintro x w2 ⟨rfl, hm2, hr2⟩
  have K2 : Hid (IH1 w g l p w2 (w.heap.size + 1)) := ⟨Mod.new (S := [w.heap.size + 1]) (HE1.out.of_ext.trans hm2) (fun k hk => by rw [List.mem_singleton] at hk; subst hk; exact .inr (by omega)), Blk.mod P1.out hm2 (by have := hg.out; simp; omega), B1.out.mod hm2 (by simp), hr2, by omega⟩
  clear P1 B1 HE1 HR1 hm2 hr2
  go_wp2_with fail
  refine (Bad_any _ _ _ K2.out.rd).mono ?_
  rintro x w3 ⟨rfl, hb3⟩
  have K3 : Hid (IH1 w g l p w3 (w.heap.size + 1)) := ⟨K2.out.ext.trans hb3, K2.out.pa.ext hb3, K2.out.ret.ext hb3, Blk.ext K2.out.rd hb3, by omega⟩
  clear K2 hb3
  have p1 : w3.cell? ⟨g, 1, none⟩ = some (.int .i64 (p : Int)) := PAt.at_ K3.out.pa
  have HH := hid (RS.Head_none (r := RS.new (l.drop p)) rfl hr.out)
  rw [HH.out]
  dsimp only
  go_wp2_with fail
  refine (pfail_any g l p p 2 _ K3.out.pa).mono ?_
  rintro x w9 ⟨rfl, hm9, hp9⟩
  have HB9 := hid (Blk.mod K3.out.ret hm9 (by simpa using hgB.out))
  have HM9 := hid hm9; have HP9 := hid hp9
  clear hm9 hp9
  obtain ⟨c0, c1, c2, c3, c4⟩ := cells5 HB9.out
  have f0 := Blk.frozen HB9.out 0
  have f1 := Blk.frozen HB9.out 1
  have f2 := Blk.frozen HB9.out 2
  have f3 := Blk.frozen HB9.out 3
  have f4 := Blk.frozen HB9.out 4
  go_wp2_with fail
  obtain ⟨d0, d1, d2, d3, d4⟩ := cells5 (set5_blk (t := nulT) (A := none) (c := 0) HB9.out)
  clear c0 c1 c2 c3 c4 f0 f1 f2 f3 f4 
  show bodyPost _ _ _ _ _ (set5 w9 w.heap.size nulT none 0)
  refine bodyPost_ret (v := itemV nulT none 0) (by simp [results, Tryz.results40, go_sem, d0, d1, d2, d3, d4]) rfl ?_
  rw [HF.out]
  exact IPost.store hg.out ((K3.out.ext).of_ext) (Blk.lt K3.out.ret) HM9.out HP9.out (fun h => by cases h)

set_option maxRecDepth 20000 in
set_option maxHeartbeats 1600000 in
theorem pitem_noK (g : Nat) (l : List UInt8) (p : Nat) (hp : Hid (p ≤ l.length ∧ l.length ≤ 1073741824)) (d sz m n : Nat) (o : Bool) (hm : Hid (m = 1 ∨ m = 5 ∨ m = 6 ∨ m = 7)) (hr : Hid (readH (l.drop p) = some (sz, m, n, o))) (w : World) (h : PAt w g l p 0) :
    Calls Tryz.prog 40 #[.pointer (some ⟨g, 0, none⟩), .int .i64 (d : Int)] w (IPost g l p (flt d (l.drop p)) d w) := by
  have HF := hid (flt_noK (d := d) hr.out (by rcases hm.out with rfl | rfl | rfl | rfl <;> rfl))
  have hrk : Hid (RS.ok (RS.new (l.drop p))) := RS.new_ok (by have := hp.out; rw [List.length_drop]; omega)
  have hg : Hid (g < w.heap.size) := Blk.lt h
  have hgB : Hid (w.heap.size ≠ g) := by have := hg.out; unfold Hid; omega
  have H0 := hid (Blk.alloc h (.cells (itemC nulT none 0) 64))
  clear h
  go_enter Tryz.func40, Tryz.ntmps40
  go_wp2_with fail
  refine (preader_any g l p 0 hp _ H0.out).mono ?_
  rintro x w1 ⟨rfl, hb1, hr1⟩
  have P1 := hid (H0.out.ext hb1)
  have B1 := hid ((Blk.new w 64 (itemC nulT none 0)).ext hb1)
  have HE1 := hid (((Mod.refl [] w).alloc (.cells (itemC nulT none 0) 64)).trans hb1)
  have hR1 : RdAt w1 (w.heap.size + 1) (RS.new (l.drop p)) := by simpa using hr1
  have HR1 := hid hR1
  clear hr1 hR1 hb1 H0
  go_wp2_with fail
  refine (Head_any_r _ _ hrk.out _ HR1.out).mono ?_
  rintro x w2 ⟨rfl, hm2, hr2⟩
  have K2 : Hid (IH1 w g l p w2 (w.heap.size + 1)) := ⟨Mod.new (S := [w.heap.size + 1]) (HE1.out.of_ext.trans hm2) (fun k hk => by rw [List.mem_singleton] at hk; subst hk; exact .inr (by omega)), Blk.mod P1.out hm2 (by have := hg.out; simp; omega), B1.out.mod hm2 (by simp), hr2, by omega⟩
  clear P1 B1 HE1 HR1 hm2 hr2
  go_wp2_with fail
  refine (Bad_any _ _ _ K2.out.rd).mono ?_
  rintro x w3 ⟨rfl, hb3⟩
  have K3 : Hid (IH1 w g l p w3 (w.heap.size + 1)) := ⟨K2.out.ext.trans hb3, K2.out.pa.ext hb3, K2.out.ret.ext hb3, Blk.ext K2.out.rd hb3, by omega⟩
  clear K2 hb3
  have p1 : w3.cell? ⟨g, 1, none⟩ = some (.int .i64 (p : Int)) := PAt.at_ K3.out.pa
  have HH := hid (RS.Head_some (r := RS.new (l.drop p)) rfl hr.out)
  rw [HH.out]
  dsimp only
  rcases hm.out with rfl | rfl | rfl | rfl
  · go_wp2_with fail
    refine (pfail_any g l p p 2 _ K3.out.pa).mono ?_
    rintro x w9 ⟨rfl, hm9, hp9⟩
    have HB9 := hid (Blk.mod K3.out.ret hm9 (by simpa using hgB.out))
    have HM9 := hid hm9; have HP9 := hid hp9
    clear hm9 hp9
    obtain ⟨c0, c1, c2, c3, c4⟩ := cells5 HB9.out
    have f0 := Blk.frozen HB9.out 0
    have f1 := Blk.frozen HB9.out 1
    have f2 := Blk.frozen HB9.out 2
    have f3 := Blk.frozen HB9.out 3
    have f4 := Blk.frozen HB9.out 4
    go_wp2_with fail
    obtain ⟨d0, d1, d2, d3, d4⟩ := cells5 (set5_blk (t := nulT) (A := none) (c := 0) HB9.out)
    clear c0 c1 c2 c3 c4 f0 f1 f2 f3 f4 
    show bodyPost _ _ _ _ _ (set5 w9 w.heap.size nulT none 0)
    refine bodyPost_ret (v := itemV nulT none 0) (by simp [results, Tryz.results40, go_sem, d0, d1, d2, d3, d4]) rfl ?_
    rw [HF.out]
    exact IPost.store hg.out ((K3.out.ext).of_ext) (Blk.lt K3.out.ret) HM9.out HP9.out (fun h => by cases h)
  · go_wp2_with fail
    refine (pfail_any g l p p 2 _ K3.out.pa).mono ?_
    rintro x w9 ⟨rfl, hm9, hp9⟩
    have HB9 := hid (Blk.mod K3.out.ret hm9 (by simpa using hgB.out))
    have HM9 := hid hm9; have HP9 := hid hp9
    clear hm9 hp9
    obtain ⟨c0, c1, c2, c3, c4⟩ := cells5 HB9.out
    have f0 := Blk.frozen HB9.out 0
    have f1 := Blk.frozen HB9.out 1
    have f2 := Blk.frozen HB9.out 2
    have f3 := Blk.frozen HB9.out 3
    have f4 := Blk.frozen HB9.out 4
    go_wp2_with fail
    obtain ⟨d0, d1, d2, d3, d4⟩ := cells5 (set5_blk (t := nulT) (A := none) (c := 0) HB9.out)
    clear c0 c1 c2 c3 c4 f0 f1 f2 f3 f4 
    show bodyPost _ _ _ _ _ (set5 w9 w.heap.size nulT none 0)
    refine bodyPost_ret (v := itemV nulT none 0) (by simp [results, Tryz.results40, go_sem, d0, d1, d2, d3, d4]) rfl ?_
    rw [HF.out]
    exact IPost.store hg.out ((K3.out.ext).of_ext) (Blk.lt K3.out.ret) HM9.out HP9.out (fun h => by cases h)
  · go_wp2_with fail
    refine (pfail_any g l p p 2 _ K3.out.pa).mono ?_
    rintro x w9 ⟨rfl, hm9, hp9⟩
    have HB9 := hid (Blk.mod K3.out.ret hm9 (by simpa using hgB.out))
    have HM9 := hid hm9; have HP9 := hid hp9
    clear hm9 hp9
    obtain ⟨c0, c1, c2, c3, c4⟩ := cells5 HB9.out
    have f0 := Blk.frozen HB9.out 0
    have f1 := Blk.frozen HB9.out 1
    have f2 := Blk.frozen HB9.out 2
    have f3 := Blk.frozen HB9.out 3
    have f4 := Blk.frozen HB9.out 4
    go_wp2_with fail
    obtain ⟨d0, d1, d2, d3, d4⟩ := cells5 (set5_blk (t := nulT) (A := none) (c := 0) HB9.out)
    clear c0 c1 c2 c3 c4 f0 f1 f2 f3 f4 
    show bodyPost _ _ _ _ _ (set5 w9 w.heap.size nulT none 0)
    refine bodyPost_ret (v := itemV nulT none 0) (by simp [results, Tryz.results40, go_sem, d0, d1, d2, d3, d4]) rfl ?_
    rw [HF.out]
    exact IPost.store hg.out ((K3.out.ext).of_ext) (Blk.lt K3.out.ret) HM9.out HP9.out (fun h => by cases h)
  · go_wp2_with fail
    refine (pfail_any g l p p 2 _ K3.out.pa).mono ?_
    rintro x w9 ⟨rfl, hm9, hp9⟩
    have HB9 := hid (Blk.mod K3.out.ret hm9 (by simpa using hgB.out))
    have HM9 := hid hm9; have HP9 := hid hp9
    clear hm9 hp9
    obtain ⟨c0, c1, c2, c3, c4⟩ := cells5 HB9.out
    have f0 := Blk.frozen HB9.out 0
    have f1 := Blk.frozen HB9.out 1
    have f2 := Blk.frozen HB9.out 2
    have f3 := Blk.frozen HB9.out 3
    have f4 := Blk.frozen HB9.out 4
    go_wp2_with fail
    obtain ⟨d0, d1, d2, d3, d4⟩ := cells5 (set5_blk (t := nulT) (A := none) (c := 0) HB9.out)
    clear c0 c1 c2 c3 c4 f0 f1 f2 f3 f4 
    show bodyPost _ _ _ _ _ (set5 w9 w.heap.size nulT none 0)
    refine bodyPost_ret (v := itemV nulT none 0) (by simp [results, Tryz.results40, go_sem, d0, d1, d2, d3, d4]) rfl ?_
    rw [HF.out]
    exact IPost.store hg.out ((K3.out.ext).of_ext) (Blk.lt K3.out.ret) HM9.out HP9.out (fun h => by cases h)

set_option maxRecDepth 20000 in
set_option maxHeartbeats 1600000 in
theorem pitem_deep (g : Nat) (l : List UInt8) (p : Nat) (hp : Hid (p ≤ l.length ∧ l.length ≤ 1073741824)) (sz m n : Nat) (o : Bool) (hm : Hid (m = 0 ∨ m = 2 ∨ m = 3 ∨ m = 4)) (hr : Hid (readH (l.drop p) = some (sz, m, n, o))) (w : World) (h : PAt w g l p 0) :
    Calls Tryz.prog 40 #[.pointer (some ⟨g, 0, none⟩), .int .i64 0] w (IPost g l p (flt 0 (l.drop p)) 0 w) := by
  have HF := hid (flt_deep hr.out (by rcases hm.out with rfl | rfl | rfl | rfl <;> rfl))
  have hrk : Hid (RS.ok (RS.new (l.drop p))) := RS.new_ok (by have := hp.out; rw [List.length_drop]; omega)
  have hg : Hid (g < w.heap.size) := Blk.lt h
  have hgB : Hid (w.heap.size ≠ g) := by have := hg.out; unfold Hid; omega
  have H0 := hid (Blk.alloc h (.cells (itemC nulT none 0) 64))
  clear h
  go_enter Tryz.func40, Tryz.ntmps40
  go_wp2_with fail
  refine (preader_any g l p 0 hp _ H0.out).mono ?_
  rintro x w1 ⟨rfl, hb1, hr1⟩
  have P1 := hid (H0.out.ext hb1)
  have B1 := hid ((Blk.new w 64 (itemC nulT none 0)).ext hb1)
  have HE1 := hid (((Mod.refl [] w).alloc (.cells (itemC nulT none 0) 64)).trans hb1)
  have hR1 : RdAt w1 (w.heap.size + 1) (RS.new (l.drop p)) := by simpa using hr1
  have HR1 := hid hR1
  clear hr1 hR1 hb1 H0
  go_wp2_with fail
  refine (Head_any_r _ _ hrk.out _ HR1.out).mono ?_
  rintro x w2 ⟨rfl, hm2, hr2⟩
  have K2 : Hid (IH1 w g l p w2 (w.heap.size + 1)) := ⟨Mod.new (S := [w.heap.size + 1]) (HE1.out.of_ext.trans hm2) (fun k hk => by rw [List.mem_singleton] at hk; subst hk; exact .inr (by omega)), Blk.mod P1.out hm2 (by have := hg.out; simp; omega), B1.out.mod hm2 (by simp), hr2, by omega⟩
  clear P1 B1 HE1 HR1 hm2 hr2
  go_wp2_with fail
  refine (Bad_any _ _ _ K2.out.rd).mono ?_
  rintro x w3 ⟨rfl, hb3⟩
  have K3 : Hid (IH1 w g l p w3 (w.heap.size + 1)) := ⟨K2.out.ext.trans hb3, K2.out.pa.ext hb3, K2.out.ret.ext hb3, Blk.ext K2.out.rd hb3, by omega⟩
  clear K2 hb3
  have p1 : w3.cell? ⟨g, 1, none⟩ = some (.int .i64 (p : Int)) := PAt.at_ K3.out.pa
  have HH := hid (RS.Head_some (r := RS.new (l.drop p)) rfl hr.out)
  rw [HH.out]
  dsimp only
  rcases hm.out with rfl | rfl | rfl | rfl
  · go_wp2_with fail
    refine (pfail_any g l p p 3 _ K3.out.pa).mono ?_
    rintro x w9 ⟨rfl, hm9, hp9⟩
    have HB9 := hid (Blk.mod K3.out.ret hm9 (by simpa using hgB.out))
    have HM9 := hid hm9; have HP9 := hid hp9
    clear hm9 hp9
    obtain ⟨c0, c1, c2, c3, c4⟩ := cells5 HB9.out
    have f0 := Blk.frozen HB9.out 0
    have f1 := Blk.frozen HB9.out 1
    have f2 := Blk.frozen HB9.out 2
    have f3 := Blk.frozen HB9.out 3
    have f4 := Blk.frozen HB9.out 4
    go_wp2_with fail
    obtain ⟨d0, d1, d2, d3, d4⟩ := cells5 (set5_blk (t := nulT) (A := none) (c := 0) HB9.out)
    clear c0 c1 c2 c3 c4 f0 f1 f2 f3 f4 
    show bodyPost _ _ _ _ _ (set5 w9 w.heap.size nulT none 0)
    refine bodyPost_ret (v := itemV nulT none 0) (by simp [results, Tryz.results40, go_sem, d0, d1, d2, d3, d4]) rfl ?_
    rw [HF.out]
    exact IPost.store hg.out ((K3.out.ext).of_ext) (Blk.lt K3.out.ret) HM9.out HP9.out (fun h => by cases h)
  · go_wp2_with fail
    refine (pfail_any g l p p 3 _ K3.out.pa).mono ?_
    rintro x w9 ⟨rfl, hm9, hp9⟩
    have HB9 := hid (Blk.mod K3.out.ret hm9 (by simpa using hgB.out))
    have HM9 := hid hm9; have HP9 := hid hp9
    clear hm9 hp9
    obtain ⟨c0, c1, c2, c3, c4⟩ := cells5 HB9.out
    have f0 := Blk.frozen HB9.out 0
    have f1 := Blk.frozen HB9.out 1
    have f2 := Blk.frozen HB9.out 2
    have f3 := Blk.frozen HB9.out 3
    have f4 := Blk.frozen HB9.out 4
    go_wp2_with fail
    obtain ⟨d0, d1, d2, d3, d4⟩ := cells5 (set5_blk (t := nulT) (A := none) (c := 0) HB9.out)
    clear c0 c1 c2 c3 c4 f0 f1 f2 f3 f4 
    show bodyPost _ _ _ _ _ (set5 w9 w.heap.size nulT none 0)
    refine bodyPost_ret (v := itemV nulT none 0) (by simp [results, Tryz.results40, go_sem, d0, d1, d2, d3, d4]) rfl ?_
    rw [HF.out]
    exact IPost.store hg.out ((K3.out.ext).of_ext) (Blk.lt K3.out.ret) HM9.out HP9.out (fun h => by cases h)
  · go_wp2_with fail
    refine (pfail_any g l p p 3 _ K3.out.pa).mono ?_
    rintro x w9 ⟨rfl, hm9, hp9⟩
    have HB9 := hid (Blk.mod K3.out.ret hm9 (by simpa using hgB.out))
    have HM9 := hid hm9; have HP9 := hid hp9
    clear hm9 hp9
    obtain ⟨c0, c1, c2, c3, c4⟩ := cells5 HB9.out
    have f0 := Blk.frozen HB9.out 0
    have f1 := Blk.frozen HB9.out 1
    have f2 := Blk.frozen HB9.out 2
    have f3 := Blk.frozen HB9.out 3
    have f4 := Blk.frozen HB9.out 4
    go_wp2_with fail
    obtain ⟨d0, d1, d2, d3, d4⟩ := cells5 (set5_blk (t := nulT) (A := none) (c := 0) HB9.out)
    clear c0 c1 c2 c3 c4 f0 f1 f2 f3 f4 
    show bodyPost _ _ _ _ _ (set5 w9 w.heap.size nulT none 0)
    refine bodyPost_ret (v := itemV nulT none 0) (by simp [results, Tryz.results40, go_sem, d0, d1, d2, d3, d4]) rfl ?_
    rw [HF.out]
    exact IPost.store hg.out ((K3.out.ext).of_ext) (Blk.lt K3.out.ret) HM9.out HP9.out (fun h => by cases h)
  · go_wp2_with fail
    refine (pfail_any g l p p 3 _ K3.out.pa).mono ?_
    rintro x w9 ⟨rfl, hm9, hp9⟩
    have HB9 := hid (Blk.mod K3.out.ret hm9 (by simpa using hgB.out))
    have HM9 := hid hm9; have HP9 := hid hp9
    clear hm9 hp9
    obtain ⟨c0, c1, c2, c3, c4⟩ := cells5 HB9.out
    have f0 := Blk.frozen HB9.out 0
    have f1 := Blk.frozen HB9.out 1
    have f2 := Blk.frozen HB9.out 2
    have f3 := Blk.frozen HB9.out 3
    have f4 := Blk.frozen HB9.out 4
    go_wp2_with fail
    obtain ⟨d0, d1, d2, d3, d4⟩ := cells5 (set5_blk (t := nulT) (A := none) (c := 0) HB9.out)
    clear c0 c1 c2 c3 c4 f0 f1 f2 f3 f4 
    show bodyPost _ _ _ _ _ (set5 w9 w.heap.size nulT none 0)
    refine bodyPost_ret (v := itemV nulT none 0) (by simp [results, Tryz.results40, go_sem, d0, d1, d2, d3, d4]) rfl ?_
    rw [HF.out]
    exact IPost.store hg.out ((K3.out.ext).of_ext) (Blk.lt K3.out.ret) HM9.out HP9.out (fun h => by cases h)

set_option maxRecDepth 20000 in
set_option maxHeartbeats 1600000 in
theorem pitem_str (g : Nat) (l : List UInt8) (p : Nat) (hp : Hid (p ≤ l.length ∧ l.length ≤ 1073741824)) (d sz m n : Nat) (o : Bool) (hm : Hid (m = 2 ∨ m = 3)) (hr : Hid (readH (l.drop p) = some (sz, m, n, o))) (w : World) (h : PAt w g l p 0) :
    Calls Tryz.prog 40 #[.pointer (some ⟨g, 0, none⟩), .int .i64 ((d : Int) + 1)] w (IPost g l p (flt (d + 1) (l.drop p)) (d + 1) w) := by
  have HF := hid (flt_str (d := d) hr.out hm.out)
  have hrk : Hid (RS.ok (RS.new (l.drop p))) := RS.new_ok (by have := hp.out; rw [List.length_drop]; omega)
  have hg : Hid (g < w.heap.size) := Blk.lt h
  have hgB : Hid (w.heap.size ≠ g) := by have := hg.out; unfold Hid; omega
  have H0 := hid (Blk.alloc h (.cells (itemC nulT none 0) 64))
  clear h
  go_enter Tryz.func40, Tryz.ntmps40
  go_wp2_with fail
  refine (preader_any g l p 0 hp _ H0.out).mono ?_
  rintro x w1 ⟨rfl, hb1, hr1⟩
  have P1 := hid (H0.out.ext hb1)
  have B1 := hid ((Blk.new w 64 (itemC nulT none 0)).ext hb1)
  have HE1 := hid (((Mod.refl [] w).alloc (.cells (itemC nulT none 0) 64)).trans hb1)
  have hR1 : RdAt w1 (w.heap.size + 1) (RS.new (l.drop p)) := by simpa using hr1
  have HR1 := hid hR1
  clear hr1 hR1 hb1 H0
  go_wp2_with fail
  refine (Head_any_r _ _ hrk.out _ HR1.out).mono ?_
  rintro x w2 ⟨rfl, hm2, hr2⟩
  have K2 : Hid (IH1 w g l p w2 (w.heap.size + 1)) := ⟨Mod.new (S := [w.heap.size + 1]) (HE1.out.of_ext.trans hm2) (fun k hk => by rw [List.mem_singleton] at hk; subst hk; exact .inr (by omega)), Blk.mod P1.out hm2 (by have := hg.out; simp; omega), B1.out.mod hm2 (by simp), hr2, by omega⟩
  clear P1 B1 HE1 HR1 hm2 hr2
  go_wp2_with fail
  refine (Bad_any _ _ _ K2.out.rd).mono ?_
  rintro x w3 ⟨rfl, hb3⟩
  have K3 : Hid (IH1 w g l p w3 (w.heap.size + 1)) := ⟨K2.out.ext.trans hb3, K2.out.pa.ext hb3, K2.out.ret.ext hb3, Blk.ext K2.out.rd hb3, by omega⟩
  clear K2 hb3
  have p1 : w3.cell? ⟨g, 1, none⟩ = some (.int .i64 (p : Int)) := PAt.at_ K3.out.pa
  have HH := hid (RS.Head_some (r := RS.new (l.drop p)) rfl hr.out)
  rw [HH.out]
  dsimp only
  have td : decide ((d : Int) + 1 < 1) = false := by simp; omega
  have td2 : ((d : Int) + 1 < 1) = False := by simp; omega
  rcases hm.out with rfl | rfl
  · go_wp2_with fail
    refine (pstr_any 2 (by first | exact .inl rfl | exact .inr rfl) g l p hp d sz n o hr _ K3.out.pa).mono ?_
    rintro x w9 ⟨t, A, c, rfl, hm9, hp9, hs9⟩
    have HB9 := hid (Blk.mod K3.out.ret hm9 (by simpa using hgB.out))
    have HM9 := hid hm9; have HP9 := hid hp9; have HS9 := hid hs9
    clear hm9 hp9 hs9
    obtain ⟨c0, c1, c2, c3, c4⟩ := cells5 HB9.out
    have f0 := Blk.frozen HB9.out 0
    have f1 := Blk.frozen HB9.out 1
    have f2 := Blk.frozen HB9.out 2
    have f3 := Blk.frozen HB9.out 3
    have f4 := Blk.frozen HB9.out 4
    go_wp2_with fail
    obtain ⟨d0, d1, d2, d3, d4⟩ := cells5 (set5_blk (t := t) (A := A) (c := c) HB9.out)
    clear c0 c1 c2 c3 c4 f0 f1 f2 f3 f4 
    show bodyPost _ _ _ _ _ (set5 w9 w.heap.size t A c)
    refine bodyPost_ret (v := itemV t A c) (by simp [results, Tryz.results40, go_sem, d0, d1, d2, d3, d4]) rfl ?_
    rw [HF.out]
    exact IPost.store hg.out (K3.out.ext.of_ext) (Blk.lt K3.out.ret) HM9.out HP9.out HS9.out
  · go_wp2_with fail
    refine (pstr_any 3 (by first | exact .inl rfl | exact .inr rfl) g l p hp d sz n o hr _ K3.out.pa).mono ?_
    rintro x w9 ⟨t, A, c, rfl, hm9, hp9, hs9⟩
    have HB9 := hid (Blk.mod K3.out.ret hm9 (by simpa using hgB.out))
    have HM9 := hid hm9; have HP9 := hid hp9; have HS9 := hid hs9
    clear hm9 hp9 hs9
    obtain ⟨c0, c1, c2, c3, c4⟩ := cells5 HB9.out
    have f0 := Blk.frozen HB9.out 0
    have f1 := Blk.frozen HB9.out 1
    have f2 := Blk.frozen HB9.out 2
    have f3 := Blk.frozen HB9.out 3
    have f4 := Blk.frozen HB9.out 4
    go_wp2_with fail
    obtain ⟨d0, d1, d2, d3, d4⟩ := cells5 (set5_blk (t := t) (A := A) (c := c) HB9.out)
    clear c0 c1 c2 c3 c4 f0 f1 f2 f3 f4 
    show bodyPost _ _ _ _ _ (set5 w9 w.heap.size t A c)
    refine bodyPost_ret (v := itemV t A c) (by simp [results, Tryz.results40, go_sem, d0, d1, d2, d3, d4]) rfl ?_
    rw [HF.out]
    exact IPost.store hg.out (K3.out.ext.of_ext) (Blk.lt K3.out.ret) HM9.out HP9.out HS9.out

theorem newhead {L : List UInt8} {sz m n : Nat} {o : Bool} (h : readH L = some (sz, m, n, o)) : (RS.new L).Head = (⟨L, sz, -1, 0, 0⟩, m, n, o) := by
  rw [RS.Head_some (r := RS.new L) rfl h]; simp [RS.new]
theorem numT_good {l : List UInt8} {p sz n d : Nat} {o : Bool} (h : readH (l.drop p) = some (sz, 0, n, o)) : ((numT n).right (d + 1) = true ∧ (numT n).ok) ∧ (numT n).bytes ++ l.drop (p + sz) = l.drop p := by
  have hs := readH_some h
  have ho : o = false := by
    cases o with
    | false => rfl
    | true => have := (hs.opened rfl).2.2.1; revert this; decide
  subst ho
  refine ⟨⟨?_, ?_⟩, ?_⟩
  · unfold numT T.right T.node; simp [T.all]
  · unfold numT T.ok; exact ⟨by omega, hs.n64, by simp, by omega, fun i hi => by omega⟩
  · have e : (numT n).bytes = headL 0 n := rfl
    rw [e, ← (hs.closed rfl).1, ← List.drop_drop, List.take_append_drop]

set_option maxRecDepth 20000 in
set_option maxHeartbeats 1600000 in
theorem pitem_num (g : Nat) (l : List UInt8) (p : Nat) (hp : Hid (p ≤ l.length ∧ l.length ≤ 1073741824)) (d sz n : Nat) (o : Bool) (hr : Hid (readH (l.drop p) = some (sz, 0, n, o))) (w : World) (h : PAt w g l p 0) :
    Calls Tryz.prog 40 #[.pointer (some ⟨g, 0, none⟩), .int .i64 ((d : Int) + 1)] w (IPost g l p (flt (d + 1) (l.drop p)) (d + 1) w) := by
  have HF := hid (flt_num (d := d) hr.out)
  have hsz : Hid (sz ≤ 1073741824) := by have h1 := (readH_some hr.out).le; have h2 := hp.out; rw [List.length_drop] at h1; unfold Hid; omega
  have hrk : Hid (RS.ok (RS.new (l.drop p))) := RS.new_ok (by have := hp.out; rw [List.length_drop]; omega)
  have hg : Hid (g < w.heap.size) := Blk.lt h
  have hgB : Hid (w.heap.size ≠ g) := by have := hg.out; unfold Hid; omega
  have H0 := hid (Blk.alloc h (.cells (itemC nulT none 0) 64))
  clear h
  go_enter Tryz.func40, Tryz.ntmps40
  go_wp2_with fail
  refine (preader_any g l p 0 hp _ H0.out).mono ?_
  rintro x w1 ⟨rfl, hb1, hr1⟩
  have P1 := hid (H0.out.ext hb1)
  have B1 := hid ((Blk.new w 64 (itemC nulT none 0)).ext hb1)
  have HE1 := hid (((Mod.refl [] w).alloc (.cells (itemC nulT none 0) 64)).trans hb1)
  have hR1 : RdAt w1 (w.heap.size + 1) (RS.new (l.drop p)) := by simpa using hr1
  have HR1 := hid hR1
  clear hr1 hR1 hb1 H0
  go_wp2_with fail
  refine (Head_any_r _ _ hrk.out _ HR1.out).mono ?_
  rintro x w2 ⟨rfl, hm2, hr2⟩
  have K2 : Hid (IH1 w g l p w2 (w.heap.size + 1)) := ⟨Mod.new (S := [w.heap.size + 1]) (HE1.out.of_ext.trans hm2) (fun k hk => by rw [List.mem_singleton] at hk; subst hk; exact .inr (by omega)), Blk.mod P1.out hm2 (by have := hg.out; simp; omega), B1.out.mod hm2 (by simp), hr2, by omega⟩
  clear P1 B1 HE1 HR1 hm2 hr2
  go_wp2_with fail
  refine (Bad_any _ _ _ K2.out.rd).mono ?_
  rintro x w3 ⟨rfl, hb3⟩
  have K3 : Hid (IH1 w g l p w3 (w.heap.size + 1)) := ⟨K2.out.ext.trans hb3, K2.out.pa.ext hb3, K2.out.ret.ext hb3, Blk.ext K2.out.rd hb3, by omega⟩
  clear K2 hb3
  have p1 : w3.cell? ⟨g, 1, none⟩ = some (.int .i64 (p : Int)) := PAt.at_ K3.out.pa
  have HH := hid (newhead hr.out)
  have HR3 : Hid (RdAt w3 (w.heap.size + 1) ⟨l.drop p, sz, -1, 0, 0⟩) := by have := K3.out.rd; rw [HH.out] at this; exact this
  rw [HH.out]
  dsimp only
  clear p1
  have td : decide ((d : Int) + 1 < 1) = false := by simp; omega
  have td2 : ((d : Int) + 1 < 1) = False := by simp; omega
  have q1 : w3.cell? ⟨g, 1, none⟩ = some (.int .i64 (p : Int)) := PAt.at_ K3.out.pa
  have z1 : w3.frozen? ⟨g, 1, none⟩ = false := PAt.froz K3.out.pa 1
  have tw : IntKind.i64.wrap ((p : Int) + (sz : Int)) = (p : Int) + (sz : Int) := IntWalk.i64_in _ (by have := hp.out; have := hsz.out; omega)
  have HP9 : Hid (Mod [g] w3 (w3.setCell ⟨g, 1, none⟩ (.int .i64 ((p : Int) + (sz : Int)))) ∧ PAt (w3.setCell ⟨g, 1, none⟩ (.int .i64 ((p : Int) + (sz : Int)))) g l (p + sz) 0 ∧ Blk (w3.setCell ⟨g, 1, none⟩ (.int .i64 ((p : Int) + (sz : Int)))) w.heap.size 64 (itemC nulT none 0)) := by
    refine ⟨(Mod.refl _ _).setCell (.inl (by simp)) _, ?_, Blk.far K3.out.ret (by simpa using hgB.out) _⟩
    have := Blk.set_ K3.out.pa 1 (.int .i64 ((p + sz : Nat) : Int))
    simpa [PAt] using this
  go_upto_region 11 with fail
  go_cut [] (fun wx => Hid (Mod [g] w3 wx ∧ PAt wx g l (p + sz) 0 ∧ Blk wx w.heap.size 64 (itemC nulT none 0)))
  case first =>
    go_region_with ((go_at_call 63; refine (At_any (w.heap.size + 1) ⟨l.drop p, sz, -1, 0, 0⟩ _ ?_).mono ?_; (first | exact HR3.out | exact Blk.drew HR3.out | exact Blk.drew (Blk.drew HR3.out)); rintro x w' ⟨rfl, rfl⟩))
    all_goals go_wp2_with fail
    all_goals go_meet
    all_goals exact ⟨by first | exact HP9.out.1 | exact HP9.out.1.drew, HP9.out.2⟩
  clear q1 z1 tw HP9
  have hc2 := hid hcut.out
  clear hcut
  go_wp2_with fail
  refine (Num_any n _).mono ?_
  rintro x w9 ⟨rfl, hb9⟩
  have HB9 := hid (hc2.out.2.2.ext hb9)
  have HM9 := hid (hc2.out.1.trans hb9.of_ext)
  have HP9 := hid (Blk.ext hc2.out.2.1 hb9)
  clear hb9
  have HG := hid (numT_good (d := d) hr.out)
  have HLs : Hid (∀ W Q, IsL W Q (numT n) none) := fun W Q => IsL.leaf
  generalize numT n = t at *
  obtain ⟨c0, c1, c2, c3, c4⟩ := cells5 HB9.out
  have f0 := Blk.frozen HB9.out 0
  have f1 := Blk.frozen HB9.out 1
  have f2 := Blk.frozen HB9.out 2
  have f3 := Blk.frozen HB9.out 3
  have f4 := Blk.frozen HB9.out 4
  go_wp2_with fail
  obtain ⟨d0, d1, d2, d3, d4⟩ := cells5 (set5_blk (t := t) (A := none) (c := 0) HB9.out)
  clear c0 c1 c2 c3 c4 f0 f1 f2 f3 f4 
  show bodyPost _ _ _ _ _ (set5 w9 w.heap.size t none 0)
  refine bodyPost_ret (v := itemV t none 0) (by simp [results, Tryz.results40, go_sem, d0, d1, d2, d3, d4]) rfl ?_
  rw [HF.out]
  exact IPost.store hg.out (K3.out.ext.of_ext) (Blk.lt K3.out.ret) HM9.out HP9.out (fun _ => ⟨HG.out.1, HG.out.2, HLs.out _ _⟩)

set_option maxRecDepth 20000 in
set_option maxHeartbeats 1600000 in
theorem pitem_long (g : Nat) (l : List UInt8) (p : Nat) (hp : Hid (p ≤ l.length ∧ l.length ≤ 1073741824)) (d sz n : Nat) (hn : Hid (1000 < n)) (hr : Hid (readH (l.drop p) = some (sz, 4, n, false))) (w : World) (h : PAt w g l p 0) :
    Calls Tryz.prog 40 #[.pointer (some ⟨g, 0, none⟩), .int .i64 ((d : Int) + 1)] w (IPost g l p (flt (d + 1) (l.drop p)) (d + 1) w) := by
  have HF := hid (flt_long (d := d) hr.out hn.out)
  have hrk : Hid (RS.ok (RS.new (l.drop p))) := RS.new_ok (by have := hp.out; rw [List.length_drop]; omega)
  have hg : Hid (g < w.heap.size) := Blk.lt h
  have hgB : Hid (w.heap.size ≠ g) := by have := hg.out; unfold Hid; omega
  have H0 := hid (Blk.alloc h (.cells (itemC nulT none 0) 64))
  clear h
  go_enter Tryz.func40, Tryz.ntmps40
  go_wp2_with fail
  refine (preader_any g l p 0 hp _ H0.out).mono ?_
  rintro x w1 ⟨rfl, hb1, hr1⟩
  have P1 := hid (H0.out.ext hb1)
  have B1 := hid ((Blk.new w 64 (itemC nulT none 0)).ext hb1)
  have HE1 := hid (((Mod.refl [] w).alloc (.cells (itemC nulT none 0) 64)).trans hb1)
  have hR1 : RdAt w1 (w.heap.size + 1) (RS.new (l.drop p)) := by simpa using hr1
  have HR1 := hid hR1
  clear hr1 hR1 hb1 H0
  go_wp2_with fail
  refine (Head_any_r _ _ hrk.out _ HR1.out).mono ?_
  rintro x w2 ⟨rfl, hm2, hr2⟩
  have K2 : Hid (IH1 w g l p w2 (w.heap.size + 1)) := ⟨Mod.new (S := [w.heap.size + 1]) (HE1.out.of_ext.trans hm2) (fun k hk => by rw [List.mem_singleton] at hk; subst hk; exact .inr (by omega)), Blk.mod P1.out hm2 (by have := hg.out; simp; omega), B1.out.mod hm2 (by simp), hr2, by omega⟩
  clear P1 B1 HE1 HR1 hm2 hr2
  go_wp2_with fail
  refine (Bad_any _ _ _ K2.out.rd).mono ?_
  rintro x w3 ⟨rfl, hb3⟩
  have K3 : Hid (IH1 w g l p w3 (w.heap.size + 1)) := ⟨K2.out.ext.trans hb3, K2.out.pa.ext hb3, K2.out.ret.ext hb3, Blk.ext K2.out.rd hb3, by omega⟩
  clear K2 hb3
  have p1 : w3.cell? ⟨g, 1, none⟩ = some (.int .i64 (p : Int)) := PAt.at_ K3.out.pa
  have HH := hid (newhead hr.out)
  rw [HH.out]
  dsimp only
  have td : decide ((d : Int) + 1 < 1) = false := by simp; omega
  have td2 : ((d : Int) + 1 < 1) = False := by simp; omega
  go_wp2_with fail
  refine (preader_any g l p 0 hp _ K3.out.pa).mono ?_
  rintro x w4 ⟨rfl, hb4, hr4⟩
  have P4 := hid (Blk.ext K3.out.pa hb4)
  have B4 := hid (K3.out.ret.ext hb4)
  have HR4 := hid hr4
  have HS4 := hid (Blk.lt K3.out.ret)
  have HS5 : Hid (w3.heap.size ≠ g ∧ w3.heap.size ≠ w.heap.size) := by have h1 := hg.out; have h2 := HS4.out; unfold Hid; omega
  have HE4 := hid (K3.out.ext.trans hb4)
  clear hb4 hr4 p1
  go_wp2_with fail
  refine (Array_any _ _ hrk.out _ HR4.out).mono ?_
  rintro x w5 ⟨rfl, hm5, hr5⟩
  have HA := hid (newarr_long hr.out hn.out)
  have P5 := hid (Blk.mod P4.out hm5 (by simpa using fun e => HS5.out.1 e.symm))
  have B5 := hid (B4.out.mod hm5 (by simpa using fun e => HS5.out.2 e.symm))
  have M5 : Hid (Ext w w5) := Mod.new (S := [w3.heap.size]) (HE4.out.of_ext.trans hm5) (fun k hk => by rw [List.mem_singleton] at hk; subst hk; exact .inr K3.out.ext.size)
  have HR5 := hid hr5
  clear hm5 hr5
  go_wp2_with fail
  refine (Bad_any _ _ _ HR5.out).mono ?_
  rintro x w6 ⟨rfl, hb6⟩
  rw [HA.out]
  have P6 := hid (Blk.ext P5.out hb6)
  have B6 := hid (B5.out.ext hb6)
  have M6 := hid (M5.out.trans hb6)
  have p1 : w6.cell? ⟨g, 1, none⟩ = some (.int .i64 (p : Int)) := PAt.at_ P6.out
  clear hb6
  go_wp2_with fail
  refine (pfail_any g l p p 4 _ P6.out).mono ?_
  rintro x w9 ⟨rfl, hm9, hp9⟩
  have HB9 := hid (Blk.mod B6.out hm9 (by simpa using hgB.out))
  have HM9 := hid hm9; have HP9 := hid hp9
  clear hm9 hp9
  obtain ⟨c0, c1, c2, c3, c4⟩ := cells5 HB9.out
  have f0 := Blk.frozen HB9.out 0
  have f1 := Blk.frozen HB9.out 1
  have f2 := Blk.frozen HB9.out 2
  have f3 := Blk.frozen HB9.out 3
  have f4 := Blk.frozen HB9.out 4
  go_wp2_with fail
  obtain ⟨d0, d1, d2, d3, d4⟩ := cells5 (set5_blk (t := nulT) (A := none) (c := 0) HB9.out)
  clear c0 c1 c2 c3 c4 f0 f1 f2 f3 f4 
  show bodyPost _ _ _ _ _ (set5 w9 w.heap.size nulT none 0)
  refine bodyPost_ret (v := itemV nulT none 0) (by simp [results, Tryz.results40, go_sem, d0, d1, d2, d3, d4]) rfl ?_
  rw [HF.out]
  exact IPost.store hg.out ((M6.out).of_ext) (Blk.lt B6.out) HM9.out HP9.out (fun h => by cases h)

set_option maxRecDepth 20000 in
set_option maxHeartbeats 1600000 in
theorem pitem_arr_false (g : Nat) (l : List UInt8) (p : Nat) (hp : Hid (p ≤ l.length ∧ l.length ≤ 1073741824)) (d sz n : Nat) (hd : Hid (d ≤ 8)) (IH : Hid (∀ (p : Nat), p ≤ l.length → ∀ w, PAt w g l p 0 → Calls Tryz.prog 40 #[.pointer (some ⟨g, 0, none⟩), .int .i64 (d : Int)] w (IPost g l p (flt d (l.drop p)) d w))) (hn : Hid (¬ (false = false ∧ 1000 < n))) (hr : Hid (readH (l.drop p) = some (sz, 4, n, false))) (w : World) (h : PAt w g l p 0) :
    Calls Tryz.prog 40 #[.pointer (some ⟨g, 0, none⟩), .int .i64 ((d : Int) + 1)] w (IPost g l p (flt (d + 1) (l.drop p)) (d + 1) w) := by
  have HF := hid (flt_arr (d := d) hr.out hn.out)
  have HA := hid (newarr_ok hr.out hn.out)
  have HNN : Hid (false = false → n ≤ 1000) := by have := hn.out; unfold Hid; simp at this ⊢; try omega
  have hsz : Hid (sz ≤ 1073741824) := by have h1 := (readH_some hr.out).le; have h2 := hp.out; rw [List.length_drop] at h1; unfold Hid; omega
  have hrk : Hid (RS.ok (RS.new (l.drop p))) := RS.new_ok (by have := hp.out; rw [List.length_drop]; omega)
  have hg : Hid (g < w.heap.size) := Blk.lt h
  have hgB : Hid (w.heap.size ≠ g) := by have := hg.out; unfold Hid; omega
  have H0 := hid (Blk.alloc h (.cells (itemC nulT none 0) 64))
  clear h
  go_enter Tryz.func40, Tryz.ntmps40
  go_wp2_with fail
  refine (preader_any g l p 0 hp _ H0.out).mono ?_
  rintro x w1 ⟨rfl, hb1, hr1⟩
  have P1 := hid (H0.out.ext hb1)
  have B1 := hid ((Blk.new w 64 (itemC nulT none 0)).ext hb1)
  have HE1 := hid (((Mod.refl [] w).alloc (.cells (itemC nulT none 0) 64)).trans hb1)
  have hR1 : RdAt w1 (w.heap.size + 1) (RS.new (l.drop p)) := by simpa using hr1
  have HR1 := hid hR1
  clear hr1 hR1 hb1 H0
  go_wp2_with fail
  refine (Head_any_r _ _ hrk.out _ HR1.out).mono ?_
  rintro x w2 ⟨rfl, hm2, hr2⟩
  have K2 : Hid (IH1 w g l p w2 (w.heap.size + 1)) := ⟨Mod.new (S := [w.heap.size + 1]) (HE1.out.of_ext.trans hm2) (fun k hk => by rw [List.mem_singleton] at hk; subst hk; exact .inr (by omega)), Blk.mod P1.out hm2 (by have := hg.out; simp; omega), B1.out.mod hm2 (by simp), hr2, by omega⟩
  clear P1 B1 HE1 HR1 hm2 hr2
  go_wp2_with fail
  refine (Bad_any _ _ _ K2.out.rd).mono ?_
  rintro x w3 ⟨rfl, hb3⟩
  have K3 : Hid (IH1 w g l p w3 (w.heap.size + 1)) := ⟨K2.out.ext.trans hb3, K2.out.pa.ext hb3, K2.out.ret.ext hb3, Blk.ext K2.out.rd hb3, by omega⟩
  clear K2 hb3
  have p1 : w3.cell? ⟨g, 1, none⟩ = some (.int .i64 (p : Int)) := PAt.at_ K3.out.pa
  have HH := hid (newhead hr.out)
  rw [HH.out]
  dsimp only
  have td : decide ((d : Int) + 1 < 1) = false := by simp; omega
  have td2 : ((d : Int) + 1 < 1) = False := by simp; omega
  go_wp2_with fail
  refine (preader_any g l p 0 hp _ K3.out.pa).mono ?_
  rintro x w4 ⟨rfl, hb4, hr4⟩
  have P4 := hid (Blk.ext K3.out.pa hb4)
  have B4 := hid (K3.out.ret.ext hb4)
  have HR4 := hid hr4
  have HS4 := hid (Blk.lt K3.out.ret)
  have HS5 : Hid (w3.heap.size ≠ g ∧ w3.heap.size ≠ w.heap.size) := by have h1 := hg.out; have h2 := HS4.out; unfold Hid; omega
  have HE4 := hid (K3.out.ext.trans hb4)
  clear hb4 hr4 p1
  go_wp2_with fail
  refine (Array_any _ _ hrk.out _ HR4.out).mono ?_
  rintro x w5 ⟨rfl, hm5, hr5⟩
  rw [HA.out] at hr5 ⊢
  simp only [Bool.false_eq_true, if_false]
  have P5 := hid (Blk.mod P4.out hm5 (by simpa using fun e => HS5.out.1 e.symm))
  have B5 := hid (B4.out.mod hm5 (by simpa using fun e => HS5.out.2 e.symm))
  have M5 : Hid (Ext w w5) := Mod.new (S := [w3.heap.size]) (HE4.out.of_ext.trans hm5) (fun k hk => by rw [List.mem_singleton] at hk; subst hk; exact .inr K3.out.ext.size)
  have HR5 := hid hr5
  clear hm5 hr5
  go_wp2_with fail
  refine (Bad_any _ _ _ HR5.out).mono ?_
  rintro x w6 ⟨rfl, hb6⟩
  have P6 := hid (Blk.ext P5.out hb6)
  have B6 := hid (B5.out.ext hb6)
  have M6 := hid (M5.out.trans hb6)
  have HR6 : Hid (RdAt w6 w3.heap.size ⟨l.drop p, sz, -1, 0, 0⟩) := Blk.ext HR5.out hb6
  clear hb6
  have q1 : w6.cell? ⟨g, 1, none⟩ = some (.int .i64 (p : Int)) := PAt.at_ P6.out
  have z1 : w6.frozen? ⟨g, 1, none⟩ = false := PAt.froz P6.out 1
  have tw : IntKind.i64.wrap ((p : Int) + (sz : Int)) = (p : Int) + (sz : Int) := IntWalk.i64_in _ (by have := hp.out; have := hsz.out; omega)
  have HP9 : Hid (Mod [g] w6 (w6.setCell ⟨g, 1, none⟩ (.int .i64 ((p : Int) + (sz : Int)))) ∧ PAt (w6.setCell ⟨g, 1, none⟩ (.int .i64 ((p : Int) + (sz : Int)))) g l (p + sz) 0 ∧ Blk (w6.setCell ⟨g, 1, none⟩ (.int .i64 ((p : Int) + (sz : Int)))) w.heap.size 64 (itemC nulT none 0)) := by
    refine ⟨(Mod.refl _ _).setCell (.inl (by simp)) _, ?_, Blk.far B6.out (by simpa using hgB.out) _⟩
    have := Blk.set_ P6.out 1 (.int .i64 ((p + sz : Nat) : Int))
    simpa [PAt] using this
  go_upto_region 20 with fail
  go_cut [] (fun wx => Hid (Mod [g] w6 wx ∧ PAt wx g l (p + sz) 0 ∧ Blk wx w.heap.size 64 (itemC nulT none 0)))
  case first =>
    go_region_with ((go_at_call 63; refine (At_any w3.heap.size ⟨l.drop p, sz, -1, 0, 0⟩ _ ?_).mono ?_; (first | exact HR6.out | exact Blk.drew HR6.out | exact Blk.drew (Blk.drew HR6.out)); rintro x w' ⟨rfl, rfl⟩))
    all_goals go_wp2_with fail
    all_goals go_meet
    all_goals exact ⟨by first | exact HP9.out.1 | exact HP9.out.1.drew, HP9.out.2⟩
  clear q1 z1 tw HP9
  have hc2 := hid hcut.out
  clear hcut
  go_wp2_with fail
  refine (plist_any d hd g l (show Hid _ from hp.out.2) IH p sz n false (n : Int) (by unfold Hid; simp) hr (by unfold Hid; first | exact HNN.out | (have := HNN.out; simpa using this) | simp) (by have h1 := (readH_some hr.out).le; have h2 := hp.out; rw [List.length_drop] at h1; unfold Hid; omega) _ hc2.out.2.1).mono ?_
  rintro x w9 ⟨t, A, c, rfl, hm9, hp9, hs9⟩
  have HB9 := hid (Blk.mod hc2.out.2.2 hm9 (by simpa using hgB.out))
  have HM9 := hid hm9; have HP9 := hid hp9; have HS9 := hid hs9
  clear hm9 hp9 hs9
  obtain ⟨c0, c1, c2, c3, c4⟩ := cells5 HB9.out
  have f0 := Blk.frozen HB9.out 0
  have f1 := Blk.frozen HB9.out 1
  have f2 := Blk.frozen HB9.out 2
  have f3 := Blk.frozen HB9.out 3
  have f4 := Blk.frozen HB9.out 4
  go_wp2_with fail
  obtain ⟨d0, d1, d2, d3, d4⟩ := cells5 (set5_blk (t := t) (A := A) (c := c) HB9.out)
  clear c0 c1 c2 c3 c4 f0 f1 f2 f3 f4 
  show bodyPost _ _ _ _ _ (set5 w9 w.heap.size t A c)
  refine bodyPost_ret (v := itemV t A c) (by simp [results, Tryz.results40, go_sem, d0, d1, d2, d3, d4]) rfl ?_
  rw [HF.out]
  exact IPost.store hg.out (M6.out.of_ext.trans hc2.out.1) (Blk.lt hc2.out.2.2) HM9.out HP9.out HS9.out

set_option maxRecDepth 20000 in
set_option maxHeartbeats 1600000 in
theorem pitem_arr_true (g : Nat) (l : List UInt8) (p : Nat) (hp : Hid (p ≤ l.length ∧ l.length ≤ 1073741824)) (d sz n : Nat) (hd : Hid (d ≤ 8)) (IH : Hid (∀ (p : Nat), p ≤ l.length → ∀ w, PAt w g l p 0 → Calls Tryz.prog 40 #[.pointer (some ⟨g, 0, none⟩), .int .i64 (d : Int)] w (IPost g l p (flt d (l.drop p)) d w))) (hn : Hid (¬ (true = false ∧ 1000 < n))) (hr : Hid (readH (l.drop p) = some (sz, 4, n, true))) (w : World) (h : PAt w g l p 0) :
    Calls Tryz.prog 40 #[.pointer (some ⟨g, 0, none⟩), .int .i64 ((d : Int) + 1)] w (IPost g l p (flt (d + 1) (l.drop p)) (d + 1) w) := by
  have HF := hid (flt_arr (d := d) hr.out hn.out)
  have HA := hid (newarr_ok hr.out hn.out)
  have HNN : Hid (true = false → n ≤ 1000) := by have := hn.out; unfold Hid; simp at this ⊢; try omega
  have hsz : Hid (sz ≤ 1073741824) := by have h1 := (readH_some hr.out).le; have h2 := hp.out; rw [List.length_drop] at h1; unfold Hid; omega
  have hrk : Hid (RS.ok (RS.new (l.drop p))) := RS.new_ok (by have := hp.out; rw [List.length_drop]; omega)
  have hg : Hid (g < w.heap.size) := Blk.lt h
  have hgB : Hid (w.heap.size ≠ g) := by have := hg.out; unfold Hid; omega
  have H0 := hid (Blk.alloc h (.cells (itemC nulT none 0) 64))
  clear h
  go_enter Tryz.func40, Tryz.ntmps40
  go_wp2_with fail
  refine (preader_any g l p 0 hp _ H0.out).mono ?_
  rintro x w1 ⟨rfl, hb1, hr1⟩
  have P1 := hid (H0.out.ext hb1)
  have B1 := hid ((Blk.new w 64 (itemC nulT none 0)).ext hb1)
  have HE1 := hid (((Mod.refl [] w).alloc (.cells (itemC nulT none 0) 64)).trans hb1)
  have hR1 : RdAt w1 (w.heap.size + 1) (RS.new (l.drop p)) := by simpa using hr1
  have HR1 := hid hR1
  clear hr1 hR1 hb1 H0
  go_wp2_with fail
  refine (Head_any_r _ _ hrk.out _ HR1.out).mono ?_
  rintro x w2 ⟨rfl, hm2, hr2⟩
  have K2 : Hid (IH1 w g l p w2 (w.heap.size + 1)) := ⟨Mod.new (S := [w.heap.size + 1]) (HE1.out.of_ext.trans hm2) (fun k hk => by rw [List.mem_singleton] at hk; subst hk; exact .inr (by omega)), Blk.mod P1.out hm2 (by have := hg.out; simp; omega), B1.out.mod hm2 (by simp), hr2, by omega⟩
  clear P1 B1 HE1 HR1 hm2 hr2
  go_wp2_with fail
  refine (Bad_any _ _ _ K2.out.rd).mono ?_
  rintro x w3 ⟨rfl, hb3⟩
  have K3 : Hid (IH1 w g l p w3 (w.heap.size + 1)) := ⟨K2.out.ext.trans hb3, K2.out.pa.ext hb3, K2.out.ret.ext hb3, Blk.ext K2.out.rd hb3, by omega⟩
  clear K2 hb3
  have p1 : w3.cell? ⟨g, 1, none⟩ = some (.int .i64 (p : Int)) := PAt.at_ K3.out.pa
  have HH := hid (newhead hr.out)
  rw [HH.out]
  dsimp only
  have td : decide ((d : Int) + 1 < 1) = false := by simp; omega
  have td2 : ((d : Int) + 1 < 1) = False := by simp; omega
  go_wp2_with fail
  refine (preader_any g l p 0 hp _ K3.out.pa).mono ?_
  rintro x w4 ⟨rfl, hb4, hr4⟩
  have P4 := hid (Blk.ext K3.out.pa hb4)
  have B4 := hid (K3.out.ret.ext hb4)
  have HR4 := hid hr4
  have HS4 := hid (Blk.lt K3.out.ret)
  have HS5 : Hid (w3.heap.size ≠ g ∧ w3.heap.size ≠ w.heap.size) := by have h1 := hg.out; have h2 := HS4.out; unfold Hid; omega
  have HE4 := hid (K3.out.ext.trans hb4)
  clear hb4 hr4 p1
  go_wp2_with fail
  refine (Array_any _ _ hrk.out _ HR4.out).mono ?_
  rintro x w5 ⟨rfl, hm5, hr5⟩
  rw [HA.out] at hr5 ⊢
  simp only [if_true]
  have P5 := hid (Blk.mod P4.out hm5 (by simpa using fun e => HS5.out.1 e.symm))
  have B5 := hid (B4.out.mod hm5 (by simpa using fun e => HS5.out.2 e.symm))
  have M5 : Hid (Ext w w5) := Mod.new (S := [w3.heap.size]) (HE4.out.of_ext.trans hm5) (fun k hk => by rw [List.mem_singleton] at hk; subst hk; exact .inr K3.out.ext.size)
  have HR5 := hid hr5
  clear hm5 hr5
  go_wp2_with fail
  refine (Bad_any _ _ _ HR5.out).mono ?_
  rintro x w6 ⟨rfl, hb6⟩
  have P6 := hid (Blk.ext P5.out hb6)
  have B6 := hid (B5.out.ext hb6)
  have M6 := hid (M5.out.trans hb6)
  have HR6 : Hid (RdAt w6 w3.heap.size ⟨l.drop p, sz, -1, 0, 0⟩) := Blk.ext HR5.out hb6
  clear hb6
  have q1 : w6.cell? ⟨g, 1, none⟩ = some (.int .i64 (p : Int)) := PAt.at_ P6.out
  have z1 : w6.frozen? ⟨g, 1, none⟩ = false := PAt.froz P6.out 1
  have tw : IntKind.i64.wrap ((p : Int) + (sz : Int)) = (p : Int) + (sz : Int) := IntWalk.i64_in _ (by have := hp.out; have := hsz.out; omega)
  have HP9 : Hid (Mod [g] w6 (w6.setCell ⟨g, 1, none⟩ (.int .i64 ((p : Int) + (sz : Int)))) ∧ PAt (w6.setCell ⟨g, 1, none⟩ (.int .i64 ((p : Int) + (sz : Int)))) g l (p + sz) 0 ∧ Blk (w6.setCell ⟨g, 1, none⟩ (.int .i64 ((p : Int) + (sz : Int)))) w.heap.size 64 (itemC nulT none 0)) := by
    refine ⟨(Mod.refl _ _).setCell (.inl (by simp)) _, ?_, Blk.far B6.out (by simpa using hgB.out) _⟩
    have := Blk.set_ P6.out 1 (.int .i64 ((p + sz : Nat) : Int))
    simpa [PAt] using this
  go_upto_region 20 with fail
  go_cut [] (fun wx => Hid (Mod [g] w6 wx ∧ PAt wx g l (p + sz) 0 ∧ Blk wx w.heap.size 64 (itemC nulT none 0)))
  case first =>
    go_region_with ((go_at_call 63; refine (At_any w3.heap.size ⟨l.drop p, sz, -1, 0, 0⟩ _ ?_).mono ?_; (first | exact HR6.out | exact Blk.drew HR6.out | exact Blk.drew (Blk.drew HR6.out)); rintro x w' ⟨rfl, rfl⟩))
    all_goals go_wp2_with fail
    all_goals go_meet
    all_goals exact ⟨by first | exact HP9.out.1 | exact HP9.out.1.drew, HP9.out.2⟩
  clear q1 z1 tw HP9
  have hc2 := hid hcut.out
  clear hcut
  go_wp2_with fail
  refine (plist_any d hd g l (show Hid _ from hp.out.2) IH p sz n true (-1) (by unfold Hid; simp) hr (by unfold Hid; first | exact HNN.out | (have := HNN.out; simpa using this) | simp) (by have h1 := (readH_some hr.out).le; have h2 := hp.out; rw [List.length_drop] at h1; unfold Hid; omega) _ hc2.out.2.1).mono ?_
  rintro x w9 ⟨t, A, c, rfl, hm9, hp9, hs9⟩
  have HB9 := hid (Blk.mod hc2.out.2.2 hm9 (by simpa using hgB.out))
  have HM9 := hid hm9; have HP9 := hid hp9; have HS9 := hid hs9
  clear hm9 hp9 hs9
  obtain ⟨c0, c1, c2, c3, c4⟩ := cells5 HB9.out
  have f0 := Blk.frozen HB9.out 0
  have f1 := Blk.frozen HB9.out 1
  have f2 := Blk.frozen HB9.out 2
  have f3 := Blk.frozen HB9.out 3
  have f4 := Blk.frozen HB9.out 4
  go_wp2_with fail
  obtain ⟨d0, d1, d2, d3, d4⟩ := cells5 (set5_blk (t := t) (A := A) (c := c) HB9.out)
  clear c0 c1 c2 c3 c4 f0 f1 f2 f3 f4 
  show bodyPost _ _ _ _ _ (set5 w9 w.heap.size t A c)
  refine bodyPost_ret (v := itemV t A c) (by simp [results, Tryz.results40, go_sem, d0, d1, d2, d3, d4]) rfl ?_
  rw [HF.out]
  exact IPost.store hg.out (M6.out.of_ext.trans hc2.out.1) (Blk.lt hc2.out.2.2) HM9.out HP9.out HS9.out


theorem pitem_any (g : Nat) (l : List UInt8) (hl : l.length ≤ 1073741824) : ∀ d : Nat, d ≤ 9 → ∀ p, p ≤ l.length → ∀ w, PAt w g l p 0 → Calls Tryz.prog 40 #[.pointer (some ⟨g, 0, none⟩), .int .i64 (d : Int)] w (IPost g l p (flt d (l.drop p)) d w) := by
  intro d
  induction d with
  | zero =>
    intro _ p hp w h
    cases hr : readH (l.drop p) with
    | none => exact pitem_none g l p ⟨hp, hl⟩ 0 hr w h
    | some x =>
      obtain ⟨sz, m, n, o⟩ := x
      have hm := (readH_some hr).m7
      have h8 : (m = 1 ∨ m = 5 ∨ m = 6 ∨ m = 7) ∨ (m = 0 ∨ m = 2 ∨ m = 3 ∨ m = 4) := by omega
      rcases h8 with h8 | h8
      · exact pitem_noK g l p ⟨hp, hl⟩ 0 sz m n o h8 hr w h
      · exact pitem_deep g l p ⟨hp, hl⟩ sz m n o h8 hr w h
  | succ d ih =>
    intro hd p hp w h
    have ih' := ih (by omega)
    have e : ((d + 1 : Nat) : Int) = (d : Int) + 1 := by omega
    cases hr : readH (l.drop p) with
    | none => exact pitem_none g l p ⟨hp, hl⟩ (d + 1) hr w h
    | some x =>
      obtain ⟨sz, m, n, o⟩ := x
      have hm := (readH_some hr).m7
      have h8 : (m = 1 ∨ m = 5 ∨ m = 6 ∨ m = 7) ∨ m = 0 ∨ (m = 2 ∨ m = 3) ∨ m = 4 := by omega
      rcases h8 with h8 | rfl | h8 | rfl
      · exact pitem_noK g l p ⟨hp, hl⟩ (d + 1) sz m n o h8 hr w h
      · rw [e]; exact pitem_num g l p ⟨hp, hl⟩ d sz n o hr w h
      · rw [e]; exact pitem_str g l p ⟨hp, hl⟩ d sz m n o h8 hr w h
      · rw [e]
        cases o with
        | false =>
          by_cases hn : 1000 < n
          · exact pitem_long g l p ⟨hp, hl⟩ d sz n hn hr w h
          · exact pitem_arr_false g l p ⟨hp, hl⟩ d sz n (by unfold Hid; omega) ih' (fun h => hn h.2) hr w h
        | true => exact pitem_arr_true g l p ⟨hp, hl⟩ d sz n (by unfold Hid; omega) ih' (fun h => by cases h.1) hr w h
end Go.Proofs.YtogjghmoankleaaGreat


namespace Go.Proofs.YtogjghmoankleaaGreat
open Go.RowKit
set_option linter.unusedVariables false
set_option linter.unusedSimpArgs false

/-- Place and error of a whole text. -/
def parseR (l : List UInt8) : Nat × Int := if (flt 8 l).2 = 0 ∧ (flt 8 l).1 < l.length then ((flt 8 l).1, 2) else flt 8 l
def PPost (l : List UInt8) (w : World) (x : Ending) (w' : World) : Prop :=
  Ext w w' ∧ (((parseR l).2 ≠ 0 ∧ x = .returned (.tuple #[itemV nulT none 0, .int .i64 ((parseR l).1 : Int), .int .i64 (parseR l).2])) ∨
    ((parseR l).2 = 0 ∧ ∃ t A c, x = .returned (.tuple #[itemV t A c, .int .i64 (-1), .int .i64 0]) ∧ (t.right 8 = true ∧ t.ok) ∧ t.bytes = l ∧ IsL w' (fun _ => True) t A))

set_option maxRecDepth 20000 in
set_option maxHeartbeats 1600000 in
theorem parse_any (l : List UInt8) (hl : Hid (l.length ≤ 1073741824)) (w : World) : Calls Tryz.prog 25 #[str l] w (PPost l w) := by
  have hF0 : Hid (flt 8 (l.drop 0) = flt 8 l) := by unfold Hid; rw [List.drop_zero]
  have HP1 : Hid (PAt ((w.alloc (.cells (itemC nulT none 0) 64)).alloc (.cells #[str l, .int .i64 ((0 : Nat) : Int), .int .i64 0] 82)) (w.heap.size + 1) l 0 0) := Blk.newAt _ _ _ (by simp)
  have HB1 : Hid (Blk ((w.alloc (.cells (itemC nulT none 0) 64)).alloc (.cells #[str l, .int .i64 ((0 : Nat) : Int), .int .i64 0] 82)) w.heap.size 64 (itemC nulT none 0)) := (Blk.new _ _ _).alloc _
  have HE1 := hid (((Mod.refl [w.heap.size + 1] w).alloc (.cells (itemC nulT none 0) 64)).alloc (.cells #[str l, .int .i64 ((0 : Nat) : Int), .int .i64 0] 82))
  go_enter Tryz.func25, Tryz.ntmps25
  go_upto_region 2 with fail
  go_cut [6] (fun s6 wx => ∃ X t A c, s6 = .pointer (some ⟨X, 0, none⟩) ∧ Hid (Mod [w.heap.size + 1] w wx ∧ PAt wx (w.heap.size + 1) l (flt 8 l).1 (flt 8 l).2 ∧ Blk wx w.heap.size 64 (itemC nulT none 0) ∧ Blk wx X 64 (itemC t A c) ∧ w.heap.size + 1 < X ∧
      ((flt 8 l).2 = 0 → (t.right 8 = true ∧ t.ok) ∧ t.bytes ++ l.drop (flt 8 l).1 = l ∧ IsL wx (fun b => w.heap.size + 2 ≤ b ∧ b ≠ X) t A)))
  case first =>
    go_wp2_with fail
    refine (pitem_any (w.heap.size + 1) l hl.out 8 (by omega) 0 (by omega) _ HP1.out).mono ?_
    rintro x w2 ⟨t, A, c, rfl, hm2, hp2, hs2⟩
    rw [hF0.out] at hp2 hs2
    rw [Nat.zero_add] at hp2 hs2
    rw [List.drop_zero] at hs2
    have HB2 := hid (HB1.out.mod hm2 (by simp))
    have HP2 := hid hp2
    have HS2 := hid hs2
    have HE2 := hid (HE1.out.trans hm2)
    clear hm2 hp2 hs2 HB1 HE1 HP1
    go_wp2_with fail
    go_meet
    refine ⟨w2.heap.size, t, A, c, rfl, HE2.out.alloc _, Blk.alloc HP2.out _, HB2.out.alloc _, Blk.new _ _ _, Blk.lt HP2.out, fun h0 => ⟨(HS2.out h0).1, (HS2.out h0).2.1, ?_⟩⟩
    have h3 := (HS2.out h0).2.2
    exact IsL.ext (IsL.weak (fun k hk hq => ⟨by simpa using hq, by omega⟩) t h3) ((Mod.refl _ _).alloc _)
  obtain ⟨X, t, A, c, rfl, hH⟩ := hcut
  clear HB1 HE1 HP1 hF0
  obtain ⟨E, hE⟩ : ∃ E, E = (flt 8 l).2 := ⟨_, rfl⟩
  obtain ⟨q, hq⟩ : ∃ q, q = (flt 8 l).1 := ⟨_, rfl⟩
  have HPR : Hid (parseR l = if E = 0 ∧ q < l.length then (q, 2) else (q, E)) := by unfold Hid parseR; rw [hE, hq]
  rw [← hE, ← hq] at hH
  have hql : q ≤ l.length := by rw [hq]; exact flt_le 8 l
  have q0 : (0 : Int) ≤ (q : Int) := by omega
  have q1 : (q : Int) ≤ (l.length : Int) := by omega
  have l1 : (l.length : Int) ≤ 1073741824 := by have := hl.out; omega
  have HQL := hid hql
  clear hE hq hql
  have p1 : wc.cell? ⟨w.heap.size + 1, 1, none⟩ = some (.int .i64 (q : Int)) := PAt.at_ hH.out.2.1
  have p2 : wc.cell? ⟨w.heap.size + 1, 2, none⟩ = some (.int .i64 E) := PAt.err hH.out.2.1
  by_cases hE : E = 0
  · subst hE
    by_cases hql : q < l.length
    · have tl : decide (q < l.length) = true := by simp [hql]
      have tl2 : decide ((q : Int) < (l.length : Int)) = true := by simp [hql]
      have HPE := hid HPR.out
      rw [if_pos ⟨rfl, hql⟩] at HPE
      clear hql
      go_upto_region 4 with fail
      go_wp2_with fail
      refine (pfail_any (w.heap.size + 1) l q q 2 _ hH.out.2.1).mono ?_
      rintro x w3 ⟨rfl, hm3, hp3⟩
      have HM3 := hid (hH.out.1.trans hm3)
      have HP3 := hid hp3
      have HB3 := hid (hH.out.2.2.1.mod hm3 (by simp))
      clear hm3 hp3 p1 p2
      have p1 : w3.cell? ⟨w.heap.size + 1, 1, none⟩ = some (.int .i64 (q : Int)) := PAt.at_ HP3.out
      have p2 : w3.cell? ⟨w.heap.size + 1, 2, none⟩ = some (.int .i64 2) := PAt.err HP3.out
      obtain ⟨c0, c1, c2, c3, c4⟩ := cells5 HB3.out
      have f0 := Blk.frozen HB3.out 0
      have f1 := Blk.frozen HB3.out 1
      have f2 := Blk.frozen HB3.out 2
      have f3 := Blk.frozen HB3.out 3
      have f4 := Blk.frozen HB3.out 4
      go_upto_region 6 with fail
      have HW : Hid (Mod [w.heap.size + 1] w (set5 w3 w.heap.size nulT none 0).drew ∧ Blk (set5 w3 w.heap.size nulT none 0).drew w.heap.size 64 (itemC nulT none 0)) := ⟨(set5_mod HM3.out (Nat.le_refl _)).drew, Blk.drew (set5_blk HB3.out)⟩
      go_cut [3, 4] (fun s3 s4 wx => s3 = .int .i64 (q : Int) ∧ s4 = .int .i64 2 ∧ Hid (Mod [w.heap.size + 1] w wx ∧ Blk wx w.heap.size 64 (itemC nulT none 0)))
      case first =>
        go_region
        all_goals go_wp2_with fail
        all_goals go_meet
        all_goals exact ⟨rfl, rfl, HW.out.1, HW.out.2⟩
      clear c0 c1 c2 c3 c4 f0 f1 f2 f3 f4
      obtain ⟨rfl, rfl, hR⟩ := hcut
      obtain ⟨d0, d1, d2, d3, d4⟩ := cells5 hR.out.2
      go_wp2_with fail
      refine bodyPost_ret (v := .tuple #[itemV nulT none 0, .int .i64 (q : Int), .int .i64 2]) (by simp [results, Tryz.results25, go_sem, d0, d1, d2, d3, d4]) rfl ?_
      refine ⟨Mod.new (S := [w.heap.size + 1]) hR.out.1 (fun k hk => by rw [List.mem_singleton] at hk; subst hk; exact .inr (by omega)), .inl ?_⟩
      rw [HPE.out]
      exact ⟨(show ¬ ((2 : Int) = 0) by decide), rfl⟩
    · have tl : decide (q < l.length) = false := by simp [hql]
      have tl2 : decide ((q : Int) < (l.length : Int)) = false := by simp; omega
      have HPE := hid HPR.out
      rw [if_neg (fun h => hql h.2)] at HPE
      have HQ := hid hql
      clear hql
      obtain ⟨x0, x1, x2, x3, x4⟩ := cells5 hH.out.2.2.2.1
      obtain ⟨c0, c1, c2, c3, c4⟩ := cells5 hH.out.2.2.1
      have f0 := Blk.frozen hH.out.2.2.1 0
      have f1 := Blk.frozen hH.out.2.2.1 1
      have f2 := Blk.frozen hH.out.2.2.1 2
      have f3 := Blk.frozen hH.out.2.2.1 3
      have f4 := Blk.frozen hH.out.2.2.1 4
      go_wp2_with fail
      obtain ⟨d0, d1, d2, d3, d4⟩ := cells5 (set5_blk (t := t) (A := A) (c := c) hH.out.2.2.1)
      clear c0 c1 c2 c3 c4 f0 f1 f2 f3 f4 x0 x1 x2 x3 x4 p1 p2
      show bodyPost _ _ _ _ _ (set5 wc w.heap.size t A c)
      refine bodyPost_ret (v := .tuple #[itemV t A c, .int .i64 (-1), .int .i64 0]) (by simp [results, Tryz.results25, go_sem, d0, d1, d2, d3, d4]) rfl ?_
      refine ⟨Mod.new (S := [w.heap.size + 1]) (set5_mod hH.out.1 (Nat.le_refl _)) (fun k hk => by rw [List.mem_singleton] at hk; subst hk; exact .inr (by omega)), .inr ?_⟩
      have h1 := hH.out.2.2.2.2.2 (by first | rfl | trivial)
      rw [HPE.out]
      refine ⟨rfl, t, A, c, rfl, h1.1, ?_, ?_⟩
      · have h2 := h1.2.1
        have hqe : q = l.length := by have := HQ.out; have := HQL.out; omega
        rw [hqe, List.drop_length, List.append_nil] at h2
        exact h2
      · exact IsL.weak (fun k hk hq => trivial) t (IsL.mod set5_modb (fun k hq hk hm => by rw [List.mem_singleton] at hm; have := hq.1; omega) t h1.2.2)
  · have te : (E == 0) = false := by simp [hE]
    have te2 : (E = 0) = False := by simp [hE]
    have tn : (E != 0) = true := by simp [hE]
    have HPE := hid HPR.out
    rw [if_neg (fun h => hE h.1)] at HPE
    have HNE := hid hE
    clear hE
    obtain ⟨c0, c1, c2, c3, c4⟩ := cells5 hH.out.2.2.1
    have f0 := Blk.frozen hH.out.2.2.1 0
    have f1 := Blk.frozen hH.out.2.2.1 1
    have f2 := Blk.frozen hH.out.2.2.1 2
    have f3 := Blk.frozen hH.out.2.2.1 3
    have f4 := Blk.frozen hH.out.2.2.1 4
    go_upto_region 6 with fail
    have HW : Hid (Mod [w.heap.size + 1] w (set5 wc w.heap.size nulT none 0).drew ∧ Blk (set5 wc w.heap.size nulT none 0).drew w.heap.size 64 (itemC nulT none 0)) := ⟨(set5_mod hH.out.1 (Nat.le_refl _)).drew, Blk.drew (set5_blk hH.out.2.2.1)⟩
    go_cut [3, 4] (fun s3 s4 wx => s3 = .int .i64 (q : Int) ∧ s4 = .int .i64 E ∧ Hid (Mod [w.heap.size + 1] w wx ∧ Blk wx w.heap.size 64 (itemC nulT none 0)))
    case first =>
      go_region
      all_goals go_wp2_with fail
      all_goals go_meet
      all_goals exact ⟨rfl, rfl, HW.out.1, HW.out.2⟩
    clear c0 c1 c2 c3 c4 f0 f1 f2 f3 f4
    obtain ⟨rfl, rfl, hR⟩ := hcut
    obtain ⟨d0, d1, d2, d3, d4⟩ := cells5 hR.out.2
    go_wp2_with fail
    refine bodyPost_ret (v := .tuple #[itemV nulT none 0, .int .i64 (q : Int), .int .i64 E]) (by simp [results, Tryz.results25, go_sem, d0, d1, d2, d3, d4]) rfl ?_
    refine ⟨Mod.new (S := [w.heap.size + 1]) hR.out.1 (fun k hk => by rw [List.mem_singleton] at hk; subst hk; exact .inr (by omega)), .inl ?_⟩
    rw [HPE.out]
    exact ⟨HNE.out, rfl⟩
end Go.Proofs.YtogjghmoankleaaGreat


namespace Go.Proofs.YtogjghmoankleaaGreat
open Go.RowKit
set_option linter.unusedVariables false
set_option linter.unusedSimpArgs false

theorem parse_back {x : T} (hx : x.right 8 = true) (hox : x.ok) : parseR x.bytes = (x.bytes.length, 0) := by
  have h := flt_bytes x 8 hx hox []
  rw [List.append_nil] at h
  unfold parseR
  rw [h]
  rw [if_neg (by rintro ⟨_, h⟩; exact Nat.lt_irrefl _ h)]
/-- A name's block's four cells, stored anew. -/
def set4 (W : World) (b : Nat) (e : EV) : World := (((W.setCell ⟨b, 0, none⟩ (.int .i64 e.sch)).setCell ⟨b, 1, none⟩ (str e.name)).setCell ⟨b, 2, none⟩ (.int .u64 (e.node : Int))).setCell ⟨b, 3, none⟩ (.int .u64 (e.svc : Int))
theorem set4_blk {W : World} {b : Nat} {e0 e : EV} (h : Blk W b 24 e0.c) : Blk (set4 W b e) b 24 e.c := by
  have := (((h.set_ 0 (.int .i64 e.sch)).set_ 1 (str e.name)).set_ 2 (.int .u64 (e.node : Int))).set_ 3 (.int .u64 (e.svc : Int))
  unfold set4
  simpa using this
theorem set4_mod {w W : World} {S : List Nat} {b : Nat} {e : EV} (h : Mod S w W) (hb : w.heap.size ≤ b) : Mod S w (set4 W b e) := (((h.setCell (.inr hb) _).setCell (.inr hb) _).setCell (.inr hb) _).setCell (.inr hb) _
theorem cells4 {W : World} {b : Nat} {e : EV} (h : Blk W b 24 e.c) : W.cell? ⟨b, 0, none⟩ = some (.int .i64 e.sch) ∧ W.cell? ⟨b, 1, none⟩ = some (str e.name) ∧ W.cell? ⟨b, 2, none⟩ = some (.int .u64 (e.node : Int)) ∧ W.cell? ⟨b, 3, none⟩ = some (.int .u64 (e.svc : Int)) := ⟨h.cell 0, h.cell 1, h.cell 2, h.cell 3⟩
/-- A right item's bytes, parsed: the same item. -/
theorem parse_same {x : T} (hx : x.right 8 = true) (hxp : x.plain = true) (hox : x.ok) (hl : x.bytes.length ≤ 1073741824) (w : World) : Calls Tryz.prog 25 #[str x.bytes] w (fun e w' => ∃ t A c, e = .returned (.tuple #[itemV t A c, .int .i64 (-1), .int .i64 0]) ∧ Ext w w' ∧ t.right 8 = true ∧ t.ok ∧ t.same x = true ∧ x.same t = true ∧ IsL w' (fun _ => True) t A) := by
  refine (parse_any x.bytes hl w).mono fun e w' ⟨hb, h⟩ => ?_
  have h0 : (parseR x.bytes).2 = 0 := by rw [parse_back hx hox]
  rcases h with ⟨h1, _⟩ | ⟨_, t, A, c, he, ⟨hr, hok⟩, hbt, hl⟩
  · exact absurd h0 h1
  · have hp : t.plain = true := by have := hr; rw [T.right_eq, Bool.and_eq_true] at this; exact this.2
    have e1 := (T.bytes_inj t x hp hxp hok hox [] [] (by rw [hbt])).1
    have e2 := (T.bytes_inj x t hxp hp hox hok [] [] (by rw [hbt])).1
    exact ⟨t, A, c, he, hb, hr, hok, e1, e2, hl⟩
theorem same_mk {t : T} {kind : Int} {n : Nat} {s : List UInt8} {op : Bool} {k : Nat} {ch : Nat → T} (h : (T.mk kind n s op k ch).same t = true) : t.kind = kind ∧ t.n = n ∧ t.s = s ∧ t.op = op ∧ t.k = k ∧ ∀ i, i < k → (ch i).same (t.ch i) = true := by
  unfold T.same at h
  simp only [Bool.and_eq_true, beq_iff_eq] at h
  obtain ⟨⟨⟨⟨⟨h1, h2⟩, h3⟩, h4⟩, h5⟩, h6⟩ := h
  exact ⟨h1.symm, h2.symm, h3.symm, h4.symm, h5.symm, T.all_iff.1 h6⟩
theorem readE_same {e : EV} (ho : e.ok = true) {t : T} (h : (eidT e).same t = true) : readE t = e := by
  rcases EV.ok_cases ho with rfl | ⟨name, rfl, hn, hl⟩ | ⟨node, svc, rfl, ha, hb⟩
  · obtain ⟨h1, h2, h3, h4, h5, h6⟩ := same_mk h
    have g0 := same_mk (h6 0 (by omega))
    have g1 : (numT 0).same (t.ch 1) = true := h6 1 (by omega)
    have g1 := same_mk g1
    have z : ¬ (t.kind ≠ 4 ∨ t.k ≠ 2 ∨ (t.ch 0).kind ≠ 0) := by rw [h1, h5, g0.1]; decide
    have z2 : ¬ ((t.ch 0).n = 2 ∧ (t.ch 1).k = 2) := by rintro ⟨h, _⟩; rw [g0.2.1] at h; revert h; decide
    have z3 : ¬ ((t.ch 0).n = 1 ∧ (t.ch 1).kind = 3) := by rintro ⟨_, h⟩; rw [g1.1] at h; revert h; decide
    unfold readE
    rw [if_neg z, if_neg z2, if_neg z3]
    rfl
  · have h0 : ¬ name = noneL := hn
    have e1 : eidT ⟨1, name, 0, 0⟩ = T.mk 4 0 [] false 2 fun i => if i = 0 then numT 1 else textT name := by simp [eidT, twoT, h0]
    rw [e1] at h
    obtain ⟨h1, h2, h3, h4, h5, h6⟩ := same_mk h
    have g0 := same_mk (h6 0 (by omega))
    have g1 : (textT name).same (t.ch 1) = true := h6 1 (by omega)
    have g1 := same_mk g1
    have z : ¬ (t.kind ≠ 4 ∨ t.k ≠ 2 ∨ (t.ch 0).kind ≠ 0) := by rw [h1, h5, g0.1]; decide
    have z2 : ¬ ((t.ch 0).n = 2 ∧ (t.ch 1).k = 2) := by rintro ⟨h, _⟩; rw [g0.2.1] at h; revert h; decide
    have z3 : (t.ch 0).n = 1 ∧ (t.ch 1).kind = 3 := by rw [g0.2.1, g1.1]; decide
    unfold readE
    rw [if_neg z, if_neg z2, if_pos z3, g1.2.2.1]
  · obtain ⟨h1, h2, h3, h4, h5, h6⟩ := same_mk h
    have g0 := same_mk (h6 0 (by omega))
    have g1 : (T.mk 4 0 [] false 2 (fun j => if j = 0 then numT node else numT svc)).same (t.ch 1) = true := h6 1 (by omega)
    have g1 := same_mk g1
    have k0 : (numT node).same ((t.ch 1).ch 0) = true := g1.2.2.2.2.2 0 (by omega)
    have k1 : (numT svc).same ((t.ch 1).ch 1) = true := g1.2.2.2.2.2 1 (by omega)
    have k0 := same_mk k0
    have k1 := same_mk k1
    have z : ¬ (t.kind ≠ 4 ∨ t.k ≠ 2 ∨ (t.ch 0).kind ≠ 0) := by rw [h1, h5, g0.1]; decide
    have z2 : (t.ch 0).n = 2 ∧ (t.ch 1).k = 2 := ⟨g0.2.1, g1.2.2.2.2.1⟩
    unfold readE
    rw [if_neg z, if_pos z2, k0.2.1, k1.2.1]
end Go.Proofs.YtogjghmoankleaaGreat


namespace Go.Proofs.YtogjghmoankleaaGreat
open Go.RowKit
set_option linter.unusedVariables false
set_option linter.unusedSimpArgs false

theorem numT_plain (n : Nat) : (numT n).plain = true ∧ (numT n).bytes.length ≤ 9 := by
  have := headL_le 0 n
  exact ⟨by simp [numT, T.plain, T.node, T.all], by simpa [numT, T.bytes] using this⟩
end Go.Proofs.YtogjghmoankleaaGreat


namespace Go.Proofs.YtogjghmoankleaaGreat
open Go.RowKit
set_option linter.unusedVariables false
set_option linter.unusedSimpArgs false

theorem pairT2_plain (l k : Nat) : (pairT2 l k).plain = true ∧ (pairT2 l k).size ≤ 100 := by
  exact ⟨by simp [pairT2, numT, T.plain, T.node, T.all], by simp [pairT2, numT, T.size, T.sum]⟩
end Go.Proofs.YtogjghmoankleaaGreat


namespace Go.Proofs.YtogjghmoankleaaGreat
open Go.RowKit
set_option linter.unusedVariables false
set_option linter.unusedSimpArgs false

theorem T.plain_of {t : T} {d : Nat} (h : t.right d = true) : t.plain = true := by
  rw [T.right_eq, Bool.and_eq_true] at h; exact h.2
theorem bytes_same {a b : T} (ha : a.plain = true) (hb : b.plain = true) (oa : a.ok) (ob : b.ok) (h : a.bytes = b.bytes) : a.same b = true := (T.bytes_inj a b ha hb oa ob [] [] (by rw [h])).1

def isPrev (s : List UInt8) (e : EV) : Prop := e.ok = true ∧ (eidT e).bytes = s
def isAge (s : List UInt8) (n : Nat) : Prop := n ≤ 1099511627776 ∧ headL 0 n = s
def isHops (s : List UInt8) (h : Nat × Nat) : Prop := mayB h.1 h.2 = true ∧ 130 :: (headL 0 h.1 ++ headL 0 h.2) = s

open Classical in
noncomputable def theO {α : Type} (P : α → Prop) : Option α := if h : ∃ e, P e then some h.choose else none
theorem theO_some {α : Type} {P : α → Prop} (u : ∀ x y, P x → P y → x = y) {x : α} (h : P x) : theO P = some x := by
  unfold theO
  have hx : ∃ e, P e := ⟨x, h⟩
  rw [dif_pos hx, u _ _ hx.choose_spec h]
theorem theO_none {α : Type} {P : α → Prop} (h : ∀ x, ¬ P x) : theO P = none := by
  unfold theO
  rw [dif_neg (by rintro ⟨x, hx⟩; exact h x hx)]
noncomputable def prevO (s : List UInt8) : Option EV := theO (isPrev s)
noncomputable def ageO (s : List UInt8) : Option Nat := theO (isAge s)
noncomputable def hopsO (s : List UInt8) : Option (Nat × Nat) := theO (isHops s)
def PTree (l : List UInt8) : Prop := (parseR l).2 = 0 → ∃ t : T, t.right 8 = true ∧ t.ok ∧ t.bytes = l

/-- Of a right tree the name that it may be. -/
theorem prev_tree {t : T} (hr : t.right 8 = true) (hok : t.ok) {e : EV} (h : isPrev t.bytes e) : readE t = e ∧ ofB t = true := by
  obtain ⟨g1, g2, g3, g4⟩ := eidT_ok h.1
  have p := T.plain_of hr
  have s1 := bytes_same g3 p g1 hok h.2
  have s2 := bytes_same p g3 hok g1 h.2.symm
  have e1 := readE_same h.1 s1
  refine ⟨e1, ?_⟩
  unfold ofB
  rw [e1, h.1, hr, s2]; rfl
theorem tree_prev {t : T} (hr : t.right 8 = true) (hok : t.ok) (h : ofB t = true) : isPrev t.bytes (readE t) := by
  unfold ofB at h
  rw [hr] at h
  simp only [Bool.and_eq_true, Bool.true_and] at h
  obtain ⟨g1, g2, g3, g4⟩ := eidT_ok h.1
  exact ⟨h.1, (T.same_bytes t _ g1 h.2).symm⟩
theorem isPrev_inj {s : List UInt8} (x y : EV) (hx : isPrev s x) (hy : isPrev s y) : x = y := by
  obtain ⟨g1, g2, g3, g4⟩ := eidT_ok hx.1
  have h1 := readE_same hx.1 (T.same_refl (eidT x))
  have h2 : isPrev (eidT x).bytes y := by rw [hx.2]; exact hy
  rw [← h1, (prev_tree (g2 8 (by omega)) g1 h2).1]
theorem prevO_bad {s : List UInt8} (h : (parseR s).2 ≠ 0) : prevO s = none := theO_none fun e he => h (by
  obtain ⟨g1, g2, g3, g4⟩ := eidT_ok he.1
  rw [← he.2, parse_back (g2 8 (by omega)) g1])
theorem prevO_tree {t : T} (hr : t.right 8 = true) (hok : t.ok) : prevO t.bytes = if ofB t then some (readE t) else none := by
  by_cases h : ofB t = true
  · rw [if_pos h]; exact theO_some isPrev_inj (tree_prev hr hok h)
  · rw [if_neg h]; exact theO_none fun e he => h (prev_tree hr hok he).2

theorem isAge_inj {s : List UInt8} (x y : Nat) (hx : isAge s x) (hy : isAge s y) : x = y := by
  have e : (numT x).bytes = (numT y).bytes := by rw [(numT_facts x).2.2, (numT_facts y).2.2, hx.2, hy.2]
  have := bytes_same (numT_plain x).1 (numT_plain y).1 (num_ok (by have := hx.1; omega)) (num_ok (by have := hy.1; omega)) e
  exact (same_mk this).2.1.symm
theorem ageO_bad {s : List UInt8} (h : (parseR s).2 ≠ 0) : ageO s = none := theO_none fun n hn => h (by
  rw [← hn.2, ← (numT_facts n).2.2, parse_back (numT_facts n).2.1 (num_ok (by have := hn.1; omega))])
def ageB (t : T) : Bool := decide (t.kind = 0) && decide (t.n ≤ 1099511627776)
theorem ageO_tree {t : T} (hr : t.right 8 = true) (hok : t.ok) : ageO t.bytes = if ageB t then some t.n else none := by
  have p := T.plain_of hr
  by_cases h : ageB t = true
  · rw [if_pos h]
    simp only [ageB, Bool.and_eq_true, decide_eq_true_eq] at h
    refine theO_some isAge_inj ⟨h.2, ?_⟩
    cases t with
    | nil => exact absurd hok T.not_nil
    | mk kind n s op k ch =>
      have hk : kind = 0 := h.1
      subst hk
      rfl
  · rw [if_neg h]
    refine theO_none fun n hn => h ?_
    have := bytes_same (numT_plain n).1 p (num_ok (by have := hn.1; omega)) hok (by rw [(numT_facts n).2.2, hn.2])
    have g := same_mk this
    simp only [ageB, Bool.and_eq_true, decide_eq_true_eq]
    exact ⟨g.1, by rw [g.2.1]; exact hn.1⟩

theorem may_le {h : Nat × Nat} (hm : mayB h.1 h.2 = true) : h.1 ≤ 255 ∧ h.2 ≤ 255 := by simp [mayB] at hm; omega
theorem isHops_inj {s : List UInt8} (x y : Nat × Nat) (hx : isHops s x) (hy : isHops s y) : x = y := by
  have bx := may_le hx.1
  have by_ := may_le hy.1
  have fx := pairT2_facts x.1 x.2 (by omega) (by omega)
  have fy := pairT2_facts y.1 y.2 (by omega) (by omega)
  have e : (pairT2 x.1 x.2).bytes = (pairT2 y.1 y.2).bytes := by rw [fx.2.2.2, fy.2.2.2, hx.2, hy.2]
  have := same_mk (bytes_same (pairT2_plain x.1 x.2).1 (pairT2_plain y.1 y.2).1 fx.1 fy.1 e)
  have a := same_mk (this.2.2.2.2.2 0 (by omega))
  have b : (numT x.2).same (numT y.2) = true := this.2.2.2.2.2 1 (by omega)
  have b := same_mk b
  exact Prod.ext a.2.1.symm b.2.1.symm
theorem hopsO_bad {s : List UInt8} (h : (parseR s).2 ≠ 0) : hopsO s = none := theO_none fun n hn => h (by
  have b := may_le hn.1
  have f := pairT2_facts n.1 n.2 (by omega) (by omega)
  rw [← hn.2, ← f.2.2.2, parse_back f.2.2.1 f.1])
def hopsB (t : T) : Bool := decide (t.kind = 4) && !t.op && decide (t.k = 2) && decide ((t.ch 0).kind = 0) && decide ((t.ch 1).kind = 0) && mayB (t.ch 0).n (t.ch 1).n
theorem hopsO_tree {t : T} (hr : t.right 8 = true) (hok : t.ok) : hopsO t.bytes = if hopsB t then some ((t.ch 0).n, (t.ch 1).n) else none := by
  have p := T.plain_of hr
  by_cases h : hopsB t = true
  · rw [if_pos h]
    simp only [hopsB, Bool.and_eq_true, decide_eq_true_eq, Bool.not_eq_true'] at h
    obtain ⟨⟨⟨⟨⟨h1, h2⟩, h3⟩, h4⟩, h5⟩, h6⟩ := h
    refine theO_some isHops_inj ⟨h6, ?_⟩
    cases t with
    | nil => exact absurd hok T.not_nil
    | mk kind n s op k ch =>
      have hk : kind = 4 := h1
      have ho : op = false := h2
      have hk2 : k = 2 := h3
      subst hk ho hk2
      have h4 : (ch 0).kind = 0 := h4
      have h5 : (ch 1).kind = 0 := h5
      have c0 : (ch 0).bytes = headL 0 (ch 0).n := by
        have : (ch 0).ok := hok.2.2.2.2 0 (by omega)
        revert this h4
        cases ch 0 with
        | nil => exact fun _ h => absurd h T.not_nil
        | mk kind n s op k ch => intro h4 _; have hk : kind = 0 := h4; subst hk; rfl
      have c1 : (ch 1).bytes = headL 0 (ch 1).n := by
        have : (ch 1).ok := hok.2.2.2.2 1 (by omega)
        revert this h5
        cases ch 1 with
        | nil => exact fun _ h => absurd h T.not_nil
        | mk kind n s op k ch => intro h4 _; have hk : kind = 0 := h4; subst hk; rfl
      show 130 :: (headL 0 (ch 0).n ++ headL 0 (ch 1).n) = _
      rw [← c0, ← c1]
      simp [T.bytes, T.cat, headL]
      rfl
  · rw [if_neg h]
    refine theO_none fun n hn => h ?_
    have b := may_le hn.1
    have f := pairT2_facts n.1 n.2 (by omega) (by omega)
    have g := same_mk (bytes_same (pairT2_plain n.1 n.2).1 p f.1 hok (f.2.2.2.trans hn.2))
    have a := same_mk (g.2.2.2.2.2 0 (by omega))
    have b : (numT n.2).same (t.ch 1) = true := g.2.2.2.2.2 1 (by omega)
    have b := same_mk b
    have hm := hn.1
    rw [← a.2.1, ← b.2.1] at hm
    simp only [hopsB, Bool.and_eq_true, decide_eq_true_eq, Bool.not_eq_true']
    exact ⟨⟨⟨⟨⟨g.1, g.2.2.2.1⟩, g.2.2.2.2.1⟩, a.1⟩, b.1⟩, hm⟩
end Go.Proofs.YtogjghmoankleaaGreat


namespace Go.Proofs.YtogjghmoankleaaGreat
open Go.RowKit
set_option linter.unusedVariables false
set_option linter.unusedSimpArgs false

def gotV (sz m n : Nat) (o : Bool) : Value := .agg #[.int .i64 (sz : Int), .int .i64 (m : Int), .int .u64 (n : Int), .bool o]
def gotOf (x : Option (Nat × Nat × Nat × Bool)) : Value := match x with | none => gotV 0 0 0 false | some (sz, m, n, o) => gotV sz m n o
theorem first_div' (c : UInt8) (l : List UInt8) {m : Nat} (h : 0 < (⟨(c :: l).toArray⟩ : ByteArray).size) (hm : Hid (c.toNat / 32 = m)) : Value.int .i64 (wrap64 ((wrap64 ((⟨(c :: l).toArray⟩ : ByteArray)[0].toNat : Int)).tdiv 32)) = .int .i64 (m : Int) := by
  rw [← hm.out]
  show Value.int .i64 (wrap64 ((wrap64 (c.toNat : Int)).tdiv 32)) = _
  have := c.toNat_lt
  have e : wrap64 (c.toNat : Int) = (c.toNat : Int) := IntWalk.wrap64_in _ (by omega)
  rw [e, Int.tdiv_eq_ediv_of_nonneg (by omega), IntWalk.wrap64_in _ (by omega)]; rfl
theorem first_mod' (c : UInt8) (l : List UInt8) {k : Nat} (h : 0 < (⟨(c :: l).toArray⟩ : ByteArray).size) (hk : Hid (c.toNat % 32 = k)) : Value.int .i64 ((wrap64 ((⟨(c :: l).toArray⟩ : ByteArray)[0].toNat : Int)).tmod 32) = .int .i64 (k : Int) := by
  rw [← hk.out]
  show Value.int .i64 ((wrap64 (c.toNat : Int)).tmod 32) = _
  have := c.toNat_lt
  have e : wrap64 (c.toNat : Int) = (c.toNat : Int) := IntWalk.wrap64_in _ (by omega)
  rw [e, Int.tmod_eq_emod_of_nonneg (by omega)]; rfl
def sz1 (k : Nat) : Nat := if k = 24 then 1 else 0
def sz2 (k : Nat) : Nat := if k = 25 then 2 else sz1 k
def sz3 (k : Nat) : Nat := if k = 26 then 4 else sz2 k
def sz4 (k : Nat) : Nat := if k = 27 then 8 else sz3 k
end Go.Proofs.YtogjghmoankleaaGreat


namespace Go.Proofs.YtogjghmoankleaaGreat
open Go.RowKit
set_option linter.unusedVariables false
set_option linter.unusedSimpArgs false

theorem rd_i' {j : Nat} (h : j < 1000) : wrap64 ((j : Int) + 1 + 1) = ((j + 1 : Nat) : Int) + 1 := by rw [IntWalk.wrap64_in _ (by omega)]; omega
theorem rd_i {j : Nat} (h : j < 1000) : Value.int .i64 (wrap64 ((j : Int) + 1 + 1)) = .int .i64 (((j + 1 : Nat) : Int) + 1) := by rw [rd_i' h]
theorem slice_to1 (c : UInt8) (l : List UInt8) (j : Nat) (h : j ≤ l.length) (w : World) :
    (Instr.slice 9 (str (c :: l)) none (some (.int .i64 ((j : Int) + 1))) none).run Tryz.prog w = .ok (str ((c :: l).take (j + 1))) w := by
  have hex : Value.string ((⟨(c :: l).toArray⟩ : ByteArray).extract 0 (j + 1)) = str ((c :: l).take (j + 1)) := by rw [extract_str]; rfl
  have hle : (j : Int) + 1 ≤ (l.length : Int) + 1 := by omega
  have hl0 : (0 : Int) ≤ (j : Int) + 1 := by omega
  generalize hT : (c :: l).take (j + 1) = tk at *
  have HT := hid hT; clear hT
  go_simp
theorem rd_n {c : UInt8} {l : List UInt8} {j q : Nat} (hj : j < l.length) (h8 : j < 8) (hq : fromBE (l.take j) = q) {h : j + 1 < (⟨(c :: l).toArray⟩ : ByteArray).size} :
    Value.int .u64 (IntKind.u64.wrap (IntKind.u64.wrap ((q : Int) * 256) + IntKind.u64.wrap (((⟨(c :: l).toArray⟩ : ByteArray)[j + 1].toNat : Nat) : Int))) = .int .u64 ((fromBE (l.take (j + 1)) : Nat) : Int) := by
  have e : (⟨(c :: l).toArray⟩ : ByteArray)[j + 1] = l[j] := rfl
  rw [e, List.take_succ_eq_append_getElem hj, fromBE_snoc, hq]
  have hlt := fromBE_lt (l.take j)
  have hle : (l.take j).length ≤ 7 := by rw [List.length_take]; omega
  have hp : 2 ^ (8 * (l.take j).length) ≤ 2 ^ (8 * 7) := Nat.pow_le_pow_right (by omega) (by omega)
  have h3 := Nat.lt_of_lt_of_le hlt hp
  rw [hq] at h3
  have hx := l[j].toNat_lt
  rw [IntWalk.u64_in ((q : Int) * 256) (by omega), IntWalk.u64_in ((l[j].toNat : Nat) : Int) (by omega), IntWalk.u64_in _ (by omega)]
  rfl

end Go.Proofs.YtogjghmoankleaaGreat


namespace Go.Proofs.YtogjghmoankleaaGreat
open Go.RowKit
set_option linter.unusedVariables false
set_option linter.unusedSimpArgs false

theorem sz4_val {k : Nat} (h : 24 ≤ k) (h2 : k < 28) : sz4 k = 2 ^ (k - 24) := by
  have : k = 24 ∨ k = 25 ∨ k = 26 ∨ k = 27 := by omega
  rcases this with rfl | rfl | rfl | rfl <;> decide
theorem sz4_none {k : Nat} (h : 28 ≤ k) : sz4 k = 0 := by
  unfold sz4 sz3 sz2 sz1
  rw [if_neg (by omega), if_neg (by omega), if_neg (by omega), if_neg (by omega)]
theorem pow_sz {k : Nat} (h : 24 ≤ k) (h2 : k < 28) : 1 ≤ 2 ^ (k - 24) ∧ 2 ^ (k - 24) ≤ 8 := by
  have : k = 24 ∨ k = 25 ∨ k = 26 ∨ k = 27 := by omega
  rcases this with rfl | rfl | rfl | rfl <;> decide
theorem canon_iff {c : UInt8} {l : List UInt8} {k : Nat} (hk : c.toNat % 32 = k) (h : 24 ≤ k) (h2 : k < 28) (hl : 2 ^ (k - 24) ≤ l.length) :
    headL (c.toNat / 32) (fromBE (l.take (2 ^ (k - 24)))) = (c :: l).take (2 ^ (k - 24) + 1) ↔ (headL (c.toNat / 32) (fromBE (l.take (2 ^ (k - 24))))).length = 1 + 2 ^ (k - 24) := by
  obtain ⟨j, rfl⟩ : ∃ j, k = 24 + j := ⟨k - 24, by omega⟩
  rw [Nat.add_sub_cancel_left] at *
  have hlen : (l.take (2 ^ j)).length = 2 ^ j := by rw [List.length_take]; omega
  constructor
  · intro e; rw [e, List.length_take, List.length_cons]; omega
  · intro e
    have hlt := fromBE_lt (l.take (2 ^ j))
    rw [hlen] at hlt
    rw [headL_of_length (by omega) hlt e, List.take_succ_cons]
    have hb := be_fromBE (l.take (2 ^ j))
    rw [hlen] at hb
    rw [hb, show 32 * (c.toNat / 32) + 24 + j = c.toNat from by omega, b8_toNat]

/-- The reference's reader, as a value; what a call told, as a value. -/
def rrV (r : RS) : Value := .agg #[str r.s, .int .i64 (r.at_ : Int), .int .i64 r.bad, .int .i64 r.e]
def toldV (major n : Nat) (open_ : Bool) (s : List UInt8) (k : Int) : Value := .agg #[.int .i64 (major : Int), .int .u64 (n : Int), .bool open_, str s, .int .i64 k]
end Go.Proofs.YtogjghmoankleaaGreat


namespace Go.Proofs.YtogjghmoankleaaGreat
open Go.RowKit
set_option linter.unusedVariables false
set_option linter.unusedSimpArgs false

def faultV (p : Nat) (R : Nat × Int) : Value := .tuple #[.int .i64 ((p + R.1 : Nat) : Int), .int .i64 R.2]

theorem floop_next {f : List UInt8 → Nat × Int} {L : List UInt8} {o : Bool} {n i e : Nat} (hi : i < 1000) (hin : o = false → i < n) (hnb : ¬ (o = true ∧ L[e]? = some 255)) :
    floop f L o n (1000 - i) e = if (f (L.drop e)).2 = 0 then floop f L o n (1000 - (i + 1)) (e + (f (L.drop e)).1) else (e + (f (L.drop e)).1, (f (L.drop e)).2) := by
  rw [show 1000 - i = (1000 - (i + 1)) + 1 by omega]
  conv => lhs; unfold floop
  rw [if_neg (by rintro ⟨ho, hn⟩; have := hin ho; omega), if_neg hnb]
theorem floop_end {f : List UInt8 → Nat × Int} {L : List UInt8} {n i e : Nat} (h1 : i ≤ 1000) (hi : i = n) : floop f L false n (1000 - i) e = (e, 0) := by
  cases hj : 1000 - i with
  | zero => unfold floop; rw [if_pos ⟨rfl, by omega⟩]
  | succ j => unfold floop; rw [if_pos ⟨rfl, by omega⟩]
theorem floop_break {f : List UInt8 → Nat × Int} {L : List UInt8} {n i e : Nat} (hb : L[e]? = some 255) : floop f L true n (1000 - i) e = (e + 1, 0) := by
  cases hj : 1000 - i with
  | zero => unfold floop; rw [if_neg (by simp), if_pos ⟨rfl, hb⟩]
  | succ j => unfold floop; rw [if_neg (by simp), if_pos ⟨rfl, hb⟩]
theorem floop_long {f : List UInt8 → Nat × Int} {L : List UInt8} {n i e : Nat} (hi : i = 1000) (hb : ¬ L[e]? = some 255) : floop f L true n (1000 - i) e = (e, 4) := by
  rw [hi, show 1000 - 1000 = 0 from rfl]
  unfold floop
  rw [if_neg (by simp), if_neg (fun x => hb x.2)]

end Go.Proofs.YtogjghmoankleaaGreat


namespace Go.Proofs.YtogjghmoankleaaGreat
open Go.RowKit
set_option linter.unusedVariables false
set_option linter.unusedSimpArgs false

theorem nul_count : nulT.count 2 = 1 := by decide
theorem nul_ok : nulT.ok := by unfold nulT T.ok; exact ⟨by omega, by omega, by simp, by omega, fun i hi => by omega⟩

end Go.Proofs.YtogjghmoankleaaGreat


namespace Go.Proofs.YtogjghmoankleaaGreat
open Go.RowKit
set_option linter.unusedVariables false
set_option linter.unusedSimpArgs false

def putT (ch : Nat → T) (i : Nat) (t : T) (j : Nat) : T := if j = i then t else ch j
def putP (ac : Nat → Option Addr × Nat) (i : Nat) (a : Option Addr × Nat) (j : Nat) : Option Addr × Nat := if j = i then a else ac j
theorem putT_self (ch : Nat → T) (i : Nat) : putT ch i (ch i) = ch := by
  funext j
  unfold putT
  by_cases h : j = i
  · rw [if_pos h, h]
  · rw [if_neg h]

/-- i items of ch lie in a list of one's own, at or above N; what hangs on them lies in blocks of Q0. -/
structure GL (Q0 : Nat → Prop) (N : Nat) (wr : World) (i : Nat) (A : Option Addr) (c : Nat) (ch : Nat → T) (ac : Nat → Option Addr × Nat) : Prop where
  nx : N ≤ wr.heap.size
  own : wr.ownsRow N 64 5 (.slice A i c) i (flatC ch ac i)
  mem : ∀ j, j < i → IsL wr (fun b => Q0 b ∧ A ≠ some ⟨b, 0, none⟩) (ch j) (ac j).1

section
variable {Q0 : Nat → Prop} {N : Nat} {wr : World} {i : Nat} {A : Option Addr} {c : Nat} {ch : Nat → T} {ac : Nat → Option Addr × Nat}
theorem GL.nil (Q0 : Nat → Prop) {N : Nat} {wr : World} (h : N ≤ wr.heap.size) (ch : Nat → T) (ac : Nat → Option Addr × Nat) : GL Q0 N wr 0 none 0 ch ac := ⟨h, World.ownsRow_nil _ _ _ _, fun j hj => by omega⟩
theorem GL.mod (h : GL Q0 N wr i A c ch ac) {w2 : World} {S : List Nat} (hm : Mod S wr w2) (hS : ∀ k, k ∈ S → k < N ∧ ¬ Q0 k) : GL Q0 N w2 i A c ch ac :=
  ⟨Nat.le_trans h.nx hm.size, ownsRow_mod h.own hm (fun k hk hm => by have := (h.own.lt k hk).1; have := (hS k hm).1; omega), fun j hj => IsL.mod hm (fun k hq _ hk => (hS k hk).2 hq.1) (ch j) (h.mem j hj)⟩
theorem GL.ext (h : GL Q0 N wr i A c ch ac) {w2 : World} (hm : Ext wr w2) : GL Q0 N w2 i A c ch ac := h.mod hm (fun k hk => by cases hk)
theorem GL.own2 (h : GL Q0 N wr i A c ch ac) {w2 : World} (hm : Ext wr w2) (ob : Obj) : (w2.alloc ob).ownsRow N 64 5 (.slice A i c) i (flatC ch ac i) := (h.ext hm).own.alloc ob
theorem GL.room (h : GL Q0 N wr i A c ch ac) {w2 : World} (hm : Ext wr w2) : N ≤ w2.heap.size := Nat.le_trans h.nx hm.size
/-- Which blocks an append turns. -/
theorem GL.turned (h : GL Q0 N wr i A c ch ac) {w2 w4 : World} (hm : Ext wr w2) {ob : Obj} (hgr : (w2.alloc ob).grownBy w4 (Value.slice A i c).ownBlock) : ∃ S, (∀ k, k ∈ S ↔ (Value.slice A i c).ownBlock = some k) ∧ Mod S w2 w4 := by
  obtain ⟨S, hS⟩ : ∃ S : List Nat, ∀ k, k ∈ S ↔ (Value.slice A i c).ownBlock = some k := by
    cases A with
    | none => exact ⟨[], fun k => by simp [Value.ownBlock]⟩
    | some a => exact ⟨[a.block], fun k => by simp [Value.ownBlock, eq_comm]⟩
  exact ⟨S, hS, ((Mod.refl S w2).alloc _).grown hgr (fun k hk => .inl ((hS k).2 hk))⟩
theorem GL.keep (h : GL Q0 N wr i A c ch ac) {w2 w4 : World} (hm : Ext wr w2) {ob : Obj} (hgr : (w2.alloc ob).grownBy w4 (Value.slice A i c).ownBlock) {b : Nat} {ty : TypeId} {cs : Array Value} (hB : Blk wr b ty cs) (hbN : b < N) : Blk w4 b ty cs := by
  obtain ⟨S, hS, hm4⟩ := h.turned hm hgr
  exact (hB.ext hm).mod hm4 (fun hk => by have := (h.own.lt b ((hS b).1 hk)).1; omega)
theorem GL.since (h : GL Q0 N wr i A c ch ac) {w w2 w4 : World} (hw : Ext w wr) (hwN : w.heap.size ≤ N) (hm : Ext wr w2) {ob : Obj} (hgr : (w2.alloc ob).grownBy w4 (Value.slice A i c).ownBlock) : Ext w w4 := by
  obtain ⟨S, hS, hm4⟩ := h.turned hm hgr
  refine Mod.new (S := S) (((hw.trans hm).of_ext).trans hm4) (fun k hk => .inr ?_)
  have := (h.own.lt k ((hS k).1 hk)).1; omega
theorem GL.step (h : GL Q0 N wr i A c ch ac) {w2 w4 : World} (hm : Ext wr w2) {t : T} {At : Option Addr} {ct : Nat} {v' : Value}
    (hL : IsL w2 (fun b => Q0 b ∧ (b < N ∨ wr.heap.size ≤ b)) t At)
    (hown : w4.ownsRow N 64 5 v' (i + 1) (flatC ch ac i ++ [.int .i64 t.kind, .int .u64 (t.n : Int), str t.s, .slice At t.k ct, .bool t.op])) {ob : Obj} (hgr : (w2.alloc ob).grownBy w4 (Value.slice A i c).ownBlock)
    (hbl : v'.ownBlock = (Value.slice A i c).ownBlock ∨ ∀ k, v'.ownBlock = some k → w2.heap.size ≤ k) :
    ∃ g' c', v' = .slice (some ⟨g', 0, none⟩) (i + 1) c' ∧ GL Q0 N w4 (i + 1) (some ⟨g', 0, none⟩) c' (putT ch i t) (putP ac i (At, ct)) := by
  obtain ⟨S, hS, hm4⟩ := h.turned hm hgr
  obtain ⟨h8, h11, h12⟩ := h
  obtain ⟨g', c', rfl, hNg, hgl⟩ := own_form hown
  refine ⟨g', c', rfl, ?_⟩
  have hs2 := hm.size
  have hs4 := hm4.size
  have hrow : ∀ k, (Value.slice A i c).ownBlock = some k → N ≤ k ∧ k < wr.heap.size := h11.lt
  have hA' : ∀ b, b < wr.heap.size → A ≠ some ⟨b, 0, none⟩ → (some ⟨g', 0, none⟩ : Option Addr) ≠ some ⟨b, 0, none⟩ := by
    intro b hb hne he
    simp only [Option.some.injEq, Addr.mk.injEq, and_true] at he
    subst he
    rcases hbl with hbl | hbl
    · cases A with
      | none => simp [Value.ownBlock] at hbl
      | some a =>
        simp [Value.ownBlock] at hbl
        rcases h11.2 with ⟨hs, _⟩ | ⟨q, cap, cur, hs, _⟩
        · cases hs
        · simp only [Value.slice.injEq, Option.some.injEq] at hs
          obtain ⟨rfl, _⟩ := hs
          simp at hbl
          subst hbl
          exact hne rfl
    · have := hbl g' rfl; omega
  refine ⟨by omega, ?_, ?_⟩
  · rw [flatC, flatC_congr (ch := putT ch i t) (ac := putP ac i (At, ct)) (ch' := ch) (ac' := ac) (fun j hj => ⟨if_neg (by omega), if_neg (by omega)⟩), show putT ch i t i = t from if_pos rfl, show putP ac i (At, ct) i = (At, ct) from if_pos rfl]
    exact hown
  · intro j hj
    by_cases e : j = i
    · subst e
      rw [show putT ch j t j = t from if_pos rfl, show putP ac j (At, ct) j = (At, ct) from if_pos rfl]
      have q1 : IsL w2 (fun b => (Q0 b ∧ (some ⟨g', 0, none⟩ : Option Addr) ≠ some ⟨b, 0, none⟩) ∧ b ∉ S) t At := IsL.weak (fun k hk hq => ⟨⟨hq.1, fun he => by
        simp only [Option.some.injEq, Addr.mk.injEq, and_true] at he
        subst he
        rcases hbl with hbl | hbl
        · have := hrow g' hbl.symm; have := hq.2; omega
        · have := hbl g' rfl; have := hq.2; omega⟩, fun hkS => by have := hrow k ((hS k).1 hkS); have := hq.2; omega⟩) t hL
      exact IsL.weak (fun k hk hq => hq.1) t (IsL.mod hm4 (fun k hq hk hmm => hq.2 hmm) t q1)
    · rw [show putT ch i t j = ch j from if_neg e, show putP ac i (At, ct) j = ac j from if_neg e]
      have q0 := IsL.weak (R := fun b => (Q0 b ∧ (some ⟨g', 0, none⟩ : Option Addr) ≠ some ⟨b, 0, none⟩) ∧ A ≠ some ⟨b, 0, none⟩) (fun k hk hq => ⟨⟨hq.1, hA' k hk hq.2⟩, hq.2⟩) (ch j) (h12 j (by omega))
      have q1 := IsL.mod hm (fun k hq hk hm => by cases hm) (ch j) q0
      have q2 := IsL.mod hm4 (fun k hq hk hm => by
        have hk2 := (hS k).1 hm
        cases A with
        | none => simp [Value.ownBlock] at hk2
        | some a =>
          simp [Value.ownBlock] at hk2
          rcases h11.2 with ⟨hs, _⟩ | ⟨q, cap, cur, hs, _⟩
          · cases hs
          · simp only [Value.slice.injEq, Option.some.injEq] at hs
            obtain ⟨rfl, _⟩ := hs
            simp at hk2
            subst hk2
            exact hq.2 rfl) (ch j) q1
      exact IsL.weak (fun k hk hq => hq.1) (ch j) q2
/-- The list, whole. -/
theorem GL.isL (h : GL Q0 N wr i A c ch ac) {Q : Nat → Prop} (hQ : ∀ b, Q0 b → Q b) (hN : ∀ b, N ≤ b → Q b) (op : Bool) : IsL wr Q (T.mk 4 0 [] op i ch) A := by
  intro h0
  obtain ⟨i', rfl⟩ : ∃ i', i = i' + 1 := ⟨i - 1, by omega⟩
  obtain ⟨g', c', hv, hNg, hgl⟩ := own_form h.own
  simp only [Value.slice.injEq] at hv
  obtain ⟨rfl, _, rfl⟩ := hv
  refine ⟨g', 0, rfl, hgl, hN _ hNg, fun j hj => ⟨(ac j).1, (ac j).2, ?_, IsL.weak (fun k hk hq => hQ _ hq.1) (ch j) (h.mem j hj)⟩⟩
  obtain ⟨f0, f1, f2, f3, f4⟩ := flatC_get ch ac (i' + 1) j hj
  refine ⟨?_, ?_, ?_, ?_, ?_⟩
  · rw [Nat.zero_add]; exact own_cells h.own f0
  · rw [Nat.zero_add]; exact own_cells h.own f1
  · rw [Nat.zero_add]; exact own_cells h.own f2
  · rw [Nat.zero_add]; exact own_cells h.own f3
  · rw [Nat.zero_add]; exact own_cells h.own f4
end
end Go.Proofs.YtogjghmoankleaaGreat


namespace Go.Proofs.YtogjghmoankleaaGreat
open Go.RowKit
set_option linter.unusedVariables false
set_option linter.unusedSimpArgs false

def IMade (t : T) (w : World) (e : Ending) (w' : World) : Prop := ∃ A c, e = .returned (itemV t A c) ∧ Ext w w' ∧ IsL w' (fun b => w.heap.size ≤ b) t A

theorem T.right_plain {t : T} {d : Nat} (h : t.right d = true) : t.plain = true := by
  rw [T.right_eq, Bool.and_eq_true] at h; exact h.2
theorem T.right_up (t : T) : ∀ d, t.right d = true → t.right (d + 1) = true := by
  induction t with
  | nil => intro d h; exact h
  | mk kind n s op k ch ih =>
    intro d h
    unfold T.right at h ⊢
    by_cases h0 : d < 1
    · rw [if_pos h0] at h; cases h
    · rw [if_neg h0, Bool.and_eq_true, T.all_iff] at h
      rw [if_neg (by omega), Bool.and_eq_true, T.all_iff]
      exact ⟨h.1, fun i hi => by have := ih i (d - 1) (h.2 i hi); rw [show d + 1 - 1 = d - 1 + 1 by omega]; exact this⟩
/-- An array's bytes, up to its i-th item. -/
def upto (op : Bool) (k : Nat) (ch : Nat → T) (i : Nat) : List UInt8 := (if op then [159] else headL 4 k) ++ T.cat (fun j => (ch j).bytes) i
def arrB (op : Bool) (k : Nat) (ch : Nat → T) : List UInt8 := (T.mk 4 0 [] op k ch).bytes
theorem arr_upto {op : Bool} {k : Nat} {ch : Nat → T} {i : Nat} (hi : i ≤ k) : ∃ r, arrB op k ch = upto op k ch i ++ r ∧ (i = k → r = if op then [255] else []) := by
  obtain ⟨r, hr⟩ := cat_split (fun i => (ch i).bytes) hi
  have e : arrB op k ch = (if op then [159] else headL 4 k) ++ (T.cat (fun j => (ch j).bytes) k ++ (if op then [255] else [])) := rfl
  refine ⟨r ++ (if op then [255] else []), ?_, ?_⟩
  · rw [e, hr]; unfold upto; simp only [List.append_assoc]
  · rintro rfl
    have : r = [] := by
      have := congrArg List.length hr
      rw [List.length_append] at this
      exact List.eq_nil_of_length_eq_zero (by omega)
    rw [this]; rfl
theorem upto_succ (op : Bool) (k : Nat) (ch : Nat → T) (i : Nat) : upto op k ch (i + 1) = upto op k ch i ++ (ch i).bytes := by
  unfold upto; rw [T.cat, List.append_assoc]
theorem arr_drop {op : Bool} {k : Nat} {ch : Nat → T} {i : Nat} (hi : i < k) : (arrB op k ch).drop (upto op k ch i).length = (ch i).bytes ++ (arrB op k ch).drop (upto op k ch (i + 1)).length := by
  obtain ⟨r, hr, _⟩ := arr_upto (op := op) (ch := ch) (show i + 1 ≤ k from hi)
  rw [hr, List.drop_left, upto_succ, List.append_assoc, List.drop_left]
theorem arr_le {op : Bool} {k : Nat} {ch : Nat → T} {i : Nat} (hi : i ≤ k) : (upto op k ch i).length + (if op then 1 else 0) ≤ (arrB op k ch).length := by
  obtain ⟨r, hr, _⟩ := arr_upto (op := op) (ch := ch) hi
  obtain ⟨r2, hr2, h2⟩ := arr_upto (op := op) (ch := ch) (Nat.le_refl k)
  have h2 := h2 rfl
  have hl : (upto op k ch i).length ≤ (upto op k ch k).length := by
    obtain ⟨r, hr⟩ := cat_split (fun i => (ch i).bytes) hi
    unfold upto; rw [hr]; simp
  rw [hr2, List.length_append, h2]
  cases op <;> simp <;> omega
theorem arr_full {op : Bool} {k : Nat} {ch : Nat → T} : (upto op k ch k).length + (if op then 1 else 0) = (arrB op k ch).length := by
  obtain ⟨r2, hr2, h2⟩ := arr_upto (op := op) (ch := ch) (Nat.le_refl k)
  rw [hr2, List.length_append, h2 rfl]
  cases op <;> simp

end Go.Proofs.YtogjghmoankleaaGreat


namespace Go.Proofs.YtogjghmoankleaaGreat
open Go.RowKit
set_option linter.unusedVariables false
set_option linter.unusedSimpArgs false

theorem partT_ch {t : T} {i : Nat} (h : i < t.k) : partT t i = t.ch i := by
  cases t with
  | nil => exact absurd h (Nat.not_lt_zero _)
  | mk kd n s op k ch => exact if_pos h
theorem partT_no {t : T} {i : Nat} (h : ¬ i < t.k) : partT t i = numT 0 := by
  cases t with
  | nil => rfl
  | mk kd n s op k ch => exact if_neg h
theorem T.n_lt {t : T} (h : t.ok) : t.n < 18446744073709551616 := by
  cases t with
  | nil => decide
  | mk kd n s op k ch => unfold T.ok at h; exact h.2.1
theorem ch_ok {t : T} (h : t.ok) {i : Nat} (hi : i < t.k) : (t.ch i).ok := by
  have := partT_ok h i
  rwa [partT_ch hi] at this
theorem ch_right {t : T} {d : Nat} (h : t.right (d + 1) = true) {i : Nat} (hi : i < t.k) : (t.ch i).right d = true := by
  cases t with
  | nil => simp [T.right] at h
  | mk kd n s op k ch =>
    unfold T.right at h
    rw [if_neg (by omega), Bool.and_eq_true, T.all_iff] at h
    exact h.2 i hi
theorem right_upto {t : T} {d : Nat} (h : t.right d = true) : ∀ e, d ≤ e → t.right e = true := by
  intro e he
  induction e with
  | zero => have : d = 0 := by omega
            subst this; exact h
  | succ e ih =>
    by_cases hd : d = e + 1
    · subst hd; exact h
    · exact T.right_up t e (ih (by omega))
theorem kind_n {t : T} {d : Nat} (h : t.right d = true) (hn : t.n = 1) : t.kind = 0 := by
  cases t with
  | nil => simp [T.right] at h
  | mk kd n s op k ch =>
    have hn : n = 1 := hn
    subst hn
    unfold T.right at h
    split at h
    · exact absurd h (by decide)
    · rw [Bool.and_eq_true] at h
      have h := h.1
      unfold T.node at h
      by_cases h0 : kd = 0
      · exact h0
      · exfalso
        rw [if_neg h0] at h
        split at h
        · simp at h
        · split at h
          · simp at h
          · exact absurd h (by decide)
theorem EV.ok_name {e : EV} (h : e.ok = true) : e.name.length ≤ 60 := by
  rcases EV.ok_cases h with rfl | ⟨name, rfl, _, hl⟩ | ⟨node, svc, rfl, _, _⟩
  · decide
  · exact hl
  · simp
theorem nameT_len (t : T) : (nameT t).name.length ≤ 60 := by
  unfold nameT
  by_cases h : ofB t = true
  · rw [if_pos h]
    unfold ofB at h
    simp only [Bool.and_eq_true] at h
    exact EV.ok_name h.1
  · rw [if_neg h]; simp [zeroE]
theorem readRep_wf {t : T} (h : t.ok) : (readRep t).of.wf := by
  refine ⟨T.n_lt (partT_ok (partT_ok (partT_ok h _) _) _), T.n_lt (partT_ok (partT_ok (partT_ok h _) _) _), T.n_lt (partT_ok (partT_ok h _) _), T.n_lt (partT_ok (partT_ok h _) _), ?_⟩
  have : (readRep t).of.src.name.length ≤ 60 := nameT_len _
  omega
/-- A report of these bytes. -/
def isRep (s : List UInt8) (r : RV) : Prop := r.right = true ∧ r.bytes = s
noncomputable def repO (s : List UInt8) : Option RV := theO (isRep s)
/-- The shape that the reference asks for. -/
def shapeR (t : T) : Prop := t.k = 2 ∧ ((t.ch 1).k = 4 ∨ (t.ch 1).k = 6) ∧ ((t.ch 1).ch 0).k = 2 ∧ ((t.ch 1).ch 3).k = 2 ∧ ofB ((t.ch 1).ch 2) = true
theorem listT_same {L : List T} {t : T} (h : (listT L).same t = true) : t.k = L.length ∧ ∀ (i : Nat) (x : T), L[i]? = some x → x.same (t.ch i) = true := by
  have g := same_mk h
  refine ⟨g.2.2.2.2.1, fun i x hx => ?_⟩
  have hi : i < L.length := by
    rcases Nat.lt_or_ge i L.length with h | h
    · exact h
    · rw [List.getElem?_eq_none h] at hx; exact absurd hx (by simp)
  have := g.2.2.2.2.2 i hi
  rw [hx] at this
  exact this
theorem bitT_n (b : Bool) : decide ((bitT b).n = 1) = b := by cases b <;> rfl
theorem numT_same {n : Nat} {t : T} (h : (numT n).same t = true) : t.n = n := (same_mk h).2.1
theorem bit_same {b : Bool} {t : T} (h : (bitT b).same t = true) : decide (t.n = 1) = b := by
  have := numT_same h
  rw [this]; exact bitT_n b
/-- Of a right tree the report that it may be. -/
theorem rep_tree {t : T} (hr : t.right 8 = true) (hok : t.ok) {r : RV} (h : isRep t.bytes r) : readRep t = r ∧ shapeR t := by
  obtain ⟨h, hb⟩ := h
  obtain ⟨g1, g2, g3⟩ := RV.tree_all h
  have hs := bytes_same (T.plain_of (g2 8 (by omega))) (T.plain_of hr) g1 hok hb
  obtain ⟨f1, f2, f3, f4⟩ := RV.right_spec h
  obtain ⟨m1, m2, m3, m4, m5⟩ := IDV.named_spec f4
  obtain ⟨k1, c1⟩ := listT_same hs
  have k1 : t.k = 2 := k1
  have b1 : (listT r.body).same (t.ch 1) = true := c1 1 _ rfl
  obtain ⟨k2, c2⟩ := listT_same b1
  have rB : (t.ch 1).right 7 = true := ch_right hr (by omega)
  have oB : (t.ch 1).ok := ch_ok hok (by omega)
  have kB : (t.ch 1).k = if r.of.fr then 6 else 4 := by
    rw [k2]; unfold RV.body; cases r.of.fr <;> rfl
  have k4 : 4 ≤ (t.ch 1).k := by rw [kB]; split <;> omega
  have x0 : (listT [bitT r.here, bitT r.gone]).same ((t.ch 1).ch 0) = true := c2 0 _ rfl
  have x1 : (numT r.reason.toNat).same ((t.ch 1).ch 1) = true := c2 1 _ rfl
  have x2 : (eidT r.of.src).same ((t.ch 1).ch 2) = true := c2 2 _ rfl
  have x3 : (listT [numT r.of.t, numT r.of.q]).same ((t.ch 1).ch 3) = true := c2 3 _ rfl
  obtain ⟨k0, c0⟩ := listT_same x0
  obtain ⟨k3, c3⟩ := listT_same x3
  have k0 : ((t.ch 1).ch 0).k = 2 := k0
  have k3 : ((t.ch 1).ch 3).k = 2 := k3
  have y0 := bit_same (c0 0 _ rfl)
  have y1 := bit_same (c0 1 _ rfl)
  have y2 := numT_same (c3 0 _ rfl)
  have y3 := numT_same (c3 1 _ rfl)
  have y4 := numT_same x1
  have r2 : ((t.ch 1).ch 2).right 8 = true := right_upto (ch_right (d := 6) rB (by omega)) 8 (by omega)
  have o2 : ((t.ch 1).ch 2).ok := ch_ok oB (by omega)
  obtain ⟨e1, e2⟩ := prev_tree r2 o2 (e := r.of.src) ⟨m1, T.same_bytes _ _ o2 x2⟩
  refine ⟨?_, k1, ?_, k0, k3, e2⟩
  · have p1 : partT t 1 = t.ch 1 := partT_ch (by omega)
    have p10 : partT (t.ch 1) 0 = (t.ch 1).ch 0 := partT_ch (by omega)
    have p11 : partT (t.ch 1) 1 = (t.ch 1).ch 1 := partT_ch (by omega)
    have p12 : partT (t.ch 1) 2 = (t.ch 1).ch 2 := partT_ch (by omega)
    have p13 : partT (t.ch 1) 3 = (t.ch 1).ch 3 := partT_ch (by omega)
    have p100 : partT ((t.ch 1).ch 0) 0 = ((t.ch 1).ch 0).ch 0 := partT_ch (by omega)
    have p101 : partT ((t.ch 1).ch 0) 1 = ((t.ch 1).ch 0).ch 1 := partT_ch (by omega)
    have p130 : partT ((t.ch 1).ch 3) 0 = ((t.ch 1).ch 3).ch 0 := partT_ch (by omega)
    have p131 : partT ((t.ch 1).ch 3) 1 = ((t.ch 1).ch 3).ch 1 := partT_ch (by omega)
    have hN : nameT ((t.ch 1).ch 2) = r.of.src := by unfold nameT; rw [if_pos e2, e1]
    unfold readRep
    simp only [p1, p10, p11, p12, p13, p100, p101, p130, p131, hN, y0, y1, y2, y3, y4, kB]
    obtain ⟨rh, rg, rr, ⟨rs, rt, rq, rf, ro, rn⟩⟩ := r
    simp only [] at *
    have hrr : min ((rr.toNat : Nat) : Int) 65536 = rr := by omega
    cases rf with
    | false =>
      have m5 : ro = 0 ∧ rn = 0 := m5
      have q4 : partT (t.ch 1) 4 = numT 0 := partT_no (by rw [kB]; simp)
      have q5 : partT (t.ch 1) 5 = numT 0 := partT_no (by rw [kB]; simp)
      rw [q4, q5, hrr, m5.1, m5.2]
      rfl
    | true =>
      have q4 : partT (t.ch 1) 4 = (t.ch 1).ch 4 := partT_ch (by rw [kB]; simp)
      have q5 : partT (t.ch 1) 5 = (t.ch 1).ch 5 := partT_ch (by rw [kB]; simp)
      have z4 := numT_same (c2 4 (numT ro) rfl)
      have z5 := numT_same (c2 5 (numT rn) rfl)
      rw [q4, q5, hrr, z4, z5]
      rfl
  · rw [kB]; cases r.of.fr
    · exact .inl rfl
    · exact .inr rfl
theorem isRep_inj {s : List UInt8} (x y : RV) (hx : isRep s x) (hy : isRep s y) : x = y := by
  obtain ⟨g1, g2, g3⟩ := RV.tree_all hx.1
  have h1 := (rep_tree (g2 8 (by omega)) g1 (r := x) ⟨hx.1, rfl⟩).1
  have h2 := (rep_tree (g2 8 (by omega)) g1 (r := y) ⟨hy.1, hy.2.trans hx.2.symm⟩).1
  rw [← h1, h2]
theorem repO_bad {s : List UInt8} (h : (parseR s).2 ≠ 0) : repO s = none := theO_none fun e he => h (by
  obtain ⟨g1, g2, g3⟩ := RV.tree_all he.1
  rw [← he.2, show e.bytes = e.tree.bytes from rfl, parse_back (g2 8 (by omega)) g1])
def repB (t : T) : Bool := (readRep t).right && decide ((readRep t).bytes = t.bytes)
theorem repO_tree {t : T} (hr : t.right 8 = true) (hok : t.ok) : repO t.bytes = if repB t then some (readRep t) else none := by
  by_cases h : repB t = true
  · rw [if_pos h]
    unfold repB at h
    rw [Bool.and_eq_true, decide_eq_true_eq] at h
    exact theO_some isRep_inj h
  · rw [if_neg h]
    refine theO_none fun r hr' => h ?_
    have e := (rep_tree hr hok hr').1
    unfold repB
    rw [Bool.and_eq_true, decide_eq_true_eq, e]
    exact hr'
theorem rep_shape {t : T} (hr : t.right 8 = true) (hok : t.ok) (h : ¬ shapeR t) : repO t.bytes = none := theO_none fun r hr' => h (rep_tree hr hok hr').2
theorem repO_some {r : RV} (h : r.right = true) : repO r.bytes = some r := theO_some isRep_inj ⟨h, rfl⟩
/-- What the reference reads of a tree of this shape: the same. -/
def refRep (t : T) : RV :=
  let l := (t.ch 1).ch
  ⟨decide (((l 0).ch 0).kind = 0) && decide (((l 0).ch 0).n = 1), decide (((l 0).ch 1).kind = 0) && decide (((l 0).ch 1).n = 1), min ((l 1).n : Int) 65536, ⟨readE (l 2), ((l 3).ch 0).n, ((l 3).ch 1).n, decide ((t.ch 1).k = 6), if (t.ch 1).k = 6 then (l 4).n else 0, if (t.ch 1).k = 6 then (l 5).n else 0⟩⟩
theorem refRep_eq {t : T} (hr : t.right 8 = true) (h : shapeR t) : refRep t = readRep t := by
  obtain ⟨k1, k2, k0, k3, e2⟩ := h
  have k4 : 4 ≤ (t.ch 1).k := by omega
  have p1 : partT t 1 = t.ch 1 := partT_ch (by omega)
  have p10 : partT (t.ch 1) 0 = (t.ch 1).ch 0 := partT_ch (by omega)
  have p11 : partT (t.ch 1) 1 = (t.ch 1).ch 1 := partT_ch (by omega)
  have p12 : partT (t.ch 1) 2 = (t.ch 1).ch 2 := partT_ch (by omega)
  have p13 : partT (t.ch 1) 3 = (t.ch 1).ch 3 := partT_ch (by omega)
  have p100 : partT ((t.ch 1).ch 0) 0 = ((t.ch 1).ch 0).ch 0 := partT_ch (by omega)
  have p101 : partT ((t.ch 1).ch 0) 1 = ((t.ch 1).ch 0).ch 1 := partT_ch (by omega)
  have p130 : partT ((t.ch 1).ch 3) 0 = ((t.ch 1).ch 3).ch 0 := partT_ch (by omega)
  have p131 : partT ((t.ch 1).ch 3) 1 = ((t.ch 1).ch 3).ch 1 := partT_ch (by omega)
  have hN : nameT ((t.ch 1).ch 2) = readE ((t.ch 1).ch 2) := by unfold nameT; rw [if_pos e2]
  have r0 : ((t.ch 1).ch 0).right 6 = true := ch_right (ch_right hr (by omega)) (by omega)
  have b0 : ∀ i, i < 2 → (decide ((((t.ch 1).ch 0).ch i).kind = 0) && decide ((((t.ch 1).ch 0).ch i).n = 1)) = decide ((((t.ch 1).ch 0).ch i).n = 1) := by
    intro i hi
    have r := ch_right (d := 5) r0 (i := i) (by omega)
    by_cases hn : (((t.ch 1).ch 0).ch i).n = 1
    · rw [kind_n r hn]; rfl
    · rw [decide_eq_false hn, Bool.and_false]
  unfold refRep readRep
  simp only [p1, p10, p11, p12, p13, p100, p101, p130, p131, hN, b0 0 (by omega), b0 1 (by omega)]
  rcases k2 with k2 | k2
  · rw [k2, partT_no (t := t.ch 1) (i := 4) (by omega), partT_no (t := t.ch 1) (i := 5) (by omega)]
    rfl
  · rw [k2, partT_ch (t := t.ch 1) (i := 4) (by omega), partT_ch (t := t.ch 1) (i := 5) (by omega)]
    rfl
end Go.Proofs.YtogjghmoankleaaGreat


namespace Go.Proofs.YtogjghmoankleaaGreat
open Go.RowKit
set_option linter.unusedVariables false
set_option linter.unusedSimpArgs false

def PrevPost (l : List UInt8) (w : World) (e : Ending) (w' : World) : Prop := Ret (.tuple #[((prevO l).getD zeroE).v, .int .i64 (if (prevO l).isSome then 0 else 2)]) w e w' ∧ PTree l
theorem PrevPost.none {l : List UInt8} {w w' : World} {e : Ending} (hp : prevO l = none) (h : Ret (.tuple #[zeroE.v, .int .i64 2]) w e w') (hT : PTree l) : PrevPost l w e w' := by unfold PrevPost; rw [hp]; exact ⟨h, hT⟩
theorem PrevPost.some {l : List UInt8} {w w' : World} {e : Ending} {E : EV} (hp : prevO l = some E) (h : Ret (.tuple #[E.v, .int .i64 0]) w e w') (hT : PTree l) : PrevPost l w e w' := by unfold PrevPost; rw [hp]; exact ⟨h, hT⟩
end Go.Proofs.YtogjghmoankleaaGreat


namespace Go.Proofs.YtogjghmoankleaaGreat
open Go.RowKit
set_option linter.unusedVariables false
set_option linter.unusedSimpArgs false

def AgePost (l : List UInt8) (w : World) (e : Ending) (w' : World) : Prop := Ret (.tuple #[.int .u64 (((ageO l).getD 0 : Nat) : Int), .int .i64 (if (ageO l).isSome then 0 else 2)]) w e w'
theorem AgePost.none {l : List UInt8} {w w' : World} {e : Ending} (hp : ageO l = none) (h : Ret (.tuple #[.int .u64 0, .int .i64 2]) w e w') : AgePost l w e w' := by unfold AgePost; rw [hp]; exact h
theorem AgePost.some {l : List UInt8} {w w' : World} {e : Ending} {E : Nat} (hp : ageO l = some E) (h : Ret (.tuple #[.int .u64 (E : Int), .int .i64 0]) w e w') : AgePost l w e w' := by unfold AgePost; rw [hp]; exact h
end Go.Proofs.YtogjghmoankleaaGreat


namespace Go.Proofs.YtogjghmoankleaaGreat
open Go.RowKit
set_option linter.unusedVariables false
set_option linter.unusedSimpArgs false

def RhPost (t : T) (w : World) (e : Ending) (w' : World) : Prop := ∃ a b : Int, Ret (.tuple #[.agg #[.int .i64 a, .int .i64 b], .bool (hopsB t)]) w e w' ∧ (hopsB t = true → a = ((t.ch 0).n : Int) ∧ b = ((t.ch 1).n : Int))
theorem RhPost.no {t : T} {w w' : World} {e : Ending} (hB : hopsB t = false) {a b : Int} (h : Ret (.tuple #[.agg #[.int .i64 a, .int .i64 b], .bool false]) w e w') : RhPost t w e w' := ⟨a, b, by rw [hB]; exact h, fun h => by rw [hB] at h; cases h⟩
end Go.Proofs.YtogjghmoankleaaGreat


namespace Go.Proofs.YtogjghmoankleaaGreat
open Go.RowKit
set_option linter.unusedVariables false
set_option linter.unusedSimpArgs false

def HopsPost (l : List UInt8) (w : World) (e : Ending) (w' : World) : Prop := Ret (.tuple #[.agg #[.int .i64 ((((hopsO l).getD (0, 0)).1 : Nat) : Int), .int .i64 ((((hopsO l).getD (0, 0)).2 : Nat) : Int)], .int .i64 (if (hopsO l).isSome then 0 else 2)]) w e w'
theorem HopsPost.none {l : List UInt8} {w w' : World} {e : Ending} (hp : hopsO l = none) (h : Ret (.tuple #[.agg #[.int .i64 0, .int .i64 0], .int .i64 2]) w e w') : HopsPost l w e w' := by unfold HopsPost; rw [hp]; exact h
theorem HopsPost.some {l : List UInt8} {w w' : World} {e : Ending} {E : Nat × Nat} (hp : hopsO l = some E) (h : Ret (.tuple #[.agg #[.int .i64 (E.1 : Int), .int .i64 (E.2 : Int)], .int .i64 0]) w e w') : HopsPost l w e w' := by unfold HopsPost; rw [hp]; exact h
def HopsPost3 (l : List UInt8) (w : World) (e : Ending) (w' : World) : Prop := Ret (.tuple #[.int .i64 ((((hopsO l).getD (0, 0)).1 : Nat) : Int), .int .i64 ((((hopsO l).getD (0, 0)).2 : Nat) : Int), .int .i64 (if (hopsO l).isSome then 0 else 2)]) w e w'
end Go.Proofs.YtogjghmoankleaaGreat


namespace Go.Proofs.YtogjghmoankleaaGreat
open Go.RowKit
set_option linter.unusedVariables false
set_option linter.unusedSimpArgs false

theorem age_readH {l : List UInt8} {n : Nat} (h : isAge l n) : readH l = some (l.length, 0, n, false) := by
  have := readH_head (m := 0) (n := n) (by omega) (by have := h.1; omega) []
  rw [List.append_nil, h.2] at this
  exact this
theorem ageO_readH {l : List UInt8} (h : readH l = none) : ageO l = none := theO_none fun n hn => by rw [age_readH hn] at h; cases h
theorem ageO_yes {l : List UInt8} {n : Nat} {o : Bool} (h : readH l = some (l.length, 0, n, o)) (hn : n ≤ 1099511627776) : ageO l = some n := by
  have H := readH_some h
  cases o with
  | true => have := (H.opened rfl).2.2.1; simp [opensB] at this
  | false =>
    have := (H.closed rfl).1
    rw [List.take_of_length_le (Nat.le_refl _)] at this
    exact theO_some isAge_inj ⟨hn, this.symm⟩
theorem ageO_no {l : List UInt8} {sz m n : Nat} {o : Bool} (h : readH l = some (sz, m, n, o)) (hn : ¬ (sz = l.length ∧ m = 0 ∧ n ≤ 1099511627776)) : ageO l = none := theO_none fun k hk => hn (by
  rw [age_readH hk] at h
  simp only [Option.some.injEq, Prod.mk.injEq] at h
  obtain ⟨rfl, rfl, rfl, rfl⟩ := h
  exact ⟨rfl, rfl, hk.1⟩)
def QAge (l : List UInt8) (w : World) (e : Ending) (w' : World) : Prop := Ret (.tuple #[.int .u64 (((ageO l).getD 0 : Nat) : Int), .bool (ageO l).isSome]) w e w'
theorem QAge.none {l : List UInt8} {w w' : World} {e : Ending} (hp : ageO l = none) (h : Ret (.tuple #[.int .u64 0, .bool false]) w e w') : QAge l w e w' := by unfold QAge; rw [hp]; exact h
theorem QAge.some {l : List UInt8} {w w' : World} {e : Ending} {E : Nat} (hp : ageO l = some E) (h : Ret (.tuple #[.int .u64 (E : Int), .bool true]) w e w') : QAge l w e w' := by unfold QAge; rw [hp]; exact h
end Go.Proofs.YtogjghmoankleaaGreat


namespace Go.Proofs.YtogjghmoankleaaGreat
open Go.RowKit
set_option linter.unusedVariables false
set_option linter.unusedSimpArgs false

def QHops (l : List UInt8) (w : World) (e : Ending) (w' : World) : Prop := Ret (.tuple #[.int .i64 ((((hopsO l).getD (0, 0)).1 : Nat) : Int), .int .i64 ((((hopsO l).getD (0, 0)).2 : Nat) : Int), .bool (hopsO l).isSome]) w e w'
theorem QHops.none {l : List UInt8} {w w' : World} {e : Ending} (hp : hopsO l = none) (h : Ret (.tuple #[.int .i64 0, .int .i64 0, .bool false]) w e w') : QHops l w e w' := by unfold QHops; rw [hp]; exact h
theorem QHops.some {l : List UInt8} {w w' : World} {e : Ending} {a b : Nat} (hp : hopsO l = some (a, b)) (h : Ret (.tuple #[.int .i64 (a : Int), .int .i64 (b : Int), .bool true]) w e w') : QHops l w e w' := by unfold QHops; rw [hp]; exact h
/-- No hops of l have limit a. -/
def NoHops (l : List UInt8) (a : Nat) : Prop := ∀ b, ¬ isHops l (a, b)
theorem noHops_short {l : List UInt8} {a : Nat} {z : List UInt8} (hz : 130 :: headL 0 a = z) (h : l.length ≤ z.length) : NoHops l a := fun b hb => by
  have e := congrArg List.length hb.2
  have := headL_pos 0 b
  subst hz
  simp at e h
  omega
theorem noHops_head {l : List UInt8} {a : Nat} {z : List UInt8} (hz : 130 :: headL 0 a = z) (h : l.take z.length ≠ z) : NoHops l a := fun b hb => h (by
  have e := hb.2
  rw [← List.cons_append, hz] at e
  rw [← e, List.take_left])
theorem noHops_age {l : List UInt8} {a : Nat} {z : List UInt8} (hz : 130 :: headL 0 a = z) (h : ∀ n, ageO (l.drop z.length) = some n → 255 < n) : NoHops l a := fun b hb => by
  have e := hb.2
  have m := may_le hb.1
  rw [← List.cons_append, hz] at e
  have hd : l.drop z.length = headL 0 b := by rw [← e, List.drop_left]
  have : ageO (l.drop z.length) = some b := theO_some isAge_inj ⟨by omega, hd.symm⟩
  have := h b this
  omega
theorem hops_yes {l : List UInt8} {a : Nat} {z : List UInt8} (hz : 130 :: headL 0 a = z) (ha : 1 ≤ a ∧ a ≤ 255) (ht : l.take z.length = z) {n : Nat} (hA : ageO (l.drop z.length) = some n) (hn : n ≤ 255) : hopsO l = some (a, n) := by
  refine theO_some isHops_inj ⟨by simp [mayB]; omega, ?_⟩
  have hg : isAge (l.drop z.length) n := by
    unfold ageO theO at hA
    split at hA
    next h => simp only [Option.some.injEq] at hA; rw [← hA]; exact h.choose_spec
    next h => cases hA
  rw [← List.cons_append, hz, hg.2]
  have h2 := List.take_append_drop z.length l
  rw [ht] at h2
  exact h2
theorem hops_none {l : List UInt8} (h : ∀ a, 1 ≤ a → a ≤ 255 → NoHops l a) : hopsO l = none := theO_none fun x hx => by
  have m := hx.1
  simp [mayB] at m
  exact h x.1 (by omega) (by omega) x.2 hx

end Go.Proofs.YtogjghmoankleaaGreat


namespace Go.Proofs.YtogjghmoankleaaGreat
open Go.RowKit
set_option linter.unusedVariables false
set_option linter.unusedSimpArgs false

theorem infoEID : (Tryz.prog.info? 24).map (fun i => (i.zero, i.size, i.bytes)) = some (some (.agg #[.int .i64 0, .string ⟨#[]⟩, .int .u64 0, .int .u64 0]), 4, 40) := by kernel_rfl
def OfPost (t : T) (w : World) (e : Ending) (w' : World) : Prop := Ret (.tuple #[(if ofB t then readE t else zeroE).v, .int .i64 (if ofB t then 0 else 2)]) w e w'
/-- A row of names, its cells. -/
def flatE : List EV → List Value
  | [] => []
  | e :: l => .int .i64 e.sch :: str e.name :: .int .u64 (e.node : Int) :: .int .u64 (e.svc : Int) :: flatE l
theorem flatE_one (l : List EV) : ∀ u ∈ flatE l, u.oneCell' = true := by
  induction l with
  | nil => intro u h; cases h
  | cons e l ih =>
    intro u h
    simp only [flatE, List.mem_cons] at h
    rcases h with rfl | rfl | rfl | rfl | h
    · rfl
    · rfl
    · rfl
    · rfl
    · exact ih u h
theorem flatE_app (l m : List EV) : flatE (l ++ m) = flatE l ++ flatE m := by
  induction l with
  | nil => rfl
  | cons e l ih => simp [flatE, ih]
theorem flatE_get (l : List EV) : ∀ (i : Nat) (e : EV), l[i]? = some e → (flatE l)[i * 4]? = some (.int .i64 e.sch) ∧ (flatE l)[i * 4 + 1]? = some (str e.name) ∧ (flatE l)[i * 4 + 2]? = some (.int .u64 (e.node : Int)) ∧ (flatE l)[i * 4 + 3]? = some (.int .u64 (e.svc : Int)) := by
  induction l with
  | nil => intro i e h; simp at h
  | cons x l ih =>
    intro i e h
    cases i with
    | zero => simp at h; subst h; exact ⟨rfl, rfl, rfl, rfl⟩
    | succ i =>
      have := ih i e (by simpa using h)
      rw [show (i + 1) * 4 = i * 4 + 4 by omega, show i * 4 + 4 + 1 = (i * 4 + 1) + 4 by omega, show i * 4 + 4 + 2 = (i * 4 + 2) + 4 by omega, show i * 4 + 4 + 3 = (i * 4 + 3) + 4 by omega]
      simpa [flatE] using this
theorem OfPost.no {t : T} {w w' : World} {e : Ending} (hB : ofB t = false) (h : Ret (.tuple #[zeroE.v, .int .i64 2]) w e w') : OfPost t w e w' := by unfold OfPost; rw [hB]; exact h
theorem OfPost.yes {t : T} (hr : t.right 8 = true) (hok : t.ok) {w w' : World} {e : Ending} {E : EV} (hE : isPrev t.bytes E) (h : Ret (.tuple #[E.v, .int .i64 0]) w e w') : OfPost t w e w' := by
  unfold OfPost
  obtain ⟨h1, h2⟩ := prev_tree hr hok hE
  rw [h2, h1]; exact h
theorem ofB_two {t : T} (h : ofB t = true) : t.right 8 = true ∧ t.k = 2 := by
  unfold ofB at h
  simp only [Bool.and_eq_true] at h
  refine ⟨h.2.1, ?_⟩
  by_cases hk : t.k = 2
  · exact hk
  · have : readE t = zeroE := by unfold readE; rw [if_pos (.inr (.inl hk))]
    rw [this] at h
    exact absurd h.1 (by decide)
theorem of_tries {t : T} (hr : t.right 8 = true) (hok : t.ok) (h0 : ¬ isPrev t.bytes noneE) (h1 : ¬ isPrev t.bytes ⟨1, (t.ch 1).s, 0, 0⟩) (h2 : (t.ch 1).k = 2 → ¬ isPrev t.bytes ⟨2, [], ((t.ch 1).ch 0).n, ((t.ch 1).ch 1).n⟩) : ofB t = false := by
  by_cases hB : ofB t = true
  · have hp := tree_prev hr hok hB
    have hE : readE t = zeroE ∨ readE t = noneE ∨ readE t = ⟨1, (t.ch 1).s, 0, 0⟩ ∨ ((t.ch 1).k = 2 ∧ readE t = ⟨2, [], ((t.ch 1).ch 0).n, ((t.ch 1).ch 1).n⟩) := by
      unfold readE
      split
      · exact .inl rfl
      · split
        next h => exact .inr (.inr (.inr ⟨h.2, rfl⟩))
        · split
          · exact .inr (.inr (.inl rfl))
          · exact .inr (.inl rfl)
    rcases hE with h | h | h | ⟨hk, h⟩ <;> rw [h] at hp
    · exact absurd hp.1 (by decide)
    · exact absurd hp h0
    · exact absurd hp h1
    · exact absurd hp (h2 hk)
  · simpa using hB
end Go.Proofs.YtogjghmoankleaaGreat


namespace Go.Proofs.YtogjghmoankleaaGreat
open Go.RowKit
set_option linter.unusedVariables false
set_option linter.unusedSimpArgs false

def QPrev (l : List UInt8) (w : World) (e : Ending) (w' : World) : Prop := Ret (.tuple #[((prevO l).getD zeroE).v, .bool (prevO l).isSome]) w e w'
theorem QPrev.none {l : List UInt8} {w w' : World} {e : Ending} (hp : prevO l = none) (h : Ret (.tuple #[zeroE.v, .bool false]) w e w') : QPrev l w e w' := by unfold QPrev; rw [hp]; exact h
theorem QPrev.some {l : List UInt8} {w w' : World} {e : Ending} {E : EV} (hp : prevO l = some E) (h : Ret (.tuple #[E.v, .bool true]) w e w') : QPrev l w e w' := by unfold QPrev; rw [hp]; exact h

end Go.Proofs.YtogjghmoankleaaGreat


namespace Go.Proofs.YtogjghmoankleaaGreat
open Go.RowKit
set_option linter.unusedVariables false
set_option linter.unusedSimpArgs false

def zeroR : RV := ⟨false, false, 0, ⟨zeroE, 0, 0, false, 0, 0⟩⟩
noncomputable def rparseV (l : List UInt8) : Value := .tuple #[repV ((repO l).getD zeroR), .int .i64 (if (repO l).isSome then 0 else 2)]
theorem rparse_none {l : List UInt8} (h : repO l = none) : rparseV l = .tuple #[repV zeroR, .int .i64 2] := by unfold rparseV; rw [h]; rfl
theorem rparse_some {l : List UInt8} {r : RV} (h : repO l = some r) : rparseV l = .tuple #[repV r, .int .i64 0] := by unfold rparseV; rw [h]; rfl
theorem parse_bad {l : List UInt8} (hl : l.length ≤ 1073741824) (h : (parseR l).2 ≠ 0) (w : World) : Calls Tryz.prog 25 #[str l] w (Ret (.tuple #[itemV nulT none 0, .int .i64 ((parseR l).1 : Int), .int .i64 (parseR l).2]) w) :=
  (parse_any l hl w).mono fun e w' ⟨hb, hh⟩ => by
    rcases hh with ⟨_, rfl⟩ | ⟨h0, _⟩
    · exact Ret.mk rfl hb
    · exact absurd h0 h
theorem parse_good {l : List UInt8} (hl : l.length ≤ 1073741824) (h : (parseR l).2 = 0) (w : World) : Calls Tryz.prog 25 #[str l] w (fun e w' => ∃ t A c, e = .returned (.tuple #[itemV t A c, .int .i64 (-1), .int .i64 0]) ∧ Ext w w' ∧ t.right 8 = true ∧ t.ok ∧ t.bytes = l ∧ IsL w' (fun _ => True) t A) :=
  (parse_any l hl w).mono fun e w' ⟨hb, hh⟩ => by
    rcases hh with ⟨h0, _⟩ | ⟨_, t, A, c, rfl, ⟨hr, hok⟩, hbt, hli⟩
    · exact absurd h h0
    · exact ⟨t, A, c, rfl, hb, hr, hok, hbt, hli⟩
set_option maxRecDepth 20000 in
set_option maxHeartbeats 1600000 in
theorem repParse_bad (l : List UInt8) (hl : l.length ≤ 1073741824) (h : (parseR l).2 ≠ 0) (w : World) : Calls Tryz.prog 12 #[str l] w (Ret (rparseV l) w) := by
  have K := hid (fun W => parse_bad hl h W)
  have HP := hid (rparse_none (repO_bad h))
  have t1a : (((parseR l).2) == (0)) = false := by rw [beq_eq_false_iff_ne]; exact h
  have t1b : (((parseR l).2) = (0)) = False := eq_false (by exact h)
  have t1c : (((parseR l).2) != (0)) = true := by rw [bne_iff_ne]; exact h
  generalize (parseR l).2 = E at *
  generalize ((parseR l).1 : Int) = N at *
  clear h hl
  have HE := hid ((Mod.refl [] w).alloc (.cells #[.bool false, .bool false, .int .i64 0, .int .i64 0, .string ⟨#[]⟩, .int .u64 0, .int .u64 0, .int .u64 0, .int .u64 0, .bool false, .int .u64 0, .int .u64 0] 29))
  have HB0 : Hid (Blk (w.alloc (.cells #[.bool false, .bool false, .int .i64 0, .int .i64 0, .string ⟨#[]⟩, .int .u64 0, .int .u64 0, .int .u64 0, .int .u64 0, .bool false, .int .u64 0, .int .u64 0] 29)) w.heap.size 29 #[.bool false, .bool false, .int .i64 0, .int .i64 0, .string ⟨#[]⟩, .int .u64 0, .int .u64 0, .int .u64 0, .int .u64 0, .bool false, .int .u64 0, .int .u64 0]) := hid (Blk.new w 29 #[.bool false, .bool false, .int .i64 0, .int .i64 0, .string ⟨#[]⟩, .int .u64 0, .int .u64 0, .int .u64 0, .int .u64 0, .bool false, .int .u64 0, .int .u64 0])
  go_enter Tryz.func12, Tryz.ntmps12
  go_upto_region 1 with fail
  generalize (w.alloc (.cells #[.bool false, .bool false, .int .i64 0, .int .i64 0, .string ⟨#[]⟩, .int .u64 0, .int .u64 0, .int .u64 0, .int .u64 0, .bool false, .int .u64 0, .int .u64 0] 29)) = V at *
  obtain ⟨e, he⟩ := Later.self V
  rw [he]
  clear he
  go_upto_region 2 with (go_at_call 25; refine (K.out _).mono ?_; rintro x w1 ⟨rfl, hb⟩; have HX := hid hb; clear hb)
  generalize hV1 : World.alloc w1 _ = V1
  have HX1 : Hid (Ext V V1) := hid (by rw [← hV1]; exact (e.h.trans HX.out).alloc _)
  have HB1 := hid (HB0.out.ext HX1.out)
  clear hV1 HX
  go_wp2_with (first | (refine wpList_store_mid rfl 29 _ _ rfl w.heap.size 0 #[.bool false, .bool false, .int .i64 0, .int .i64 0, .string ⟨#[]⟩, .int .u64 0, .int .u64 0, .int .u64 0, .int .u64 0, .bool false, .int .u64 0, .int .u64 0] (by rfl) (by rfl) (HB1.out.there (Nat.le_refl 12)) (by kernel_rfl) (by simp [Value.oneCell']) ?_))
  generalize hZZ : World.setCells _ _ _ _ = ZZ
  have HZB : Hid (Blk ZZ w.heap.size 29 #[.bool false, .bool false, .int .i64 0, .int .i64 0, .string ⟨#[]⟩, .int .u64 0, .int .u64 0, .int .u64 0, .int .u64 0, .bool false, .int .u64 0, .int .u64 0]) := hid (by rw [← hZZ]; exact setCells_all (ds := #[.bool false, .bool false, .int .i64 0, .int .i64 0, .string ⟨#[]⟩, .int .u64 0, .int .u64 0, .int .u64 0, .int .u64 0, .bool false, .int .u64 0, .int .u64 0]) HB1.out rfl)
  have HZM : Hid (Ext w ZZ) := hid (by rw [← hZZ]; exact setCells_mod _ _ (HE.out.trans HX1.out) (.inr (by omega)))
  clear hZZ
  refine bodyPost_ret (results_cell2 rfl _ (by rfl) rfl HZB.out Tryz.underlying29 rfl (by kernel_rfl)) rfl (Ret.mk (by rw [HP.out]; rfl) HZM.out)
set_option maxRecDepth 20000 in
set_option maxHeartbeats 3200000 in
theorem repParse_good (l : List UInt8) (hl : l.length ≤ 1073741824) (h : (parseR l).2 = 0) (w : World) : Calls Tryz.prog 12 #[str l] w (Ret (rparseV l) w) := by
  have K := hid (fun W => parse_good hl h W)
  clear h hl
  have HE := hid ((Mod.refl [] w).alloc (.cells #[.bool false, .bool false, .int .i64 0, .int .i64 0, .string ⟨#[]⟩, .int .u64 0, .int .u64 0, .int .u64 0, .int .u64 0, .bool false, .int .u64 0, .int .u64 0] 29))
  have HB0 : Hid (Blk (w.alloc (.cells #[.bool false, .bool false, .int .i64 0, .int .i64 0, .string ⟨#[]⟩, .int .u64 0, .int .u64 0, .int .u64 0, .int .u64 0, .bool false, .int .u64 0, .int .u64 0] 29)) w.heap.size 29 #[.bool false, .bool false, .int .i64 0, .int .i64 0, .string ⟨#[]⟩, .int .u64 0, .int .u64 0, .int .u64 0, .int .u64 0, .bool false, .int .u64 0, .int .u64 0]) := hid (Blk.new w 29 #[.bool false, .bool false, .int .i64 0, .int .i64 0, .string ⟨#[]⟩, .int .u64 0, .int .u64 0, .int .u64 0, .int .u64 0, .bool false, .int .u64 0, .int .u64 0])
  go_enter Tryz.func12, Tryz.ntmps12
  go_upto_region 1 with fail
  generalize (w.alloc (.cells #[.bool false, .bool false, .int .i64 0, .int .i64 0, .string ⟨#[]⟩, .int .u64 0, .int .u64 0, .int .u64 0, .int .u64 0, .bool false, .int .u64 0, .int .u64 0] 29)) = V at *
  obtain ⟨e, he⟩ := Later.self V
  rw [he]
  clear he
  go_upto_region 2 with (go_at_call 25; refine (K.out _).mono ?_; rintro x w1 ⟨t, A, c, rfl, hb, hr, hok, hbt, hl⟩; have HX := hid hb; have HR := hid hr; have HOK := hid hok; have HBT := hid hbt; have HL := hid hl; clear hb hr hok hbt hl)
  generalize hV1 : World.alloc w1 _ = V1
  have HX1 : Hid (Ext V V1) := hid (by rw [← hV1]; exact (e.h.trans HX.out).alloc _)
  have HB1 := hid (HB0.out.ext HX1.out)
  have HT1 : Hid (Blk V1 w1.heap.size 64 (itemC t A c)) := hid (by rw [← hV1]; exact Blk.new _ _ _)
  have HL1 : Hid (∀ W, Ext V1 W → IsL W (fun _ => True) t A) := hid (fun W hW => by rw [← hV1] at hW; exact (HL.out.ext ((Mod.refl [] _).alloc _)).ext hW)
  have HE1 := hid (HE.out.trans HX1.out)
  have HTR := hid (repO_tree HR.out HOK.out)
  rw [HBT.out] at HTR
  have KR := hid (fun A c W hW => rread_any t HOK.out A c W hW)
  have KB := hid (fun W => repBuild_any (readRep t) (readRep_wf HOK.out) W)
  have HRB : Hid (repB t = ((readRep t).right && decide ((readRep t).bytes = l))) := hid (by unfold repB; rw [HBT.out])
  clear hV1 HX HB0 HL HE HX1 e HR HOK HBT
  generalize readRep t = r at *
  generalize repB t = g at *
  generalize w1.heap.size = n1 at *
  have HTL : Hid (∀ e : Later V1, Blk e.x n1 64 (itemC t A c)) := hid (fun e => HT1.out.later e)
  obtain ⟨e, he⟩ := Later.self V1
  rw [he]
  clear he
  go_upto_region 4 with fail
  have tk1 : True := trivial
  go_upto_region 5 with (first | (clear tk1; refine wpList_row (by rfl) 64 _ rfl _ rfl (HTL.out _) Tryz.underlying64 rfl (by kernel_rfl) ?_) | (go_at_call 26; refine (KR.out _ _ _ (HL1.out _ e.h)).mono ?_; rintro x w2 ⟨rfl, hb⟩; have HX := hid (e.h.trans hb); clear hb) | (refine wpList_store_mid rfl 29 _ _ rfl w2.heap.size 0 #[.bool r.here, .bool r.gone, .int .i64 r.reason, .int .i64 r.of.src.sch, str r.of.src.name, .int .u64 (r.of.src.node : Int), .int .u64 (r.of.src.svc : Int), .int .u64 (r.of.t : Int), .int .u64 (r.of.q : Int), .bool r.of.fr, .int .u64 (r.of.o : Int), .int .u64 (r.of.n : Int)] (by rfl) (by rfl) ((Blk.new _ _ _).there (Nat.le_refl 12)) (by kernel_rfl) (by simp [Value.oneCell']) ?_))
  generalize hV2 : World.setCells _ _ _ _ = V2
  have HB2 : Hid (Blk V2 w2.heap.size 29 #[.bool r.here, .bool r.gone, .int .i64 r.reason, .int .i64 r.of.src.sch, str r.of.src.name, .int .u64 (r.of.src.node : Int), .int .u64 (r.of.src.svc : Int), .int .u64 (r.of.t : Int), .int .u64 (r.of.q : Int), .bool r.of.fr, .int .u64 (r.of.o : Int), .int .u64 (r.of.n : Int)]) := hid (by rw [← hV2]; exact setCells_all (ds := #[.bool r.here, .bool r.gone, .int .i64 r.reason, .int .i64 r.of.src.sch, str r.of.src.name, .int .u64 (r.of.src.node : Int), .int .u64 (r.of.src.svc : Int), .int .u64 (r.of.t : Int), .int .u64 (r.of.q : Int), .bool r.of.fr, .int .u64 (r.of.o : Int), .int .u64 (r.of.n : Int)]) (Blk.new _ _ _) rfl)
  have HX2 : Hid (Ext V1 V2) := hid (by rw [← hV2]; exact setCells_mod _ _ (HX.out.alloc _) (.inr HX.out.size))
  have HBR := hid (HB1.out.ext HX2.out)
  have HE2 := hid (HE1.out.trans HX2.out)
  clear hV2 HX HX2 HB1 HT1 HTL HL1 HE1 K KR e
  generalize w2.heap.size = n2 at *
  have HRL : Hid (∀ e : Later V2, Blk e.x n2 29 #[.bool r.here, .bool r.gone, .int .i64 r.reason, .int .i64 r.of.src.sch, str r.of.src.name, .int .u64 (r.of.src.node : Int), .int .u64 (r.of.src.svc : Int), .int .u64 (r.of.t : Int), .int .u64 (r.of.q : Int), .bool r.of.fr, .int .u64 (r.of.o : Int), .int .u64 (r.of.n : Int)]) := hid (fun e => HB2.out.later e)
  obtain ⟨e, he⟩ := Later.self V2
  rw [he]
  clear he
  have tk1 : True := trivial
  cases hr : r.right with
  | false =>
    have KB : Hid (∀ W, Calls Tryz.prog 13 #[repV r] W (Ret (.tuple #[str [], .int .i64 1]) W)) := hid (fun W => by have := KB.out W; unfold rbuildV at this; rw [hr] at this; exact this)
    rw [hr, Bool.false_and] at HRB
    have HP := hid (rparse_none (HTR.out.trans (by rw [HRB.out]; rfl)))
    clear hr HRB HTR
    go_upto_region 6 with (first | (clear tk1; refine wpList_row (by rfl) 29 _ rfl _ rfl (HRL.out _) Tryz.underlying29 rfl (by kernel_rfl) ?_) | (go_at_call 13; refine (Ret.later (KB.out _)).mono ?_; rintro x _ ⟨rfl, e, rfl⟩))
    go_wp2_with (first | (refine wpList_store_mid rfl 29 _ _ rfl w.heap.size 0 #[.bool false, .bool false, .int .i64 0, .int .i64 0, .string ⟨#[]⟩, .int .u64 0, .int .u64 0, .int .u64 0, .int .u64 0, .bool false, .int .u64 0, .int .u64 0] (by rfl) (by rfl) ((HBR.out.later e).there (Nat.le_refl 12)) (by kernel_rfl) (by simp [Value.oneCell']) ?_))
    generalize hZZ : World.setCells _ _ _ _ = ZZ
    have HZB : Hid (Blk ZZ w.heap.size 29 #[.bool false, .bool false, .int .i64 0, .int .i64 0, .string ⟨#[]⟩, .int .u64 0, .int .u64 0, .int .u64 0, .int .u64 0, .bool false, .int .u64 0, .int .u64 0]) := hid (by rw [← hZZ]; exact setCells_all (ds := #[.bool false, .bool false, .int .i64 0, .int .i64 0, .string ⟨#[]⟩, .int .u64 0, .int .u64 0, .int .u64 0, .int .u64 0, .bool false, .int .u64 0, .int .u64 0]) (HBR.out.later e) rfl)
    have HZM : Hid (Ext w ZZ) := hid (by rw [← hZZ]; exact setCells_mod _ _ (HE2.out.trans e.h) (.inr (by omega)))
    clear hZZ
    refine bodyPost_ret (results_cell2 rfl _ (by rfl) rfl HZB.out Tryz.underlying29 rfl (by kernel_rfl)) rfl (Ret.mk (by rw [HP.out]; rfl) HZM.out)
  | true =>
    have KB : Hid (∀ W, Calls Tryz.prog 13 #[repV r] W (Ret (.tuple #[str r.bytes, .int .i64 0]) W)) := hid (fun W => by have := KB.out W; unfold rbuildV at this; rw [hr] at this; exact this)
    rw [hr, Bool.true_and] at HRB
    clear hr
    generalize r.bytes = B at *
    by_cases hB : B = l
    · rw [decide_eq_true hB] at HRB
      have HP := hid (rparse_some (HTR.out.trans (by rw [HRB.out]; rfl)))
      clear HRB HTR
      subst hB
      go_upto_region 6 with (first | (clear tk1; refine wpList_row (by rfl) 29 _ rfl _ rfl (HRL.out _) Tryz.underlying29 rfl (by kernel_rfl) ?_) | (go_at_call 13; refine (Ret.later (KB.out _)).mono ?_; rintro x _ ⟨rfl, e, rfl⟩))
      have tk1 : True := trivial
      go_upto_region 8 with fail
      go_wp2_with (first | (clear tk1; refine wpList_row (by rfl) 29 _ rfl _ rfl (HRL.out _) Tryz.underlying29 rfl (by kernel_rfl) ?_) | (refine wpList_store_mid rfl 29 _ _ rfl w.heap.size 0 #[.bool r.here, .bool r.gone, .int .i64 r.reason, .int .i64 r.of.src.sch, str r.of.src.name, .int .u64 (r.of.src.node : Int), .int .u64 (r.of.src.svc : Int), .int .u64 (r.of.t : Int), .int .u64 (r.of.q : Int), .bool r.of.fr, .int .u64 (r.of.o : Int), .int .u64 (r.of.n : Int)] (by rfl) (by rfl) ((HBR.out.later e).there (Nat.le_refl 12)) (by kernel_rfl) (by simp [Value.oneCell']) ?_))
      generalize hZZ : World.setCells _ _ _ _ = ZZ
      have HZB : Hid (Blk ZZ w.heap.size 29 #[.bool r.here, .bool r.gone, .int .i64 r.reason, .int .i64 r.of.src.sch, str r.of.src.name, .int .u64 (r.of.src.node : Int), .int .u64 (r.of.src.svc : Int), .int .u64 (r.of.t : Int), .int .u64 (r.of.q : Int), .bool r.of.fr, .int .u64 (r.of.o : Int), .int .u64 (r.of.n : Int)]) := hid (by rw [← hZZ]; exact setCells_all (ds := #[.bool r.here, .bool r.gone, .int .i64 r.reason, .int .i64 r.of.src.sch, str r.of.src.name, .int .u64 (r.of.src.node : Int), .int .u64 (r.of.src.svc : Int), .int .u64 (r.of.t : Int), .int .u64 (r.of.q : Int), .bool r.of.fr, .int .u64 (r.of.o : Int), .int .u64 (r.of.n : Int)]) (HBR.out.later e) rfl)
      have HZM : Hid (Ext w ZZ) := hid (by rw [← hZZ]; exact setCells_mod _ _ (HE2.out.trans e.h) (.inr (by omega)))
      clear hZZ
      refine bodyPost_ret (results_cell2 rfl _ (by rfl) rfl HZB.out Tryz.underlying29 rfl (by kernel_rfl)) rfl (Ret.mk (by rw [HP.out]; rfl) HZM.out)
    · rw [decide_eq_false hB] at HRB
      have HP := hid (rparse_none (HTR.out.trans (by rw [HRB.out]; rfl)))
      clear HRB HTR
      have t1a : ((B) == (l)) = false := by rw [beq_eq_false_iff_ne]; exact hB
      have t1b : ((B) = (l)) = False := eq_false (by exact hB)
      have t1c : ((B) != (l)) = true := by rw [bne_iff_ne]; exact hB
      clear hB
      go_upto_region 6 with (first | (clear tk1; refine wpList_row (by rfl) 29 _ rfl _ rfl (HRL.out _) Tryz.underlying29 rfl (by kernel_rfl) ?_) | (go_at_call 13; refine (Ret.later (KB.out _)).mono ?_; rintro x _ ⟨rfl, e, rfl⟩))
      go_wp2_with (first | (refine wpList_store_mid rfl 29 _ _ rfl w.heap.size 0 #[.bool false, .bool false, .int .i64 0, .int .i64 0, .string ⟨#[]⟩, .int .u64 0, .int .u64 0, .int .u64 0, .int .u64 0, .bool false, .int .u64 0, .int .u64 0] (by rfl) (by rfl) ((HBR.out.later e).there (Nat.le_refl 12)) (by kernel_rfl) (by simp [Value.oneCell']) ?_))
      generalize hZZ : World.setCells _ _ _ _ = ZZ
      have HZB : Hid (Blk ZZ w.heap.size 29 #[.bool false, .bool false, .int .i64 0, .int .i64 0, .string ⟨#[]⟩, .int .u64 0, .int .u64 0, .int .u64 0, .int .u64 0, .bool false, .int .u64 0, .int .u64 0]) := hid (by rw [← hZZ]; exact setCells_all (ds := #[.bool false, .bool false, .int .i64 0, .int .i64 0, .string ⟨#[]⟩, .int .u64 0, .int .u64 0, .int .u64 0, .int .u64 0, .bool false, .int .u64 0, .int .u64 0]) (HBR.out.later e) rfl)
      have HZM : Hid (Ext w ZZ) := hid (by rw [← hZZ]; exact setCells_mod _ _ (HE2.out.trans e.h) (.inr (by omega)))
      clear hZZ
      refine bodyPost_ret (results_cell2 rfl _ (by rfl) rfl HZB.out Tryz.underlying29 rfl (by kernel_rfl)) rfl (Ret.mk (by rw [HP.out]; rfl) HZM.out)
theorem repParse_any (l : List UInt8) (hl : l.length ≤ 1073741824) (w : World) : Calls Tryz.prog 12 #[str l] w (Ret (rparseV l) w) := by
  by_cases h : (parseR l).2 = 0
  · exact repParse_good l hl h w
  · exact repParse_bad l hl h w
end Go.Proofs.YtogjghmoankleaaGreat


namespace Go.Proofs.YtogjghmoankleaaGreat
open Go.RowKit
set_option linter.unusedVariables false
set_option linter.unusedSimpArgs false

theorem kids {W : World} {Q : Nat → Prop} {t : T} {A : Option Addr} (hk : 0 < t.k) (h : IsL W Q t A) : ∃ (b o : Nat) (ac : Nat → Option Addr × Nat), A = some ⟨b, o, none⟩ ∧ b < W.heap.size ∧ Q b ∧ ∀ i, i < t.k → At5 W b (o + i * 5) (t.ch i) (ac i).1 (ac i).2 ∧ IsL W Q (t.ch i) (ac i).1 := by
  cases t with
  | nil => exact absurd hk (Nat.lt_irrefl _)
  | mk kd n s op k ch => exact h.rows hk
theorem ch_size {t : T} {i : Nat} (h : i < t.k) : (t.ch i).size ≤ t.size := by
  cases t with
  | nil => exact absurd h (Nat.not_lt_zero _)
  | mk kd n s op k ch => exact T.size_ch h
end Go.Proofs.YtogjghmoankleaaGreat


namespace Go.Proofs.YtogjghmoankleaaGreat
open Go.RowKit
set_option linter.unusedVariables false
set_option linter.unusedSimpArgs false

end Go.Proofs.YtogjghmoankleaaGreat


namespace Go.Proofs.YtogjghmoankleaaGreat
open Go.RowKit
set_option linter.unusedVariables false
set_option linter.unusedSimpArgs false

end Go.Proofs.YtogjghmoankleaaGreat


namespace Go.Proofs.YtogjghmoankleaaGreat
open Go.RowKit
set_option linter.unusedVariables false
set_option linter.unusedSimpArgs false

def repRV (t : T) : Value := .tuple #[repV (if repB t then readRep t else zeroR), .bool (repB t)]
theorem repRV_no {t : T} (h : repB t = false) : repRV t = .tuple #[repV zeroR, .bool false] := by unfold repRV; rw [h]; rfl
theorem repRV_yes {t : T} (h : repB t = true) : repRV t = .tuple #[repV (readRep t), .bool true] := by unfold repRV; rw [h]; rfl
end Go.Proofs.YtogjghmoankleaaGreat


namespace Go.Proofs.YtogjghmoankleaaGreat
open Go.RowKit
set_option linter.unusedVariables false
set_option linter.unusedSimpArgs false

noncomputable def q25V (l : List UInt8) : Value := .tuple #[repV ((repO l).getD zeroR), .bool (repO l).isSome]
theorem q25_no {l : List UInt8} (h : repO l = none) : q25V l = .tuple #[repV zeroR, .bool false] := by unfold q25V; rw [h]; rfl
end Go.Proofs.YtogjghmoankleaaGreat


namespace Go.Proofs.YtogjghmoankleaaGreat
open Go.RowKit
set_option linter.unusedVariables false
set_option linter.unusedSimpArgs false

theorem priB_length {p : PV} (h : p.ranged = true) {k : Nat} (hk : k ≤ 2) {s : List UInt8} (hs : s.length ≤ 90) : (priB p k s).length < 1000000 := by
  obtain ⟨a, b, c⟩ := priT_all h hk (sum := s) hs
  rw [← priT_bytes]
  have := T.bytes_le (priT p k s)
  omega
set_option maxRecDepth 20000 in
set_option maxHeartbeats 800000 in
theorem r11Build_ok (p : PV) (h : p.ranged = true) (w : World) : Calls Tryz.prog 38 #[.agg p.c] w (Ret (str p.bytes) w) := by
  have hrs := PV.ranged_spec h
  obtain ⟨k, hc⟩ := Int.eq_ofNat_of_zero_le hrs.2.2.2.1
  have hk : k ≤ 2 := by omega
  have KB := hid (fun W => r11bytes_any p h k hk (List.replicate (2 * k) 0) (by simp; omega) W)
  have KC : Hid (∀ W, Calls Tryz.prog 56 #[.int .i64 (k : Int), str (priB p k (List.replicate (2 * k) 0))] W (Ret (str (priSum p k)) W)) := fun W => R4B_any k hk (priB p k (List.replicate (2 * k) 0)) (priB_length h hk (by simp; omega)) W
  have KE := hid (fun W => r11bytes_any p h k hk (priSum p k) (by rw [priSum_length p hk]; omega) W)
  have HV : Hid (p.bytes = priB p k (priSum p k)) := by unfold Hid PV.bytes; rw [hc]; rfl
  have hmk : ∀ W : World, (Instr.makeSlice 99 (.int .i64 (2 * (k : Int))) (.int .i64 (2 * (k : Int)))).run Tryz.prog W = .ok (.slice (some ⟨W.heap.size, 0, none⟩) (2 * k) (2 * k)) (W.alloc (.cells (madeCells #[.int .u8 0] (2 * k)) 5)) := by
    intro W
    have := run_make_row' (P := Tryz.prog) 99 5 (.int .u8 0) 1 Tryz.underlying99 infoByte8 rfl .i64 .i64 (2 * k) (by omega) (by omega) W
    simpa using this
  have hcv := conv_made (2 * k) (2 * k)
  have t2 : IntKind.i64.wrap (2 * (k : Int)) = 2 * (k : Int) := IntWalk.i64_in _ (by omega)
  have t1 : IntKind.u64.wrap (k : Int) = (k : Int) := IntWalk.u64_in _ (by omega)
  generalize List.replicate (2 * k) (0 : UInt8) = Z at *
  generalize priB p k Z = X at *
  generalize priSum p k = Y at *
  generalize priB p k Y = R at *
  have HE := hid ((Mod.refl [] w).alloc (.cells p.c 34))
  have HB := hid (Blk.new w 34 p.c)
  have HC := hid hc
  clear h hrs hc hk
  go_enter Tryz.func38, Tryz.ntmps38
  go_upto_region 1 with fail
  generalize w.alloc (.cells p.c 34) = V at *
  have HBL : Hid (∀ e : Later V, Blk e.x w.heap.size 34 p.c) := fun e => HB.out.later e
  have HBM : Hid (∀ W, Ext V W → Blk W w.heap.size 34 p.c) := fun W hW => HB.out.ext hW
  have HS1 : Hid (∀ W, Ext V W → W.cell? ⟨w.heap.size, 1, none⟩ = some (.int .i64 (k : Int))) := fun W hW => by rw [← HC.out]; exact (HB.out.ext hW).cell 1
  have x1 : ∀ e : Later V, e.x.cell? ⟨w.heap.size, 1, none⟩ = some (.int .i64 (k : Int)) := fun e => HS1.out _ e.h
  obtain ⟨e, he⟩ := Later.self V
  rw [he]
  clear he
  have hcv2 : (convert 99 9 (.slice (some ⟨e.x.heap.size, 0, none⟩) (2 * k) (2 * k))).run Tryz.prog (e.x.alloc (.cells (madeCells #[.int .u8 0] (2 * k)) 5)).drew = .ok (str Z) (e.x.alloc (.cells (madeCells #[.int .u8 0] (2 * k)) 5)).drew := hcv e.x.drew
  refine wp_region_held_drew (S := fun w' => Ext V w' ∧ True) (by kernel_rfl) ⟨(Later.h e).drew, trivial⟩ (fun hHeld => ?_)
  refine' wpAnyH_take (i := 0) (v := _) rfl (by kernel_rfl) (by kernel_rfl) (by kernel_rfl) (fun _ _ _ h => h) (Or.inl ⟨by rfl, ?hy⟩) hHeld ?rest
  case hy => (rintro W ⟨hM, _⟩; go_simp; (try with_reducible rfl))
  case rest =>
  (try simp only [Act.put, List.setIfInBounds_toArray, List.set_cons_zero, List.set_cons_succ])
  refine' wpAnyH_take (i := 1) (v := _) rfl (by kernel_rfl) (by kernel_rfl) (by kernel_rfl) (fun _ _ _ h => h) (Or.inl ⟨by rfl, ?hy⟩) hHeld ?rest
  case hy => (rintro W ⟨hM, _⟩; have x1 := HS1.out W hM; go_simp; (try with_reducible rfl))
  case rest =>
  (try simp only [Act.put, List.setIfInBounds_toArray, List.set_cons_zero, List.set_cons_succ])
  refine wpAnyH_take (i := 2) rfl (by kernel_rfl) (by kernel_rfl) (by kernel_rfl) (fun _ _ _ h => h) (yieldsIf_row (by rfl) 34 _ rfl _ rfl (fun W h => HBM.out W h.1) Tryz.underlying34 rfl (by kernel_rfl)) hHeld ?_
  (try simp only [Act.put, List.setIfInBounds_toArray, List.set_cons_zero, List.set_cons_succ])
  refine' wpAnyH_take (i := 3) (v := _) rfl (by kernel_rfl) (by kernel_rfl) (by kernel_rfl) (fun _ _ _ h => h) (Or.inl ⟨by rfl, ?hy⟩) hHeld ?rest
  case hy => (rintro W ⟨hM, _⟩; go_simp; (try with_reducible rfl))
  case rest =>
  (try simp only [Act.put, List.setIfInBounds_toArray, List.set_cons_zero, List.set_cons_succ])
  refine' wpAnyH_take (i := 4) (v := _) rfl (by kernel_rfl) (by kernel_rfl) (by kernel_rfl) (fun _ _ _ h => h) (Or.inl ⟨by rfl, ?hy⟩) hHeld ?rest
  case hy => (rintro W ⟨hM, _⟩; have x1 := HS1.out W hM; go_simp; (try with_reducible rfl))
  case rest =>
  (try simp only [Act.put, List.setIfInBounds_toArray, List.set_cons_zero, List.set_cons_succ])
  refine' wpAnyH_take (i := 5) (v := _) rfl (by kernel_rfl) (by kernel_rfl) (by kernel_rfl) (fun _ _ _ h => h) (Or.inl ⟨by rfl, ?hy⟩) hHeld ?rest
  case hy => (rintro W ⟨hM, _⟩; go_simp; (try with_reducible rfl))
  case rest =>
  (try simp only [Act.put, List.setIfInBounds_toArray, List.set_cons_zero, List.set_cons_succ])
  refine' wpAnyH_take (i := 6) (v := _) rfl (by kernel_rfl) (by kernel_rfl) (by kernel_rfl) (fun _ _ _ h => h) (Or.inl ⟨by rfl, ?hy⟩) hHeld ?rest
  case hy => (rintro W ⟨hM, _⟩; go_simp; (try with_reducible rfl))
  case rest =>
  (try simp only [Act.put, List.setIfInBounds_toArray, List.set_cons_zero, List.set_cons_succ])
  refine' wpAnyH_take (i := 7) (v := _) rfl (by kernel_rfl) (by kernel_rfl) (by kernel_rfl) (fun _ _ _ h => h) (Or.inl ⟨by rfl, ?hy⟩) hHeld ?rest
  case hy => (rintro W ⟨hM, _⟩; have x1 := HS1.out W hM; go_simp; (try with_reducible rfl))
  case rest =>
  (try simp only [Act.put, List.setIfInBounds_toArray, List.set_cons_zero, List.set_cons_succ])
  refine' wpAnyH_take (i := 8) (v := _) rfl (by kernel_rfl) (by kernel_rfl) (by kernel_rfl) (fun _ _ _ h => h) (Or.inl ⟨by rfl, ?hy⟩) hHeld ?rest
  case hy => (rintro W ⟨hM, _⟩; go_simp; (try with_reducible rfl))
  case rest =>
  (try simp only [Act.put, List.setIfInBounds_toArray, List.set_cons_zero, List.set_cons_succ])
  refine wpAnyH_ready (rs := [9]) (by kernel_rfl) (by simp) ?_
  refine AllReadyH.cons rfl (fun K hK => ?_) AllReadyH.nil
  go_simp
  refine hK.out _ _ ⟨hHeld.1.alloc _, trivial⟩ (fun hHeld => ?_)
  clear hK K
  (try simp only [Act.put, List.setIfInBounds_toArray, List.set_cons_zero, List.set_cons_succ])
  refine wpAnyH_ready (rs := [10]) (by kernel_rfl) (by simp) ?_
  refine AllReadyH.cons rfl (fun K hK => ?_) AllReadyH.nil
  go_simp
  refine hK.out _ _ hHeld (fun hHeld => ?_)
  clear hK K
  (try simp only [Act.put, List.setIfInBounds_toArray, List.set_cons_zero, List.set_cons_succ])
  refine wpAnyH_ready (rs := [11]) (by kernel_rfl) (by simp) ?_
  refine AllReadyH.cons rfl (fun K hK => ?_) AllReadyH.nil
  go_simp
  (go_at_call 57; refine (KB.out _).mono ?_; rintro x w1 ⟨rfl, hb1⟩)
  refine hK.out _ _ ⟨hHeld.1.trans hb1, trivial⟩ (fun hHeld => ?_)
  clear hK K
  (try simp only [Act.put, List.setIfInBounds_toArray, List.set_cons_zero, List.set_cons_succ])
  refine wpAnyH_ready (rs := [12]) (by kernel_rfl) (by simp) ?_
  refine AllReadyH.cons rfl (fun K hK => ?_) AllReadyH.nil
  go_simp
  (go_at_call 56; refine (KC.out _).mono ?_; rintro x w2 ⟨rfl, hb2⟩)
  refine hK.out _ _ ⟨hHeld.1.trans hb2, trivial⟩ (fun hHeld => ?_)
  clear hK K
  (try simp only [Act.put, List.setIfInBounds_toArray, List.set_cons_zero, List.set_cons_succ])
  refine wpAnyH_ready (rs := [13]) (by kernel_rfl) (by simp) ?_
  refine AllReadyH.cons rfl (fun K hK => ?_) AllReadyH.nil
  go_simp
  refine hK.out _ _ hHeld (fun hHeld => ?_)
  clear hK K
  (try simp only [Act.put, List.setIfInBounds_toArray, List.set_cons_zero, List.set_cons_succ])
  refine wpAnyH_done (by kernel_rfl) ?_ _
  obtain ⟨e2, rfl⟩ : ∃ e2 : Later V, w2 = e2.x := ⟨⟨_, hHeld.1⟩, rfl⟩
  clear hb1 hb2 hHeld hcv2 hcv hmk
  go_wp2_with (first | (refine wpList_row (by rfl) 34 _ rfl _ rfl (HBL.out _) Tryz.underlying34 rfl (by kernel_rfl) ?_) | (go_at_call 57; refine (Ret.later (KE.out _)).mono ?_; rintro x _ ⟨rfl, e3, rfl⟩))
  go_ret
  exact Ret.mk (by rw [HV.out]; rfl) (HE.out.trans e3.h)
end Go.Proofs.YtogjghmoankleaaGreat


namespace Go.Proofs.YtogjghmoankleaaGreat
open Go.RowKit
set_option linter.unusedVariables false
set_option linter.unusedSimpArgs false

theorem bv_nat {b : BV} (h : b.right = 0) : ∃ ty num : Nat, b = ⟨ty, num, b.fl, b.crc, b.data⟩ := by
  obtain ⟨ty, num, fl, crc, data⟩ := b
  have h := BV.right_zero h
  simp only [] at h
  obtain ⟨ty, rfl⟩ := Int.eq_ofNat_of_zero_le (show 0 ≤ ty by omega)
  obtain ⟨num, rfl⟩ := Int.eq_ofNat_of_zero_le (show 0 ≤ num by omega)
  exact ⟨ty, num, rfl⟩
end Go.Proofs.YtogjghmoankleaaGreat
