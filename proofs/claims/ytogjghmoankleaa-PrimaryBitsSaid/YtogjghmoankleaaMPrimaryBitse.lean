/-
  The parser of items: an item.
  Parse: the item of bytes, or what is wrong, and where.
  What is made is read again: names.
  block.Of: what gives up, and what is read.
  Lists of items, plainly; a primary's items and bytes; why it is not right.
  Primaries: flags; why one is not right, as the reference tells it.
-/
import Derived.Test.YtogjghmoankleaaMPrimaryBitsd
import Derived.StillTailTactics
import Derived.Defers
import Derived.Recover

namespace Go.Proofs.Ytogjghmoankleaa
open Go.RowKit
set_option linter.unusedVariables false
set_option linter.unusedSimpArgs false

theorem flt_none {d : Nat} {l : List UInt8} (h : readH l = none) : flt d l = (0, 2) := by
  cases d <;> (unfold flt; rw [h])
theorem flt_noK {d : Nat} {l : List UInt8} {sz m n : Nat} {o : Bool} (h : readH l = some (sz, m, n, o)) (hm : noK m = true) : flt d l = (0, 2) := by
  cases d <;> (unfold flt; rw [h]; dsimp only; rw [if_pos hm])
theorem flt_deep {l : List UInt8} {sz m n : Nat} {o : Bool} (h : readH l = some (sz, m, n, o)) (hm : noK m = false) : flt 0 l = (0, 3) := by
  unfold flt; rw [h]; dsimp only; rw [if_neg (by simp [hm])]
theorem flt_num {d : Nat} {l : List UInt8} {sz n : Nat} {o : Bool} (h : readH l = some (sz, 0, n, o)) : flt (d + 1) l = (sz, 0) := by
  unfold flt; rw [h]; rfl
theorem flt_str {d : Nat} {l : List UInt8} {sz m n : Nat} {o : Bool} (h : readH l = some (sz, m, n, o)) (hm : m = 2 ∨ m = 3) : flt (d + 1) l = strR o l sz n := by
  unfold flt; rw [h]
  rcases hm with rfl | rfl <;> rfl
theorem flt_long {d : Nat} {l : List UInt8} {sz n : Nat} (h : readH l = some (sz, 4, n, false)) (hn : 1000 < n) : flt (d + 1) l = (0, 4) := by
  unfold flt; rw [h]; dsimp only
  rw [if_neg (by decide), if_neg (by decide), if_neg (by decide), if_pos ⟨rfl, hn⟩]
theorem flt_arr {d : Nat} {l : List UInt8} {sz n : Nat} {o : Bool} (h : readH l = some (sz, 4, n, o)) (hn : ¬ (o = false ∧ 1000 < n)) : flt (d + 1) l = floop (flt d) l o n 1000 sz := by
  unfold flt; rw [h]; dsimp only
  rw [if_neg (by decide), if_neg (by decide), if_neg (by decide), if_neg hn]

theorem newarr_long {L : List UInt8} {sz n : Nat} (h : readH L = some (sz, 4, n, false)) (hn : 1000 < n) : ((RS.new L).Array).1.e = 4 := by
  have e := RS.Head_some (r := RS.new L) rfl h
  unfold RS.Array
  rw [e]
  dsimp only
  rw [if_pos rfl, if_neg (by decide), if_neg (by decide), if_pos hn]
  rfl
theorem newarr_ok {L : List UInt8} {sz n : Nat} {o : Bool} (h : readH L = some (sz, 4, n, o)) (hn : ¬ (o = false ∧ 1000 < n)) : (RS.new L).Array = (⟨L, sz, -1, 0, 0⟩, if o = true then -1 else (n : Int)) := by
  have e := RS.Head_some (r := RS.new L) rfl h
  unfold RS.Array
  rw [e]
  dsimp only
  cases o
  · rw [if_pos rfl, if_neg (by decide), if_neg (by decide), if_neg (by intro h; exact hn ⟨rfl, h⟩)]
    simp [RS.new]
  · rw [if_pos rfl, if_neg (by decide), if_pos rfl]
    simp [RS.new]

/-- What came back, stored as the result. -/
theorem IPost.store {g : Nat} {l : List UInt8} {p : Nat} {F : Nat × Int} {d : Nat} {w W w4 : World} {t : T} {A : Option Addr} {c : Nat} (hg : g < w.heap.size) (hE : Mod [g] w W) (hW : w.heap.size < W.heap.size)
    (hm : Mod [g] W w4) (hp : PAt w4 g l (p + F.1) F.2) (hs : F.2 = 0 → (t.right d = true ∧ t.ok) ∧ t.bytes ++ l.drop (p + F.1) = l.drop p ∧ IsC w4 (fun b => W.heap.size ≤ b) t A c) :
    IPost g l p F d w (.returned (itemV t A c)) (set5 w4 w.heap.size t A c) := by
  refine ⟨t, A, c, rfl, set5_mod (hE.trans hm) (Nat.le_refl _), set5_far hp (by omega), fun h0 => ⟨(hs h0).1, (hs h0).2.1, ?_⟩⟩
  exact IsC.weak (fun k hk hq => by omega) t (IsC.mod set5_modb (fun k hq hk hm => by rw [List.mem_singleton] at hm; omega) t (hs h0).2.2)

/-- What holds once the head has been read. -/
structure IH1 (w : World) (g : Nat) (l : List UInt8) (p : Nat) (wx : World) (R : Nat) : Prop where
  ext : Ext w wx
  pa : PAt wx g l p 0
  ret : Blk wx w.heap.size 38 (itemC nulT none 0)
  rd : RdAt wx R (RS.new (l.drop p)).Head.1
  lt : w.heap.size < R

set_option maxRecDepth 20000 in
set_option maxHeartbeats 800000 in
theorem pitem_none (g : Nat) (l : List UInt8) (p : Nat) (hp : Hid (p ≤ l.length ∧ l.length ≤ 1073741824)) (d : Nat) (hr : Hid (readH (l.drop p) = none)) (w : World) (h : PAt w g l p 0) :
    Calls Try.prog 66 #[.pointer (some ⟨g, 0, none⟩), .int .i64 (d : Int)] w (IPost g l p (flt d (l.drop p)) d w) := by
  have HF := hid (flt_none (d := d) hr.out)
  have hrk : Hid (RS.ok (RS.new (l.drop p))) := RS.new_ok (by have := hp.out; rw [List.length_drop]; omega)
  have hg : Hid (g < w.heap.size) := Blk.lt h
  have hgB : Hid (w.heap.size ≠ g) := by have := hg.out; unfold Hid; omega
  have H0 := hid (Blk.alloc h (.cells (itemC nulT none 0) 38))
  clear h
  go_enter Try.func66, Try.ntmps66
  go_wp2_with fail
  refine (preader_any g l p 0 hp _ H0.out).mono ?_
  rintro x w1 ⟨rfl, hb1, hr1⟩
  have P1 := hid (H0.out.ext hb1)
  have B1 := hid ((Blk.new w 38 (itemC nulT none 0)).ext hb1)
  have HE1 := hid (((Mod.refl [] w).alloc (.cells (itemC nulT none 0) 38)).trans hb1)
  have hR1 : RdAt w1 (w.heap.size + 1) (RS.new (l.drop p)) := by simpa using hr1
  have HR1 := hid hR1
  clear hr1 hR1 hb1 H0
  go_wp2_with fail
  refine (Head_any_r _ _ hrk.out _ HR1.out).mono ?_
  rintro x w2 ⟨rfl, hm2, hr2⟩
  have K2 : Hid (IH1 w g l p w2 (w.heap.size + 1)) := ⟨Mod.new (S := [w.heap.size + 1]) (HE1.out.of_ext.trans hm2) (fun k hk => by rw [List.mem_singleton] at hk; subst hk; exact .inr (by omega)), Blk.mod P1.out hm2 (by have := hg.out; simp; omega), B1.out.mod hm2 (by simp), hr2, by omega⟩
  clear P1 B1 HE1 HR1 hm2 hr2
  go_wp2_with fail
  refine (Bad_any _ _ _ K2.out.rd).mono ?_
  rintro x w3 ⟨rfl, hb3⟩
  have K3 : Hid (IH1 w g l p w3 (w.heap.size + 1)) := ⟨K2.out.ext.trans hb3, K2.out.pa.ext hb3, K2.out.ret.ext hb3, Blk.ext K2.out.rd hb3, by omega⟩
  clear K2 hb3
  have p1 : w3.cell? ⟨g, 1, none⟩ = some (.int .i64 (p : Int)) := PAt.at_ K3.out.pa
  have HH := hid (RS.Head_none (r := RS.new (l.drop p)) rfl hr.out)
  rw [HH.out]
  dsimp only
  go_wp2_with fail
  refine (pfail_any g l p p 2 _ K3.out.pa).mono ?_
  rintro x w9 ⟨rfl, hm9, hp9⟩
  have HB9 := hid (Blk.mod K3.out.ret hm9 (by simpa using hgB.out))
  have HM9 := hid hm9; have HP9 := hid hp9
  clear hm9 hp9
  obtain ⟨c0, c1, c2, c3, c4⟩ := cells5 HB9.out
  have f0 := Blk.frozen HB9.out 0
  have f1 := Blk.frozen HB9.out 1
  have f2 := Blk.frozen HB9.out 2
  have f3 := Blk.frozen HB9.out 3
  have f4 := Blk.frozen HB9.out 4
  go_wp2_with fail
  obtain ⟨d0, d1, d2, d3, d4⟩ := cells5 (set5_blk (t := nulT) (A := none) (c := 0) HB9.out)
  clear c0 c1 c2 c3 c4 f0 f1 f2 f3 f4 
  show bodyPost _ _ _ _ _ (set5 w9 w.heap.size nulT none 0)
  refine bodyPost_ret (v := itemV nulT none 0) (by simp [results, Try.results66, go_sem, d0, d1, d2, d3, d4]) rfl ?_
  rw [HF.out]
  exact IPost.store hg.out ((K3.out.ext).of_ext) (Blk.lt K3.out.ret) HM9.out HP9.out (fun h => by cases h)

set_option maxRecDepth 20000 in
set_option maxHeartbeats 1600000 in
theorem pitem_noK (g : Nat) (l : List UInt8) (p : Nat) (hp : Hid (p ≤ l.length ∧ l.length ≤ 1073741824)) (d sz m n : Nat) (o : Bool) (hm : Hid (m = 1 ∨ m = 5 ∨ m = 6 ∨ m = 7)) (hr : Hid (readH (l.drop p) = some (sz, m, n, o))) (w : World) (h : PAt w g l p 0) :
    Calls Try.prog 66 #[.pointer (some ⟨g, 0, none⟩), .int .i64 (d : Int)] w (IPost g l p (flt d (l.drop p)) d w) := by
  have HF := hid (flt_noK (d := d) hr.out (by rcases hm.out with rfl | rfl | rfl | rfl <;> rfl))
  have hrk : Hid (RS.ok (RS.new (l.drop p))) := RS.new_ok (by have := hp.out; rw [List.length_drop]; omega)
  have hg : Hid (g < w.heap.size) := Blk.lt h
  have hgB : Hid (w.heap.size ≠ g) := by have := hg.out; unfold Hid; omega
  have H0 := hid (Blk.alloc h (.cells (itemC nulT none 0) 38))
  clear h
  go_enter Try.func66, Try.ntmps66
  go_wp2_with fail
  refine (preader_any g l p 0 hp _ H0.out).mono ?_
  rintro x w1 ⟨rfl, hb1, hr1⟩
  have P1 := hid (H0.out.ext hb1)
  have B1 := hid ((Blk.new w 38 (itemC nulT none 0)).ext hb1)
  have HE1 := hid (((Mod.refl [] w).alloc (.cells (itemC nulT none 0) 38)).trans hb1)
  have hR1 : RdAt w1 (w.heap.size + 1) (RS.new (l.drop p)) := by simpa using hr1
  have HR1 := hid hR1
  clear hr1 hR1 hb1 H0
  go_wp2_with fail
  refine (Head_any_r _ _ hrk.out _ HR1.out).mono ?_
  rintro x w2 ⟨rfl, hm2, hr2⟩
  have K2 : Hid (IH1 w g l p w2 (w.heap.size + 1)) := ⟨Mod.new (S := [w.heap.size + 1]) (HE1.out.of_ext.trans hm2) (fun k hk => by rw [List.mem_singleton] at hk; subst hk; exact .inr (by omega)), Blk.mod P1.out hm2 (by have := hg.out; simp; omega), B1.out.mod hm2 (by simp), hr2, by omega⟩
  clear P1 B1 HE1 HR1 hm2 hr2
  go_wp2_with fail
  refine (Bad_any _ _ _ K2.out.rd).mono ?_
  rintro x w3 ⟨rfl, hb3⟩
  have K3 : Hid (IH1 w g l p w3 (w.heap.size + 1)) := ⟨K2.out.ext.trans hb3, K2.out.pa.ext hb3, K2.out.ret.ext hb3, Blk.ext K2.out.rd hb3, by omega⟩
  clear K2 hb3
  have p1 : w3.cell? ⟨g, 1, none⟩ = some (.int .i64 (p : Int)) := PAt.at_ K3.out.pa
  have HH := hid (RS.Head_some (r := RS.new (l.drop p)) rfl hr.out)
  rw [HH.out]
  dsimp only
  rcases hm.out with rfl | rfl | rfl | rfl
  · go_wp2_with fail
    refine (pfail_any g l p p 2 _ K3.out.pa).mono ?_
    rintro x w9 ⟨rfl, hm9, hp9⟩
    have HB9 := hid (Blk.mod K3.out.ret hm9 (by simpa using hgB.out))
    have HM9 := hid hm9; have HP9 := hid hp9
    clear hm9 hp9
    obtain ⟨c0, c1, c2, c3, c4⟩ := cells5 HB9.out
    have f0 := Blk.frozen HB9.out 0
    have f1 := Blk.frozen HB9.out 1
    have f2 := Blk.frozen HB9.out 2
    have f3 := Blk.frozen HB9.out 3
    have f4 := Blk.frozen HB9.out 4
    go_wp2_with fail
    obtain ⟨d0, d1, d2, d3, d4⟩ := cells5 (set5_blk (t := nulT) (A := none) (c := 0) HB9.out)
    clear c0 c1 c2 c3 c4 f0 f1 f2 f3 f4 
    show bodyPost _ _ _ _ _ (set5 w9 w.heap.size nulT none 0)
    refine bodyPost_ret (v := itemV nulT none 0) (by simp [results, Try.results66, go_sem, d0, d1, d2, d3, d4]) rfl ?_
    rw [HF.out]
    exact IPost.store hg.out ((K3.out.ext).of_ext) (Blk.lt K3.out.ret) HM9.out HP9.out (fun h => by cases h)
  · go_wp2_with fail
    refine (pfail_any g l p p 2 _ K3.out.pa).mono ?_
    rintro x w9 ⟨rfl, hm9, hp9⟩
    have HB9 := hid (Blk.mod K3.out.ret hm9 (by simpa using hgB.out))
    have HM9 := hid hm9; have HP9 := hid hp9
    clear hm9 hp9
    obtain ⟨c0, c1, c2, c3, c4⟩ := cells5 HB9.out
    have f0 := Blk.frozen HB9.out 0
    have f1 := Blk.frozen HB9.out 1
    have f2 := Blk.frozen HB9.out 2
    have f3 := Blk.frozen HB9.out 3
    have f4 := Blk.frozen HB9.out 4
    go_wp2_with fail
    obtain ⟨d0, d1, d2, d3, d4⟩ := cells5 (set5_blk (t := nulT) (A := none) (c := 0) HB9.out)
    clear c0 c1 c2 c3 c4 f0 f1 f2 f3 f4 
    show bodyPost _ _ _ _ _ (set5 w9 w.heap.size nulT none 0)
    refine bodyPost_ret (v := itemV nulT none 0) (by simp [results, Try.results66, go_sem, d0, d1, d2, d3, d4]) rfl ?_
    rw [HF.out]
    exact IPost.store hg.out ((K3.out.ext).of_ext) (Blk.lt K3.out.ret) HM9.out HP9.out (fun h => by cases h)
  · go_wp2_with fail
    refine (pfail_any g l p p 2 _ K3.out.pa).mono ?_
    rintro x w9 ⟨rfl, hm9, hp9⟩
    have HB9 := hid (Blk.mod K3.out.ret hm9 (by simpa using hgB.out))
    have HM9 := hid hm9; have HP9 := hid hp9
    clear hm9 hp9
    obtain ⟨c0, c1, c2, c3, c4⟩ := cells5 HB9.out
    have f0 := Blk.frozen HB9.out 0
    have f1 := Blk.frozen HB9.out 1
    have f2 := Blk.frozen HB9.out 2
    have f3 := Blk.frozen HB9.out 3
    have f4 := Blk.frozen HB9.out 4
    go_wp2_with fail
    obtain ⟨d0, d1, d2, d3, d4⟩ := cells5 (set5_blk (t := nulT) (A := none) (c := 0) HB9.out)
    clear c0 c1 c2 c3 c4 f0 f1 f2 f3 f4 
    show bodyPost _ _ _ _ _ (set5 w9 w.heap.size nulT none 0)
    refine bodyPost_ret (v := itemV nulT none 0) (by simp [results, Try.results66, go_sem, d0, d1, d2, d3, d4]) rfl ?_
    rw [HF.out]
    exact IPost.store hg.out ((K3.out.ext).of_ext) (Blk.lt K3.out.ret) HM9.out HP9.out (fun h => by cases h)
  · go_wp2_with fail
    refine (pfail_any g l p p 2 _ K3.out.pa).mono ?_
    rintro x w9 ⟨rfl, hm9, hp9⟩
    have HB9 := hid (Blk.mod K3.out.ret hm9 (by simpa using hgB.out))
    have HM9 := hid hm9; have HP9 := hid hp9
    clear hm9 hp9
    obtain ⟨c0, c1, c2, c3, c4⟩ := cells5 HB9.out
    have f0 := Blk.frozen HB9.out 0
    have f1 := Blk.frozen HB9.out 1
    have f2 := Blk.frozen HB9.out 2
    have f3 := Blk.frozen HB9.out 3
    have f4 := Blk.frozen HB9.out 4
    go_wp2_with fail
    obtain ⟨d0, d1, d2, d3, d4⟩ := cells5 (set5_blk (t := nulT) (A := none) (c := 0) HB9.out)
    clear c0 c1 c2 c3 c4 f0 f1 f2 f3 f4 
    show bodyPost _ _ _ _ _ (set5 w9 w.heap.size nulT none 0)
    refine bodyPost_ret (v := itemV nulT none 0) (by simp [results, Try.results66, go_sem, d0, d1, d2, d3, d4]) rfl ?_
    rw [HF.out]
    exact IPost.store hg.out ((K3.out.ext).of_ext) (Blk.lt K3.out.ret) HM9.out HP9.out (fun h => by cases h)

set_option maxRecDepth 20000 in
set_option maxHeartbeats 1600000 in
theorem pitem_deep (g : Nat) (l : List UInt8) (p : Nat) (hp : Hid (p ≤ l.length ∧ l.length ≤ 1073741824)) (sz m n : Nat) (o : Bool) (hm : Hid (m = 0 ∨ m = 2 ∨ m = 3 ∨ m = 4)) (hr : Hid (readH (l.drop p) = some (sz, m, n, o))) (w : World) (h : PAt w g l p 0) :
    Calls Try.prog 66 #[.pointer (some ⟨g, 0, none⟩), .int .i64 0] w (IPost g l p (flt 0 (l.drop p)) 0 w) := by
  have HF := hid (flt_deep hr.out (by rcases hm.out with rfl | rfl | rfl | rfl <;> rfl))
  have hrk : Hid (RS.ok (RS.new (l.drop p))) := RS.new_ok (by have := hp.out; rw [List.length_drop]; omega)
  have hg : Hid (g < w.heap.size) := Blk.lt h
  have hgB : Hid (w.heap.size ≠ g) := by have := hg.out; unfold Hid; omega
  have H0 := hid (Blk.alloc h (.cells (itemC nulT none 0) 38))
  clear h
  go_enter Try.func66, Try.ntmps66
  go_wp2_with fail
  refine (preader_any g l p 0 hp _ H0.out).mono ?_
  rintro x w1 ⟨rfl, hb1, hr1⟩
  have P1 := hid (H0.out.ext hb1)
  have B1 := hid ((Blk.new w 38 (itemC nulT none 0)).ext hb1)
  have HE1 := hid (((Mod.refl [] w).alloc (.cells (itemC nulT none 0) 38)).trans hb1)
  have hR1 : RdAt w1 (w.heap.size + 1) (RS.new (l.drop p)) := by simpa using hr1
  have HR1 := hid hR1
  clear hr1 hR1 hb1 H0
  go_wp2_with fail
  refine (Head_any_r _ _ hrk.out _ HR1.out).mono ?_
  rintro x w2 ⟨rfl, hm2, hr2⟩
  have K2 : Hid (IH1 w g l p w2 (w.heap.size + 1)) := ⟨Mod.new (S := [w.heap.size + 1]) (HE1.out.of_ext.trans hm2) (fun k hk => by rw [List.mem_singleton] at hk; subst hk; exact .inr (by omega)), Blk.mod P1.out hm2 (by have := hg.out; simp; omega), B1.out.mod hm2 (by simp), hr2, by omega⟩
  clear P1 B1 HE1 HR1 hm2 hr2
  go_wp2_with fail
  refine (Bad_any _ _ _ K2.out.rd).mono ?_
  rintro x w3 ⟨rfl, hb3⟩
  have K3 : Hid (IH1 w g l p w3 (w.heap.size + 1)) := ⟨K2.out.ext.trans hb3, K2.out.pa.ext hb3, K2.out.ret.ext hb3, Blk.ext K2.out.rd hb3, by omega⟩
  clear K2 hb3
  have p1 : w3.cell? ⟨g, 1, none⟩ = some (.int .i64 (p : Int)) := PAt.at_ K3.out.pa
  have HH := hid (RS.Head_some (r := RS.new (l.drop p)) rfl hr.out)
  rw [HH.out]
  dsimp only
  rcases hm.out with rfl | rfl | rfl | rfl
  · go_wp2_with fail
    refine (pfail_any g l p p 3 _ K3.out.pa).mono ?_
    rintro x w9 ⟨rfl, hm9, hp9⟩
    have HB9 := hid (Blk.mod K3.out.ret hm9 (by simpa using hgB.out))
    have HM9 := hid hm9; have HP9 := hid hp9
    clear hm9 hp9
    obtain ⟨c0, c1, c2, c3, c4⟩ := cells5 HB9.out
    have f0 := Blk.frozen HB9.out 0
    have f1 := Blk.frozen HB9.out 1
    have f2 := Blk.frozen HB9.out 2
    have f3 := Blk.frozen HB9.out 3
    have f4 := Blk.frozen HB9.out 4
    go_wp2_with fail
    obtain ⟨d0, d1, d2, d3, d4⟩ := cells5 (set5_blk (t := nulT) (A := none) (c := 0) HB9.out)
    clear c0 c1 c2 c3 c4 f0 f1 f2 f3 f4 
    show bodyPost _ _ _ _ _ (set5 w9 w.heap.size nulT none 0)
    refine bodyPost_ret (v := itemV nulT none 0) (by simp [results, Try.results66, go_sem, d0, d1, d2, d3, d4]) rfl ?_
    rw [HF.out]
    exact IPost.store hg.out ((K3.out.ext).of_ext) (Blk.lt K3.out.ret) HM9.out HP9.out (fun h => by cases h)
  · go_wp2_with fail
    refine (pfail_any g l p p 3 _ K3.out.pa).mono ?_
    rintro x w9 ⟨rfl, hm9, hp9⟩
    have HB9 := hid (Blk.mod K3.out.ret hm9 (by simpa using hgB.out))
    have HM9 := hid hm9; have HP9 := hid hp9
    clear hm9 hp9
    obtain ⟨c0, c1, c2, c3, c4⟩ := cells5 HB9.out
    have f0 := Blk.frozen HB9.out 0
    have f1 := Blk.frozen HB9.out 1
    have f2 := Blk.frozen HB9.out 2
    have f3 := Blk.frozen HB9.out 3
    have f4 := Blk.frozen HB9.out 4
    go_wp2_with fail
    obtain ⟨d0, d1, d2, d3, d4⟩ := cells5 (set5_blk (t := nulT) (A := none) (c := 0) HB9.out)
    clear c0 c1 c2 c3 c4 f0 f1 f2 f3 f4 
    show bodyPost _ _ _ _ _ (set5 w9 w.heap.size nulT none 0)
    refine bodyPost_ret (v := itemV nulT none 0) (by simp [results, Try.results66, go_sem, d0, d1, d2, d3, d4]) rfl ?_
    rw [HF.out]
    exact IPost.store hg.out ((K3.out.ext).of_ext) (Blk.lt K3.out.ret) HM9.out HP9.out (fun h => by cases h)
  · go_wp2_with fail
    refine (pfail_any g l p p 3 _ K3.out.pa).mono ?_
    rintro x w9 ⟨rfl, hm9, hp9⟩
    have HB9 := hid (Blk.mod K3.out.ret hm9 (by simpa using hgB.out))
    have HM9 := hid hm9; have HP9 := hid hp9
    clear hm9 hp9
    obtain ⟨c0, c1, c2, c3, c4⟩ := cells5 HB9.out
    have f0 := Blk.frozen HB9.out 0
    have f1 := Blk.frozen HB9.out 1
    have f2 := Blk.frozen HB9.out 2
    have f3 := Blk.frozen HB9.out 3
    have f4 := Blk.frozen HB9.out 4
    go_wp2_with fail
    obtain ⟨d0, d1, d2, d3, d4⟩ := cells5 (set5_blk (t := nulT) (A := none) (c := 0) HB9.out)
    clear c0 c1 c2 c3 c4 f0 f1 f2 f3 f4 
    show bodyPost _ _ _ _ _ (set5 w9 w.heap.size nulT none 0)
    refine bodyPost_ret (v := itemV nulT none 0) (by simp [results, Try.results66, go_sem, d0, d1, d2, d3, d4]) rfl ?_
    rw [HF.out]
    exact IPost.store hg.out ((K3.out.ext).of_ext) (Blk.lt K3.out.ret) HM9.out HP9.out (fun h => by cases h)
  · go_wp2_with fail
    refine (pfail_any g l p p 3 _ K3.out.pa).mono ?_
    rintro x w9 ⟨rfl, hm9, hp9⟩
    have HB9 := hid (Blk.mod K3.out.ret hm9 (by simpa using hgB.out))
    have HM9 := hid hm9; have HP9 := hid hp9
    clear hm9 hp9
    obtain ⟨c0, c1, c2, c3, c4⟩ := cells5 HB9.out
    have f0 := Blk.frozen HB9.out 0
    have f1 := Blk.frozen HB9.out 1
    have f2 := Blk.frozen HB9.out 2
    have f3 := Blk.frozen HB9.out 3
    have f4 := Blk.frozen HB9.out 4
    go_wp2_with fail
    obtain ⟨d0, d1, d2, d3, d4⟩ := cells5 (set5_blk (t := nulT) (A := none) (c := 0) HB9.out)
    clear c0 c1 c2 c3 c4 f0 f1 f2 f3 f4 
    show bodyPost _ _ _ _ _ (set5 w9 w.heap.size nulT none 0)
    refine bodyPost_ret (v := itemV nulT none 0) (by simp [results, Try.results66, go_sem, d0, d1, d2, d3, d4]) rfl ?_
    rw [HF.out]
    exact IPost.store hg.out ((K3.out.ext).of_ext) (Blk.lt K3.out.ret) HM9.out HP9.out (fun h => by cases h)

set_option maxRecDepth 20000 in
set_option maxHeartbeats 1600000 in
theorem pitem_str (g : Nat) (l : List UInt8) (p : Nat) (hp : Hid (p ≤ l.length ∧ l.length ≤ 1073741824)) (d sz m n : Nat) (o : Bool) (hm : Hid (m = 2 ∨ m = 3)) (hr : Hid (readH (l.drop p) = some (sz, m, n, o))) (w : World) (h : PAt w g l p 0) :
    Calls Try.prog 66 #[.pointer (some ⟨g, 0, none⟩), .int .i64 ((d : Int) + 1)] w (IPost g l p (flt (d + 1) (l.drop p)) (d + 1) w) := by
  have HF := hid (flt_str (d := d) hr.out hm.out)
  have hrk : Hid (RS.ok (RS.new (l.drop p))) := RS.new_ok (by have := hp.out; rw [List.length_drop]; omega)
  have hg : Hid (g < w.heap.size) := Blk.lt h
  have hgB : Hid (w.heap.size ≠ g) := by have := hg.out; unfold Hid; omega
  have H0 := hid (Blk.alloc h (.cells (itemC nulT none 0) 38))
  clear h
  go_enter Try.func66, Try.ntmps66
  go_wp2_with fail
  refine (preader_any g l p 0 hp _ H0.out).mono ?_
  rintro x w1 ⟨rfl, hb1, hr1⟩
  have P1 := hid (H0.out.ext hb1)
  have B1 := hid ((Blk.new w 38 (itemC nulT none 0)).ext hb1)
  have HE1 := hid (((Mod.refl [] w).alloc (.cells (itemC nulT none 0) 38)).trans hb1)
  have hR1 : RdAt w1 (w.heap.size + 1) (RS.new (l.drop p)) := by simpa using hr1
  have HR1 := hid hR1
  clear hr1 hR1 hb1 H0
  go_wp2_with fail
  refine (Head_any_r _ _ hrk.out _ HR1.out).mono ?_
  rintro x w2 ⟨rfl, hm2, hr2⟩
  have K2 : Hid (IH1 w g l p w2 (w.heap.size + 1)) := ⟨Mod.new (S := [w.heap.size + 1]) (HE1.out.of_ext.trans hm2) (fun k hk => by rw [List.mem_singleton] at hk; subst hk; exact .inr (by omega)), Blk.mod P1.out hm2 (by have := hg.out; simp; omega), B1.out.mod hm2 (by simp), hr2, by omega⟩
  clear P1 B1 HE1 HR1 hm2 hr2
  go_wp2_with fail
  refine (Bad_any _ _ _ K2.out.rd).mono ?_
  rintro x w3 ⟨rfl, hb3⟩
  have K3 : Hid (IH1 w g l p w3 (w.heap.size + 1)) := ⟨K2.out.ext.trans hb3, K2.out.pa.ext hb3, K2.out.ret.ext hb3, Blk.ext K2.out.rd hb3, by omega⟩
  clear K2 hb3
  have p1 : w3.cell? ⟨g, 1, none⟩ = some (.int .i64 (p : Int)) := PAt.at_ K3.out.pa
  have HH := hid (RS.Head_some (r := RS.new (l.drop p)) rfl hr.out)
  rw [HH.out]
  dsimp only
  have td : decide ((d : Int) + 1 < 1) = false := by simp; omega
  have td2 : ((d : Int) + 1 < 1) = False := by simp; omega
  rcases hm.out with rfl | rfl
  · go_wp2_with fail
    refine (pstr_any 2 (by first | exact .inl rfl | exact .inr rfl) g l p hp d sz n o hr _ K3.out.pa).mono ?_
    rintro x w9 ⟨t, A, c, rfl, hm9, hp9, hs9⟩
    have HB9 := hid (Blk.mod K3.out.ret hm9 (by simpa using hgB.out))
    have HM9 := hid hm9; have HP9 := hid hp9; have HS9 := hid hs9
    clear hm9 hp9 hs9
    obtain ⟨c0, c1, c2, c3, c4⟩ := cells5 HB9.out
    have f0 := Blk.frozen HB9.out 0
    have f1 := Blk.frozen HB9.out 1
    have f2 := Blk.frozen HB9.out 2
    have f3 := Blk.frozen HB9.out 3
    have f4 := Blk.frozen HB9.out 4
    go_wp2_with fail
    obtain ⟨d0, d1, d2, d3, d4⟩ := cells5 (set5_blk (t := t) (A := A) (c := c) HB9.out)
    clear c0 c1 c2 c3 c4 f0 f1 f2 f3 f4 
    show bodyPost _ _ _ _ _ (set5 w9 w.heap.size t A c)
    refine bodyPost_ret (v := itemV t A c) (by simp [results, Try.results66, go_sem, d0, d1, d2, d3, d4]) rfl ?_
    rw [HF.out]
    exact IPost.store hg.out (K3.out.ext.of_ext) (Blk.lt K3.out.ret) HM9.out HP9.out HS9.out
  · go_wp2_with fail
    refine (pstr_any 3 (by first | exact .inl rfl | exact .inr rfl) g l p hp d sz n o hr _ K3.out.pa).mono ?_
    rintro x w9 ⟨t, A, c, rfl, hm9, hp9, hs9⟩
    have HB9 := hid (Blk.mod K3.out.ret hm9 (by simpa using hgB.out))
    have HM9 := hid hm9; have HP9 := hid hp9; have HS9 := hid hs9
    clear hm9 hp9 hs9
    obtain ⟨c0, c1, c2, c3, c4⟩ := cells5 HB9.out
    have f0 := Blk.frozen HB9.out 0
    have f1 := Blk.frozen HB9.out 1
    have f2 := Blk.frozen HB9.out 2
    have f3 := Blk.frozen HB9.out 3
    have f4 := Blk.frozen HB9.out 4
    go_wp2_with fail
    obtain ⟨d0, d1, d2, d3, d4⟩ := cells5 (set5_blk (t := t) (A := A) (c := c) HB9.out)
    clear c0 c1 c2 c3 c4 f0 f1 f2 f3 f4 
    show bodyPost _ _ _ _ _ (set5 w9 w.heap.size t A c)
    refine bodyPost_ret (v := itemV t A c) (by simp [results, Try.results66, go_sem, d0, d1, d2, d3, d4]) rfl ?_
    rw [HF.out]
    exact IPost.store hg.out (K3.out.ext.of_ext) (Blk.lt K3.out.ret) HM9.out HP9.out HS9.out

theorem newhead {L : List UInt8} {sz m n : Nat} {o : Bool} (h : readH L = some (sz, m, n, o)) : (RS.new L).Head = (⟨L, sz, -1, 0, 0⟩, m, n, o) := by
  rw [RS.Head_some (r := RS.new L) rfl h]; simp [RS.new]
theorem numT_good {l : List UInt8} {p sz n d : Nat} {o : Bool} (h : readH (l.drop p) = some (sz, 0, n, o)) : ((numT n).right (d + 1) = true ∧ (numT n).ok) ∧ (numT n).bytes ++ l.drop (p + sz) = l.drop p := by
  have hs := readH_some h
  have ho : o = false := by
    cases o with
    | false => rfl
    | true => have := (hs.opened rfl).2.2.1; revert this; decide
  subst ho
  refine ⟨⟨?_, ?_⟩, ?_⟩
  · unfold numT T.right T.node; simp [T.all]
  · unfold numT T.ok; exact ⟨by omega, hs.n64, by simp, by omega, fun i hi => by omega⟩
  · have e : (numT n).bytes = headL 0 n := rfl
    rw [e, ← (hs.closed rfl).1, ← List.drop_drop, List.take_append_drop]

set_option maxRecDepth 20000 in
set_option maxHeartbeats 1600000 in
theorem pitem_num (g : Nat) (l : List UInt8) (p : Nat) (hp : Hid (p ≤ l.length ∧ l.length ≤ 1073741824)) (d sz n : Nat) (o : Bool) (hr : Hid (readH (l.drop p) = some (sz, 0, n, o))) (w : World) (h : PAt w g l p 0) :
    Calls Try.prog 66 #[.pointer (some ⟨g, 0, none⟩), .int .i64 ((d : Int) + 1)] w (IPost g l p (flt (d + 1) (l.drop p)) (d + 1) w) := by
  have HF := hid (flt_num (d := d) hr.out)
  have hsz : Hid (sz ≤ 1073741824) := by have h1 := (readH_some hr.out).le; have h2 := hp.out; rw [List.length_drop] at h1; unfold Hid; omega
  have hrk : Hid (RS.ok (RS.new (l.drop p))) := RS.new_ok (by have := hp.out; rw [List.length_drop]; omega)
  have hg : Hid (g < w.heap.size) := Blk.lt h
  have hgB : Hid (w.heap.size ≠ g) := by have := hg.out; unfold Hid; omega
  have H0 := hid (Blk.alloc h (.cells (itemC nulT none 0) 38))
  clear h
  go_enter Try.func66, Try.ntmps66
  go_wp2_with fail
  refine (preader_any g l p 0 hp _ H0.out).mono ?_
  rintro x w1 ⟨rfl, hb1, hr1⟩
  have P1 := hid (H0.out.ext hb1)
  have B1 := hid ((Blk.new w 38 (itemC nulT none 0)).ext hb1)
  have HE1 := hid (((Mod.refl [] w).alloc (.cells (itemC nulT none 0) 38)).trans hb1)
  have hR1 : RdAt w1 (w.heap.size + 1) (RS.new (l.drop p)) := by simpa using hr1
  have HR1 := hid hR1
  clear hr1 hR1 hb1 H0
  go_wp2_with fail
  refine (Head_any_r _ _ hrk.out _ HR1.out).mono ?_
  rintro x w2 ⟨rfl, hm2, hr2⟩
  have K2 : Hid (IH1 w g l p w2 (w.heap.size + 1)) := ⟨Mod.new (S := [w.heap.size + 1]) (HE1.out.of_ext.trans hm2) (fun k hk => by rw [List.mem_singleton] at hk; subst hk; exact .inr (by omega)), Blk.mod P1.out hm2 (by have := hg.out; simp; omega), B1.out.mod hm2 (by simp), hr2, by omega⟩
  clear P1 B1 HE1 HR1 hm2 hr2
  go_wp2_with fail
  refine (Bad_any _ _ _ K2.out.rd).mono ?_
  rintro x w3 ⟨rfl, hb3⟩
  have K3 : Hid (IH1 w g l p w3 (w.heap.size + 1)) := ⟨K2.out.ext.trans hb3, K2.out.pa.ext hb3, K2.out.ret.ext hb3, Blk.ext K2.out.rd hb3, by omega⟩
  clear K2 hb3
  have p1 : w3.cell? ⟨g, 1, none⟩ = some (.int .i64 (p : Int)) := PAt.at_ K3.out.pa
  have HH := hid (newhead hr.out)
  have HR3 : Hid (RdAt w3 (w.heap.size + 1) ⟨l.drop p, sz, -1, 0, 0⟩) := by have := K3.out.rd; rw [HH.out] at this; exact this
  rw [HH.out]
  dsimp only
  clear p1
  have td : decide ((d : Int) + 1 < 1) = false := by simp; omega
  have td2 : ((d : Int) + 1 < 1) = False := by simp; omega
  have q1 : w3.cell? ⟨g, 1, none⟩ = some (.int .i64 (p : Int)) := PAt.at_ K3.out.pa
  have z1 : w3.frozen? ⟨g, 1, none⟩ = false := PAt.froz K3.out.pa 1
  have tw : IntKind.i64.wrap ((p : Int) + (sz : Int)) = (p : Int) + (sz : Int) := IntWalk.i64_in _ (by have := hp.out; have := hsz.out; omega)
  have HP9 : Hid (Mod [g] w3 (w3.setCell ⟨g, 1, none⟩ (.int .i64 ((p : Int) + (sz : Int)))) ∧ PAt (w3.setCell ⟨g, 1, none⟩ (.int .i64 ((p : Int) + (sz : Int)))) g l (p + sz) 0 ∧ Blk (w3.setCell ⟨g, 1, none⟩ (.int .i64 ((p : Int) + (sz : Int)))) w.heap.size 38 (itemC nulT none 0)) := by
    refine ⟨(Mod.refl _ _).setCell (.inl (by simp)) _, ?_, Blk.far K3.out.ret (by simpa using hgB.out) _⟩
    have := Blk.set_ K3.out.pa 1 (.int .i64 ((p + sz : Nat) : Int))
    simpa [PAt] using this
  go_upto_region 11 with fail
  go_cut [] (fun wx => Hid (Mod [g] w3 wx ∧ PAt wx g l (p + sz) 0 ∧ Blk wx w.heap.size 38 (itemC nulT none 0)))
  case first =>
    go_region_with ((go_at_call 101; refine (At_any (w.heap.size + 1) ⟨l.drop p, sz, -1, 0, 0⟩ _ ?_).mono ?_; (first | exact HR3.out | exact Blk.drew HR3.out | exact Blk.drew (Blk.drew HR3.out)); rintro x w' ⟨rfl, rfl⟩))
    all_goals go_wp2_with fail
    all_goals go_meet
    all_goals exact ⟨by first | exact HP9.out.1 | exact HP9.out.1.drew, HP9.out.2⟩
  clear q1 z1 tw HP9
  have hc2 := hid hcut.out
  clear hcut
  go_wp2_with fail
  refine (Num_any n _).mono ?_
  rintro x w9 ⟨rfl, hb9⟩
  have HB9 := hid (hc2.out.2.2.ext hb9)
  have HM9 := hid (hc2.out.1.trans hb9.of_ext)
  have HP9 := hid (Blk.ext hc2.out.2.1 hb9)
  clear hb9
  have HG := hid (numT_good (d := d) hr.out)
  have HLs : Hid (∀ W Q, IsC W Q (numT n) none 0) := fun W Q => IsC.leaf
  generalize numT n = t at *
  obtain ⟨c0, c1, c2, c3, c4⟩ := cells5 HB9.out
  have f0 := Blk.frozen HB9.out 0
  have f1 := Blk.frozen HB9.out 1
  have f2 := Blk.frozen HB9.out 2
  have f3 := Blk.frozen HB9.out 3
  have f4 := Blk.frozen HB9.out 4
  go_wp2_with fail
  obtain ⟨d0, d1, d2, d3, d4⟩ := cells5 (set5_blk (t := t) (A := none) (c := 0) HB9.out)
  clear c0 c1 c2 c3 c4 f0 f1 f2 f3 f4 
  show bodyPost _ _ _ _ _ (set5 w9 w.heap.size t none 0)
  refine bodyPost_ret (v := itemV t none 0) (by simp [results, Try.results66, go_sem, d0, d1, d2, d3, d4]) rfl ?_
  rw [HF.out]
  exact IPost.store hg.out (K3.out.ext.of_ext) (Blk.lt K3.out.ret) HM9.out HP9.out (fun _ => ⟨HG.out.1, HG.out.2, HLs.out _ _⟩)

set_option maxRecDepth 20000 in
set_option maxHeartbeats 1600000 in
theorem pitem_long (g : Nat) (l : List UInt8) (p : Nat) (hp : Hid (p ≤ l.length ∧ l.length ≤ 1073741824)) (d sz n : Nat) (hn : Hid (1000 < n)) (hr : Hid (readH (l.drop p) = some (sz, 4, n, false))) (w : World) (h : PAt w g l p 0) :
    Calls Try.prog 66 #[.pointer (some ⟨g, 0, none⟩), .int .i64 ((d : Int) + 1)] w (IPost g l p (flt (d + 1) (l.drop p)) (d + 1) w) := by
  have HF := hid (flt_long (d := d) hr.out hn.out)
  have hrk : Hid (RS.ok (RS.new (l.drop p))) := RS.new_ok (by have := hp.out; rw [List.length_drop]; omega)
  have hg : Hid (g < w.heap.size) := Blk.lt h
  have hgB : Hid (w.heap.size ≠ g) := by have := hg.out; unfold Hid; omega
  have H0 := hid (Blk.alloc h (.cells (itemC nulT none 0) 38))
  clear h
  go_enter Try.func66, Try.ntmps66
  go_wp2_with fail
  refine (preader_any g l p 0 hp _ H0.out).mono ?_
  rintro x w1 ⟨rfl, hb1, hr1⟩
  have P1 := hid (H0.out.ext hb1)
  have B1 := hid ((Blk.new w 38 (itemC nulT none 0)).ext hb1)
  have HE1 := hid (((Mod.refl [] w).alloc (.cells (itemC nulT none 0) 38)).trans hb1)
  have hR1 : RdAt w1 (w.heap.size + 1) (RS.new (l.drop p)) := by simpa using hr1
  have HR1 := hid hR1
  clear hr1 hR1 hb1 H0
  go_wp2_with fail
  refine (Head_any_r _ _ hrk.out _ HR1.out).mono ?_
  rintro x w2 ⟨rfl, hm2, hr2⟩
  have K2 : Hid (IH1 w g l p w2 (w.heap.size + 1)) := ⟨Mod.new (S := [w.heap.size + 1]) (HE1.out.of_ext.trans hm2) (fun k hk => by rw [List.mem_singleton] at hk; subst hk; exact .inr (by omega)), Blk.mod P1.out hm2 (by have := hg.out; simp; omega), B1.out.mod hm2 (by simp), hr2, by omega⟩
  clear P1 B1 HE1 HR1 hm2 hr2
  go_wp2_with fail
  refine (Bad_any _ _ _ K2.out.rd).mono ?_
  rintro x w3 ⟨rfl, hb3⟩
  have K3 : Hid (IH1 w g l p w3 (w.heap.size + 1)) := ⟨K2.out.ext.trans hb3, K2.out.pa.ext hb3, K2.out.ret.ext hb3, Blk.ext K2.out.rd hb3, by omega⟩
  clear K2 hb3
  have p1 : w3.cell? ⟨g, 1, none⟩ = some (.int .i64 (p : Int)) := PAt.at_ K3.out.pa
  have HH := hid (newhead hr.out)
  rw [HH.out]
  dsimp only
  have td : decide ((d : Int) + 1 < 1) = false := by simp; omega
  have td2 : ((d : Int) + 1 < 1) = False := by simp; omega
  go_wp2_with fail
  refine (preader_any g l p 0 hp _ K3.out.pa).mono ?_
  rintro x w4 ⟨rfl, hb4, hr4⟩
  have P4 := hid (Blk.ext K3.out.pa hb4)
  have B4 := hid (K3.out.ret.ext hb4)
  have HR4 := hid hr4
  have HS4 := hid (Blk.lt K3.out.ret)
  have HS5 : Hid (w3.heap.size ≠ g ∧ w3.heap.size ≠ w.heap.size) := by have h1 := hg.out; have h2 := HS4.out; unfold Hid; omega
  have HE4 := hid (K3.out.ext.trans hb4)
  clear hb4 hr4 p1
  go_wp2_with fail
  refine (Array_any _ _ hrk.out _ HR4.out).mono ?_
  rintro x w5 ⟨rfl, hm5, hr5⟩
  have HA := hid (newarr_long hr.out hn.out)
  have P5 := hid (Blk.mod P4.out hm5 (by simpa using fun e => HS5.out.1 e.symm))
  have B5 := hid (B4.out.mod hm5 (by simpa using fun e => HS5.out.2 e.symm))
  have M5 : Hid (Ext w w5) := Mod.new (S := [w3.heap.size]) (HE4.out.of_ext.trans hm5) (fun k hk => by rw [List.mem_singleton] at hk; subst hk; exact .inr K3.out.ext.size)
  have HR5 := hid hr5
  clear hm5 hr5
  go_wp2_with fail
  refine (Bad_any _ _ _ HR5.out).mono ?_
  rintro x w6 ⟨rfl, hb6⟩
  rw [HA.out]
  have P6 := hid (Blk.ext P5.out hb6)
  have B6 := hid (B5.out.ext hb6)
  have M6 := hid (M5.out.trans hb6)
  have p1 : w6.cell? ⟨g, 1, none⟩ = some (.int .i64 (p : Int)) := PAt.at_ P6.out
  clear hb6
  go_wp2_with fail
  refine (pfail_any g l p p 4 _ P6.out).mono ?_
  rintro x w9 ⟨rfl, hm9, hp9⟩
  have HB9 := hid (Blk.mod B6.out hm9 (by simpa using hgB.out))
  have HM9 := hid hm9; have HP9 := hid hp9
  clear hm9 hp9
  obtain ⟨c0, c1, c2, c3, c4⟩ := cells5 HB9.out
  have f0 := Blk.frozen HB9.out 0
  have f1 := Blk.frozen HB9.out 1
  have f2 := Blk.frozen HB9.out 2
  have f3 := Blk.frozen HB9.out 3
  have f4 := Blk.frozen HB9.out 4
  go_wp2_with fail
  obtain ⟨d0, d1, d2, d3, d4⟩ := cells5 (set5_blk (t := nulT) (A := none) (c := 0) HB9.out)
  clear c0 c1 c2 c3 c4 f0 f1 f2 f3 f4 
  show bodyPost _ _ _ _ _ (set5 w9 w.heap.size nulT none 0)
  refine bodyPost_ret (v := itemV nulT none 0) (by simp [results, Try.results66, go_sem, d0, d1, d2, d3, d4]) rfl ?_
  rw [HF.out]
  exact IPost.store hg.out ((M6.out).of_ext) (Blk.lt B6.out) HM9.out HP9.out (fun h => by cases h)

set_option maxRecDepth 20000 in
set_option maxHeartbeats 1600000 in
theorem pitem_arr_false (g : Nat) (l : List UInt8) (p : Nat) (hp : Hid (p ≤ l.length ∧ l.length ≤ 1073741824)) (d sz n : Nat) (hd : Hid (d ≤ 8)) (IH : Hid (∀ (p : Nat), p ≤ l.length → ∀ w, PAt w g l p 0 → Calls Try.prog 66 #[.pointer (some ⟨g, 0, none⟩), .int .i64 (d : Int)] w (IPost g l p (flt d (l.drop p)) d w))) (hn : Hid (¬ (false = false ∧ 1000 < n))) (hr : Hid (readH (l.drop p) = some (sz, 4, n, false))) (w : World) (h : PAt w g l p 0) :
    Calls Try.prog 66 #[.pointer (some ⟨g, 0, none⟩), .int .i64 ((d : Int) + 1)] w (IPost g l p (flt (d + 1) (l.drop p)) (d + 1) w) := by
  have HF := hid (flt_arr (d := d) hr.out hn.out)
  have HA := hid (newarr_ok hr.out hn.out)
  have HNN : Hid (false = false → n ≤ 1000) := by have := hn.out; unfold Hid; simp at this ⊢; try omega
  have hsz : Hid (sz ≤ 1073741824) := by have h1 := (readH_some hr.out).le; have h2 := hp.out; rw [List.length_drop] at h1; unfold Hid; omega
  have hrk : Hid (RS.ok (RS.new (l.drop p))) := RS.new_ok (by have := hp.out; rw [List.length_drop]; omega)
  have hg : Hid (g < w.heap.size) := Blk.lt h
  have hgB : Hid (w.heap.size ≠ g) := by have := hg.out; unfold Hid; omega
  have H0 := hid (Blk.alloc h (.cells (itemC nulT none 0) 38))
  clear h
  go_enter Try.func66, Try.ntmps66
  go_wp2_with fail
  refine (preader_any g l p 0 hp _ H0.out).mono ?_
  rintro x w1 ⟨rfl, hb1, hr1⟩
  have P1 := hid (H0.out.ext hb1)
  have B1 := hid ((Blk.new w 38 (itemC nulT none 0)).ext hb1)
  have HE1 := hid (((Mod.refl [] w).alloc (.cells (itemC nulT none 0) 38)).trans hb1)
  have hR1 : RdAt w1 (w.heap.size + 1) (RS.new (l.drop p)) := by simpa using hr1
  have HR1 := hid hR1
  clear hr1 hR1 hb1 H0
  go_wp2_with fail
  refine (Head_any_r _ _ hrk.out _ HR1.out).mono ?_
  rintro x w2 ⟨rfl, hm2, hr2⟩
  have K2 : Hid (IH1 w g l p w2 (w.heap.size + 1)) := ⟨Mod.new (S := [w.heap.size + 1]) (HE1.out.of_ext.trans hm2) (fun k hk => by rw [List.mem_singleton] at hk; subst hk; exact .inr (by omega)), Blk.mod P1.out hm2 (by have := hg.out; simp; omega), B1.out.mod hm2 (by simp), hr2, by omega⟩
  clear P1 B1 HE1 HR1 hm2 hr2
  go_wp2_with fail
  refine (Bad_any _ _ _ K2.out.rd).mono ?_
  rintro x w3 ⟨rfl, hb3⟩
  have K3 : Hid (IH1 w g l p w3 (w.heap.size + 1)) := ⟨K2.out.ext.trans hb3, K2.out.pa.ext hb3, K2.out.ret.ext hb3, Blk.ext K2.out.rd hb3, by omega⟩
  clear K2 hb3
  have p1 : w3.cell? ⟨g, 1, none⟩ = some (.int .i64 (p : Int)) := PAt.at_ K3.out.pa
  have HH := hid (newhead hr.out)
  rw [HH.out]
  dsimp only
  have td : decide ((d : Int) + 1 < 1) = false := by simp; omega
  have td2 : ((d : Int) + 1 < 1) = False := by simp; omega
  go_wp2_with fail
  refine (preader_any g l p 0 hp _ K3.out.pa).mono ?_
  rintro x w4 ⟨rfl, hb4, hr4⟩
  have P4 := hid (Blk.ext K3.out.pa hb4)
  have B4 := hid (K3.out.ret.ext hb4)
  have HR4 := hid hr4
  have HS4 := hid (Blk.lt K3.out.ret)
  have HS5 : Hid (w3.heap.size ≠ g ∧ w3.heap.size ≠ w.heap.size) := by have h1 := hg.out; have h2 := HS4.out; unfold Hid; omega
  have HE4 := hid (K3.out.ext.trans hb4)
  clear hb4 hr4 p1
  go_wp2_with fail
  refine (Array_any _ _ hrk.out _ HR4.out).mono ?_
  rintro x w5 ⟨rfl, hm5, hr5⟩
  rw [HA.out] at hr5 ⊢
  simp only [Bool.false_eq_true, if_false]
  have P5 := hid (Blk.mod P4.out hm5 (by simpa using fun e => HS5.out.1 e.symm))
  have B5 := hid (B4.out.mod hm5 (by simpa using fun e => HS5.out.2 e.symm))
  have M5 : Hid (Ext w w5) := Mod.new (S := [w3.heap.size]) (HE4.out.of_ext.trans hm5) (fun k hk => by rw [List.mem_singleton] at hk; subst hk; exact .inr K3.out.ext.size)
  have HR5 := hid hr5
  clear hm5 hr5
  go_wp2_with fail
  refine (Bad_any _ _ _ HR5.out).mono ?_
  rintro x w6 ⟨rfl, hb6⟩
  have P6 := hid (Blk.ext P5.out hb6)
  have B6 := hid (B5.out.ext hb6)
  have M6 := hid (M5.out.trans hb6)
  have HR6 : Hid (RdAt w6 w3.heap.size ⟨l.drop p, sz, -1, 0, 0⟩) := Blk.ext HR5.out hb6
  clear hb6
  have q1 : w6.cell? ⟨g, 1, none⟩ = some (.int .i64 (p : Int)) := PAt.at_ P6.out
  have z1 : w6.frozen? ⟨g, 1, none⟩ = false := PAt.froz P6.out 1
  have tw : IntKind.i64.wrap ((p : Int) + (sz : Int)) = (p : Int) + (sz : Int) := IntWalk.i64_in _ (by have := hp.out; have := hsz.out; omega)
  have HP9 : Hid (Mod [g] w6 (w6.setCell ⟨g, 1, none⟩ (.int .i64 ((p : Int) + (sz : Int)))) ∧ PAt (w6.setCell ⟨g, 1, none⟩ (.int .i64 ((p : Int) + (sz : Int)))) g l (p + sz) 0 ∧ Blk (w6.setCell ⟨g, 1, none⟩ (.int .i64 ((p : Int) + (sz : Int)))) w.heap.size 38 (itemC nulT none 0)) := by
    refine ⟨(Mod.refl _ _).setCell (.inl (by simp)) _, ?_, Blk.far B6.out (by simpa using hgB.out) _⟩
    have := Blk.set_ P6.out 1 (.int .i64 ((p + sz : Nat) : Int))
    simpa [PAt] using this
  go_upto_region 20 with fail
  go_cut [] (fun wx => Hid (Mod [g] w6 wx ∧ PAt wx g l (p + sz) 0 ∧ Blk wx w.heap.size 38 (itemC nulT none 0)))
  case first =>
    go_region_with ((go_at_call 101; refine (At_any w3.heap.size ⟨l.drop p, sz, -1, 0, 0⟩ _ ?_).mono ?_; (first | exact HR6.out | exact Blk.drew HR6.out | exact Blk.drew (Blk.drew HR6.out)); rintro x w' ⟨rfl, rfl⟩))
    all_goals go_wp2_with fail
    all_goals go_meet
    all_goals exact ⟨by first | exact HP9.out.1 | exact HP9.out.1.drew, HP9.out.2⟩
  clear q1 z1 tw HP9
  have hc2 := hid hcut.out
  clear hcut
  go_wp2_with fail
  refine (plist_any d hd g l (show Hid _ from hp.out.2) IH p sz n false (n : Int) (by unfold Hid; simp) hr (by unfold Hid; first | exact HNN.out | (have := HNN.out; simpa using this) | simp) (by have h1 := (readH_some hr.out).le; have h2 := hp.out; rw [List.length_drop] at h1; unfold Hid; omega) _ hc2.out.2.1).mono ?_
  rintro x w9 ⟨t, A, c, rfl, hm9, hp9, hs9⟩
  have HB9 := hid (Blk.mod hc2.out.2.2 hm9 (by simpa using hgB.out))
  have HM9 := hid hm9; have HP9 := hid hp9; have HS9 := hid hs9
  clear hm9 hp9 hs9
  obtain ⟨c0, c1, c2, c3, c4⟩ := cells5 HB9.out
  have f0 := Blk.frozen HB9.out 0
  have f1 := Blk.frozen HB9.out 1
  have f2 := Blk.frozen HB9.out 2
  have f3 := Blk.frozen HB9.out 3
  have f4 := Blk.frozen HB9.out 4
  go_wp2_with fail
  obtain ⟨d0, d1, d2, d3, d4⟩ := cells5 (set5_blk (t := t) (A := A) (c := c) HB9.out)
  clear c0 c1 c2 c3 c4 f0 f1 f2 f3 f4 
  show bodyPost _ _ _ _ _ (set5 w9 w.heap.size t A c)
  refine bodyPost_ret (v := itemV t A c) (by simp [results, Try.results66, go_sem, d0, d1, d2, d3, d4]) rfl ?_
  rw [HF.out]
  exact IPost.store hg.out (M6.out.of_ext.trans hc2.out.1) (Blk.lt hc2.out.2.2) HM9.out HP9.out HS9.out

set_option maxRecDepth 20000 in
set_option maxHeartbeats 1600000 in
theorem pitem_arr_true (g : Nat) (l : List UInt8) (p : Nat) (hp : Hid (p ≤ l.length ∧ l.length ≤ 1073741824)) (d sz n : Nat) (hd : Hid (d ≤ 8)) (IH : Hid (∀ (p : Nat), p ≤ l.length → ∀ w, PAt w g l p 0 → Calls Try.prog 66 #[.pointer (some ⟨g, 0, none⟩), .int .i64 (d : Int)] w (IPost g l p (flt d (l.drop p)) d w))) (hn : Hid (¬ (true = false ∧ 1000 < n))) (hr : Hid (readH (l.drop p) = some (sz, 4, n, true))) (w : World) (h : PAt w g l p 0) :
    Calls Try.prog 66 #[.pointer (some ⟨g, 0, none⟩), .int .i64 ((d : Int) + 1)] w (IPost g l p (flt (d + 1) (l.drop p)) (d + 1) w) := by
  have HF := hid (flt_arr (d := d) hr.out hn.out)
  have HA := hid (newarr_ok hr.out hn.out)
  have HNN : Hid (true = false → n ≤ 1000) := by have := hn.out; unfold Hid; simp at this ⊢; try omega
  have hsz : Hid (sz ≤ 1073741824) := by have h1 := (readH_some hr.out).le; have h2 := hp.out; rw [List.length_drop] at h1; unfold Hid; omega
  have hrk : Hid (RS.ok (RS.new (l.drop p))) := RS.new_ok (by have := hp.out; rw [List.length_drop]; omega)
  have hg : Hid (g < w.heap.size) := Blk.lt h
  have hgB : Hid (w.heap.size ≠ g) := by have := hg.out; unfold Hid; omega
  have H0 := hid (Blk.alloc h (.cells (itemC nulT none 0) 38))
  clear h
  go_enter Try.func66, Try.ntmps66
  go_wp2_with fail
  refine (preader_any g l p 0 hp _ H0.out).mono ?_
  rintro x w1 ⟨rfl, hb1, hr1⟩
  have P1 := hid (H0.out.ext hb1)
  have B1 := hid ((Blk.new w 38 (itemC nulT none 0)).ext hb1)
  have HE1 := hid (((Mod.refl [] w).alloc (.cells (itemC nulT none 0) 38)).trans hb1)
  have hR1 : RdAt w1 (w.heap.size + 1) (RS.new (l.drop p)) := by simpa using hr1
  have HR1 := hid hR1
  clear hr1 hR1 hb1 H0
  go_wp2_with fail
  refine (Head_any_r _ _ hrk.out _ HR1.out).mono ?_
  rintro x w2 ⟨rfl, hm2, hr2⟩
  have K2 : Hid (IH1 w g l p w2 (w.heap.size + 1)) := ⟨Mod.new (S := [w.heap.size + 1]) (HE1.out.of_ext.trans hm2) (fun k hk => by rw [List.mem_singleton] at hk; subst hk; exact .inr (by omega)), Blk.mod P1.out hm2 (by have := hg.out; simp; omega), B1.out.mod hm2 (by simp), hr2, by omega⟩
  clear P1 B1 HE1 HR1 hm2 hr2
  go_wp2_with fail
  refine (Bad_any _ _ _ K2.out.rd).mono ?_
  rintro x w3 ⟨rfl, hb3⟩
  have K3 : Hid (IH1 w g l p w3 (w.heap.size + 1)) := ⟨K2.out.ext.trans hb3, K2.out.pa.ext hb3, K2.out.ret.ext hb3, Blk.ext K2.out.rd hb3, by omega⟩
  clear K2 hb3
  have p1 : w3.cell? ⟨g, 1, none⟩ = some (.int .i64 (p : Int)) := PAt.at_ K3.out.pa
  have HH := hid (newhead hr.out)
  rw [HH.out]
  dsimp only
  have td : decide ((d : Int) + 1 < 1) = false := by simp; omega
  have td2 : ((d : Int) + 1 < 1) = False := by simp; omega
  go_wp2_with fail
  refine (preader_any g l p 0 hp _ K3.out.pa).mono ?_
  rintro x w4 ⟨rfl, hb4, hr4⟩
  have P4 := hid (Blk.ext K3.out.pa hb4)
  have B4 := hid (K3.out.ret.ext hb4)
  have HR4 := hid hr4
  have HS4 := hid (Blk.lt K3.out.ret)
  have HS5 : Hid (w3.heap.size ≠ g ∧ w3.heap.size ≠ w.heap.size) := by have h1 := hg.out; have h2 := HS4.out; unfold Hid; omega
  have HE4 := hid (K3.out.ext.trans hb4)
  clear hb4 hr4 p1
  go_wp2_with fail
  refine (Array_any _ _ hrk.out _ HR4.out).mono ?_
  rintro x w5 ⟨rfl, hm5, hr5⟩
  rw [HA.out] at hr5 ⊢
  simp only [if_true]
  have P5 := hid (Blk.mod P4.out hm5 (by simpa using fun e => HS5.out.1 e.symm))
  have B5 := hid (B4.out.mod hm5 (by simpa using fun e => HS5.out.2 e.symm))
  have M5 : Hid (Ext w w5) := Mod.new (S := [w3.heap.size]) (HE4.out.of_ext.trans hm5) (fun k hk => by rw [List.mem_singleton] at hk; subst hk; exact .inr K3.out.ext.size)
  have HR5 := hid hr5
  clear hm5 hr5
  go_wp2_with fail
  refine (Bad_any _ _ _ HR5.out).mono ?_
  rintro x w6 ⟨rfl, hb6⟩
  have P6 := hid (Blk.ext P5.out hb6)
  have B6 := hid (B5.out.ext hb6)
  have M6 := hid (M5.out.trans hb6)
  have HR6 : Hid (RdAt w6 w3.heap.size ⟨l.drop p, sz, -1, 0, 0⟩) := Blk.ext HR5.out hb6
  clear hb6
  have q1 : w6.cell? ⟨g, 1, none⟩ = some (.int .i64 (p : Int)) := PAt.at_ P6.out
  have z1 : w6.frozen? ⟨g, 1, none⟩ = false := PAt.froz P6.out 1
  have tw : IntKind.i64.wrap ((p : Int) + (sz : Int)) = (p : Int) + (sz : Int) := IntWalk.i64_in _ (by have := hp.out; have := hsz.out; omega)
  have HP9 : Hid (Mod [g] w6 (w6.setCell ⟨g, 1, none⟩ (.int .i64 ((p : Int) + (sz : Int)))) ∧ PAt (w6.setCell ⟨g, 1, none⟩ (.int .i64 ((p : Int) + (sz : Int)))) g l (p + sz) 0 ∧ Blk (w6.setCell ⟨g, 1, none⟩ (.int .i64 ((p : Int) + (sz : Int)))) w.heap.size 38 (itemC nulT none 0)) := by
    refine ⟨(Mod.refl _ _).setCell (.inl (by simp)) _, ?_, Blk.far B6.out (by simpa using hgB.out) _⟩
    have := Blk.set_ P6.out 1 (.int .i64 ((p + sz : Nat) : Int))
    simpa [PAt] using this
  go_upto_region 20 with fail
  go_cut [] (fun wx => Hid (Mod [g] w6 wx ∧ PAt wx g l (p + sz) 0 ∧ Blk wx w.heap.size 38 (itemC nulT none 0)))
  case first =>
    go_region_with ((go_at_call 101; refine (At_any w3.heap.size ⟨l.drop p, sz, -1, 0, 0⟩ _ ?_).mono ?_; (first | exact HR6.out | exact Blk.drew HR6.out | exact Blk.drew (Blk.drew HR6.out)); rintro x w' ⟨rfl, rfl⟩))
    all_goals go_wp2_with fail
    all_goals go_meet
    all_goals exact ⟨by first | exact HP9.out.1 | exact HP9.out.1.drew, HP9.out.2⟩
  clear q1 z1 tw HP9
  have hc2 := hid hcut.out
  clear hcut
  go_wp2_with fail
  refine (plist_any d hd g l (show Hid _ from hp.out.2) IH p sz n true (-1) (by unfold Hid; simp) hr (by unfold Hid; first | exact HNN.out | (have := HNN.out; simpa using this) | simp) (by have h1 := (readH_some hr.out).le; have h2 := hp.out; rw [List.length_drop] at h1; unfold Hid; omega) _ hc2.out.2.1).mono ?_
  rintro x w9 ⟨t, A, c, rfl, hm9, hp9, hs9⟩
  have HB9 := hid (Blk.mod hc2.out.2.2 hm9 (by simpa using hgB.out))
  have HM9 := hid hm9; have HP9 := hid hp9; have HS9 := hid hs9
  clear hm9 hp9 hs9
  obtain ⟨c0, c1, c2, c3, c4⟩ := cells5 HB9.out
  have f0 := Blk.frozen HB9.out 0
  have f1 := Blk.frozen HB9.out 1
  have f2 := Blk.frozen HB9.out 2
  have f3 := Blk.frozen HB9.out 3
  have f4 := Blk.frozen HB9.out 4
  go_wp2_with fail
  obtain ⟨d0, d1, d2, d3, d4⟩ := cells5 (set5_blk (t := t) (A := A) (c := c) HB9.out)
  clear c0 c1 c2 c3 c4 f0 f1 f2 f3 f4 
  show bodyPost _ _ _ _ _ (set5 w9 w.heap.size t A c)
  refine bodyPost_ret (v := itemV t A c) (by simp [results, Try.results66, go_sem, d0, d1, d2, d3, d4]) rfl ?_
  rw [HF.out]
  exact IPost.store hg.out (M6.out.of_ext.trans hc2.out.1) (Blk.lt hc2.out.2.2) HM9.out HP9.out HS9.out


theorem pitem_any (g : Nat) (l : List UInt8) (hl : l.length ≤ 1073741824) : ∀ d : Nat, d ≤ 9 → ∀ p, p ≤ l.length → ∀ w, PAt w g l p 0 → Calls Try.prog 66 #[.pointer (some ⟨g, 0, none⟩), .int .i64 (d : Int)] w (IPost g l p (flt d (l.drop p)) d w) := by
  intro d
  induction d with
  | zero =>
    intro _ p hp w h
    cases hr : readH (l.drop p) with
    | none => exact pitem_none g l p ⟨hp, hl⟩ 0 hr w h
    | some x =>
      obtain ⟨sz, m, n, o⟩ := x
      have hm := (readH_some hr).m7
      have h8 : (m = 1 ∨ m = 5 ∨ m = 6 ∨ m = 7) ∨ (m = 0 ∨ m = 2 ∨ m = 3 ∨ m = 4) := by omega
      rcases h8 with h8 | h8
      · exact pitem_noK g l p ⟨hp, hl⟩ 0 sz m n o h8 hr w h
      · exact pitem_deep g l p ⟨hp, hl⟩ sz m n o h8 hr w h
  | succ d ih =>
    intro hd p hp w h
    have ih' := ih (by omega)
    have e : ((d + 1 : Nat) : Int) = (d : Int) + 1 := by omega
    cases hr : readH (l.drop p) with
    | none => exact pitem_none g l p ⟨hp, hl⟩ (d + 1) hr w h
    | some x =>
      obtain ⟨sz, m, n, o⟩ := x
      have hm := (readH_some hr).m7
      have h8 : (m = 1 ∨ m = 5 ∨ m = 6 ∨ m = 7) ∨ m = 0 ∨ (m = 2 ∨ m = 3) ∨ m = 4 := by omega
      rcases h8 with h8 | rfl | h8 | rfl
      · exact pitem_noK g l p ⟨hp, hl⟩ (d + 1) sz m n o h8 hr w h
      · rw [e]; exact pitem_num g l p ⟨hp, hl⟩ d sz n o hr w h
      · rw [e]; exact pitem_str g l p ⟨hp, hl⟩ d sz m n o h8 hr w h
      · rw [e]
        cases o with
        | false =>
          by_cases hn : 1000 < n
          · exact pitem_long g l p ⟨hp, hl⟩ d sz n hn hr w h
          · exact pitem_arr_false g l p ⟨hp, hl⟩ d sz n (by unfold Hid; omega) ih' (fun h => hn h.2) hr w h
        | true => exact pitem_arr_true g l p ⟨hp, hl⟩ d sz n (by unfold Hid; omega) ih' (fun h => by cases h.1) hr w h
end Go.Proofs.Ytogjghmoankleaa


namespace Go.Proofs.Ytogjghmoankleaa
open Go.RowKit
set_option linter.unusedVariables false
set_option linter.unusedSimpArgs false

/-- Place and error of a whole text. -/
def parseR (l : List UInt8) : Nat × Int := if (flt 8 l).2 = 0 ∧ (flt 8 l).1 < l.length then ((flt 8 l).1, 2) else flt 8 l
def PPost (l : List UInt8) (w : World) (x : Ending) (w' : World) : Prop :=
  Ext w w' ∧ (((parseR l).2 ≠ 0 ∧ x = .returned (.tuple #[itemV nulT none 0, .int .i64 ((parseR l).1 : Int), .int .i64 (parseR l).2])) ∨
    ((parseR l).2 = 0 ∧ ∃ t A c, x = .returned (.tuple #[itemV t A c, .int .i64 (-1), .int .i64 0]) ∧ (t.right 8 = true ∧ t.ok) ∧ t.bytes = l ∧ IsL w' (fun _ => True) t A))
def PPostC (l : List UInt8) (w : World) (x : Ending) (w' : World) : Prop :=
  Ext w w' ∧ (((parseR l).2 ≠ 0 ∧ x = .returned (.tuple #[itemV nulT none 0, .int .i64 ((parseR l).1 : Int), .int .i64 (parseR l).2])) ∨
    ((parseR l).2 = 0 ∧ ∃ t A c, x = .returned (.tuple #[itemV t A c, .int .i64 (-1), .int .i64 0]) ∧ (t.right 8 = true ∧ t.ok) ∧ t.bytes = l ∧ IsC w' (fun _ => True) t A c))
theorem PPostC.out {l : List UInt8} {w : World} {x : Ending} {w' : World} (h : PPostC l w x w') : PPost l w x w' := by
  obtain ⟨hb, h | ⟨h0, t, A, c, h1, h2, h3, h4⟩⟩ := h
  · exact ⟨hb, .inl h⟩
  · exact ⟨hb, .inr ⟨h0, t, A, c, h1, h2, h3, h4.isL⟩⟩

set_option maxRecDepth 20000 in
set_option maxHeartbeats 1600000 in
theorem parse_anyC (l : List UInt8) (hl : Hid (l.length ≤ 1073741824)) (w : World) : Calls Try.prog 34 #[str l] w (PPostC l w) := by
  have hF0 : Hid (flt 8 (l.drop 0) = flt 8 l) := by unfold Hid; rw [List.drop_zero]
  have HP1 : Hid (PAt ((w.alloc (.cells (itemC nulT none 0) 38)).alloc (.cells #[str l, .int .i64 ((0 : Nat) : Int), .int .i64 0] 111)) (w.heap.size + 1) l 0 0) := Blk.newAt _ _ _ (by simp)
  have HB1 : Hid (Blk ((w.alloc (.cells (itemC nulT none 0) 38)).alloc (.cells #[str l, .int .i64 ((0 : Nat) : Int), .int .i64 0] 111)) w.heap.size 38 (itemC nulT none 0)) := (Blk.new _ _ _).alloc _
  have HE1 := hid (((Mod.refl [w.heap.size + 1] w).alloc (.cells (itemC nulT none 0) 38)).alloc (.cells #[str l, .int .i64 ((0 : Nat) : Int), .int .i64 0] 111))
  go_enter Try.func34, Try.ntmps34
  go_upto_region 2 with fail
  go_cut [6] (fun s6 wx => ∃ X t A c, s6 = .pointer (some ⟨X, 0, none⟩) ∧ Hid (Mod [w.heap.size + 1] w wx ∧ PAt wx (w.heap.size + 1) l (flt 8 l).1 (flt 8 l).2 ∧ Blk wx w.heap.size 38 (itemC nulT none 0) ∧ Blk wx X 38 (itemC t A c) ∧ w.heap.size + 1 < X ∧
      ((flt 8 l).2 = 0 → (t.right 8 = true ∧ t.ok) ∧ t.bytes ++ l.drop (flt 8 l).1 = l ∧ IsC wx (fun b => w.heap.size + 2 ≤ b ∧ b ≠ X) t A c)))
  case first =>
    go_wp2_with fail
    refine (pitem_any (w.heap.size + 1) l hl.out 8 (by omega) 0 (by omega) _ HP1.out).mono ?_
    rintro x w2 ⟨t, A, c, rfl, hm2, hp2, hs2⟩
    rw [hF0.out] at hp2 hs2
    rw [Nat.zero_add] at hp2 hs2
    rw [List.drop_zero] at hs2
    have HB2 := hid (HB1.out.mod hm2 (by simp))
    have HP2 := hid hp2
    have HS2 := hid hs2
    have HE2 := hid (HE1.out.trans hm2)
    clear hm2 hp2 hs2 HB1 HE1 HP1
    go_wp2_with fail
    go_meet
    refine ⟨w2.heap.size, t, A, c, rfl, HE2.out.alloc _, Blk.alloc HP2.out _, HB2.out.alloc _, Blk.new _ _ _, Blk.lt HP2.out, fun h0 => ⟨(HS2.out h0).1, (HS2.out h0).2.1, ?_⟩⟩
    have h3 := (HS2.out h0).2.2
    exact IsC.ext (IsC.weak (fun k hk hq => ⟨by simpa using hq, by omega⟩) t h3) ((Mod.refl _ _).alloc _)
  obtain ⟨X, t, A, c, rfl, hH⟩ := hcut
  clear HB1 HE1 HP1 hF0
  obtain ⟨E, hE⟩ : ∃ E, E = (flt 8 l).2 := ⟨_, rfl⟩
  obtain ⟨q, hq⟩ : ∃ q, q = (flt 8 l).1 := ⟨_, rfl⟩
  have HPR : Hid (parseR l = if E = 0 ∧ q < l.length then (q, 2) else (q, E)) := by unfold Hid parseR; rw [hE, hq]
  rw [← hE, ← hq] at hH
  have hql : q ≤ l.length := by rw [hq]; exact flt_le 8 l
  have q0 : (0 : Int) ≤ (q : Int) := by omega
  have q1 : (q : Int) ≤ (l.length : Int) := by omega
  have l1 : (l.length : Int) ≤ 1073741824 := by have := hl.out; omega
  have HQL := hid hql
  clear hE hq hql
  have p1 : wc.cell? ⟨w.heap.size + 1, 1, none⟩ = some (.int .i64 (q : Int)) := PAt.at_ hH.out.2.1
  have p2 : wc.cell? ⟨w.heap.size + 1, 2, none⟩ = some (.int .i64 E) := PAt.err hH.out.2.1
  by_cases hE : E = 0
  · subst hE
    by_cases hql : q < l.length
    · have tl : decide (q < l.length) = true := by simp [hql]
      have tl2 : decide ((q : Int) < (l.length : Int)) = true := by simp [hql]
      have HPE := hid HPR.out
      rw [if_pos ⟨rfl, hql⟩] at HPE
      clear hql
      go_upto_region 4 with fail
      go_wp2_with fail
      refine (pfail_any (w.heap.size + 1) l q q 2 _ hH.out.2.1).mono ?_
      rintro x w3 ⟨rfl, hm3, hp3⟩
      have HM3 := hid (hH.out.1.trans hm3)
      have HP3 := hid hp3
      have HB3 := hid (hH.out.2.2.1.mod hm3 (by simp))
      clear hm3 hp3 p1 p2
      have p1 : w3.cell? ⟨w.heap.size + 1, 1, none⟩ = some (.int .i64 (q : Int)) := PAt.at_ HP3.out
      have p2 : w3.cell? ⟨w.heap.size + 1, 2, none⟩ = some (.int .i64 2) := PAt.err HP3.out
      obtain ⟨c0, c1, c2, c3, c4⟩ := cells5 HB3.out
      have f0 := Blk.frozen HB3.out 0
      have f1 := Blk.frozen HB3.out 1
      have f2 := Blk.frozen HB3.out 2
      have f3 := Blk.frozen HB3.out 3
      have f4 := Blk.frozen HB3.out 4
      go_upto_region 6 with fail
      have HW : Hid (Mod [w.heap.size + 1] w (set5 w3 w.heap.size nulT none 0).drew ∧ Blk (set5 w3 w.heap.size nulT none 0).drew w.heap.size 38 (itemC nulT none 0)) := ⟨(set5_mod HM3.out (Nat.le_refl _)).drew, Blk.drew (set5_blk HB3.out)⟩
      go_cut [3, 4] (fun s3 s4 wx => s3 = .int .i64 (q : Int) ∧ s4 = .int .i64 2 ∧ Hid (Mod [w.heap.size + 1] w wx ∧ Blk wx w.heap.size 38 (itemC nulT none 0)))
      case first =>
        go_region
        all_goals go_wp2_with fail
        all_goals go_meet
        all_goals exact ⟨rfl, rfl, HW.out.1, HW.out.2⟩
      clear c0 c1 c2 c3 c4 f0 f1 f2 f3 f4
      obtain ⟨rfl, rfl, hR⟩ := hcut
      obtain ⟨d0, d1, d2, d3, d4⟩ := cells5 hR.out.2
      go_wp2_with fail
      refine bodyPost_ret (v := .tuple #[itemV nulT none 0, .int .i64 (q : Int), .int .i64 2]) (by simp [results, Try.results34, go_sem, d0, d1, d2, d3, d4]) rfl ?_
      refine ⟨Mod.new (S := [w.heap.size + 1]) hR.out.1 (fun k hk => by rw [List.mem_singleton] at hk; subst hk; exact .inr (by omega)), .inl ?_⟩
      rw [HPE.out]
      exact ⟨(show ¬ ((2 : Int) = 0) by decide), rfl⟩
    · have tl : decide (q < l.length) = false := by simp [hql]
      have tl2 : decide ((q : Int) < (l.length : Int)) = false := by simp; omega
      have HPE := hid HPR.out
      rw [if_neg (fun h => hql h.2)] at HPE
      have HQ := hid hql
      clear hql
      obtain ⟨x0, x1, x2, x3, x4⟩ := cells5 hH.out.2.2.2.1
      obtain ⟨c0, c1, c2, c3, c4⟩ := cells5 hH.out.2.2.1
      have f0 := Blk.frozen hH.out.2.2.1 0
      have f1 := Blk.frozen hH.out.2.2.1 1
      have f2 := Blk.frozen hH.out.2.2.1 2
      have f3 := Blk.frozen hH.out.2.2.1 3
      have f4 := Blk.frozen hH.out.2.2.1 4
      go_wp2_with fail
      obtain ⟨d0, d1, d2, d3, d4⟩ := cells5 (set5_blk (t := t) (A := A) (c := c) hH.out.2.2.1)
      clear c0 c1 c2 c3 c4 f0 f1 f2 f3 f4 x0 x1 x2 x3 x4 p1 p2
      show bodyPost _ _ _ _ _ (set5 wc w.heap.size t A c)
      refine bodyPost_ret (v := .tuple #[itemV t A c, .int .i64 (-1), .int .i64 0]) (by simp [results, Try.results34, go_sem, d0, d1, d2, d3, d4]) rfl ?_
      refine ⟨Mod.new (S := [w.heap.size + 1]) (set5_mod hH.out.1 (Nat.le_refl _)) (fun k hk => by rw [List.mem_singleton] at hk; subst hk; exact .inr (by omega)), .inr ?_⟩
      have h1 := hH.out.2.2.2.2.2 (by first | rfl | trivial)
      rw [HPE.out]
      refine ⟨rfl, t, A, c, rfl, h1.1, ?_, ?_⟩
      · have h2 := h1.2.1
        have hqe : q = l.length := by have := HQ.out; have := HQL.out; omega
        rw [hqe, List.drop_length, List.append_nil] at h2
        exact h2
      · exact IsC.weak (fun k hk hq => trivial) t (IsC.mod set5_modb (fun k hq hk hm => by rw [List.mem_singleton] at hm; have := hq.1; omega) t h1.2.2)
  · have te : (E == 0) = false := by simp [hE]
    have te2 : (E = 0) = False := by simp [hE]
    have tn : (E != 0) = true := by simp [hE]
    have HPE := hid HPR.out
    rw [if_neg (fun h => hE h.1)] at HPE
    have HNE := hid hE
    clear hE
    obtain ⟨c0, c1, c2, c3, c4⟩ := cells5 hH.out.2.2.1
    have f0 := Blk.frozen hH.out.2.2.1 0
    have f1 := Blk.frozen hH.out.2.2.1 1
    have f2 := Blk.frozen hH.out.2.2.1 2
    have f3 := Blk.frozen hH.out.2.2.1 3
    have f4 := Blk.frozen hH.out.2.2.1 4
    go_upto_region 6 with fail
    have HW : Hid (Mod [w.heap.size + 1] w (set5 wc w.heap.size nulT none 0).drew ∧ Blk (set5 wc w.heap.size nulT none 0).drew w.heap.size 38 (itemC nulT none 0)) := ⟨(set5_mod hH.out.1 (Nat.le_refl _)).drew, Blk.drew (set5_blk hH.out.2.2.1)⟩
    go_cut [3, 4] (fun s3 s4 wx => s3 = .int .i64 (q : Int) ∧ s4 = .int .i64 E ∧ Hid (Mod [w.heap.size + 1] w wx ∧ Blk wx w.heap.size 38 (itemC nulT none 0)))
    case first =>
      go_region
      all_goals go_wp2_with fail
      all_goals go_meet
      all_goals exact ⟨rfl, rfl, HW.out.1, HW.out.2⟩
    clear c0 c1 c2 c3 c4 f0 f1 f2 f3 f4
    obtain ⟨rfl, rfl, hR⟩ := hcut
    obtain ⟨d0, d1, d2, d3, d4⟩ := cells5 hR.out.2
    go_wp2_with fail
    refine bodyPost_ret (v := .tuple #[itemV nulT none 0, .int .i64 (q : Int), .int .i64 E]) (by simp [results, Try.results34, go_sem, d0, d1, d2, d3, d4]) rfl ?_
    refine ⟨Mod.new (S := [w.heap.size + 1]) hR.out.1 (fun k hk => by rw [List.mem_singleton] at hk; subst hk; exact .inr (by omega)), .inl ?_⟩
    rw [HPE.out]
    exact ⟨HNE.out, rfl⟩
theorem parse_any (l : List UInt8) (hl : Hid (l.length ≤ 1073741824)) (w : World) : Calls Try.prog 34 #[str l] w (PPost l w) := (parse_anyC l hl w).mono fun _ _ h => h.out
end Go.Proofs.Ytogjghmoankleaa


namespace Go.Proofs.Ytogjghmoankleaa
open Go.RowKit
set_option linter.unusedVariables false
set_option linter.unusedSimpArgs false

theorem parse_back {x : T} (hx : x.right 8 = true) (hox : x.ok) : parseR x.bytes = (x.bytes.length, 0) := by
  have h := flt_bytes x 8 hx hox []
  rw [List.append_nil] at h
  unfold parseR
  rw [h]
  rw [if_neg (by rintro ⟨_, h⟩; exact Nat.lt_irrefl _ h)]
/-- A name's block's four cells, stored anew. -/
def set4 (W : World) (b : Nat) (e : EV) : World := (((W.setCell ⟨b, 0, none⟩ (.int .i64 e.sch)).setCell ⟨b, 1, none⟩ (str e.name)).setCell ⟨b, 2, none⟩ (.int .u64 (e.node : Int))).setCell ⟨b, 3, none⟩ (.int .u64 (e.svc : Int))
theorem set4_blk {W : World} {b : Nat} {e0 e : EV} (h : Blk W b 26 e0.c) : Blk (set4 W b e) b 26 e.c := by
  have := (((h.set_ 0 (.int .i64 e.sch)).set_ 1 (str e.name)).set_ 2 (.int .u64 (e.node : Int))).set_ 3 (.int .u64 (e.svc : Int))
  unfold set4
  simpa using this
theorem set4_mod {w W : World} {S : List Nat} {b : Nat} {e : EV} (h : Mod S w W) (hb : w.heap.size ≤ b) : Mod S w (set4 W b e) := (((h.setCell (.inr hb) _).setCell (.inr hb) _).setCell (.inr hb) _).setCell (.inr hb) _
theorem cells4 {W : World} {b : Nat} {e : EV} (h : Blk W b 26 e.c) : W.cell? ⟨b, 0, none⟩ = some (.int .i64 e.sch) ∧ W.cell? ⟨b, 1, none⟩ = some (str e.name) ∧ W.cell? ⟨b, 2, none⟩ = some (.int .u64 (e.node : Int)) ∧ W.cell? ⟨b, 3, none⟩ = some (.int .u64 (e.svc : Int)) := ⟨h.cell 0, h.cell 1, h.cell 2, h.cell 3⟩
/-- A right item's bytes, parsed: the same item. -/
theorem parse_same {x : T} (hx : x.right 8 = true) (hxp : x.plain = true) (hox : x.ok) (hl : x.bytes.length ≤ 1073741824) (w : World) : Calls Try.prog 34 #[str x.bytes] w (fun e w' => ∃ t A c, e = .returned (.tuple #[itemV t A c, .int .i64 (-1), .int .i64 0]) ∧ Ext w w' ∧ t.right 8 = true ∧ t.ok ∧ t.same x = true ∧ x.same t = true ∧ IsL w' (fun _ => True) t A) := by
  refine (parse_any x.bytes hl w).mono fun e w' ⟨hb, h⟩ => ?_
  have h0 : (parseR x.bytes).2 = 0 := by rw [parse_back hx hox]
  rcases h with ⟨h1, _⟩ | ⟨_, t, A, c, he, ⟨hr, hok⟩, hbt, hl⟩
  · exact absurd h0 h1
  · have hp : t.plain = true := by have := hr; rw [T.right_eq, Bool.and_eq_true] at this; exact this.2
    have e1 := (T.bytes_inj t x hp hxp hok hox [] [] (by rw [hbt])).1
    have e2 := (T.bytes_inj x t hxp hp hox hok [] [] (by rw [hbt])).1
    exact ⟨t, A, c, he, hb, hr, hok, e1, e2, hl⟩
theorem same_mk {t : T} {kind : Int} {n : Nat} {s : List UInt8} {op : Bool} {k : Nat} {ch : Nat → T} (h : (T.mk kind n s op k ch).same t = true) : t.kind = kind ∧ t.n = n ∧ t.s = s ∧ t.op = op ∧ t.k = k ∧ ∀ i, i < k → (ch i).same (t.ch i) = true := by
  unfold T.same at h
  simp only [Bool.and_eq_true, beq_iff_eq] at h
  obtain ⟨⟨⟨⟨⟨h1, h2⟩, h3⟩, h4⟩, h5⟩, h6⟩ := h
  exact ⟨h1.symm, h2.symm, h3.symm, h4.symm, h5.symm, T.all_iff.1 h6⟩
theorem readE_same {e : EV} (ho : e.ok = true) {t : T} (h : (eidT e).same t = true) : readE t = e := by
  rcases EV.ok_cases ho with rfl | ⟨name, rfl, hn, hl⟩ | ⟨node, svc, rfl, ha, hb⟩
  · obtain ⟨h1, h2, h3, h4, h5, h6⟩ := same_mk h
    have g0 := same_mk (h6 0 (by omega))
    have g1 : (numT 0).same (t.ch 1) = true := h6 1 (by omega)
    have g1 := same_mk g1
    have z : ¬ (t.kind ≠ 4 ∨ t.k ≠ 2 ∨ (t.ch 0).kind ≠ 0) := by rw [h1, h5, g0.1]; decide
    have z2 : ¬ ((t.ch 0).n = 2 ∧ (t.ch 1).k = 2) := by rintro ⟨h, _⟩; rw [g0.2.1] at h; revert h; decide
    have z3 : ¬ ((t.ch 0).n = 1 ∧ (t.ch 1).kind = 3) := by rintro ⟨_, h⟩; rw [g1.1] at h; revert h; decide
    unfold readE
    rw [if_neg z, if_neg z2, if_neg z3]
    rfl
  · have h0 : ¬ name = noneL := hn
    have e1 : eidT ⟨1, name, 0, 0⟩ = T.mk 4 0 [] false 2 fun i => if i = 0 then numT 1 else textT name := by simp [eidT, twoT, h0]
    rw [e1] at h
    obtain ⟨h1, h2, h3, h4, h5, h6⟩ := same_mk h
    have g0 := same_mk (h6 0 (by omega))
    have g1 : (textT name).same (t.ch 1) = true := h6 1 (by omega)
    have g1 := same_mk g1
    have z : ¬ (t.kind ≠ 4 ∨ t.k ≠ 2 ∨ (t.ch 0).kind ≠ 0) := by rw [h1, h5, g0.1]; decide
    have z2 : ¬ ((t.ch 0).n = 2 ∧ (t.ch 1).k = 2) := by rintro ⟨h, _⟩; rw [g0.2.1] at h; revert h; decide
    have z3 : (t.ch 0).n = 1 ∧ (t.ch 1).kind = 3 := by rw [g0.2.1, g1.1]; decide
    unfold readE
    rw [if_neg z, if_neg z2, if_pos z3, g1.2.2.1]
  · obtain ⟨h1, h2, h3, h4, h5, h6⟩ := same_mk h
    have g0 := same_mk (h6 0 (by omega))
    have g1 : (T.mk 4 0 [] false 2 (fun j => if j = 0 then numT node else numT svc)).same (t.ch 1) = true := h6 1 (by omega)
    have g1 := same_mk g1
    have k0 : (numT node).same ((t.ch 1).ch 0) = true := g1.2.2.2.2.2 0 (by omega)
    have k1 : (numT svc).same ((t.ch 1).ch 1) = true := g1.2.2.2.2.2 1 (by omega)
    have k0 := same_mk k0
    have k1 := same_mk k1
    have z : ¬ (t.kind ≠ 4 ∨ t.k ≠ 2 ∨ (t.ch 0).kind ≠ 0) := by rw [h1, h5, g0.1]; decide
    have z2 : (t.ch 0).n = 2 ∧ (t.ch 1).k = 2 := ⟨g0.2.1, g1.2.2.2.2.1⟩
    unfold readE
    rw [if_neg z, if_pos z2, k0.2.1, k1.2.1]
end Go.Proofs.Ytogjghmoankleaa


namespace Go.Proofs.Ytogjghmoankleaa
open Go.RowKit
set_option linter.unusedVariables false
set_option linter.unusedSimpArgs false

/-- What a number says, or one that is too great. -/
def numO (n : Nat) : Int := if n < 65536 then (n : Int) else 65536
end Go.Proofs.Ytogjghmoankleaa


namespace Go.Proofs.Ytogjghmoankleaa
open Go.RowKit
set_option linter.unusedVariables false
set_option linter.unusedSimpArgs false

/-- An array of these items. -/
def listT (L : List T) : T := T.mk 4 0 [] false L.length fun i => (L[i]?).getD T.nil
theorem catR_list (g : T → List UInt8) : ∀ L : List T, T.catR (fun i => g ((L[i]?).getD T.nil)) L.length = (L.map g).flatten
  | [] => rfl
  | x :: L => by
    rw [List.length_cons, T.catR, List.map_cons, List.flatten_cons, ← catR_list g L]
    rfl
theorem listT_bytes (L : List T) : (listT L).bytes = headL 4 L.length ++ (L.map T.bytes).flatten := by
  unfold listT
  rw [T.bytes, if_neg (by decide), if_neg (by decide), T.cat_eq, catR_list]
  simp
theorem getD_mem {L : List T} {i : Nat} (h : i < L.length) : (L[i]?).getD T.nil ∈ L := by
  rw [List.getElem?_eq_getElem h]; exact List.getElem_mem h
theorem listT_ok {L : List T} (hl : L.length < 4611686018427387904) (h : ∀ t ∈ L, t.ok) : (listT L).ok := by
  unfold listT T.ok
  exact ⟨by omega, by omega, by simp, hl, fun i hi => h _ (getD_mem hi)⟩
theorem listT_right {L : List T} {d : Nat} (hd : 1 ≤ d) (hl : L.length ≤ 1000) (h : ∀ t ∈ L, t.right (d - 1) = true) : (listT L).right d = true := by
  unfold listT T.right
  rw [if_neg (by omega), Bool.and_eq_true, T.all_iff]
  refine ⟨?_, fun i hi => h _ (getD_mem hi)⟩
  simp [T.node, hl]
theorem sum_le_each {f : Nat → Nat} {B k : Nat} (h : ∀ i, i < k → f i ≤ B) : T.sum f k ≤ k * B := by
  induction k with
  | zero => simp [T.sum]
  | succ k ih =>
    have := ih (fun i hi => h i (by omega))
    have := h k (by omega)
    rw [T.sum, Nat.succ_mul]; omega
theorem listT_size {L : List T} {B : Nat} (h : ∀ t ∈ L, t.size ≤ B) : (listT L).size ≤ 1 + L.length * B := by
  unfold listT T.size
  have := sum_le_each (f := fun i => ((L[i]?).getD T.nil).size) (B := B) (k := L.length) (fun i hi => h _ (getD_mem hi))
  simp; omega
theorem numT_all (n : Nat) (h : n < 18446744073709551616) : (numT n).ok ∧ (∀ d, 1 ≤ d → (numT n).right d = true) ∧ (numT n).size ≤ 100 ∧ (numT n).bytes = headL 0 n := by
  refine ⟨num_ok h, fun d hd => ?_, by simp [numT, T.size, T.sum], rfl⟩
  unfold numT T.right
  rw [if_neg (by omega)]
  simp [T.node, T.all]
theorem strT_all {s : List UInt8} (h : s.length ≤ 90) : (strT s).ok ∧ (∀ d, 1 ≤ d → (strT s).right d = true) ∧ (strT s).size ≤ 100 ∧ (strT s).bytes = headL 2 s.length ++ s := by
  refine ⟨str_ok (by omega), fun d hd => ?_, ?_, rfl⟩
  · unfold strT T.right
    rw [if_neg (by omega)]
    simp [T.node, T.all]
  · simp [strT, T.size, T.sum]; omega
theorem eidT_small {e : EV} (ho : e.ok = true) : (eidT e).size ≤ 100 := by
  rcases EV.ok_cases ho with rfl | ⟨name, rfl, hn, hl⟩ | ⟨node, svc, rfl, ha, hb⟩
  · decide
  · have h0 : ¬ name = noneL := hn
    have e1 : twoT ⟨1, name, 0, 0⟩ = textT name := by simp [twoT, h0]
    simp [eidT, e1, T.size, T.sum, numT, textT]; omega
  · simp [eidT, twoT, T.size, T.sum, numT]

/- A primary. -/
def PV.ranged (p : PV) : Bool := p.d.ok && (p.s.ok && (p.r.ok && decide (0 ≤ p.crc ∧ p.crc ≤ 2 ∧ p.fl < 2097152 ∧ p.t ≤ 1099511627776 ∧ p.q ≤ 1099511627776 ∧ p.l ≤ 1099511627776 ∧ p.o ≤ 1099511627776 ∧ p.n ≤ 1099511627776)))
def PV.none (p : PV) : Prop := p.s.sch = 1 ∧ p.s.name = noneL
instance (p : PV) : Decidable p.none := by unfold PV.none; infer_instance
def PV.right (p : PV) : Int :=
  if p.ranged = false then 1
  else if (p.fl % 2 = 1 ∧ (p.fl / 4 % 2 = 1 ∨ p.n ≤ p.o)) ∨ (¬ p.fl % 2 = 1 ∧ (0 < p.o ∨ 0 < p.n)) then 8
  else if ((p.fl / 16384 % 2 = 1 ∨ p.fl / 262144 % 2 = 1) ∧ (p.none ∨ p.fl / 2 % 2 = 1)) ∨ (p.none ∧ ¬ p.fl / 4 % 2 = 1) then 8
  else 0
theorem PV.ranged_spec {p : PV} (h : p.ranged = true) : p.d.ok = true ∧ p.s.ok = true ∧ p.r.ok = true ∧ 0 ≤ p.crc ∧ p.crc ≤ 2 ∧ p.fl < 2097152 ∧ p.t ≤ 1099511627776 ∧ p.q ≤ 1099511627776 ∧ p.l ≤ 1099511627776 ∧ p.o ≤ 1099511627776 ∧ p.n ≤ 1099511627776 := by
  unfold PV.ranged at h
  simp only [Bool.and_eq_true, decide_eq_true_eq] at h
  exact ⟨h.1, h.2.1, h.2.2.1, h.2.2.2⟩
theorem PV.right_ranged {p : PV} (h : p.right = 0) : p.ranged = true := by
  unfold PV.right at h
  cases hr : p.ranged with
  | true => rfl
  | false => rw [hr, if_pos rfl] at h; exact absurd h (by decide)
/-- Its items, with a sum. -/
def priL (p : PV) (k : Nat) (sum : List UInt8) : List T :=
  [numT 7, numT p.fl, numT k, eidT p.d, eidT p.s, eidT p.r, listT [numT p.t, numT p.q], numT p.l] ++ ((if p.fl % 2 = 1 then [numT p.o, numT p.n] else []) ++ (if k = 0 then [] else [strT sum]))
def priT (p : PV) (k : Nat) (sum : List UInt8) : T := listT (priL p k sum)
def priN (p : PV) (k : Nat) : Nat := 8 + ((if p.fl % 2 = 1 then 2 else 0) + (if k = 0 then 0 else 1))
theorem priL_length (p : PV) (k : Nat) (sum : List UInt8) : (priL p k sum).length = priN p k := by
  unfold priL priN
  split <;> split <;> simp
/-- Its bytes, with a sum. -/
def priB (p : PV) (k : Nat) (sum : List UInt8) : List UInt8 :=
  headL 4 (priN p k) ++ (headL 0 7 ++ (headL 0 p.fl ++ (headL 0 k ++ ((eidT p.d).bytes ++ ((eidT p.s).bytes ++ ((eidT p.r).bytes ++ (headL 4 2 ++ (headL 0 p.t ++ (headL 0 p.q ++ (headL 0 p.l ++
  ((if p.fl % 2 = 1 then headL 0 p.o ++ headL 0 p.n else []) ++ (if k = 0 then [] else headL 2 sum.length ++ sum))))))))))))
theorem priT_bytes (p : PV) (k : Nat) (sum : List UInt8) : (priT p k sum).bytes = priB p k sum := by
  unfold priT
  rw [listT_bytes, priL_length]
  unfold priL priB
  have e : (listT [numT p.t, numT p.q]).bytes = headL 4 2 ++ (headL 0 p.t ++ headL 0 p.q) := by
    rw [listT_bytes]; simp [show ∀ n, (numT n).bytes = headL 0 n from fun n => rfl]
  by_cases h1 : p.fl % 2 = 1 <;> by_cases h2 : k = 0 <;>
    simp [h1, h2, e, show ∀ n, (numT n).bytes = headL 0 n from fun n => rfl, show ∀ s, (strT s).bytes = headL 2 s.length ++ s from fun s => rfl]
theorem priT_all {p : PV} (h : p.ranged = true) {k : Nat} (hk : k ≤ 2) {sum : List UInt8} (hs : sum.length ≤ 90) : (priT p k sum).ok ∧ (∀ d, 4 ≤ d → (priT p k sum).right d = true) ∧ (priT p k sum).size ≤ 4000 := by
  obtain ⟨h1, h2, h3, h4, h5, h6, h7, h8, h9, h10, h11⟩ := PV.ranged_spec h
  have hm : ∀ t ∈ priL p k sum, t.ok ∧ (∀ d, 3 ≤ d → t.right d = true) ∧ t.size ≤ 350 := by
    intro t ht
    have num : ∀ n, n < 18446744073709551616 → (numT n).ok ∧ (∀ d, 3 ≤ d → (numT n).right d = true) ∧ (numT n).size ≤ 350 := fun n hn => by
      obtain ⟨a, b, c, _⟩ := numT_all n hn
      exact ⟨a, fun d hd => b d (by omega), by omega⟩
    have eid : ∀ e : EV, e.ok = true → (eidT e).ok ∧ (∀ d, 3 ≤ d → (eidT e).right d = true) ∧ (eidT e).size ≤ 350 := fun e he => by
      obtain ⟨a, b, _, _⟩ := eidT_ok he
      exact ⟨a, b, by have := eidT_small he; omega⟩
    unfold priL at ht
    rw [List.mem_append, List.mem_append] at ht
    rcases ht with ht | ht | ht
    · simp only [List.mem_cons, List.not_mem_nil, or_false] at ht
      rcases ht with rfl | rfl | rfl | rfl | rfl | rfl | rfl | rfl
      · exact num 7 (by decide)
      · exact num _ (by omega)
      · exact num _ (by omega)
      · exact eid _ h1
      · exact eid _ h2
      · exact eid _ h3
      · have a := numT_all p.t (by omega)
        have b := numT_all p.q (by omega)
        refine ⟨listT_ok (by simp) ?_, fun d hd => listT_right (by omega) (by simp) ?_, ?_⟩
        · intro t ht
          simp only [List.mem_cons, List.not_mem_nil, or_false] at ht
          rcases ht with rfl | rfl
          · exact a.1
          · exact b.1
        · intro t ht
          simp only [List.mem_cons, List.not_mem_nil, or_false] at ht
          rcases ht with rfl | rfl
          · exact a.2.1 _ (by omega)
          · exact b.2.1 _ (by omega)
        · have := listT_size (L := [numT p.t, numT p.q]) (B := 100) (by
            intro t ht
            simp only [List.mem_cons, List.not_mem_nil, or_false] at ht
            rcases ht with rfl | rfl
            · exact a.2.2.1
            · exact b.2.2.1)
          simp at this
          omega
      · exact num _ (by omega)
    · split at ht
      · simp only [List.mem_cons, List.not_mem_nil, or_false] at ht
        rcases ht with rfl | rfl
        · exact num _ (by omega)
        · exact num _ (by omega)
      · cases ht
    · split at ht
      · cases ht
      · simp only [List.mem_cons, List.not_mem_nil, or_false] at ht
        subst ht
        obtain ⟨a, b, c, _⟩ := strT_all hs
        exact ⟨a, fun d hd => b d (by omega), by omega⟩
  have hl : (priL p k sum).length ≤ 11 := by rw [priL_length]; unfold priN; split <;> split <;> omega
  refine ⟨listT_ok (by omega) fun t ht => (hm t ht).1, fun d hd => listT_right (by omega) (by omega) fun t ht => (hm t ht).2.1 _ (by omega), ?_⟩
  have := listT_size (L := priL p k sum) (B := 350) fun t ht => (hm t ht).2.2
  have h2 : (priL p k sum).length * 350 ≤ 11 * 350 := Nat.mul_le_mul_right _ hl
  show (listT (priL p k sum)).size ≤ 4000
  omega
/-- A number's bytes, as the first is the greatest. -/
def PV.sumK (f : Nat → List UInt8 → List UInt8) (p : PV) (k : Nat) : List UInt8 := if k = 0 then [] else f k (priB p k (List.replicate (2 * k) 0))
end Go.Proofs.Ytogjghmoankleaa


namespace Go.Proofs.Ytogjghmoankleaa
open Go.RowKit
set_option linter.unusedVariables false
set_option linter.unusedSimpArgs false

theorem quo_remP {f c x : Nat} (hf : f < 18446744073709551616) (h : f / c % 2 = x) : (IntKind.u64.wrap ((f : Int) / (c : Int))).tmod 2 = (x : Int) := by
  have h1 : (f : Int) / (c : Int) = ((f / c : Nat) : Int) := by simp
  have h2 : f / c ≤ f := Nat.div_le_self _ _
  rw [h1]
  generalize f / c = y at *
  rw [IntWalk.u64_in _ (by omega), Int.tmod_eq_emod_of_nonneg (by omega)]
  omega
def has (f c : Nat) : Bool := decide (f / c % 2 = 1)
set_option maxRecDepth 20000 in
theorem Has_any (f c : Nat) (hf : f < 18446744073709551616) (hc : 0 < c) (hc2 : c < 1000000) (w : World) : Calls Try.prog 65 #[.int .u64 (f : Int), .int .i64 (c : Int)] w (Ret (.bool (has f c)) w) := by
  have f0 : (0 : Int) ≤ (f : Int) := by omega
  have c0 : (0 : Int) ≤ (c : Int) := by omega
  have c1 : (c : Int) ≤ 1000000 := by omega
  have t1 : IntKind.u64.wrap (c : Int) = (c : Int) := IntWalk.u64_in _ (by omega)
  have z1 : ((c : Int) == 0) = false := by simp; omega
  have z2 : ((c : Int) = 0) = False := by simp; omega
  have z3 : (c = 0) = False := by simp; omega
  have hx : f / c % 2 = 0 ∨ f / c % 2 = 1 := by omega
  rcases hx with hx | hx
  · have a1 := quo_remP hf hx
    have HV : Hid (has f c = false) := by unfold Hid has; simp [hx]
    clear hx hf hc hc2
    go_enter Try.func65, Try.ntmps65
    go_wp2
    go_ret
    exact Ret.mk (by rw [HV.out]; simp) (Mod.refl _ _)
  · have a1 := quo_remP hf hx
    have HV : Hid (has f c = true) := by unfold Hid has; simp [hx]
    clear hx hf hc hc2
    go_enter Try.func65, Try.ntmps65
    go_wp2
    go_ret
    exact Ret.mk (by rw [HV.out]; simp) (Mod.refl _ _)
set_option maxRecDepth 20000 in
set_option maxHeartbeats 1600000 in
theorem r11Right_any (p : PV) (hf : p.fl < 18446744073709551616) (w : World) : Calls Try.prog 32 #[.agg p.c] w (Ret (.int .i64 p.right) w) := by
  have KD := hid (fun W => r10_any p.d W)
  have KS := hid (fun W => r10_any p.s W)
  have KR := hid (fun W => r10_any p.r W)
  have H1 : Hid (∀ W, Calls Try.prog 65 #[.int .u64 (p.fl : Int), .int .i64 1] W (Ret (.bool (has p.fl 1)) W)) := fun W => Has_any p.fl 1 hf (by omega) (by omega) W
  have H2 : Hid (∀ W, Calls Try.prog 65 #[.int .u64 (p.fl : Int), .int .i64 2] W (Ret (.bool (has p.fl 2)) W)) := fun W => Has_any p.fl 2 hf (by omega) (by omega) W
  have H4 : Hid (∀ W, Calls Try.prog 65 #[.int .u64 (p.fl : Int), .int .i64 4] W (Ret (.bool (has p.fl 4)) W)) := fun W => Has_any p.fl 4 hf (by omega) (by omega) W
  have HH : Hid (∀ W, Calls Try.prog 65 #[.int .u64 (p.fl : Int), .int .i64 16384] W (Ret (.bool (has p.fl 16384)) W)) := fun W => Has_any p.fl 16384 hf (by omega) (by omega) W
  have HG : Hid (∀ W, Calls Try.prog 65 #[.int .u64 (p.fl : Int), .int .i64 262144] W (Ret (.bool (has p.fl 262144)) W)) := fun W => Has_any p.fl 262144 hf (by omega) (by omega) W
  have HE := hid ((Mod.refl [] w).alloc (.cells p.c 68))
  have HB := hid (Blk.new w 68 p.c)
  have f0 : (0 : Int) ≤ (p.fl : Int) := by omega
  clear hf
  go_enter Try.func32, Try.ntmps32
  go_upto_region 1 with fail
  generalize w.alloc (.cells p.c 68) = V at *
  have b0 : ∀ e : Later V, e.x.cell? ⟨w.heap.size, 0, none⟩ = some (.int .u64 (p.fl : Int)) := HB.out.cellL 0 rfl
  have b1 : ∀ e : Later V, e.x.cell? ⟨w.heap.size, 1, none⟩ = some (.int .i64 p.crc) := HB.out.cellL 1 rfl
  have b2 : ∀ e : Later V, e.x.cell? ⟨w.heap.size, 2, none⟩ = some (.int .i64 p.d.sch) := HB.out.cellL 2 rfl
  have b3 : ∀ e : Later V, e.x.cell? ⟨w.heap.size, 3, none⟩ = some (str p.d.name) := HB.out.cellL 3 rfl
  have b4 : ∀ e : Later V, e.x.cell? ⟨w.heap.size, 4, none⟩ = some (.int .u64 (p.d.node : Int)) := HB.out.cellL 4 rfl
  have b5 : ∀ e : Later V, e.x.cell? ⟨w.heap.size, 5, none⟩ = some (.int .u64 (p.d.svc : Int)) := HB.out.cellL 5 rfl
  have b6 : ∀ e : Later V, e.x.cell? ⟨w.heap.size, 6, none⟩ = some (.int .i64 p.s.sch) := HB.out.cellL 6 rfl
  have b7 : ∀ e : Later V, e.x.cell? ⟨w.heap.size, 7, none⟩ = some (str p.s.name) := HB.out.cellL 7 rfl
  have b8 : ∀ e : Later V, e.x.cell? ⟨w.heap.size, 8, none⟩ = some (.int .u64 (p.s.node : Int)) := HB.out.cellL 8 rfl
  have b9 : ∀ e : Later V, e.x.cell? ⟨w.heap.size, 9, none⟩ = some (.int .u64 (p.s.svc : Int)) := HB.out.cellL 9 rfl
  have b10 : ∀ e : Later V, e.x.cell? ⟨w.heap.size, 10, none⟩ = some (.int .i64 p.r.sch) := HB.out.cellL 10 rfl
  have b11 : ∀ e : Later V, e.x.cell? ⟨w.heap.size, 11, none⟩ = some (str p.r.name) := HB.out.cellL 11 rfl
  have b12 : ∀ e : Later V, e.x.cell? ⟨w.heap.size, 12, none⟩ = some (.int .u64 (p.r.node : Int)) := HB.out.cellL 12 rfl
  have b13 : ∀ e : Later V, e.x.cell? ⟨w.heap.size, 13, none⟩ = some (.int .u64 (p.r.svc : Int)) := HB.out.cellL 13 rfl
  have b14 : ∀ e : Later V, e.x.cell? ⟨w.heap.size, 14, none⟩ = some (.int .u64 (p.t : Int)) := HB.out.cellL 14 rfl
  have b15 : ∀ e : Later V, e.x.cell? ⟨w.heap.size, 15, none⟩ = some (.int .u64 (p.q : Int)) := HB.out.cellL 15 rfl
  have b16 : ∀ e : Later V, e.x.cell? ⟨w.heap.size, 16, none⟩ = some (.int .u64 (p.l : Int)) := HB.out.cellL 16 rfl
  have b17 : ∀ e : Later V, e.x.cell? ⟨w.heap.size, 17, none⟩ = some (.int .u64 (p.o : Int)) := HB.out.cellL 17 rfl
  have b18 : ∀ e : Later V, e.x.cell? ⟨w.heap.size, 18, none⟩ = some (.int .u64 (p.n : Int)) := HB.out.cellL 18 rfl
  obtain ⟨e, he0⟩ := Later.self V
  rw [he0]
  clear he0
  cases hx : p.d.ok with
  | false =>
    rw [hx] at KD
    have HR : Hid (p.ranged = false) := by unfold Hid PV.ranged; simp [hx]
    clear hx
    have HS : Hid (p.right = 1) := by
      unfold Hid PV.right
      rw [if_pos HR.out]
    go_wp2_with (first | (go_at_call 50; first | ((with_reducible refine (Ret.later (KD.out _)).mono ?_); rintro x _ ⟨rfl, e, rfl⟩) | ((with_reducible refine (Ret.later (KS.out _)).mono ?_); rintro x _ ⟨rfl, e, rfl⟩) | ((with_reducible refine (Ret.later (KR.out _)).mono ?_); rintro x _ ⟨rfl, e, rfl⟩)) | (go_at_call 65; first | ((with_reducible refine (Ret.later (H1.out _)).mono ?_); rintro x _ ⟨rfl, e, rfl⟩) | ((with_reducible refine (Ret.later (H2.out _)).mono ?_); rintro x _ ⟨rfl, e, rfl⟩) | ((with_reducible refine (Ret.later (H4.out _)).mono ?_); rintro x _ ⟨rfl, e, rfl⟩) | ((with_reducible refine (Ret.later (HH.out _)).mono ?_); rintro x _ ⟨rfl, e, rfl⟩) | ((with_reducible refine (Ret.later (HG.out _)).mono ?_); rintro x _ ⟨rfl, e, rfl⟩)))
    go_ret
    exact Ret.mk (by rw [HS.out]; rfl) (HE.out.trans e.h)
  | true =>
    rw [hx] at KD
    have Xd := hid hx
    clear hx
    cases hx : p.s.ok with
    | false =>
      rw [hx] at KS
      have HR : Hid (p.ranged = false) := by unfold Hid PV.ranged; simp [hx]
      clear hx
      have HS : Hid (p.right = 1) := by
        unfold Hid PV.right
        rw [if_pos HR.out]
      go_wp2_with (first | (go_at_call 50; first | ((with_reducible refine (Ret.later (KD.out _)).mono ?_); rintro x _ ⟨rfl, e, rfl⟩) | ((with_reducible refine (Ret.later (KS.out _)).mono ?_); rintro x _ ⟨rfl, e, rfl⟩) | ((with_reducible refine (Ret.later (KR.out _)).mono ?_); rintro x _ ⟨rfl, e, rfl⟩)) | (go_at_call 65; first | ((with_reducible refine (Ret.later (H1.out _)).mono ?_); rintro x _ ⟨rfl, e, rfl⟩) | ((with_reducible refine (Ret.later (H2.out _)).mono ?_); rintro x _ ⟨rfl, e, rfl⟩) | ((with_reducible refine (Ret.later (H4.out _)).mono ?_); rintro x _ ⟨rfl, e, rfl⟩) | ((with_reducible refine (Ret.later (HH.out _)).mono ?_); rintro x _ ⟨rfl, e, rfl⟩) | ((with_reducible refine (Ret.later (HG.out _)).mono ?_); rintro x _ ⟨rfl, e, rfl⟩)))
      go_ret
      exact Ret.mk (by rw [HS.out]; rfl) (HE.out.trans e.h)
    | true =>
      rw [hx] at KS
      have Xs := hid hx
      clear hx
      cases hx : p.r.ok with
      | false =>
        rw [hx] at KR
        have HR : Hid (p.ranged = false) := by unfold Hid PV.ranged; simp [hx]
        clear hx
        have HS : Hid (p.right = 1) := by
          unfold Hid PV.right
          rw [if_pos HR.out]
        go_wp2_with (first | (go_at_call 50; first | ((with_reducible refine (Ret.later (KD.out _)).mono ?_); rintro x _ ⟨rfl, e, rfl⟩) | ((with_reducible refine (Ret.later (KS.out _)).mono ?_); rintro x _ ⟨rfl, e, rfl⟩) | ((with_reducible refine (Ret.later (KR.out _)).mono ?_); rintro x _ ⟨rfl, e, rfl⟩)) | (go_at_call 65; first | ((with_reducible refine (Ret.later (H1.out _)).mono ?_); rintro x _ ⟨rfl, e, rfl⟩) | ((with_reducible refine (Ret.later (H2.out _)).mono ?_); rintro x _ ⟨rfl, e, rfl⟩) | ((with_reducible refine (Ret.later (H4.out _)).mono ?_); rintro x _ ⟨rfl, e, rfl⟩) | ((with_reducible refine (Ret.later (HH.out _)).mono ?_); rintro x _ ⟨rfl, e, rfl⟩) | ((with_reducible refine (Ret.later (HG.out _)).mono ?_); rintro x _ ⟨rfl, e, rfl⟩)))
        go_ret
        exact Ret.mk (by rw [HS.out]; rfl) (HE.out.trans e.h)
      | true =>
        rw [hx] at KR
        have Xr := hid hx
        clear hx
        by_cases hx : p.crc < 0
        · have ua : decide (p.crc < 0) = true := decide_eq_true (by omega)
          have ub : (p.crc < 0) = True := eq_true (by omega)
          have HR : Hid (p.ranged = false) := by unfold Hid PV.ranged; simp; omega
          clear hx
          have HS : Hid (p.right = 1) := by
            unfold Hid PV.right
            rw [if_pos HR.out]
          go_wp2_with (first | (go_at_call 50; first | ((with_reducible refine (Ret.later (KD.out _)).mono ?_); rintro x _ ⟨rfl, e, rfl⟩) | ((with_reducible refine (Ret.later (KS.out _)).mono ?_); rintro x _ ⟨rfl, e, rfl⟩) | ((with_reducible refine (Ret.later (KR.out _)).mono ?_); rintro x _ ⟨rfl, e, rfl⟩)) | (go_at_call 65; first | ((with_reducible refine (Ret.later (H1.out _)).mono ?_); rintro x _ ⟨rfl, e, rfl⟩) | ((with_reducible refine (Ret.later (H2.out _)).mono ?_); rintro x _ ⟨rfl, e, rfl⟩) | ((with_reducible refine (Ret.later (H4.out _)).mono ?_); rintro x _ ⟨rfl, e, rfl⟩) | ((with_reducible refine (Ret.later (HH.out _)).mono ?_); rintro x _ ⟨rfl, e, rfl⟩) | ((with_reducible refine (Ret.later (HG.out _)).mono ?_); rintro x _ ⟨rfl, e, rfl⟩)))
          go_ret
          exact Ret.mk (by rw [HS.out]; rfl) (HE.out.trans e.h)
        have ua : decide (p.crc < 0) = false := decide_eq_false (by omega)
        have ub : (p.crc < 0) = False := eq_false (by omega)
        have X1 := hid hx
        clear hx
        by_cases hx : 2 < p.crc
        · have va : decide (2 < p.crc) = true := decide_eq_true (by omega)
          have vb : (2 < p.crc) = True := eq_true (by omega)
          have HR : Hid (p.ranged = false) := by unfold Hid PV.ranged; simp; omega
          clear hx
          have HS : Hid (p.right = 1) := by
            unfold Hid PV.right
            rw [if_pos HR.out]
          go_wp2_with (first | (go_at_call 50; first | ((with_reducible refine (Ret.later (KD.out _)).mono ?_); rintro x _ ⟨rfl, e, rfl⟩) | ((with_reducible refine (Ret.later (KS.out _)).mono ?_); rintro x _ ⟨rfl, e, rfl⟩) | ((with_reducible refine (Ret.later (KR.out _)).mono ?_); rintro x _ ⟨rfl, e, rfl⟩)) | (go_at_call 65; first | ((with_reducible refine (Ret.later (H1.out _)).mono ?_); rintro x _ ⟨rfl, e, rfl⟩) | ((with_reducible refine (Ret.later (H2.out _)).mono ?_); rintro x _ ⟨rfl, e, rfl⟩) | ((with_reducible refine (Ret.later (H4.out _)).mono ?_); rintro x _ ⟨rfl, e, rfl⟩) | ((with_reducible refine (Ret.later (HH.out _)).mono ?_); rintro x _ ⟨rfl, e, rfl⟩) | ((with_reducible refine (Ret.later (HG.out _)).mono ?_); rintro x _ ⟨rfl, e, rfl⟩)))
          go_ret
          exact Ret.mk (by rw [HS.out]; rfl) (HE.out.trans e.h)
        have va : decide (2 < p.crc) = false := decide_eq_false (by omega)
        have vb : (2 < p.crc) = False := eq_false (by omega)
        have X2 := hid hx
        clear hx
        by_cases hx : 2097152 ≤ p.fl
        · have xa : decide ((2097152 : Int) ≤ (p.fl : Int)) = true := decide_eq_true (by omega)
          have xb : ((2097152 : Int) ≤ (p.fl : Int)) = True := eq_true (by omega)
          have HR : Hid (p.ranged = false) := by unfold Hid PV.ranged; simp; omega
          clear hx
          have HS : Hid (p.right = 1) := by
            unfold Hid PV.right
            rw [if_pos HR.out]
          go_wp2_with (first | (go_at_call 50; first | ((with_reducible refine (Ret.later (KD.out _)).mono ?_); rintro x _ ⟨rfl, e, rfl⟩) | ((with_reducible refine (Ret.later (KS.out _)).mono ?_); rintro x _ ⟨rfl, e, rfl⟩) | ((with_reducible refine (Ret.later (KR.out _)).mono ?_); rintro x _ ⟨rfl, e, rfl⟩)) | (go_at_call 65; first | ((with_reducible refine (Ret.later (H1.out _)).mono ?_); rintro x _ ⟨rfl, e, rfl⟩) | ((with_reducible refine (Ret.later (H2.out _)).mono ?_); rintro x _ ⟨rfl, e, rfl⟩) | ((with_reducible refine (Ret.later (H4.out _)).mono ?_); rintro x _ ⟨rfl, e, rfl⟩) | ((with_reducible refine (Ret.later (HH.out _)).mono ?_); rintro x _ ⟨rfl, e, rfl⟩) | ((with_reducible refine (Ret.later (HG.out _)).mono ?_); rintro x _ ⟨rfl, e, rfl⟩)))
          go_ret
          exact Ret.mk (by rw [HS.out]; rfl) (HE.out.trans e.h)
        have xa : decide ((2097152 : Int) ≤ (p.fl : Int)) = false := decide_eq_false (by omega)
        have xb : ((2097152 : Int) ≤ (p.fl : Int)) = False := eq_false (by omega)
        have X3 := hid hx
        clear hx
        go_upto_region 4 with (first | (go_at_call 50; first | ((with_reducible refine (Ret.later (KD.out _)).mono ?_); rintro x _ ⟨rfl, e, rfl⟩) | ((with_reducible refine (Ret.later (KS.out _)).mono ?_); rintro x _ ⟨rfl, e, rfl⟩) | ((with_reducible refine (Ret.later (KR.out _)).mono ?_); rintro x _ ⟨rfl, e, rfl⟩)) | (go_at_call 65; first | ((with_reducible refine (Ret.later (H1.out _)).mono ?_); rintro x _ ⟨rfl, e, rfl⟩) | ((with_reducible refine (Ret.later (H2.out _)).mono ?_); rintro x _ ⟨rfl, e, rfl⟩) | ((with_reducible refine (Ret.later (H4.out _)).mono ?_); rintro x _ ⟨rfl, e, rfl⟩) | ((with_reducible refine (Ret.later (HH.out _)).mono ?_); rintro x _ ⟨rfl, e, rfl⟩) | ((with_reducible refine (Ret.later (HG.out _)).mono ?_); rintro x _ ⟨rfl, e, rfl⟩)))
        have HA := hid (Blk.new e.x 107 #[.int .u64 (p.t : Int), .int .u64 (p.q : Int), .int .u64 (p.l : Int), .int .u64 (p.o : Int), .int .u64 (p.n : Int)])
        have HB2 := hid ((HB.out.later e).alloc (.cells #[.int .u64 (p.t : Int), .int .u64 (p.q : Int), .int .u64 (p.l : Int), .int .u64 (p.o : Int), .int .u64 (p.n : Int)] 107))
        have HE2 := hid ((HE.out.trans e.h).alloc (.cells #[.int .u64 (p.t : Int), .int .u64 (p.q : Int), .int .u64 (p.l : Int), .int .u64 (p.o : Int), .int .u64 (p.n : Int)] 107))
        clear b0 b1 b2 b3 b4 b5 b6 b7 b8 b9 b10 b11 b12 b13 b14 b15 b16 b17 b18 HB HE ua ub va vb xa xb
        generalize e.x.alloc (.cells #[.int .u64 (p.t : Int), .int .u64 (p.q : Int), .int .u64 (p.l : Int), .int .u64 (p.o : Int), .int .u64 (p.n : Int)] 107) = V2 at *
        generalize e.x.heap.size = G at *
        clear e
        have b0 : ∀ e : Later V2, e.x.cell? ⟨w.heap.size, 0, none⟩ = some (.int .u64 (p.fl : Int)) := HB2.out.cellL 0 rfl
        have b1 : ∀ e : Later V2, e.x.cell? ⟨w.heap.size, 1, none⟩ = some (.int .i64 p.crc) := HB2.out.cellL 1 rfl
        have b2 : ∀ e : Later V2, e.x.cell? ⟨w.heap.size, 2, none⟩ = some (.int .i64 p.d.sch) := HB2.out.cellL 2 rfl
        have b3 : ∀ e : Later V2, e.x.cell? ⟨w.heap.size, 3, none⟩ = some (str p.d.name) := HB2.out.cellL 3 rfl
        have b4 : ∀ e : Later V2, e.x.cell? ⟨w.heap.size, 4, none⟩ = some (.int .u64 (p.d.node : Int)) := HB2.out.cellL 4 rfl
        have b5 : ∀ e : Later V2, e.x.cell? ⟨w.heap.size, 5, none⟩ = some (.int .u64 (p.d.svc : Int)) := HB2.out.cellL 5 rfl
        have b6 : ∀ e : Later V2, e.x.cell? ⟨w.heap.size, 6, none⟩ = some (.int .i64 p.s.sch) := HB2.out.cellL 6 rfl
        have b7 : ∀ e : Later V2, e.x.cell? ⟨w.heap.size, 7, none⟩ = some (str p.s.name) := HB2.out.cellL 7 rfl
        have b8 : ∀ e : Later V2, e.x.cell? ⟨w.heap.size, 8, none⟩ = some (.int .u64 (p.s.node : Int)) := HB2.out.cellL 8 rfl
        have b9 : ∀ e : Later V2, e.x.cell? ⟨w.heap.size, 9, none⟩ = some (.int .u64 (p.s.svc : Int)) := HB2.out.cellL 9 rfl
        have b10 : ∀ e : Later V2, e.x.cell? ⟨w.heap.size, 10, none⟩ = some (.int .i64 p.r.sch) := HB2.out.cellL 10 rfl
        have b11 : ∀ e : Later V2, e.x.cell? ⟨w.heap.size, 11, none⟩ = some (str p.r.name) := HB2.out.cellL 11 rfl
        have b12 : ∀ e : Later V2, e.x.cell? ⟨w.heap.size, 12, none⟩ = some (.int .u64 (p.r.node : Int)) := HB2.out.cellL 12 rfl
        have b13 : ∀ e : Later V2, e.x.cell? ⟨w.heap.size, 13, none⟩ = some (.int .u64 (p.r.svc : Int)) := HB2.out.cellL 13 rfl
        have b14 : ∀ e : Later V2, e.x.cell? ⟨w.heap.size, 14, none⟩ = some (.int .u64 (p.t : Int)) := HB2.out.cellL 14 rfl
        have b15 : ∀ e : Later V2, e.x.cell? ⟨w.heap.size, 15, none⟩ = some (.int .u64 (p.q : Int)) := HB2.out.cellL 15 rfl
        have b16 : ∀ e : Later V2, e.x.cell? ⟨w.heap.size, 16, none⟩ = some (.int .u64 (p.l : Int)) := HB2.out.cellL 16 rfl
        have b17 : ∀ e : Later V2, e.x.cell? ⟨w.heap.size, 17, none⟩ = some (.int .u64 (p.o : Int)) := HB2.out.cellL 17 rfl
        have b18 : ∀ e : Later V2, e.x.cell? ⟨w.heap.size, 18, none⟩ = some (.int .u64 (p.n : Int)) := HB2.out.cellL 18 rfl
        go_wp2_with fail
        obtain ⟨e0, he0⟩ := Later.self V2
        have HAJ : Hid (∀ (e : Later V2) (i : Nat), i < 5 → e.x.cell? ⟨G, i, none⟩ = some (.int .u64 ((([p.t, p.q, p.l, p.o, p.n][i]?).getD 0 : Nat) : Int))) := fun e i hi => by
          rw [(HA.out.later e).cell i]
          match i, hi with
          | 0, _ => rfl
          | 1, _ => rfl
          | 2, _ => rfl
          | 3, _ => rfl
          | 4, _ => rfl
        go_loopw [4] (fun s4 wr => ∃ i : Nat, s4 = .int .i64 (i : Int) ∧ Hid (i ≤ 5 ∧ ∀ j, j < i → ([p.t, p.q, p.l, p.o, p.n][j]?).getD 0 ≤ 1099511627776) ∧ ∃ e : Later V2, wr = e.x) (fun s4 _ => 5 - (intOf s4).toNat)
        case atStart => exact ⟨0, rfl, (show Hid _ from ⟨by omega, fun j hj => by omega⟩), e0, he0⟩
        case round =>
          clear he0 e0
          obtain ⟨i, rfl, hi, e, rfl⟩ := hrel
          have i0 : (0 : Int) ≤ (i : Int) := by omega
          have i5 : (i : Int) ≤ 5 := by have := hi.out.1; omega
          by_cases hlt : i < 5
          · have tc : decide ((i : Int) < 5) = true := decide_eq_true (by omega)
            have i1 : (i : Int) < 5 := by omega
            have HJ := fun e => HAJ.out e i hlt
            obtain ⟨x, hx⟩ : ∃ x, ([p.t, p.q, p.l, p.o, p.n][i]?).getD 0 = x := ⟨_, rfl⟩
            rw [hx] at HJ
            have HX := hid hx
            have HLT := hid hlt
            clear hx hlt
            by_cases hx : 1099511627776 < x
            · have ya : decide ((1099511627776 : Int) < (x : Int)) = true := decide_eq_true (by omega)
              have yb : ((1099511627776 : Int) < (x : Int)) = True := eq_true (by omega)
              have HR : Hid (p.ranged = false) := by
                unfold Hid PV.ranged
                have h5 := HLT.out
                have hX := HX.out
                match i, h5 with
                | 0, _ => have hX : p.t = x := hX; simp; omega
                | 1, _ => have hX : p.q = x := hX; simp; omega
                | 2, _ => have hX : p.l = x := hX; simp; omega
                | 3, _ => have hX : p.o = x := hX; simp; omega
                | 4, _ => have hX : p.n = x := hX; simp; omega
              clear hx
              have HS : Hid (p.right = 1) := by
                unfold Hid PV.right
                rw [if_pos HR.out]
              go_wp2_with (first | (go_at_call 50; first | ((with_reducible refine (Ret.later (KD.out _)).mono ?_); rintro x _ ⟨rfl, e, rfl⟩) | ((with_reducible refine (Ret.later (KS.out _)).mono ?_); rintro x _ ⟨rfl, e, rfl⟩) | ((with_reducible refine (Ret.later (KR.out _)).mono ?_); rintro x _ ⟨rfl, e, rfl⟩)) | (go_at_call 65; first | ((with_reducible refine (Ret.later (H1.out _)).mono ?_); rintro x _ ⟨rfl, e, rfl⟩) | ((with_reducible refine (Ret.later (H2.out _)).mono ?_); rintro x _ ⟨rfl, e, rfl⟩) | ((with_reducible refine (Ret.later (H4.out _)).mono ?_); rintro x _ ⟨rfl, e, rfl⟩) | ((with_reducible refine (Ret.later (HH.out _)).mono ?_); rintro x _ ⟨rfl, e, rfl⟩) | ((with_reducible refine (Ret.later (HG.out _)).mono ?_); rintro x _ ⟨rfl, e, rfl⟩)))
              go_ret
              exact Ret.mk (by rw [HS.out]; rfl) (HE2.out.trans e.h)
            · have ya : decide ((1099511627776 : Int) < (x : Int)) = false := decide_eq_false (by omega)
              have yb : ((1099511627776 : Int) < (x : Int)) = False := eq_false (by omega)
              have HN := hid hx
              clear hx
              go_wp2_with fail
              go_roundw
              case rel => exact ⟨i + 1, by go_num, (show Hid _ from ⟨HLT.out, fun j hj => by
                by_cases hji : j = i
                · subst hji; rw [HX.out]; have := HN.out; omega
                · exact hi.out.2 j (by omega)⟩), e, rfl⟩
              case measure => have := HLT.out; simp [intOf]; omega
          · obtain rfl : i = 5 := by have := hi.out.1; omega
            have HR : Hid (p.ranged = true) := by
              have h := hi.out.2
              have a0 : p.t ≤ _ := h 0 (by omega)
              have a1 : p.q ≤ _ := h 1 (by omega)
              have a2 : p.l ≤ _ := h 2 (by omega)
              have a3 : p.o ≤ _ := h 3 (by omega)
              have a4 : p.n ≤ _ := h 4 (by omega)
              have := X1.out; have := X2.out; have := X3.out
              unfold Hid PV.ranged
              rw [Xd.out, Xs.out, Xr.out]
              simp; omega
            have HE := HE2
            clear hlt HAJ i0 i5 hi
            have HTB : Hid ((has p.fl 16384 || has p.fl 262144) = true ↔ (p.fl / 16384 % 2 = 1 ∨ p.fl / 262144 % 2 = 1)) := by unfold Hid has; simp
            cases hx1 : has p.fl 1 with
            | true =>
              rw [hx1] at H1
              have F1 : Hid (p.fl % 2 = 1) := by unfold has at hx1; unfold Hid; simpa using hx1
              clear hx1
              go_upto_region 10 with (first | (go_at_call 50; first | ((with_reducible refine (Ret.later (KD.out _)).mono ?_); rintro x _ ⟨rfl, e, rfl⟩) | ((with_reducible refine (Ret.later (KS.out _)).mono ?_); rintro x _ ⟨rfl, e, rfl⟩) | ((with_reducible refine (Ret.later (KR.out _)).mono ?_); rintro x _ ⟨rfl, e, rfl⟩)) | (go_at_call 65; first | ((with_reducible refine (Ret.later (H1.out _)).mono ?_); rintro x _ ⟨rfl, e, rfl⟩) | ((with_reducible refine (Ret.later (H2.out _)).mono ?_); rintro x _ ⟨rfl, e, rfl⟩) | ((with_reducible refine (Ret.later (H4.out _)).mono ?_); rintro x _ ⟨rfl, e, rfl⟩) | ((with_reducible refine (Ret.later (HH.out _)).mono ?_); rintro x _ ⟨rfl, e, rfl⟩) | ((with_reducible refine (Ret.later (HG.out _)).mono ?_); rintro x _ ⟨rfl, e, rfl⟩)))
              go_cut [6] (fun s6 wx => s6 = .bool (has p.fl 16384 || has p.fl 262144) ∧ ∃ e : Later V2, wx = e.x)
              case first =>
                cases h1 : has p.fl 16384
                all_goals rw [h1] at HH
                all_goals cases h2 : has p.fl 262144
                all_goals rw [h2] at HG
                all_goals have Q1 := hid h1
                all_goals have Q2 := hid h2
                all_goals clear h1 h2
                all_goals go_wp2_with (first | (go_at_call 50; first | ((with_reducible refine (Ret.later (KD.out _)).mono ?_); rintro x _ ⟨rfl, e, rfl⟩) | ((with_reducible refine (Ret.later (KS.out _)).mono ?_); rintro x _ ⟨rfl, e, rfl⟩) | ((with_reducible refine (Ret.later (KR.out _)).mono ?_); rintro x _ ⟨rfl, e, rfl⟩)) | (go_at_call 65; first | ((with_reducible refine (Ret.later (H1.out _)).mono ?_); rintro x _ ⟨rfl, e, rfl⟩) | ((with_reducible refine (Ret.later (H2.out _)).mono ?_); rintro x _ ⟨rfl, e, rfl⟩) | ((with_reducible refine (Ret.later (H4.out _)).mono ?_); rintro x _ ⟨rfl, e, rfl⟩) | ((with_reducible refine (Ret.later (HH.out _)).mono ?_); rintro x _ ⟨rfl, e, rfl⟩) | ((with_reducible refine (Ret.later (HG.out _)).mono ?_); rintro x _ ⟨rfl, e, rfl⟩)))
                all_goals go_meet
                all_goals exact ⟨by rw [Q1.out, Q2.out]; rfl, e, rfl⟩
              obtain ⟨rfl, e, rfl⟩ := hcut
              generalize (has p.fl 16384 || has p.fl 262144) = TB at *
              by_cases hx : p.fl / 4 % 2 = 1
              · rw [show has p.fl 4 = true by unfold has; simp [hx]] at H4
                have X4 := hid hx
                clear hx
                have HS : Hid (p.right = 8) := by
                  unfold Hid PV.right
                  rw [if_neg (by rw [HR.out]; decide), if_pos (.inl ⟨F1.out, .inl X4.out⟩)]
                go_wp2_with (first | (go_at_call 50; first | ((with_reducible refine (Ret.later (KD.out _)).mono ?_); rintro x _ ⟨rfl, e, rfl⟩) | ((with_reducible refine (Ret.later (KS.out _)).mono ?_); rintro x _ ⟨rfl, e, rfl⟩) | ((with_reducible refine (Ret.later (KR.out _)).mono ?_); rintro x _ ⟨rfl, e, rfl⟩)) | (go_at_call 65; first | ((with_reducible refine (Ret.later (H1.out _)).mono ?_); rintro x _ ⟨rfl, e, rfl⟩) | ((with_reducible refine (Ret.later (H2.out _)).mono ?_); rintro x _ ⟨rfl, e, rfl⟩) | ((with_reducible refine (Ret.later (H4.out _)).mono ?_); rintro x _ ⟨rfl, e, rfl⟩) | ((with_reducible refine (Ret.later (HH.out _)).mono ?_); rintro x _ ⟨rfl, e, rfl⟩) | ((with_reducible refine (Ret.later (HG.out _)).mono ?_); rintro x _ ⟨rfl, e, rfl⟩)))
                go_ret
                exact Ret.mk (by rw [HS.out]; rfl) (HE.out.trans e.h)
              rw [show has p.fl 4 = false by unfold has; simp; omega] at H4
              have X4 := hid hx
              clear hx
              by_cases hy : p.n ≤ p.o
              · have za : decide (p.n ≤ p.o) = true := decide_eq_true (by omega)
                have zb : (p.n ≤ p.o) = True := eq_true (by omega)
                have Y := hid hy
                clear hy
                have HS : Hid (p.right = 8) := by
                  unfold Hid PV.right
                  rw [if_neg (by rw [HR.out]; decide), if_pos (.inl ⟨F1.out, .inr Y.out⟩)]
                go_wp2_with (first | (go_at_call 50; first | ((with_reducible refine (Ret.later (KD.out _)).mono ?_); rintro x _ ⟨rfl, e, rfl⟩) | ((with_reducible refine (Ret.later (KS.out _)).mono ?_); rintro x _ ⟨rfl, e, rfl⟩) | ((with_reducible refine (Ret.later (KR.out _)).mono ?_); rintro x _ ⟨rfl, e, rfl⟩)) | (go_at_call 65; first | ((with_reducible refine (Ret.later (H1.out _)).mono ?_); rintro x _ ⟨rfl, e, rfl⟩) | ((with_reducible refine (Ret.later (H2.out _)).mono ?_); rintro x _ ⟨rfl, e, rfl⟩) | ((with_reducible refine (Ret.later (H4.out _)).mono ?_); rintro x _ ⟨rfl, e, rfl⟩) | ((with_reducible refine (Ret.later (HH.out _)).mono ?_); rintro x _ ⟨rfl, e, rfl⟩) | ((with_reducible refine (Ret.later (HG.out _)).mono ?_); rintro x _ ⟨rfl, e, rfl⟩)))
                go_ret
                exact Ret.mk (by rw [HS.out]; rfl) (HE.out.trans e.h)
              have za : decide (p.n ≤ p.o) = false := decide_eq_false (by omega)
              have zb : (p.n ≤ p.o) = False := eq_false (by omega)
              have G0 : Hid (¬ ((p.fl % 2 = 1 ∧ (p.fl / 4 % 2 = 1 ∨ p.n ≤ p.o)) ∨ (¬ p.fl % 2 = 1 ∧ (0 < p.o ∨ 0 < p.n)))) := by have := F1.out; have := X4.out; unfold Hid; omega
              clear hy
              by_cases hN : p.none
              · have n1 : p.s.sch = 1 := hN.1
                have n2 : p.s.name = [110, 111, 110, 101] := hN.2
                rw [n1] at b6
                rw [n2] at b7
                clear n1 n2
                have HN := hid hN
                clear hN
                cases hT : TB with
                | true =>
                  have XT : Hid (p.fl / 16384 % 2 = 1 ∨ p.fl / 262144 % 2 = 1) := HTB.out.1 hT
                  subst hT
                  have HS : Hid (p.right = 8) := by
                    unfold Hid PV.right
                    rw [if_neg (by rw [HR.out]; decide), if_neg (by have := G0.out; omega), if_pos (.inl ⟨XT.out, .inl HN.out⟩)]
                  go_wp2_with (first | (go_at_call 50; first | ((with_reducible refine (Ret.later (KD.out _)).mono ?_); rintro x _ ⟨rfl, e, rfl⟩) | ((with_reducible refine (Ret.later (KS.out _)).mono ?_); rintro x _ ⟨rfl, e, rfl⟩) | ((with_reducible refine (Ret.later (KR.out _)).mono ?_); rintro x _ ⟨rfl, e, rfl⟩)) | (go_at_call 65; first | ((with_reducible refine (Ret.later (H1.out _)).mono ?_); rintro x _ ⟨rfl, e, rfl⟩) | ((with_reducible refine (Ret.later (H2.out _)).mono ?_); rintro x _ ⟨rfl, e, rfl⟩) | ((with_reducible refine (Ret.later (H4.out _)).mono ?_); rintro x _ ⟨rfl, e, rfl⟩) | ((with_reducible refine (Ret.later (HH.out _)).mono ?_); rintro x _ ⟨rfl, e, rfl⟩) | ((with_reducible refine (Ret.later (HG.out _)).mono ?_); rintro x _ ⟨rfl, e, rfl⟩)))
                  go_ret
                  exact Ret.mk (by rw [HS.out]; rfl) (HE.out.trans e.h)
                | false =>
                  have XT : Hid (¬ (p.fl / 16384 % 2 = 1 ∨ p.fl / 262144 % 2 = 1)) := fun h => by have := HTB.out.2 h; rw [hT] at this; cases this
                  subst hT
                  have HS : Hid (p.right = 8) := by
                    unfold Hid PV.right
                    rw [if_neg (by rw [HR.out]; decide), if_neg (by have := G0.out; omega), if_pos (.inr ⟨HN.out, X4.out⟩)]
                  go_wp2_with (first | (go_at_call 50; first | ((with_reducible refine (Ret.later (KD.out _)).mono ?_); rintro x _ ⟨rfl, e, rfl⟩) | ((with_reducible refine (Ret.later (KS.out _)).mono ?_); rintro x _ ⟨rfl, e, rfl⟩) | ((with_reducible refine (Ret.later (KR.out _)).mono ?_); rintro x _ ⟨rfl, e, rfl⟩)) | (go_at_call 65; first | ((with_reducible refine (Ret.later (H1.out _)).mono ?_); rintro x _ ⟨rfl, e, rfl⟩) | ((with_reducible refine (Ret.later (H2.out _)).mono ?_); rintro x _ ⟨rfl, e, rfl⟩) | ((with_reducible refine (Ret.later (H4.out _)).mono ?_); rintro x _ ⟨rfl, e, rfl⟩) | ((with_reducible refine (Ret.later (HH.out _)).mono ?_); rintro x _ ⟨rfl, e, rfl⟩) | ((with_reducible refine (Ret.later (HG.out _)).mono ?_); rintro x _ ⟨rfl, e, rfl⟩)))
                  go_ret
                  exact Ret.mk (by rw [HS.out]; rfl) (HE.out.trans e.h)
              · have HN := hid hN
                by_cases hS : p.s.sch = 1
                · have hM : ¬ p.s.name = [110, 111, 110, 101] := fun h => hN ⟨hS, h⟩
                  rw [hS] at b6
                  have ma : ((p.s.name) == ([110, 111, 110, 101])) = false := by rw [beq_eq_false_iff_ne]; exact hM
                  have mb : ((p.s.name) = ([110, 111, 110, 101])) = False := eq_false (by exact hM)
                  have mc : ((p.s.name) != ([110, 111, 110, 101])) = true := by rw [bne_iff_ne]; exact hM
                  clear hM hS hN
                  cases hT : TB with
                  | true =>
                    have XT : Hid (p.fl / 16384 % 2 = 1 ∨ p.fl / 262144 % 2 = 1) := HTB.out.1 hT
                    subst hT
                    by_cases hx : p.fl / 2 % 2 = 1
                    · rw [show has p.fl 2 = true by unfold has; simp [hx]] at H2
                      have X2 := hid hx
                      clear hx
                      have HS : Hid (p.right = 8) := by
                        unfold Hid PV.right
                        rw [if_neg (by rw [HR.out]; decide), if_neg (by have := G0.out; omega), if_pos (.inl ⟨XT.out, .inr X2.out⟩)]
                      go_wp2_with (first | (go_at_call 50; first | ((with_reducible refine (Ret.later (KD.out _)).mono ?_); rintro x _ ⟨rfl, e, rfl⟩) | ((with_reducible refine (Ret.later (KS.out _)).mono ?_); rintro x _ ⟨rfl, e, rfl⟩) | ((with_reducible refine (Ret.later (KR.out _)).mono ?_); rintro x _ ⟨rfl, e, rfl⟩)) | (go_at_call 65; first | ((with_reducible refine (Ret.later (H1.out _)).mono ?_); rintro x _ ⟨rfl, e, rfl⟩) | ((with_reducible refine (Ret.later (H2.out _)).mono ?_); rintro x _ ⟨rfl, e, rfl⟩) | ((with_reducible refine (Ret.later (H4.out _)).mono ?_); rintro x _ ⟨rfl, e, rfl⟩) | ((with_reducible refine (Ret.later (HH.out _)).mono ?_); rintro x _ ⟨rfl, e, rfl⟩) | ((with_reducible refine (Ret.later (HG.out _)).mono ?_); rintro x _ ⟨rfl, e, rfl⟩)))
                      go_ret
                      exact Ret.mk (by rw [HS.out]; rfl) (HE.out.trans e.h)
                    · rw [show has p.fl 2 = false by unfold has; simp; omega] at H2
                      have X2 := hid hx
                      clear hx
                      have HS : Hid (p.right = 0) := by
                        unfold Hid PV.right
                        rw [if_neg (by rw [HR.out]; decide), if_neg (by have := G0.out; omega), if_neg (fun h => h.elim (fun h => h.2.elim HN.out X2.out) (fun h => HN.out h.1))]
                      go_wp2_with (first | (go_at_call 50; first | ((with_reducible refine (Ret.later (KD.out _)).mono ?_); rintro x _ ⟨rfl, e, rfl⟩) | ((with_reducible refine (Ret.later (KS.out _)).mono ?_); rintro x _ ⟨rfl, e, rfl⟩) | ((with_reducible refine (Ret.later (KR.out _)).mono ?_); rintro x _ ⟨rfl, e, rfl⟩)) | (go_at_call 65; first | ((with_reducible refine (Ret.later (H1.out _)).mono ?_); rintro x _ ⟨rfl, e, rfl⟩) | ((with_reducible refine (Ret.later (H2.out _)).mono ?_); rintro x _ ⟨rfl, e, rfl⟩) | ((with_reducible refine (Ret.later (H4.out _)).mono ?_); rintro x _ ⟨rfl, e, rfl⟩) | ((with_reducible refine (Ret.later (HH.out _)).mono ?_); rintro x _ ⟨rfl, e, rfl⟩) | ((with_reducible refine (Ret.later (HG.out _)).mono ?_); rintro x _ ⟨rfl, e, rfl⟩)))
                      go_ret
                      exact Ret.mk (by rw [HS.out]; rfl) (HE.out.trans e.h)
                  | false =>
                    have XT : Hid (¬ (p.fl / 16384 % 2 = 1 ∨ p.fl / 262144 % 2 = 1)) := fun h => by have := HTB.out.2 h; rw [hT] at this; cases this
                    subst hT
                    have HS : Hid (p.right = 0) := by
                      unfold Hid PV.right
                      rw [if_neg (by rw [HR.out]; decide), if_neg (by have := G0.out; omega), if_neg (fun h => h.elim (fun h => XT.out h.1) (fun h => HN.out h.1))]
                    go_wp2_with (first | (go_at_call 50; first | ((with_reducible refine (Ret.later (KD.out _)).mono ?_); rintro x _ ⟨rfl, e, rfl⟩) | ((with_reducible refine (Ret.later (KS.out _)).mono ?_); rintro x _ ⟨rfl, e, rfl⟩) | ((with_reducible refine (Ret.later (KR.out _)).mono ?_); rintro x _ ⟨rfl, e, rfl⟩)) | (go_at_call 65; first | ((with_reducible refine (Ret.later (H1.out _)).mono ?_); rintro x _ ⟨rfl, e, rfl⟩) | ((with_reducible refine (Ret.later (H2.out _)).mono ?_); rintro x _ ⟨rfl, e, rfl⟩) | ((with_reducible refine (Ret.later (H4.out _)).mono ?_); rintro x _ ⟨rfl, e, rfl⟩) | ((with_reducible refine (Ret.later (HH.out _)).mono ?_); rintro x _ ⟨rfl, e, rfl⟩) | ((with_reducible refine (Ret.later (HG.out _)).mono ?_); rintro x _ ⟨rfl, e, rfl⟩)))
                    go_ret
                    exact Ret.mk (by rw [HS.out]; rfl) (HE.out.trans e.h)
                · have ma : ((p.s.sch) == (1)) = false := by rw [beq_eq_false_iff_ne]; omega
                  have mb : ((p.s.sch) = (1)) = False := eq_false (by omega)
                  have mc : ((p.s.sch) != (1)) = true := by rw [bne_iff_ne]; omega
                  clear hS hN
                  cases hT : TB with
                  | true =>
                    have XT : Hid (p.fl / 16384 % 2 = 1 ∨ p.fl / 262144 % 2 = 1) := HTB.out.1 hT
                    subst hT
                    by_cases hx : p.fl / 2 % 2 = 1
                    · rw [show has p.fl 2 = true by unfold has; simp [hx]] at H2
                      have X2 := hid hx
                      clear hx
                      have HS : Hid (p.right = 8) := by
                        unfold Hid PV.right
                        rw [if_neg (by rw [HR.out]; decide), if_neg (by have := G0.out; omega), if_pos (.inl ⟨XT.out, .inr X2.out⟩)]
                      go_wp2_with (first | (go_at_call 50; first | ((with_reducible refine (Ret.later (KD.out _)).mono ?_); rintro x _ ⟨rfl, e, rfl⟩) | ((with_reducible refine (Ret.later (KS.out _)).mono ?_); rintro x _ ⟨rfl, e, rfl⟩) | ((with_reducible refine (Ret.later (KR.out _)).mono ?_); rintro x _ ⟨rfl, e, rfl⟩)) | (go_at_call 65; first | ((with_reducible refine (Ret.later (H1.out _)).mono ?_); rintro x _ ⟨rfl, e, rfl⟩) | ((with_reducible refine (Ret.later (H2.out _)).mono ?_); rintro x _ ⟨rfl, e, rfl⟩) | ((with_reducible refine (Ret.later (H4.out _)).mono ?_); rintro x _ ⟨rfl, e, rfl⟩) | ((with_reducible refine (Ret.later (HH.out _)).mono ?_); rintro x _ ⟨rfl, e, rfl⟩) | ((with_reducible refine (Ret.later (HG.out _)).mono ?_); rintro x _ ⟨rfl, e, rfl⟩)))
                      go_ret
                      exact Ret.mk (by rw [HS.out]; rfl) (HE.out.trans e.h)
                    · rw [show has p.fl 2 = false by unfold has; simp; omega] at H2
                      have X2 := hid hx
                      clear hx
                      have HS : Hid (p.right = 0) := by
                        unfold Hid PV.right
                        rw [if_neg (by rw [HR.out]; decide), if_neg (by have := G0.out; omega), if_neg (fun h => h.elim (fun h => h.2.elim HN.out X2.out) (fun h => HN.out h.1))]
                      go_wp2_with (first | (go_at_call 50; first | ((with_reducible refine (Ret.later (KD.out _)).mono ?_); rintro x _ ⟨rfl, e, rfl⟩) | ((with_reducible refine (Ret.later (KS.out _)).mono ?_); rintro x _ ⟨rfl, e, rfl⟩) | ((with_reducible refine (Ret.later (KR.out _)).mono ?_); rintro x _ ⟨rfl, e, rfl⟩)) | (go_at_call 65; first | ((with_reducible refine (Ret.later (H1.out _)).mono ?_); rintro x _ ⟨rfl, e, rfl⟩) | ((with_reducible refine (Ret.later (H2.out _)).mono ?_); rintro x _ ⟨rfl, e, rfl⟩) | ((with_reducible refine (Ret.later (H4.out _)).mono ?_); rintro x _ ⟨rfl, e, rfl⟩) | ((with_reducible refine (Ret.later (HH.out _)).mono ?_); rintro x _ ⟨rfl, e, rfl⟩) | ((with_reducible refine (Ret.later (HG.out _)).mono ?_); rintro x _ ⟨rfl, e, rfl⟩)))
                      go_ret
                      exact Ret.mk (by rw [HS.out]; rfl) (HE.out.trans e.h)
                  | false =>
                    have XT : Hid (¬ (p.fl / 16384 % 2 = 1 ∨ p.fl / 262144 % 2 = 1)) := fun h => by have := HTB.out.2 h; rw [hT] at this; cases this
                    subst hT
                    have HS : Hid (p.right = 0) := by
                      unfold Hid PV.right
                      rw [if_neg (by rw [HR.out]; decide), if_neg (by have := G0.out; omega), if_neg (fun h => h.elim (fun h => XT.out h.1) (fun h => HN.out h.1))]
                    go_wp2_with (first | (go_at_call 50; first | ((with_reducible refine (Ret.later (KD.out _)).mono ?_); rintro x _ ⟨rfl, e, rfl⟩) | ((with_reducible refine (Ret.later (KS.out _)).mono ?_); rintro x _ ⟨rfl, e, rfl⟩) | ((with_reducible refine (Ret.later (KR.out _)).mono ?_); rintro x _ ⟨rfl, e, rfl⟩)) | (go_at_call 65; first | ((with_reducible refine (Ret.later (H1.out _)).mono ?_); rintro x _ ⟨rfl, e, rfl⟩) | ((with_reducible refine (Ret.later (H2.out _)).mono ?_); rintro x _ ⟨rfl, e, rfl⟩) | ((with_reducible refine (Ret.later (H4.out _)).mono ?_); rintro x _ ⟨rfl, e, rfl⟩) | ((with_reducible refine (Ret.later (HH.out _)).mono ?_); rintro x _ ⟨rfl, e, rfl⟩) | ((with_reducible refine (Ret.later (HG.out _)).mono ?_); rintro x _ ⟨rfl, e, rfl⟩)))
                    go_ret
                    exact Ret.mk (by rw [HS.out]; rfl) (HE.out.trans e.h)
            | false =>
              rw [hx1] at H1
              have F1 : Hid (¬ p.fl % 2 = 1) := by unfold has at hx1; unfold Hid; simpa using hx1
              clear hx1
              go_upto_region 10 with (first | (go_at_call 50; first | ((with_reducible refine (Ret.later (KD.out _)).mono ?_); rintro x _ ⟨rfl, e, rfl⟩) | ((with_reducible refine (Ret.later (KS.out _)).mono ?_); rintro x _ ⟨rfl, e, rfl⟩) | ((with_reducible refine (Ret.later (KR.out _)).mono ?_); rintro x _ ⟨rfl, e, rfl⟩)) | (go_at_call 65; first | ((with_reducible refine (Ret.later (H1.out _)).mono ?_); rintro x _ ⟨rfl, e, rfl⟩) | ((with_reducible refine (Ret.later (H2.out _)).mono ?_); rintro x _ ⟨rfl, e, rfl⟩) | ((with_reducible refine (Ret.later (H4.out _)).mono ?_); rintro x _ ⟨rfl, e, rfl⟩) | ((with_reducible refine (Ret.later (HH.out _)).mono ?_); rintro x _ ⟨rfl, e, rfl⟩) | ((with_reducible refine (Ret.later (HG.out _)).mono ?_); rintro x _ ⟨rfl, e, rfl⟩)))
              go_cut [6] (fun s6 wx => s6 = .bool (has p.fl 16384 || has p.fl 262144) ∧ ∃ e : Later V2, wx = e.x)
              case first =>
                cases h1 : has p.fl 16384
                all_goals rw [h1] at HH
                all_goals cases h2 : has p.fl 262144
                all_goals rw [h2] at HG
                all_goals have Q1 := hid h1
                all_goals have Q2 := hid h2
                all_goals clear h1 h2
                all_goals go_wp2_with (first | (go_at_call 50; first | ((with_reducible refine (Ret.later (KD.out _)).mono ?_); rintro x _ ⟨rfl, e, rfl⟩) | ((with_reducible refine (Ret.later (KS.out _)).mono ?_); rintro x _ ⟨rfl, e, rfl⟩) | ((with_reducible refine (Ret.later (KR.out _)).mono ?_); rintro x _ ⟨rfl, e, rfl⟩)) | (go_at_call 65; first | ((with_reducible refine (Ret.later (H1.out _)).mono ?_); rintro x _ ⟨rfl, e, rfl⟩) | ((with_reducible refine (Ret.later (H2.out _)).mono ?_); rintro x _ ⟨rfl, e, rfl⟩) | ((with_reducible refine (Ret.later (H4.out _)).mono ?_); rintro x _ ⟨rfl, e, rfl⟩) | ((with_reducible refine (Ret.later (HH.out _)).mono ?_); rintro x _ ⟨rfl, e, rfl⟩) | ((with_reducible refine (Ret.later (HG.out _)).mono ?_); rintro x _ ⟨rfl, e, rfl⟩)))
                all_goals go_meet
                all_goals exact ⟨by rw [Q1.out, Q2.out]; rfl, e, rfl⟩
              obtain ⟨rfl, e, rfl⟩ := hcut
              generalize (has p.fl 16384 || has p.fl 262144) = TB at *
              by_cases hx : 0 < p.o
              · have za : decide ((0 : Int) < (p.o : Int)) = true := decide_eq_true (by omega)
                have zb : ((0 : Int) < (p.o : Int)) = True := eq_true (by omega)
                have ka : decide (0 < p.o) = true := decide_eq_true (by omega)
                have kb : (0 < p.o) = True := eq_true (by omega)
                have Y := hid hx
                clear hx
                have HS : Hid (p.right = 8) := by
                  unfold Hid PV.right
                  rw [if_neg (by rw [HR.out]; decide), if_pos (.inr ⟨F1.out, .inl Y.out⟩)]
                go_wp2_with (first | (go_at_call 50; first | ((with_reducible refine (Ret.later (KD.out _)).mono ?_); rintro x _ ⟨rfl, e, rfl⟩) | ((with_reducible refine (Ret.later (KS.out _)).mono ?_); rintro x _ ⟨rfl, e, rfl⟩) | ((with_reducible refine (Ret.later (KR.out _)).mono ?_); rintro x _ ⟨rfl, e, rfl⟩)) | (go_at_call 65; first | ((with_reducible refine (Ret.later (H1.out _)).mono ?_); rintro x _ ⟨rfl, e, rfl⟩) | ((with_reducible refine (Ret.later (H2.out _)).mono ?_); rintro x _ ⟨rfl, e, rfl⟩) | ((with_reducible refine (Ret.later (H4.out _)).mono ?_); rintro x _ ⟨rfl, e, rfl⟩) | ((with_reducible refine (Ret.later (HH.out _)).mono ?_); rintro x _ ⟨rfl, e, rfl⟩) | ((with_reducible refine (Ret.later (HG.out _)).mono ?_); rintro x _ ⟨rfl, e, rfl⟩)))
                go_ret
                exact Ret.mk (by rw [HS.out]; rfl) (HE.out.trans e.h)
              by_cases hy : 0 < p.n
              · have za : decide ((0 : Int) < (p.o : Int)) = false := decide_eq_false (by omega)
                have zb : ((0 : Int) < (p.o : Int)) = False := eq_false (by omega)
                have ka : decide (0 < p.o) = false := decide_eq_false (by omega)
                have kb : (0 < p.o) = False := eq_false (by omega)
                have sa : decide ((0 : Int) < (p.n : Int)) = true := decide_eq_true (by omega)
                have sb : ((0 : Int) < (p.n : Int)) = True := eq_true (by omega)
                have ga : decide (0 < p.n) = true := decide_eq_true (by omega)
                have gb : (0 < p.n) = True := eq_true (by omega)
                have Y := hid hy
                clear hy hx
                have HS : Hid (p.right = 8) := by
                  unfold Hid PV.right
                  rw [if_neg (by rw [HR.out]; decide), if_pos (.inr ⟨F1.out, .inr Y.out⟩)]
                go_wp2_with (first | (go_at_call 50; first | ((with_reducible refine (Ret.later (KD.out _)).mono ?_); rintro x _ ⟨rfl, e, rfl⟩) | ((with_reducible refine (Ret.later (KS.out _)).mono ?_); rintro x _ ⟨rfl, e, rfl⟩) | ((with_reducible refine (Ret.later (KR.out _)).mono ?_); rintro x _ ⟨rfl, e, rfl⟩)) | (go_at_call 65; first | ((with_reducible refine (Ret.later (H1.out _)).mono ?_); rintro x _ ⟨rfl, e, rfl⟩) | ((with_reducible refine (Ret.later (H2.out _)).mono ?_); rintro x _ ⟨rfl, e, rfl⟩) | ((with_reducible refine (Ret.later (H4.out _)).mono ?_); rintro x _ ⟨rfl, e, rfl⟩) | ((with_reducible refine (Ret.later (HH.out _)).mono ?_); rintro x _ ⟨rfl, e, rfl⟩) | ((with_reducible refine (Ret.later (HG.out _)).mono ?_); rintro x _ ⟨rfl, e, rfl⟩)))
                go_ret
                exact Ret.mk (by rw [HS.out]; rfl) (HE.out.trans e.h)
              have G0 : Hid (¬ ((p.fl % 2 = 1 ∧ (p.fl / 4 % 2 = 1 ∨ p.n ≤ p.o)) ∨ (¬ p.fl % 2 = 1 ∧ (0 < p.o ∨ 0 < p.n)))) := by have := F1.out; unfold Hid; omega
              have ho : p.o = 0 := by omega
              have hn : p.n = 0 := by omega
              rw [ho] at b17
              rw [hn] at b18
              clear hx hy ho hn
              by_cases hN : p.none
              · have n1 : p.s.sch = 1 := hN.1
                have n2 : p.s.name = [110, 111, 110, 101] := hN.2
                rw [n1] at b6
                rw [n2] at b7
                clear n1 n2
                have HN := hid hN
                clear hN
                cases hT : TB with
                | true =>
                  have XT : Hid (p.fl / 16384 % 2 = 1 ∨ p.fl / 262144 % 2 = 1) := HTB.out.1 hT
                  subst hT
                  have HS : Hid (p.right = 8) := by
                    unfold Hid PV.right
                    rw [if_neg (by rw [HR.out]; decide), if_neg (by have := G0.out; omega), if_pos (.inl ⟨XT.out, .inl HN.out⟩)]
                  go_wp2_with (first | (go_at_call 50; first | ((with_reducible refine (Ret.later (KD.out _)).mono ?_); rintro x _ ⟨rfl, e, rfl⟩) | ((with_reducible refine (Ret.later (KS.out _)).mono ?_); rintro x _ ⟨rfl, e, rfl⟩) | ((with_reducible refine (Ret.later (KR.out _)).mono ?_); rintro x _ ⟨rfl, e, rfl⟩)) | (go_at_call 65; first | ((with_reducible refine (Ret.later (H1.out _)).mono ?_); rintro x _ ⟨rfl, e, rfl⟩) | ((with_reducible refine (Ret.later (H2.out _)).mono ?_); rintro x _ ⟨rfl, e, rfl⟩) | ((with_reducible refine (Ret.later (H4.out _)).mono ?_); rintro x _ ⟨rfl, e, rfl⟩) | ((with_reducible refine (Ret.later (HH.out _)).mono ?_); rintro x _ ⟨rfl, e, rfl⟩) | ((with_reducible refine (Ret.later (HG.out _)).mono ?_); rintro x _ ⟨rfl, e, rfl⟩)))
                  go_ret
                  exact Ret.mk (by rw [HS.out]; rfl) (HE.out.trans e.h)
                | false =>
                  have XT : Hid (¬ (p.fl / 16384 % 2 = 1 ∨ p.fl / 262144 % 2 = 1)) := fun h => by have := HTB.out.2 h; rw [hT] at this; cases this
                  subst hT
                  by_cases hx : p.fl / 4 % 2 = 1
                  · rw [show has p.fl 4 = true by unfold has; simp [hx]] at H4
                    have X4 := hid hx
                    clear hx
                    have HS : Hid (p.right = 0) := by
                      unfold Hid PV.right
                      rw [if_neg (by rw [HR.out]; decide), if_neg (by have := G0.out; omega), if_neg (fun h => h.elim (fun h => XT.out h.1) (fun h => h.2 X4.out))]
                    go_wp2_with (first | (go_at_call 50; first | ((with_reducible refine (Ret.later (KD.out _)).mono ?_); rintro x _ ⟨rfl, e, rfl⟩) | ((with_reducible refine (Ret.later (KS.out _)).mono ?_); rintro x _ ⟨rfl, e, rfl⟩) | ((with_reducible refine (Ret.later (KR.out _)).mono ?_); rintro x _ ⟨rfl, e, rfl⟩)) | (go_at_call 65; first | ((with_reducible refine (Ret.later (H1.out _)).mono ?_); rintro x _ ⟨rfl, e, rfl⟩) | ((with_reducible refine (Ret.later (H2.out _)).mono ?_); rintro x _ ⟨rfl, e, rfl⟩) | ((with_reducible refine (Ret.later (H4.out _)).mono ?_); rintro x _ ⟨rfl, e, rfl⟩) | ((with_reducible refine (Ret.later (HH.out _)).mono ?_); rintro x _ ⟨rfl, e, rfl⟩) | ((with_reducible refine (Ret.later (HG.out _)).mono ?_); rintro x _ ⟨rfl, e, rfl⟩)))
                    go_ret
                    exact Ret.mk (by rw [HS.out]; rfl) (HE.out.trans e.h)
                  · rw [show has p.fl 4 = false by unfold has; simp; omega] at H4
                    have X4 := hid hx
                    clear hx
                    have HS : Hid (p.right = 8) := by
                      unfold Hid PV.right
                      rw [if_neg (by rw [HR.out]; decide), if_neg (by have := G0.out; omega), if_pos (.inr ⟨HN.out, X4.out⟩)]
                    go_wp2_with (first | (go_at_call 50; first | ((with_reducible refine (Ret.later (KD.out _)).mono ?_); rintro x _ ⟨rfl, e, rfl⟩) | ((with_reducible refine (Ret.later (KS.out _)).mono ?_); rintro x _ ⟨rfl, e, rfl⟩) | ((with_reducible refine (Ret.later (KR.out _)).mono ?_); rintro x _ ⟨rfl, e, rfl⟩)) | (go_at_call 65; first | ((with_reducible refine (Ret.later (H1.out _)).mono ?_); rintro x _ ⟨rfl, e, rfl⟩) | ((with_reducible refine (Ret.later (H2.out _)).mono ?_); rintro x _ ⟨rfl, e, rfl⟩) | ((with_reducible refine (Ret.later (H4.out _)).mono ?_); rintro x _ ⟨rfl, e, rfl⟩) | ((with_reducible refine (Ret.later (HH.out _)).mono ?_); rintro x _ ⟨rfl, e, rfl⟩) | ((with_reducible refine (Ret.later (HG.out _)).mono ?_); rintro x _ ⟨rfl, e, rfl⟩)))
                    go_ret
                    exact Ret.mk (by rw [HS.out]; rfl) (HE.out.trans e.h)
              · have HN := hid hN
                by_cases hS : p.s.sch = 1
                · have hM : ¬ p.s.name = [110, 111, 110, 101] := fun h => hN ⟨hS, h⟩
                  rw [hS] at b6
                  have ma : ((p.s.name) == ([110, 111, 110, 101])) = false := by rw [beq_eq_false_iff_ne]; exact hM
                  have mb : ((p.s.name) = ([110, 111, 110, 101])) = False := eq_false (by exact hM)
                  have mc : ((p.s.name) != ([110, 111, 110, 101])) = true := by rw [bne_iff_ne]; exact hM
                  clear hM hS hN
                  cases hT : TB with
                  | true =>
                    have XT : Hid (p.fl / 16384 % 2 = 1 ∨ p.fl / 262144 % 2 = 1) := HTB.out.1 hT
                    subst hT
                    by_cases hx : p.fl / 2 % 2 = 1
                    · rw [show has p.fl 2 = true by unfold has; simp [hx]] at H2
                      have X2 := hid hx
                      clear hx
                      have HS : Hid (p.right = 8) := by
                        unfold Hid PV.right
                        rw [if_neg (by rw [HR.out]; decide), if_neg (by have := G0.out; omega), if_pos (.inl ⟨XT.out, .inr X2.out⟩)]
                      go_wp2_with (first | (go_at_call 50; first | ((with_reducible refine (Ret.later (KD.out _)).mono ?_); rintro x _ ⟨rfl, e, rfl⟩) | ((with_reducible refine (Ret.later (KS.out _)).mono ?_); rintro x _ ⟨rfl, e, rfl⟩) | ((with_reducible refine (Ret.later (KR.out _)).mono ?_); rintro x _ ⟨rfl, e, rfl⟩)) | (go_at_call 65; first | ((with_reducible refine (Ret.later (H1.out _)).mono ?_); rintro x _ ⟨rfl, e, rfl⟩) | ((with_reducible refine (Ret.later (H2.out _)).mono ?_); rintro x _ ⟨rfl, e, rfl⟩) | ((with_reducible refine (Ret.later (H4.out _)).mono ?_); rintro x _ ⟨rfl, e, rfl⟩) | ((with_reducible refine (Ret.later (HH.out _)).mono ?_); rintro x _ ⟨rfl, e, rfl⟩) | ((with_reducible refine (Ret.later (HG.out _)).mono ?_); rintro x _ ⟨rfl, e, rfl⟩)))
                      go_ret
                      exact Ret.mk (by rw [HS.out]; rfl) (HE.out.trans e.h)
                    · rw [show has p.fl 2 = false by unfold has; simp; omega] at H2
                      have X2 := hid hx
                      clear hx
                      have HS : Hid (p.right = 0) := by
                        unfold Hid PV.right
                        rw [if_neg (by rw [HR.out]; decide), if_neg (by have := G0.out; omega), if_neg (fun h => h.elim (fun h => h.2.elim HN.out X2.out) (fun h => HN.out h.1))]
                      go_wp2_with (first | (go_at_call 50; first | ((with_reducible refine (Ret.later (KD.out _)).mono ?_); rintro x _ ⟨rfl, e, rfl⟩) | ((with_reducible refine (Ret.later (KS.out _)).mono ?_); rintro x _ ⟨rfl, e, rfl⟩) | ((with_reducible refine (Ret.later (KR.out _)).mono ?_); rintro x _ ⟨rfl, e, rfl⟩)) | (go_at_call 65; first | ((with_reducible refine (Ret.later (H1.out _)).mono ?_); rintro x _ ⟨rfl, e, rfl⟩) | ((with_reducible refine (Ret.later (H2.out _)).mono ?_); rintro x _ ⟨rfl, e, rfl⟩) | ((with_reducible refine (Ret.later (H4.out _)).mono ?_); rintro x _ ⟨rfl, e, rfl⟩) | ((with_reducible refine (Ret.later (HH.out _)).mono ?_); rintro x _ ⟨rfl, e, rfl⟩) | ((with_reducible refine (Ret.later (HG.out _)).mono ?_); rintro x _ ⟨rfl, e, rfl⟩)))
                      go_ret
                      exact Ret.mk (by rw [HS.out]; rfl) (HE.out.trans e.h)
                  | false =>
                    have XT : Hid (¬ (p.fl / 16384 % 2 = 1 ∨ p.fl / 262144 % 2 = 1)) := fun h => by have := HTB.out.2 h; rw [hT] at this; cases this
                    subst hT
                    have HS : Hid (p.right = 0) := by
                      unfold Hid PV.right
                      rw [if_neg (by rw [HR.out]; decide), if_neg (by have := G0.out; omega), if_neg (fun h => h.elim (fun h => XT.out h.1) (fun h => HN.out h.1))]
                    go_wp2_with (first | (go_at_call 50; first | ((with_reducible refine (Ret.later (KD.out _)).mono ?_); rintro x _ ⟨rfl, e, rfl⟩) | ((with_reducible refine (Ret.later (KS.out _)).mono ?_); rintro x _ ⟨rfl, e, rfl⟩) | ((with_reducible refine (Ret.later (KR.out _)).mono ?_); rintro x _ ⟨rfl, e, rfl⟩)) | (go_at_call 65; first | ((with_reducible refine (Ret.later (H1.out _)).mono ?_); rintro x _ ⟨rfl, e, rfl⟩) | ((with_reducible refine (Ret.later (H2.out _)).mono ?_); rintro x _ ⟨rfl, e, rfl⟩) | ((with_reducible refine (Ret.later (H4.out _)).mono ?_); rintro x _ ⟨rfl, e, rfl⟩) | ((with_reducible refine (Ret.later (HH.out _)).mono ?_); rintro x _ ⟨rfl, e, rfl⟩) | ((with_reducible refine (Ret.later (HG.out _)).mono ?_); rintro x _ ⟨rfl, e, rfl⟩)))
                    go_ret
                    exact Ret.mk (by rw [HS.out]; rfl) (HE.out.trans e.h)
                · have ma : ((p.s.sch) == (1)) = false := by rw [beq_eq_false_iff_ne]; omega
                  have mb : ((p.s.sch) = (1)) = False := eq_false (by omega)
                  have mc : ((p.s.sch) != (1)) = true := by rw [bne_iff_ne]; omega
                  clear hS hN
                  cases hT : TB with
                  | true =>
                    have XT : Hid (p.fl / 16384 % 2 = 1 ∨ p.fl / 262144 % 2 = 1) := HTB.out.1 hT
                    subst hT
                    by_cases hx : p.fl / 2 % 2 = 1
                    · rw [show has p.fl 2 = true by unfold has; simp [hx]] at H2
                      have X2 := hid hx
                      clear hx
                      have HS : Hid (p.right = 8) := by
                        unfold Hid PV.right
                        rw [if_neg (by rw [HR.out]; decide), if_neg (by have := G0.out; omega), if_pos (.inl ⟨XT.out, .inr X2.out⟩)]
                      go_wp2_with (first | (go_at_call 50; first | ((with_reducible refine (Ret.later (KD.out _)).mono ?_); rintro x _ ⟨rfl, e, rfl⟩) | ((with_reducible refine (Ret.later (KS.out _)).mono ?_); rintro x _ ⟨rfl, e, rfl⟩) | ((with_reducible refine (Ret.later (KR.out _)).mono ?_); rintro x _ ⟨rfl, e, rfl⟩)) | (go_at_call 65; first | ((with_reducible refine (Ret.later (H1.out _)).mono ?_); rintro x _ ⟨rfl, e, rfl⟩) | ((with_reducible refine (Ret.later (H2.out _)).mono ?_); rintro x _ ⟨rfl, e, rfl⟩) | ((with_reducible refine (Ret.later (H4.out _)).mono ?_); rintro x _ ⟨rfl, e, rfl⟩) | ((with_reducible refine (Ret.later (HH.out _)).mono ?_); rintro x _ ⟨rfl, e, rfl⟩) | ((with_reducible refine (Ret.later (HG.out _)).mono ?_); rintro x _ ⟨rfl, e, rfl⟩)))
                      go_ret
                      exact Ret.mk (by rw [HS.out]; rfl) (HE.out.trans e.h)
                    · rw [show has p.fl 2 = false by unfold has; simp; omega] at H2
                      have X2 := hid hx
                      clear hx
                      have HS : Hid (p.right = 0) := by
                        unfold Hid PV.right
                        rw [if_neg (by rw [HR.out]; decide), if_neg (by have := G0.out; omega), if_neg (fun h => h.elim (fun h => h.2.elim HN.out X2.out) (fun h => HN.out h.1))]
                      go_wp2_with (first | (go_at_call 50; first | ((with_reducible refine (Ret.later (KD.out _)).mono ?_); rintro x _ ⟨rfl, e, rfl⟩) | ((with_reducible refine (Ret.later (KS.out _)).mono ?_); rintro x _ ⟨rfl, e, rfl⟩) | ((with_reducible refine (Ret.later (KR.out _)).mono ?_); rintro x _ ⟨rfl, e, rfl⟩)) | (go_at_call 65; first | ((with_reducible refine (Ret.later (H1.out _)).mono ?_); rintro x _ ⟨rfl, e, rfl⟩) | ((with_reducible refine (Ret.later (H2.out _)).mono ?_); rintro x _ ⟨rfl, e, rfl⟩) | ((with_reducible refine (Ret.later (H4.out _)).mono ?_); rintro x _ ⟨rfl, e, rfl⟩) | ((with_reducible refine (Ret.later (HH.out _)).mono ?_); rintro x _ ⟨rfl, e, rfl⟩) | ((with_reducible refine (Ret.later (HG.out _)).mono ?_); rintro x _ ⟨rfl, e, rfl⟩)))
                      go_ret
                      exact Ret.mk (by rw [HS.out]; rfl) (HE.out.trans e.h)
                  | false =>
                    have XT : Hid (¬ (p.fl / 16384 % 2 = 1 ∨ p.fl / 262144 % 2 = 1)) := fun h => by have := HTB.out.2 h; rw [hT] at this; cases this
                    subst hT
                    have HS : Hid (p.right = 0) := by
                      unfold Hid PV.right
                      rw [if_neg (by rw [HR.out]; decide), if_neg (by have := G0.out; omega), if_neg (fun h => h.elim (fun h => XT.out h.1) (fun h => HN.out h.1))]
                    go_wp2_with (first | (go_at_call 50; first | ((with_reducible refine (Ret.later (KD.out _)).mono ?_); rintro x _ ⟨rfl, e, rfl⟩) | ((with_reducible refine (Ret.later (KS.out _)).mono ?_); rintro x _ ⟨rfl, e, rfl⟩) | ((with_reducible refine (Ret.later (KR.out _)).mono ?_); rintro x _ ⟨rfl, e, rfl⟩)) | (go_at_call 65; first | ((with_reducible refine (Ret.later (H1.out _)).mono ?_); rintro x _ ⟨rfl, e, rfl⟩) | ((with_reducible refine (Ret.later (H2.out _)).mono ?_); rintro x _ ⟨rfl, e, rfl⟩) | ((with_reducible refine (Ret.later (H4.out _)).mono ?_); rintro x _ ⟨rfl, e, rfl⟩) | ((with_reducible refine (Ret.later (HH.out _)).mono ?_); rintro x _ ⟨rfl, e, rfl⟩) | ((with_reducible refine (Ret.later (HG.out _)).mono ?_); rintro x _ ⟨rfl, e, rfl⟩)))
                    go_ret
                    exact Ret.mk (by rw [HS.out]; rfl) (HE.out.trans e.h)
end Go.Proofs.Ytogjghmoankleaa
