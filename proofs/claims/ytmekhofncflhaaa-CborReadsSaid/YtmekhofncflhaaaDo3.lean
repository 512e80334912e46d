/-
  The walk of the reference's Do: strings.
-/
import Derived.Test.YtmekhofncflhaaaDo2
namespace Go.Proofs.Ytmekhofncflhaaa
open Go.RowKit
set_option linter.unusedVariables false

set_option maxRecDepth 20000 in
set_option maxHeartbeats 800000 in
theorem do_sm (r : RS) (kd k : Nat) (hkd : kd < 256) (hk : Hid (kd % 6 = k)) (N : Int) (hok : r.ok) (he : Hid (r.e = 0)) (sz m n : Nat) (o : Bool) (hrd : Hid (readH (r.s.drop r.at_) = some (sz, m, n, o))) (hkk : Hid (k = 2 ∨ k = 3)) (hm : Hid (m ≠ k)) (w : World) : Calls Try.prog 30 #[rrV r, opV kd N] w (Ret (.tuple #[rrV (r.rf 2), tV RS.zero]) w) := by
  show Calls Try.prog 30 #[.agg #[str r.s, .int .i64 (r.at_ : Int), .int .i64 r.bad, .int .i64 r.e], .agg #[.int .u8 (kd : Int), .int .i64 N]] w _
  go_enter Try.func30, Try.ntmps30
  go_upto_region 1 with fail
  go_cut [6] (fun s wx => s = .int .u8 (k : Int) ∧ Ext w wx ∧ wx.heap.size = w.heap.size + 4 ∧ Blk wx w.heap.size 45 #[str r.s, .int .i64 (r.at_ : Int), .int .i64 r.bad, .int .i64 r.e] ∧ Blk wx (w.heap.size + 1) 51 #[.int .u8 (kd : Int), .int .i64 N] ∧ Blk wx (w.heap.size + 2) 45 #[str [], .int .i64 0, .int .i64 0, .int .i64 0] ∧ Blk wx (w.heap.size + 3) 47 #[.int .i64 0, .int .u64 0, .bool false, str [], .int .i64 0])
  case first =>
    go_wp2_with fail
    go_meet
    exact ⟨kind_mod hkd hk, (((((Mod.refl _ _).alloc _).alloc _).alloc _).alloc _), by simp, (((blk_new' rfl).alloc _).alloc _).alloc _, ((blk_new' (by simp)).alloc _).alloc _, (blk_new' (by simp)).alloc _, blk_new' (by simp)⟩
  obtain ⟨rfl, hE, hsz, B0, B1, B2, B3⟩ := hcut
  have hsz2 : w.heap.size + 3 < wc.heap.size := by omega
  have HSZ := hid hsz; clear hsz
  obtain ⟨a0, a1, a2, a3⟩ := blk4 B0
  obtain ⟨o0, o1⟩ := blk2 B1
  obtain ⟨x0, x1, x2, x3⟩ := blk4 B2
  obtain ⟨y0, y1, y2, y3, y4⟩ := blk5 B3
  have z2 := B2.frozen
  have z3 := B3.frozen
  have te : (r.e != 0) = false := by simp [he.out]
  have tk0 : ((k : Int) == 0) = false := by have := hkk.out; simp; omega
  have tk1 : ((k : Int) == 1) = false := by have := hkk.out; simp; omega
  have tk4 : ((k : Int) == 4) = false := by have := hkk.out; simp; omega
  have tk5 : ((k : Int) == 5) = false := by have := hkk.out; simp; omega
  have tm : ((m : Int) != wrap64 (k : Int)) = true := by have := hm.out; have := hkk.out; rw [IntWalk.wrap64_in _ (by omega)]; simp; omega
  have hrest : Value.string ((⟨r.s.toArray⟩ : ByteArray).extract r.at_ r.s.length) = str (r.s.drop r.at_) := extract_rest _ _
  have hat := hok.1
  have hsm := readH_some hrd.out
  have hszp : Hid (0 < sz) := hsm.pos
  have hszle : Hid (r.at_ + sz ≤ r.s.length) := by have h1 := hsm.le; rw [List.length_drop] at h1; unfold Hid; omega
  have hnb : Hid (n < 18446744073709551616) := hsm.n64
  have hbig := hid hok.2.2
  clear hsm
  have tz : ((sz : Int) == 0) = false := by have := hszp.out; simp; omega
  have hww : wrap64 ((r.at_ : Int) + (sz : Int)) = (r.at_ : Int) + (sz : Int) := IntWalk.wrap64_in _ (by have h1 := hszle.out; have h2 := hbig.out; omega)
  go_upto_region 6 with fail
  go_cut [7] (fun s wx => ∃ g, s = .pointer (some ⟨g, 0, none⟩) ∧ w.heap.size + 3 < g ∧ g < wx.heap.size ∧ Ext w wx ∧ Blk wx g 84 #[.int .i64 (sz : Int), .int .i64 (m : Int), .int .u64 (n : Int), .bool o] ∧ Blk wx w.heap.size 45 #[str r.s, .int .i64 (r.at_ : Int), .int .i64 r.bad, .int .i64 r.e] ∧ Blk wx (w.heap.size + 1) 51 #[.int .u8 (kd : Int), .int .i64 N] ∧ Blk wx (w.heap.size + 2) 45 #[str [], .int .i64 0, .int .i64 0, .int .i64 0] ∧ Blk wx (w.heap.size + 3) 47 #[.int .i64 0, .int .u64 0, .bool false, str [], .int .i64 0])
  case first =>
    go_wp2_with (go_at_call 55; refine (read_any _ _).mono ?_; rintro e w1 ⟨rfl, hb1⟩; rw [hrd.out]; unfold gotOf gotV; dsimp only; have hsz3 : w.heap.size + 3 < w1.heap.size := Nat.lt_of_lt_of_le hsz2 hb1.size; clear a0 a1 a2 a3 o0 o1 x0 x1 x2 x3 y0 y1 y2 y3 y4 z2 z3)
    go_meet
    exact ⟨w1.heap.size, rfl, hsz3, by simp, (hE.trans hb1).alloc _, Blk.new _ _ _, (B0.ext hb1).alloc _, (B1.ext hb1).alloc _, (B2.ext hb1).alloc _, (B3.ext hb1).alloc _⟩
  clear a0 a1 a2 a3 o0 o1 x0 x1 x2 x3 y0 y1 y2 y3 y4 z2 z3
  obtain ⟨g, rfl, hg1, hg2, hE2, B4, B0, B1, B2, B3⟩ := hcut
  obtain ⟨g0, g1, g2, g3⟩ := blk4 B4
  obtain ⟨a0, a1, a2, a3⟩ := blk4 B0
  obtain ⟨o0, o1⟩ := blk2 B1
  obtain ⟨x0, x1, x2, x3⟩ := blk4 B2
  obtain ⟨y0, y1, y2, y3, y4⟩ := blk5 B3
  have z2 := B2.frozen
  have z3 := B3.frozen
  go_upto_region 9 with fail
  go_cut [8] (fun s wx => ∃ g2, s = .pointer (some ⟨g2, 0, none⟩) ∧ g < g2 ∧ g2 < wx.heap.size ∧ Ext w wx ∧ Blk wx g2 45 #[str r.s, .int .i64 ((r.at_ : Int) + (sz : Int)), .int .i64 (-1), .int .i64 0] ∧ Blk wx g 84 #[.int .i64 (sz : Int), .int .i64 (m : Int), .int .u64 (n : Int), .bool o] ∧ Blk wx w.heap.size 45 #[str r.s, .int .i64 (r.at_ : Int), .int .i64 r.bad, .int .i64 r.e] ∧ Blk wx (w.heap.size + 1) 51 #[.int .u8 (kd : Int), .int .i64 N] ∧ Blk wx (w.heap.size + 2) 45 #[str [], .int .i64 0, .int .i64 0, .int .i64 0] ∧ Blk wx (w.heap.size + 3) 47 #[.int .i64 0, .int .u64 0, .bool false, str [], .int .i64 0])
  case first =>
    go_wp2_with fail
    go_meet
    exact ⟨_, rfl, hg2, by simp, hE2.alloc _, Blk.new _ _ _, B4.alloc _, B0.alloc _, B1.alloc _, B2.alloc _, B3.alloc _⟩
  clear a0 a1 a2 a3 o0 o1 x0 x1 x2 x3 y0 y1 y2 y3 y4 z2 z3 g0 g1 g2 g3
  obtain ⟨gn, rfl, hgn1, hgn2, hE3, B5, B4, B0, B1, B2, B3⟩ := hcut
  obtain ⟨g0, g1, g2, g3⟩ := blk4 B4
  obtain ⟨n0, n1, n2, n3⟩ := blk4 B5
  obtain ⟨a0, a1, a2, a3⟩ := blk4 B0
  obtain ⟨o0, o1⟩ := blk2 B1
  obtain ⟨x0, x1, x2, x3⟩ := blk4 B2
  obtain ⟨y0, y1, y2, y3, y4⟩ := blk5 B3
  have z2 := B2.frozen
  have z3 := B3.frozen
  go_wp2_with (go_at_call 54; refine (rfail_any r 2 _).mono ?_; rintro e w1 ⟨rfl, hb1⟩; unfold rrV toldV; clear a0 a1 a2 a3 o0 o1 x0 x1 x2 x3 y0 y1 y2 y3 y4 z2 z3; replace B0 := B0.ext hb1; replace B1 := B1.ext hb1; replace B2 := B2.ext hb1; replace B3 := B3.ext hb1; obtain ⟨a0, a1, a2, a3⟩ := blk4 B0; obtain ⟨o0, o1⟩ := blk2 B1; obtain ⟨x0, x1, x2, x3⟩ := blk4 B2; obtain ⟨y0, y1, y2, y3, y4⟩ := blk5 B3; have z2 := B2.frozen; have z3 := B3.frozen)
  refine bodyPost_ret (v := .tuple #[rrV (r.rf 2), tV RS.zero]) (by simp [results, Try.results30, go_sem, rrV, tV, toldV, RS.zero, RS.rf, x0, x1, x2, x3, y0, y1, y2, y3, y4]) rfl (Ret.mk rfl ?_)
  repeat (refine Mod.setCell ?_ (.inr (by dsimp only; omega)) _)
  exact hE3.trans hb1

set_option maxRecDepth 20000 in
set_option maxHeartbeats 800000 in
theorem do_so (r : RS) (kd k : Nat) (hkd : kd < 256) (hk : Hid (kd % 6 = k)) (N : Int) (hok : r.ok) (he : Hid (r.e = 0)) (sz m n : Nat) (o : Bool) (hrd : Hid (readH (r.s.drop r.at_) = some (sz, m, n, o))) (hkk : Hid (k = 2 ∨ k = 3)) (hm : Hid (m = k)) (ho : Hid (o = true)) (w : World) : Calls Try.prog 30 #[rrV r, opV kd N] w (Ret (.tuple #[rrV (r.rf 2), tV RS.zero]) w) := by
  show Calls Try.prog 30 #[.agg #[str r.s, .int .i64 (r.at_ : Int), .int .i64 r.bad, .int .i64 r.e], .agg #[.int .u8 (kd : Int), .int .i64 N]] w _
  go_enter Try.func30, Try.ntmps30
  go_upto_region 1 with fail
  go_cut [6] (fun s wx => s = .int .u8 (k : Int) ∧ Ext w wx ∧ wx.heap.size = w.heap.size + 4 ∧ Blk wx w.heap.size 45 #[str r.s, .int .i64 (r.at_ : Int), .int .i64 r.bad, .int .i64 r.e] ∧ Blk wx (w.heap.size + 1) 51 #[.int .u8 (kd : Int), .int .i64 N] ∧ Blk wx (w.heap.size + 2) 45 #[str [], .int .i64 0, .int .i64 0, .int .i64 0] ∧ Blk wx (w.heap.size + 3) 47 #[.int .i64 0, .int .u64 0, .bool false, str [], .int .i64 0])
  case first =>
    go_wp2_with fail
    go_meet
    exact ⟨kind_mod hkd hk, (((((Mod.refl _ _).alloc _).alloc _).alloc _).alloc _), by simp, (((blk_new' rfl).alloc _).alloc _).alloc _, ((blk_new' (by simp)).alloc _).alloc _, (blk_new' (by simp)).alloc _, blk_new' (by simp)⟩
  obtain ⟨rfl, hE, hsz, B0, B1, B2, B3⟩ := hcut
  have hsz2 : w.heap.size + 3 < wc.heap.size := by omega
  have HSZ := hid hsz; clear hsz
  obtain ⟨a0, a1, a2, a3⟩ := blk4 B0
  obtain ⟨o0, o1⟩ := blk2 B1
  obtain ⟨x0, x1, x2, x3⟩ := blk4 B2
  obtain ⟨y0, y1, y2, y3, y4⟩ := blk5 B3
  have z2 := B2.frozen
  have z3 := B3.frozen
  have te : (r.e != 0) = false := by simp [he.out]
  have tk0 : ((k : Int) == 0) = false := by have := hkk.out; simp; omega
  have tk1 : ((k : Int) == 1) = false := by have := hkk.out; simp; omega
  have tk4 : ((k : Int) == 4) = false := by have := hkk.out; simp; omega
  have tk5 : ((k : Int) == 5) = false := by have := hkk.out; simp; omega
  have tm : ((m : Int) != wrap64 (k : Int)) = false := by have := hm.out; have := hkk.out; rw [IntWalk.wrap64_in _ (by omega)]; simp; omega
  have hrest : Value.string ((⟨r.s.toArray⟩ : ByteArray).extract r.at_ r.s.length) = str (r.s.drop r.at_) := extract_rest _ _
  have hat := hok.1
  have hsm := readH_some hrd.out
  have hszp : Hid (0 < sz) := hsm.pos
  have hszle : Hid (r.at_ + sz ≤ r.s.length) := by have h1 := hsm.le; rw [List.length_drop] at h1; unfold Hid; omega
  have hnb : Hid (n < 18446744073709551616) := hsm.n64
  have hbig := hid hok.2.2
  clear hsm
  have tz : ((sz : Int) == 0) = false := by have := hszp.out; simp; omega
  have hww : wrap64 ((r.at_ : Int) + (sz : Int)) = (r.at_ : Int) + (sz : Int) := IntWalk.wrap64_in _ (by have h1 := hszle.out; have h2 := hbig.out; omega)
  go_upto_region 6 with fail
  go_cut [7] (fun s wx => ∃ g, s = .pointer (some ⟨g, 0, none⟩) ∧ w.heap.size + 3 < g ∧ g < wx.heap.size ∧ Ext w wx ∧ Blk wx g 84 #[.int .i64 (sz : Int), .int .i64 (m : Int), .int .u64 (n : Int), .bool o] ∧ Blk wx w.heap.size 45 #[str r.s, .int .i64 (r.at_ : Int), .int .i64 r.bad, .int .i64 r.e] ∧ Blk wx (w.heap.size + 1) 51 #[.int .u8 (kd : Int), .int .i64 N] ∧ Blk wx (w.heap.size + 2) 45 #[str [], .int .i64 0, .int .i64 0, .int .i64 0] ∧ Blk wx (w.heap.size + 3) 47 #[.int .i64 0, .int .u64 0, .bool false, str [], .int .i64 0])
  case first =>
    go_wp2_with (go_at_call 55; refine (read_any _ _).mono ?_; rintro e w1 ⟨rfl, hb1⟩; rw [hrd.out]; unfold gotOf gotV; dsimp only; have hsz3 : w.heap.size + 3 < w1.heap.size := Nat.lt_of_lt_of_le hsz2 hb1.size; clear a0 a1 a2 a3 o0 o1 x0 x1 x2 x3 y0 y1 y2 y3 y4 z2 z3)
    go_meet
    exact ⟨w1.heap.size, rfl, hsz3, by simp, (hE.trans hb1).alloc _, Blk.new _ _ _, (B0.ext hb1).alloc _, (B1.ext hb1).alloc _, (B2.ext hb1).alloc _, (B3.ext hb1).alloc _⟩
  clear a0 a1 a2 a3 o0 o1 x0 x1 x2 x3 y0 y1 y2 y3 y4 z2 z3
  obtain ⟨g, rfl, hg1, hg2, hE2, B4, B0, B1, B2, B3⟩ := hcut
  obtain ⟨g0, g1, g2, g3⟩ := blk4 B4
  obtain ⟨a0, a1, a2, a3⟩ := blk4 B0
  obtain ⟨o0, o1⟩ := blk2 B1
  obtain ⟨x0, x1, x2, x3⟩ := blk4 B2
  obtain ⟨y0, y1, y2, y3, y4⟩ := blk5 B3
  have z2 := B2.frozen
  have z3 := B3.frozen
  go_upto_region 9 with fail
  go_cut [8] (fun s wx => ∃ g2, s = .pointer (some ⟨g2, 0, none⟩) ∧ g < g2 ∧ g2 < wx.heap.size ∧ Ext w wx ∧ Blk wx g2 45 #[str r.s, .int .i64 ((r.at_ : Int) + (sz : Int)), .int .i64 (-1), .int .i64 0] ∧ Blk wx g 84 #[.int .i64 (sz : Int), .int .i64 (m : Int), .int .u64 (n : Int), .bool o] ∧ Blk wx w.heap.size 45 #[str r.s, .int .i64 (r.at_ : Int), .int .i64 r.bad, .int .i64 r.e] ∧ Blk wx (w.heap.size + 1) 51 #[.int .u8 (kd : Int), .int .i64 N] ∧ Blk wx (w.heap.size + 2) 45 #[str [], .int .i64 0, .int .i64 0, .int .i64 0] ∧ Blk wx (w.heap.size + 3) 47 #[.int .i64 0, .int .u64 0, .bool false, str [], .int .i64 0])
  case first =>
    go_wp2_with fail
    go_meet
    exact ⟨_, rfl, hg2, by simp, hE2.alloc _, Blk.new _ _ _, B4.alloc _, B0.alloc _, B1.alloc _, B2.alloc _, B3.alloc _⟩
  clear a0 a1 a2 a3 o0 o1 x0 x1 x2 x3 y0 y1 y2 y3 y4 z2 z3 g0 g1 g2 g3
  obtain ⟨gn, rfl, hgn1, hgn2, hE3, B5, B4, B0, B1, B2, B3⟩ := hcut
  obtain ⟨g0, g1, g2, g3⟩ := blk4 B4
  obtain ⟨n0, n1, n2, n3⟩ := blk4 B5
  obtain ⟨a0, a1, a2, a3⟩ := blk4 B0
  obtain ⟨o0, o1⟩ := blk2 B1
  obtain ⟨x0, x1, x2, x3⟩ := blk4 B2
  obtain ⟨y0, y1, y2, y3, y4⟩ := blk5 B3
  have z2 := B2.frozen
  have z3 := B3.frozen
  rw [ho.out] at g3
  go_wp2_with (go_at_call 54; refine (rfail_any r 2 _).mono ?_; rintro e w1 ⟨rfl, hb1⟩; unfold rrV toldV; clear a0 a1 a2 a3 o0 o1 x0 x1 x2 x3 y0 y1 y2 y3 y4 z2 z3; replace B0 := B0.ext hb1; replace B1 := B1.ext hb1; replace B2 := B2.ext hb1; replace B3 := B3.ext hb1; obtain ⟨a0, a1, a2, a3⟩ := blk4 B0; obtain ⟨o0, o1⟩ := blk2 B1; obtain ⟨x0, x1, x2, x3⟩ := blk4 B2; obtain ⟨y0, y1, y2, y3, y4⟩ := blk5 B3; have z2 := B2.frozen; have z3 := B3.frozen)
  refine bodyPost_ret (v := .tuple #[rrV (r.rf 2), tV RS.zero]) (by simp [results, Try.results30, go_sem, rrV, tV, toldV, RS.zero, RS.rf, x0, x1, x2, x3, y0, y1, y2, y3, y4]) rfl (Ret.mk rfl ?_)
  repeat (refine Mod.setCell ?_ (.inr (by dsimp only; omega)) _)
  exact hE3.trans hb1

set_option maxRecDepth 20000 in
set_option maxHeartbeats 800000 in
theorem do_ss (r : RS) (kd k : Nat) (hkd : kd < 256) (hk : Hid (kd % 6 = k)) (N : Int) (hok : r.ok) (he : Hid (r.e = 0)) (sz m n : Nat) (o : Bool) (hrd : Hid (readH (r.s.drop r.at_) = some (sz, m, n, o))) (hkk : Hid (k = 2 ∨ k = 3)) (hm : Hid (m = k)) (ho : Hid (o = false)) (hn : Hid (r.s.length - (r.at_ + sz) < n)) (w : World) : Calls Try.prog 30 #[rrV r, opV kd N] w (Ret (.tuple #[rrV (r.rf 2), tV RS.zero]) w) := by
  show Calls Try.prog 30 #[.agg #[str r.s, .int .i64 (r.at_ : Int), .int .i64 r.bad, .int .i64 r.e], .agg #[.int .u8 (kd : Int), .int .i64 N]] w _
  go_enter Try.func30, Try.ntmps30
  go_upto_region 1 with fail
  go_cut [6] (fun s wx => s = .int .u8 (k : Int) ∧ Ext w wx ∧ wx.heap.size = w.heap.size + 4 ∧ Blk wx w.heap.size 45 #[str r.s, .int .i64 (r.at_ : Int), .int .i64 r.bad, .int .i64 r.e] ∧ Blk wx (w.heap.size + 1) 51 #[.int .u8 (kd : Int), .int .i64 N] ∧ Blk wx (w.heap.size + 2) 45 #[str [], .int .i64 0, .int .i64 0, .int .i64 0] ∧ Blk wx (w.heap.size + 3) 47 #[.int .i64 0, .int .u64 0, .bool false, str [], .int .i64 0])
  case first =>
    go_wp2_with fail
    go_meet
    exact ⟨kind_mod hkd hk, (((((Mod.refl _ _).alloc _).alloc _).alloc _).alloc _), by simp, (((blk_new' rfl).alloc _).alloc _).alloc _, ((blk_new' (by simp)).alloc _).alloc _, (blk_new' (by simp)).alloc _, blk_new' (by simp)⟩
  obtain ⟨rfl, hE, hsz, B0, B1, B2, B3⟩ := hcut
  have hsz2 : w.heap.size + 3 < wc.heap.size := by omega
  have HSZ := hid hsz; clear hsz
  obtain ⟨a0, a1, a2, a3⟩ := blk4 B0
  obtain ⟨o0, o1⟩ := blk2 B1
  obtain ⟨x0, x1, x2, x3⟩ := blk4 B2
  obtain ⟨y0, y1, y2, y3, y4⟩ := blk5 B3
  have z2 := B2.frozen
  have z3 := B3.frozen
  have te : (r.e != 0) = false := by simp [he.out]
  have tk0 : ((k : Int) == 0) = false := by have := hkk.out; simp; omega
  have tk1 : ((k : Int) == 1) = false := by have := hkk.out; simp; omega
  have tk4 : ((k : Int) == 4) = false := by have := hkk.out; simp; omega
  have tk5 : ((k : Int) == 5) = false := by have := hkk.out; simp; omega
  have tm : ((m : Int) != wrap64 (k : Int)) = false := by have := hm.out; have := hkk.out; rw [IntWalk.wrap64_in _ (by omega)]; simp; omega
  have hrest : Value.string ((⟨r.s.toArray⟩ : ByteArray).extract r.at_ r.s.length) = str (r.s.drop r.at_) := extract_rest _ _
  have hat := hok.1
  have hsm := readH_some hrd.out
  have hszp : Hid (0 < sz) := hsm.pos
  have hszle : Hid (r.at_ + sz ≤ r.s.length) := by have h1 := hsm.le; rw [List.length_drop] at h1; unfold Hid; omega
  have hnb : Hid (n < 18446744073709551616) := hsm.n64
  have hbig := hid hok.2.2
  clear hsm
  have tz : ((sz : Int) == 0) = false := by have := hszp.out; simp; omega
  have hww : wrap64 ((r.at_ : Int) + (sz : Int)) = (r.at_ : Int) + (sz : Int) := IntWalk.wrap64_in _ (by have h1 := hszle.out; have h2 := hbig.out; omega)
  have tl : decide (IntKind.u64.wrap (wrap64 ((r.s.length : Int) - ((r.at_ : Int) + (sz : Int)))) < (n : Int)) = true := by
    have h1 := hszle.out; have h2 := hbig.out; have h3 := hn.out
    rw [IntWalk.wrap64_in _ (by omega), IntWalk.u64_in _ (by omega)]; simp; omega
  go_upto_region 6 with fail
  go_cut [7] (fun s wx => ∃ g, s = .pointer (some ⟨g, 0, none⟩) ∧ w.heap.size + 3 < g ∧ g < wx.heap.size ∧ Ext w wx ∧ Blk wx g 84 #[.int .i64 (sz : Int), .int .i64 (m : Int), .int .u64 (n : Int), .bool o] ∧ Blk wx w.heap.size 45 #[str r.s, .int .i64 (r.at_ : Int), .int .i64 r.bad, .int .i64 r.e] ∧ Blk wx (w.heap.size + 1) 51 #[.int .u8 (kd : Int), .int .i64 N] ∧ Blk wx (w.heap.size + 2) 45 #[str [], .int .i64 0, .int .i64 0, .int .i64 0] ∧ Blk wx (w.heap.size + 3) 47 #[.int .i64 0, .int .u64 0, .bool false, str [], .int .i64 0])
  case first =>
    go_wp2_with (go_at_call 55; refine (read_any _ _).mono ?_; rintro e w1 ⟨rfl, hb1⟩; rw [hrd.out]; unfold gotOf gotV; dsimp only; have hsz3 : w.heap.size + 3 < w1.heap.size := Nat.lt_of_lt_of_le hsz2 hb1.size; clear a0 a1 a2 a3 o0 o1 x0 x1 x2 x3 y0 y1 y2 y3 y4 z2 z3)
    go_meet
    exact ⟨w1.heap.size, rfl, hsz3, by simp, (hE.trans hb1).alloc _, Blk.new _ _ _, (B0.ext hb1).alloc _, (B1.ext hb1).alloc _, (B2.ext hb1).alloc _, (B3.ext hb1).alloc _⟩
  clear a0 a1 a2 a3 o0 o1 x0 x1 x2 x3 y0 y1 y2 y3 y4 z2 z3
  obtain ⟨g, rfl, hg1, hg2, hE2, B4, B0, B1, B2, B3⟩ := hcut
  obtain ⟨g0, g1, g2, g3⟩ := blk4 B4
  obtain ⟨a0, a1, a2, a3⟩ := blk4 B0
  obtain ⟨o0, o1⟩ := blk2 B1
  obtain ⟨x0, x1, x2, x3⟩ := blk4 B2
  obtain ⟨y0, y1, y2, y3, y4⟩ := blk5 B3
  have z2 := B2.frozen
  have z3 := B3.frozen
  go_upto_region 9 with fail
  go_cut [8] (fun s wx => ∃ g2, s = .pointer (some ⟨g2, 0, none⟩) ∧ g < g2 ∧ g2 < wx.heap.size ∧ Ext w wx ∧ Blk wx g2 45 #[str r.s, .int .i64 ((r.at_ : Int) + (sz : Int)), .int .i64 (-1), .int .i64 0] ∧ Blk wx g 84 #[.int .i64 (sz : Int), .int .i64 (m : Int), .int .u64 (n : Int), .bool o] ∧ Blk wx w.heap.size 45 #[str r.s, .int .i64 (r.at_ : Int), .int .i64 r.bad, .int .i64 r.e] ∧ Blk wx (w.heap.size + 1) 51 #[.int .u8 (kd : Int), .int .i64 N] ∧ Blk wx (w.heap.size + 2) 45 #[str [], .int .i64 0, .int .i64 0, .int .i64 0] ∧ Blk wx (w.heap.size + 3) 47 #[.int .i64 0, .int .u64 0, .bool false, str [], .int .i64 0])
  case first =>
    go_wp2_with fail
    go_meet
    exact ⟨_, rfl, hg2, by simp, hE2.alloc _, Blk.new _ _ _, B4.alloc _, B0.alloc _, B1.alloc _, B2.alloc _, B3.alloc _⟩
  clear a0 a1 a2 a3 o0 o1 x0 x1 x2 x3 y0 y1 y2 y3 y4 z2 z3 g0 g1 g2 g3
  obtain ⟨gn, rfl, hgn1, hgn2, hE3, B5, B4, B0, B1, B2, B3⟩ := hcut
  obtain ⟨g0, g1, g2, g3⟩ := blk4 B4
  obtain ⟨n0, n1, n2, n3⟩ := blk4 B5
  obtain ⟨a0, a1, a2, a3⟩ := blk4 B0
  obtain ⟨o0, o1⟩ := blk2 B1
  obtain ⟨x0, x1, x2, x3⟩ := blk4 B2
  obtain ⟨y0, y1, y2, y3, y4⟩ := blk5 B3
  have z2 := B2.frozen
  have z3 := B3.frozen
  rw [ho.out] at g3
  go_wp2_with (go_at_call 54; refine (rfail_any r 2 _).mono ?_; rintro e w1 ⟨rfl, hb1⟩; unfold rrV toldV; clear a0 a1 a2 a3 o0 o1 x0 x1 x2 x3 y0 y1 y2 y3 y4 z2 z3; replace B0 := B0.ext hb1; replace B1 := B1.ext hb1; replace B2 := B2.ext hb1; replace B3 := B3.ext hb1; obtain ⟨a0, a1, a2, a3⟩ := blk4 B0; obtain ⟨o0, o1⟩ := blk2 B1; obtain ⟨x0, x1, x2, x3⟩ := blk4 B2; obtain ⟨y0, y1, y2, y3, y4⟩ := blk5 B3; have z2 := B2.frozen; have z3 := B3.frozen)
  refine bodyPost_ret (v := .tuple #[rrV (r.rf 2), tV RS.zero]) (by simp [results, Try.results30, go_sem, rrV, tV, toldV, RS.zero, RS.rf, x0, x1, x2, x3, y0, y1, y2, y3, y4]) rfl (Ret.mk rfl ?_)
  repeat (refine Mod.setCell ?_ (.inr (by dsimp only; omega)) _)
  exact hE3.trans hb1

set_option maxRecDepth 20000 in
set_option maxHeartbeats 800000 in
theorem do_sl1 (r : RS) (kd k : Nat) (hkd : kd < 256) (hk : Hid (kd % 6 = k)) (N : Int) (hok : r.ok) (he : Hid (r.e = 0)) (sz m n : Nat) (o : Bool) (hrd : Hid (readH (r.s.drop r.at_) = some (sz, m, n, o))) (hkk : Hid (k = 2 ∨ k = 3)) (hm : Hid (m = k)) (ho : Hid (o = false)) (hn : Hid (¬ r.s.length - (r.at_ + sz) < n)) (hl : Hid (N < 0)) (w : World) : Calls Try.prog 30 #[rrV r, opV kd N] w (Ret (.tuple #[rrV (r.rf 4), tV RS.zero]) w) := by
  show Calls Try.prog 30 #[.agg #[str r.s, .int .i64 (r.at_ : Int), .int .i64 r.bad, .int .i64 r.e], .agg #[.int .u8 (kd : Int), .int .i64 N]] w _
  go_enter Try.func30, Try.ntmps30
  go_upto_region 1 with fail
  go_cut [6] (fun s wx => s = .int .u8 (k : Int) ∧ Ext w wx ∧ wx.heap.size = w.heap.size + 4 ∧ Blk wx w.heap.size 45 #[str r.s, .int .i64 (r.at_ : Int), .int .i64 r.bad, .int .i64 r.e] ∧ Blk wx (w.heap.size + 1) 51 #[.int .u8 (kd : Int), .int .i64 N] ∧ Blk wx (w.heap.size + 2) 45 #[str [], .int .i64 0, .int .i64 0, .int .i64 0] ∧ Blk wx (w.heap.size + 3) 47 #[.int .i64 0, .int .u64 0, .bool false, str [], .int .i64 0])
  case first =>
    go_wp2_with fail
    go_meet
    exact ⟨kind_mod hkd hk, (((((Mod.refl _ _).alloc _).alloc _).alloc _).alloc _), by simp, (((blk_new' rfl).alloc _).alloc _).alloc _, ((blk_new' (by simp)).alloc _).alloc _, (blk_new' (by simp)).alloc _, blk_new' (by simp)⟩
  obtain ⟨rfl, hE, hsz, B0, B1, B2, B3⟩ := hcut
  have hsz2 : w.heap.size + 3 < wc.heap.size := by omega
  have HSZ := hid hsz; clear hsz
  obtain ⟨a0, a1, a2, a3⟩ := blk4 B0
  obtain ⟨o0, o1⟩ := blk2 B1
  obtain ⟨x0, x1, x2, x3⟩ := blk4 B2
  obtain ⟨y0, y1, y2, y3, y4⟩ := blk5 B3
  have z2 := B2.frozen
  have z3 := B3.frozen
  have te : (r.e != 0) = false := by simp [he.out]
  have tk0 : ((k : Int) == 0) = false := by have := hkk.out; simp; omega
  have tk1 : ((k : Int) == 1) = false := by have := hkk.out; simp; omega
  have tk4 : ((k : Int) == 4) = false := by have := hkk.out; simp; omega
  have tk5 : ((k : Int) == 5) = false := by have := hkk.out; simp; omega
  have tm : ((m : Int) != wrap64 (k : Int)) = false := by have := hm.out; have := hkk.out; rw [IntWalk.wrap64_in _ (by omega)]; simp; omega
  have hrest : Value.string ((⟨r.s.toArray⟩ : ByteArray).extract r.at_ r.s.length) = str (r.s.drop r.at_) := extract_rest _ _
  have hat := hok.1
  have hsm := readH_some hrd.out
  have hszp : Hid (0 < sz) := hsm.pos
  have hszle : Hid (r.at_ + sz ≤ r.s.length) := by have h1 := hsm.le; rw [List.length_drop] at h1; unfold Hid; omega
  have hnb : Hid (n < 18446744073709551616) := hsm.n64
  have hbig := hid hok.2.2
  clear hsm
  have tz : ((sz : Int) == 0) = false := by have := hszp.out; simp; omega
  have hww : wrap64 ((r.at_ : Int) + (sz : Int)) = (r.at_ : Int) + (sz : Int) := IntWalk.wrap64_in _ (by have h1 := hszle.out; have h2 := hbig.out; omega)
  have tl : decide (IntKind.u64.wrap (wrap64 ((r.s.length : Int) - ((r.at_ : Int) + (sz : Int)))) < (n : Int)) = false := by
    have h1 := hszle.out; have h2 := hbig.out; have h3 := hn.out
    rw [IntWalk.wrap64_in _ (by omega), IntWalk.u64_in _ (by omega)]; simp; omega
  have t1 : decide (N < 0) = true := by have := hl.out; simp; omega
  go_upto_region 6 with fail
  go_cut [7] (fun s wx => ∃ g, s = .pointer (some ⟨g, 0, none⟩) ∧ w.heap.size + 3 < g ∧ g < wx.heap.size ∧ Ext w wx ∧ Blk wx g 84 #[.int .i64 (sz : Int), .int .i64 (m : Int), .int .u64 (n : Int), .bool o] ∧ Blk wx w.heap.size 45 #[str r.s, .int .i64 (r.at_ : Int), .int .i64 r.bad, .int .i64 r.e] ∧ Blk wx (w.heap.size + 1) 51 #[.int .u8 (kd : Int), .int .i64 N] ∧ Blk wx (w.heap.size + 2) 45 #[str [], .int .i64 0, .int .i64 0, .int .i64 0] ∧ Blk wx (w.heap.size + 3) 47 #[.int .i64 0, .int .u64 0, .bool false, str [], .int .i64 0])
  case first =>
    go_wp2_with (go_at_call 55; refine (read_any _ _).mono ?_; rintro e w1 ⟨rfl, hb1⟩; rw [hrd.out]; unfold gotOf gotV; dsimp only; have hsz3 : w.heap.size + 3 < w1.heap.size := Nat.lt_of_lt_of_le hsz2 hb1.size; clear a0 a1 a2 a3 o0 o1 x0 x1 x2 x3 y0 y1 y2 y3 y4 z2 z3)
    go_meet
    exact ⟨w1.heap.size, rfl, hsz3, by simp, (hE.trans hb1).alloc _, Blk.new _ _ _, (B0.ext hb1).alloc _, (B1.ext hb1).alloc _, (B2.ext hb1).alloc _, (B3.ext hb1).alloc _⟩
  clear a0 a1 a2 a3 o0 o1 x0 x1 x2 x3 y0 y1 y2 y3 y4 z2 z3
  obtain ⟨g, rfl, hg1, hg2, hE2, B4, B0, B1, B2, B3⟩ := hcut
  obtain ⟨g0, g1, g2, g3⟩ := blk4 B4
  obtain ⟨a0, a1, a2, a3⟩ := blk4 B0
  obtain ⟨o0, o1⟩ := blk2 B1
  obtain ⟨x0, x1, x2, x3⟩ := blk4 B2
  obtain ⟨y0, y1, y2, y3, y4⟩ := blk5 B3
  have z2 := B2.frozen
  have z3 := B3.frozen
  go_upto_region 9 with fail
  go_cut [8] (fun s wx => ∃ g2, s = .pointer (some ⟨g2, 0, none⟩) ∧ g < g2 ∧ g2 < wx.heap.size ∧ Ext w wx ∧ Blk wx g2 45 #[str r.s, .int .i64 ((r.at_ : Int) + (sz : Int)), .int .i64 (-1), .int .i64 0] ∧ Blk wx g 84 #[.int .i64 (sz : Int), .int .i64 (m : Int), .int .u64 (n : Int), .bool o] ∧ Blk wx w.heap.size 45 #[str r.s, .int .i64 (r.at_ : Int), .int .i64 r.bad, .int .i64 r.e] ∧ Blk wx (w.heap.size + 1) 51 #[.int .u8 (kd : Int), .int .i64 N] ∧ Blk wx (w.heap.size + 2) 45 #[str [], .int .i64 0, .int .i64 0, .int .i64 0] ∧ Blk wx (w.heap.size + 3) 47 #[.int .i64 0, .int .u64 0, .bool false, str [], .int .i64 0])
  case first =>
    go_wp2_with fail
    go_meet
    exact ⟨_, rfl, hg2, by simp, hE2.alloc _, Blk.new _ _ _, B4.alloc _, B0.alloc _, B1.alloc _, B2.alloc _, B3.alloc _⟩
  clear a0 a1 a2 a3 o0 o1 x0 x1 x2 x3 y0 y1 y2 y3 y4 z2 z3 g0 g1 g2 g3
  obtain ⟨gn, rfl, hgn1, hgn2, hE3, B5, B4, B0, B1, B2, B3⟩ := hcut
  obtain ⟨g0, g1, g2, g3⟩ := blk4 B4
  obtain ⟨n0, n1, n2, n3⟩ := blk4 B5
  obtain ⟨a0, a1, a2, a3⟩ := blk4 B0
  obtain ⟨o0, o1⟩ := blk2 B1
  obtain ⟨x0, x1, x2, x3⟩ := blk4 B2
  obtain ⟨y0, y1, y2, y3, y4⟩ := blk5 B3
  have z2 := B2.frozen
  have z3 := B3.frozen
  rw [ho.out] at g3
  go_wp2_with (go_at_call 54; refine (rfail_any r 4 _).mono ?_; rintro e w1 ⟨rfl, hb1⟩; unfold rrV toldV; clear a0 a1 a2 a3 o0 o1 x0 x1 x2 x3 y0 y1 y2 y3 y4 z2 z3; replace B0 := B0.ext hb1; replace B1 := B1.ext hb1; replace B2 := B2.ext hb1; replace B3 := B3.ext hb1; obtain ⟨a0, a1, a2, a3⟩ := blk4 B0; obtain ⟨o0, o1⟩ := blk2 B1; obtain ⟨x0, x1, x2, x3⟩ := blk4 B2; obtain ⟨y0, y1, y2, y3, y4⟩ := blk5 B3; have z2 := B2.frozen; have z3 := B3.frozen)
  refine bodyPost_ret (v := .tuple #[rrV (r.rf 4), tV RS.zero]) (by simp [results, Try.results30, go_sem, rrV, tV, toldV, RS.zero, RS.rf, x0, x1, x2, x3, y0, y1, y2, y3, y4]) rfl (Ret.mk rfl ?_)
  repeat (refine Mod.setCell ?_ (.inr (by dsimp only; omega)) _)
  exact hE3.trans hb1

set_option maxRecDepth 20000 in
set_option maxHeartbeats 800000 in
theorem do_sl2 (r : RS) (kd k : Nat) (hkd : kd < 256) (hk : Hid (kd % 6 = k)) (N : Int) (hok : r.ok) (he : Hid (r.e = 0)) (sz m n : Nat) (o : Bool) (hrd : Hid (readH (r.s.drop r.at_) = some (sz, m, n, o))) (hkk : Hid (k = 2 ∨ k = 3)) (hm : Hid (m = k)) (ho : Hid (o = false)) (hn : Hid (¬ r.s.length - (r.at_ + sz) < n)) (hNb : Hid (N < 9223372036854775808)) (hl : Hid (0 ≤ N ∧ N < (n : Int))) (w : World) : Calls Try.prog 30 #[rrV r, opV kd N] w (Ret (.tuple #[rrV (r.rf 4), tV RS.zero]) w) := by
  show Calls Try.prog 30 #[.agg #[str r.s, .int .i64 (r.at_ : Int), .int .i64 r.bad, .int .i64 r.e], .agg #[.int .u8 (kd : Int), .int .i64 N]] w _
  go_enter Try.func30, Try.ntmps30
  go_upto_region 1 with fail
  go_cut [6] (fun s wx => s = .int .u8 (k : Int) ∧ Ext w wx ∧ wx.heap.size = w.heap.size + 4 ∧ Blk wx w.heap.size 45 #[str r.s, .int .i64 (r.at_ : Int), .int .i64 r.bad, .int .i64 r.e] ∧ Blk wx (w.heap.size + 1) 51 #[.int .u8 (kd : Int), .int .i64 N] ∧ Blk wx (w.heap.size + 2) 45 #[str [], .int .i64 0, .int .i64 0, .int .i64 0] ∧ Blk wx (w.heap.size + 3) 47 #[.int .i64 0, .int .u64 0, .bool false, str [], .int .i64 0])
  case first =>
    go_wp2_with fail
    go_meet
    exact ⟨kind_mod hkd hk, (((((Mod.refl _ _).alloc _).alloc _).alloc _).alloc _), by simp, (((blk_new' rfl).alloc _).alloc _).alloc _, ((blk_new' (by simp)).alloc _).alloc _, (blk_new' (by simp)).alloc _, blk_new' (by simp)⟩
  obtain ⟨rfl, hE, hsz, B0, B1, B2, B3⟩ := hcut
  have hsz2 : w.heap.size + 3 < wc.heap.size := by omega
  have HSZ := hid hsz; clear hsz
  obtain ⟨a0, a1, a2, a3⟩ := blk4 B0
  obtain ⟨o0, o1⟩ := blk2 B1
  obtain ⟨x0, x1, x2, x3⟩ := blk4 B2
  obtain ⟨y0, y1, y2, y3, y4⟩ := blk5 B3
  have z2 := B2.frozen
  have z3 := B3.frozen
  have te : (r.e != 0) = false := by simp [he.out]
  have tk0 : ((k : Int) == 0) = false := by have := hkk.out; simp; omega
  have tk1 : ((k : Int) == 1) = false := by have := hkk.out; simp; omega
  have tk4 : ((k : Int) == 4) = false := by have := hkk.out; simp; omega
  have tk5 : ((k : Int) == 5) = false := by have := hkk.out; simp; omega
  have tm : ((m : Int) != wrap64 (k : Int)) = false := by have := hm.out; have := hkk.out; rw [IntWalk.wrap64_in _ (by omega)]; simp; omega
  have hrest : Value.string ((⟨r.s.toArray⟩ : ByteArray).extract r.at_ r.s.length) = str (r.s.drop r.at_) := extract_rest _ _
  have hat := hok.1
  have hsm := readH_some hrd.out
  have hszp : Hid (0 < sz) := hsm.pos
  have hszle : Hid (r.at_ + sz ≤ r.s.length) := by have h1 := hsm.le; rw [List.length_drop] at h1; unfold Hid; omega
  have hnb : Hid (n < 18446744073709551616) := hsm.n64
  have hbig := hid hok.2.2
  clear hsm
  have tz : ((sz : Int) == 0) = false := by have := hszp.out; simp; omega
  have hww : wrap64 ((r.at_ : Int) + (sz : Int)) = (r.at_ : Int) + (sz : Int) := IntWalk.wrap64_in _ (by have h1 := hszle.out; have h2 := hbig.out; omega)
  have tl : decide (IntKind.u64.wrap (wrap64 ((r.s.length : Int) - ((r.at_ : Int) + (sz : Int)))) < (n : Int)) = false := by
    have h1 := hszle.out; have h2 := hbig.out; have h3 := hn.out
    rw [IntWalk.wrap64_in _ (by omega), IntWalk.u64_in _ (by omega)]; simp; omega
  have t1 : decide (N < 0) = false := by have := hl.out; simp; omega
  have hwN : IntKind.u64.wrap N = N := IntWalk.u64_in _ (by have h1 := hl.out; have h2 := hNb.out; omega)
  have t2 : decide (N < (n : Int)) = true := by have := hl.out; simp; omega
  go_upto_region 6 with fail
  go_cut [7] (fun s wx => ∃ g, s = .pointer (some ⟨g, 0, none⟩) ∧ w.heap.size + 3 < g ∧ g < wx.heap.size ∧ Ext w wx ∧ Blk wx g 84 #[.int .i64 (sz : Int), .int .i64 (m : Int), .int .u64 (n : Int), .bool o] ∧ Blk wx w.heap.size 45 #[str r.s, .int .i64 (r.at_ : Int), .int .i64 r.bad, .int .i64 r.e] ∧ Blk wx (w.heap.size + 1) 51 #[.int .u8 (kd : Int), .int .i64 N] ∧ Blk wx (w.heap.size + 2) 45 #[str [], .int .i64 0, .int .i64 0, .int .i64 0] ∧ Blk wx (w.heap.size + 3) 47 #[.int .i64 0, .int .u64 0, .bool false, str [], .int .i64 0])
  case first =>
    go_wp2_with (go_at_call 55; refine (read_any _ _).mono ?_; rintro e w1 ⟨rfl, hb1⟩; rw [hrd.out]; unfold gotOf gotV; dsimp only; have hsz3 : w.heap.size + 3 < w1.heap.size := Nat.lt_of_lt_of_le hsz2 hb1.size; clear a0 a1 a2 a3 o0 o1 x0 x1 x2 x3 y0 y1 y2 y3 y4 z2 z3)
    go_meet
    exact ⟨w1.heap.size, rfl, hsz3, by simp, (hE.trans hb1).alloc _, Blk.new _ _ _, (B0.ext hb1).alloc _, (B1.ext hb1).alloc _, (B2.ext hb1).alloc _, (B3.ext hb1).alloc _⟩
  clear a0 a1 a2 a3 o0 o1 x0 x1 x2 x3 y0 y1 y2 y3 y4 z2 z3
  obtain ⟨g, rfl, hg1, hg2, hE2, B4, B0, B1, B2, B3⟩ := hcut
  obtain ⟨g0, g1, g2, g3⟩ := blk4 B4
  obtain ⟨a0, a1, a2, a3⟩ := blk4 B0
  obtain ⟨o0, o1⟩ := blk2 B1
  obtain ⟨x0, x1, x2, x3⟩ := blk4 B2
  obtain ⟨y0, y1, y2, y3, y4⟩ := blk5 B3
  have z2 := B2.frozen
  have z3 := B3.frozen
  go_upto_region 9 with fail
  go_cut [8] (fun s wx => ∃ g2, s = .pointer (some ⟨g2, 0, none⟩) ∧ g < g2 ∧ g2 < wx.heap.size ∧ Ext w wx ∧ Blk wx g2 45 #[str r.s, .int .i64 ((r.at_ : Int) + (sz : Int)), .int .i64 (-1), .int .i64 0] ∧ Blk wx g 84 #[.int .i64 (sz : Int), .int .i64 (m : Int), .int .u64 (n : Int), .bool o] ∧ Blk wx w.heap.size 45 #[str r.s, .int .i64 (r.at_ : Int), .int .i64 r.bad, .int .i64 r.e] ∧ Blk wx (w.heap.size + 1) 51 #[.int .u8 (kd : Int), .int .i64 N] ∧ Blk wx (w.heap.size + 2) 45 #[str [], .int .i64 0, .int .i64 0, .int .i64 0] ∧ Blk wx (w.heap.size + 3) 47 #[.int .i64 0, .int .u64 0, .bool false, str [], .int .i64 0])
  case first =>
    go_wp2_with fail
    go_meet
    exact ⟨_, rfl, hg2, by simp, hE2.alloc _, Blk.new _ _ _, B4.alloc _, B0.alloc _, B1.alloc _, B2.alloc _, B3.alloc _⟩
  clear a0 a1 a2 a3 o0 o1 x0 x1 x2 x3 y0 y1 y2 y3 y4 z2 z3 g0 g1 g2 g3
  obtain ⟨gn, rfl, hgn1, hgn2, hE3, B5, B4, B0, B1, B2, B3⟩ := hcut
  obtain ⟨g0, g1, g2, g3⟩ := blk4 B4
  obtain ⟨n0, n1, n2, n3⟩ := blk4 B5
  obtain ⟨a0, a1, a2, a3⟩ := blk4 B0
  obtain ⟨o0, o1⟩ := blk2 B1
  obtain ⟨x0, x1, x2, x3⟩ := blk4 B2
  obtain ⟨y0, y1, y2, y3, y4⟩ := blk5 B3
  have z2 := B2.frozen
  have z3 := B3.frozen
  rw [ho.out] at g3
  go_wp2_with (go_at_call 54; refine (rfail_any r 4 _).mono ?_; rintro e w1 ⟨rfl, hb1⟩; unfold rrV toldV; clear a0 a1 a2 a3 o0 o1 x0 x1 x2 x3 y0 y1 y2 y3 y4 z2 z3; replace B0 := B0.ext hb1; replace B1 := B1.ext hb1; replace B2 := B2.ext hb1; replace B3 := B3.ext hb1; obtain ⟨a0, a1, a2, a3⟩ := blk4 B0; obtain ⟨o0, o1⟩ := blk2 B1; obtain ⟨x0, x1, x2, x3⟩ := blk4 B2; obtain ⟨y0, y1, y2, y3, y4⟩ := blk5 B3; have z2 := B2.frozen; have z3 := B3.frozen)
  refine bodyPost_ret (v := .tuple #[rrV (r.rf 4), tV RS.zero]) (by simp [results, Try.results30, go_sem, rrV, tV, toldV, RS.zero, RS.rf, x0, x1, x2, x3, y0, y1, y2, y3, y4]) rfl (Ret.mk rfl ?_)
  repeat (refine Mod.setCell ?_ (.inr (by dsimp only; omega)) _)
  exact hE3.trans hb1

end Go.Proofs.Ytmekhofncflhaaa
