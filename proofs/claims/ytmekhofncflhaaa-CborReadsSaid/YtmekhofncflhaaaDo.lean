/-
  The walk of the reference's Do: it answers as the plain reader's rdo.
-/
import Derived.Test.YtmekhofncflhaaaReadAny
namespace Go.Proofs.Ytmekhofncflhaaa
open Go.RowKit
set_option linter.unusedVariables false

def opV (kd : Nat) (N : Int) : Value := .agg #[.int .u8 (kd : Int), .int .i64 N]
def tV (t : RS.Told) : Value := toldV t.1 t.2.1 t.2.2.1 t.2.2.2.1 t.2.2.2.2
theorem blk2 {w : World} {g t : Nat} {a b : Value} (h : Blk w g t #[a, b]) : w.cell? ⟨g, 0, none⟩ = some a ∧ w.cell? ⟨g, 1, none⟩ = some b := ⟨h.cell 0, h.cell 1⟩
theorem blk4 {w : World} {g t : Nat} {a b c d : Value} (h : Blk w g t #[a, b, c, d]) : w.cell? ⟨g, 0, none⟩ = some a ∧ w.cell? ⟨g, 1, none⟩ = some b ∧ w.cell? ⟨g, 2, none⟩ = some c ∧ w.cell? ⟨g, 3, none⟩ = some d := ⟨h.cell 0, h.cell 1, h.cell 2, h.cell 3⟩
theorem blk5 {w : World} {g t : Nat} {a b c d e : Value} (h : Blk w g t #[a, b, c, d, e]) : w.cell? ⟨g, 0, none⟩ = some a ∧ w.cell? ⟨g, 1, none⟩ = some b ∧ w.cell? ⟨g, 2, none⟩ = some c ∧ w.cell? ⟨g, 3, none⟩ = some d ∧ w.cell? ⟨g, 4, none⟩ = some e := ⟨h.cell 0, h.cell 1, h.cell 2, h.cell 3, h.cell 4⟩
theorem blk_new' {w : World} {n t : Nat} {cs : Array Value} (h : w.heap.size = n) : Blk (w.alloc (.cells cs t)) n t cs := by subst h; exact Blk.new _ _ _
theorem keep4 {w : World} {g t : Nat} {cs : Array Value} {o : Obj} {a b c d : Value} (h : Blk w g t cs) (hg : g ≠ w.heap.size) :
    Blk (((((w.alloc o).setCell ⟨w.heap.size, 0, none⟩ a).setCell ⟨w.heap.size, 1, none⟩ b).setCell ⟨w.heap.size, 2, none⟩ c).setCell ⟨w.heap.size, 3, none⟩ d) g t cs :=
  ((((h.alloc o).far (p := ⟨w.heap.size, 0, none⟩) hg _).far (p := ⟨w.heap.size, 1, none⟩) hg _).far (p := ⟨w.heap.size, 2, none⟩) hg _).far (p := ⟨w.heap.size, 3, none⟩) hg _
theorem kind_mod {kd k : Nat} (h : kd < 256) (hk : Hid (kd % 6 = k)) : Value.int .u8 ((kd : Int).tmod 6) = .int .u8 (k : Int) := by
  rw [← hk.out, Int.tmod_eq_emod_of_nonneg (by omega)]; rfl

set_option maxRecDepth 20000 in
set_option maxHeartbeats 800000 in
theorem do_off (r : RS) (kd k : Nat) (hkd : kd < 256) (hk : Hid (kd % 6 = k)) (N : Int) (he : Hid (r.e ≠ 0)) (w : World) : Calls Try.prog 30 #[rrV r, opV kd N] w (Ret (.tuple #[rrV r, tV RS.zero]) w) := by
  show Calls Try.prog 30 #[.agg #[str r.s, .int .i64 (r.at_ : Int), .int .i64 r.bad, .int .i64 r.e], .agg #[.int .u8 (kd : Int), .int .i64 N]] w _
  go_enter Try.func30, Try.ntmps30
  go_upto_region 1 with fail
  go_cut [6] (fun s wx => s = .int .u8 (k : Int) ∧ Ext w wx ∧ wx.heap.size = w.heap.size + 4 ∧ Blk wx w.heap.size 45 #[str r.s, .int .i64 (r.at_ : Int), .int .i64 r.bad, .int .i64 r.e] ∧ Blk wx (w.heap.size + 1) 51 #[.int .u8 (kd : Int), .int .i64 N] ∧ Blk wx (w.heap.size + 2) 45 #[str [], .int .i64 0, .int .i64 0, .int .i64 0] ∧ Blk wx (w.heap.size + 3) 47 #[.int .i64 0, .int .u64 0, .bool false, str [], .int .i64 0])
  case first =>
    go_wp2_with fail
    go_meet
    exact ⟨kind_mod hkd hk, (((((Mod.refl _ _).alloc _).alloc _).alloc _).alloc _), by simp, (((blk_new' rfl).alloc _).alloc _).alloc _, ((blk_new' (by simp)).alloc _).alloc _, (blk_new' (by simp)).alloc _, blk_new' (by simp)⟩
  obtain ⟨rfl, hE, hsz, B0, B1, B2, B3⟩ := hcut
  have hsz2 : w.heap.size + 3 < wc.heap.size := by omega
  have HSZ := hid hsz; clear hsz
  obtain ⟨a0, a1, a2, a3⟩ := blk4 B0
  obtain ⟨o0, o1⟩ := blk2 B1
  obtain ⟨x0, x1, x2, x3⟩ := blk4 B2
  obtain ⟨y0, y1, y2, y3, y4⟩ := blk5 B3
  have z2 := B2.frozen
  have z3 := B3.frozen
  have te : (r.e != 0) = true := by simp [he.out]
  go_wp2
  refine bodyPost_ret (v := .tuple #[rrV r, tV RS.zero]) (by simp [results, Try.results30, go_sem, rrV, tV, toldV, RS.zero, x0, x1, x2, x3, y0, y1, y2, y3, y4]) rfl (Ret.mk rfl ?_)
  repeat (refine Mod.setCell ?_ (.inr (by dsimp only; omega)) _)
  first | exact hE | exact hE.trans hb1 | exact (hE.trans hb1).trans hb2

set_option maxRecDepth 20000 in
set_option maxHeartbeats 800000 in
theorem do_five (r : RS) (kd k : Nat) (hkd : kd < 256) (hk : Hid (kd % 6 = k)) (N : Int) (he : Hid (r.e = 0)) (hkk : Hid (k = 5)) (w : World) : Calls Try.prog 30 #[rrV r, opV kd N] w (Ret (.tuple #[rrV (r.rf 9), tV RS.zero]) w) := by
  show Calls Try.prog 30 #[.agg #[str r.s, .int .i64 (r.at_ : Int), .int .i64 r.bad, .int .i64 r.e], .agg #[.int .u8 (kd : Int), .int .i64 N]] w _
  go_enter Try.func30, Try.ntmps30
  go_upto_region 1 with fail
  go_cut [6] (fun s wx => s = .int .u8 (k : Int) ∧ Ext w wx ∧ wx.heap.size = w.heap.size + 4 ∧ Blk wx w.heap.size 45 #[str r.s, .int .i64 (r.at_ : Int), .int .i64 r.bad, .int .i64 r.e] ∧ Blk wx (w.heap.size + 1) 51 #[.int .u8 (kd : Int), .int .i64 N] ∧ Blk wx (w.heap.size + 2) 45 #[str [], .int .i64 0, .int .i64 0, .int .i64 0] ∧ Blk wx (w.heap.size + 3) 47 #[.int .i64 0, .int .u64 0, .bool false, str [], .int .i64 0])
  case first =>
    go_wp2_with fail
    go_meet
    exact ⟨kind_mod hkd hk, (((((Mod.refl _ _).alloc _).alloc _).alloc _).alloc _), by simp, (((blk_new' rfl).alloc _).alloc _).alloc _, ((blk_new' (by simp)).alloc _).alloc _, (blk_new' (by simp)).alloc _, blk_new' (by simp)⟩
  obtain ⟨rfl, hE, hsz, B0, B1, B2, B3⟩ := hcut
  have hsz2 : w.heap.size + 3 < wc.heap.size := by omega
  have HSZ := hid hsz; clear hsz
  obtain ⟨a0, a1, a2, a3⟩ := blk4 B0
  obtain ⟨o0, o1⟩ := blk2 B1
  obtain ⟨x0, x1, x2, x3⟩ := blk4 B2
  obtain ⟨y0, y1, y2, y3, y4⟩ := blk5 B3
  have z2 := B2.frozen
  have z3 := B3.frozen
  have te : (r.e != 0) = false := by simp [he.out]
  have tk5 : ((k : Int) == 5) = true := by have := hkk.out; simp; omega
  go_wp2_with (go_at_call 54; refine (rfail_any r 9 _).mono ?_; rintro e w1 ⟨rfl, hb1⟩; unfold rrV toldV; clear a0 a1 a2 a3 o0 o1 x0 x1 x2 x3 y0 y1 y2 y3 y4 z2 z3; replace B0 := B0.ext hb1; replace B1 := B1.ext hb1; replace B2 := B2.ext hb1; replace B3 := B3.ext hb1; obtain ⟨a0, a1, a2, a3⟩ := blk4 B0; obtain ⟨o0, o1⟩ := blk2 B1; obtain ⟨x0, x1, x2, x3⟩ := blk4 B2; obtain ⟨y0, y1, y2, y3, y4⟩ := blk5 B3; have z2 := B2.frozen; have z3 := B3.frozen)
  refine bodyPost_ret (v := .tuple #[rrV (r.rf 9), tV RS.zero]) (by simp [results, Try.results30, go_sem, rrV, tV, toldV, RS.zero, RS.rf, x0, x1, x2, x3, y0, y1, y2, y3, y4]) rfl (Ret.mk rfl ?_)
  repeat (refine Mod.setCell ?_ (.inr (by dsimp only; omega)) _)
  first | exact hE | exact hE.trans hb1 | exact (hE.trans hb1).trans hb2

set_option maxRecDepth 20000 in
set_option maxHeartbeats 800000 in
theorem do_none (r : RS) (kd k : Nat) (hkd : kd < 256) (hk : Hid (kd % 6 = k)) (N : Int) (hok : r.ok) (he : Hid (r.e = 0)) (hrd : Hid (readH (r.s.drop r.at_) = none)) (hkk : Hid (k < 5)) (w : World) : Calls Try.prog 30 #[rrV r, opV kd N] w (Ret (.tuple #[rrV (r.rf 2), tV RS.zero]) w) := by
  show Calls Try.prog 30 #[.agg #[str r.s, .int .i64 (r.at_ : Int), .int .i64 r.bad, .int .i64 r.e], .agg #[.int .u8 (kd : Int), .int .i64 N]] w _
  go_enter Try.func30, Try.ntmps30
  go_upto_region 1 with fail
  go_cut [6] (fun s wx => s = .int .u8 (k : Int) ∧ Ext w wx ∧ wx.heap.size = w.heap.size + 4 ∧ Blk wx w.heap.size 45 #[str r.s, .int .i64 (r.at_ : Int), .int .i64 r.bad, .int .i64 r.e] ∧ Blk wx (w.heap.size + 1) 51 #[.int .u8 (kd : Int), .int .i64 N] ∧ Blk wx (w.heap.size + 2) 45 #[str [], .int .i64 0, .int .i64 0, .int .i64 0] ∧ Blk wx (w.heap.size + 3) 47 #[.int .i64 0, .int .u64 0, .bool false, str [], .int .i64 0])
  case first =>
    go_wp2_with fail
    go_meet
    exact ⟨kind_mod hkd hk, (((((Mod.refl _ _).alloc _).alloc _).alloc _).alloc _), by simp, (((blk_new' rfl).alloc _).alloc _).alloc _, ((blk_new' (by simp)).alloc _).alloc _, (blk_new' (by simp)).alloc _, blk_new' (by simp)⟩
  obtain ⟨rfl, hE, hsz, B0, B1, B2, B3⟩ := hcut
  have hsz2 : w.heap.size + 3 < wc.heap.size := by omega
  have HSZ := hid hsz; clear hsz
  obtain ⟨a0, a1, a2, a3⟩ := blk4 B0
  obtain ⟨o0, o1⟩ := blk2 B1
  obtain ⟨x0, x1, x2, x3⟩ := blk4 B2
  obtain ⟨y0, y1, y2, y3, y4⟩ := blk5 B3
  have z2 := B2.frozen
  have z3 := B3.frozen
  have te : (r.e != 0) = false := by simp [he.out]
  have tk5 : ((k : Int) == 5) = false := by have := hkk.out; simp; omega
  have hrest : Value.string ((⟨r.s.toArray⟩ : ByteArray).extract r.at_ r.s.length) = str (r.s.drop r.at_) := extract_rest _ _
  have hat := hok.1
  go_upto_region 6 with fail
  go_cut [7] (fun s wx => ∃ g, s = .pointer (some ⟨g, 0, none⟩) ∧ w.heap.size + 3 < g ∧ g < wx.heap.size ∧ Ext w wx ∧ Blk wx g 84 #[.int .i64 0, .int .i64 0, .int .u64 0, .bool false] ∧ Blk wx w.heap.size 45 #[str r.s, .int .i64 (r.at_ : Int), .int .i64 r.bad, .int .i64 r.e] ∧ Blk wx (w.heap.size + 1) 51 #[.int .u8 (kd : Int), .int .i64 N] ∧ Blk wx (w.heap.size + 2) 45 #[str [], .int .i64 0, .int .i64 0, .int .i64 0] ∧ Blk wx (w.heap.size + 3) 47 #[.int .i64 0, .int .u64 0, .bool false, str [], .int .i64 0])
  case first =>
    go_wp2_with (go_at_call 55; refine (read_any _ _).mono ?_; rintro e w1 ⟨rfl, hb1⟩; rw [hrd.out]; unfold gotOf gotV; dsimp only; have hsz3 : w.heap.size + 3 < w1.heap.size := Nat.lt_of_lt_of_le hsz2 hb1.size; clear a0 a1 a2 a3 o0 o1 x0 x1 x2 x3 y0 y1 y2 y3 y4 z2 z3)
    go_meet
    exact ⟨w1.heap.size, rfl, hsz3, by simp, (hE.trans hb1).alloc _, Blk.new _ _ _, (B0.ext hb1).alloc _, (B1.ext hb1).alloc _, (B2.ext hb1).alloc _, (B3.ext hb1).alloc _⟩
  clear a0 a1 a2 a3 o0 o1 x0 x1 x2 x3 y0 y1 y2 y3 y4 z2 z3
  obtain ⟨g, rfl, hg1, hg2, hE2, B4, B0, B1, B2, B3⟩ := hcut
  obtain ⟨g0, g1, g2, g3⟩ := blk4 B4
  obtain ⟨a0, a1, a2, a3⟩ := blk4 B0
  obtain ⟨o0, o1⟩ := blk2 B1
  obtain ⟨x0, x1, x2, x3⟩ := blk4 B2
  obtain ⟨y0, y1, y2, y3, y4⟩ := blk5 B3
  have z2 := B2.frozen
  have z3 := B3.frozen
  go_wp2_with (go_at_call 54; refine (rfail_any r 2 _).mono ?_; rintro e w1 ⟨rfl, hb1⟩; unfold rrV toldV; clear a0 a1 a2 a3 o0 o1 x0 x1 x2 x3 y0 y1 y2 y3 y4 z2 z3; replace B0 := B0.ext hb1; replace B1 := B1.ext hb1; replace B2 := B2.ext hb1; replace B3 := B3.ext hb1; obtain ⟨a0, a1, a2, a3⟩ := blk4 B0; obtain ⟨o0, o1⟩ := blk2 B1; obtain ⟨x0, x1, x2, x3⟩ := blk4 B2; obtain ⟨y0, y1, y2, y3, y4⟩ := blk5 B3; have z2 := B2.frozen; have z3 := B3.frozen)
  refine bodyPost_ret (v := .tuple #[rrV (r.rf 2), tV RS.zero]) (by simp [results, Try.results30, go_sem, rrV, tV, toldV, RS.zero, RS.rf, x0, x1, x2, x3, y0, y1, y2, y3, y4]) rfl (Ret.mk rfl ?_)
  repeat (refine Mod.setCell ?_ (.inr (by dsimp only; omega)) _)
  first | exact hE2 | exact hE2.trans hb1 | exact hE3 | exact hE3.trans hb1 | exact hE3.drew

end Go.Proofs.Ytmekhofncflhaaa
