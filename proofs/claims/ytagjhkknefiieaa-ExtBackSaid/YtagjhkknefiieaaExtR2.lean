/-
  What is made is read again: numbers, hops.
-/
import Derived.Test.YtagjhkknefiieaaExtR1
namespace Go.Proofs.Ytagjhkknefiieaa
open Go.RowKit
set_option linter.unusedVariables false

theorem numT_plain (n : Nat) : (numT n).plain = true ∧ (numT n).bytes.length ≤ 9 := by
  have := headL_le 0 n
  exact ⟨by simp [numT, T.plain, T.node, T.all], by simpa [numT, T.bytes] using this⟩
set_option maxRecDepth 20000 in
theorem ra1_yes (n : Nat) (hn : n ≤ 1099511627776) (t : T) (h2 : (numT n).same t = true) (A : Option Addr) (c : Nat) (w : World) : Calls Try.prog 45 #[itemV t A c] w (Ret (.tuple #[.int .u64 (n : Int), .bool true]) w) := by
  obtain ⟨g1, g2, g3, g4, g5, _⟩ := same_mk h2
  have t1 : decide ((n : Int) ≤ 1099511627776) = true := by simp; omega
  unfold itemV
  rw [g1, g2, g3, g4, g5]
  clear g1 g2 g3 g4 g5 h2 hn
  go_enter Try.func45, Try.ntmps45
  go_wp2_with fail
  go_quiet (fail)
  go_wp2_with fail
  refine bodyPost_ret (v := .tuple #[.int .u64 (n : Int), .bool true]) (by simp [results, Try.results45, go_sem]) rfl (Ret.mk rfl (by first | exact ((Mod.refl _ _).alloc _).drewN _ | exact ((Mod.refl _ _).alloc _).drew))
set_option maxRecDepth 20000 in
theorem readU_yes (n : Nat) (hn : n ≤ 1099511627776) (w : World) : Calls Try.prog 44 #[str (headL 0 n), .func (Fn.func 45) #[] #[]] w (Ret (.tuple #[.int .u64 (n : Int), .int .i64 0]) w) := by
  have hp := numT_plain n
  have K := hid (fun W => parse_same (numT_facts n).2.1 hp.1 (num_ok (n := n) (by omega)) (by omega) W)
  rw [(numT_facts n).2.2] at K
  clear hp
  go_enter Try.func44, Try.ntmps44
  go_wp2_with fail
  refine (K.out _).mono ?_
  rintro e1 w1 ⟨t, A, c, rfl, hb1, hr, hok, hs1, hs2, hl1⟩
  have HB1 := hid hb1
  have KO := hid (fun W => ra1_yes n hn t hs2 A c W)
  clear hb1 hl1 hr hok hs1 hs2 K
  go_wp2_with fail
  refine (KO.out _).mono ?_
  rintro e1 w2 ⟨rfl, hb2⟩
  go_wp2_with fail
  refine bodyPost_ret (v := .tuple #[.int .u64 (n : Int), .int .i64 0]) (by simp [results, Try.results44, go_sem]) rfl (Ret.mk rfl ((HB1.out.alloc _).trans hb2))
set_option maxRecDepth 20000 in
theorem ReadAge_yes (n : Nat) (hn : n ≤ 1099511627776) (w : World) : Calls Try.prog 18 #[str (headL 0 n)] w (Ret (.tuple #[.int .u64 (n : Int), .int .i64 0]) w) := by
  have K := hid (fun W => readU_yes n hn W)
  generalize headL 0 n = l at *
  go_enter Try.func18, Try.ntmps18
  go_wp2_with fail
  refine (K.out _).mono ?_
  rintro e1 w1 ⟨rfl, hb1⟩
  go_wp2_with fail
  refine bodyPost_ret (v := .tuple #[.int .u64 (n : Int), .int .i64 0]) (by simp [results, Try.results18, go_sem]) rfl (Ret.mk rfl hb1)
set_option maxRecDepth 20000 in
set_option maxHeartbeats 800000 in
theorem rh1_yes (l k : Nat) (hm : mayB l k = true) (t : T) (h2 : (pairT2 l k).same t = true) (A : Option Addr) (c : Nat) (w : World) (h : IsL w (fun _ => True) t A) : Calls Try.prog 60 #[itemV t A c] w (Ret (.tuple #[.agg #[.int .i64 (l : Int), .int .i64 (k : Int)], .bool true]) w) := by
  have KM := hid (fun W => may_any l k W)
  rw [hm] at KM
  have hb : l ≤ 255 ∧ k ≤ 255 := by simp [mayB] at hm; omega
  obtain ⟨g1, g2, g3, g4, g5, g6⟩ := same_mk h2
  have q0 := same_mk (g6 0 (by omega))
  have q1 : (numT k).same (t.ch 1) = true := g6 1 (by omega)
  have q1 := same_mk q1
  obtain ⟨kind, n, s, op, kk, ch, rfl⟩ : ∃ kind n s op k ch, t = T.mk kind n s op k ch := by
    cases t with
    | nil => cases h
    | mk a b d e f g => exact ⟨a, b, d, e, f, g, rfl⟩
  have g1 : kind = 4 := g1
  have g4 : op = false := g4
  have g5 : kk = 2 := g5
  subst g1 g4 g5
  obtain ⟨b, o, ac, rfl, hb1, _, hc⟩ := h.rows (by omega)
  obtain ⟨a0, _⟩ := hc 0 (by omega)
  obtain ⟨a1, _⟩ := hc 1 (by omega)
  have a0 : At5 w b o (ch 0) (ac 0).1 (ac 0).2 := by simpa using a0
  have a1 : At5 w b (o + 5) (ch 1) (ac 1).1 (ac 1).2 := by simpa using a1
  have HE := hid ((Mod.refl [] w).alloc (.cells #[.int .i64 4, .int .u64 (n : Int), str s, .slice (some ⟨b, o, none⟩) 2 c, .bool false] 63))
  obtain ⟨x0, x1, _⟩ := a0.mod HE.out hb1 (by simp)
  obtain ⟨y0, y1, _⟩ := a1.mod HE.out hb1 (by simp)
  have z0 : (ch 0).kind = 0 := q0.1
  have z1 : (ch 0).n = l := q0.2.1
  have z2 : (ch 1).kind = 0 := q1.1
  have z3 : (ch 1).n = k := q1.2.1
  rw [z0] at x0
  rw [z1] at x1
  rw [z2] at y0
  rw [z3] at y1
  have HA0 := hid a0
  have HA1 := hid a1
  have Z1 := hid z1
  have Z3 := hid z3
  clear a0 a1 hc g6 q0 q1 z0 z1 z2 z3 h2 hm h
  show Calls _ _ #[.agg #[.int .i64 4, .int .u64 (n : Int), str s, .slice (some ⟨b, o, none⟩) 2 c, .bool false]] _ _
  have HE2 := hid (HE.out.alloc (.cells #[.int .i64 0, .int .i64 0] 75))
  have HX2 := hid ((Blk.new w 63 #[.int .i64 4, .int .u64 (n : Int), str s, .slice (some ⟨b, o, none⟩) 2 c, .bool false]).alloc (.cells #[.int .i64 0, .int .i64 0] 75))
  have HQ2 := hid (Blk.new' (w.alloc (.cells #[.int .i64 4, .int .u64 (n : Int), str s, .slice (some ⟨b, o, none⟩) 2 c, .bool false] 63)) 75 #[.int .i64 0, .int .i64 0] (N := w.heap.size + 1) (by simp))
  have ml : ((256 : Int) < (l : Int)) = False := by simp; omega
  have mk : ((256 : Int) < (k : Int)) = False := by simp; omega
  have tl : IntKind.i64.wrap (l : Int) = (l : Int) := IntWalk.i64_in _ (by omega)
  have tk : IntKind.i64.wrap (k : Int) = (k : Int) := IntWalk.i64_in _ (by omega)
  go_enter Try.func60, Try.ntmps60
  go_upto_region 3 with fail
  obtain ⟨V, hV⟩ : ∃ V, V = (w.alloc (.cells #[.int .i64 4, .int .u64 (n : Int), str s, .slice (some ⟨b, o, none⟩) 2 c, .bool false] 63)).alloc (.cells #[.int .i64 0, .int .i64 0] 75) := ⟨_, rfl⟩
  rw [← hV] at HE2 HX2 HQ2 ⊢
  have hs : V.heap.size = w.heap.size + 1 + 1 := by rw [hV]; simp
  have HS := hid hs
  have p3 : V.cell? ⟨w.heap.size, 3, none⟩ = some (.slice (some ⟨b, o, none⟩) 2 c) := HX2.out.cell 3
  have px : V.cell? ⟨b, o + 1, none⟩ = some (.int .u64 (l : Int)) := by have := (HA0.out.mod HE2.out hb1 (by simp)).2.1; rw [Z1.out] at this; exact this
  have py : V.cell? ⟨b, o + 5 + 1, none⟩ = some (.int .u64 (k : Int)) := by have := (HA1.out.mod HE2.out hb1 (by simp)).2.1; rw [Z3.out] at this; exact this
  clear x0 x1 y0 y1 hV hs
  go_cut [4] (fun s4 wx => ∃ g, s4 = .pointer (some ⟨g, 0, none⟩) ∧ Hid (Ext w wx ∧ Blk wx g 75 #[.int .i64 (l : Int), .int .i64 (k : Int)] ∧ Blk wx (w.heap.size + 1) 75 #[.int .i64 0, .int .i64 0] ∧ w.heap.size + 1 ≠ g))
  case first =>
    go_region_held3 (fun w' => w'.cell? ⟨w.heap.size, 3, none⟩ = some (.slice (some ⟨b, o, none⟩) 2 c) ∧ w'.cell? ⟨b, o + 1, none⟩ = some (.int .u64 (l : Int)) ∧ w'.cell? ⟨b, o + 5 + 1, none⟩ = some (.int .u64 (k : Int))) (go_keep) (first | fail)
    all_goals go_wp2_with fail
    all_goals go_meet
    all_goals exact ⟨_, rfl, (HE2.out.alloc _).drew, (Blk.new V 75 #[.int .i64 (l : Int), .int .i64 (k : Int)]).drew, (HQ2.out.alloc _).drew, by have := HS.out; omega⟩
  obtain ⟨g, rfl, hG⟩ := hcut
  have HGE := hid hG.out.1
  have HG := hid hG.out.2.1
  have HGQ := hid hG.out.2.2.1
  have hne : w.heap.size + 1 ≠ g := hG.out.2.2.2
  clear hG p3 px py ml mk tl tk
  rename World => V2
  have y0 : V2.cell? ⟨g, 0, none⟩ = some (.int .i64 (l : Int)) := HG.out.cell 0
  have y1 : V2.cell? ⟨g, 1, none⟩ = some (.int .i64 (k : Int)) := HG.out.cell 1
  have HS2 : Hid (∀ w', Ext V2 w' → w'.cell? ⟨g, 0, none⟩ = some (.int .i64 (l : Int)) ∧ w'.cell? ⟨g, 1, none⟩ = some (.int .i64 (k : Int))) := fun W hW => ⟨(HG.out.ext hW).cell 0, (HG.out.ext hW).cell 1⟩
  go_upto_region 4 with fail
  go_region_held3 (fun w' => w'.cell? ⟨g, 0, none⟩ = some (.int .i64 (l : Int)) ∧ w'.cell? ⟨g, 1, none⟩ = some (.int .i64 (k : Int))) (go_keep)
    (first
      | (go_at_call 37; refine (KM.out _).mono ?_; rintro x w3 ⟨rfl, hb3⟩; have hx : Ext V2 w3 := (by (with_reducible refine Mod.trans ?_ hb3); (repeat (first | with_reducible assumption | with_reducible exact Mod.refl _ _ | with_reducible refine Mod.drew ?_ | with_reducible refine Mod.alloc ?_ _))); have z := HS2.out w3 hx; have HQ3 := hid (HGQ.out.ext hx); have r0 : w3.cell? ⟨w.heap.size + 1, 0, none⟩ = some (.int .i64 0) := HQ3.out.cell 0; have r1 : w3.cell? ⟨w.heap.size + 1, 1, none⟩ = some (.int .i64 0) := HQ3.out.cell 1; have f0 := Blk.frozen HQ3.out 0; have f1 := Blk.frozen HQ3.out 1))
  all_goals go_wp2_with fail
  all_goals have B2 := (HQ3.out.set_ 0 (.int .i64 (l : Int))).set_ 1 (.int .i64 (k : Int))
  all_goals have d0 : ((w3.setCell ⟨w.heap.size + 1, 0, none⟩ (.int .i64 (l : Int))).setCell ⟨w.heap.size + 1, 1, none⟩ (.int .i64 (k : Int))).cell? ⟨w.heap.size + 1, 0, none⟩ = some (.int .i64 (l : Int)) := B2.cell 0
  all_goals have d1 : ((w3.setCell ⟨w.heap.size + 1, 0, none⟩ (.int .i64 (l : Int))).setCell ⟨w.heap.size + 1, 1, none⟩ (.int .i64 (k : Int))).cell? ⟨w.heap.size + 1, 1, none⟩ = some (.int .i64 (k : Int)) := B2.cell 1
  all_goals clear B2 r0 r1 f0 f1
  all_goals refine bodyPost_ret (v := .tuple #[.agg #[.int .i64 (l : Int), .int .i64 (k : Int)], .bool true]) (by simp [results, Try.results60, go_sem, d0, d1]) rfl (Ret.mk rfl (((HGE.out.trans hx).setCell (.inr (by show w.heap.size ≤ w.heap.size + 1; omega)) _).setCell (.inr (by show w.heap.size ≤ w.heap.size + 1; omega)) _))
end Go.Proofs.Ytagjhkknefiieaa
