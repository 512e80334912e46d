/-
  Security texts: shaped.
  A row of items of the call's own that grows; what hangs on its items lies elsewhere.
  A block's cells, stored anew one by one.
  A struct in the midst of a block, loaded in a region whose operations are held.
  Security texts: pairs' item.
  Primaries: flags; why one is not right, as the reference tells it.
  Primaries: why one is not right, as the code tells it.
  Items in memory, with room for as many as they are.
  Primaries: their items, made.
  Security texts: their items.
  Two strings become one, in a plain region.
  Security texts: their bytes; what a program that does nothing does not answer.
  Security texts: Right, Build; what a program that does nothing does not answer.
  Security texts, read: errors; a number, or one that is too great.
  Security texts, read: targets.
  A row of elements of the call's own that grows, whatever the elements; what hangs on them lies elsewhere.
  Security texts: rows of pairs, of rows of pairs, of numbers, that grow.
  Security texts: items, and pairs, of their own.
  Security texts: pairs of their own.
  Security texts, read: pairs.
  slices.Clone and Delete of numbers.
-/
import Derived.Test.YtblfmokklfhklaaDoorMAsbLongCardb
import Derived.Deep.AppendLies
import Derived.Deep.RegionLaw
import Derived.Laws.BitsAllLaws
import Derived.Lib.SliceRun
import Derived.Shelf.Spec.SlicesInsert

namespace Go.Proofs.YtblfmokklfhklaaDoor
open Go.RowKit
set_option linter.unusedVariables false
set_option linter.unusedSimpArgs false

set_option maxRecDepth 20000 in
set_option maxHeartbeats 4000000 in
theorem shaped_any (a : AV) (hw : a.wf) (m : AA) (hmt : a.tk ≤ m.tc) (w : World) (h : AsL w anyQ a m) : Calls Tryd.prog 19 #[asbV a m] w (Ret (.bool a.shaped) w) := by
  have HE := hid ((Mod.refl [] w).alloc (.cells (asbC a m) 31))
  have HB0 := hid (Blk.new w 31 (asbC a m))
  have HL := hid (h.ext HE.out)
  have HW := hid hw
  clear h
  go_enter Tryd.func19, Tryd.ntmps19
  go_upto_region 1 with fail
  generalize w.alloc (.cells (asbC a m) 31) = V at *
  have b0 : ∀ e : Later V, e.x.cell? ⟨w.heap.size, 0, none⟩ = some (.slice m.t a.tk m.tc) := HB0.out.cellL 0 rfl
  have b1 : ∀ e : Later V, e.x.cell? ⟨w.heap.size, 1, none⟩ = some (.int .i64 a.ctx) := HB0.out.cellL 1 rfl
  have b6 : ∀ e : Later V, e.x.cell? ⟨w.heap.size, 6, none⟩ = some (.slice m.p a.ps.k m.pc) := HB0.out.cellL 6 rfl
  have b7 : ∀ e : Later V, e.x.cell? ⟨w.heap.size, 7, none⟩ = some (.slice m.r a.rk m.rc) := HB0.out.cellL 7 rfl
  have HRE : Hid (∀ e : Later V, e.x.rangeAt w.heap.size 2 [.int .i64 a.src.sch, str a.src.name, .int .u64 (a.src.node : Int), .int .u64 (a.src.svc : Int)]) := HB0.out.range 2 4 (by rfl)
  have KU := hid (fun e : Later V => unlike_any m.t a.tg a.tk m.tc hw.1.1 hmt e.x (HL.out.t.ext e.h))
  have KC := hid (fun W => coded_any a.ctx W)
  have KE := hid (fun W => eidRight_any a.src hw.2.2.1 W)
  have KP := hid (fun (h8 : a.ps.k ≤ 100000) (e : Later V) => pairs_any a.ps h8 (fun i hi => (hw.2.2.2.1.2 i hi).1) m.p m.pc e.x (HL.out.p.ext e.h))
  have KR := hid (fun e : Later V => ContainsR_any m.r a.rs a.rk m.rc hw.2.2.2.2.1 hw.2.2.2.2.2 e.x (HL.out.r.ext e.h))
  have tk0 : (a.tk : Int) < 4611686018427387904 := by have := hw.1.1; omega
  have rk0 : (a.rk : Int) < 4611686018427387904 := by have := hw.2.2.2.2.1; omega
  have pk0 : (a.ps.k : Int) < 4611686018427387904 := by have := hw.2.2.2.1.1; omega
  clear hw hmt
  obtain ⟨e, he⟩ := Later.self V
  rw [he]
  clear he
  by_cases hc : a.tk < 1
  case pos =>
    have taa : decide (a.tk < 1) = true := decide_eq_true (by omega)
    have tab : (a.tk < 1) = True := eq_true (by omega)
    have tba : decide ((a.tk : Int) < 1) = true := decide_eq_true (by omega)
    have tbb : ((a.tk : Int) < 1) = True := eq_true (by omega)
    have HC := hid hc
    clear hc
    have HX : Hid (a.shaped = false) := hid (by cases hh : a.shaped with | false => rfl | true => exact absurd (AV.shaped_iff.1 hh) (by rintro ⟨⟨g1, g2⟩, g3, g4, g5, g6, g7, g8, g9⟩; have := HC.out; omega))
    have tk1 : True := trivial
    go_wp2_with (first | (clear tk1; refine wpList_mid (by rfl) 27 _ rfl _ 2 rfl _ _ (HRE.out _) Tryd.underlying27 rfl (by kernel_rfl) ?_) | (go_at_call 33; refine (Ret.later (KU.out _)).mono ?_; rintro x _ ⟨rfl, e, rfl⟩) | (go_at_call 34; refine (KC.out _).mono ?_; rintro e' w' ⟨rfl, rfl⟩) | (go_at_call 35; refine (Ret.later (KE.out _)).mono ?_; rintro x _ ⟨rfl, e, rfl⟩) | (go_at_call 36; refine (Ret.later (KP.out (by assumption) _)).mono ?_; rintro x _ ⟨rfl, e, rfl⟩) | (go_at_call 37; refine (Ret.later (KR.out _)).mono ?_; rintro x _ ⟨rfl, e, rfl⟩))
    go_ret
    exact Ret.mk (by rw [HX.out]; rfl) (HE.out.trans e.h)
  have taa : decide (a.tk < 1) = false := decide_eq_false (by omega)
  have tab : (a.tk < 1) = False := eq_false (by omega)
  have tba : decide ((a.tk : Int) < 1) = false := decide_eq_false (by omega)
  have tbb : ((a.tk : Int) < 1) = False := eq_false (by omega)
  have H1 := hid hc
  clear hc
  by_cases hc : 16 < a.tk
  case pos =>
    have tca : decide (16 < a.tk) = true := decide_eq_true (by omega)
    have tcb : (16 < a.tk) = True := eq_true (by omega)
    have tda : decide ((16 : Int) < (a.tk : Int)) = true := decide_eq_true (by omega)
    have tdb : ((16 : Int) < (a.tk : Int)) = True := eq_true (by omega)
    have HC := hid hc
    clear hc
    have HX : Hid (a.shaped = false) := hid (by cases hh : a.shaped with | false => rfl | true => exact absurd (AV.shaped_iff.1 hh) (by rintro ⟨⟨g1, g2⟩, g3, g4, g5, g6, g7, g8, g9⟩; have := HC.out; omega))
    have tk1 : True := trivial
    go_wp2_with (first | (clear tk1; refine wpList_mid (by rfl) 27 _ rfl _ 2 rfl _ _ (HRE.out _) Tryd.underlying27 rfl (by kernel_rfl) ?_) | (go_at_call 33; refine (Ret.later (KU.out _)).mono ?_; rintro x _ ⟨rfl, e, rfl⟩) | (go_at_call 34; refine (KC.out _).mono ?_; rintro e' w' ⟨rfl, rfl⟩) | (go_at_call 35; refine (Ret.later (KE.out _)).mono ?_; rintro x _ ⟨rfl, e, rfl⟩) | (go_at_call 36; refine (Ret.later (KP.out (by assumption) _)).mono ?_; rintro x _ ⟨rfl, e, rfl⟩) | (go_at_call 37; refine (Ret.later (KR.out _)).mono ?_; rintro x _ ⟨rfl, e, rfl⟩))
    go_ret
    exact Ret.mk (by rw [HX.out]; rfl) (HE.out.trans e.h)
  have tca : decide (16 < a.tk) = false := decide_eq_false (by omega)
  have tcb : (16 < a.tk) = False := eq_false (by omega)
  have tda : decide ((16 : Int) < (a.tk : Int)) = false := decide_eq_false (by omega)
  have tdb : ((16 : Int) < (a.tk : Int)) = False := eq_false (by omega)
  have H16 := hid hc
  clear hc
  cases hc : unlikeB a.tg a.tk with
  | false =>
    rw [hc] at KU
    have HC := hid hc
    clear hc
    have HX : Hid (a.shaped = false) := hid (by cases hh : a.shaped with | false => rfl | true => exact absurd (AV.shaped_iff.1 hh) (by rintro ⟨⟨g1, g2⟩, g3, g4, g5, g6, g7, g8, g9⟩; rw [HC.out] at g3; cases g3))
    have tk1 : True := trivial
    go_wp2_with (first | (clear tk1; refine wpList_mid (by rfl) 27 _ rfl _ 2 rfl _ _ (HRE.out _) Tryd.underlying27 rfl (by kernel_rfl) ?_) | (go_at_call 33; refine (Ret.later (KU.out _)).mono ?_; rintro x _ ⟨rfl, e, rfl⟩) | (go_at_call 34; refine (KC.out _).mono ?_; rintro e' w' ⟨rfl, rfl⟩) | (go_at_call 35; refine (Ret.later (KE.out _)).mono ?_; rintro x _ ⟨rfl, e, rfl⟩) | (go_at_call 36; refine (Ret.later (KP.out (by assumption) _)).mono ?_; rintro x _ ⟨rfl, e, rfl⟩) | (go_at_call 37; refine (Ret.later (KR.out _)).mono ?_; rintro x _ ⟨rfl, e, rfl⟩))
    go_ret
    exact Ret.mk (by rw [HX.out]; rfl) (HE.out.trans e.h)
  | true =>
  rw [hc] at KU
  have H3 := hid hc
  clear hc
  cases hc : codedB a.ctx with
  | false =>
    rw [hc] at KC
    have HC := hid hc
    clear hc
    have HX : Hid (a.shaped = false) := hid (by cases hh : a.shaped with | false => rfl | true => exact absurd (AV.shaped_iff.1 hh) (by rintro ⟨⟨g1, g2⟩, g3, g4, g5, g6, g7, g8, g9⟩; rw [HC.out] at g4; cases g4))
    have tk1 : True := trivial
    go_wp2_with (first | (clear tk1; refine wpList_mid (by rfl) 27 _ rfl _ 2 rfl _ _ (HRE.out _) Tryd.underlying27 rfl (by kernel_rfl) ?_) | (go_at_call 33; refine (Ret.later (KU.out _)).mono ?_; rintro x _ ⟨rfl, e, rfl⟩) | (go_at_call 34; refine (KC.out _).mono ?_; rintro e' w' ⟨rfl, rfl⟩) | (go_at_call 35; refine (Ret.later (KE.out _)).mono ?_; rintro x _ ⟨rfl, e, rfl⟩) | (go_at_call 36; refine (Ret.later (KP.out (by assumption) _)).mono ?_; rintro x _ ⟨rfl, e, rfl⟩) | (go_at_call 37; refine (Ret.later (KR.out _)).mono ?_; rintro x _ ⟨rfl, e, rfl⟩))
    go_ret
    exact Ret.mk (by rw [HX.out]; rfl) (HE.out.trans e.h)
  | true =>
  rw [hc] at KC
  have H4 := hid hc
  clear hc
  cases hc : a.src.ok with
  | false =>
    rw [hc] at KE
    have HC := hid hc
    clear hc
    have HX : Hid (a.shaped = false) := hid (by cases hh : a.shaped with | false => rfl | true => exact absurd (AV.shaped_iff.1 hh) (by rintro ⟨⟨g1, g2⟩, g3, g4, g5, g6, g7, g8, g9⟩; rw [HC.out] at g5; cases g5))
    have tk1 : True := trivial
    go_wp2_with (first | (clear tk1; refine wpList_mid (by rfl) 27 _ rfl _ 2 rfl _ _ (HRE.out _) Tryd.underlying27 rfl (by kernel_rfl) ?_) | (go_at_call 33; refine (Ret.later (KU.out _)).mono ?_; rintro x _ ⟨rfl, e, rfl⟩) | (go_at_call 34; refine (KC.out _).mono ?_; rintro e' w' ⟨rfl, rfl⟩) | (go_at_call 35; refine (Ret.later (KE.out _)).mono ?_; rintro x _ ⟨rfl, e, rfl⟩) | (go_at_call 36; refine (Ret.later (KP.out (by assumption) _)).mono ?_; rintro x _ ⟨rfl, e, rfl⟩) | (go_at_call 37; refine (Ret.later (KR.out _)).mono ?_; rintro x _ ⟨rfl, e, rfl⟩))
    go_ret
    exact Ret.mk (by rw [HX.out]; rfl) (HE.out.trans e.h)
  | true =>
  rw [hc] at KE
  have H5 := hid hc
  clear hc
  by_cases hc : 8 < a.ps.k
  case pos =>
    have tea : decide (8 < a.ps.k) = true := decide_eq_true (by omega)
    have teb : (8 < a.ps.k) = True := eq_true (by omega)
    have tfa : decide ((8 : Int) < (a.ps.k : Int)) = true := decide_eq_true (by omega)
    have tfb : ((8 : Int) < (a.ps.k : Int)) = True := eq_true (by omega)
    have HC := hid hc
    clear hc
    have HX : Hid (a.shaped = false) := hid (by cases hh : a.shaped with | false => rfl | true => exact absurd (AV.shaped_iff.1 hh) (by rintro ⟨⟨g1, g2⟩, g3, g4, g5, g6, g7, g8, g9⟩; have := HC.out; omega))
    have tk1 : True := trivial
    go_wp2_with (first | (clear tk1; refine wpList_mid (by rfl) 27 _ rfl _ 2 rfl _ _ (HRE.out _) Tryd.underlying27 rfl (by kernel_rfl) ?_) | (go_at_call 33; refine (Ret.later (KU.out _)).mono ?_; rintro x _ ⟨rfl, e, rfl⟩) | (go_at_call 34; refine (KC.out _).mono ?_; rintro e' w' ⟨rfl, rfl⟩) | (go_at_call 35; refine (Ret.later (KE.out _)).mono ?_; rintro x _ ⟨rfl, e, rfl⟩) | (go_at_call 36; refine (Ret.later (KP.out (by assumption) _)).mono ?_; rintro x _ ⟨rfl, e, rfl⟩) | (go_at_call 37; refine (Ret.later (KR.out _)).mono ?_; rintro x _ ⟨rfl, e, rfl⟩))
    go_ret
    exact Ret.mk (by rw [HX.out]; rfl) (HE.out.trans e.h)
  have tea : decide (8 < a.ps.k) = false := decide_eq_false (by omega)
  have teb : (8 < a.ps.k) = False := eq_false (by omega)
  have tfa : decide ((8 : Int) < (a.ps.k : Int)) = false := decide_eq_false (by omega)
  have tfb : ((8 : Int) < (a.ps.k : Int)) = False := eq_false (by omega)
  have H8 := hid hc
  have h100 : a.ps.k ≤ 100000 := by omega
  clear hc
  cases hc : pairsB a.ps with
  | false =>
    rw [hc] at KP
    have HC := hid hc
    clear hc
    have HX : Hid (a.shaped = false) := hid (by cases hh : a.shaped with | false => rfl | true => exact absurd (AV.shaped_iff.1 hh) (by rintro ⟨⟨g1, g2⟩, g3, g4, g5, g6, g7, g8, g9⟩; rw [HC.out] at g7; cases g7))
    have tk1 : True := trivial
    go_wp2_with (first | (clear tk1; refine wpList_mid (by rfl) 27 _ rfl _ 2 rfl _ _ (HRE.out _) Tryd.underlying27 rfl (by kernel_rfl) ?_) | (go_at_call 33; refine (Ret.later (KU.out _)).mono ?_; rintro x _ ⟨rfl, e, rfl⟩) | (go_at_call 34; refine (KC.out _).mono ?_; rintro e' w' ⟨rfl, rfl⟩) | (go_at_call 35; refine (Ret.later (KE.out _)).mono ?_; rintro x _ ⟨rfl, e, rfl⟩) | (go_at_call 36; refine (Ret.later (KP.out (by assumption) _)).mono ?_; rintro x _ ⟨rfl, e, rfl⟩) | (go_at_call 37; refine (Ret.later (KR.out _)).mono ?_; rintro x _ ⟨rfl, e, rfl⟩))
    go_ret
    exact Ret.mk (by rw [HX.out]; rfl) (HE.out.trans e.h)
  | true =>
  rw [hc] at KP
  have H7 := hid hc
  clear hc
  by_cases hc : a.rk ≠ a.tk
  case pos =>
    have tga : (((a.rk : Int)) == ((a.tk : Int))) = false := by rw [beq_eq_false_iff_ne]; omega
    have tgb : (((a.rk : Int)) = ((a.tk : Int))) = False := eq_false (by omega)
    have tgc : (((a.rk : Int)) != ((a.tk : Int))) = true := by rw [bne_iff_ne]; omega
    have tha : ((a.rk) == (a.tk)) = false := by rw [beq_eq_false_iff_ne]; omega
    have thb : ((a.rk) = (a.tk)) = False := eq_false (by omega)
    have thc : ((a.rk) != (a.tk)) = true := by rw [bne_iff_ne]; omega
    have HC := hid hc
    clear hc
    have HX : Hid (a.shaped = false) := hid (by cases hh : a.shaped with | false => rfl | true => exact absurd (AV.shaped_iff.1 hh) (by rintro ⟨⟨g1, g2⟩, g3, g4, g5, g6, g7, g8, g9⟩; exact HC.out g8))
    have tk1 : True := trivial
    go_wp2_with (first | (clear tk1; refine wpList_mid (by rfl) 27 _ rfl _ 2 rfl _ _ (HRE.out _) Tryd.underlying27 rfl (by kernel_rfl) ?_) | (go_at_call 33; refine (Ret.later (KU.out _)).mono ?_; rintro x _ ⟨rfl, e, rfl⟩) | (go_at_call 34; refine (KC.out _).mono ?_; rintro e' w' ⟨rfl, rfl⟩) | (go_at_call 35; refine (Ret.later (KE.out _)).mono ?_; rintro x _ ⟨rfl, e, rfl⟩) | (go_at_call 36; refine (Ret.later (KP.out (by assumption) _)).mono ?_; rintro x _ ⟨rfl, e, rfl⟩) | (go_at_call 37; refine (Ret.later (KR.out _)).mono ?_; rintro x _ ⟨rfl, e, rfl⟩))
    go_ret
    exact Ret.mk (by rw [HX.out]; rfl) (HE.out.trans e.h)
  have tga : (((a.rk : Int)) == ((a.tk : Int))) = true := by rw [beq_iff_eq]; omega
  have tgb : (((a.rk : Int)) = ((a.tk : Int))) = True := eq_true (by omega)
  have tgc : (((a.rk : Int)) != ((a.tk : Int))) = false := by rw [bne_eq_false_iff_eq]; omega
  have tha : ((a.rk) == (a.tk)) = true := by rw [beq_iff_eq]; omega
  have thb : ((a.rk) = (a.tk)) = True := eq_true (by omega)
  have thc : ((a.rk) != (a.tk)) = false := by rw [bne_eq_false_iff_eq]; omega
  have H9 : Hid (a.rk = a.tk) := hid (by omega)
  clear hc
  have HX : Hid (a.shaped = T.all (fun i => resB (a.rs i)) a.rk) := hid (by
    rw [AV.shaped_eq]
    unfold AV.one AV.two
    rw [H3.out, H4.out, H5.out, H7.out, decide_eq_true H9.out, decide_eq_true (show a.ps.k ≤ 8 by have := H8.out; omega), decide_eq_true (show a.tk ≤ 16 by have := H16.out; omega), decide_eq_true (show 1 ≤ a.tk by have := H1.out; omega)]
    simp)
  generalize T.all (fun i => resB (a.rs i)) a.rk = B at *
  have tk1 : True := trivial
  go_wp2_with (first | (clear tk1; refine wpList_mid (by rfl) 27 _ rfl _ 2 rfl _ _ (HRE.out _) Tryd.underlying27 rfl (by kernel_rfl) ?_) | (go_at_call 33; refine (Ret.later (KU.out _)).mono ?_; rintro x _ ⟨rfl, e, rfl⟩) | (go_at_call 34; refine (KC.out _).mono ?_; rintro e' w' ⟨rfl, rfl⟩) | (go_at_call 35; refine (Ret.later (KE.out _)).mono ?_; rintro x _ ⟨rfl, e, rfl⟩) | (go_at_call 36; refine (Ret.later (KP.out (by assumption) _)).mono ?_; rintro x _ ⟨rfl, e, rfl⟩) | (go_at_call 37; refine (Ret.later (KR.out _)).mono ?_; rintro x _ ⟨rfl, e, rfl⟩))
  go_ret
  exact Ret.mk (by rw [HX.out]; simp) (HE.out.trans e.h)
end Go.Proofs.YtblfmokklfhklaaDoor


namespace Go.Proofs.YtblfmokklfhklaaDoor
open Go.RowKit
set_option linter.unusedVariables false
set_option linter.unusedSimpArgs false

abbrev offA (A : Option Addr) : Nat → Prop := fun b => ∀ g, A = some g → b ≠ g.block
def obs : Option Addr → List Nat
  | some g => [g.block]
  | none => []
theorem offA_obs {A : Option Addr} {b : Nat} (h : offA A b) : b ∉ obs A := by
  cases A with
  | none => simp [obs]
  | some g => have := h g rfl; simp [obs, this]
structure Rw (W : World) (Q : Nat → Prop) (base : Nat) (A : Option Addr) (c n : Nat) (ch : Nat → T) (ac : Nat → Option Addr × Nat) : Prop where
  own : W.ownsRow base 36 5 (.slice A n c) n (flatC ch ac n)
  kid : ∀ j, j < n → IsL W (fun b => Q b ∧ offA A b) (ch j) (ac j).1
section
variable {W W' : World} {Q : Nat → Prop} {base c n : Nat} {A : Option Addr} {ch : Nat → T} {ac : Nat → Option Addr × Nat}
theorem Rw.nil : Rw W Q base none 0 0 ch ac := ⟨World.ownsRow_nil _ _ _ _, fun j hj => by omega⟩
theorem Rw.mod {S : List Nat} (h : Rw W Q base A c n ch ac) (hm : Mod S W W') (hs : ∀ k, k < W.heap.size → k ∉ S) : Rw W' Q base A c n ch ac :=
  ⟨ownsRow_mod h.own hm (fun k hk => hs k ((h.own.lt k hk).2)), fun j hj => IsL.mod hm (fun k _ hk => hs k hk) _ (h.kid j hj)⟩
theorem Rw.ext (h : Rw W Q base A c n ch ac) (hm : Ext W W') : Rw W' Q base A c n ch ac := h.mod hm (by simp)
/-- Where other blocks turn: its own block, and what hangs on its items, in Q. -/
theorem Rw.isL (h : Rw W Q base A c n ch ac) (hq : ∀ b, base ≤ b → Q b) : IsL W Q (T.mk 4 0 [] false n ch) A := fun h0 => by
  obtain ⟨m, rfl⟩ : ∃ m, n = m + 1 := ⟨n - 1, by omega⟩
  obtain ⟨g, c', hv, hb, hlt⟩ := own_form h.own
  simp only [Value.slice.injEq] at hv
  obtain ⟨rfl, _, rfl⟩ := hv
  exact own_IsL hlt (hq _ hb) h.own (fun i hi => IsL.weak (fun _ _ h => h.1) _ (h.kid i hi)) (by omega)
theorem obs_own : (Value.slice A n c).ownBlock = A.map (·.block) := by cases A <;> rfl
theorem grown_obs (hgr : W.grownBy W' (Value.slice A n c).ownBlock) : Mod (obs A) W W' := by
  refine (Mod.refl _ _).grown hgr (fun k hk => .inl ?_)
  cases A with
  | none => cases hk
  | some g =>
    have : g.block = k := by simpa [Value.ownBlock] using hk
    simp [obs, this]
theorem Rw.append (h : Rw W Q base A c n ch ac) {t : T} {At : Option Addr} {ct : Nat} (hI : IsL W (fun b => Q b ∧ offA A b) t At) (ht : ch n = t) {g cap : Nat}
    (hown : W'.ownsRow base 36 5 (.slice (some ⟨g, 0, none⟩) (n + 1) cap) (n + 1) (flatC ch ac n ++ [.int .i64 t.kind, .int .u64 (t.n : Int), str t.s, .slice At t.k ct, .bool t.op]))
    (hgr : W.grownBy W' (Value.slice A n c).ownBlock) (hat : (Value.slice A n c).ownBlock = some g ∨ g = W.heap.size) : ∃ ac', Rw W' Q base (some ⟨g, 0, none⟩) cap (n + 1) ch ac' := by
  subst ht
  have hm : Mod (obs A) W W' := grown_obs hgr
  have key : ∀ {x : T} {Ax : Option Addr}, IsL W (fun b => Q b ∧ offA A b) x Ax → IsL W' (fun b => Q b ∧ offA (some ⟨g, 0, none⟩) b) x Ax := by
    intro x Ax hx
    have h1 := IsL.weak (R := fun b => (Q b ∧ offA A b) ∧ b ≠ g) (fun b hb hq => ⟨hq, by
      rcases hat with hat | hat
      · cases A with
        | none => cases hat
        | some a =>
          have : a.block = g := by simpa [Value.ownBlock] using hat
          rw [← this]; exact hq.2 a rfl
      · omega⟩) _ hx
    have h2 := IsL.mod hm (fun k hk _ => offA_obs hk.1.2) _ h1
    exact IsL.weak (fun b _ hq => ⟨hq.1.1, fun g' hg' => by cases hg'; exact hq.2⟩) _ h2
  refine ⟨fun j => if j = n then (At, ct) else ac j, ?_, fun j hj => ?_⟩
  · rw [flatC, flatC_congr (ch' := ch) (ac' := ac) (fun j hj => ⟨rfl, by rw [if_neg (by omega)]⟩)]
    simpa using hown
  · by_cases e : j = n
    · subst e
      simpa using key hI
    · simpa [e] using key (h.kid j (by omega))
theorem Rw.weak {R : Nat → Prop} (h : Rw W Q base A c n ch ac) (hq : ∀ k, k < W.heap.size → Q k → R k) : Rw W R base A c n ch ac :=
  ⟨h.own, fun j hj => IsL.weak (fun b hb hh => ⟨hq b hb hh.1, hh.2⟩) _ (h.kid j hj)⟩
theorem Rw.modQ {S : List Nat} (h : Rw W Q base A c n ch ac) (hm : Mod S W W') (ho : ∀ g, A = some g → g.block ∉ S) (hs : ∀ k, Q k → k < W.heap.size → k ∉ S) : Rw W' Q base A c n ch ac :=
  ⟨ownsRow_mod h.own hm (fun k hk => by
    cases A with
    | none => cases hk
    | some g =>
      have : g.block = k := by simpa [Value.ownBlock] using hk
      rw [← this]; exact ho g rfl), fun j hj => IsL.mod hm (fun k hk hlt => hs k hk.1 hlt) _ (h.kid j hj)⟩
/-- Two rows: the first grows. -/
theorem two_first {A1 : Option Addr} {n1 c1 g1 : Nat} (h : Rw W (offA A1) base A c n ch ac) (hap : ∀ g, A = some g → offA A1 g.block)
    (hgr : W.grownBy W' (Value.slice A1 n1 c1).ownBlock) (hat : (Value.slice A1 n1 c1).ownBlock = some g1 ∨ g1 = W.heap.size) :
    Rw W' (offA (some ⟨g1, 0, none⟩)) base A c n ch ac ∧ ∀ g, A = some g → offA (some ⟨g1, 0, none⟩) g.block := by
  have key : ∀ b, b < W.heap.size → offA A1 b → offA A1 b ∧ b ≠ g1 := fun b hb hq => ⟨hq, by
    rcases hat with hat | hat
    · cases A1 with
      | none => cases hat
      | some a =>
        have : a.block = g1 := by simpa [Value.ownBlock] using hat
        rw [← this]; exact hq a rfl
    · omega⟩
  have hlt : ∀ g, A = some g → g.block < W.heap.size := fun g hg => (h.own.lt g.block (by subst hg; rfl)).2
  refine ⟨?_, fun g hg g' hg' => by cases hg'; exact (key g.block (hlt g hg) (hap g hg)).2⟩
  refine Rw.weak ((h.weak key).modQ (grown_obs hgr) (fun g hg => offA_obs (hap g hg)) (fun k hk _ => offA_obs hk.1)) fun k _ hk g' hg' => ?_
  cases hg'; exact hk.2
/-- Two rows: the second grows. -/
theorem two_second {A1 : Option Addr} {n1 c1 g2 : Nat} {xs : List Value} (h1 : W.ownsRow base 36 5 (.slice A1 n1 c1) n1 xs) (hap : ∀ g, A = some g → offA A1 g.block)
    (hgr : W.grownBy W' (Value.slice A n c).ownBlock) (hat : (Value.slice A n c).ownBlock = some g2 ∨ g2 = W.heap.size) :
    W'.ownsRow base 36 5 (.slice A1 n1 c1) n1 xs ∧ ∀ g, (some ⟨g2, 0, none⟩ : Option Addr) = some g → offA A1 g.block := by
  constructor
  · refine ownsRow_mod h1 (grown_obs hgr) (fun k hk => ?_)
    cases A1 with
    | none => cases hk
    | some a =>
      have e : a.block = k := by simpa [Value.ownBlock] using hk
      rw [← e]
      cases A with
      | none => simp [obs]
      | some g =>
        have := hap g rfl a rfl
        simp [obs]; omega
  · intro g hg a ha
    cases hg
    have hlt := (h1.lt a.block (by subst ha; rfl)).2
    rcases hat with hat | hat
    · cases A with
      | none => cases hat
      | some g =>
        have e : g.block = g2 := by simpa [Value.ownBlock] using hat
        have := hap g rfl a ha
        show g2 ≠ a.block
        omega
    · show g2 ≠ a.block
      omega
end
end Go.Proofs.YtblfmokklfhklaaDoor


namespace Go.Proofs.YtblfmokklfhklaaDoor
open Go.RowKit
set_option linter.unusedVariables false
set_option linter.unusedSimpArgs false

/-- The cells l, stored into block b from cell i on. -/
def setRow (W : World) (b : Nat) : Nat → List Value → World
  | _, [] => W
  | i, v :: l => setRow (W.setCell ⟨b, i, none⟩ v) b (i + 1) l
def writeFrom (cs : Array Value) : Nat → List Value → Array Value
  | _, [] => cs
  | i, v :: l => writeFrom (cs.setIfInBounds i v) (i + 1) l
theorem setRow_blk {t : TypeId} {b : Nat} : ∀ (l : List Value) (W : World) (i : Nat) (cs : Array Value), Blk W b t cs → Blk (setRow W b i l) b t (writeFrom cs i l)
  | [], _, _, _, h => h
  | v :: l, W, i, cs, h => setRow_blk l _ _ _ (h.set_ i v)
theorem writeFrom_size : ∀ (l : List Value) (i : Nat) (cs : Array Value), (writeFrom cs i l).size = cs.size
  | [], _, _ => rfl
  | v :: l, i, cs => by rw [writeFrom, writeFrom_size l]; simp
theorem writeFrom_get : ∀ (l : List Value) (i : Nat) (cs : Array Value) (j : Nat), i + l.length ≤ cs.size → (writeFrom cs i l)[j]? = if i ≤ j ∧ j < i + l.length then l[j - i]? else cs[j]?
  | [], i, cs, j, _ => by
    rw [writeFrom, if_neg (by simp)]
  | v :: l, i, cs, j, h => by
    have h2 : i + (l.length + 1) ≤ cs.size := h
    rw [writeFrom, writeFrom_get l (i + 1) _ j (by simp; omega)]
    by_cases e : j = i
    · subst e
      rw [if_neg (by omega), if_pos ⟨by omega, by simp⟩]
      simp [show j < cs.size by omega]
    · by_cases a : i + 1 ≤ j ∧ j < i + 1 + l.length
      · rw [if_pos a, if_pos ⟨by omega, by simp; omega⟩, show j - i = (j - (i + 1)) + 1 by omega, List.getElem?_cons_succ]
      · rw [if_neg a, if_neg (by simp; omega), Array.getElem?_setIfInBounds, if_neg (fun h => e h.symm)]
theorem writeFrom_all (cs : Array Value) (l : List Value) (h : l.length = cs.size) : writeFrom cs 0 l = l.toArray := by
  apply Array.ext_getElem?
  intro j
  rw [writeFrom_get l 0 cs j (by omega)]
  by_cases hj : j < l.length
  · rw [if_pos ⟨by omega, by omega⟩]; simp
  · rw [if_neg (by omega), Array.getElem?_eq_none (by omega), Array.getElem?_eq_none (by simp; omega)]
theorem setRow_all {t : TypeId} {b : Nat} {W : World} {cs ds : Array Value} (h : Blk W b t cs) (hs : ds.toList.length = cs.size) : Blk (setRow W b 0 ds.toList) b t ds := by
  have := setRow_blk ds.toList W 0 cs h
  rw [writeFrom_all cs ds.toList hs] at this
  simpa using this
theorem setRow_mod {w : World} {S : List Nat} {b : Nat} : ∀ (l : List Value) (W : World) (i : Nat), Mod S w W → (b ∈ S ∨ w.heap.size ≤ b) → Mod S w (setRow W b i l)
  | [], _, _, h, _ => h
  | v :: l, W, i, h, hb => setRow_mod l _ _ (h.setCell (p := ⟨b, i, none⟩) hb v) hb
theorem setRow_eq {b : Nat} : ∀ (l : List Value) (W : World) (i : Nat), setRow W b i l = W.setCells b i l
  | [], _, _ => rfl
  | v :: l, W, i => setRow_eq l _ _
theorem setCells_all {t : TypeId} {b : Nat} {W : World} {cs ds : Array Value} (h : Blk W b t cs) (hs : ds.toList.length = cs.size) : Blk (W.setCells b 0 ds.toList) b t ds := setRow_eq ds.toList W 0 ▸ setRow_all h hs
theorem setCells_mod {w W : World} {S : List Nat} {b : Nat} (l : List Value) (i : Nat) (h : Mod S w W) (hb : b ∈ S ∨ w.heap.size ≤ b) : Mod S w (W.setCells b i l) := setRow_eq l W i ▸ setRow_mod l W i h hb
theorem Blk.there {W : World} {b : Nat} {t : TypeId} {cs : Array Value} (h : Blk W b t cs) {n : Nat} (hn : n ≤ cs.size) : W.there b 0 n := fun j hj => by
  rw [Nat.zero_add]
  refine ⟨?_, h.frozen j⟩
  rw [h.cell j, Array.getElem?_eq_getElem (by omega)]; rfl
/-- A struct result lies in a block that is known whole. -/
theorem results_cell {P : Program} {fn : Func} {t : Tmp} {ty : TypeId} (h : fn.results = #[.cell t ty]) (tmps : Array Value) {g : Nat} (ht : tmps.getD t undef = .pointer (some ⟨g, 0, none⟩)) {W : World} {tt : TypeId} {cs : Array Value} {d : TypeDesc} (hb : Blk W g tt cs)
    (hu : P.underlying ty = some d) (hd : (match d with | .struct _ | .array _ _ => true | _ => false) = true) (hi : (P.info? ty).map (·.size) = some cs.size) : (results fn tmps).run P W = .ok (.agg cs) W := by
  have hl := run_loadVar_row (P := P) W g tt ty cs (0, 0) d hb hu hd hi
  have ht2 : tmps[t]?.getD undef = .pointer (some ⟨g, 0, none⟩) := by simpa using ht
  simp [results, h, ht2, asAddr, hl]
theorem results_cell2 {P : Program} {fn : Func} {t u : Tmp} {ty : TypeId} (h : fn.results = #[.cell t ty, .tmp u]) (tmps : Array Value) {g : Nat} (ht : tmps.getD t undef = .pointer (some ⟨g, 0, none⟩)) {v : Value} (hv : tmps.getD u undef = v) {W : World} {tt : TypeId} {cs : Array Value} {d : TypeDesc} (hb : Blk W g tt cs)
    (hu : P.underlying ty = some d) (hd : (match d with | .struct _ | .array _ _ => true | _ => false) = true) (hi : (P.info? ty).map (·.size) = some cs.size) : (results fn tmps).run P W = .ok (.tuple #[.agg cs, v]) W := by
  have hl := run_loadVar_row (P := P) W g tt ty cs (0, 0) d hb hu hd hi
  have ht2 : tmps[t]?.getD undef = .pointer (some ⟨g, 0, none⟩) := by simpa using ht
  have hv2 : tmps[u]?.getD undef = v := by simpa using hv
  simp [results, h, ht2, hv2, asAddr, hl, Result.andThen_ok]
end Go.Proofs.YtblfmokklfhklaaDoor


namespace Go.Proofs.YtblfmokklfhklaaDoor
open Go.RowKit
set_option linter.unusedVariables false
set_option linter.unusedSimpArgs false

theorem yieldsIf_mid {P : Program} {ops : Array Oper} {S : World → Prop} {op : Oper} {a : Act} (hw : Region.wanted op (yielded ops a.tmps) = true) (ty : TypeId) (x : Operand) (ho : op.op = .load ty x) (b o : Nat) (hx : a.eval x = .pointer (some ⟨b, o, none⟩))
    (cs : List Value) {d : TypeDesc} (hS : ∀ w, S w → w.rangeAt b o cs) (hu : P.underlying ty = some d) (hd : d.isRow = true)
    (hi : (P.info? ty).map (·.size) = some cs.length) : YieldsIf P ops S op (.agg cs.toArray) a :=
  .inl ⟨hw, fun w hw' => by
    unfold execOp
    simp only [ho, hx, Instr.loadAt, Instr.sureAddr, Sem.run_bind, Sem.run_pure, Result.andThen_ok, run_loadVar_mid w b o ty cs d (hS w hw') hu hd hi]⟩
theorem Blk.rangeE {w W : World} {g : Nat} {t : TypeId} {cs : Array Value} (h : Blk w g t cs) (hW : Ext w W) (o n : Nat) {l : List Value} (hl : (cs.extract o (o + n)).toList = l) : W.rangeAt g o l := hl ▸ World.rangeAt_of_block (h.ext hW) o n
end Go.Proofs.YtblfmokklfhklaaDoor


namespace Go.Proofs.YtblfmokklfhklaaDoor
open Go.RowKit
set_option linter.unusedVariables false
set_option linter.unusedSimpArgs false

theorem pair_IsL {W : World} {Q : Nat → Prop} {p : PR} {g : Nat} {A : Option Addr} {c : Nat} (h0 : 0 ≤ p.id) (h : Blk W g 36 #[.int .i64 0, .int .u64 p.id, str [], .slice none 0 0, .bool false, .int .i64 p.t.kind, .int .u64 (p.t.n : Int), str p.t.s, .slice A p.t.k c, .bool p.t.op]) (hI : IsL W Q p.t A) (hq : Q g) : IsL W Q (pairT p) (some ⟨g, 0, none⟩) := fun _ => ⟨g, 0, rfl, h.lt, hq, fun j hj => by
  have hj : j = 0 ∨ j = 1 := by have : j < 2 := hj; omega
  rcases hj with rfl | rfl
  · exact ⟨none, 0, ⟨h.cell 0, (h.cell 1).trans (by show some (Value.int .u64 p.id) = some (Value.int .u64 (p.id.toNat : Int)); rw [Int.toNat_of_nonneg h0]), h.cell 2, h.cell 3, h.cell 4⟩, IsL.leaf⟩
  · exact ⟨A, c, ⟨h.cell 5, h.cell 6, h.cell 7, h.cell 8, h.cell 9⟩, hI⟩⟩
set_option maxRecDepth 20000 in
set_option maxHeartbeats 8000000 in
theorem alist_any {Q : Nat → Prop} (p : PL) (hk : p.k ≤ 100000) (hc : ∀ i, i < p.k → 0 ≤ (p.a i).id ∧ (p.a i).id ≤ 65535) (A : Option Addr) (c : Nat) (w : World) (h : PsL w Q A p) : Calls Tryd.prog 40 #[.slice A p.k c] w (fun e w' => ∃ A' c', e = .returned (itemV (plT p) A' c') ∧ Ext w w' ∧ IsL w' (fun b => Q b ∨ w.heap.size ≤ b) (plT p) A') := by
  have HK := hid hk
  have HC := hid hc
  have HE := hid ((Mod.refl [] w).alloc (.cells #[.int .i64 0, .int .u64 0, .string ⟨#[]⟩, .slice none 0 0, .bool false] 36))
  have HB0 : Hid (Blk (w.alloc (.cells #[.int .i64 0, .int .u64 0, .string ⟨#[]⟩, .slice none 0 0, .bool false] 36)) w.heap.size 36 (itemC (numT 0) none 0)) := hid (Blk.new w 36 (itemC (numT 0) none 0))
  have HL := hid (PsL.ext (h.weak (R := fun b => Q b ∧ b < w.heap.size) (fun k hk hq => ⟨hq, hk⟩)) HE.out)
  have k0 : (p.k : Int) ≤ 100000 := by omega
  generalize hkk : p.k = k at *
  have HKK := hid hkk
  clear hk hc h hkk
  go_enter Tryd.func40, Tryd.ntmps40
  go_upto_region 3 with fail
  have HV1 : Hid (w.heap.size + 1 = (w.alloc (.cells #[.int .i64 0, .int .u64 0, .string ⟨#[]⟩, .slice none 0 0, .bool false] 36)).heap.size) := hid (by simp)
  generalize hV : w.alloc (.cells #[.int .i64 0, .int .u64 0, .string ⟨#[]⟩, .slice none 0 0, .bool false] 36) = V at *
  clear hV
  go_loopw [3, 8] (fun s3 s8 wr => ∃ (i : Nat) (A' : Option Addr) (c' : Nat) (ac : Nat → Option Addr × Nat), s8 = .int .i64 (i : Int) ∧ s3 = .slice A' i c' ∧ Hid (i ≤ k ∧ Ext V wr ∧ Rw wr (fun b => (Q b ∧ b < w.heap.size) ∨ w.heap.size + 1 ≤ b) (w.heap.size + 1) A' c' i (fun j => pairT (p.a j)) ac)) (fun _ s8 _ => k - (intOf s8).toNat)
  case atStart => exact ⟨0, none, 0, fun _ => (none, 0), rfl, rfl, (show Hid _ from ⟨Nat.zero_le _, Mod.refl _ _, Rw.nil⟩)⟩
  case round =>
    obtain ⟨i, A', c', ac, rfl, rfl, hS⟩ := hrel
    rename World => wr
    have i0 : (0 : Int) ≤ (i : Int) := by omega
    by_cases hlt : i < k
    · obtain ⟨b, o, Ai, ci, rfl, hb, ⟨q0, q1, q2, q3, q4, q5⟩, hI⟩ := HL.out.at hS.out.2.1 (i := i) (by have := HKK.out; omega)
      have tc : decide (i < k) = true := by simp [hlt]
      have i1 : (i : Int) < (k : Int) := by omega
      have HLT := hid hlt
      have HI := hid hI
      have HI0 : Hid (0 ≤ (p.a i).id) := hid (HC.out i hlt).1
      have t1 : IntKind.u64.wrap (p.a i).id = (p.a i).id := IntWalk.u64_in _ (by have := HC.out i hlt; omega)
      clear hlt hI hb
      go_upto_region 5 with fail
      generalize hW1 : World.alloc wr _ = W1
      have HG1 : Hid (Blk W1 wr.heap.size 38 (prC (p.a i) Ai ci)) := hid (by rw [← hW1]; exact Blk.new _ _ _)
      have HR : Hid (Rw W1 (fun b => (Q b ∧ b < w.heap.size) ∨ w.heap.size + 1 ≤ b) (w.heap.size + 1) A' c' i (fun j => pairT (p.a j)) ac) := hid (by rw [← hW1]; exact hS.out.2.2.ext ((Mod.refl [] wr).alloc _))
      have HE1 : Hid (Ext V W1) := hid (by rw [← hW1]; exact hS.out.2.1.alloc _)
      have HI1 : Hid (IsL W1 (fun b => Q b ∧ b < w.heap.size) (p.a i).t Ai) := hid (by rw [← hW1]; exact HI.out.ext ((Mod.refl [] wr).alloc _))
      have HSZ : Hid (w.heap.size + 1 ≤ W1.heap.size) := hid (by have := HE1.out.size; have := HV1.out; omega)
      have HOB : Hid (∀ g, A' = some g → w.heap.size < g.block ∧ g.block < W1.heap.size) := hid (fun g hg => by have := HR.out.own.lt g.block (by subst hg; rfl); omega)
      have HGA : Hid (wr.heap.size ∉ obs A') := hid (offA_obs (fun g hg => by have := hS.out.2.2.own.lt g.block (by subst hg; rfl); omega))
      clear hW1 hS q0 q1 q2 q3 q4 q5 HI
      generalize wr.heap.size = G at *
      have HG0 : Hid (∀ W, Mod (obs A') W1 W → W.cell? ⟨G, 0, none⟩ = some (.int .i64 (p.a i).id)) := hid (fun W hW => (HG1.out.mod hW HGA.out).cell 0)
      have HGM : Hid (∀ W, Mod (obs A') W1 W → W.rangeAt G 1 [.int .i64 (p.a i).t.kind, .int .u64 ((p.a i).t.n : Int), str (p.a i).t.s, .slice Ai (p.a i).t.k ci, .bool (p.a i).t.op]) := hid (fun W hW => (HG1.out.mod hW HGA.out).rangeE (Mod.refl _ _) 1 5 (by rfl))
      refine wp_region_held_drew (S := fun w' => Mod (obs A') W1 w') (by kernel_rfl) (Mod.refl _ _).drew (fun hHeld => ?_)
      have hR1 : Rw W1.drew (fun b => (Q b ∧ b < w.heap.size) ∨ w.heap.size + 1 ≤ b) (w.heap.size + 1) A' c' i (fun j => pairT (p.a j)) ac := HR.out.ext ((Mod.refl [] _).drew)
      have HI2 : IsL W1.drew (fun b => Q b ∧ b < w.heap.size) (p.a i).t Ai := HI1.out.ext ((Mod.refl [] _).drew)
      generalize W1.drew = u0 at *
      refine' wpAnyH_take (i := 0) (v := _) rfl (by kernel_rfl) (by kernel_rfl) (by kernel_rfl) (fun _ _ _ h => h) (Or.inl ⟨by rfl, ?hy1⟩) hHeld ?rest1
      case hy1 => (rintro W hM; go_simp; (try with_reducible rfl))
      case rest1 =>
      (try simp only [Act.put, List.getElem_toArray, List.getElem_cons_zero, List.getElem_cons_succ, List.setIfInBounds_toArray, List.set_cons_zero, List.set_cons_succ])
      refine' wpAnyH_take (i := 1) (v := _) rfl (by kernel_rfl) (by kernel_rfl) (by kernel_rfl) (fun _ _ _ h => h) (Or.inl ⟨by rfl, ?hy2⟩) hHeld ?rest2
      case hy2 => (rintro W hM; go_simp; (try with_reducible rfl))
      case rest2 =>
      (try simp only [Act.put, List.getElem_toArray, List.getElem_cons_zero, List.getElem_cons_succ, List.setIfInBounds_toArray, List.set_cons_zero, List.set_cons_succ])
      refine' wpAnyH_take (i := 2) (v := _) rfl (by kernel_rfl) (by kernel_rfl) (by kernel_rfl) (fun _ _ _ h => h) (Or.inl ⟨by rfl, ?hy3⟩) hHeld ?rest3
      case hy3 => (rintro W hM; have g0 := HG0.out W hM; go_simp; (try with_reducible rfl))
      case rest3 =>
      (try simp only [Act.put, List.getElem_toArray, List.getElem_cons_zero, List.getElem_cons_succ, List.setIfInBounds_toArray, List.set_cons_zero, List.set_cons_succ])
      refine' wpAnyH_take (i := 3) (v := _) rfl (by kernel_rfl) (by kernel_rfl) (by kernel_rfl) (fun _ _ _ h => h) (Or.inl ⟨by rfl, ?hy4⟩) hHeld ?rest4
      case hy4 => (rintro W hM; go_simp; (try with_reducible rfl))
      case rest4 =>
      (try simp only [Act.put, List.getElem_toArray, List.getElem_cons_zero, List.getElem_cons_succ, List.setIfInBounds_toArray, List.set_cons_zero, List.set_cons_succ])
      refine' wpAnyH_take (i := 5) (v := _) rfl (by kernel_rfl) (by kernel_rfl) (by kernel_rfl) (fun _ _ _ h => h) (Or.inl ⟨by rfl, ?hy5⟩) hHeld ?rest5
      case hy5 => (rintro W hM; go_simp; (try with_reducible rfl))
      case rest5 =>
      (try simp only [Act.put, List.getElem_toArray, List.getElem_cons_zero, List.getElem_cons_succ, List.setIfInBounds_toArray, List.set_cons_zero, List.set_cons_succ])
      refine wpAnyH_take (i := 6) rfl (by kernel_rfl) (by kernel_rfl) (by kernel_rfl) (fun _ _ _ h => h) (yieldsIf_mid (by rfl) 36 _ rfl G 1 rfl [.int .i64 (p.a i).t.kind, .int .u64 ((p.a i).t.n : Int), str (p.a i).t.s, .slice Ai (p.a i).t.k ci, .bool (p.a i).t.op] HGM.out Tryd.underlying36 rfl (by kernel_rfl)) hHeld ?_
      (try simp only [Act.put, List.getElem_toArray, List.getElem_cons_zero, List.getElem_cons_succ, List.setIfInBounds_toArray, List.set_cons_zero, List.set_cons_succ])
      refine wpAnyH_ready (rs := [4]) (by kernel_rfl) (by simp) ?_
      refine AllReadyH.cons rfl (fun K hK => ?_) AllReadyH.nil
      go_simp
      (try rw [t1])
      go_at_call 39
      refine (NumI_any _ _).mono ?_
      rintro x u1 ⟨rfl, hb⟩
      have hR1 := hR1.ext hb
      have HI2 := HI2.ext hb
      refine hK.out _ _ (hHeld.trans (hb.mono (by simp))) (fun hHeld => ?_)
      clear hK K
      (try simp only [Act.put, List.getElem_toArray, List.getElem_cons_zero, List.getElem_cons_succ, List.setIfInBounds_toArray, List.set_cons_zero, List.set_cons_succ])
      refine wpAnyH_ready (rs := [7]) (by kernel_rfl) (by simp) ?_
      refine AllReadyH.cons rfl (fun K hK => ?_) AllReadyH.nil
      go_simp
      have HP2_n : W1.heap.size ≤ u1.heap.size := hHeld.size
      have HP2 : Blk (World.alloc u1 (.cells #[.int .i64 0, .int .u64 (p.a i).id, str [], .slice none 0 0, .bool false, .int .i64 (p.a i).t.kind, .int .u64 ((p.a i).t.n : Int), str (p.a i).t.s, .slice Ai (p.a i).t.k ci, .bool (p.a i).t.op] 36)) u1.heap.size 36 #[.int .i64 0, .int .u64 (p.a i).id, str [], .slice none 0 0, .bool false, .int .i64 (p.a i).t.kind, .int .u64 ((p.a i).t.n : Int), str (p.a i).t.s, .slice Ai (p.a i).t.k ci, .bool (p.a i).t.op] := Blk.new _ _ _
      have hXX : Ext u1 (World.alloc u1 (.cells #[.int .i64 0, .int .u64 (p.a i).id, str [], .slice none 0 0, .bool false, .int .i64 (p.a i).t.kind, .int .u64 ((p.a i).t.n : Int), str (p.a i).t.s, .slice Ai (p.a i).t.k ci, .bool (p.a i).t.op] 36)) := (Mod.refl [] _).alloc _
      have hZN : u1.heap.size < (World.alloc u1 (.cells #[.int .i64 0, .int .u64 (p.a i).id, str [], .slice none 0 0, .bool false, .int .i64 (p.a i).t.kind, .int .u64 ((p.a i).t.n : Int), str (p.a i).t.s, .slice Ai (p.a i).t.k ci, .bool (p.a i).t.op] 36)).heap.size := HP2.lt
      generalize World.alloc u1 (.cells #[.int .i64 0, .int .u64 (p.a i).id, str [], .slice none 0 0, .bool false, .int .i64 (p.a i).t.kind, .int .u64 ((p.a i).t.n : Int), str (p.a i).t.s, .slice Ai (p.a i).t.k ci, .bool (p.a i).t.op] 36) = u2 at *
      have hR1 := hR1.ext hXX
      have HI2 := HI2.ext hXX
      refine hK.out _ _ (hHeld.trans (hXX.mono (by simp))) (fun hHeld => ?_)
      clear hK K hXX
      (try simp only [Act.put, List.getElem_toArray, List.getElem_cons_zero, List.getElem_cons_succ, List.setIfInBounds_toArray, List.set_cons_zero, List.set_cons_succ])
      generalize hgp : u1.heap.size = gp at *
      refine wpAnyH_ready (rs := [8]) (by kernel_rfl) (by simp) ?_
      refine AllReadyH.cons rfl (fun K hK => ?_) AllReadyH.nil
      go_simp
      go_at_call 42
      refine (ListV_any _ _ _ _).mono ?_
      rintro x u3 ⟨rfl, hb3⟩
      have hR1 := hR1.ext hb3
      have HI2 := HI2.ext hb3
      have HP2 := HP2.ext hb3
      refine hK.out _ _ (hHeld.trans (hb3.mono (by simp))) (fun hHeld => ?_)
      clear hK K
      (try simp only [Act.put, List.getElem_toArray, List.getElem_cons_zero, List.getElem_cons_succ, List.setIfInBounds_toArray, List.set_cons_zero, List.set_cons_succ])
      refine wpAnyH_ready (rs := [9]) (by kernel_rfl) (by simp) ?_
      refine AllReadyH.cons rfl (fun K hK => ?_) AllReadyH.nil
      go_simp
      have HQ2_n : W1.heap.size ≤ u3.heap.size := hHeld.size
      have HQ2 : Blk (World.alloc u3 (.cells #[.int .i64 4, .int .u64 0, str [], .slice (some ⟨gp, 0, none⟩) 2 2, .bool false] 36)) u3.heap.size 36 #[.int .i64 4, .int .u64 0, str [], .slice (some ⟨gp, 0, none⟩) 2 2, .bool false] := Blk.new _ _ _
      have hXX : Ext u3 (World.alloc u3 (.cells #[.int .i64 4, .int .u64 0, str [], .slice (some ⟨gp, 0, none⟩) 2 2, .bool false] 36)) := (Mod.refl [] _).alloc _
      have hZN : u3.heap.size < (World.alloc u3 (.cells #[.int .i64 4, .int .u64 0, str [], .slice (some ⟨gp, 0, none⟩) 2 2, .bool false] 36)).heap.size := HQ2.lt
      generalize World.alloc u3 (.cells #[.int .i64 4, .int .u64 0, str [], .slice (some ⟨gp, 0, none⟩) 2 2, .bool false] 36) = u4 at *
      have hR1 := hR1.ext hXX
      have HI2 := HI2.ext hXX
      have HP2 := HP2.ext hXX
      refine hK.out _ _ (hHeld.trans (hXX.mono (by simp))) (fun hHeld => ?_)
      clear hK K hXX
      (try simp only [Act.put, List.getElem_toArray, List.getElem_cons_zero, List.getElem_cons_succ, List.setIfInBounds_toArray, List.set_cons_zero, List.set_cons_succ])
      generalize hgq : u3.heap.size = gq at *
      refine wpAnyH_ready (rs := [10]) (by kernel_rfl) (by simp) ?_
      refine AllReadyH.cons rfl (fun K hK => ?_) AllReadyH.nil
      have HPT : IsL u4 (fun b => ((Q b ∧ b < w.heap.size) ∨ w.heap.size + 1 ≤ b) ∧ offA A' b) (pairT (p.a i)) (some ⟨gp, 0, none⟩) := pair_IsL HI0.out HP2 (IsL.weak (fun b _ hb => ⟨.inl hb, fun g hg => by have := (HOB.out g hg).1; have := hb.2; omega⟩) _ HI2) ⟨.inr (by have := HSZ.out; omega), fun g hg => by have := (HOB.out g hg).2; show gp ≠ g.block; omega⟩
      obtain ⟨ib, hi, hz0, hz1, hz2⟩ := info_parts infoItem
      refine wp_append_lies _ _ _ 34 (by rfl) (w.heap.size + 1) 36 ib _ 5 64 Tryd.underlying34 hi hz0 hz1 hz2 (by rfl) (by decide) _ i _ (by rfl) hR1.own ⟨gq, 0, none⟩ 1 1 [.int .i64 4, .int .u64 0, str [], .slice (some ⟨gp, 0, none⟩) 2 2, .bool false] (by rfl) (by rfl) ?gnew ?gone (by decide) ?gm ?gb ?gbase (u4.heap.size) rfl ?gk
      case gnew =>
        intro j u hu
        rw [addr_add, Nat.zero_add, HQ2.cell j]
        simpa using hu
      case gone => intro u hu; simp at hu; rcases hu with rfl | rfl | rfl | rfl | rfl <;> rfl
      case gm => have := HLT.out; have := HK.out; unfold maxLen; omega
      case gb => have := HLT.out; have := HK.out; omega
      case gbase => have := HSZ.out; have := hHeld.size; omega
      intro g' cp' u5 hown' hgr' hat' hlt'
      obtain ⟨ac', hR5⟩ := hR1.append HPT rfl hown' hgr' hat'
      refine hK.out _ _ (hHeld.trans (grown_obs hgr')) (fun hHeld => ?_)
      clear hK K
      (try simp only [Act.put, List.getElem_toArray, List.getElem_cons_zero, List.getElem_cons_succ, List.setIfInBounds_toArray, List.set_cons_zero, List.set_cons_succ])
      refine' wpAnyH_take (i := 11) (v := _) rfl (by kernel_rfl) (by kernel_rfl) (by kernel_rfl) (fun _ _ _ h => h) (Or.inl ⟨by rfl, ?hy6⟩) hHeld ?rest6
      case hy6 => (rintro W hM; go_simp; (try with_reducible rfl))
      case rest6 =>
      (try simp only [Act.put, List.getElem_toArray, List.getElem_cons_zero, List.getElem_cons_succ, List.setIfInBounds_toArray, List.set_cons_zero, List.set_cons_succ])
      refine wpAnyH_done (by kernel_rfl) ?_ _
      go_wp2_with fail
      go_roundw
      case rel => exact ⟨i + 1, some ⟨g', 0, none⟩, cp', ac', by go_num, rfl, (show Hid _ from ⟨HLT.out, (HE1.out.of_ext (S := obs A')).trans hHeld |>.new (fun k hk => .inr (by
        cases A' with
        | none => cases hk
        | some g => have := HOB.out g rfl; have := HV1.out; simp [obs] at hk; omega)), hR5⟩)⟩
      case measure => have := HLT.out; simp [intOf]; omega
    · obtain rfl : i = k := by have := hS.out.1; omega
      have tc : decide (i < i) = false := by simp
      have HEW := hid (HE.out.trans hS.out.2.1)
      have HIL : Hid (IsL wr (fun b => (Q b ∧ b < w.heap.size) ∨ w.heap.size + 1 ≤ b) (plT p) A') := hid (by unfold plT; rw [HKK.out]; exact hS.out.2.2.isL (fun b hb => .inr hb))
      have HPV : Hid (itemV (plT p) A' c' = .agg #[.int .i64 4, .int .u64 0, str [], .slice A' i c', .bool false]) := hid (by rw [← HKK.out]; rfl)
      have HBR := hid (HB0.out.ext hS.out.2.1)
      clear hS
      go_wp2_with (go_at_call 42; refine (ListV_any _ _ _ _).mono ?_; rintro x w3 ⟨rfl, hb3⟩; obtain ⟨c0, c1, c2, c3, c4⟩ := cells5 (HBR.out.ext hb3); have f0 := (HBR.out.ext hb3).frozen 0; have f1 := (HBR.out.ext hb3).frozen 1; have f2 := (HBR.out.ext hb3).frozen 2; have f3 := (HBR.out.ext hb3).frozen 3; have f4 := (HBR.out.ext hb3).frozen 4)
      obtain ⟨d0, d1, d2, d3, d4⟩ := cells5 (set5_blk (t := T.mk 4 0 [] false i (fun _ => T.nil)) (A := A') (c := c') (HBR.out.ext hb3))
      clear c0 c1 c2 c3 c4 f0 f1 f2 f3 f4
      show bodyPost _ _ _ _ _ (set5 w3 w.heap.size (T.mk 4 0 [] false i (fun _ => T.nil)) A' c')
      refine bodyPost_ret (v := .agg #[.int .i64 4, .int .u64 0, str [], .slice A' i c', .bool false]) (by simp [results, Tryd.results40, go_sem, d0, d1, d2, d3, d4]; exact ⟨rfl, rfl, rfl, rfl, rfl⟩) rfl ⟨A', c', by rw [HPV.out], set5_mod (HEW.out.trans hb3) (Nat.le_refl _), ?_⟩
      exact IsL.weak (fun b _ h => h.elim (fun h => .inl h.1) (fun h => .inr (by omega))) _ (IsL.mod (Q := fun b => (Q b ∧ b < w.heap.size) ∨ w.heap.size + 1 ≤ b) set5_modb (fun b hb _ hs => by rw [List.mem_singleton] at hs; rcases hb with hb | hb; (have := hb.2; omega); omega) _ (HIL.out.ext hb3))
end Go.Proofs.YtblfmokklfhklaaDoor


namespace Go.Proofs.YtblfmokklfhklaaDoor
open Go.RowKit
set_option linter.unusedVariables false
set_option linter.unusedSimpArgs false

theorem quo_remP {f c x : Nat} (hf : f < 18446744073709551616) (h : f / c % 2 = x) : (IntKind.u64.wrap ((f : Int) / (c : Int))).tmod 2 = (x : Int) := by
  have h1 : (f : Int) / (c : Int) = ((f / c : Nat) : Int) := by simp
  have h2 : f / c ≤ f := Nat.div_le_self _ _
  rw [h1]
  generalize f / c = y at *
  rw [IntWalk.u64_in _ (by omega), Int.tmod_eq_emod_of_nonneg (by omega)]
  omega
def has (f c : Nat) : Bool := decide (f / c % 2 = 1)
end Go.Proofs.YtblfmokklfhklaaDoor


namespace Go.Proofs.YtblfmokklfhklaaDoor
open Go.RowKit
set_option linter.unusedVariables false
set_option linter.unusedSimpArgs false

set_option maxRecDepth 20000 in
theorem eidNoneP_any (w : World) : Calls Tryd.prog 69 #[] w (Ret (.agg #[.int .i64 1, str [110, 111, 110, 101], .int .u64 0, .int .u64 0]) w) := by
  go_enter Tryd.func69, Tryd.ntmps69
  go_wp2
  refine bodyPost_ret (v := .agg #[.int .i64 1, str [110, 111, 110, 101], .int .u64 0, .int .u64 0]) ?_ rfl (Ret.mk rfl ((Mod.refl _ _).alloc _))
  simp [results, Tryd.results69, go_sem]
theorem and_powP (f k : Nat) : f &&& 2 ^ k = if f.testBit k = true then 2 ^ k else 0 := by
  apply Nat.eq_of_testBit_eq
  intro i
  rw [Nat.testBit_and, Nat.testBit_two_pow]
  by_cases h : k = i
  · subst h
    cases f.testBit k <;> simp
  · cases f.testBit k <;> simp [h]
theorem u64_and_powP (f k : Nat) (hf : f < 18446744073709551616) (hk : k < 64) : bits .and .u64 (f : Int) ((2 ^ k : Nat) : Int) = if f / 2 ^ k % 2 = 1 then ((2 ^ k : Nat) : Int) else 0 := by
  have h2 : 2 ^ k < 18446744073709551616 := by
    have : 2 ^ k < 2 ^ 64 := Nat.pow_lt_pow_right (by omega) hk
    omega
  have h1 : bits .and .u64 (f : Int) ((2 ^ k : Nat) : Int) = ((f &&& 2 ^ k : Nat) : Int) := u64_and_nat f (2 ^ k) hf h2
  rw [h1, and_powP, Nat.testBit_eq_decide_div_mod_eq]
  by_cases h : f / 2 ^ k % 2 = 1 <;> simp [h]
theorem andP_no {f k : Nat} (hf : f < 18446744073709551616) (hk : k < 64) (h : f / 2 ^ k % 2 = 0) : bits .and .u64 (f : Int) ((2 ^ k : Nat) : Int) = 0 := by rw [u64_and_powP f k hf hk, if_neg (by omega)]
theorem andP_yes {f k : Nat} (hf : f < 18446744073709551616) (hk : k < 64) (h : f / 2 ^ k % 2 = 1) : bits .and .u64 (f : Int) ((2 ^ k : Nat) : Int) = ((2 ^ k : Nat) : Int) := by rw [u64_and_powP f k hf hk, if_pos h]
/-- Either of the two flags that ask for reports. -/
theorem and_tells {f : Nat} (hf : f < 18446744073709551616) : ∃ r : Int, bits .and .u64 (f : Int) 278528 = r ∧ (r = 0 ↔ ¬ (f / 16384 % 2 = 1 ∨ f / 262144 % 2 = 1)) := by
  refine ⟨_, rfl, ?_⟩
  have h := u64_and_nat f 278528 hf (by omega)
  have e : f &&& 278528 = (f &&& 2 ^ 14) ||| (f &&& 2 ^ 18) := by rw [← Nat.and_or_distrib_left]; rfl
  rw [e, and_powP, and_powP, Nat.testBit_eq_decide_div_mod_eq, Nat.testBit_eq_decide_div_mod_eq] at h
  have h2 : bits .and .u64 (f : Int) 278528 = bits .and .u64 (f : Int) ((278528 : Nat) : Int) := rfl
  rw [h2, h]
  by_cases a : f / 16384 % 2 = 1 <;> by_cases b : f / 262144 % 2 = 1 <;> simp [a, b]
end Go.Proofs.YtblfmokklfhklaaDoor


namespace Go.Proofs.YtblfmokklfhklaaDoor
open Go.RowKit
set_option linter.unusedVariables false
set_option linter.unusedSimpArgs false

/-- An item's items lie in memory, in blocks of Q alone; no slice is longer than its room. -/
def IsC (w : World) (Q : Nat → Prop) : T → Option Addr → Nat → Prop
  | T.nil, A, c => False
  | T.mk _ _ _ _ k ch, A, c => k ≤ c ∧ (0 < k → ∃ b o, A = some ⟨b, o, none⟩ ∧ b < w.heap.size ∧ Q b ∧ ∀ i, i < k → ∃ Ai ci, At5 w b (o + i * 5) (ch i) Ai ci ∧ IsC w Q (ch i) Ai ci)
theorem IsC.mod {w w' : World} {Q : Nat → Prop} {S : List Nat} (hm : Mod S w w') (hs : ∀ k, Q k → k < w.heap.size → k ∉ S) (t : T) : ∀ {A : Option Addr} {c : Nat}, IsC w Q t A c → IsC w' Q t A c := by
  induction t with
  | nil => intro A c h; cases h
  | mk kind n s op k ch ih =>
    rintro A c ⟨hc0, h⟩
    refine ⟨hc0, fun h0 => ?_⟩
    obtain ⟨b, o, hA, hb, hq, hc⟩ := h h0
    refine ⟨b, o, hA, Nat.lt_of_lt_of_le hb hm.size, hq, fun i hi => ?_⟩
    obtain ⟨Ai, ci, h1, h2⟩ := hc i hi
    exact ⟨Ai, ci, h1.mod hm hb (hs b hq hb), ih i h2⟩
theorem IsC.ext {w w' : World} {Q : Nat → Prop} {t : T} {A : Option Addr} {c : Nat} (h : IsC w Q t A c) (hm : Ext w w') : IsC w' Q t A c := IsC.mod hm (by simp) t h
theorem IsC.weak {w : World} {Q R : Nat → Prop} (hq : ∀ k, k < w.heap.size → Q k → R k) (t : T) : ∀ {A : Option Addr} {c : Nat}, IsC w Q t A c → IsC w R t A c := by
  induction t with
  | nil => intro A c h; cases h
  | mk kind n s op k ch ih =>
    rintro A c ⟨hc0, h⟩
    refine ⟨hc0, fun h0 => ?_⟩
    obtain ⟨b, o, hA, hb, hq', hc⟩ := h h0
    refine ⟨b, o, hA, hb, hq b hb hq', fun i hi => ?_⟩
    obtain ⟨Ai, ci, h1, h2⟩ := hc i hi
    exact ⟨Ai, ci, h1, ih i h2⟩
theorem IsC.leaf {w : World} {Q : Nat → Prop} {kind : Int} {n : Nat} {s : List UInt8} {op : Bool} {ch : Nat → T} {A : Option Addr} {c : Nat} : IsC w Q (.mk kind n s op 0 ch) A c := ⟨Nat.zero_le _, fun h => by omega⟩
theorem IsC.isL {w : World} {Q : Nat → Prop} (t : T) : ∀ {A : Option Addr} {c : Nat}, IsC w Q t A c → IsL w Q t A := by
  induction t with
  | nil => intro A c h; cases h
  | mk kind n s op k ch ih =>
    rintro A c ⟨hc0, h⟩ h0
    obtain ⟨b, o, hA, hb, hq, hc⟩ := h h0
    refine ⟨b, o, hA, hb, hq, fun i hi => ?_⟩
    obtain ⟨Ai, ci, h1, h2⟩ := hc i hi
    exact ⟨Ai, ci, h1, ih i h2⟩
theorem IsC.cap {w : World} {Q : Nat → Prop} {t : T} {A : Option Addr} {c : Nat} (h : IsC w Q t A c) : t.k ≤ c := by
  cases t with
  | nil => exact absurd h id
  | mk kind n s op k ch => exact h.1
theorem room_cap {w : World} {base : Nat} {e : TypeId} {size : Nat} {A : Option Addr} {k c : Nat} {xs : List Value} (h : w.ownsRow base e size (.slice A k c) k xs) : k ≤ c := by
  rcases h.2 with ⟨_, h0⟩ | ⟨g, cap, cs, e1, _, _, h1, _⟩
  · omega
  · simp only [Value.slice.injEq] at e1
    omega
end Go.Proofs.YtblfmokklfhklaaDoor


namespace Go.Proofs.YtblfmokklfhklaaDoor
open Go.RowKit
set_option linter.unusedVariables false
set_option linter.unusedSimpArgs false

/-- A list's items by number; where what hangs on them lies. -/
def chL (L : List T) (i : Nat) : T := (L[i]?).getD T.nil
def acL (a : List (Option Addr × Nat)) (i : Nat) : Option Addr × Nat := (a[i]?).getD (none, 0)
theorem list_IsL {W : World} {Q : Nat → Prop} {base g c : Nat} {L : List T} {a : List (Option Addr × Nat)} (hlt : g < W.heap.size) (q : Q g) (h : W.ownsRow base 36 5 (.slice (some ⟨g, 0, none⟩) L.length c) L.length (flatC (chL L) (acL a) L.length)) (hI : ∀ i, i < L.length → IsL W Q (chL L i) (acL a i).1) : IsL W Q (listT L) (some ⟨g, 0, none⟩) := own_IsL hlt q h hI
theorem num_IsL {W : World} {Q : Nat → Prop} {n : Nat} {A : Option Addr} : IsL W Q (numT n) A := IsL.leaf
theorem str_IsL {W : World} {Q : Nat → Prop} {s : List UInt8} {A : Option Addr} : IsL W Q (strT s) A := IsL.leaf
end Go.Proofs.YtblfmokklfhklaaDoor


namespace Go.Proofs.YtblfmokklfhklaaDoor
open Go.RowKit
set_option linter.unusedVariables false
set_option linter.unusedSimpArgs false

theorem AsL.old {w : World} {Q : Nat → Prop} {a : AV} {m : AA} (h : AsL w Q a m) : AsL w (fun b => Q b ∧ b < w.heap.size) a m :=
  ⟨h.t, fun b o hA h0 => ⟨h.tq b o hA h0, by obtain ⟨b', o', hA', hb, _⟩ := h.t h0; rw [hA] at hA'; cases hA'; exact hb⟩, h.p.weak (fun k hk hq => ⟨hq, hk⟩), h.r.weak (fun k hk hq => ⟨hq, hk⟩)⟩
theorem Blk.thereAt {W : World} {b : Nat} {t : TypeId} {cs : Array Value} (h : Blk W b t cs) {o n : Nat} (hn : o + n ≤ cs.size) : W.there b o n := fun j hj => by
  refine ⟨?_, h.frozen (o + j)⟩
  rw [h.cell (o + j), Array.getElem?_eq_getElem (by omega)]; rfl
theorem Rw.blk {W : World} {base g n : Nat} {L : List T} {al : List (Option Addr × Nat)} {cs : Array Value} (h : Blk W g 36 cs) (hb : base ≤ g) (hn : n ≤ maxLen) (hs : cs.size = n * 5) (hcs : cs.toList = flatC (chL L) (acL al) n) (hI : ∀ i, i < n → IsL W (fun b => b < g) (chL L i) (acL al i).1) : Rw W anyQ base (some ⟨g, 0, none⟩) n n (chL L) (acL al) :=
  ⟨hcs ▸ own_of_blk h hb hn hs, fun j hj => IsL.weak (fun b _ hb => ⟨trivial, fun g' hg' => by cases hg'; exact Nat.ne_of_lt hb⟩) _ (hI j hj)⟩
set_option maxRecDepth 20000 in
set_option maxHeartbeats 16000000 in
theorem aitems_any (a : AV) (hw : a.wf) (hs : a.shaped = true) (m : AA) (w : World) (h : AsL w anyQ a m) : Calls Tryd.prog 20 #[asbV a m] w (fun e w' => ∃ A c, e = .returned (.slice A a.items.length c) ∧ Ext w w' ∧ IsL w' anyQ (listT a.items) A) := by
  obtain ⟨⟨h1, h2⟩, h3, h4, h5, h6, h7, h8, h9⟩ := AV.shaped_iff.1 hs
  obtain ⟨mt, mtc, mp, mpc, mr, mrc⟩ := m
  obtain ⟨bt, ot, hmt, hbt, hct⟩ := h.t (by omega)
  have hmt : mt = some ⟨bt, ot, none⟩ := hmt
  obtain ⟨br, orr, hmr, hbr, _, hcr⟩ := h.r (by omega)
  have hmr : mr = some ⟨br, orr, none⟩ := hmr
  subst hmt hmr
  have HCT := hid hct
  have HBT := hid hbt
  clear hct hbt hcr hbr
  have HE := hid ((Mod.refl [] w).alloc (.cells (asbC a ⟨some ⟨bt, ot, none⟩, mtc, mp, mpc, some ⟨br, orr, none⟩, mrc⟩) 31))
  have HB0 := hid (Blk.new w 31 (asbC a ⟨some ⟨bt, ot, none⟩, mtc, mp, mpc, some ⟨br, orr, none⟩, mrc⟩))
  have HL := hid (h.old.ext HE.out)
  have HW := hid hw
  have HTG := hid (unlikeB_coded h3)
  have HP := hid (unlikeB_coded (pairsB_iff.1 h7).2)
  have HRES := hid (T.all_iff.1 h9)
  have HRC := hid (fun i (hi : i < a.rk) => unlikeB_coded (pairsB_iff.1 (resB_iff.1 (T.all_iff.1 h9 i hi)).2).2)
  have KE := hid (fun W => eidItem_ok a.src h5 W)
  have HK := hid h2
  have HRK := hid h8
  have HP8 := hid h6
  have hcc := codedB_iff.1 h4
  obtain ⟨cn, hcn⟩ := Int.eq_ofNat_of_zero_le hcc.1
  have tctx : IntKind.u64.wrap (cn : Int) = (cn : Int) := IntWalk.u64_in _ (by omega)
  have HCN := hid hcn
  have k0 : (a.tk : Int) ≤ 16 := by omega
  generalize hkk : a.tk = k at *
  have HKK := hid hkk
  clear hw hs h h1 h2 h3 h4 h5 h6 h7 h8 h9 hkk hcc hcn
  go_enter Tryd.func20, Tryd.ntmps20
  go_upto_region 1 with fail
  generalize hV : w.alloc (.cells (asbC a ⟨some ⟨bt, ot, none⟩, mtc, mp, mpc, some ⟨br, orr, none⟩, mrc⟩) 31) = V at *
  have HVS : Hid (w.heap.size < V.heap.size) := hid (by rw [← hV]; simp)
  have b0 : ∀ e : Later V, e.x.cell? ⟨w.heap.size, 0, none⟩ = some (.slice (some ⟨bt, ot, none⟩) k mtc) := HB0.out.cellL 0 (by rw [← HKK.out]; rfl)
  have b7 : ∀ e : Later V, e.x.cell? ⟨w.heap.size, 7, none⟩ = some (.slice (some ⟨br, orr, none⟩) a.rk mrc) := HB0.out.cellL 7 rfl
  clear hV
  obtain ⟨e, he⟩ := Later.self V
  rw [he]
  go_upto_region 3 with fail
  go_loopw [3, 4, 13] (fun s3 s4 s13 wr => ∃ (i : Nat) (A1 : Option Addr) (c1 : Nat) (A2 : Option Addr) (c2 : Nat) (ac2 : Nat → Option Addr × Nat), s13 = .int .i64 (i : Int) ∧ s3 = .slice A1 i c1 ∧ s4 = .slice A2 i c2 ∧ Hid (i ≤ k ∧ Ext V wr ∧ wr.ownsRow V.heap.size 36 5 (.slice A1 i c1) i (flatC (fun j => numT (a.tg j).toNat) (fun _ => (none, 0)) i) ∧ Rw wr (offA A1) V.heap.size A2 c2 i (fun j => plT (a.rs j)) ac2 ∧ ∀ g, A2 = some g → offA A1 g.block)) (fun _ _ s13 _ => k - (intOf s13).toNat)
  case atStart => exact ⟨0, none, 0, none, 0, fun _ => (none, 0), rfl, rfl, rfl, (show Hid _ from ⟨Nat.zero_le _, he ▸ Mod.refl _ _, World.ownsRow_nil _ _ _ _, Rw.nil, fun g hg => by cases hg⟩)⟩
  case round =>
    clear he e
    obtain ⟨i, A1, c1, A2, c2, ac2, rfl, rfl, rfl, hS⟩ := hrel
    rename World => wr
    have i0 : (0 : Int) ≤ (i : Int) := by omega
    by_cases hlt : i < k
    · obtain ⟨e, he⟩ : ∃ e : Later V, wr = e.x := ⟨⟨wr, hS.out.2.1⟩, rfl⟩
      have c0 : wr.cell? ⟨bt, ot + i, none⟩ = some (.int .i64 (a.tg i)) := ((HE.out.trans hS.out.2.1).cell HBT.out (by simp)).trans (HCT.out i hlt)
      have B7 := hid b7
      clear b7
      have b0w := b0 e
      rw [← he] at b0w
      have tc : decide (i < k) = true := by simp [hlt]
      have i1 : (i : Int) < (k : Int) := by omega
      have HLT := hid hlt
      have t1 : IntKind.u64.wrap (a.tg i) = ((a.tg i).toNat : Int) := by
        have := HTG.out i hlt
        rw [Int.toNat_of_nonneg this.1]; exact IntWalk.u64_in _ (by omega)
      clear hlt he e b0
      obtain ⟨ib, hi, hz0, hz1, hz2⟩ := info_parts infoItem
      have HR1 : Hid (∀ e : Later wr, e.x.ownsRow V.heap.size 36 5 (.slice A1 i c1) i (flatC (fun j => numT (a.tg j).toNat) (fun _ => (none, 0)) i)) := hid (fun e => ownsRow_mod hS.out.2.2.1 e.h (fun _ _ => by simp))
      have HR2 := hid hS.out.2.2.2.1
      have HAP := hid hS.out.2.2.2.2
      have HEV := hid hS.out.2.1
      have HSZ : Hid (V.heap.size ≤ wr.heap.size) := hid hS.out.2.1.size
      clear hS
      obtain ⟨e, he⟩ := Later.self wr
      have c0 : ∀ e : Later wr, e.x.cell? ⟨bt, ot + i, none⟩ = some (.int .i64 (a.tg i)) := fun e => cellL c0 e
      rw [he]
      clear he
      go_upto_region 6 with (first | (go_at_call 39; refine (Ret.later (NumI_any _ _)).mono ?_; rintro x _ ⟨rfl, e, rfl⟩) | (at_builtin; refine wpList_append_lies _ rfl _ _ 34 rfl V.heap.size 36 ib _ 5 64 Tryd.underlying34 hi hz0 hz1 hz2 rfl (by decide) _ i _ rfl ((HR1.out e).alloc _) ⟨e.x.heap.size, 0, none⟩ 1 1 [.int .i64 0, .int .u64 ((a.tg i).toNat : Int), str [], .slice none 0 0, .bool false] rfl rfl (fun j u hu => by rw [addr_add, Nat.zero_add, (Blk.new _ _ _).cell j]; simpa using hu) (fun u hu => by simp only [List.mem_cons, List.not_mem_nil, or_false] at hu; rcases hu with h | h | h | h | h <;> (subst h; rfl)) (by decide) (by have := HLT.out; have := HK.out; unfold maxLen; omega) (by have := HLT.out; have := HK.out; omega) (by have := e.h.size; have := HSZ.out; simp; omega) _ rfl ?_; intro g1 d1 w4 hown' hgr' hat' hlt'; have HO1 := hid hown'; have HG1 := hid hgr'; have HA1 := hid hat'; have HLL1 := hid hlt'; clear hown' hgr' hat' hlt'))
      clear c0 b0w
      have hZ := two_first (HR2.out.ext (e.h.trans ((Mod.refl [] e.x).alloc _))) HAP.out HG1.out HA1.out
      have HE4 : Hid (Ext V w4) := hid (by
        refine ((Mod.of_ext (S := obs A1) (HEV.out.trans (e.h.trans ((Mod.refl [] e.x).alloc _)))).trans (grown_obs HG1.out)).new (fun k hk => .inr ?_)
        cases A1 with
        | none => cases hk
        | some g => have := ((HR1.out e).lt g.block rfl).1; simp [obs] at hk; omega)
      have HO4 : Hid (w4.ownsRow V.heap.size 36 5 (.slice (some ⟨g1, 0, none⟩) (i + 1) d1) (i + 1) (flatC (fun j => numT (a.tg j).toNat) (fun _ => (none, 0)) (i + 1))) := hid HO1.out
      have HR4 := hid hZ.1
      have HAP4 := hid hZ.2
      have HS4 : Hid (V.heap.size ≤ w4.heap.size) := hid HE4.out.size
      clear hZ HO1 HG1 HA1 HR1 HR2 HAP HEV HSZ HLL1
      obtain ⟨br', or', Ai, ci, hmr, hbr, cr, hkc, hPi⟩ := HL.out.r.at HE4.out (i := i) (by have := HLT.out; have := HRK.out; omega)
      have KL : Hid (Calls Tryd.prog 40 #[.slice Ai (a.rs i).k ci] w4 (fun e w' => ∃ A' c', e = .returned (.agg #[.int .i64 4, .int .u64 0, str [], .slice A' (a.rs i).k c', .bool false]) ∧ Ext w4 w' ∧ IsL w' (fun b => (True ∧ b < w.heap.size) ∨ w4.heap.size ≤ b) (plT (a.rs i)) A')) := hid (alist_any (a.rs i) (by have := (resB_iff.1 (HRES.out i (by have := HLT.out; have := HRK.out; omega))).1; omega) (HRC.out i (by have := HLT.out; have := HRK.out; omega)) Ai ci w4 hPi)
      obtain ⟨e4, he4⟩ : ∃ e : Later V, w4 = e.x := ⟨⟨w4, HE4.out⟩, rfl⟩
      have b7w := B7.out e4
      rw [← he4] at b7w
      have hmr : (some ⟨br, orr, none⟩ : Option Addr) = some ⟨br', or', none⟩ := hmr
      cases hmr
      have i2 : (i : Int) < (a.rk : Int) := by have := HRK.out; omega
      clear hPi hkc hbr he4 e4
      go_upto_region 7 with (first | (go_at_call 40; refine KL.out.mono ?_; rintro x w5 ⟨A5, c5, rfl, hb5, hi5⟩; have H5 := hid hb5; have HI5 := hid hi5; have HSZ5 : Hid (w4.heap.size ≤ w5.heap.size) := hid hb5.size; clear hb5 hi5) | (at_builtin; refine wpList_append_lies _ rfl _ _ 34 rfl V.heap.size 36 ib _ 5 64 Tryd.underlying34 hi hz0 hz1 hz2 rfl (by decide) _ i _ rfl ((HR4.out.ext H5.out).own.alloc _) ⟨w5.heap.size, 0, none⟩ 1 1 [.int .i64 4, .int .u64 0, str [], .slice A5 (a.rs i).k c5, .bool false] rfl rfl (fun j u hu => by rw [addr_add, Nat.zero_add, (Blk.new _ _ _).cell j]; simpa using hu) (fun u hu => by simp only [List.mem_cons, List.not_mem_nil, or_false] at hu; rcases hu with h | h | h | h | h <;> (subst h; rfl)) (by decide) (by have := HLT.out; have := HK.out; unfold maxLen; omega) (by have := HLT.out; have := HK.out; omega) (by have := HS4.out; have := HSZ5.out; simp; omega) _ rfl ?_; intro g2 d2 w6 hown' hgr' hat' hlt'; have HO2 := hid hown'; have HG2 := hid hgr'; have HA2 := hid hat'; have HLL2 := hid hlt'; clear hown' hgr' hat' hlt'))
      clear cr b7w
      have HZ2 := two_second (ownsRow_mod HO4.out (H5.out.alloc _) (fun _ _ => by simp)) HAP4.out HG2.out HA2.out
      have HOFF : Hid (IsL (w5.alloc (.cells #[.int .i64 4, .int .u64 0, str [], .slice A5 (a.rs i).k c5, .bool false] 36)) (fun b => offA (some ⟨g1, 0, none⟩) b ∧ offA A2 b) (plT (a.rs i)) A5) := hid (IsL.weak (fun b _ hb => by
        have o1 := (HO4.out.lt g1 rfl)
        constructor
        · intro g hg
          cases hg
          rcases hb with hb | hb
          · have := hb.2; have := HVS.out; show b ≠ g1; omega
          · show b ≠ g1; omega
        · intro g hg
          have o2 := HR4.out.own.lt g.block (by subst hg; rfl)
          rcases hb with hb | hb
          · have := hb.2; have := HVS.out; omega
          · omega) _ (HI5.out.ext ((Mod.refl [] w5).alloc _)))
      obtain ⟨ac', hR6⟩ := (HR4.out.ext (H5.out.alloc _)).append HOFF.out rfl HO2.out HG2.out HA2.out
      have HR6 := hid hR6
      have HE6 : Hid (Ext V w6) := hid (by
        refine ((Mod.of_ext (S := obs A2) (HE4.out.trans (H5.out.alloc _))).trans (grown_obs HG2.out)).new (fun k hk => .inr ?_)
        cases A2 with
        | none => cases hk
        | some g => have := (HR4.out.own.lt g.block rfl).1; simp [obs] at hk; omega)
      have HZ2 := hid HZ2
      clear hR6 HOFF HO2 HG2 HA2 HR4 HAP4 H5 HI5 KL
      go_wp2_with fail
      go_roundw
      case rel => exact ⟨i + 1, some ⟨g1, 0, none⟩, d1, some ⟨g2, 0, none⟩, d2, ac', by go_num, rfl, rfl, (show Hid _ from ⟨HLT.out, HE6.out, HZ2.out.1, HR6.out, HZ2.out.2⟩)⟩
      case measure => have := HLT.out; simp [intOf]; omega
    · obtain rfl : i = k := by have := hS.out.1; omega
      have tc : decide (i < i) = false := by simp
      have HSE := hid hS.out.2.1
      have HR1 := hid hS.out.2.2.1
      have HR2 := hid hS.out.2.2.2.1
      have HSZ : Hid (V.heap.size ≤ wr.heap.size) := hid hS.out.2.1.size
      clear hS b0 b7
      have HRE : Hid (∀ e : Later V, e.x.rangeAt w.heap.size 2 [.int .i64 a.src.sch, str a.src.name, .int .u64 (a.src.node : Int), .int .u64 (a.src.svc : Int)]) := HB0.out.range 2 4 (by rfl)
      obtain ⟨e0, he0⟩ : ∃ e : Later V, wr = e.x := ⟨⟨wr, HSE.out⟩, rfl⟩
      subst he0
      go_upto_region 9 with (first | (refine wpList_mid (by rfl) 27 _ rfl _ 2 rfl _ _ (HRE.out _) Tryd.underlying27 rfl (by kernel_rfl) ?_) | (go_at_call 41; refine (KE.out _).mono ?_; rintro x w6 ⟨As, rfl, hb6, hl6⟩; have H6 := hid hb6; have HI6 := hid hl6; clear hb6 hl6))
      generalize hG : World.alloc w6 _ = W9
      have HN : Hid (Blk W9 w6.heap.size 36 (itemC (eidT a.src) As 2)) := hid (by rw [← hG]; exact Blk.new _ _ _)
      have HX9 : Hid (Ext e0.x W9) := hid (by rw [← hG]; exact H6.out.alloc _)
      have LS : Hid (IsL W9 anyQ (eidT a.src) As) := hid (by rw [← hG]; exact IsL.weak (fun _ _ _ => trivial) _ (HI6.out.ext ((Mod.refl [] w6).alloc _)))
      have L1 : Hid (IsL W9 anyQ (tgT i a.tg) A1) := hid (Rw.isL (base := V.heap.size) (c := c1) (ac := fun _ => (none, 0)) ⟨ownsRow_mod HR1.out HX9.out (fun _ _ => by simp), fun j hj => IsL.leaf⟩ (fun _ _ => trivial))
      have L2 : Hid (IsL W9 anyQ (rsT i a.rs) A2) := hid (((HR2.out.weak (R := anyQ) (fun _ _ _ => trivial)).ext HX9.out).isL (fun _ _ => trivial))
      have HV9 : Hid (Ext V W9) := hid (HSE.out.trans HX9.out)
      have HC1 : Hid (∀ W, Ext W9 W → W.cell? ⟨w.heap.size, 1, none⟩ = some (.int .i64 (cn : Int))) := hid (fun W hW => ((HB0.out.ext (HV9.out.trans hW)).cell 1).trans (by show some (Value.int .i64 a.ctx) = _; rw [HCN.out]))
      clear hG H6 HI6 HR1 HR2 HRE
      generalize w6.heap.size = g6 at *
      refine wp_region_held_drew (S := fun w' => Ext W9 w') (by kernel_rfl) (Mod.refl _ _).drew (fun hHeld => ?_)
      generalize W9.drew = v0 at *
      refine' wpAnyH_take (i := 0) (v := _) rfl (by kernel_rfl) (by kernel_rfl) (by kernel_rfl) (fun _ _ _ h => h) (Or.inl ⟨by rfl, ?hy1⟩) hHeld ?rest1
      case hy1 => (rintro W hM; go_simp; (try with_reducible rfl))
      case rest1 =>
      (try simp only [Act.put, List.getElem_toArray, List.getElem_cons_zero, List.getElem_cons_succ, List.setIfInBounds_toArray, List.set_cons_zero, List.set_cons_succ])
      refine' wpAnyH_take (i := 2) (v := _) rfl (by kernel_rfl) (by kernel_rfl) (by kernel_rfl) (fun _ _ _ h => h) (Or.inl ⟨by rfl, ?hy2⟩) hHeld ?rest2
      case hy2 => (rintro W hM; go_simp; (try with_reducible rfl))
      case rest2 =>
      (try simp only [Act.put, List.getElem_toArray, List.getElem_cons_zero, List.getElem_cons_succ, List.setIfInBounds_toArray, List.set_cons_zero, List.set_cons_succ])
      refine' wpAnyH_take (i := 3) (v := _) rfl (by kernel_rfl) (by kernel_rfl) (by kernel_rfl) (fun _ _ _ h => h) (Or.inl ⟨by rfl, ?hy3⟩) hHeld ?rest3
      case hy3 => (rintro W hM; have g1 := HC1.out W hM; go_simp; (try with_reducible rfl))
      case rest3 =>
      (try simp only [Act.put, List.getElem_toArray, List.getElem_cons_zero, List.getElem_cons_succ, List.setIfInBounds_toArray, List.set_cons_zero, List.set_cons_succ])
      refine' wpAnyH_take (i := 4) (v := _) rfl (by kernel_rfl) (by kernel_rfl) (by kernel_rfl) (fun _ _ _ h => h) (Or.inl ⟨by rfl, ?hy4⟩) hHeld ?rest4
      case hy4 => (rintro W hM; go_simp; (try with_reducible rfl))
      case rest4 =>
      (try simp only [Act.put, List.getElem_toArray, List.getElem_cons_zero, List.getElem_cons_succ, List.setIfInBounds_toArray, List.set_cons_zero, List.set_cons_succ])
      refine wpAnyH_take (i := 7) rfl (by kernel_rfl) (by kernel_rfl) (by kernel_rfl) (fun _ _ _ h => h) (yieldsIf_row (by rfl) 36 _ rfl _ rfl (fun W hM => HN.out.ext hM) Tryd.underlying36 rfl (by kernel_rfl)) hHeld ?_
      (try simp only [Act.put, List.getElem_toArray, List.getElem_cons_zero, List.getElem_cons_succ, List.setIfInBounds_toArray, List.set_cons_zero, List.set_cons_succ])
      refine wpAnyH_ready (rs := [1]) (by kernel_rfl) (by simp) ?_
      refine AllReadyH.cons rfl (fun K hK => ?_) AllReadyH.nil
      go_simp
      go_at_call 42
      refine (ListV_any _ _ _ _).mono ?_
      rintro x v1 ⟨rfl, hb⟩
      refine hK.out _ _ (hHeld.trans hb) (fun hHeld => ?_)
      clear hK K
      (try simp only [Act.put, List.getElem_toArray, List.getElem_cons_zero, List.getElem_cons_succ, List.setIfInBounds_toArray, List.set_cons_zero, List.set_cons_succ])
      refine wpAnyH_ready (rs := [5]) (by kernel_rfl) (by simp) ?_
      refine AllReadyH.cons rfl (fun K hK => ?_) AllReadyH.nil
      go_simp
      (try rw [tctx])
      go_at_call 39
      refine (NumI_any _ _).mono ?_
      rintro x v2 ⟨rfl, hb⟩
      refine hK.out _ _ (hHeld.trans hb) (fun hHeld => ?_)
      clear hK K
      (try simp only [Act.put, List.getElem_toArray, List.getElem_cons_zero, List.getElem_cons_succ, List.setIfInBounds_toArray, List.set_cons_zero, List.set_cons_succ])
      refine wpAnyH_ready (rs := [6]) (by kernel_rfl) (by simp) ?_
      refine AllReadyH.cons rfl (fun K hK => ?_) AllReadyH.nil
      go_simp
      go_at_call 39
      refine (NumI_any _ _).mono ?_
      rintro x v3 ⟨rfl, hb⟩
      refine hK.out _ _ (hHeld.trans hb) (fun hHeld => ?_)
      clear hK K
      (try simp only [Act.put, List.getElem_toArray, List.getElem_cons_zero, List.getElem_cons_succ, List.setIfInBounds_toArray, List.set_cons_zero, List.set_cons_succ])
      refine wpAnyH_ready (rs := [8]) (by kernel_rfl) (by simp) ?_
      refine AllReadyH.cons rfl (fun K hK => ?_) AllReadyH.nil
      go_simp
      have HX3 := hid hHeld
      have HB9 : Hid (Blk (World.alloc v3 (.cells #[.int .i64 4, .int .u64 0, str [], .slice A1 i c1, .bool false, .int .i64 0, .int .u64 (cn : Int), str [], .slice none 0 0, .bool false, .int .i64 0, .int .u64 0, str [], .slice none 0 0, .bool false, .int .i64 (eidT a.src).kind, .int .u64 ((eidT a.src).n : Int), str (eidT a.src).s, .slice As (eidT a.src).k 2, .bool (eidT a.src).op] 36)) v3.heap.size 36 #[.int .i64 4, .int .u64 0, str [], .slice A1 i c1, .bool false, .int .i64 0, .int .u64 (cn : Int), str [], .slice none 0 0, .bool false, .int .i64 0, .int .u64 0, str [], .slice none 0 0, .bool false, .int .i64 (eidT a.src).kind, .int .u64 ((eidT a.src).n : Int), str (eidT a.src).s, .slice As (eidT a.src).k 2, .bool (eidT a.src).op]) := hid (Blk.new _ _ _)
      have HX4 : Hid (Ext v3 (World.alloc v3 (.cells #[.int .i64 4, .int .u64 0, str [], .slice A1 i c1, .bool false, .int .i64 0, .int .u64 (cn : Int), str [], .slice none 0 0, .bool false, .int .i64 0, .int .u64 0, str [], .slice none 0 0, .bool false, .int .i64 (eidT a.src).kind, .int .u64 ((eidT a.src).n : Int), str (eidT a.src).s, .slice As (eidT a.src).k 2, .bool (eidT a.src).op] 36))) := hid ((Mod.refl [] _).alloc _)
      generalize World.alloc v3 (.cells #[.int .i64 4, .int .u64 0, str [], .slice A1 i c1, .bool false, .int .i64 0, .int .u64 (cn : Int), str [], .slice none 0 0, .bool false, .int .i64 0, .int .u64 0, str [], .slice none 0 0, .bool false, .int .i64 (eidT a.src).kind, .int .u64 ((eidT a.src).n : Int), str (eidT a.src).s, .slice As (eidT a.src).k 2, .bool (eidT a.src).op] 36) = v4 at *
      refine hK.out _ _ (hHeld.trans HX4.out) (fun hHeld => ?_)
      clear hK K
      (try simp only [Act.put, List.getElem_toArray, List.getElem_cons_zero, List.getElem_cons_succ, List.setIfInBounds_toArray, List.set_cons_zero, List.set_cons_succ])
      refine' wpAnyH_take (i := 9) (v := _) rfl (by kernel_rfl) (by kernel_rfl) (by kernel_rfl) (fun _ _ _ h => h) (Or.inl ⟨by rfl, ?hy5⟩) hHeld ?rest5
      case hy5 => (rintro W hM; go_simp; (try with_reducible rfl))
      case rest5 =>
      (try simp only [Act.put, List.getElem_toArray, List.getElem_cons_zero, List.getElem_cons_succ, List.setIfInBounds_toArray, List.set_cons_zero, List.set_cons_succ])
      refine wpAnyH_done (by kernel_rfl) ?_ _
      have HX34 : Hid (Ext W9 v4) := hid hHeld
      have kd : ∀ {t : T} {A : Option Addr}, IsL W9 anyQ t A → IsL v4 (fun b => b < v3.heap.size) t A := fun h => (IsL.weak (fun b hb _ => hb) _ (h.ext HX3.out)).ext HX4.out
      have K0 := hid (kd L1.out)
      have K2 := hid (kd L2.out)
      have K3 := hid (kd LS.out)
      have HBG : Hid (V.heap.size ≤ v3.heap.size) := hid (Nat.le_trans HV9.out.size HX3.out.size)
      have HVX : Hid (Ext V v4) := hid (HV9.out.trans HX34.out)
      have HGS : Hid (v3.heap.size < v4.heap.size) := hid HB9.out.lt
      clear kd L1 L2 LS HX3 HX4 HX34 HN HC1 hHeld HX9 HSE HV9
      generalize v3.heap.size = g9 at *
      have b6 : ∀ e : Later v4, e.x.cell? ⟨w.heap.size, 6, none⟩ = some (.slice mp a.ps.k mpc) := (HB0.out.ext HVX.out).cellL 6 rfl
      obtain ⟨ib, hi, hz0, hz1, hz2⟩ := info_parts infoItem
      by_cases hp : a.ps.k = 0
      case pos =>
        have HIT : Hid (a.items = [tgT i a.tg, numT cn, numT 0, eidT a.src, rsT i a.rs]) := hid (by unfold AV.items; rw [if_pos hp, HRK.out, HKK.out, HCN.out]; rfl)
        have tpa : decide ((0 : Int) < (a.ps.k : Int)) = false := decide_eq_false (by omega)
        have tpb : ((0 : Int) < (a.ps.k : Int)) = False := eq_false (by omega)
        have tqa : decide (0 < a.ps.k) = false := decide_eq_false (by omega)
        have tqb : (0 < a.ps.k) = False := eq_false (by omega)
        clear hp
        have HRW : Hid (Rw v4 anyQ V.heap.size (some ⟨g9, 0, none⟩) 4 4 (chL [tgT i a.tg, numT cn, numT 0, eidT a.src, rsT i a.rs]) (acL [(A1, c1), (none, 0), (none, 0), (As, 2)])) := hid (Rw.blk HB9.out HBG.out (by decide) rfl rfl (fun j hj => by match j, hj with | 0, _ => exact K0.out | 1, _ => exact IsL.leaf | 2, _ => exact IsL.leaf | 3, _ => exact K3.out))
        obtain ⟨e, he⟩ := Later.self v4
        rw [he]
        go_wp2_with (first | (go_at_call 42; refine (Ret.later (ListV_any _ _ _ _)).mono ?_; rintro x _ ⟨rfl, e, rfl⟩) | (at_builtin; refine wpList_append_lies _ rfl _ _ 34 rfl V.heap.size 36 ib _ 5 64 Tryd.underlying34 hi hz0 hz1 hz2 rfl (by decide) _ 4 _ rfl ((HRW.out.ext e.h).own.alloc _) ⟨e.x.heap.size, 0, none⟩ 1 1 [.int .i64 4, .int .u64 0, str [], .slice A2 i c2, .bool false] rfl rfl (fun j u hu => by rw [addr_add, Nat.zero_add, (Blk.new _ _ _).cell j]; simpa using hu) (fun u hu => by simp only [List.mem_cons, List.not_mem_nil, or_false] at hu; rcases hu with h | h | h | h | h <;> (subst h; rfl)) (by decide) (by decide) (by decide) (by have := e.h.size; have := HBG.out; have := HGS.out; simp; omega) _ rfl ?_; intro g8 d8 w8 hown' hgr' hat' hlt'; have HO8 := hid hown'; have HG8 := hid hgr'; have HA8 := hid hat'; have HLL8 := hid hlt'; clear hown' hgr' hat' hlt'))
        obtain ⟨ac8, HR8⟩ := (HRW.out.ext (e.h.trans ((Mod.refl [] e.x).alloc _))).append (IsL.weak (fun b _ hb => ⟨trivial, fun g hg => by cases hg; exact Nat.ne_of_lt hb⟩) _ (K2.out.ext (e.h.trans ((Mod.refl [] e.x).alloc _)))) rfl HO8.out HG8.out HA8.out
        have HM8 := grown_obs HG8.out
        have HV8 : Ext V w8 := ((Mod.of_ext (S := [g9]) (HVX.out.trans (e.h.trans ((Mod.refl [] e.x).alloc _)))).trans HM8).new (fun k hk => .inr (by rw [List.mem_singleton] at hk; subst hk; exact HBG.out))
        go_ret
        exact ⟨some ⟨g8, 0, none⟩, d8, by rw [HIT.out]; rfl, HE.out.trans HV8, by rw [HIT.out]; exact HR8.isL (fun _ _ => trivial)⟩
      have HIT : Hid (a.items = [tgT i a.tg, numT cn, numT 1, eidT a.src, plT a.ps, rsT i a.rs]) := hid (by unfold AV.items; rw [if_neg hp, HRK.out, HKK.out, HCN.out]; rfl)
      have tpa : decide ((0 : Int) < (a.ps.k : Int)) = true := decide_eq_true (by omega)
      have tpb : ((0 : Int) < (a.ps.k : Int)) = True := eq_true (by omega)
      have tqa : decide (0 < a.ps.k) = true := decide_eq_true (by omega)
      have tqb : (0 < a.ps.k) = True := eq_true (by omega)
      clear hp
      obtain ⟨e, he⟩ := Later.self v4
      rw [he]
      clear he
      have tk1 : True := trivial
      go_upto_region 12 with (first | (go_at_call 39; refine (Ret.later (NumI_any _ _)).mono ?_; rintro x _ ⟨rfl, e, rfl⟩) | (clear tk1; refine wpList_store_mid rfl 36 _ _ rfl g9 10 #[.int .i64 0, .int .u64 1, str [], .slice none 0 0, .bool false] (by rfl) (by rfl) ((HB9.out.later e).thereAt (by show 10 + 5 ≤ 20; omega)) (by kernel_rfl) (by simp [Value.oneCell']) ?_))
      generalize hZ : World.setCells _ g9 10 _ = Z
      have HBZ : Hid (Blk Z g9 36 #[.int .i64 4, .int .u64 0, str [], .slice A1 i c1, .bool false, .int .i64 0, .int .u64 (cn : Int), str [], .slice none 0 0, .bool false, .int .i64 0, .int .u64 1, str [], .slice none 0 0, .bool false, .int .i64 (eidT a.src).kind, .int .u64 ((eidT a.src).n : Int), str (eidT a.src).s, .slice As (eidT a.src).k 2, .bool (eidT a.src).op]) := hid (by
        have := setRow_blk [.int .i64 0, .int .u64 1, str [], .slice none 0 0, .bool false] e.x 10 _ (HB9.out.later e)
        rw [setRow_eq] at this
        rw [← hZ]
        exact this)
      have HZM : Hid (Mod [g9] e.x Z) := hid (by rw [← hZ]; exact setCells_mod _ _ (Mod.refl _ _) (.inl (by simp)))
      have kz : ∀ {t : T} {A : Option Addr}, IsL v4 (fun b => b < g9) t A → IsL Z (fun b => b < g9) t A := fun h => IsL.mod HZM.out (fun k hk _ => by simp; omega) _ (h.ext e.h)
      have J0 := hid (kz K0.out)
      have J2 := hid (kz K2.out)
      have J3 := hid (kz K3.out)
      have HVZ : Hid (Ext V Z) := hid (((Mod.of_ext (S := [g9]) (HVX.out.trans e.h)).trans HZM.out).new (fun k hk => .inr (by rw [List.mem_singleton] at hk; subst hk; exact HBG.out)))
      have HGZ : Hid (g9 < Z.heap.size) := hid HBZ.out.lt
      clear kz hZ HZM K0 K2 K3 HVX HGS b6 HB9
      generalize e = e0z at *
      have b6 : ∀ e : Later Z, e.x.cell? ⟨w.heap.size, 6, none⟩ = some (.slice mp a.ps.k mpc) := (HB0.out.ext HVZ.out).cellL 6 rfl
      have HRW : Hid (Rw Z anyQ V.heap.size (some ⟨g9, 0, none⟩) 4 4 (chL [tgT i a.tg, numT cn, numT 1, eidT a.src, plT a.ps, rsT i a.rs]) (acL [(A1, c1), (none, 0), (none, 0), (As, 2)])) := hid (Rw.blk HBZ.out HBG.out (by decide) rfl rfl (fun j hj => by match j, hj with | 0, _ => exact J0.out | 1, _ => exact IsL.leaf | 2, _ => exact IsL.leaf | 3, _ => exact J3.out))
      have KL : Hid (∀ e : Later Z, Calls Tryd.prog 40 #[.slice mp a.ps.k mpc] e.x (fun r w' => ∃ A' c', r = .returned (.agg #[.int .i64 4, .int .u64 0, str [], .slice A' a.ps.k c', .bool false]) ∧ Ext e.x w' ∧ IsL w' (fun b => (True ∧ b < w.heap.size) ∨ e.x.heap.size ≤ b) (plT a.ps) A')) := hid (fun e => alist_any a.ps (by have := HP8.out; omega) HP.out mp mpc e.x (HL.out.p.ext (HVZ.out.trans e.h)))
      obtain ⟨e, he⟩ := Later.self Z
      rw [he]
      clear he
      go_upto_region 13 with (first | (go_at_call 40; refine (KL.out _).mono ?_; rintro x w5 ⟨A5, c5, rfl, hb5, hi5⟩; have H5 := hid (e.h.trans hb5); have HI5 := hid hi5; have HSZ5 : Hid (Z.heap.size ≤ w5.heap.size) := hid (e.h.trans hb5).size; have HSE5 := hid e.h.size; clear hb5 hi5) | (at_builtin; refine wpList_append_lies _ rfl _ _ 34 rfl V.heap.size 36 ib _ 5 64 Tryd.underlying34 hi hz0 hz1 hz2 rfl (by decide) _ 4 _ rfl ((HRW.out.ext H5.out).own.alloc _) ⟨w5.heap.size, 0, none⟩ 1 1 [.int .i64 4, .int .u64 0, str [], .slice A5 a.ps.k c5, .bool false] rfl rfl (fun j u hu => by rw [addr_add, Nat.zero_add, (Blk.new _ _ _).cell j]; simpa using hu) (fun u hu => by simp only [List.mem_cons, List.not_mem_nil, or_false] at hu; rcases hu with h | h | h | h | h <;> (subst h; rfl)) (by decide) (by decide) (by decide) (by have := HBG.out; have := HGZ.out; have := HSZ5.out; simp; omega) _ rfl ?_; intro g7 d7 w7 hown' hgr' hat' hlt'; have HO7 := hid hown'; have HG7 := hid hgr'; have HA7 := hid hat'; have HLL7 := hid hlt'; clear hown' hgr' hat' hlt'))
      obtain ⟨ac7, HR7⟩ := (HRW.out.ext (H5.out.alloc _)).append (t := plT a.ps) (At := A5) (ct := c5) (IsL.weak (fun b _ hb => ⟨trivial, fun g hg => by
        cases hg
        show b ≠ g9
        have := HGZ.out
        have := HSE5.out
        have := HBG.out
        have := HVS.out
        rcases hb with hb | hb
        · have := hb.2; omega
        · omega⟩) _ (HI5.out.ext ((Mod.refl [] w5).alloc _))) rfl HO7.out HG7.out HA7.out
      have HR7 := hid HR7
      have HM7 := hid (grown_obs HG7.out)
      have HV7 : Hid (Ext V w7) := hid (((Mod.of_ext (S := [g9]) (HVZ.out.trans (H5.out.alloc _))).trans HM7.out).new (fun k hk => .inr (by rw [List.mem_singleton] at hk; subst hk; exact HBG.out)))
      have J7 : Hid (IsL w7 (fun b => b < g9) (rsT i a.rs) A2) := hid (IsL.mod HM7.out (fun k hk _ => by simp [obs]; omega) _ (J2.out.ext (H5.out.alloc _)))
      have HG9 : Hid (g9 ≤ g7) := hid (by
        rcases HA7.out with h | h
        · have : g9 = g7 := Option.some.inj h
          omega
        · have := HSZ5.out; have := HGZ.out; simp at h; omega)
      have HGB7 : Hid (V.heap.size ≤ g7) := hid (by have := HBG.out; have := HG9.out; omega)
      clear HO7 HG7 HA7 HM7 J2 J0 J3 HRW H5 HI5 b6 KL
      obtain ⟨e, he⟩ := Later.self w7
      rw [he]
      clear he
      go_wp2_with (first | (go_at_call 42; refine (Ret.later (ListV_any _ _ _ _)).mono ?_; rintro x _ ⟨rfl, e, rfl⟩) | (at_builtin; refine wpList_append_lies _ rfl _ _ 34 rfl V.heap.size 36 ib _ 5 64 Tryd.underlying34 hi hz0 hz1 hz2 rfl (by decide) _ 5 _ rfl ((HR7.out.ext e.h).own.alloc _) ⟨e.x.heap.size, 0, none⟩ 1 1 [.int .i64 4, .int .u64 0, str [], .slice A2 i c2, .bool false] rfl rfl (fun j u hu => by rw [addr_add, Nat.zero_add, (Blk.new _ _ _).cell j]; simpa using hu) (fun u hu => by simp only [List.mem_cons, List.not_mem_nil, or_false] at hu; rcases hu with h | h | h | h | h <;> (subst h; rfl)) (by decide) (by decide) (by decide) (by have := e.h.size; have := HGB7.out; have := HLL7.out; simp; omega) _ rfl ?_; intro g8 d8 w8 hown' hgr' hat' hlt'; have HO8 := hid hown'; have HG8 := hid hgr'; have HA8 := hid hat'; have HLL8 := hid hlt'; clear hown' hgr' hat' hlt'))
      obtain ⟨ac8, HR8⟩ := (HR7.out.ext (e.h.trans ((Mod.refl [] e.x).alloc _))).append (IsL.weak (fun b _ hb => ⟨trivial, fun g hg => by cases hg; show b ≠ g7; have := HG9.out; omega⟩) _ (J7.out.ext (e.h.trans ((Mod.refl [] e.x).alloc _)))) rfl HO8.out HG8.out HA8.out
      have HM8 := grown_obs HG8.out
      have HV8 : Ext V w8 := ((Mod.of_ext (S := [g7]) (HV7.out.trans (e.h.trans ((Mod.refl [] e.x).alloc _)))).trans HM8).new (fun k hk => .inr (by rw [List.mem_singleton] at hk; subst hk; exact HGB7.out))
      go_ret
      exact ⟨some ⟨g8, 0, none⟩, d8, by rw [HIT.out]; rfl, HE.out.trans HV8, by rw [HIT.out]; exact HR8.isL (fun _ _ => trivial)⟩
end Go.Proofs.YtblfmokklfhklaaDoor


namespace Go.Proofs.YtblfmokklfhklaaDoor
open Go.RowKit
set_option linter.unusedVariables false
set_option linter.unusedSimpArgs false

section
variable {P : Program} {ops : Array Oper} {rest : List Oper} {o : Oper} {a : Act} {w : World}
/-- Two strings become one, in a plain region. -/
theorem wpList_cat {Q : Exit → Act → World → Prop} (hw : Region.wanted o (yielded ops a.tmps) = true) (ty t2 : TypeId) (x y : Operand) (ho : o.op = .binOp .add ty x y t2) (l1 l2 : List UInt8) (hx : a.eval x = str l1) (hy : a.eval y = str l2)
    (hl : l1.length + l2.length ≤ 9223372036854775807) (h : wpList P ops Q rest (a.put o.dst (str (l1 ++ l2))) w) : wpList P ops Q (o :: rest) a w :=
  wpList_step fun K hK => by
    rw [if_pos hw]
    have hl' : ¬ 9223372036854775807 < l1.length + l2.length := by omega
    have hk := hK _ _ h
    unfold Oper.wp execOp
    simp only [ho, hx, hy]
    simp [go_sem, hl']
    rw [ByteArray.mk_append_mk]
    exact hk
end
end Go.Proofs.YtblfmokklfhklaaDoor


namespace Go.Proofs.YtblfmokklfhklaaDoor
open Go.RowKit
set_option linter.unusedVariables false
set_option linter.unusedSimpArgs false

/-- The bytes of the first i. -/
def catL (L : List T) (i : Nat) : List UInt8 := ((L.take i).map T.bytes).flatten
theorem catL_succ {L : List T} {i : Nat} (h : i < L.length) : catL L (i + 1) = catL L i ++ (chL L i).bytes := by
  unfold catL chL
  rw [List.take_add_one, List.map_append, List.flatten_append, List.getElem?_eq_getElem h]
  simp
theorem catL_le {L : List T} {B : Nat} (h : ∀ t ∈ L, t.bytes.length ≤ B) : ∀ i, i ≤ L.length → (catL L i).length ≤ i * B := by
  intro i
  induction i with
  | zero => intro _; simp [catL]
  | succ i ih =>
    intro hi
    have := ih (by omega)
    have h2 := h (chL L i) (getD_mem (by omega))
    rw [catL_succ (by omega), List.length_append, Nat.succ_mul]
    omega
theorem AV.items_length (a : AV) : a.items.length ≤ 6 := by
  unfold AV.items
  split <;> simp
set_option maxRecDepth 20000 in
set_option maxHeartbeats 4000000 in
theorem abuild_any (a : AV) (hw : a.wf) (hsm : a.small) (hs : a.shaped = true) (m : AA) (w : World) (h : AsL w anyQ a m) : Calls Tryd.prog 10 #[asbV a m] w (Ret (str a.bytes) w) := by
  have HE := hid ((Mod.refl [] w).alloc (.cells (asbC a m) 31))
  have HB0 := hid (Blk.new w 31 (asbC a m))
  have HL := hid (h.ext HE.out)
  have HALL := hid (AV.items_all hw hsm hs)
  have KI : Hid (∀ W, Ext (w.alloc (.cells (asbC a m) 31)) W → _) := hid (fun W hW => aitems_any a hw hs m W (HL.out.ext hW))
  have HBY : Hid (a.bytes = catL a.items a.items.length) := hid (by unfold AV.bytes catL; rw [List.take_length])
  have HN6 := hid (AV.items_length a)
  have HBL : Hid (∀ i, i ≤ a.items.length → (catL a.items i).length ≤ i * 1000000) := hid (catL_le (B := 1000000) (fun t ht => by have := T.bytes_le t; have := (HALL.out t ht).2.2; omega))
  generalize a.items = L at *
  generalize a.bytes = RES at *
  clear hw hsm hs h
  go_enter Tryd.func10, Tryd.ntmps10
  go_upto_region 2 with fail
  generalize w.alloc (.cells (asbC a m) 31) = V at *
  go_upto_region 3 with (first | (refine wpList_row (by rfl) 31 _ rfl _ rfl HB0.out Tryd.underlying31 rfl (by kernel_rfl) ?_) | (go_at_call 20; refine (KI.out _ (Mod.refl _ _)).mono ?_; rintro x w1 ⟨AI, cI, rfl, hb1, hi1⟩; have H1 := hid hb1; have HI := hid hi1; clear hb1 hi1))
  generalize hk : L.length = k at *
  have HK := hid hk
  have k0 : (k : Int) ≤ 6 := by have := HN6.out; omega
  clear hk KI
  go_loopw [3, 11] (fun s3 s11 wr => ∃ i : Nat, s11 = .int .i64 (i : Int) ∧ s3 = str (catL L i) ∧ Hid (i ≤ k) ∧ ∃ e : Later w1, wr = e.x) (fun _ s11 _ => k - (intOf s11).toNat)
  case atStart => obtain ⟨e, he⟩ := Later.self w1; exact ⟨0, rfl, rfl, (show Hid _ from Nat.zero_le _), e, he⟩
  case round =>
    obtain ⟨i, rfl, rfl, hi, e, rfl⟩ := hrel
    have i0 : (0 : Int) ≤ (i : Int) := by omega
    by_cases hlt : i < k
    · obtain ⟨b, o, Ai, ci, rfl, hb, ⟨q0, q1, q2, q3, q4⟩, hI⟩ := IsL.cells (W := e.x) (i := i) HI.out e.h (by have := HK.out; omega)
      have tc : decide (i < k) = true := by simp [hlt]
      have i1 : (i : Int) < (k : Int) := by omega
      have HLT := hid hlt
      have hm : chL L i ∈ L := getD_mem (by have := HK.out; omega)
      have HC : Hid (catL L (i + 1) = catL L i ++ (chL L i).bytes) := hid (catL_succ (by have := HK.out; omega))
      have lX : (catL L i).length ≤ 6000000 := by have := HBL.out i (by omega); have := HN6.out; omega
      have lB : (chL L i).bytes.length ≤ 1000000 := by have := T.bytes_le (chL L i); have := (HALL.out _ hm).2.2; omega
      have KB := hid (fun W (hW : Ext e.x W) => (show Calls Tryd.prog 21 #[itemV (chL L i) Ai ci] W (Ret (.tuple #[str (chL L i).bytes, .int .i64 0]) W) from by
        have := iBuild_any (chL L i) (HALL.out _ hm).1 (HALL.out _ hm).2.2 Ai ci W (IsL.weak (fun _ _ _ => trivial) _ (hI.ext hW))
        unfold buildV at this
        rw [if_pos (HALL.out _ hm).2.1] at this
        exact this))
      change e.x.cell? ⟨b, o + i * 5, none⟩ = some (.int .i64 (chL L i).kind) at q0
      change e.x.cell? ⟨b, o + i * 5 + 1, none⟩ = some (.int .u64 ((chL L i).n : Int)) at q1
      change e.x.cell? ⟨b, o + i * 5 + 2, none⟩ = some (str (chL L i).s) at q2
      change e.x.cell? ⟨b, o + i * 5 + 3, none⟩ = some (.slice Ai (chL L i).k ci) at q3
      change e.x.cell? ⟨b, o + i * 5 + 4, none⟩ = some (.bool (chL L i).op) at q4
      clear hlt hm hb hI
      generalize chL L i = t at *
      generalize t.bytes = BB at *
      generalize catL L i = X at *
      have e00 := e
      go_upto_region 5 with fail
      generalize hW1 : World.alloc e.x _ = W1
      have HG1 : Hid (Blk W1 e.x.heap.size 36 (itemC t Ai ci)) := hid (by rw [← hW1]; exact Blk.new _ _ _)
      have HX1 : Hid (Ext e.x W1) := hid (by rw [← hW1]; exact (Mod.refl [] _).alloc _)
      clear hW1 q0 q1 q2 q3 q4
      go_wp2_with (first | (refine wpList_row (by rfl) 36 _ rfl _ rfl HG1.out Tryd.underlying36 rfl (by kernel_rfl) ?_) | (go_at_call 21; refine (KB.out _ HX1.out).mono ?_; rintro x w5 ⟨rfl, hb5⟩; have H5 := hid hb5; clear hb5) | (refine wpList_cat (by rfl) _ _ _ _ rfl _ _ rfl rfl (by (try simp only [List.length_append, List.length_cons, List.length_nil]); omega) ?_))
      go_roundw
      case rel => exact ⟨i + 1, by go_num, by (rw [HC.out]) <;> exact str_app _ _, (show Hid _ from HLT.out), ⟨_, e.h.trans (HX1.out.trans H5.out)⟩, rfl⟩
      case measure => have := HLT.out; simp [intOf]; omega
    · obtain rfl : i = k := by have := hi.out; omega
      have tc : decide (i < i) = false := by simp
      generalize catL L i = X at *
      go_wp2_with fail
      go_ret
      exact Ret.mk (by rw [HBY.out]; rfl) ((HE.out.trans H1.out).trans e.h)
end Go.Proofs.YtblfmokklfhklaaDoor


namespace Go.Proofs.YtblfmokklfhklaaDoor
open Go.RowKit
set_option linter.unusedVariables false
set_option linter.unusedSimpArgs false

set_option maxRecDepth 20000 in
set_option maxHeartbeats 4000000 in
theorem aRight_any (a : AV) (hw : a.wf) (hsm : a.shaped = true → a.small) (m : AA) (hmt : a.tk ≤ m.tc) (w : World) (h : AsL w anyQ a m) : Calls Tryd.prog 9 #[asbV a m] w (Ret (.bool a.right) w) := by
  have HE := hid ((Mod.refl [] w).alloc (.cells (asbC a m) 31))
  have HB0 := hid (Blk.new w 31 (asbC a m))
  have HL := hid (h.ext HE.out)
  have HWF := hid hw
  have KS : Hid (∀ W, Ext (w.alloc (.cells (asbC a m) 31)) W → Calls Tryd.prog 19 #[asbV a m] W (Ret (.bool a.shaped) W)) := hid (fun W hW => shaped_any a HWF.out m hmt W (HL.out.ext hW))
  have KB : Hid (a.shaped = true → ∀ W, Ext (w.alloc (.cells (asbC a m) 31)) W → Calls Tryd.prog 10 #[asbV a m] W (Ret (str a.bytes) W)) := hid (fun hs W hW => abuild_any a HWF.out (hsm hs) hs m W (HL.out.ext hW))
  have HR : Hid (a.right = (a.shaped && decide (a.bytes.length ≤ 4000))) := rfl
  have HBL : Hid (a.shaped = true → a.bytes.length ≤ 6000000) := hid (fun hs => by
    have h1 := catL_le (L := a.items) (B := 1000000) (fun t ht => by have := T.bytes_le t; have := (AV.items_all HWF.out (hsm hs) hs t ht).2.2; omega) a.items.length (Nat.le_refl _)
    have h2 : a.bytes = catL a.items a.items.length := by unfold AV.bytes catL; rw [List.take_length]
    have h3 := AV.items_length a
    rw [h2]; omega)
  clear hw hsm hmt h
  cases hs : a.shaped with
  | false =>
    rw [hs] at KS
    have HX : Hid (a.right = false) := hid (by rw [HR.out, hs]; rfl)
    clear hs KB HBL
    go_enter Tryd.func9, Tryd.ntmps9
    go_upto_region 1 with fail
    generalize w.alloc (.cells (asbC a m) 31) = V at *
    obtain ⟨e, he⟩ := Later.self V
    rw [he]
    clear he
    have tk1 : True := trivial
    have tk2 : True := trivial
    go_wp2_with (first | (clear tk1; refine wpList_row (by rfl) 31 _ rfl _ rfl (HB0.out.later _) Tryd.underlying31 rfl (by kernel_rfl) ?_) | (go_at_call 19; refine (Ret.later (KS.out _ (Later.h _))).mono ?_; rintro x _ ⟨rfl, e, rfl⟩))
    go_ret
    exact Ret.mk (by rw [HX.out]; rfl) (HE.out.trans e.h)
  | true =>
    rw [hs] at KS
    have KB := hid (KB.out hs)
    have hbl := HBL.out hs
    have HX : Hid (a.right = decide (a.bytes.length ≤ 4000)) := hid (by rw [HR.out, hs]; rfl)
    clear hs HBL HR
    generalize a.bytes = BB at *
    go_enter Tryd.func9, Tryd.ntmps9
    go_upto_region 1 with fail
    generalize w.alloc (.cells (asbC a m) 31) = V at *
    obtain ⟨e, he⟩ := Later.self V
    rw [he]
    clear he
    have tk1 : True := trivial
    have tk2 : True := trivial
    go_wp2_with (first | (clear tk1; refine wpList_row (by rfl) 31 _ rfl _ rfl (HB0.out.later _) Tryd.underlying31 rfl (by kernel_rfl) ?_) | (go_at_call 19; refine (Ret.later (KS.out _ (Later.h _))).mono ?_; rintro x _ ⟨rfl, e, rfl⟩) | (clear tk2; refine wpList_row (by rfl) 31 _ rfl _ rfl (HB0.out.later _) Tryd.underlying31 rfl (by kernel_rfl) ?_) | (go_at_call 10; refine (Ret.later (KB.out _ (Later.h _))).mono ?_; rintro x _ ⟨rfl, e, rfl⟩))
    go_ret
    refine Ret.mk ?_ (HE.out.trans e.h)
    rw [HX.out]
    simp
    try omega
/-- What Build hands back. -/
def abuildV (a : AV) : Value := if a.right then .tuple #[str a.bytes, .int .i64 0] else .tuple #[str [], .int .i64 1]
set_option maxRecDepth 20000 in
set_option maxHeartbeats 4000000 in
theorem aBuild_any (a : AV) (hw : a.wf) (hsm : a.shaped = true → a.small) (m : AA) (hmt : a.tk ≤ m.tc) (w : World) (h : AsL w anyQ a m) : Calls Tryd.prog 6 #[asbV a m] w (Ret (abuildV a) w) := by
  have HE := hid ((Mod.refl [] w).alloc (.cells (asbC a m) 31))
  have HB0 := hid (Blk.new w 31 (asbC a m))
  have HL := hid (h.ext HE.out)
  have HWF := hid hw
  have KS : Hid (∀ W, Ext (w.alloc (.cells (asbC a m) 31)) W → Calls Tryd.prog 9 #[asbV a m] W (Ret (.bool a.right) W)) := hid (fun W hW => aRight_any a HWF.out hsm m hmt W (HL.out.ext hW))
  have KB : Hid (a.right = true → ∀ W, Ext (w.alloc (.cells (asbC a m) 31)) W → Calls Tryd.prog 10 #[asbV a m] W (Ret (str a.bytes) W)) := hid (fun hr W hW => by
    have hs : a.shaped = true := by unfold AV.right at hr; rw [Bool.and_eq_true] at hr; exact hr.1
    exact abuild_any a HWF.out (hsm hs) hs m W (HL.out.ext hW))
  clear hw hsm hmt h
  cases hs : a.right with
  | false =>
    rw [hs] at KS
    have HX : Hid (abuildV a = .tuple #[str [], .int .i64 1]) := hid (by unfold abuildV; rw [hs]; rfl)
    clear hs KB
    go_enter Tryd.func6, Tryd.ntmps6
    go_upto_region 1 with fail
    generalize w.alloc (.cells (asbC a m) 31) = V at *
    obtain ⟨e, he⟩ := Later.self V
    rw [he]
    clear he
    have tk1 : True := trivial
    have tk2 : True := trivial
    go_wp2_with (first | (clear tk1; refine wpList_row (by rfl) 31 _ rfl _ rfl (HB0.out.later _) Tryd.underlying31 rfl (by kernel_rfl) ?_) | (go_at_call 9; refine (Ret.later (KS.out _ (Later.h _))).mono ?_; rintro x _ ⟨rfl, e, rfl⟩))
    refine bodyPost_ret (v := .tuple #[str [], .int .i64 1]) (by simp [results, Tryd.results6, go_sem]) rfl ?_
    exact Ret.mk (by rw [HX.out]) (HE.out.trans e.h)
  | true =>
    rw [hs] at KS
    have KB := hid (KB.out hs)
    have HX : Hid (abuildV a = .tuple #[str a.bytes, .int .i64 0]) := hid (by unfold abuildV; rw [hs]; rfl)
    clear hs
    generalize a.bytes = BB at *
    go_enter Tryd.func6, Tryd.ntmps6
    go_upto_region 1 with fail
    generalize w.alloc (.cells (asbC a m) 31) = V at *
    obtain ⟨e, he⟩ := Later.self V
    rw [he]
    clear he
    have tk1 : True := trivial
    have tk2 : True := trivial
    go_wp2_with (first | (clear tk1; refine wpList_row (by rfl) 31 _ rfl _ rfl (HB0.out.later _) Tryd.underlying31 rfl (by kernel_rfl) ?_) | (go_at_call 9; refine (Ret.later (KS.out _ (Later.h _))).mono ?_; rintro x _ ⟨rfl, e, rfl⟩) | (clear tk2; refine wpList_row (by rfl) 31 _ rfl _ rfl (HB0.out.later _) Tryd.underlying31 rfl (by kernel_rfl) ?_) | (go_at_call 10; refine (Ret.later (KB.out _ (Later.h _))).mono ?_; rintro x _ ⟨rfl, e, rfl⟩))
    refine bodyPost_ret (v := .tuple #[str BB, .int .i64 0]) (by simp [results, Tryd.results6, go_sem]) rfl ?_
    exact Ret.mk (by rw [HX.out]) (HE.out.trans e.h)
/-- The law's right text; its results' value is the bytes x. -/
def someP (x : List UInt8) : PL := ⟨1, fun _ => ⟨1, strT x⟩⟩
def someA (x : List UInt8) : AV := ⟨1, fun _ => 1, 1, ⟨1, [110, 111, 110, 101], 0, 0⟩, ⟨0, fun _ => ⟨0, T.nil⟩⟩, 1, fun _ => someP x⟩
theorem someA_wf {x : List UInt8} (hx : x.length < 4611686018427387904) : (someA x).wf := by
  refine ⟨⟨by show (1 : Nat) < 4611686018427387904; omega, fun i _ => by show _ ≤ (1 : Int) ∧ (1 : Int) ≤ _; omega⟩, by show _ ≤ (1 : Int) ∧ (1 : Int) ≤ _; omega, by show (4 : Nat) < 4611686018427387904; omega, ⟨by show (0 : Nat) < 4611686018427387904; omega, fun i hi => absurd hi (Nat.not_lt_zero _)⟩, by show (1 : Nat) < 4611686018427387904; omega, fun i hi => ⟨by show (1 : Nat) < 4611686018427387904; omega, fun j hj => ⟨str_ok hx, by show _ ≤ (1 : Int) ∧ (1 : Int) ≤ _; omega⟩⟩⟩
theorem someA_small {x : List UInt8} (hx : x.length ≤ 50000) : (someA x).small := by
  refine ⟨by show (1 : Nat) ≤ 100000; omega, ?_⟩
  simp [someA, someP, rsT, plT, pairT, listT, strT, numT, T.size, T.sum]
  omega
theorem someA_shaped {x : List UInt8} : (someA x).shaped = true := by
  simp [AV.shaped, someA, someP, unlikeB, codedB, T.all, resB, pairsB, valB, strT, T.kind, T.right, T.node]
  decide
theorem some_any15 (w : World) : Calls Tryd.prog 5 #[] w (fun e w' => ∃ m, e = .returned (asbV (someA [116]) m) ∧ Ext w w' ∧ AsL w' (fun b => w.heap.size ≤ b) (someA [116]) m ∧ 1 ≤ m.tc) := by
  go_enter Tryd.func5, Tryd.ntmps5
  go_wp2_with fail
  have HE := hid (((((Mod.refl [] w).alloc (.cells #[.slice (some ⟨w.heap.size + 1, 0, none⟩) 1 1, .int .i64 1, .int .i64 1, str [110, 111, 110, 101], .int .u64 0, .int .u64 0, .slice none 0 0, .slice (some ⟨w.heap.size + 1 + 1 + 1, 0, none⟩) 1 1] 31)).alloc (.cells #[.int .i64 1] 3)).alloc (.cells #[.int .i64 1, .int .i64 2, .int .u64 0, str [116], .slice none 0 0, .bool false] 38)).alloc (.cells #[.slice (some ⟨w.heap.size + 1 + 1, 0, none⟩) 1 1] 28))
  have HB0 : Hid (Blk ((((w.alloc (.cells #[.slice (some ⟨w.heap.size + 1, 0, none⟩) 1 1, .int .i64 1, .int .i64 1, str [110, 111, 110, 101], .int .u64 0, .int .u64 0, .slice none 0 0, .slice (some ⟨w.heap.size + 1 + 1 + 1, 0, none⟩) 1 1] 31)).alloc (.cells #[.int .i64 1] 3)).alloc (.cells #[.int .i64 1, .int .i64 2, .int .u64 0, str [116], .slice none 0 0, .bool false] 38)).alloc (.cells #[.slice (some ⟨w.heap.size + 1 + 1, 0, none⟩) 1 1] 28)) w.heap.size 31 #[.slice (some ⟨w.heap.size + 1, 0, none⟩) 1 1, .int .i64 1, .int .i64 1, str [110, 111, 110, 101], .int .u64 0, .int .u64 0, .slice none 0 0, .slice (some ⟨w.heap.size + 1 + 1 + 1, 0, none⟩) 1 1]) := hid ((((Blk.new w 31 #[.slice (some ⟨w.heap.size + 1, 0, none⟩) 1 1, .int .i64 1, .int .i64 1, str [110, 111, 110, 101], .int .u64 0, .int .u64 0, .slice none 0 0, .slice (some ⟨w.heap.size + 1 + 1 + 1, 0, none⟩) 1 1]).alloc (.cells #[.int .i64 1] 3)).alloc (.cells #[.int .i64 1, .int .i64 2, .int .u64 0, str [116], .slice none 0 0, .bool false] 38)).alloc (.cells #[.slice (some ⟨w.heap.size + 1 + 1, 0, none⟩) 1 1] 28))
  have HB1 : Hid (Blk ((((w.alloc (.cells #[.slice (some ⟨w.heap.size + 1, 0, none⟩) 1 1, .int .i64 1, .int .i64 1, str [110, 111, 110, 101], .int .u64 0, .int .u64 0, .slice none 0 0, .slice (some ⟨w.heap.size + 1 + 1 + 1, 0, none⟩) 1 1] 31)).alloc (.cells #[.int .i64 1] 3)).alloc (.cells #[.int .i64 1, .int .i64 2, .int .u64 0, str [116], .slice none 0 0, .bool false] 38)).alloc (.cells #[.slice (some ⟨w.heap.size + 1 + 1, 0, none⟩) 1 1] 28)) (w.heap.size + 1) 3 #[.int .i64 1]) := by unfold Hid; have := (Blk.newL (N := (w.heap.size + 1)) (w.alloc (.cells #[.slice (some ⟨w.heap.size + 1, 0, none⟩) 1 1, .int .i64 1, .int .i64 1, str [110, 111, 110, 101], .int .u64 0, .int .u64 0, .slice none 0 0, .slice (some ⟨w.heap.size + 1 + 1 + 1, 0, none⟩) 1 1] 31)) 3 #[.int .i64 1] (by simp)); exact ((this.alloc (.cells #[.int .i64 1, .int .i64 2, .int .u64 0, str [116], .slice none 0 0, .bool false] 38)).alloc (.cells #[.slice (some ⟨w.heap.size + 1 + 1, 0, none⟩) 1 1] 28))
  have HB2 : Hid (Blk ((((w.alloc (.cells #[.slice (some ⟨w.heap.size + 1, 0, none⟩) 1 1, .int .i64 1, .int .i64 1, str [110, 111, 110, 101], .int .u64 0, .int .u64 0, .slice none 0 0, .slice (some ⟨w.heap.size + 1 + 1 + 1, 0, none⟩) 1 1] 31)).alloc (.cells #[.int .i64 1] 3)).alloc (.cells #[.int .i64 1, .int .i64 2, .int .u64 0, str [116], .slice none 0 0, .bool false] 38)).alloc (.cells #[.slice (some ⟨w.heap.size + 1 + 1, 0, none⟩) 1 1] 28)) (w.heap.size + 1 + 1) 38 #[.int .i64 1, .int .i64 2, .int .u64 0, str [116], .slice none 0 0, .bool false]) := by unfold Hid; have := (Blk.newL (N := (w.heap.size + 1 + 1)) ((w.alloc (.cells #[.slice (some ⟨w.heap.size + 1, 0, none⟩) 1 1, .int .i64 1, .int .i64 1, str [110, 111, 110, 101], .int .u64 0, .int .u64 0, .slice none 0 0, .slice (some ⟨w.heap.size + 1 + 1 + 1, 0, none⟩) 1 1] 31)).alloc (.cells #[.int .i64 1] 3)) 38 #[.int .i64 1, .int .i64 2, .int .u64 0, str [116], .slice none 0 0, .bool false] (by simp)); exact (this.alloc (.cells #[.slice (some ⟨w.heap.size + 1 + 1, 0, none⟩) 1 1] 28))
  have HB3 : Hid (Blk ((((w.alloc (.cells #[.slice (some ⟨w.heap.size + 1, 0, none⟩) 1 1, .int .i64 1, .int .i64 1, str [110, 111, 110, 101], .int .u64 0, .int .u64 0, .slice none 0 0, .slice (some ⟨w.heap.size + 1 + 1 + 1, 0, none⟩) 1 1] 31)).alloc (.cells #[.int .i64 1] 3)).alloc (.cells #[.int .i64 1, .int .i64 2, .int .u64 0, str [116], .slice none 0 0, .bool false] 38)).alloc (.cells #[.slice (some ⟨w.heap.size + 1 + 1, 0, none⟩) 1 1] 28)) (w.heap.size + 1 + 1 + 1) 28 #[.slice (some ⟨w.heap.size + 1 + 1, 0, none⟩) 1 1]) := by unfold Hid; exact Blk.newL _ _ _ (by simp)
  show bodyPost _ _ _ _ _ ((((w.alloc (.cells #[.slice (some ⟨w.heap.size + 1, 0, none⟩) 1 1, .int .i64 1, .int .i64 1, str [110, 111, 110, 101], .int .u64 0, .int .u64 0, .slice none 0 0, .slice (some ⟨w.heap.size + 1 + 1 + 1, 0, none⟩) 1 1] 31)).alloc (.cells #[.int .i64 1] 3)).alloc (.cells #[.int .i64 1, .int .i64 2, .int .u64 0, str [116], .slice none 0 0, .bool false] 38)).alloc (.cells #[.slice (some ⟨w.heap.size + 1 + 1, 0, none⟩) 1 1] 28))
  generalize ((((w.alloc (.cells #[.slice (some ⟨w.heap.size + 1, 0, none⟩) 1 1, .int .i64 1, .int .i64 1, str [110, 111, 110, 101], .int .u64 0, .int .u64 0, .slice none 0 0, .slice (some ⟨w.heap.size + 1 + 1 + 1, 0, none⟩) 1 1] 31)).alloc (.cells #[.int .i64 1] 3)).alloc (.cells #[.int .i64 1, .int .i64 2, .int .u64 0, str [116], .slice none 0 0, .bool false] 38)).alloc (.cells #[.slice (some ⟨w.heap.size + 1 + 1, 0, none⟩) 1 1] 28)) = V at *
  refine bodyPost_ret (results_cell rfl _ (by rfl) HB0.out Tryd.underlying31 rfl (by kernel_rfl)) rfl ⟨⟨some ⟨w.heap.size + 1, 0, none⟩, 1, none, 0, some ⟨w.heap.size + 1 + 1 + 1, 0, none⟩, 1⟩, rfl, HE.out, ⟨?_, ?_, ?_, ?_⟩, Nat.le_refl _⟩
  · intro _
    exact ⟨w.heap.size + 1, 0, rfl, HB1.out.lt, fun i hi => by
      have hi : i = 0 := by have : i < 1 := hi; omega
      subst hi; exact HB1.out.cell 0⟩
  · intro b o h _
    cases h
    show w.heap.size ≤ w.heap.size + 1
    omega
  · intro h0; exact absurd h0 (Nat.not_lt_zero _)
  · intro _
    refine ⟨w.heap.size + 1 + 1 + 1, 0, rfl, HB3.out.lt, by show w.heap.size ≤ w.heap.size + 1 + 1 + 1; omega, fun i hi => ?_⟩
    have hi : i = 0 := by have : i < 1 := hi; omega
    subst hi
    refine ⟨some ⟨w.heap.size + 1 + 1, 0, none⟩, 1, HB3.out.cell 0, Nat.le_refl _, fun _ => ⟨w.heap.size + 1 + 1, 0, rfl, HB2.out.lt, by show w.heap.size ≤ w.heap.size + 1 + 1; omega, fun j hj => ?_⟩⟩
    have hj : j = 0 := by have : j < 1 := hj; omega
    subst hj
    exact ⟨none, 0, ⟨HB2.out.cell 0, HB2.out.cell 1, HB2.out.cell 2, HB2.out.cell 3, HB2.out.cell 4, HB2.out.cell 5⟩, IsL.leaf⟩
theorem someA_bytes : abuildV (someA [116]) = .tuple #[str [129, 1, 1, 0, 130, 1, 0, 129, 129, 130, 1, 65, 116], .int .i64 0] := by
  have h : (someA [116]).bytes = [129, 1, 1, 0, 130, 1, 0, 129, 129, 130, 1, 65, 116] := by decide +kernel
  unfold abuildV AV.right
  rw [someA_shaped, h]
  rfl
set_option maxRecDepth 20000 in
theorem awake15_any (w : World) : Calls Tryd.prog 4 #[] w (Ret (.bool true) w) := by
  have K1 := hid (fun W => some_any15 W)
  have K2 := hid (fun (m : AA) (hm : 1 ≤ m.tc) (Q : Nat → Prop) W (h : AsL W Q (someA [116]) m) => someA_bytes ▸ aBuild_any (someA [116]) (someA_wf (by decide)) (fun _ => someA_small (by decide)) m hm W ⟨h.t, fun _ _ _ _ => trivial, h.p.weak (fun _ _ _ => trivial), h.r.weak (fun _ _ _ => trivial)⟩)
  go_enter Tryd.func4, Tryd.ntmps4
  go_wp2_with (first | (go_at_call 5; refine (K1.out _).mono ?_; rintro x w1 ⟨m, rfl, hb1, hl1, hm⟩; have H1 := hid hb1; have HL1 := hid hl1; have HM := hid hm; clear hb1 hl1 hm) | (go_at_call 6; refine (K2.out m HM.out _ _ HL1.out).mono ?_; rintro x w2 ⟨rfl, hb2⟩; have H2 := hid hb2; clear hb2))
  go_ret
  exact Ret.mk rfl (H1.out.trans H2.out)
end Go.Proofs.YtblfmokklfhklaaDoor


namespace Go.Proofs.YtblfmokklfhklaaDoor
open Go.RowKit
set_option linter.unusedVariables false
set_option linter.unusedSimpArgs false

/-- The variable errForm holds a pointer to an error's text. -/
def FormV (eb : Addr) : Value := .iface 139 (.pointer (some eb))
def FormAt (w : World) (eb : Addr) : Prop := w.cell? ⟨0, 0, none⟩ = some (FormV eb) ∧ 0 < w.heap.size
theorem FormAt.mod {w w' : World} {eb : Addr} {S : List Nat} (h : FormAt w eb) (hm : Mod S w w') (h1 : 0 ∉ S) : FormAt w' eb :=
  ⟨(hm.cell h.2 h1).trans h.1, Nat.lt_of_lt_of_le h.2 hm.size⟩
theorem FormAt.ext {w w' : World} {eb : Addr} (h : FormAt w eb) (hm : Ext w w') : FormAt w' eb := h.mod hm (by simp)
/-- Errors: what was being read, outermost first. -/
def errV (eb : Addr) : List (List UInt8) → Value
  | [] => FormV eb
  | s :: l => .iface 100 (.agg #[str s, errV eb l])
set_option maxRecDepth 20000 in
theorem wrong_any (s : List UInt8) (eb : Addr) (w : World) (h : FormAt w eb) : Calls Tryd.prog 26 #[str s] w (Ret (errV eb [s]) w) := by
  have h0 : w.cell? ⟨0, 0, none⟩ = some (.iface 139 (.pointer (some eb))) := h.1
  clear h
  go_enter Tryd.func26, Tryd.ntmps26
  go_wp2_with fail
  go_ret
  exact Ret.mk rfl (Mod.refl _ _)
/-- A number's answer. -/
def numErr (t : T) (eb : Addr) : Value := if t.kind = 0 then .tuple #[.int .i64 (min (t.n : Int) 65536), .nilIface] else .tuple #[.int .i64 0, errV eb [[110, 117, 109, 98, 101, 114]]]
set_option maxRecDepth 20000 in
theorem anum_any (t : T) (A : Option Addr) (c : Nat) (eb : Addr) (w : World) (h : FormAt w eb) : Calls Tryd.prog 28 #[itemV t A c] w (Ret (numErr t eb) w) := by
  have HE := hid ((Mod.refl [] w).alloc (.cells (itemC t A c) 36))
  have HB := hid (Blk.new w 36 (itemC t A c))
  have KW : Hid (∀ W, FormAt W eb → Calls Tryd.prog 26 #[str [110, 117, 109, 98, 101, 114]] W (Ret (errV eb [[110, 117, 109, 98, 101, 114]]) W)) := hid (fun W hW => wrong_any _ eb W hW)
  have HF := hid (h.ext HE.out)
  clear h
  have c0 : (w.alloc (.cells (itemC t A c) 36)).cell? ⟨w.heap.size, 0, none⟩ = some (.int .i64 t.kind) := HB.out.cell 0
  have c1 : (w.alloc (.cells (itemC t A c) 36)).cell? ⟨w.heap.size, 1, none⟩ = some (.int .u64 (t.n : Int)) := HB.out.cell 1
  by_cases hk : t.kind = 0
  · have HP : Hid (numErr t eb = .tuple #[.int .i64 (min (t.n : Int) 65536), .nilIface]) := hid (if_pos hk)
    have t1a : ((t.kind) == (0)) = true := by rw [beq_iff_eq]; exact hk
    have t1b : ((t.kind) = (0)) = True := eq_true hk
    have t1c : ((t.kind) != (0)) = false := by rw [bne_eq_false_iff_eq]; exact hk
    clear hk
    go_enter Tryd.func28, Tryd.ntmps28
    go_wp2_with fail
    all_goals go_ret2
    all_goals exact Ret.mk (by rw [HP.out]; first | rfl | (rw [show min (t.n : Int) 65536 = 65536 by omega]; rfl) | (rw [show min (t.n : Int) 65536 = (t.n : Int) by omega]; rfl)) HE.out
  · have HP : Hid (numErr t eb = .tuple #[.int .i64 0, errV eb [[110, 117, 109, 98, 101, 114]]]) := hid (if_neg hk)
    have t1a : ((t.kind) == (0)) = false := by rw [beq_eq_false_iff_ne]; exact hk
    have t1b : ((t.kind) = (0)) = False := eq_false hk
    have t1c : ((t.kind) != (0)) = true := by rw [bne_iff_ne]; exact hk
    clear hk
    go_enter Tryd.func28, Tryd.ntmps28
    go_wp2_with (go_at_call 26; refine (KW.out _ HF.out).mono ?_; rintro x w1 ⟨rfl, hb⟩; have HX := hid hb; clear hb)
    go_ret2
    exact Ret.mk (by rw [HP.out]; rfl) (HE.out.trans HX.out)
end Go.Proofs.YtblfmokklfhklaaDoor


namespace Go.Proofs.YtblfmokklfhklaaDoor
open Go.RowKit
set_option linter.unusedVariables false
set_option linter.unusedSimpArgs false

theorem kidsA {W : World} {Q : Nat → Prop} {t : T} {A : Option Addr} (h : IsL W Q t A) {i : Nat} (hi : i < t.k) : ∃ (b o : Nat) (Ai : Option Addr) (ci : Nat), A = some ⟨b, o, none⟩ ∧ b < W.heap.size ∧ Q b ∧ At5 W b (o + i * 5) (t.ch i) Ai ci ∧ IsL W Q (t.ch i) Ai := by
  cases t with
  | nil => exact absurd hi (Nat.not_lt_zero _)
  | mk kd n s op k ch =>
    obtain ⟨b, o, hA, hb, hq, hc⟩ := h (by have hi : i < k := hi; omega)
    obtain ⟨Ai, ci, h1, h2⟩ := hc i hi
    exact ⟨b, o, Ai, ci, hA, hb, hq, h1, h2⟩
def numK (t : T) (i : Nat) : Bool := decide ((t.ch i).kind = 0)
def tgtN (t : T) (i : Nat) : Int := min ((t.ch i).n : Int) 65536
set_option maxRecDepth 20000 in
set_option maxHeartbeats 4000000 in
theorem areadT_any (t : T) (hk : t.k ≤ 1000) (A : Option Addr) (c : Nat) (eb : Addr) (w : World) (hf : FormAt w eb) (h : IsL w (fun _ => True) t A) : Calls Tryd.prog 27 #[itemV t A c] w (fun e w' => (T.all (numK t) t.k = false ∧ e = .returned (.tuple #[.slice none 0 0, errV eb [[116, 97, 114, 103, 101, 116, 115], [110, 117, 109, 98, 101, 114]]]) ∧ Ext w w') ∨ (T.all (numK t) t.k = true ∧ ∃ A' c', e = .returned (.tuple #[.slice A' t.k c', .nilIface]) ∧ Ext w w' ∧ w'.ownsRow w.heap.size 3 1 (.slice A' t.k c') t.k (flatG (numsF (tgtN t)) t.k))) := by
  have HK := hid hk
  have k0 : (t.k : Int) ≤ 1000 := by omega
  have HE := hid ((Mod.refl [] w).alloc (.cells (itemC t A c) 36))
  have HB := hid (Blk.new w 36 (itemC t A c))
  have HL := hid h
  have HF := hid hf
  have HSW : Hid (w.heap.size < (w.alloc (.cells (itemC t A c) 36)).heap.size) := hid HB.out.lt
  clear h hf hk
  go_enter Tryd.func27, Tryd.ntmps27
  go_upto_region 1 with fail
  generalize w.alloc (.cells (itemC t A c) 36) = V at *
  have z3 : V.cell? ⟨w.heap.size, 3, none⟩ = some (.slice A t.k c) := HB.out.cell 3
  go_wp2_with fail
  clear z3
  have HW0 := HE
  obtain ⟨k, hkk⟩ : ∃ k, t.k = k := ⟨_, rfl⟩
  have HKK := hid hkk
  rw [hkk] at k0 ⊢
  clear hkk
  go_loopw [4, 12] (fun s4 s12 wr => ∃ (i : Nat) (A' : Option Addr) (c' : Nat), s12 = .int .i64 (i : Int) ∧ s4 = .slice A' i c' ∧ Hid (i ≤ k ∧ Ext w wr ∧ wr.ownsRow w.heap.size 3 1 (.slice A' i c') i (flatG (numsF (tgtN t)) i) ∧ T.all (numK t) i = true)) (fun _ s12 _ => k - (intOf s12).toNat)
  case atStart => exact ⟨0, none, 0, rfl, rfl, (show Hid _ from ⟨Nat.zero_le _, HW0.out, World.ownsRow_nil _ _ _ _, rfl⟩)⟩
  case round =>
    clear HW0
    obtain ⟨i, A', c', rfl, rfl, hS⟩ := hrel
    rename World => wr
    have i0 : (0 : Int) ≤ (i : Int) := by omega
    by_cases hlt : i < k
    · obtain ⟨b, o, Ai, ci, rfl, hb, _, hat, hI⟩ := kidsA (HL.out.ext hS.out.2.1) (i := i) (by rw [HKK.out]; exact hlt)
      obtain ⟨q0, q1, q2, q3, q4⟩ := hat
      have tc : decide (i < k) = true := by simp [hlt]
      have i1 : (i : Int) < (k : Int) := by omega
      have HLT := hid hlt
      clear hlt hI hb
      go_upto_region 5 with fail
      generalize hW1 : World.alloc wr _ = W1
      have HG1 : Hid (Blk W1 wr.heap.size 36 (itemC (t.ch i) Ai ci)) := hid (by rw [← hW1]; exact Blk.new _ _ _)
      have hS1 : Hid (i ≤ k ∧ Ext w W1 ∧ W1.ownsRow w.heap.size 3 1 (.slice A' i c') i (flatG (numsF (tgtN t)) i) ∧ T.all (numK t) i = true) := hid (by
        have h := hS.out
        rw [← hW1]; exact ⟨h.1, h.2.1.alloc _, h.2.2.1.alloc _, h.2.2.2⟩)
      clear hW1 hS q0 q1 q2 q3 q4
      generalize wr.heap.size = G at *
      have HGL : Hid (∀ e : Later W1, Blk e.x G 36 (itemC (t.ch i) Ai ci)) := hid (fun e => HG1.out.later e)
      have KN := hid (fun e : Later W1 => anum_any (t.ch i) Ai ci eb e.x (HF.out.ext (hS1.out.2.1.trans e.h)))
      obtain ⟨e, he⟩ := Later.self W1
      rw [he]
      clear he
      have tk1 : True := trivial
      by_cases hkd : (t.ch i).kind = 0
      case neg =>
        have KN : Hid (∀ e : Later W1, Calls Tryd.prog 28 #[itemV (t.ch i) Ai ci] e.x (Ret (.tuple #[.int .i64 0, .iface 100 (.agg #[str [110, 117, 109, 98, 101, 114], FormV eb])]) e.x)) := hid (fun e => by have h := KN.out e; unfold numErr at h; rw [if_neg hkd] at h; exact h)
        have HN : Hid (T.all (numK t) k = false) := hid (all_no HLT.out (show numK t i = false from decide_eq_false hkd))
        clear hkd
        go_wp2_with (first | (clear tk1; refine wpList_row (by rfl) 36 _ rfl _ rfl (HGL.out _) Tryd.underlying36 rfl (by kernel_rfl) ?_) | (go_at_call 28; refine (Ret.later (KN.out _)).mono ?_; rintro x _ ⟨rfl, e, rfl⟩))
        go_ret2
        rw [HKK.out]
        exact .inl ⟨HN.out, rfl, hS1.out.2.1.trans e.h⟩
      have KN : Hid (∀ e : Later W1, Calls Tryd.prog 28 #[itemV (t.ch i) Ai ci] e.x (Ret (.tuple #[.int .i64 (tgtN t i), .nilIface]) e.x)) := hid (fun e => by have h := KN.out e; unfold numErr at h; rw [if_pos hkd] at h; exact h)
      have HY : Hid (numK t i = true) := hid (decide_eq_true hkd)
      obtain ⟨ib, hi, hz0, hz1, hz2⟩ := info_parts infoInt
      have HOWN : Hid (∀ e : Later W1, e.x.ownsRow w.heap.size 3 1 (.slice A' i c') i (flatG (numsF (tgtN t)) i)) := hid (fun e => ownsRow_mod hS1.out.2.2.1 e.h (fun _ _ => by simp))
      have HSZ1 : Hid (w.heap.size ≤ W1.heap.size) := hid hS1.out.2.1.size
      clear hkd
      go_wp2_with (first | (clear tk1; refine wpList_row (by rfl) 36 _ rfl _ rfl (HGL.out _) Tryd.underlying36 rfl (by kernel_rfl) ?_) | (go_at_call 28; refine (Ret.later (KN.out _)).mono ?_; rintro x _ ⟨rfl, e, rfl⟩) | (at_builtin; refine wpList_append_own _ rfl _ _ 24 rfl w.heap.size 3 ib _ 1 8 Tryd.underlying24 hi hz0 hz1 hz2 rfl (by decide) _ _ _ rfl ((HOWN.out e).alloc _) ⟨e.x.heap.size, 0, none⟩ 1 1 [.int .i64 (tgtN t i)] rfl rfl (fun j u hu => by (match j, hu with | 0, hu => (simp at hu; subst hu; rw [addr_add]; exact (Blk.new _ _ _).cell 0))) (by simp [Value.oneCell']) (by have := HLT.out; have := HK.out; have := HKK.out; simp [maxLen]; omega) (by have := HLT.out; have := HK.out; have := HKK.out; omega) (by have := HSZ1.out; have := e.h.size; simp; omega) ?_; intro v' w4 hown' hgrow _; obtain ⟨g', c4, rfl, hg', hlt'⟩ := own_form hown'; have hE4 := own_turned ((HOWN.out e).alloc _) ((hS1.out.2.1.trans e.h).alloc _) hgrow (Nat.le_refl _); have HO4 := hid hown'; have HE4 := hid hE4; clear hown' hgrow hE4 hg' hlt'))
      go_roundw
      case rel => exact ⟨i + 1, some ⟨g', 0, none⟩, c4, by go_num, rfl, (show Hid _ from ⟨HLT.out, HE4.out, by simpa [flatG] using HO4.out, by rw [T.all, hS1.out.2.2.2, HY.out]; rfl⟩)⟩
      case measure => have := HLT.out; simp [intOf]; omega
    · obtain rfl : i = k := by have := hS.out.1; omega
      have tc : decide (i < i) = false := by simp
      have HFIN := hid hS.out
      clear hS
      go_wp2_with fail
      go_ret2
      rw [HKK.out]
      exact .inr ⟨HFIN.out.2.2.2, A', c', rfl, HFIN.out.2.1, HFIN.out.2.2.1⟩
end Go.Proofs.YtblfmokklfhklaaDoor


namespace Go.Proofs.YtblfmokklfhklaaDoor
open Go.RowKit
set_option linter.unusedVariables false
set_option linter.unusedSimpArgs false

/-- Elements: their cells, and what hangs on them. -/
structure Hng where
  X : Type
  z : Nat
  hz : 0 < z
  cells : X → Option Addr × Nat → List Value
  len : ∀ x a, (cells x a).length = z
  hang : World → (Nat → Prop) → X → Option Addr × Nat → Prop
  mod : ∀ {S : List Nat} {W W' : World} {Q : Nat → Prop} {x : X} {a : Option Addr × Nat}, Mod S W W' → (∀ k, Q k → k < W.heap.size → k ∉ S) → hang W Q x a → hang W' Q x a
  weak : ∀ {W : World} {Q R : Nat → Prop} {x : X} {a : Option Addr × Nat}, (∀ k, k < W.heap.size → Q k → R k) → hang W Q x a → hang W R x a
structure RwG (h : Hng) (e : TypeId) (W : World) (Q : Nat → Prop) (base : Nat) (A : Option Addr) (c n : Nat) (f : Nat → h.X) (ac : Nat → Option Addr × Nat) : Prop where
  own : W.ownsRow base e h.z (.slice A n c) n (flatG (fun j => h.cells (f j) (ac j)) n)
  kid : ∀ j, j < n → h.hang W (fun b => Q b ∧ offA A b) (f j) (ac j)
section
variable {h : Hng} {e : TypeId} {W W' : World} {Q : Nat → Prop} {base c n : Nat} {A : Option Addr} {f : Nat → h.X} {ac : Nat → Option Addr × Nat}
theorem RwG.nil : RwG h e W Q base none 0 0 f ac := ⟨World.ownsRow_nil _ _ _ _, fun j hj => by omega⟩
theorem RwG.modQ {S : List Nat} (r : RwG h e W Q base A c n f ac) (hm : Mod S W W') (ho : ∀ g, A = some g → g.block ∉ S) (hs : ∀ k, Q k → k < W.heap.size → k ∉ S) : RwG h e W' Q base A c n f ac :=
  ⟨ownsRow_mod r.own hm (fun k hk => by
    cases A with
    | none => cases hk
    | some g =>
      have : g.block = k := by simpa [Value.ownBlock] using hk
      rw [← this]; exact ho g rfl), fun j hj => h.mod hm (fun k hk hlt => hs k hk.1 hlt) (r.kid j hj)⟩
theorem RwG.ext (r : RwG h e W Q base A c n f ac) (hm : Ext W W') : RwG h e W' Q base A c n f ac := r.modQ hm (by simp) (by simp)
theorem RwG.weak {R : Nat → Prop} (r : RwG h e W Q base A c n f ac) (hq : ∀ k, k < W.heap.size → Q k → R k) : RwG h e W R base A c n f ac :=
  ⟨r.own, fun j hj => h.weak (fun b hb hh => ⟨hq b hb hh.1, hh.2⟩) (r.kid j hj)⟩
theorem RwG.off (r : RwG h e W Q base A c n f ac) : ∀ g, A = some g → base ≤ g.block ∧ g.block < W.heap.size := fun g hg => r.own.lt g.block (by subst hg; rfl)
theorem RwG.cap (r : RwG h e W Q base A c n f ac) : n ≤ c := own_cap r.own
theorem RwG.append (r : RwG h e W Q base A c n f ac) {t : h.X} {at_ : Option Addr × Nat} (hI : h.hang W (fun b => Q b ∧ offA A b) t at_) (ht : f n = t) {g cap : Nat}
    (hown : W'.ownsRow base e h.z (.slice (some ⟨g, 0, none⟩) (n + 1) cap) (n + 1) (flatG (fun j => h.cells (f j) (ac j)) n ++ h.cells t at_))
    (hgr : W.grownBy W' (Value.slice A n c).ownBlock) (hat : (Value.slice A n c).ownBlock = some g ∨ g = W.heap.size) : ∃ ac', RwG h e W' Q base (some ⟨g, 0, none⟩) cap (n + 1) f ac' := by
  subst ht
  have hm : Mod (obs A) W W' := grown_obs hgr
  have key : ∀ {x : h.X} {a : Option Addr × Nat}, h.hang W (fun b => Q b ∧ offA A b) x a → h.hang W' (fun b => Q b ∧ offA (some ⟨g, 0, none⟩) b) x a := by
    intro x a hx
    have h1 := h.weak (R := fun b => (Q b ∧ offA A b) ∧ b ≠ g) (fun b hb hq => ⟨hq, by
      rcases hat with hat | hat
      · cases A with
        | none => cases hat
        | some a =>
          have : a.block = g := by simpa [Value.ownBlock] using hat
          rw [← this]; exact hq.2 a rfl
      · omega⟩) hx
    have h2 := h.mod hm (fun k hk _ => offA_obs hk.1.2) h1
    exact h.weak (fun b _ hq => ⟨hq.1.1, fun g' hg' => by cases hg'; exact hq.2⟩) h2
  refine ⟨fun j => if j = n then at_ else ac j, ?_, fun j hj => ?_⟩
  · rw [flatG, flatG_congr (g := fun j => h.cells (f j) (ac j)) (fun j hj => by show h.cells (f j) (if j = n then at_ else ac j) = _; rw [if_neg (by omega)])]
    simpa using hown
  · by_cases e : j = n
    · subst e
      simpa using key hI
    · simpa [e] using key (r.kid j (by omega))
/-- Its cells. -/
theorem RwG.rows (r : RwG h e W Q base A c n f ac) (h0 : 0 < n) : ∃ g, A = some ⟨g, 0, none⟩ ∧ base ≤ g ∧ g < W.heap.size ∧ ∀ i, i < n → ∀ k u, (h.cells (f i) (ac i))[k]? = some u → W.cell? ⟨g, 0 + i * h.z + k, none⟩ = some u := by
  obtain ⟨m, rfl⟩ : ∃ m, n = m + 1 := ⟨n - 1, by omega⟩
  obtain ⟨g, c', hv, hb, hlt⟩ := own_form r.own
  simp only [Value.slice.injEq] at hv
  obtain ⟨rfl, _, rfl⟩ := hv
  refine ⟨g, rfl, hb, hlt, fun i hi k u hk => ?_⟩
  have hkz : k < h.z := by have := (List.getElem?_eq_some_iff.1 hk).1; rw [h.len] at this; exact this
  have := flatG_own (fun j => h.len (f j) (ac j)) r.own hi hkz hk
  rw [Nat.zero_add]; exact this
end
end Go.Proofs.YtblfmokklfhklaaDoor


namespace Go.Proofs.YtblfmokklfhklaaDoor
open Go.RowKit
set_option linter.unusedVariables false
set_option linter.unusedSimpArgs false

def pairH : Hng := { X := PR, z := 6, hz := by decide, cells := fun p a => [.int .i64 p.id, .int .i64 p.t.kind, .int .u64 (p.t.n : Int), str p.t.s, .slice a.1 p.t.k a.2, .bool p.t.op], len := fun _ _ => rfl, hang := fun W Q p a => IsL W Q p.t a.1, mod := fun hm hs h => IsL.mod hm hs _ h, weak := fun hq h => IsL.weak hq _ h }
def resH : Hng := { X := PL, z := 1, hz := by decide, cells := fun p a => [.slice a.1 p.k a.2], len := fun _ _ => rfl, hang := fun W Q p a => PsL W Q a.1 p ∧ p.k ≤ a.2, mod := fun hm hs h => ⟨h.1.mod hm hs, h.2⟩, weak := fun hq h => ⟨h.1.weak hq, h.2⟩ }
def intH : Hng := { X := Int, z := 1, hz := by decide, cells := fun n _ => [.int .i64 n], len := fun _ _ => rfl, hang := fun _ _ _ _ => True, mod := fun _ _ h => h, weak := fun _ h => h }
def itemH : Hng := { X := T, z := 5, hz := by decide, cells := fun t a => [.int .i64 t.kind, .int .u64 (t.n : Int), str t.s, .slice a.1 t.k a.2, .bool t.op], len := fun _ _ => rfl, hang := fun W Q t a => IsL W Q t a.1, mod := fun hm hs h => IsL.mod hm hs _ h, weak := fun hq h => IsL.weak hq _ h }
/-- No cell of the block is a string's. -/
def softB (w : World) (b : Nat) : Prop := ∀ j, w.frozen? ⟨b, j, none⟩ = false
theorem softB.mod {S : List Nat} {w w' : World} {b : Nat} (h : softB w b) (hm : Mod S w w') (hb : b < w.heap.size) (hs : b ∉ S) : softB w' b := fun j => (hm.frozen hb hs).trans (h j)
/-- Where a row lies, its cells are no string's. -/
def softA (w : World) (Q : Nat → Prop) (A : Option Addr) : Prop := ∀ g, A = some g → Q g.block ∧ g.block < w.heap.size ∧ softB w g.block
theorem softA.mod {S : List Nat} {w w' : World} {Q : Nat → Prop} {A : Option Addr} (h : softA w Q A) (hm : Mod S w w') (hs : ∀ k, Q k → k < w.heap.size → k ∉ S) : softA w' Q A := fun g hg => by
  obtain ⟨h1, h2, h3⟩ := h g hg
  exact ⟨h1, Nat.lt_of_lt_of_le h2 hm.size, h3.mod hm h2 (hs _ h1 h2)⟩
theorem softA.weak {w : World} {Q R : Nat → Prop} {A : Option Addr} (h : softA w Q A) (hq : ∀ k, k < w.heap.size → Q k → R k) : softA w R A := fun g hg => by
  obtain ⟨h1, h2, h3⟩ := h g hg
  exact ⟨hq _ h2 h1, h2, h3⟩
theorem own_soft {w : World} {base n c size : Nat} {e : TypeId} {A : Option Addr} {xs : List Value} (h : w.ownsRow base e size (.slice A n c) n xs) : softA w (fun b => base ≤ b) A := fun g hg => by
  subst hg
  have hlt := h.lt g.block rfl
  refine ⟨hlt.1, hlt.2, fun j => ?_⟩
  rcases h.2 with ⟨h1, _⟩ | ⟨q, cap, cur, hv, hbg, hq, _⟩
  · cases h1
  · simp only [Value.slice.injEq, Option.some.injEq] at hv
    obtain ⟨rfl, _, _⟩ := hv
    exact Blk.frozen (w := w) (g := q) (t := e) (cs := cur) hq j
def resS : Hng := { X := PL, z := 1, hz := by decide, cells := fun p a => [.slice a.1 p.k a.2], len := fun _ _ => rfl, hang := fun W Q p a => (PsL W Q a.1 p ∧ p.k ≤ a.2) ∧ softA W Q a.1, mod := fun hm hs h => ⟨⟨h.1.1.mod hm hs, h.1.2⟩, h.2.mod hm hs⟩, weak := fun hq h => ⟨⟨h.1.1.weak hq, h.1.2⟩, h.2.weak hq⟩ }
/-- A row of rows of pairs that may be written. -/
def RsS (w : World) (Q : Nat → Prop) (A : Option Addr) (k : Nat) (f : Nat → PL) : Prop := 0 < k → ∃ b o, A = some ⟨b, o, none⟩ ∧ b < w.heap.size ∧ Q b ∧ ∀ i, i < k → ∃ Ai ci, w.cell? ⟨b, o + i, none⟩ = some (.slice Ai (f i).k ci) ∧ (f i).k ≤ ci ∧ PsL w Q Ai (f i) ∧ softA w Q Ai ∧ ∀ g, Ai = some g → g.block ≠ b
theorem RsS.rs {w : World} {Q : Nat → Prop} {A : Option Addr} {k : Nat} {f : Nat → PL} (h : RsS w Q A k f) : RsL w Q A k f := fun h0 => by
  obtain ⟨b, o, hA, hb, hq, hc⟩ := h h0
  refine ⟨b, o, hA, hb, hq, fun i hi => ?_⟩
  obtain ⟨Ai, ci, h1, h2, h3, _⟩ := hc i hi
  exact ⟨Ai, ci, h1, h2, h3⟩
theorem RsS.mod {S : List Nat} {Q : Nat → Prop} {w w' : World} {A : Option Addr} {k : Nat} {f : Nat → PL} (h : RsS w Q A k f) (hm : Mod S w w') (hs : ∀ k, Q k → k < w.heap.size → k ∉ S) : RsS w' Q A k f := fun h0 => by
  obtain ⟨b, o, hA, hb, hq, hc⟩ := h h0
  refine ⟨b, o, hA, Nat.lt_of_lt_of_le hb hm.size, hq, fun i hi => ?_⟩
  obtain ⟨Ai, ci, h1, h2, h3, h4, h5⟩ := hc i hi
  exact ⟨Ai, ci, (hm.cell hb (hs b hq hb)).trans h1, h2, h3.mod hm hs, h4.mod hm hs, h5⟩
theorem RsS.weak {Q R : Nat → Prop} {w : World} {A : Option Addr} {k : Nat} {f : Nat → PL} (h : RsS w Q A k f) (hq : ∀ k, k < w.heap.size → Q k → R k) : RsS w R A k f := fun h0 => by
  obtain ⟨b, o, hA, hb, hqb, hc⟩ := h h0
  refine ⟨b, o, hA, hb, hq b hb hqb, fun i hi => ?_⟩
  obtain ⟨Ai, ci, h1, h2, h3, h4, h5⟩ := hc i hi
  exact ⟨Ai, ci, h1, h2, h3.weak hq, h4.weak hq, h5⟩
section
variable {W : World} {Q : Nat → Prop} {base c n : Nat} {A : Option Addr} {ac : Nat → Option Addr × Nat}
theorem RwG.ps {f : Nat → PR} (r : RwG pairH 38 W Q base A c n f ac) (hq : ∀ b, base ≤ b → Q b) : PsL W Q A ⟨n, f⟩ := fun h0 => by
  obtain ⟨g, rfl, hb, hlt, hc⟩ := r.rows h0
  refine ⟨g, 0, rfl, hlt, hq g hb, fun i hi => ⟨(ac i).1, (ac i).2, ?_, IsL.weak (fun _ _ h => h.1) _ (r.kid i hi)⟩⟩
  exact ⟨hc i hi 0 _ rfl, hc i hi 1 _ rfl, hc i hi 2 _ rfl, hc i hi 3 _ rfl, hc i hi 4 _ rfl, hc i hi 5 _ rfl⟩
theorem RwG.rs {f : Nat → PL} (r : RwG resH 28 W Q base A c n f ac) (hq : ∀ b, base ≤ b → Q b) : RsL W Q A n f := fun h0 => by
  obtain ⟨g, rfl, hb, hlt, hc⟩ := r.rows h0
  refine ⟨g, 0, rfl, hlt, hq g hb, fun i hi => ⟨(ac i).1, (ac i).2, ?_, (r.kid i hi).2, (r.kid i hi).1.weak (fun _ _ h => h.1)⟩⟩
  have := hc i hi 0 _ rfl
  rw [show resH.z = 1 from rfl, Nat.mul_one, Nat.add_zero] at this
  exact this
theorem RwG.rss {f : Nat → PL} (r : RwG resS 28 W Q base A c n f ac) (hq : ∀ b, base ≤ b → Q b) : RsS W Q A n f := fun h0 => by
  obtain ⟨g, rfl, hb, hlt, hc⟩ := r.rows h0
  refine ⟨g, 0, rfl, hlt, hq g hb, fun i hi => ⟨(ac i).1, (ac i).2, ?_, (r.kid i hi).1.2, (r.kid i hi).1.1.weak (fun _ _ h => h.1), (r.kid i hi).2.weak (fun _ _ h => h.1), fun g' hg' => ((r.kid i hi).2 g' hg').1.2 _ rfl⟩⟩
  have := hc i hi 0 _ rfl
  rw [show resS.z = 1 from rfl, Nat.mul_one, Nat.add_zero] at this
  exact this
theorem RwG.ns {f : Nat → Int} (r : RwG intH 3 W Q base A c n f ac) : NsL W A n f ∧ ∀ b o, A = some ⟨b, o, none⟩ → base ≤ b := by
  refine ⟨fun h0 => ?_, fun b o h => (r.off _ h).1⟩
  obtain ⟨g, rfl, hb, hlt, hc⟩ := r.rows h0
  refine ⟨g, 0, rfl, hlt, fun i hi => ?_⟩
  have := hc i hi 0 _ rfl
  rw [show intH.z = 1 from rfl, Nat.mul_one, Nat.add_zero] at this
  exact this
theorem RwG.ts {f : Nat → T} (r : RwG itemH 36 W Q base A c n f ac) (hq : ∀ b, base ≤ b → Q b) (kind : Int) (m : Nat) (s : List UInt8) (op : Bool) : IsL W Q (T.mk kind m s op n f) A := fun h0 => by
  obtain ⟨g, rfl, hb, hlt, hc⟩ := r.rows h0
  refine ⟨g, 0, rfl, hlt, hq g hb, fun i hi => ⟨(ac i).1, (ac i).2, ?_, IsL.weak (fun _ _ h => h.1) _ (r.kid i hi)⟩⟩
  exact ⟨hc i hi 0 _ rfl, hc i hi 1 _ rfl, hc i hi 2 _ rfl, hc i hi 3 _ rfl, hc i hi 4 _ rfl⟩
end
end Go.Proofs.YtblfmokklfhklaaDoor


namespace Go.Proofs.YtblfmokklfhklaaDoor
open Go.RowKit
set_option linter.unusedVariables false
set_option linter.unusedSimpArgs false

theorem T.k_size {t : T} (h : t.ok) : t.k ≤ t.size := by
  cases t with
  | nil => cases h
  | mk kind n s op k ch =>
    unfold T.ok at h
    show k ≤ 1 + s.length + T.sum (fun i => (ch i).size) k
    have : ∀ j, j ≤ k → j ≤ T.sum (fun i => (ch i).size) j := by
      intro j
      induction j with
      | zero => intro _; exact Nat.zero_le _
      | succ j ih =>
        intro hj
        have h1 := ih (by omega)
        have h2 : 1 ≤ (ch j).size := by
          have := h.2.2.2.2 j (by omega)
          cases hc : ch j with
          | nil => rw [hc] at this; cases this
          | mk a b d e f g => show 1 ≤ 1 + d.length + _; omega
        rw [T.sum]; omega
    have := this k (Nat.le_refl _)
    omega
end Go.Proofs.YtblfmokklfhklaaDoor


namespace Go.Proofs.YtblfmokklfhklaaDoor
open Go.RowKit
set_option linter.unusedVariables false
set_option linter.unusedSimpArgs false

theorem infoPair : (Tryd.prog.info? 38).map (fun i => (i.zero, i.size, i.bytes)) = some (some (.agg #[.int .i64 0, .int .i64 0, .int .u64 0, .string ⟨#[]⟩, .slice none 0 0, .bool false]), 6, 72) := by kernel_rfl
end Go.Proofs.YtblfmokklfhklaaDoor


namespace Go.Proofs.YtblfmokklfhklaaDoor
open Go.RowKit
set_option linter.unusedVariables false
set_option linter.unusedSimpArgs false

def pairK (t : T) (i : Nat) : Bool := decide ((t.ch i).k = 2) && decide (((t.ch i).ch 0).kind = 0)
def pairP (t : T) (i : Nat) : PR := ⟨min (((t.ch i).ch 0).n : Int) 65536, ((t.ch i).ch 1)⟩
/-- What is wrong with the first item that is no pair. -/
def pairE (t : T) (i : Nat) : List (List UInt8) := if (t.ch i).k = 2 then [[112, 97, 105, 114], [110, 117, 109, 98, 101, 114]] else [[112, 97, 105, 114]]
def PairsPost (Q : Nat → Prop) (t : T) (eb : Addr) (w : World) (e : Ending) (w' : World) : Prop :=
  (T.all (pairK t) t.k = false ∧ ∃ l, e = .returned (.tuple #[.slice none 0 0, errV eb ([112, 97, 105, 114] :: l)]) ∧ Ext w w') ∨
  (T.all (pairK t) t.k = true ∧ ∃ A' c', e = .returned (.tuple #[.slice A' t.k c', .nilIface]) ∧ Ext w w' ∧ t.k ≤ c' ∧ PsL w' (fun b => (Q b ∧ b < w.heap.size) ∨ w.heap.size ≤ b) A' ⟨t.k, pairP t⟩)
set_option maxRecDepth 20000 in
set_option maxHeartbeats 8000000 in
theorem areadP_any {Q : Nat → Prop} (t : T) (hk : t.k ≤ 1000) (A : Option Addr) (c : Nat) (eb : Addr) (w : World) (hf : FormAt w eb) (h : IsL w Q t A) : Calls Tryd.prog 30 #[itemV t A c] w (PairsPost Q t eb w) := by
  have HK := hid hk
  have k0 : (t.k : Int) ≤ 1000 := by omega
  have HE := hid ((Mod.refl [] w).alloc (.cells (itemC t A c) 36))
  have HB := hid (Blk.new w 36 (itemC t A c))
  have HL : Hid (IsL w (fun b => Q b ∧ b < w.heap.size) t A) := hid (IsL.weak (fun b hb hq => ⟨hq, hb⟩) _ h)
  have HF := hid hf
  clear h hf hk
  go_enter Tryd.func30, Tryd.ntmps30
  go_upto_region 1 with fail
  generalize w.alloc (.cells (itemC t A c) 36) = V at *
  have z3 : V.cell? ⟨w.heap.size, 3, none⟩ = some (.slice A t.k c) := HB.out.cell 3
  go_wp2_with fail
  clear z3
  have HW0 := HE
  obtain ⟨k, hkk⟩ : ∃ k, t.k = k := ⟨_, rfl⟩
  have HKK := hid hkk
  rw [hkk] at k0
  clear hkk
  go_loopw [4, 12] (fun s4 s12 wr => ∃ (i : Nat) (A' : Option Addr) (c' : Nat) (ac : Nat → Option Addr × Nat), s12 = .int .i64 (i : Int) ∧ s4 = .slice A' i c' ∧ Hid (i ≤ k ∧ Ext w wr ∧ RwG pairH 38 wr (fun b => Q b ∧ b < w.heap.size) w.heap.size A' c' i (pairP t) ac ∧ T.all (pairK t) i = true)) (fun _ s12 _ => k - (intOf s12).toNat)
  case atStart => exact ⟨0, none, 0, fun _ => (none, 0), by first | rfl | (rw [HKK.out]), rfl, (show Hid _ from ⟨Nat.zero_le _, HW0.out, RwG.nil, rfl⟩)⟩
  case round =>
    clear HW0
    obtain ⟨i, A', c', ac, rfl, rfl, hS⟩ := hrel
    rename World => wr
    have i0 : (0 : Int) ≤ (i : Int) := by omega
    by_cases hlt : i < k
    · obtain ⟨b, o, Ai, ci, rfl, hb, _, hat, hI⟩ := kidsA (HL.out.ext hS.out.2.1) (i := i) (by rw [HKK.out]; exact hlt)
      obtain ⟨q0, q1, q2, q3, q4⟩ := hat
      have tc : decide (i < k) = true := by simp [hlt]
      have td : decide (i < t.k) = true := by rw [HKK.out]; simp [hlt]
      have i1 : (i : Int) < (k : Int) := by omega
      have i2 : (i : Int) < (t.k : Int) := by rw [HKK.out]; omega
      have HLT := hid hlt
      have HI := hid hI
      clear hlt hI hb
      go_upto_region 5 with fail
      generalize hW1 : World.alloc wr _ = W1
      have HG1 : Hid (Blk W1 wr.heap.size 36 (itemC (t.ch i) Ai ci)) := hid (by rw [← hW1]; exact Blk.new _ _ _)
      have hS1 : Hid (i ≤ k ∧ Ext w W1 ∧ RwG pairH 38 W1 (fun b => Q b ∧ b < w.heap.size) w.heap.size A' c' i (pairP t) ac ∧ T.all (pairK t) i = true) := hid (by
        have h := hS.out
        rw [← hW1]; exact ⟨h.1, h.2.1.alloc _, h.2.2.1.ext ((Mod.refl [] _).alloc _), h.2.2.2⟩)
      have HI1 : Hid (IsL W1 (fun b => Q b ∧ b < w.heap.size) (t.ch i) Ai) := hid (by rw [← hW1]; exact HI.out.ext ((Mod.refl [] _).alloc _))
      clear hW1 hS q0 q1 q2 q3 q4 HI
      generalize wr.heap.size = G at *
      have g3 : ∀ e : Later W1, e.x.cell? ⟨G, 3, none⟩ = some (.slice Ai (t.ch i).k ci) := HG1.out.cellL 3 rfl
      have KW : Hid (∀ e : Later W1, Calls Tryd.prog 26 #[str [112, 97, 105, 114]] e.x (Ret (.iface 100 (.agg #[str [112, 97, 105, 114], FormV eb])) e.x)) := hid (fun e => wrong_any [112, 97, 105, 114] eb e.x (HF.out.ext (hS1.out.2.1.trans e.h)))
      by_cases hk2 : (t.ch i).k = 2
      case neg =>
        have HN : Hid (T.all (pairK t) k = false) := hid (all_no HLT.out (show pairK t i = false by unfold pairK; rw [decide_eq_false hk2]; rfl))
        have u1a : ((((t.ch i).k : Int)) == (2)) = false := by rw [beq_eq_false_iff_ne]; omega
        have u1b : ((((t.ch i).k : Int)) = (2)) = False := eq_false (by omega)
        have u1c : ((((t.ch i).k : Int)) != (2)) = true := by rw [bne_iff_ne]; omega
        have u2a : (((t.ch i).k) == (2)) = false := by rw [beq_eq_false_iff_ne]; exact hk2
        have u2b : (((t.ch i).k) = (2)) = False := eq_false (by exact hk2)
        have u2c : (((t.ch i).k) != (2)) = true := by rw [bne_iff_ne]; exact hk2
        clear hk2
        obtain ⟨e, he⟩ := Later.self W1
        rw [he]
        clear he
        go_wp2_with (first | (go_at_call 26; refine (Ret.later (KW.out _)).mono ?_; rintro x _ ⟨rfl, e, rfl⟩))
        go_ret2
        exact .inl ⟨by rw [HKK.out]; exact HN.out, [], rfl, hS1.out.2.1.trans e.h⟩
      obtain ⟨b2, o2, A0, c0, rfl, hb2, hq2, hat0, hI0⟩ := kidsA HI1.out (i := 0) (by omega)
      obtain ⟨b3, o3, A1, c1, h3, hb3, hq3, hat1, hI1⟩ := kidsA HI1.out (i := 1) (by omega)
      simp only [Option.some.injEq, Addr.mk.injEq, and_true] at h3
      obtain ⟨rfl, rfl⟩ := h3
      have HX0 := hid hat0
      have HX1 := hid hat1
      have HIL1 := hid hI1
      have HB2 := hid hb2
      have p0 : ∀ e : Later W1, At5 e.x b2 o2 ((t.ch i).ch 0) A0 c0 := fun e => by have := (HX0.out).mod e.h HB2.out (by simp); rwa [show o2 + 0 * 5 = o2 by omega] at this
      have p1 : ∀ e : Later W1, At5 e.x b2 (o2 + 5) ((t.ch i).ch 1) A1 c1 := fun e => by have := (HX1.out).mod e.h HB2.out (by simp); rwa [show o2 + 1 * 5 = o2 + 5 by omega] at this
      clear hat0 hat1 hI0 hI1 hb2 hb3 hq3
      rw [hk2] at g3
      have a0 : ∀ e : Later W1, e.x.cell? ⟨b2, o2, none⟩ = _ := fun e => (p0 e).1
      have a1 : ∀ e : Later W1, e.x.cell? ⟨b2, o2 + 1, none⟩ = _ := fun e => (p0 e).2.1
      have a2 : ∀ e : Later W1, e.x.cell? ⟨b2, o2 + 2, none⟩ = _ := fun e => (p0 e).2.2.1
      have a3 : ∀ e : Later W1, e.x.cell? ⟨b2, o2 + 3, none⟩ = _ := fun e => (p0 e).2.2.2.1
      have a4 : ∀ e : Later W1, e.x.cell? ⟨b2, o2 + 4, none⟩ = _ := fun e => (p0 e).2.2.2.2
      have KN := hid (fun e : Later W1 => anum_any ((t.ch i).ch 0) A0 c0 eb e.x (HF.out.ext (hS1.out.2.1.trans e.h)))
      obtain ⟨e, he⟩ := Later.self W1
      rw [he]
      clear he
      by_cases hkd : ((t.ch i).ch 0).kind = 0
      case neg =>
        have KN : Hid (∀ e : Later W1, Calls Tryd.prog 28 #[itemV ((t.ch i).ch 0) A0 c0] e.x (Ret (.tuple #[.int .i64 0, .iface 100 (.agg #[str [110, 117, 109, 98, 101, 114], FormV eb])]) e.x)) := hid (fun e => by have h := KN.out e; unfold numErr at h; rw [if_neg hkd] at h; exact h)
        have HN : Hid (T.all (pairK t) k = false) := hid (all_no HLT.out (show pairK t i = false by unfold pairK; rw [decide_eq_false hkd, Bool.and_false]))
        clear hkd
        go_wp2_with (first | (go_at_call 28; refine (Ret.later (KN.out _)).mono ?_; rintro x _ ⟨rfl, e, rfl⟩))
        go_ret2
        exact .inl ⟨by rw [HKK.out]; exact HN.out, [[110, 117, 109, 98, 101, 114]], rfl, hS1.out.2.1.trans e.h⟩
      have KN : Hid (∀ e : Later W1, Calls Tryd.prog 28 #[itemV ((t.ch i).ch 0) A0 c0] e.x (Ret (.tuple #[.int .i64 (pairP t i).id, .nilIface]) e.x)) := hid (fun e => by have h := KN.out e; unfold numErr at h; rw [if_pos hkd] at h; exact h)
      have HY : Hid (pairK t i = true) := hid (by unfold pairK; rw [decide_eq_true hk2, decide_eq_true hkd]; rfl)
      clear hkd
      go_upto_region 10 with (first | (go_at_call 28; refine (Ret.later (KN.out _)).mono ?_; rintro x _ ⟨rfl, e, rfl⟩))
      clear a0 a1 a2 a3 a4
      have a0 : ∀ e : Later W1, e.x.cell? ⟨b2, o2 + 5, none⟩ = _ := fun e => (p1 e).1
      have a1 : ∀ e : Later W1, e.x.cell? ⟨b2, o2 + 5 + 1, none⟩ = _ := fun e => (p1 e).2.1
      have a2 : ∀ e : Later W1, e.x.cell? ⟨b2, o2 + 5 + 2, none⟩ = _ := fun e => (p1 e).2.2.1
      have a3 : ∀ e : Later W1, e.x.cell? ⟨b2, o2 + 5 + 3, none⟩ = _ := fun e => (p1 e).2.2.2.1
      have a4 : ∀ e : Later W1, e.x.cell? ⟨b2, o2 + 5 + 4, none⟩ = _ := fun e => (p1 e).2.2.2.2
      obtain ⟨ib, hi, hz0, hz1, hz2⟩ := info_parts infoPair
      have HSZ1 : Hid (w.heap.size ≤ W1.heap.size) := hid hS1.out.2.1.size
      have hR1 := hS1.out.2.2.1.ext (e.h.alloc (.cells #[.int .i64 (pairP t i).id, .int .i64 ((t.ch i).ch 1).kind, .int .u64 (((t.ch i).ch 1).n : Int), str ((t.ch i).ch 1).s, .slice A1 ((t.ch i).ch 1).k c1, .bool ((t.ch i).ch 1).op] 38))
      have hI5 : pairH.hang (World.alloc e.x (.cells #[.int .i64 (pairP t i).id, .int .i64 ((t.ch i).ch 1).kind, .int .u64 (((t.ch i).ch 1).n : Int), str ((t.ch i).ch 1).s, .slice A1 ((t.ch i).ch 1).k c1, .bool ((t.ch i).ch 1).op] 38)) (fun b => (Q b ∧ b < w.heap.size) ∧ offA A' b) (pairP t i) (A1, c1) := IsL.weak (fun b _ hb => ⟨hb, fun g hg => by have hb2 : b < w.heap.size := hb.2; have := (hS1.out.2.2.1.off g hg).1; omega⟩) _ (HIL1.out.ext (e.h.alloc _))
      have HR1 := hid hR1
      have HI5 := hid hI5
      clear hR1 hI5
      go_wp2_with (at_builtin; refine wpList_append_lies _ rfl _ _ 28 rfl w.heap.size 38 ib _ 6 72 Tryd.underlying28 hi hz0 hz1 hz2 rfl (by decide) _ i _ (by rfl) HR1.out.own ⟨e.x.heap.size, 0, none⟩ 1 1 [.int .i64 (pairP t i).id, .int .i64 ((t.ch i).ch 1).kind, .int .u64 (((t.ch i).ch 1).n : Int), str ((t.ch i).ch 1).s, .slice A1 ((t.ch i).ch 1).k c1, .bool ((t.ch i).ch 1).op] (by rfl) (by rfl) (fun j u hu => by rw [addr_add, Nat.zero_add, (Blk.new e.x 38 #[.int .i64 (pairP t i).id, .int .i64 ((t.ch i).ch 1).kind, .int .u64 (((t.ch i).ch 1).n : Int), str ((t.ch i).ch 1).s, .slice A1 ((t.ch i).ch 1).k c1, .bool ((t.ch i).ch 1).op]).cell j]; simpa using hu) (by intro u hu; simp at hu; rcases hu with rfl | rfl | rfl | rfl | rfl | rfl <;> rfl) (by decide) (by have := HLT.out; have := HK.out; have := HKK.out; unfold maxLen; omega) (by have := HLT.out; have := HK.out; have := HKK.out; omega) (by have := HSZ1.out; have := e.h.size; simp; omega) (e.x.heap.size + 1) (by simp) ?_; intro g' cp' w4 hown' hgr' hat' hlt'; obtain ⟨ac', hR5⟩ := HR1.out.append HI5.out rfl hown' hgr' (by simpa using hat'); have HM5 := hid (grown_obs hgr'); have HR5 := hid hR5; clear hown' hgr' hat' hlt' hR5)
      go_roundw
      case rel => exact ⟨i + 1, some ⟨g', 0, none⟩, cp', ac', by go_num, rfl, (show Hid _ from ⟨HLT.out, (((hS1.out.2.1.trans (e.h.alloc _)).of_ext (S := obs A')).trans HM5.out).new (fun k hk => .inr (by
        cases A' with
        | none => cases hk
        | some g => have := (HR1.out.off g rfl).1; simp [obs] at hk; omega)), HR5.out, by rw [T.all, hS1.out.2.2.2, HY.out]; rfl⟩)⟩
      case measure => have := HLT.out; simp [intOf]; omega
    · obtain rfl : i = k := by have := hS.out.1; omega
      have tc : decide (i < i) = false := by simp
      have td : decide (i < t.k) = false := by rw [HKK.out]; simp
      have i2 : ¬ (i : Int) < (t.k : Int) := by rw [HKK.out]; omega
      have HFIN := hid hS.out
      clear hS
      go_wp2_with fail
      go_ret2
      unfold PairsPost
      rw [HKK.out]
      exact .inr ⟨HFIN.out.2.2.2, A', c', rfl, HFIN.out.2.1, HFIN.out.2.2.1.cap, (HFIN.out.2.2.1.weak (R := fun b => (Q b ∧ b < w.heap.size) ∨ w.heap.size ≤ b) (fun _ _ h => .inl h)).ps (fun _ h => .inr h)⟩
end Go.Proofs.YtblfmokklfhklaaDoor


namespace Go.Proofs.YtblfmokklfhklaaDoor
open Go.RowKit
set_option linter.unusedVariables false
set_option linter.unusedSimpArgs false

theorem NsL.news {w : World} {b o k : Nat} {f : Nat → Int} (h : ∀ i, i < k → w.cell? ⟨b, o + i, none⟩ = some (.int .i64 (f i))) : ∀ j u, (flatG (numsF f) k)[j]? = some u → w.cell? ((⟨b, o, none⟩ : Addr).add j) = some u :=
  flatG_news (z := 1) (by decide) (numsF_len f) fun i hi r u hu => by
    match r, hu with
    | 0, hu =>
      simp at hu
      subst hu
      rw [Nat.mul_one, Nat.add_zero]; exact h i hi
theorem numsF_one (f : Nat → Int) (k : Nat) : ∀ u ∈ flatG (numsF f) k, u.oneCell' = true := flatG_one (z := 1) (by decide) (numsF_len f) (fun i u hu => by simp at hu; subst hu; rfl) k
def delN (f : Nat → Int) (i j : Nat) : Int := if j < i then f j else f (j + 1)
end Go.Proofs.YtblfmokklfhklaaDoor
