/-
 Security texts: shaped.
-/
import Derived.Test.YtmckfdmdkljomaaGreatDoorMMixLessCardag
import Derived.Test.YtmckfdmdkljomaaGreatDoorMMixLessCardak
import Derived.Deep.AppendLies
import Derived.Deep.RegionLaw
namespace Go.Proofs.YtmckfdmdkljomaaGreatDoor
open Go.RowKit
set_option linter.unusedVariables false
set_option linter.unusedSimpArgs false
set_option maxRecDepth 20000 in
set_option maxHeartbeats 4000000 in
theorem shaped_any (a : AV) (hw : a.wf) (m : AA) (hmt : a.tk <= m.tc) (w : World) (h : AsL w anyQ a m) : Calls Tryz.prog 128 #[asbV a m] w (Ret (.bool a.shaped) w) := by
 have HE := hid ((Mod.refl [] w).alloc (.cells (asbC a m) 65))
 have HB0 := hid (Blk.new w 65 (asbC a m))
 have HL := hid (h.ext HE.out)
 have HW := hid hw
 clear h
 go_enter Tryz.func128, Tryz.ntmps128
 go_upto_region 1 with fail
 generalize w.alloc (.cells (asbC a m) 65) = V at *
 have b0 : ∀ e : Later V, e.x.cell? ⟨w.heap.size, 0, none⟩ = some (.slice m.t a.tk m.tc) := HB0.out.cellL 0 rfl
 have b1 : ∀ e : Later V, e.x.cell? ⟨w.heap.size, 1, none⟩ = some (.int .i64 a.ctx) := HB0.out.cellL 1 rfl
 have b6 : ∀ e : Later V, e.x.cell? ⟨w.heap.size, 6, none⟩ = some (.slice m.p a.ps.k m.pc) := HB0.out.cellL 6 rfl
 have b7 : ∀ e : Later V, e.x.cell? ⟨w.heap.size, 7, none⟩ = some (.slice m.r a.rk m.rc) := HB0.out.cellL 7 rfl
 have HRE : Hid (∀ e : Later V, e.x.rangeAt w.heap.size 2 [.int .i64 a.src.sch, str a.src.name, .int .u64 (a.src.node : Int), .int .u64 (a.src.svc : Int)]) := HB0.out.range 2 4 (by rfl)
 have KU := hid (fun e : Later V => unlike_any m.t a.tg a.tk m.tc hw.1.1 hmt e.x (HL.out.t.ext e.h))
 have KC := hid (fun W => coded_any a.ctx W)
 have KE := hid (fun W => eidRight_any a.src hw.2.2.1 W)
 have KP := hid (fun (h8 : a.ps.k <= 100000) (e : Later V) => pairs_any a.ps h8 (fun i hi => (hw.2.2.2.1.2 i hi).1) m.p m.pc e.x (HL.out.p.ext e.h))
 have KR := hid (fun e : Later V => ContainsR_any m.r a.rs a.rk m.rc hw.2.2.2.2.1 hw.2.2.2.2.2 e.x (HL.out.r.ext e.h))
 have tk0 : (a.tk : Int) < 4611686018427387904 := by have := hw.1.1; omega
 have rk0 : (a.rk : Int) < 4611686018427387904 := by have := hw.2.2.2.2.1; omega
 have pk0 : (a.ps.k : Int) < 4611686018427387904 := by have := hw.2.2.2.1.1; omega
 clear hw hmt
 obtain ⟨e, he⟩ := Later.self V
 rw [he]
 clear he
 by_cases hc : a.tk < 1
 case pos =>
  have taa : decide (a.tk < 1) = true := decide_eq_true (by omega)
  have tab : (a.tk < 1) = True := eq_true (by omega)
  have tba : decide ((a.tk : Int) < 1) = true := decide_eq_true (by omega)
  have tbb : ((a.tk : Int) < 1) = True := eq_true (by omega)
  have HC := hid hc
  clear hc
  have HX : Hid (a.shaped = false) := hid (by cases hh : a.shaped with | false => rfl | true => exact absurd (AV.shaped_iff.1 hh) (by rintro ⟨⟨g1, g2⟩, g3, g4, g5, g6, g7, g8, g9⟩; have := HC.out; omega))
  have tk1 : True := trivial
  go_wp2_with (first | (clear tk1; refine wpList_mid (by rfl) 24 _ rfl _ 2 rfl _ _ (HRE.out _) vqE rfl (by kernel_rfl) ?_) | (go_at_call 151; refine (Ret.later (KU.out _)).mono ?_; rintro x _ ⟨rfl, e, rfl⟩) | (go_at_call 152; refine (KC.out _).mono ?_; rintro e' w' ⟨rfl, rfl⟩) | (go_at_call 153; refine (Ret.later (KE.out _)).mono ?_; rintro x _ ⟨rfl, e, rfl⟩) | (go_at_call 154; refine (Ret.later (KP.out (by assumption) _)).mono ?_; rintro x _ ⟨rfl, e, rfl⟩) | (go_at_call 155; refine (Ret.later (KR.out _)).mono ?_; rintro x _ ⟨rfl, e, rfl⟩))
  go_ret
  exact Ret.mk (by rw [HX.out]; rfl) (HE.out.trans e.h)
 have taa : decide (a.tk < 1) = false := decide_eq_false (by omega)
 have tab : (a.tk < 1) = False := eq_false (by omega)
 have tba : decide ((a.tk : Int) < 1) = false := decide_eq_false (by omega)
 have tbb : ((a.tk : Int) < 1) = False := eq_false (by omega)
 have H1 := hid hc
 clear hc
 by_cases hc : 16 < a.tk
 case pos =>
  have tca : decide (16 < a.tk) = true := decide_eq_true (by omega)
  have tcb : (16 < a.tk) = True := eq_true (by omega)
  have tda : decide ((16 : Int) < (a.tk : Int)) = true := decide_eq_true (by omega)
  have tdb : ((16 : Int) < (a.tk : Int)) = True := eq_true (by omega)
  have HC := hid hc
  clear hc
  have HX : Hid (a.shaped = false) := hid (by cases hh : a.shaped with | false => rfl | true => exact absurd (AV.shaped_iff.1 hh) (by rintro ⟨⟨g1, g2⟩, g3, g4, g5, g6, g7, g8, g9⟩; have := HC.out; omega))
  have tk1 : True := trivial
  go_wp2_with (first | (clear tk1; refine wpList_mid (by rfl) 24 _ rfl _ 2 rfl _ _ (HRE.out _) vqE rfl (by kernel_rfl) ?_) | (go_at_call 151; refine (Ret.later (KU.out _)).mono ?_; rintro x _ ⟨rfl, e, rfl⟩) | (go_at_call 152; refine (KC.out _).mono ?_; rintro e' w' ⟨rfl, rfl⟩) | (go_at_call 153; refine (Ret.later (KE.out _)).mono ?_; rintro x _ ⟨rfl, e, rfl⟩) | (go_at_call 154; refine (Ret.later (KP.out (by assumption) _)).mono ?_; rintro x _ ⟨rfl, e, rfl⟩) | (go_at_call 155; refine (Ret.later (KR.out _)).mono ?_; rintro x _ ⟨rfl, e, rfl⟩))
  go_ret
  exact Ret.mk (by rw [HX.out]; rfl) (HE.out.trans e.h)
 have tca : decide (16 < a.tk) = false := decide_eq_false (by omega)
 have tcb : (16 < a.tk) = False := eq_false (by omega)
 have tda : decide ((16 : Int) < (a.tk : Int)) = false := decide_eq_false (by omega)
 have tdb : ((16 : Int) < (a.tk : Int)) = False := eq_false (by omega)
 have H16 := hid hc
 clear hc
 cases hc : unlikeB a.tg a.tk with
 | false =>
  rw [hc] at KU
  have HC := hid hc
  clear hc
  have HX : Hid (a.shaped = false) := hid (by cases hh : a.shaped with | false => rfl | true => exact absurd (AV.shaped_iff.1 hh) (by rintro ⟨⟨g1, g2⟩, g3, g4, g5, g6, g7, g8, g9⟩; rw [HC.out] at g3; cases g3))
  have tk1 : True := trivial
  go_wp2_with (first | (clear tk1; refine wpList_mid (by rfl) 24 _ rfl _ 2 rfl _ _ (HRE.out _) vqE rfl (by kernel_rfl) ?_) | (go_at_call 151; refine (Ret.later (KU.out _)).mono ?_; rintro x _ ⟨rfl, e, rfl⟩) | (go_at_call 152; refine (KC.out _).mono ?_; rintro e' w' ⟨rfl, rfl⟩) | (go_at_call 153; refine (Ret.later (KE.out _)).mono ?_; rintro x _ ⟨rfl, e, rfl⟩) | (go_at_call 154; refine (Ret.later (KP.out (by assumption) _)).mono ?_; rintro x _ ⟨rfl, e, rfl⟩) | (go_at_call 155; refine (Ret.later (KR.out _)).mono ?_; rintro x _ ⟨rfl, e, rfl⟩))
  go_ret
  exact Ret.mk (by rw [HX.out]; rfl) (HE.out.trans e.h)
 | true =>
 rw [hc] at KU
 have H3 := hid hc
 clear hc
 cases hc : codedB a.ctx with
 | false =>
  rw [hc] at KC
  have HC := hid hc
  clear hc
  have HX : Hid (a.shaped = false) := hid (by cases hh : a.shaped with | false => rfl | true => exact absurd (AV.shaped_iff.1 hh) (by rintro ⟨⟨g1, g2⟩, g3, g4, g5, g6, g7, g8, g9⟩; rw [HC.out] at g4; cases g4))
  have tk1 : True := trivial
  go_wp2_with (first | (clear tk1; refine wpList_mid (by rfl) 24 _ rfl _ 2 rfl _ _ (HRE.out _) vqE rfl (by kernel_rfl) ?_) | (go_at_call 151; refine (Ret.later (KU.out _)).mono ?_; rintro x _ ⟨rfl, e, rfl⟩) | (go_at_call 152; refine (KC.out _).mono ?_; rintro e' w' ⟨rfl, rfl⟩) | (go_at_call 153; refine (Ret.later (KE.out _)).mono ?_; rintro x _ ⟨rfl, e, rfl⟩) | (go_at_call 154; refine (Ret.later (KP.out (by assumption) _)).mono ?_; rintro x _ ⟨rfl, e, rfl⟩) | (go_at_call 155; refine (Ret.later (KR.out _)).mono ?_; rintro x _ ⟨rfl, e, rfl⟩))
  go_ret
  exact Ret.mk (by rw [HX.out]; rfl) (HE.out.trans e.h)
 | true =>
 rw [hc] at KC
 have H4 := hid hc
 clear hc
 cases hc : a.src.ok with
 | false =>
  rw [hc] at KE
  have HC := hid hc
  clear hc
  have HX : Hid (a.shaped = false) := hid (by cases hh : a.shaped with | false => rfl | true => exact absurd (AV.shaped_iff.1 hh) (by rintro ⟨⟨g1, g2⟩, g3, g4, g5, g6, g7, g8, g9⟩; rw [HC.out] at g5; cases g5))
  have tk1 : True := trivial
  go_wp2_with (first | (clear tk1; refine wpList_mid (by rfl) 24 _ rfl _ 2 rfl _ _ (HRE.out _) vqE rfl (by kernel_rfl) ?_) | (go_at_call 151; refine (Ret.later (KU.out _)).mono ?_; rintro x _ ⟨rfl, e, rfl⟩) | (go_at_call 152; refine (KC.out _).mono ?_; rintro e' w' ⟨rfl, rfl⟩) | (go_at_call 153; refine (Ret.later (KE.out _)).mono ?_; rintro x _ ⟨rfl, e, rfl⟩) | (go_at_call 154; refine (Ret.later (KP.out (by assumption) _)).mono ?_; rintro x _ ⟨rfl, e, rfl⟩) | (go_at_call 155; refine (Ret.later (KR.out _)).mono ?_; rintro x _ ⟨rfl, e, rfl⟩))
  go_ret
  exact Ret.mk (by rw [HX.out]; rfl) (HE.out.trans e.h)
 | true =>
 rw [hc] at KE
 have H5 := hid hc
 clear hc
 by_cases hc : 8 < a.ps.k
 case pos =>
  have tea : decide (8 < a.ps.k) = true := decide_eq_true (by omega)
  have teb : (8 < a.ps.k) = True := eq_true (by omega)
  have tfa : decide ((8 : Int) < (a.ps.k : Int)) = true := decide_eq_true (by omega)
  have tfb : ((8 : Int) < (a.ps.k : Int)) = True := eq_true (by omega)
  have HC := hid hc
  clear hc
  have HX : Hid (a.shaped = false) := hid (by cases hh : a.shaped with | false => rfl | true => exact absurd (AV.shaped_iff.1 hh) (by rintro ⟨⟨g1, g2⟩, g3, g4, g5, g6, g7, g8, g9⟩; have := HC.out; omega))
  have tk1 : True := trivial
  go_wp2_with (first | (clear tk1; refine wpList_mid (by rfl) 24 _ rfl _ 2 rfl _ _ (HRE.out _) vqE rfl (by kernel_rfl) ?_) | (go_at_call 151; refine (Ret.later (KU.out _)).mono ?_; rintro x _ ⟨rfl, e, rfl⟩) | (go_at_call 152; refine (KC.out _).mono ?_; rintro e' w' ⟨rfl, rfl⟩) | (go_at_call 153; refine (Ret.later (KE.out _)).mono ?_; rintro x _ ⟨rfl, e, rfl⟩) | (go_at_call 154; refine (Ret.later (KP.out (by assumption) _)).mono ?_; rintro x _ ⟨rfl, e, rfl⟩) | (go_at_call 155; refine (Ret.later (KR.out _)).mono ?_; rintro x _ ⟨rfl, e, rfl⟩))
  go_ret
  exact Ret.mk (by rw [HX.out]; rfl) (HE.out.trans e.h)
 have tea : decide (8 < a.ps.k) = false := decide_eq_false (by omega)
 have teb : (8 < a.ps.k) = False := eq_false (by omega)
 have tfa : decide ((8 : Int) < (a.ps.k : Int)) = false := decide_eq_false (by omega)
 have tfb : ((8 : Int) < (a.ps.k : Int)) = False := eq_false (by omega)
 have H8 := hid hc
 have h100 : a.ps.k <= 100000 := by omega
 clear hc
 cases hc : pairsB a.ps with
 | false =>
  rw [hc] at KP
  have HC := hid hc
  clear hc
  have HX : Hid (a.shaped = false) := hid (by cases hh : a.shaped with | false => rfl | true => exact absurd (AV.shaped_iff.1 hh) (by rintro ⟨⟨g1, g2⟩, g3, g4, g5, g6, g7, g8, g9⟩; rw [HC.out] at g7; cases g7))
  have tk1 : True := trivial
  go_wp2_with (first | (clear tk1; refine wpList_mid (by rfl) 24 _ rfl _ 2 rfl _ _ (HRE.out _) vqE rfl (by kernel_rfl) ?_) | (go_at_call 151; refine (Ret.later (KU.out _)).mono ?_; rintro x _ ⟨rfl, e, rfl⟩) | (go_at_call 152; refine (KC.out _).mono ?_; rintro e' w' ⟨rfl, rfl⟩) | (go_at_call 153; refine (Ret.later (KE.out _)).mono ?_; rintro x _ ⟨rfl, e, rfl⟩) | (go_at_call 154; refine (Ret.later (KP.out (by assumption) _)).mono ?_; rintro x _ ⟨rfl, e, rfl⟩) | (go_at_call 155; refine (Ret.later (KR.out _)).mono ?_; rintro x _ ⟨rfl, e, rfl⟩))
  go_ret
  exact Ret.mk (by rw [HX.out]; rfl) (HE.out.trans e.h)
 | true =>
 rw [hc] at KP
 have H7 := hid hc
 clear hc
 by_cases hc : a.rk ≠ a.tk
 case pos =>
  have tga : (((a.rk : Int)) == ((a.tk : Int))) = false := by rw [beq_eq_false_iff_ne]; omega
  have tgb : (((a.rk : Int)) = ((a.tk : Int))) = False := eq_false (by omega)
  have tgc : (((a.rk : Int)) != ((a.tk : Int))) = true := by rw [bne_iff_ne]; omega
  have tha : ((a.rk) == (a.tk)) = false := by rw [beq_eq_false_iff_ne]; omega
  have thb : ((a.rk) = (a.tk)) = False := eq_false (by omega)
  have thc : ((a.rk) != (a.tk)) = true := by rw [bne_iff_ne]; omega
  have HC := hid hc
  clear hc
  have HX : Hid (a.shaped = false) := hid (by cases hh : a.shaped with | false => rfl | true => exact absurd (AV.shaped_iff.1 hh) (by rintro ⟨⟨g1, g2⟩, g3, g4, g5, g6, g7, g8, g9⟩; exact HC.out g8))
  have tk1 : True := trivial
  go_wp2_with (first | (clear tk1; refine wpList_mid (by rfl) 24 _ rfl _ 2 rfl _ _ (HRE.out _) vqE rfl (by kernel_rfl) ?_) | (go_at_call 151; refine (Ret.later (KU.out _)).mono ?_; rintro x _ ⟨rfl, e, rfl⟩) | (go_at_call 152; refine (KC.out _).mono ?_; rintro e' w' ⟨rfl, rfl⟩) | (go_at_call 153; refine (Ret.later (KE.out _)).mono ?_; rintro x _ ⟨rfl, e, rfl⟩) | (go_at_call 154; refine (Ret.later (KP.out (by assumption) _)).mono ?_; rintro x _ ⟨rfl, e, rfl⟩) | (go_at_call 155; refine (Ret.later (KR.out _)).mono ?_; rintro x _ ⟨rfl, e, rfl⟩))
  go_ret
  exact Ret.mk (by rw [HX.out]; rfl) (HE.out.trans e.h)
 have tga : (((a.rk : Int)) == ((a.tk : Int))) = true := by rw [beq_iff_eq]; omega
 have tgb : (((a.rk : Int)) = ((a.tk : Int))) = True := eq_true (by omega)
 have tgc : (((a.rk : Int)) != ((a.tk : Int))) = false := by rw [bne_eq_false_iff_eq]; omega
 have tha : ((a.rk) == (a.tk)) = true := by rw [beq_iff_eq]; omega
 have thb : ((a.rk) = (a.tk)) = True := eq_true (by omega)
 have thc : ((a.rk) != (a.tk)) = false := by rw [bne_eq_false_iff_eq]; omega
 have H9 : Hid (a.rk = a.tk) := hid (by omega)
 clear hc
 have HX : Hid (a.shaped = T.all (fun i => resB (a.rs i)) a.rk) := hid (by
  rw [AV.shaped_eq]
  unfold AV.one AV.two
  rw [H3.out, H4.out, H5.out, H7.out, decide_eq_true H9.out, decide_eq_true (show a.ps.k <= 8 by have := H8.out; omega), decide_eq_true (show a.tk <= 16 by have := H16.out; omega), decide_eq_true (show 1 <= a.tk by have := H1.out; omega)]
  simp)
 generalize T.all (fun i => resB (a.rs i)) a.rk = B at *
 have tk1 : True := trivial
 go_wp2_with (first | (clear tk1; refine wpList_mid (by rfl) 24 _ rfl _ 2 rfl _ _ (HRE.out _) vqE rfl (by kernel_rfl) ?_) | (go_at_call 151; refine (Ret.later (KU.out _)).mono ?_; rintro x _ ⟨rfl, e, rfl⟩) | (go_at_call 152; refine (KC.out _).mono ?_; rintro e' w' ⟨rfl, rfl⟩) | (go_at_call 153; refine (Ret.later (KE.out _)).mono ?_; rintro x _ ⟨rfl, e, rfl⟩) | (go_at_call 154; refine (Ret.later (KP.out (by assumption) _)).mono ?_; rintro x _ ⟨rfl, e, rfl⟩) | (go_at_call 155; refine (Ret.later (KR.out _)).mono ?_; rintro x _ ⟨rfl, e, rfl⟩))
 go_ret
 exact Ret.mk (by rw [HX.out]; simp) (HE.out.trans e.h)
section
abbrev offA (A : Option Addr) : Nat -> Prop := fun b => ∀ g, A = some g -> b ≠ g.block
def obs : Option Addr -> List Nat
 | some g => [g.block]
 | none => []
theorem offA_obs {A : Option Addr} {b : Nat} (h : offA A b) : b ∉ obs A := by
 cases A with
 | none => simp [obs]
 | some g => have := h g rfl; simp [obs, this]
structure Rw (W : World) (Q : Nat -> Prop) (base : Nat) (A : Option Addr) (c n : Nat) (ch : Nat -> T) (ac : Nat -> Option Addr × Nat) : Prop where
 own : W.ownsRow base 68 5 (.slice A n c) n (flatC ch ac n)
 kid : ∀ j, j < n -> IsL W (fun b => Q b /\ offA A b) (ch j) (ac j).1
section
variable {W W' : World} {Q : Nat -> Prop} {base c n : Nat} {A : Option Addr} {ch : Nat -> T} {ac : Nat -> Option Addr × Nat}
theorem Rw.nil : Rw W Q base none 0 0 ch ac := ⟨World.ownsRow_nil _ _ _ _, fun j hj => by omega⟩
theorem Rw.mod {S : List Nat} (h : Rw W Q base A c n ch ac) (hm : Mod S W W') (hs : ∀ k, k < W.heap.size -> k ∉ S) : Rw W' Q base A c n ch ac :=
 ⟨ownsRow_mod h.own hm (fun k hk => hs k ((h.own.lt k hk).2)), fun j hj => IsL.mod hm (fun k _ hk => hs k hk) _ (h.kid j hj)⟩
theorem Rw.ext (h : Rw W Q base A c n ch ac) (hm : Ext W W') : Rw W' Q base A c n ch ac := h.mod hm (by simp)
theorem Rw.isL (h : Rw W Q base A c n ch ac) (hq : ∀ b, base <= b -> Q b) : IsL W Q (T.mk 4 0 [] false n ch) A := fun h0 => by
 obtain ⟨m, rfl⟩ : ∃ m, n = m + 1 := ⟨n - 1, by omega⟩
 obtain ⟨g, c', hv, hb, hlt⟩ := own_form h.own
 simp only [Value.slice.injEq] at hv
 obtain ⟨rfl, _, rfl⟩ := hv
 exact own_IsL hlt (hq _ hb) h.own (fun i hi => IsL.weak (fun _ _ h => h.1) _ (h.kid i hi)) (by omega)
theorem grown_obs (hgr : W.grownBy W' (Value.slice A n c).ownBlock) : Mod (obs A) W W' := by
 refine (Mod.refl _ _).grown hgr (fun k hk => .inl ?_)
 cases A with
 | none => cases hk
 | some g =>
  have : g.block = k := by simpa [Value.ownBlock] using hk
  simp [obs, this]
theorem Rw.append (h : Rw W Q base A c n ch ac) {t : T} {At : Option Addr} {ct : Nat} (hI : IsL W (fun b => Q b /\ offA A b) t At) (ht : ch n = t) {g cap : Nat}
  (hown : W'.ownsRow base 68 5 (.slice (some ⟨g, 0, none⟩) (n + 1) cap) (n + 1) (flatC ch ac n ++ [.int .i64 t.kind, .int .u64 (t.n : Int), str t.s, .slice At t.k ct, .bool t.op]))
  (hgr : W.grownBy W' (Value.slice A n c).ownBlock) (hat : (Value.slice A n c).ownBlock = some g \/ g = W.heap.size) : ∃ ac', Rw W' Q base (some ⟨g, 0, none⟩) cap (n + 1) ch ac' := by
 subst ht
 have hm : Mod (obs A) W W' := grown_obs hgr
 have key : ∀ {x : T} {Ax : Option Addr}, IsL W (fun b => Q b /\ offA A b) x Ax -> IsL W' (fun b => Q b /\ offA (some ⟨g, 0, none⟩) b) x Ax := by
  intro x Ax hx
  have h1 := IsL.weak (R := fun b => (Q b /\ offA A b) /\ b ≠ g) (fun b hb hq => ⟨hq, by
   rcases hat with hat | hat
   .
    cases A with
    | none => cases hat
    | some a =>
     have : a.block = g := by simpa [Value.ownBlock] using hat
     rw [<- this]; exact hq.2 a rfl
   . omega⟩) _ hx
  have h2 := IsL.mod hm (fun k hk _ => offA_obs hk.1.2) _ h1
  exact IsL.weak (fun b _ hq => ⟨hq.1.1, fun g' hg' => by cases hg'; exact hq.2⟩) _ h2
 refine ⟨fun j => if j = n then (At, ct) else ac j, ?_, fun j hj => ?_⟩
 .
  rw [flatC, flatC_congr (ch' := ch) (ac' := ac) (fun j hj => ⟨rfl, by rw [if_neg (by omega)]⟩)]
  simpa using hown
 .
  by_cases e : j = n
  .
   subst e
   simpa using key hI
  . simpa [e] using key (h.kid j (by omega))
theorem Rw.weak {R : Nat -> Prop} (h : Rw W Q base A c n ch ac) (hq : ∀ k, k < W.heap.size -> Q k -> R k) : Rw W R base A c n ch ac :=
 ⟨h.own, fun j hj => IsL.weak (fun b hb hh => ⟨hq b hb hh.1, hh.2⟩) _ (h.kid j hj)⟩
theorem Rw.modQ {S : List Nat} (h : Rw W Q base A c n ch ac) (hm : Mod S W W') (ho : ∀ g, A = some g -> g.block ∉ S) (hs : ∀ k, Q k -> k < W.heap.size -> k ∉ S) : Rw W' Q base A c n ch ac :=
 ⟨ownsRow_mod h.own hm (fun k hk => by
  cases A with
  | none => cases hk
  | some g =>
   have : g.block = k := by simpa [Value.ownBlock] using hk
   rw [<- this]; exact ho g rfl), fun j hj => IsL.mod hm (fun k hk hlt => hs k hk.1 hlt) _ (h.kid j hj)⟩
theorem two_first {A1 : Option Addr} {n1 c1 g1 : Nat} (h : Rw W (offA A1) base A c n ch ac) (hap : ∀ g, A = some g -> offA A1 g.block)
  (hgr : W.grownBy W' (Value.slice A1 n1 c1).ownBlock) (hat : (Value.slice A1 n1 c1).ownBlock = some g1 \/ g1 = W.heap.size) :
  Rw W' (offA (some ⟨g1, 0, none⟩)) base A c n ch ac /\ ∀ g, A = some g -> offA (some ⟨g1, 0, none⟩) g.block := by
 have key : ∀ b, b < W.heap.size -> offA A1 b -> offA A1 b /\ b ≠ g1 := fun b hb hq => ⟨hq, by
  rcases hat with hat | hat
  .
   cases A1 with
   | none => cases hat
   | some a =>
    have : a.block = g1 := by simpa [Value.ownBlock] using hat
    rw [<- this]; exact hq a rfl
  . omega⟩
 have hlt : ∀ g, A = some g -> g.block < W.heap.size := fun g hg => (h.own.lt g.block (by subst hg; rfl)).2
 refine ⟨?_, fun g hg g' hg' => by cases hg'; exact (key g.block (hlt g hg) (hap g hg)).2⟩
 refine Rw.weak ((h.weak key).modQ (grown_obs hgr) (fun g hg => offA_obs (hap g hg)) (fun k hk _ => offA_obs hk.1)) fun k _ hk g' hg' => ?_
 cases hg'; exact hk.2
theorem two_second {A1 : Option Addr} {n1 c1 g2 : Nat} {xs : List Value} (h1 : W.ownsRow base 68 5 (.slice A1 n1 c1) n1 xs) (hap : ∀ g, A = some g -> offA A1 g.block)
  (hgr : W.grownBy W' (Value.slice A n c).ownBlock) (hat : (Value.slice A n c).ownBlock = some g2 \/ g2 = W.heap.size) :
  W'.ownsRow base 68 5 (.slice A1 n1 c1) n1 xs /\ ∀ g, (some ⟨g2, 0, none⟩ : Option Addr) = some g -> offA A1 g.block := by
 constructor
 .
  refine ownsRow_mod h1 (grown_obs hgr) (fun k hk => ?_)
  cases A1 with
  | none => cases hk
  | some a =>
   have e : a.block = k := by simpa [Value.ownBlock] using hk
   rw [<- e]
   cases A with
   | none => simp [obs]
   | some g =>
    have := hap g rfl a rfl
    simp [obs]; omega
 .
  intro g hg a ha
  cases hg
  have hlt := (h1.lt a.block (by subst ha; rfl)).2
  rcases hat with hat | hat
  .
   cases A with
   | none => cases hat
   | some g =>
    have e : g.block = g2 := by simpa [Value.ownBlock] using hat
    have := hap g rfl a ha
    show g2 ≠ a.block
    omega
  .
   show g2 ≠ a.block
   omega
end
end
theorem pair_IsL {W : World} {Q : Nat -> Prop} {p : PR} {g : Nat} {A : Option Addr} {c : Nat} (h0 : 0 <= p.id) (h : Blk W g 68 #[.int .i64 0, .int .u64 p.id, str [], .slice none 0 0, .bool false, .int .i64 p.t.kind, .int .u64 (p.t.n : Int), str p.t.s, .slice A p.t.k c, .bool p.t.op]) (hI : IsL W Q p.t A) (hq : Q g) : IsL W Q (pairT p) (some ⟨g, 0, none⟩) := fun _ => ⟨g, 0, rfl, h.lt, hq, fun j hj => by
 have hj : j = 0 \/ j = 1 := by have : j < 2 := hj; omega
 rcases hj with rfl | rfl
 . exact ⟨none, 0, ⟨h.cell 0, (h.cell 1).trans (by show some (Value.int .u64 p.id) = some (Value.int .u64 (p.id.toNat : Int)); rw [Int.toNat_of_nonneg h0]), h.cell 2, h.cell 3, h.cell 4⟩, IsL.leaf⟩
 . exact ⟨A, c, ⟨h.cell 5, h.cell 6, h.cell 7, h.cell 8, h.cell 9⟩, hI⟩⟩
set_option maxRecDepth 20000 in
set_option maxHeartbeats 8000000 in
theorem alist_any {Q : Nat -> Prop} (p : PL) (hk : p.k <= 100000) (hc : ∀ i, i < p.k -> 0 <= (p.a i).id /\ (p.a i).id <= 65535) (A : Option Addr) (c : Nat) (w : World) (h : PsL w Q A p) : Calls Tryz.prog 157 #[.slice A p.k c] w (fun e w' => ∃ A' c', e = .returned (itemV (plT p) A' c') /\ Ext w w' /\ IsL w' (fun b => Q b \/ w.heap.size <= b) (plT p) A') := by
 have HK := hid hk
 have HC := hid hc
 have HE := hid ((Mod.refl [] w).alloc (.cells #[.int .i64 0, .int .u64 0, .string ⟨#[]⟩, .slice none 0 0, .bool false] 68))
 have HB0 : Hid (Blk (w.alloc (.cells #[.int .i64 0, .int .u64 0, .string ⟨#[]⟩, .slice none 0 0, .bool false] 68)) w.heap.size 68 (itemC (numT 0) none 0)) := hid (Blk.new w 68 (itemC (numT 0) none 0))
 have HL := hid (PsL.ext (h.weak (R := fun b => Q b /\ b < w.heap.size) (fun k hk hq => ⟨hq, hk⟩)) HE.out)
 have k0 : (p.k : Int) <= 100000 := by omega
 generalize hkk : p.k = k at *
 have HKK := hid hkk
 clear hk hc h hkk
 go_enter Tryz.func157, Tryz.ntmps157
 go_upto_region 3 with fail
 have HV1 : Hid (w.heap.size + 1 = (w.alloc (.cells #[.int .i64 0, .int .u64 0, .string ⟨#[]⟩, .slice none 0 0, .bool false] 68)).heap.size) := hid (by simp)
 generalize hV : w.alloc (.cells #[.int .i64 0, .int .u64 0, .string ⟨#[]⟩, .slice none 0 0, .bool false] 68) = V at *
 clear hV
 go_loopw [3, 8] (fun s3 s8 wr => ∃ (i : Nat) (A' : Option Addr) (c' : Nat) (ac : Nat -> Option Addr × Nat), s8 = .int .i64 (i : Int) /\ s3 = .slice A' i c' /\ Hid (i <= k /\ Ext V wr /\ Rw wr (fun b => (Q b /\ b < w.heap.size) \/ w.heap.size + 1 <= b) (w.heap.size + 1) A' c' i (fun j => pairT (p.a j)) ac)) (fun _ s8 _ => k - (intOf s8).toNat)
 case atStart => exact ⟨0, none, 0, fun _ => (none, 0), rfl, rfl, (show Hid _ from ⟨Nat.zero_le _, Mod.refl _ _, Rw.nil⟩)⟩
 case round =>
  obtain ⟨i, A', c', ac, rfl, rfl, hS⟩ := hrel
  rename World => wr
  have i0 : (0 : Int) <= (i : Int) := by omega
  by_cases hlt : i < k
  .
   obtain ⟨b, o, Ai, ci, rfl, hb, ⟨q0, q1, q2, q3, q4, q5⟩, hI⟩ := HL.out.at hS.out.2.1 (i := i) (by have := HKK.out; omega)
   have tc : decide (i < k) = true := by simp [hlt]
   have i1 : (i : Int) < (k : Int) := by omega
   have HLT := hid hlt
   have HI := hid hI
   have HI0 : Hid (0 <= (p.a i).id) := hid (HC.out i hlt).1
   have t1 : IntKind.u64.wrap (p.a i).id = (p.a i).id := IntWalk.u64_in _ (by have := HC.out i hlt; omega)
   clear hlt hI hb
   go_upto_region 5 with fail
   generalize hW1 : World.alloc wr _ = W1
   have HG1 : Hid (Blk W1 wr.heap.size 70 (prC (p.a i) Ai ci)) := hid (by rw [<- hW1]; exact Blk.new _ _ _)
   have HR : Hid (Rw W1 (fun b => (Q b /\ b < w.heap.size) \/ w.heap.size + 1 <= b) (w.heap.size + 1) A' c' i (fun j => pairT (p.a j)) ac) := hid (by rw [<- hW1]; exact hS.out.2.2.ext ((Mod.refl [] wr).alloc _))
   have HE1 : Hid (Ext V W1) := hid (by rw [<- hW1]; exact hS.out.2.1.alloc _)
   have HI1 : Hid (IsL W1 (fun b => Q b /\ b < w.heap.size) (p.a i).t Ai) := hid (by rw [<- hW1]; exact HI.out.ext ((Mod.refl [] wr).alloc _))
   have HSZ : Hid (w.heap.size + 1 <= W1.heap.size) := hid (by have := HE1.out.size; have := HV1.out; omega)
   have HOB : Hid (∀ g, A' = some g -> w.heap.size < g.block /\ g.block < W1.heap.size) := hid (fun g hg => by have := HR.out.own.lt g.block (by subst hg; rfl); omega)
   have HGA : Hid (wr.heap.size ∉ obs A') := hid (offA_obs (fun g hg => by have := hS.out.2.2.own.lt g.block (by subst hg; rfl); omega))
   clear hW1 hS q0 q1 q2 q3 q4 q5 HI
   generalize wr.heap.size = G at *
   have HG0 : Hid (∀ W, Mod (obs A') W1 W -> W.cell? ⟨G, 0, none⟩ = some (.int .i64 (p.a i).id)) := hid (fun W hW => (HG1.out.mod hW HGA.out).cell 0)
   have HGM : Hid (∀ W, Mod (obs A') W1 W -> W.rangeAt G 1 [.int .i64 (p.a i).t.kind, .int .u64 ((p.a i).t.n : Int), str (p.a i).t.s, .slice Ai (p.a i).t.k ci, .bool (p.a i).t.op]) := hid (fun W hW => (HG1.out.mod hW HGA.out).rangeE (Mod.refl _ _) 1 5 (by rfl))
   refine wp_region_held_drew (S := fun w' => Mod (obs A') W1 w') (by kernel_rfl) (Mod.refl _ _).drew (fun hHeld => ?_)
   have hR1 : Rw W1.drew (fun b => (Q b /\ b < w.heap.size) \/ w.heap.size + 1 <= b) (w.heap.size + 1) A' c' i (fun j => pairT (p.a j)) ac := HR.out.ext ((Mod.refl [] _).drew)
   have HI2 : IsL W1.drew (fun b => Q b /\ b < w.heap.size) (p.a i).t Ai := HI1.out.ext ((Mod.refl [] _).drew)
   generalize W1.drew = u0 at *
   refine' wpAnyH_take (i := 0) (v := _) rfl (by kernel_rfl) (by kernel_rfl) (by kernel_rfl) (fun _ _ _ h => h) (Or.inl ⟨by rfl, ?hy1⟩) hHeld ?rest1
   case hy1 => (rintro W hM; go_simp; (try with_reducible rfl))
   case rest1 =>
   (try simp only [Act.put, gTl, g0l, gSl, sTl, s0l, sSl])
   refine' wpAnyH_take (i := 1) (v := _) rfl (by kernel_rfl) (by kernel_rfl) (by kernel_rfl) (fun _ _ _ h => h) (Or.inl ⟨by rfl, ?hy2⟩) hHeld ?rest2
   case hy2 => (rintro W hM; go_simp; (try with_reducible rfl))
   case rest2 =>
   (try simp only [Act.put, gTl, g0l, gSl, sTl, s0l, sSl])
   refine' wpAnyH_take (i := 2) (v := _) rfl (by kernel_rfl) (by kernel_rfl) (by kernel_rfl) (fun _ _ _ h => h) (Or.inl ⟨by rfl, ?hy3⟩) hHeld ?rest3
   case hy3 => (rintro W hM; have g0 := HG0.out W hM; go_simp; (try with_reducible rfl))
   case rest3 =>
   (try simp only [Act.put, gTl, g0l, gSl, sTl, s0l, sSl])
   refine' wpAnyH_take (i := 3) (v := _) rfl (by kernel_rfl) (by kernel_rfl) (by kernel_rfl) (fun _ _ _ h => h) (Or.inl ⟨by rfl, ?hy4⟩) hHeld ?rest4
   case hy4 => (rintro W hM; go_simp; (try with_reducible rfl))
   case rest4 =>
   (try simp only [Act.put, gTl, g0l, gSl, sTl, s0l, sSl])
   refine' wpAnyH_take (i := 5) (v := _) rfl (by kernel_rfl) (by kernel_rfl) (by kernel_rfl) (fun _ _ _ h => h) (Or.inl ⟨by rfl, ?hy5⟩) hHeld ?rest5
   case hy5 => (rintro W hM; go_simp; (try with_reducible rfl))
   case rest5 =>
   (try simp only [Act.put, gTl, g0l, gSl, sTl, s0l, sSl])
   refine wpAnyH_take (i := 6) rfl (by kernel_rfl) (by kernel_rfl) (by kernel_rfl) (fun _ _ _ h => h) (yieldsIf_mid (by rfl) 68 _ rfl G 1 rfl [.int .i64 (p.a i).t.kind, .int .u64 ((p.a i).t.n : Int), str (p.a i).t.s, .slice Ai (p.a i).t.k ci, .bool (p.a i).t.op] HGM.out vqC rfl (by kernel_rfl)) hHeld ?_
   (try simp only [Act.put, gTl, g0l, gSl, sTl, s0l, sSl])
   refine wpAnyH_ready (rs := [4]) (by kernel_rfl) (by simp) ?_
   refine AllReadyH.cons rfl (fun K hK => ?_) AllReadyH.nil
   go_simp
   (try rw [t1])
   go_at_call 142
   refine (NumI_any _ _).mono ?_
   rintro x u1 ⟨rfl, hb⟩
   have hR1 := hR1.ext hb
   have HI2 := HI2.ext hb
   refine hK.out _ _ (hHeld.trans (hb.mono (by simp))) (fun hHeld => ?_)
   clear hK K
   (try simp only [Act.put, gTl, g0l, gSl, sTl, s0l, sSl])
   refine wpAnyH_ready (rs := [7]) (by kernel_rfl) (by simp) ?_
   refine AllReadyH.cons rfl (fun K hK => ?_) AllReadyH.nil
   go_simp
   have HP2_n : W1.heap.size <= u1.heap.size := hHeld.size
   have HP2 : Blk (World.alloc u1 (.cells #[.int .i64 0, .int .u64 (p.a i).id, str [], .slice none 0 0, .bool false, .int .i64 (p.a i).t.kind, .int .u64 ((p.a i).t.n : Int), str (p.a i).t.s, .slice Ai (p.a i).t.k ci, .bool (p.a i).t.op] 68)) u1.heap.size 68 #[.int .i64 0, .int .u64 (p.a i).id, str [], .slice none 0 0, .bool false, .int .i64 (p.a i).t.kind, .int .u64 ((p.a i).t.n : Int), str (p.a i).t.s, .slice Ai (p.a i).t.k ci, .bool (p.a i).t.op] := Blk.new _ _ _
   have hXX : Ext u1 (World.alloc u1 (.cells #[.int .i64 0, .int .u64 (p.a i).id, str [], .slice none 0 0, .bool false, .int .i64 (p.a i).t.kind, .int .u64 ((p.a i).t.n : Int), str (p.a i).t.s, .slice Ai (p.a i).t.k ci, .bool (p.a i).t.op] 68)) := (Mod.refl [] _).alloc _
   have hZN : u1.heap.size < (World.alloc u1 (.cells #[.int .i64 0, .int .u64 (p.a i).id, str [], .slice none 0 0, .bool false, .int .i64 (p.a i).t.kind, .int .u64 ((p.a i).t.n : Int), str (p.a i).t.s, .slice Ai (p.a i).t.k ci, .bool (p.a i).t.op] 68)).heap.size := HP2.lt
   generalize World.alloc u1 (.cells #[.int .i64 0, .int .u64 (p.a i).id, str [], .slice none 0 0, .bool false, .int .i64 (p.a i).t.kind, .int .u64 ((p.a i).t.n : Int), str (p.a i).t.s, .slice Ai (p.a i).t.k ci, .bool (p.a i).t.op] 68) = u2 at *
   have hR1 := hR1.ext hXX
   have HI2 := HI2.ext hXX
   refine hK.out _ _ (hHeld.trans (hXX.mono (by simp))) (fun hHeld => ?_)
   clear hK K hXX
   (try simp only [Act.put, gTl, g0l, gSl, sTl, s0l, sSl])
   generalize hgp : u1.heap.size = gp at *
   refine wpAnyH_ready (rs := [8]) (by kernel_rfl) (by simp) ?_
   refine AllReadyH.cons rfl (fun K hK => ?_) AllReadyH.nil
   go_simp
   go_at_call 158
   refine (ListV_any _ _ _ _).mono ?_
   rintro x u3 ⟨rfl, hb3⟩
   have hR1 := hR1.ext hb3
   have HI2 := HI2.ext hb3
   have HP2 := HP2.ext hb3
   refine hK.out _ _ (hHeld.trans (hb3.mono (by simp))) (fun hHeld => ?_)
   clear hK K
   (try simp only [Act.put, gTl, g0l, gSl, sTl, s0l, sSl])
   refine wpAnyH_ready (rs := [9]) (by kernel_rfl) (by simp) ?_
   refine AllReadyH.cons rfl (fun K hK => ?_) AllReadyH.nil
   go_simp
   have HQ2_n : W1.heap.size <= u3.heap.size := hHeld.size
   have HQ2 : Blk (World.alloc u3 (.cells #[.int .i64 4, .int .u64 0, str [], .slice (some ⟨gp, 0, none⟩) 2 2, .bool false] 68)) u3.heap.size 68 #[.int .i64 4, .int .u64 0, str [], .slice (some ⟨gp, 0, none⟩) 2 2, .bool false] := Blk.new _ _ _
   have hXX : Ext u3 (World.alloc u3 (.cells #[.int .i64 4, .int .u64 0, str [], .slice (some ⟨gp, 0, none⟩) 2 2, .bool false] 68)) := (Mod.refl [] _).alloc _
   have hZN : u3.heap.size < (World.alloc u3 (.cells #[.int .i64 4, .int .u64 0, str [], .slice (some ⟨gp, 0, none⟩) 2 2, .bool false] 68)).heap.size := HQ2.lt
   generalize World.alloc u3 (.cells #[.int .i64 4, .int .u64 0, str [], .slice (some ⟨gp, 0, none⟩) 2 2, .bool false] 68) = u4 at *
   have hR1 := hR1.ext hXX
   have HI2 := HI2.ext hXX
   have HP2 := HP2.ext hXX
   refine hK.out _ _ (hHeld.trans (hXX.mono (by simp))) (fun hHeld => ?_)
   clear hK K hXX
   (try simp only [Act.put, gTl, g0l, gSl, sTl, s0l, sSl])
   generalize hgq : u3.heap.size = gq at *
   refine wpAnyH_ready (rs := [10]) (by kernel_rfl) (by simp) ?_
   refine AllReadyH.cons rfl (fun K hK => ?_) AllReadyH.nil
   have HPT : IsL u4 (fun b => ((Q b /\ b < w.heap.size) \/ w.heap.size + 1 <= b) /\ offA A' b) (pairT (p.a i)) (some ⟨gp, 0, none⟩) := pair_IsL HI0.out HP2 (IsL.weak (fun b _ hb => ⟨.inl hb, fun g hg => by have := (HOB.out g hg).1; have := hb.2; omega⟩) _ HI2) ⟨.inr (by have := HSZ.out; omega), fun g hg => by have := (HOB.out g hg).2; show gp ≠ g.block; omega⟩
   obtain ⟨ib, hi, hz0, hz1, hz2⟩ := info_parts infoItem
   refine wp_append_lies _ _ _ 66 (by rfl) (w.heap.size + 1) 68 ib _ 5 64 vqF hi hz0 hz1 hz2 (by rfl) (by decide) _ i _ (by rfl) hR1.own ⟨gq, 0, none⟩ 1 1 [.int .i64 4, .int .u64 0, str [], .slice (some ⟨gp, 0, none⟩) 2 2, .bool false] (by rfl) (by rfl) ?gnew ?gone (by decide) ?gm ?gb ?gbase (u4.heap.size) rfl ?gk
   case gnew =>
    intro j u hu
    rw [addr_add, Nat.zero_add, HQ2.cell j]
    simpa using hu
   case gone => intro u hu; simp at hu; rcases hu with rfl | rfl | rfl | rfl | rfl <;> rfl
   case gm => have := HLT.out; have := HK.out; unfold maxLen; omega
   case gb => have := HLT.out; have := HK.out; omega
   case gbase => have := HSZ.out; have := hHeld.size; omega
   intro g' cp' u5 hown' hgr' hat' hlt'
   obtain ⟨ac', hR5⟩ := hR1.append HPT rfl hown' hgr' hat'
   refine hK.out _ _ (hHeld.trans (grown_obs hgr')) (fun hHeld => ?_)
   clear hK K
   (try simp only [Act.put, gTl, g0l, gSl, sTl, s0l, sSl])
   refine' wpAnyH_take (i := 11) (v := _) rfl (by kernel_rfl) (by kernel_rfl) (by kernel_rfl) (fun _ _ _ h => h) (Or.inl ⟨by rfl, ?hy6⟩) hHeld ?rest6
   case hy6 => (rintro W hM; go_simp; (try with_reducible rfl))
   case rest6 =>
   (try simp only [Act.put, gTl, g0l, gSl, sTl, s0l, sSl])
   refine wpAnyH_done (by kernel_rfl) ?_ _
   go_wp2_with fail
   go_roundw
   case rel => exact ⟨i + 1, some ⟨g', 0, none⟩, cp', ac', by go_num, rfl, (show Hid _ from ⟨HLT.out, (HE1.out.of_ext (S := obs A')).trans hHeld |>.new (fun k hk => .inr (by
    cases A' with
    | none => cases hk
    | some g => have := HOB.out g rfl; have := HV1.out; simp [obs] at hk; omega)), hR5⟩)⟩
   case measure => have := HLT.out; simp [intOf]; omega
  .
   obtain rfl : i = k := by have := hS.out.1; omega
   have tc : decide (i < i) = false := by simp
   have HEW := hid (HE.out.trans hS.out.2.1)
   have HIL : Hid (IsL wr (fun b => (Q b /\ b < w.heap.size) \/ w.heap.size + 1 <= b) (plT p) A') := hid (by unfold plT; rw [HKK.out]; exact hS.out.2.2.isL (fun b hb => .inr hb))
   have HPV : Hid (itemV (plT p) A' c' = .agg #[.int .i64 4, .int .u64 0, str [], .slice A' i c', .bool false]) := hid (by rw [<- HKK.out]; rfl)
   have HBR := hid (HB0.out.ext hS.out.2.1)
   clear hS
   go_wp2_with (go_at_call 158; refine (ListV_any _ _ _ _).mono ?_; rintro x w3 ⟨rfl, hb3⟩; obtain ⟨c0, c1, c2, c3, c4⟩ := cells5 (HBR.out.ext hb3); have f0 := (HBR.out.ext hb3).frozen 0; have f1 := (HBR.out.ext hb3).frozen 1; have f2 := (HBR.out.ext hb3).frozen 2; have f3 := (HBR.out.ext hb3).frozen 3; have f4 := (HBR.out.ext hb3).frozen 4)
   obtain ⟨d0, d1, d2, d3, d4⟩ := cells5 (set5_blk (t := T.mk 4 0 [] false i (fun _ => T.nil)) (A := A') (c := c') (HBR.out.ext hb3))
   clear c0 c1 c2 c3 c4 f0 f1 f2 f3 f4
   show bodyPost _ _ _ _ _ (set5 w3 w.heap.size (T.mk 4 0 [] false i (fun _ => T.nil)) A' c')
   refine bodyPost_ret (v := .agg #[.int .i64 4, .int .u64 0, str [], .slice A' i c', .bool false]) (by simp [results, Tryz.results157, go_sem, d0, d1, d2, d3, d4]; exact ⟨rfl, rfl, rfl, rfl, rfl⟩) rfl ⟨A', c', by rw [HPV.out], set5_mod (HEW.out.trans hb3) (Nat.le_refl _), ?_⟩
   exact IsL.weak (fun b _ h => h.elim (fun h => .inl h.1) (fun h => .inr (by omega))) _ (IsL.mod (Q := fun b => (Q b /\ b < w.heap.size) \/ w.heap.size + 1 <= b) set5_modb (fun b hb _ hs => by rw [List.mem_singleton] at hs; rcases hb with hb | hb; (have := hb.2; omega); omega) _ (HIL.out.ext hb3))
def Crc.x25 (l : List UInt8) : Nat := 65535 - Crc.divC 33800 65535 l
def Crc.cast (l : List UInt8) : Nat := 4294967295 - Crc.divC 2197175160 4294967295 l
def Crc.sumL (kind : Nat) (l : List UInt8) : List UInt8 := if kind = 1 then be (Crc.x25 l) 2 else if kind = 2 then be (Crc.cast l) 4 else []
theorem Size_any (k : Nat) (hk : k <= 2) (w : World) : Calls Tryz.prog 164 #[.int .i64 (k : Int)] w (Ret (.int .i64 ((2 * k : Nat) : Int)) w) := by
 go_enter Tryz.func164, Tryz.ntmps164
 go_wp2
 go_ret
 exact Ret.mk (by simp) (Mod.refl _ _)
theorem X25_any (l : List UInt8) (hl : Hid (l.length < 1000000)) (w : World) : Calls Tryz.prog 196 #[str l] w (Ret (.int .u16 (Crc.x25 l : Nat)) w) := by
 have hd : Crc.divC 33800 65535 l < 65536 := Crc.divC_lt (m := 16) (by decide) l 65535 (by decide) (by decide)
 have tx : bits .xor .u16 IntKind.u16.max (Crc.divC 33800 65535 l : Int) = ((65535 - Crc.divC 33800 65535 l : Nat) : Int) := by
  rw [Crc.not_xor (n := 16) hd]
  exact u16_xor_nat 65535 _ (by decide) hd
 have K := hid (fun W => divide16 33800 65535 (by unfold Hid; decide) (by unfold Hid; decide) l hl W)
 unfold Crc.x25
 generalize Crc.divC 33800 65535 l = d at *
 go_enter Tryz.func196, Tryz.ntmps196
 go_wp2_with fail
 refine (K.out _).mono ?_
 rintro e w1 ⟨rfl, hb1⟩
 go_wp2_with fail
 go_ret
 exact Ret.mk (by simp) hb1
theorem Castagnoli_any (l : List UInt8) (hl : Hid (l.length < 1000000)) (w : World) : Calls Tryz.prog 197 #[str l] w (Ret (.int .u32 (Crc.cast l : Nat)) w) := by
 have hd : Crc.divC 2197175160 4294967295 l < 4294967296 := Crc.divC_lt (m := 32) (by decide) l 4294967295 (by decide) (by decide)
 have tx : bits .xor .u32 IntKind.u32.max (Crc.divC 2197175160 4294967295 l : Int) = ((4294967295 - Crc.divC 2197175160 4294967295 l : Nat) : Int) := by
  rw [Crc.not_xor (n := 32) hd]
  exact u32_xor_nat 4294967295 _ (by decide) hd
 have K := hid (fun W => divide32 2197175160 4294967295 (by unfold Hid; decide) (by unfold Hid; decide) l hl W)
 unfold Crc.cast
 generalize Crc.divC 2197175160 4294967295 l = d at *
 go_enter Tryz.func197, Tryz.ntmps197
 go_wp2_with fail
 refine (K.out _).mono ?_
 rintro e w1 ⟨rfl, hb1⟩
 go_wp2_with fail
 go_ret
 exact Ret.mk (by simp) hb1
theorem be2 {n : Nat} (h : n < 65536) : be n 2 = [b8 (n / 256), b8 (n % 256)] := by
 have e : n / 256 % 256 = n / 256 := by omega
 rw [be_succ, be_succ, be_zero]
 simp [e]
theorem be4 {n : Nat} (h : n < 4294967296) : be n 4 = [b8 (n / 16777216), b8 (n / 65536 % 256), b8 (n / 256 % 256), b8 (n % 256)] := by
 have e : n / 16777216 % 256 = n / 16777216 := by omega
 rw [be_succ, be_succ, be_succ, be_succ, be_zero]
 simp [e]
theorem b8_cast {n : Nat} (h : n < 256) : ((b8 n).toNat : Int) = (n : Int) := by
 simp [b8]
 omega
theorem conv_new (l : List UInt8) (c : Nat) (W : World) : (convert 123 9 (.slice (some ⟨W.heap.size, 0, none⟩) l.length c)).run Tryz.prog (W.alloc (.cells (l.map fun b => Value.int .u8 (b.toNat : Int)).toArray 5)) = .ok (str l) (W.alloc (.cells (l.map fun b => Value.int .u8 (b.toNat : Int)).toArray 5)) := by
 refine run_convert_bytes_back (P := Tryz.prog) _ 123 9 5 _ c l vqD vqH vqI (fun j hj => ?_)
 rw [addr_add, Nat.zero_add, (Blk.new W 5 _).cell j]
 simp [hj]
theorem Sum_1 (l : List UInt8) (hl : Hid (l.length < 1000000)) (w : World) : Calls Tryz.prog 182 #[.int .i64 1, str l] w (Ret (str (be (Crc.x25 l) 2)) w) := by
 have hd : Crc.x25 l < 65536 := by unfold Crc.x25; omega
 have K := hid (fun W => X25_any l hl W)
 generalize Crc.x25 l = d at *
 have hcv : ∀ W : World, (convert 123 9 (.slice (some ⟨W.heap.size, 0, none⟩) 2 2)).run Tryz.prog (W.alloc (.cells #[.int .u8 ((d : Int) / 256), .int .u8 ((d : Int) % 256)] 5)) = .ok (str (be d 2)) (W.alloc (.cells #[.int .u8 ((d : Int) / 256), .int .u8 ((d : Int) % 256)] 5)) := fun W => by
  have := conv_new (be d 2) 2 W
  rw [be_length, be2 hd] at this
  simpa [b8_cast (show d / 256 < 256 by omega), b8_cast (show d % 256 < 256 by omega), be2 hd] using this
 go_enter Tryz.func182, Tryz.ntmps182
 go_wp2_with fail
 refine (K.out _).mono ?_
 rintro e w1 ⟨rfl, hb1⟩
 go_wp2_with fail
 go_ret
 exact Ret.mk rfl (hb1.alloc _)
theorem Sum_2 (l : List UInt8) (hl : Hid (l.length < 1000000)) (w : World) : Calls Tryz.prog 182 #[.int .i64 2, str l] w (Ret (str (be (Crc.cast l) 4)) w) := by
 have hd : Crc.cast l < 4294967296 := by unfold Crc.cast; omega
 have K := hid (fun W => Castagnoli_any l hl W)
 generalize Crc.cast l = d at *
 have hcv : ∀ W : World, (convert 123 9 (.slice (some ⟨W.heap.size, 0, none⟩) 4 4)).run Tryz.prog (W.alloc (.cells #[.int .u8 ((d : Int) / 16777216), .int .u8 ((d : Int) / 65536 % 256), .int .u8 ((d : Int) / 256 % 256), .int .u8 ((d : Int) % 256)] 5)) = .ok (str (be d 4)) (W.alloc (.cells #[.int .u8 ((d : Int) / 16777216), .int .u8 ((d : Int) / 65536 % 256), .int .u8 ((d : Int) / 256 % 256), .int .u8 ((d : Int) % 256)] 5)) := fun W => by
  have := conv_new (be d 4) 4 W
  rw [be_length, be4 hd] at this
  simpa [b8_cast (show d / 16777216 < 256 by omega), b8_cast (show d / 65536 % 256 < 256 by omega), b8_cast (show d / 256 % 256 < 256 by omega), b8_cast (show d % 256 < 256 by omega), be4 hd] using this
 go_enter Tryz.func182, Tryz.ntmps182
 go_wp2_with fail
 refine (K.out _).mono ?_
 rintro e w1 ⟨rfl, hb1⟩
 go_wp2_with fail
 go_ret
 exact Ret.mk rfl (hb1.alloc _)
theorem Sum_any (k : Nat) (h1 : 1 <= k) (h2 : k <= 2) (l : List UInt8) (hl : Hid (l.length < 1000000)) (w : World) : Calls Tryz.prog 182 #[.int .i64 (k : Int), str l] w (Ret (str (Crc.sumL k l)) w) := by
 have : k = 1 \/ k = 2 := by omega
 rcases this with rfl | rfl
 . exact Sum_1 l hl w
 . exact Sum_2 l hl w
theorem Crc.sumL_length {k : Nat} (h1 : 1 <= k) (h2 : k <= 2) (l : List UInt8) : (Crc.sumL k l).length = 2 * k := by
 have : k = 1 \/ k = 2 := by omega
 rcases this with rfl | rfl
 . exact be_length _ _
 . exact be_length _ _
end Go.Proofs.YtmckfdmdkljomaaGreatDoor
