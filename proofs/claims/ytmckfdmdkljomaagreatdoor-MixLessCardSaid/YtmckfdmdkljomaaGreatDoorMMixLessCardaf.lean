/-
 Which names, primaries and bundles are of a size that is looked at.
-/
import Derived.Test.YtmckfdmdkljomaaGreatDoorMMixLessCardad
import Derived.Test.YtmckfdmdkljomaaGreatDoorMMixLessCardae
namespace Go.Proofs.YtmckfdmdkljomaaGreatDoor
open Go.RowKit
set_option linter.unusedVariables false
set_option linter.unusedSimpArgs false
theorem few10L_any (e : EV) (w : World) : Calls Tryz.prog 79 #[.agg #[.int .i64 e.sch, str e.name, .int .u64 (e.node : Int), .int .u64 (e.svc : Int)]] w (Ret (.bool (decide (e.name.length <= 100))) w) := by
 go_enter Tryz.func79, Tryz.ntmps79
 go_wp2
 go_ret
 refine Ret.mk ?_ ((Mod.refl _ _).alloc _)
 simp
 omega
def PV.few (p : PV) : Bool := decide (p.d.name.length <= 100) && decide (p.s.name.length <= 100) && decide (p.r.name.length <= 100)
set_option maxRecDepth 20000 in
set_option maxHeartbeats 800000 in
theorem few11P_any (p : PV) (w : World) : Calls Tryz.prog 51 #[.agg p.c] w (Ret (.bool p.few) w) := by
 have HE := hid ((Mod.refl [] w).alloc (.cells p.c 26))
 have HB := hid (Blk.new w 26 p.c)
 have HF : Hid (p.few = (decide (p.d.name.length <= 100) && decide (p.s.name.length <= 100) && decide (p.r.name.length <= 100))) := rfl
 have K1 := hid (fun W => few10L_any p.d W)
 have K2 := hid (fun W => few10L_any p.s W)
 have K3 := hid (fun W => few10L_any p.r W)
 cases h1 : decide (p.d.name.length <= 100)
 all_goals cases h2 : decide (p.s.name.length <= 100)
 all_goals cases h3 : decide (p.r.name.length <= 100)
 all_goals rw [h1] at K1 HF
 all_goals rw [h2] at K2 HF
 all_goals rw [h3] at K3 HF
 all_goals clear h1 h2 h3
 all_goals go_enter Tryz.func51, Tryz.ntmps51
 all_goals go_upto_region 1 with fail
 all_goals generalize w.alloc (.cells p.c 26) = V at *
 all_goals have b2 : ∀ e : Later V, e.x.cell? ⟨w.heap.size, 2, none⟩ = some (.int .i64 p.d.sch) := HB.out.cellL 2 rfl
 all_goals have b3 : ∀ e : Later V, e.x.cell? ⟨w.heap.size, 3, none⟩ = some (str p.d.name) := HB.out.cellL 3 rfl
 all_goals have b4 : ∀ e : Later V, e.x.cell? ⟨w.heap.size, 4, none⟩ = some (.int .u64 (p.d.node : Int)) := HB.out.cellL 4 rfl
 all_goals have b5 : ∀ e : Later V, e.x.cell? ⟨w.heap.size, 5, none⟩ = some (.int .u64 (p.d.svc : Int)) := HB.out.cellL 5 rfl
 all_goals have b6 : ∀ e : Later V, e.x.cell? ⟨w.heap.size, 6, none⟩ = some (.int .i64 p.s.sch) := HB.out.cellL 6 rfl
 all_goals have b7 : ∀ e : Later V, e.x.cell? ⟨w.heap.size, 7, none⟩ = some (str p.s.name) := HB.out.cellL 7 rfl
 all_goals have b8 : ∀ e : Later V, e.x.cell? ⟨w.heap.size, 8, none⟩ = some (.int .u64 (p.s.node : Int)) := HB.out.cellL 8 rfl
 all_goals have b9 : ∀ e : Later V, e.x.cell? ⟨w.heap.size, 9, none⟩ = some (.int .u64 (p.s.svc : Int)) := HB.out.cellL 9 rfl
 all_goals have b10 : ∀ e : Later V, e.x.cell? ⟨w.heap.size, 10, none⟩ = some (.int .i64 p.r.sch) := HB.out.cellL 10 rfl
 all_goals have b11 : ∀ e : Later V, e.x.cell? ⟨w.heap.size, 11, none⟩ = some (str p.r.name) := HB.out.cellL 11 rfl
 all_goals have b12 : ∀ e : Later V, e.x.cell? ⟨w.heap.size, 12, none⟩ = some (.int .u64 (p.r.node : Int)) := HB.out.cellL 12 rfl
 all_goals have b13 : ∀ e : Later V, e.x.cell? ⟨w.heap.size, 13, none⟩ = some (.int .u64 (p.r.svc : Int)) := HB.out.cellL 13 rfl
 all_goals obtain ⟨e0, he0⟩ := Later.self V
 all_goals rw [he0]
 all_goals clear he0
 all_goals go_wp2_with (go_at_call 79; first | ((with_reducible refine (Ret.later (K1.out _)).mono ?_); rintro x _ ⟨rfl, e1, rfl⟩) | ((with_reducible refine (Ret.later (K2.out _)).mono ?_); rintro x _ ⟨rfl, e1, rfl⟩) | ((with_reducible refine (Ret.later (K3.out _)).mono ?_); rintro x _ ⟨rfl, e1, rfl⟩))
 all_goals go_ret
 all_goals exact Ret.mk (by rw [HF.out]; rfl) (HE.out.trans e1.h)
def bsFew (bs : Nat -> BV) (i : Nat) : Bool := decide (4100 < (bs i).data.length)
def bunFew (p : PV) (bs : Nat -> BV) (k : Nat) : Bool := decide (k <= 20) && ((firstOf (bsFew bs) k).isNone && p.few)
theorem bunFew_spec {p : PV} {bs : Nat -> BV} {k : Nat} (h : bunFew p bs k = true) : k <= 20 /\ p.few = true /\ ∀ i, i < k -> (bs i).data.length <= 4100 := by
 unfold bunFew at h
 simp only [Bool.and_eq_true, decide_eq_true_eq] at h
 refine ⟨h.1, h.2.2, fun i hi => ?_⟩
 cases hf : firstOf (bsFew bs) k with
 | some x => rw [hf] at h; simp at h
 | none =>
  have := firstOf_no hf i hi
  unfold bsFew at this
  simp at this
  exact this
theorem bunFew_long {p : PV} {bs : Nat -> BV} {k i : Nat} (hi : i < k) (h : 4100 < (bs i).data.length) : bunFew p bs k = false := by
 cases hb : bunFew p bs k with
 | false => rfl
 | true => have := (bunFew_spec hb).2.2 i hi; omega
set_option maxRecDepth 20000 in
set_option maxHeartbeats 800000 in
theorem few13_any (p : PV) (bs : Nat -> BV) (k c : Nat) (A : Option Addr) (hk : k < 4611686018427387904) (w : World) (h : BsL w A k bs) : Calls Tryz.prog 25 #[bunV p A k c] w (Ret (.bool (bunFew p bs k)) w) := by
 have KF := hid (fun W => few11P_any p W)
 have HE := hid ((Mod.refl [] w).alloc (.cells (bunC p A k c) 29))
 have HB := hid (Blk.new w 29 (bunC p A k c))
 have HL := hid (BsL.ext h HE.out)
 have k1 : (k : Int) < 4611686018427387904 := by omega
 have HK := hid hk
 clear h hk
 go_enter Tryz.func25, Tryz.ntmps25
 go_wp2_with fail
 generalize w.alloc (.cells (bunC p A k c) 29) = V at *
 have b19 : ∀ e : Later V, e.x.cell? ⟨w.heap.size, 19, none⟩ = some (.slice A k c) := HB.out.cellL 19 rfl
 obtain ⟨e0, he0⟩ := Later.self V
 go_loopw [3] (fun s3 wr => ∃ i : Nat, s3 = .int .i64 (i : Int) /\ Hid (i <= k /\ i <= 30 /\ ∀ j, j < i -> (bs j).data.length <= 4100) /\ ∃ e : Later V, wr = e.x) (fun s3 _ => 30 - (intOf s3).toNat)
 case atStart => exact ⟨0, rfl, (show Hid _ from ⟨by omega, by omega, fun j hj => by omega⟩), e0, he0⟩
 case round =>
  clear he0 e0
  obtain ⟨i, rfl, hi, e, rfl⟩ := hrel
  have i0 : (0 : Int) <= (i : Int) := by omega
  by_cases hlt : i < k /\ i < 30
  .
   obtain ⟨hlt, hl30⟩ := hlt
   obtain ⟨b, o, rfl, hb, q0, q1, q2, q3, q4⟩ := HL.out.cells hlt
   have tc : decide (i < k) = true := by simp [hlt]
   have tc3 : decide ((i : Int) < 30) = true := by simp; omega
   have i1 : (i : Int) < (k : Int) := by omega
   have HLT := hid hlt
   have HL30 := hid hl30
   clear hlt hl30 q0 q1 q2 q3
   by_cases ht : 4100 < (bs i).data.length
   .
    have t1 : decide (4100 < ((bs i).data.length : Int)) = true := by simp; omega
    have t2 : (4100 < (bs i).data.length) = True := by simp; omega
    have HF := hid (bunFew_long (p := p) HLT.out ht)
    clear ht
    go_wp2_with fail
    go_ret
    exact Ret.mk (by rw [HF.out]; rfl) (HE.out.trans e.h)
   .
    have t1 : decide (4100 < ((bs i).data.length : Int)) = false := by simp; omega
    have t2 : (4100 < (bs i).data.length) = False := by simp; omega
    have HN := hid ht
    clear ht
    go_wp2_with fail
    go_roundw
    case rel => exact ⟨i + 1, by go_num, (show Hid _ from ⟨HLT.out, HL30.out, fun j hj => by
     by_cases hji : j = i
     . subst hji; have := HN.out; omega
     . exact hi.out.2.2 j (by omega)⟩), e, rfl⟩
    case measure => have := HL30.out; simp [intOf]; omega
  .
   by_cases hk20 : k <= 20
   .
    obtain rfl : i = k := by have := hi.out; omega
    have tc : decide (i < i) = false := by simp
    have t20 : decide ((i : Int) <= 20) = true := by simp; omega
    have HF : Hid (bunFew p bs i = p.few) := by
     unfold Hid bunFew
     rw [firstOf_none (fun j hj => by unfold bsFew; have := hi.out.2.2 j hj; simp; omega)]
     simp [hk20]
    clear hlt hk20
    have HPR : Hid (∀ e : Later V, e.x.rangeAt w.heap.size 0 p.c.toList) := HB.out.range 0 19 (by rw [Array.toList_extract]; rfl)
    go_wp2_with (first | (refine wpList_mid (by rfl) 26 _ rfl _ 0 rfl _ _ (HPR.out e) vqJ rfl (by kernel_rfl) ?_) | (go_at_call 51; refine (Ret.later (KF.out _)).mono ?_; rintro x _ ⟨rfl, e1, rfl⟩))
    go_ret
    exact Ret.mk (by rw [HF.out]; rfl) (HE.out.trans e1.h)
   .
    have t20 : decide ((k : Int) <= 20) = false := by simp; omega
    have HF : Hid (bunFew p bs k = false) := by unfold Hid bunFew; simp [hk20]
    by_cases hik : i < k
    .
     have tc : decide (i < k) = true := by simp [hik]
     have tc3 : decide ((i : Int) < 30) = false := by have := hi.out; simp; omega
     clear hlt hk20 hik
     go_wp2_with fail
     go_ret
     exact Ret.mk (by rw [HF.out]; rfl) (HE.out.trans e.h)
    .
     obtain rfl : i = k := by have := hi.out; omega
     have tc : decide (i < i) = false := by simp
     clear hlt hk20 hik
     go_wp2_with fail
     go_ret
     exact Ret.mk (by rw [HF.out]; rfl) (HE.out.trans e.h)
def textT (s : List UInt8) : T := T.mk 3 0 s false 0 fun _ => T.nil
def twoT (e : EV) : T := if e.sch = 2 then T.mk 4 0 [] false 2 (fun j => if j = 0 then numT e.node else numT e.svc) else if e.name = noneL then numT 0 else textT e.name
def eidT (e : EV) : T := T.mk 4 0 [] false 2 fun i => if i = 0 then numT e.sch.toNat else twoT e
set_option maxRecDepth 20000 in
set_option maxHeartbeats 800000 in
theorem eidItem_bad (sch : Int) (name : List UInt8) (node svc : Nat) (hs : Hid (name.length < 4611686018427387904)) (ho : EV.ok ⟨sch, name, node, svc⟩ = false) (w : World) :
  Calls Tryz.prog 147 #[EV.v ⟨sch, name, node, svc⟩] w (Ret (.tuple #[itemV (numT 0) none 0, .int .i64 1]) w) := by
 have K := hid (fun W => eidRight_any ⟨sch, name, node, svc⟩ hs W)
 rw [ho] at K
 have HB := hid ((Blk.new w 24 (EV.c ⟨sch, name, node, svc⟩)).alloc (.cells #[.int .i64 0, .int .u64 0, .string ⟨#[]⟩, .slice none 0 0, .bool false] 68))
 have HR : Hid (Blk ((w.alloc (.cells (EV.c ⟨sch, name, node, svc⟩) 24)).alloc (.cells #[.int .i64 0, .int .u64 0, .string ⟨#[]⟩, .slice none 0 0, .bool false] 68)) (w.heap.size + 1) 68 (itemC (numT 0) none 0)) := by
  have := Blk.new (w.alloc (.cells (EV.c ⟨sch, name, node, svc⟩) 24)) 68 (itemC (numT 0) none 0)
  unfold Hid
  simpa [itemC, numT, T.kind, T.n, T.s, T.k, T.op] using this
 have HE := hid (((Mod.refl [] w).alloc (.cells (EV.c ⟨sch, name, node, svc⟩) 24)).alloc (.cells #[.int .i64 0, .int .u64 0, .string ⟨#[]⟩, .slice none 0 0, .bool false] 68))
 go_enter Tryz.func147, Tryz.ntmps147
 go_wp2_with fail
 refine (K.out _).mono ?_
 rintro e w1 ⟨rfl, hb1⟩
 have HB1 := hid (HB.out.ext hb1)
 have HR1 := hid (HR.out.ext hb1)
 have HE1 := hid (HE.out.trans hb1)
 clear hb1 HB HR HE
 obtain ⟨c0, c1, c2, c3, c4⟩ := cells5 HR1.out
 have f0 := Blk.frozen HR1.out 0
 have f1 := Blk.frozen HR1.out 1
 have f2 := Blk.frozen HR1.out 2
 have f3 := Blk.frozen HR1.out 3
 have f4 := Blk.frozen HR1.out 4
 go_wp2_with fail
 obtain ⟨d0, d1, d2, d3, d4⟩ := cells5 (set5_blk (t := numT 0) (A := none) (c := 0) HR1.out)
 clear c0 c1 c2 c3 c4 f0 f1 f2 f3 f4
 show bodyPost _ _ _ _ _ (set5 w1 (w.heap.size + 1) (numT 0) none 0)
 refine bodyPost_ret (v := .tuple #[itemV (numT 0) none 0, .int .i64 1]) (by simp [results, Tryz.results147, go_sem, d0, d1, d2, d3, d4]) rfl ?_
 exact Ret.mk rfl (set5_mod HE1.out (by omega))
set_option maxRecDepth 20000 in
set_option maxHeartbeats 1600000 in
theorem eidItem_none (w : World) :
  Calls Tryz.prog 147 #[EV.v ⟨1, [110, 111, 110, 101], 0, 0⟩] w (fun e w' => ∃ A, e = .returned (.tuple #[itemV (eidT ⟨1, [110, 111, 110, 101], 0, 0⟩) A 2, .int .i64 0]) /\ Ext w w' /\ IsL w' (fun b => w.heap.size <= b) (eidT ⟨1, [110, 111, 110, 101], 0, 0⟩) A) := by
 have K : Hid (∀ W, Calls Tryz.prog 153 #[EV.v ⟨1, [110, 111, 110, 101], 0, 0⟩] W (Ret (.bool true) W)) := fun W => by have := eidRight_any ⟨1, [110, 111, 110, 101], 0, 0⟩ (by unfold Hid; decide) W; rw [show EV.ok ⟨1, [110, 111, 110, 101], 0, 0⟩ = true by decide] at this; exact this
 have HB := hid ((Blk.new w 24 (EV.c ⟨1, [110, 111, 110, 101], 0, 0⟩)).alloc (.cells #[.int .i64 0, .int .u64 0, .string ⟨#[]⟩, .slice none 0 0, .bool false] 68))
 have HR : Hid (Blk ((w.alloc (.cells (EV.c ⟨1, [110, 111, 110, 101], 0, 0⟩) 24)).alloc (.cells #[.int .i64 0, .int .u64 0, .string ⟨#[]⟩, .slice none 0 0, .bool false] 68)) (w.heap.size + 1) 68 (itemC (numT 0) none 0)) := by
  have := Blk.new (w.alloc (.cells (EV.c ⟨1, [110, 111, 110, 101], 0, 0⟩) 24)) 68 (itemC (numT 0) none 0)
  unfold Hid
  simpa [itemC, numT, T.kind, T.n, T.s, T.k, T.op] using this
 have HE := hid (((Mod.refl [] w).alloc (.cells (EV.c ⟨1, [110, 111, 110, 101], 0, 0⟩) 24)).alloc (.cells #[.int .i64 0, .int .u64 0, .string ⟨#[]⟩, .slice none 0 0, .bool false] 68))
 go_enter Tryz.func147, Tryz.ntmps147
 go_wp2_with fail
 refine (K.out _).mono ?_
 rintro e w1 ⟨rfl, hb1⟩
 have HB1 := hid (HB.out.ext hb1)
 have HR1 := hid (HR.out.ext hb1)
 have HE1 := hid (HE.out.trans hb1)
 clear hb1 HB HR HE
 have x0 : w1.cell? ⟨w.heap.size, 0, none⟩ = some (.int .i64 1) := HB1.out.cell 0
 have x1 : w1.cell? ⟨w.heap.size, 1, none⟩ = some (str [110, 111, 110, 101]) := HB1.out.cell 1
 go_wp2_with fail
 refine (NumI_any _ _).mono ?_
 rintro e w2 ⟨rfl, hb2⟩
 go_wp2_with fail
 refine (NumI_any _ _).mono ?_
 rintro e w3 ⟨rfl, hb3⟩
 have H13 : Hid (w1.heap.size <= w3.heap.size) := Nat.le_trans hb2.size hb3.size
 have HE3 := hid ((HE1.out.trans hb2).trans hb3)
 have HR3 := hid ((HR1.out.ext hb2).ext hb3)
 clear hb2 hb3 x0 x1
 go_wp2_with fail
 refine (ListV_any 2 _ 2 _).mono ?_
 rintro e w4 ⟨rfl, hb4⟩
 have HOut := hid ((Blk.new w3 68 #[.int .i64 0, .int .u64 1, str [], .slice none 0 0, .bool false, .int .i64 0, .int .u64 0, str [], .slice none 0 0, .bool false]).ext hb4)
 have HE4 := hid ((HE3.out.alloc _).trans hb4)
 have HR4 := hid ((HR3.out.alloc _).ext hb4)
 clear hb4 HE3 HR3
 obtain ⟨c0, c1, c2, c3, c4⟩ := cells5 HR4.out
 have f0 := Blk.frozen HR4.out 0
 have f1 := Blk.frozen HR4.out 1
 have f2 := Blk.frozen HR4.out 2
 have f3 := Blk.frozen HR4.out 3
 have f4 := Blk.frozen HR4.out 4
 have HTT : Hid (eidT ⟨1, [110, 111, 110, 101], 0, 0⟩ = T.mk 4 0 [] false 2 fun i => if i = 0 then numT 1 else numT 0) := rfl
 have HFin : Hid (Ext w (set5 w4 (w.heap.size + 1) (eidT ⟨1, [110, 111, 110, 101], 0, 0⟩) (some ⟨w3.heap.size, 0, none⟩) 2) /\ Blk (set5 w4 (w.heap.size + 1) (eidT ⟨1, [110, 111, 110, 101], 0, 0⟩) (some ⟨w3.heap.size, 0, none⟩) 2) (w.heap.size + 1) 68 (itemC (eidT ⟨1, [110, 111, 110, 101], 0, 0⟩) (some ⟨w3.heap.size, 0, none⟩) 2) /\
   IsL (set5 w4 (w.heap.size + 1) (eidT ⟨1, [110, 111, 110, 101], 0, 0⟩) (some ⟨w3.heap.size, 0, none⟩) 2) (fun b => w.heap.size <= b) (eidT ⟨1, [110, 111, 110, 101], 0, 0⟩) (some ⟨w3.heap.size, 0, none⟩)) := by
  have hm : Mod [w.heap.size + 1] w4 (set5 w4 (w.heap.size + 1) (eidT ⟨1, [110, 111, 110, 101], 0, 0⟩) (some ⟨w3.heap.size, 0, none⟩) 2) := set5_modb
  have hl := HR1.out.lt
  have hs3 := H13.out
  have b1 := HOut.out.mod hm (by simp; omega)
  refine ⟨set5_mod HE4.out (by omega), set5_blk HR4.out, ?_⟩
  rw [HTT.out] at b1 ⊢
  refine fun _ => ⟨w3.heap.size, 0, rfl, b1.lt, (show w.heap.size <= w3.heap.size by omega), fun i hi => ?_⟩
  have hi2 : i = 0 \/ i = 1 := by omega
  rcases hi2 with rfl | rfl
  . exact ⟨none, 0, ⟨b1.cell 0, b1.cell 1, b1.cell 2, b1.cell 3, b1.cell 4⟩, fun h => absurd h (by decide)⟩
  . exact ⟨none, 0, ⟨b1.cell 5, b1.cell 6, b1.cell 7, b1.cell 8, b1.cell 9⟩, fun h => absurd h (by decide)⟩
 obtain ⟨d0, d1, d2, d3, d4⟩ := cells5 HFin.out.2.1
 go_wp2_with fail
 show bodyPost _ _ _ _ _ (set5 w4 (w.heap.size + 1) (eidT ⟨1, [110, 111, 110, 101], 0, 0⟩) (some ⟨w3.heap.size, 0, none⟩) 2)
 refine bodyPost_ret (v := .tuple #[itemV (eidT ⟨1, [110, 111, 110, 101], 0, 0⟩) (some ⟨w3.heap.size, 0, none⟩) 2, .int .i64 0]) (by simp [results, Tryz.results147, go_sem, d0, d1, d2, d3, d4]) rfl ?_
 exact ⟨_, rfl, HFin.out.1, HFin.out.2.2⟩
set_option maxRecDepth 20000 in
set_option maxHeartbeats 1600000 in
theorem eidItem_dtn (name : List UInt8) (hs : Hid (name.length < 4611686018427387904)) (hn : name ≠ [110, 111, 110, 101]) (ho : EV.ok ⟨1, name, 0, 0⟩ = true) (w : World) :
  Calls Tryz.prog 147 #[EV.v ⟨1, name, 0, 0⟩] w (fun e w' => ∃ A, e = .returned (.tuple #[itemV (eidT ⟨1, name, 0, 0⟩) A 2, .int .i64 0]) /\ Ext w w' /\ IsL w' (fun b => w.heap.size <= b) (eidT ⟨1, name, 0, 0⟩) A) := by
 have K : Hid (∀ W, Calls Tryz.prog 153 #[EV.v ⟨1, name, 0, 0⟩] W (Ret (.bool true) W)) := fun W => by have := eidRight_any ⟨1, name, 0, 0⟩ hs W; rw [ho] at this; exact this
 have hnn : Hid (¬ name = noneL) := hn
 have n1 : (name == [110, 111, 110, 101]) = false := by simpa using hn
 have n2 : (name = [110, 111, 110, 101]) = False := by simpa using hn
 clear hn
 have HB := hid ((Blk.new w 24 (EV.c ⟨1, name, 0, 0⟩)).alloc (.cells #[.int .i64 0, .int .u64 0, .string ⟨#[]⟩, .slice none 0 0, .bool false] 68))
 have HR : Hid (Blk ((w.alloc (.cells (EV.c ⟨1, name, 0, 0⟩) 24)).alloc (.cells #[.int .i64 0, .int .u64 0, .string ⟨#[]⟩, .slice none 0 0, .bool false] 68)) (w.heap.size + 1) 68 (itemC (numT 0) none 0)) := by
  have := Blk.new (w.alloc (.cells (EV.c ⟨1, name, 0, 0⟩) 24)) 68 (itemC (numT 0) none 0)
  unfold Hid
  simpa [itemC, numT, T.kind, T.n, T.s, T.k, T.op] using this
 have HE := hid (((Mod.refl [] w).alloc (.cells (EV.c ⟨1, name, 0, 0⟩) 24)).alloc (.cells #[.int .i64 0, .int .u64 0, .string ⟨#[]⟩, .slice none 0 0, .bool false] 68))
 go_enter Tryz.func147, Tryz.ntmps147
 go_wp2_with fail
 refine (K.out _).mono ?_
 rintro e w1 ⟨rfl, hb1⟩
 have HB1 := hid (HB.out.ext hb1)
 have HR1 := hid (HR.out.ext hb1)
 have HE1 := hid (HE.out.trans hb1)
 clear hb1 HB HR HE
 have x0 : w1.cell? ⟨w.heap.size, 0, none⟩ = some (.int .i64 1) := HB1.out.cell 0
 have x1 : w1.cell? ⟨w.heap.size, 1, none⟩ = some (str name) := HB1.out.cell 1
 have HS : Hid (∀ w', Ext w1 w' -> w'.cell? ⟨w.heap.size, 0, none⟩ = some (.int .i64 1) /\ w'.cell? ⟨w.heap.size, 1, none⟩ = some (str name)) := fun W hW => ⟨(HB1.out.ext hW).cell 0, (HB1.out.ext hW).cell 1⟩
 obtain ⟨c0, c1, c2, c3, c4⟩ := cells5 HR1.out
 have f0 := Blk.frozen HR1.out 0
 have f1 := Blk.frozen HR1.out 1
 have f2 := Blk.frozen HR1.out 2
 have f3 := Blk.frozen HR1.out 3
 have f4 := Blk.frozen HR1.out 4
 go_upto_region 7 with fail
 go_region_held3 (fun w' => w'.cell? ⟨w.heap.size, 0, none⟩ = some (.int .i64 1) /\ w'.cell? ⟨w.heap.size, 1, none⟩ = some (str name)) (go_keep)
  (first
   | (go_at_call 142; refine (NumI_any _ _).mono ?_; rintro x w3 ⟨rfl, hb3⟩; have hx : Ext w1 w3 := (by (with_reducible refine Mod.trans ?_ hb3); (repeat (first | with_reducible assumption | with_reducible exact Mod.refl _ _ | with_reducible refine Mod.drew ?_ | with_reducible refine Mod.alloc ?_ _))); have z := HS.out w3 hx; have H13 : Hid (w1.heap.size <= w3.heap.size) := hx.size)
   | (go_at_call 158; refine (ListV_any 2 _ 2 _).mono ?_; rintro x w4 ⟨rfl, hb4⟩; have hx : Ext w1 w4 := (by (with_reducible refine Mod.trans ?_ hb4); (repeat (first | with_reducible assumption | with_reducible exact Mod.refl _ _ | with_reducible refine Mod.drew ?_ | with_reducible refine Mod.alloc ?_ _))); have z := HS.out w4 hx; have HOut := hid ((Blk.new _ _ _).ext hb4); have HR4 := hid (HR1.out.ext hx); have HE4 := hid (HE1.out.trans hx); obtain ⟨g0, g1, g2, g3, g4⟩ := cells5 HR4.out; have f0 := Blk.frozen HR4.out 0; have f1 := Blk.frozen HR4.out 1; have f2 := Blk.frozen HR4.out 2; have f3 := Blk.frozen HR4.out 3; have f4 := Blk.frozen HR4.out 4))
 have HTT : Hid (eidT ⟨1, name, 0, 0⟩ = T.mk 4 0 [] false 2 fun i => if i = 0 then numT 1 else textT name) := by unfold Hid eidT twoT; simp only []; rw [if_neg (by decide), if_neg hnn.out]; rfl
 have HFin : Hid (Ext w (set5 w4 (w.heap.size + 1) (eidT ⟨1, name, 0, 0⟩) (some ⟨w3.heap.size, 0, none⟩) 2) /\ Blk (set5 w4 (w.heap.size + 1) (eidT ⟨1, name, 0, 0⟩) (some ⟨w3.heap.size, 0, none⟩) 2) (w.heap.size + 1) 68 (itemC (eidT ⟨1, name, 0, 0⟩) (some ⟨w3.heap.size, 0, none⟩) 2) /\
   IsL (set5 w4 (w.heap.size + 1) (eidT ⟨1, name, 0, 0⟩) (some ⟨w3.heap.size, 0, none⟩) 2) (fun b => w.heap.size <= b) (eidT ⟨1, name, 0, 0⟩) (some ⟨w3.heap.size, 0, none⟩)) := by
  have hm : Mod [w.heap.size + 1] w4 (set5 w4 (w.heap.size + 1) (eidT ⟨1, name, 0, 0⟩) (some ⟨w3.heap.size, 0, none⟩) 2) := set5_modb
  have hl := HR1.out.lt
  have hs3 := H13.out
  have b1 := HOut.out.mod hm (by simp; omega)
  refine ⟨set5_mod HE4.out (by omega), set5_blk HR4.out, ?_⟩
  rw [HTT.out] at b1 ⊢
  refine fun _ => ⟨w3.heap.size, 0, rfl, b1.lt, (show w.heap.size <= w3.heap.size by omega), fun i hi => ?_⟩
  have hi2 : i = 0 \/ i = 1 := by omega
  rcases hi2 with rfl | rfl
  . exact ⟨none, 0, ⟨b1.cell 0, b1.cell 1, b1.cell 2, b1.cell 3, b1.cell 4⟩, fun h => absurd h (by decide)⟩
  . exact ⟨none, 0, ⟨b1.cell 5, b1.cell 6, b1.cell 7, b1.cell 8, b1.cell 9⟩, fun h => absurd h (by decide)⟩
 obtain ⟨d0, d1, d2, d3, d4⟩ := cells5 HFin.out.2.1
 go_wp2_with fail
 show bodyPost _ _ _ _ _ (set5 w4 (w.heap.size + 1) (eidT ⟨1, name, 0, 0⟩) (some ⟨w3.heap.size, 0, none⟩) 2)
 refine bodyPost_ret (v := .tuple #[itemV (eidT ⟨1, name, 0, 0⟩) (some ⟨w3.heap.size, 0, none⟩) 2, .int .i64 0]) (by simp [results, Tryz.results147, go_sem, d0, d1, d2, d3, d4]) rfl ?_
 exact ⟨_, rfl, HFin.out.1, HFin.out.2.2⟩
def rightCases (node svc : Nat) (name : List UInt8) : Bool := decide (name = []) && decide (node <= 4294967295) && decide (svc <= 4294967295)
set_option maxRecDepth 20000 in
set_option maxHeartbeats 800000 in
theorem r10_two (name : List UInt8) (node svc : Nat) (w : World) : Calls Tryz.prog 63 #[EV.v ⟨2, name, node, svc⟩] w (Ret (.bool (rightCases node svc name)) w) := by
 unfold rightCases
 by_cases hn : name = []
 .
  subst hn
  by_cases ha : node <= 4294967295
  .
   have t1 : decide ((node : Int) <= 4294967295) = true := by simp; omega
   by_cases hb : svc <= 4294967295
   .
    have t2 : decide ((svc : Int) <= 4294967295) = true := by simp; omega
    have hr : (decide (([] : List UInt8) = []) && decide (node <= 4294967295) && decide (svc <= 4294967295)) = true := by simp [ha, hb]
    rw [hr]
    clear hr ha hb
    go_enter Tryz.func63, Tryz.ntmps63
    go_wp2_with fail
    go_ret
    exact Ret.mk rfl ((Mod.refl _ _).alloc _)
   .
    have t2 : decide ((svc : Int) <= 4294967295) = false := by simp; omega
    have hr : (decide (([] : List UInt8) = []) && decide (node <= 4294967295) && decide (svc <= 4294967295)) = false := by simp [hb]
    rw [hr]
    clear hr ha hb
    go_enter Tryz.func63, Tryz.ntmps63
    go_wp2_with fail
    go_ret
    exact Ret.mk rfl ((Mod.refl _ _).alloc _)
  .
   have t1 : decide ((node : Int) <= 4294967295) = false := by simp; omega
   have hr : (decide (([] : List UInt8) = []) && decide (node <= 4294967295) && decide (svc <= 4294967295)) = false := by simp [ha]
   rw [hr]
   clear hr ha
   go_enter Tryz.func63, Tryz.ntmps63
   go_wp2_with fail
   go_ret
   exact Ret.mk rfl ((Mod.refl _ _).alloc _)
 .
  have n1 : (name == []) = false := by simpa using hn
  have n2 : (name = []) = False := by simpa using hn
  have n3 : name.isEmpty = false := by simpa using hn
  have hr : (decide (name = []) && decide (node <= 4294967295) && decide (svc <= 4294967295)) = false := by simp [hn]
  rw [hr]
  clear hr hn
  go_enter Tryz.func63, Tryz.ntmps63
  go_wp2_with fail
  go_ret
  exact Ret.mk rfl ((Mod.refl _ _).alloc _)
set_option maxRecDepth 20000 in
theorem r10_none (w : World) : Calls Tryz.prog 63 #[EV.v ⟨1, [110, 111, 110, 101], 0, 0⟩] w (Ret (.bool true) w) := by
 go_enter Tryz.func63, Tryz.ntmps63
 go_wp2_with fail
 go_ret
 exact Ret.mk rfl ((Mod.refl _ _).alloc _)
set_option maxRecDepth 20000 in
theorem r10_sch (sch : Int) (name : List UInt8) (node svc : Nat) (h2 : sch ≠ 2) (h1 : sch ≠ 1) (w : World) : Calls Tryz.prog 63 #[EV.v ⟨sch, name, node, svc⟩] w (Ret (.bool false) w) := by
 have s1 : (sch = 1) = False := by simp [h1]
 have s2 : (sch == 1) = false := by simp [h1]
 have s3 : (sch = 2) = False := by simp [h2]
 have s4 : (sch == 2) = false := by simp [h2]
 have s5 : (sch != 1) = true := by simp [h1]
 clear h1 h2
 go_enter Tryz.func63, Tryz.ntmps63
 go_wp2_with fail
 go_ret
 exact Ret.mk rfl ((Mod.refl _ _).alloc _)
set_option maxRecDepth 20000 in
theorem r10_node (name : List UInt8) (node svc : Nat) (h : node ≠ 0) (w : World) : Calls Tryz.prog 63 #[EV.v ⟨1, name, node, svc⟩] w (Ret (.bool false) w) := by
 have z1 : ((node : Int) == 0) = false := by simp; omega
 have z2 : ((node : Int) = 0) = False := by simp; omega
 have z3 : ((node : Int) != 0) = true := by simp; omega
 clear h
 go_enter Tryz.func63, Tryz.ntmps63
 go_wp2_with fail
 go_ret
 exact Ret.mk rfl ((Mod.refl _ _).alloc _)
set_option maxRecDepth 20000 in
theorem r10_svc (name : List UInt8) (svc : Nat) (h : svc ≠ 0) (w : World) : Calls Tryz.prog 63 #[EV.v ⟨1, name, 0, svc⟩] w (Ret (.bool false) w) := by
 have z1 : ((svc : Int) == 0) = false := by simp; omega
 have z2 : ((svc : Int) = 0) = False := by simp; omega
 have z3 : ((svc : Int) != 0) = true := by simp; omega
 clear h
 go_enter Tryz.func63, Tryz.ntmps63
 go_wp2_with fail
 go_ret
 exact Ret.mk rfl ((Mod.refl _ _).alloc _)
set_option maxRecDepth 20000 in
theorem r10_long (name : List UInt8) (h : 60 < name.length) (w : World) : Calls Tryz.prog 63 #[EV.v ⟨1, name, 0, 0⟩] w (Ret (.bool false) w) := by
 have t1 : decide (60 < (name.length : Int)) = true := by simp; omega
 clear h
 go_enter Tryz.func63, Tryz.ntmps63
 go_wp2_with fail
 go_ret
 exact Ret.mk rfl ((Mod.refl _ _).alloc _)
set_option maxRecDepth 20000 in
set_option maxHeartbeats 1600000 in
theorem r10_name (name : List UInt8) (h60 : name.length <= 60) (hn : name ≠ [110, 111, 110, 101]) (w : World) : Calls Tryz.prog 63 #[EV.v ⟨1, name, 0, 0⟩] w (Ret (.bool (if slash name < 3 \/ name.take 2 ≠ [47, 47] then false else goodA (slash name) (name.drop 2) 2)) w) := by
 have t1 : decide (60 < (name.length : Int)) = false := by simp; omega
 have n1 : (name == [110, 111, 110, 101]) = false := by simpa using hn
 have n2 : (name = [110, 111, 110, 101]) = False := by simpa using hn
 have K := hid (fun W => slash_any name (by unfold Hid; omega) W)
 have HE := hid ((Mod.refl [] w).alloc (.cells (EV.c ⟨1, name, 0, 0⟩) 24))
 have HB := hid (Blk.new w 24 (EV.c ⟨1, name, 0, 0⟩))
 have hsl : slash name = 0 \/ 2 <= slash name := slashA_ge _ _
 by_cases h3 : slash name < 3
 .
  have t2 : decide ((slash name : Int) < 3) = true := by simp; omega
  rw [if_pos (Or.inl h3)]
  clear hn h60 h3 hsl
  generalize slash name = k at *
  go_enter Tryz.func63, Tryz.ntmps63
  go_wp2_with fail
  refine (K.out _).mono ?_
  rintro e w1 ⟨rfl, hb1⟩
  have HE1 := hid (HE.out.trans hb1)
  clear hb1
  go_wp2_with fail
  go_ret
  exact Ret.mk rfl HE1.out
 have t2 : decide ((slash name : Int) < 3) = false := by simp; omega
 have hl2 : 2 <= name.length := by
  rcases Nat.lt_or_ge name.length 2 with hl | hl
  .
   exfalso
   apply h3
   unfold slash
   rw [List.drop_eq_nil_of_le (by omega)]
   decide
  . exact hl
 have hx : ((⟨name.toArray⟩ : ByteArray).extract 0 2) = ⟨(name.take 2).toArray⟩ := by rw [ext0, List.drop_zero]
 by_cases ht : name.take 2 = [47, 47]
 case neg =>
  rw [if_pos (Or.inr ht)]
  have m1 : (name.take 2 == [47, 47]) = false := by simpa using ht
  have m2 : (name.take 2 = [47, 47]) = False := by simpa using ht
  clear hn h3 hsl ht
  generalize slash name = k at *
  generalize name.take 2 = p at *
  go_enter Tryz.func63, Tryz.ntmps63
  go_wp2_with fail
  refine (K.out _).mono ?_
  rintro e w1 ⟨rfl, hb1⟩
  have HE1 := hid (HE.out.trans hb1)
  have c1 : w1.cell? ⟨w.heap.size, 1, none⟩ = some (str name) := (HB.out.ext hb1).cell 1
  clear hb1
  go_wp2_with fail
  go_ret
  exact Ret.mk rfl HE1.out
 rw [if_neg (by intro h; rcases h with h | h; exact h3 h; exact h ht)]
 rw [ht] at hx
 obtain ⟨B, hB⟩ : ∃ B, goodA (slash name) (name.drop 2) 2 = B := ⟨_, rfl⟩
 rw [hB]
 have HG := hid hB
 clear hB hn h3 hsl ht
 generalize slash name = k at *
 go_enter Tryz.func63, Tryz.ntmps63
 go_wp2_with fail
 refine (K.out _).mono ?_
 rintro e w1 ⟨rfl, hb1⟩
 have HE1 := hid (HE.out.trans hb1)
 have HB1 := hid (HB.out.ext hb1)
 have c1 : w1.cell? ⟨w.heap.size, 1, none⟩ = some (str name) := HB1.out.cell 1
 clear hb1
 go_wp2_with fail
 have HW1 : Hid (Ext w w1 /\ w1.cell? ⟨w.heap.size, 1, none⟩ = some (str name) /\ w.heap.size < w1.heap.size) := ⟨HE1.out, c1, HB1.out.lt⟩
 clear HE HB HE1 HB1 c1
 go_loopw [4] (fun i wr => ∃ j : Nat, 2 <= j /\ j <= name.length /\ i = .int .i64 j /\ Hid (goodA k (name.drop j) j = B) /\ Hid (Ext w wr /\ wr.cell? ⟨w.heap.size, 1, none⟩ = some (str name) /\ w.heap.size < wr.heap.size)) (fun i _ => name.length - (intOf i).toNat)
 case atStart => exact ⟨2, Nat.le_refl _, hl2, rfl, HG, HW1⟩
 case round =>
  obtain ⟨j, hj2, hj, rfl, HP, HW⟩ := hrel
  have c1 := HW.out.2.1
  by_cases hlt : j < name.length
  .
   have hdr : name.drop j = name[j] :: name.drop (j + 1) := List.drop_eq_getElem_cons hlt
   rw [hdr, goodA] at HP
   clear hdr
   by_cases hjk : j < k
   .
    have u1 : decide (j < k) = true := by simp; omega
    have u2 : decide (k < j) = false := by simp; omega
    have KL := hid (fun W => letter_any (name[j]) W)
    by_cases hl : lett name[j] = true
    .
     have HN : Hid (goodA k (name.drop (j + 1)) (j + 1) = B) := hid (by have := HP.out; simpa [hjk, hl, show ¬ k < j by omega] using this)
     rw [hl] at KL
     clear HP hl hjk
     go_wp2_with fail
     refine (KL.out _).mono ?_
     rintro e w2 ⟨rfl, hb2⟩
     have HW2 : Hid (Ext w w2 /\ w2.cell? ⟨w.heap.size, 1, none⟩ = some (str name) /\ w.heap.size < w2.heap.size) := ⟨HW.out.1.trans hb2, (hb2.cell HW.out.2.2 (by simp)).trans HW.out.2.1, Nat.lt_of_lt_of_le HW.out.2.2 hb2.size⟩
     clear hb2 c1
     go_wp2_with fail
     go_roundw
     case rel => exact ⟨j + 1, by omega, by omega, by go_num, HN, HW2⟩
     case measure => simp [intOf]; omega
    .
     have hl2 : lett name[j] = false := by simpa using hl
     have HN : Hid (false = B) := hid (by have := HP.out; simpa [hjk, hl2] using this)
     rw [hl2] at KL
     clear HP hl hl2 hjk
     go_wp2_with fail
     refine (KL.out _).mono ?_
     rintro e w2 ⟨rfl, hb2⟩
     go_wp2_with fail
     go_ret
     exact Ret.mk (by rw [<- HN.out]; rfl) (HW.out.1.trans hb2)
   .
    have u1 : decide (j < k) = false := by simp; omega
    by_cases hkj : k < j
    .
     have u2 : decide (k < j) = true := by simp; omega
     have hx8 := (name[j]).toNat_lt
     by_cases hp : prin name[j] = true
     .
      have HN : Hid (goodA k (name.drop (j + 1)) (j + 1) = B) := hid (by have := HP.out; simpa [hjk, hkj, hp] using this)
      have hp2 : 33 <= (name[j]).toNat /\ (name[j]).toNat <= 126 := by simpa [prin] using hp
      have v1 : decide ((((⟨name.toArray⟩ : ByteArray)[j]'hlt).toNat : Int) < 33) = false := by show decide (((name[j]).toNat : Int) < 33) = false; simp; omega
      have v2 : decide (126 < (((⟨name.toArray⟩ : ByteArray)[j]'hlt).toNat : Int)) = false := by show decide (126 < ((name[j]).toNat : Int)) = false; simp; omega
      clear HP hp hp2 hjk hkj hx8
      go_wp2_with fail
      go_roundw
      case rel => exact ⟨j + 1, by omega, by omega, by go_num, HN, HW⟩
      case measure => simp [intOf]; omega
     .
      have hp1 : prin name[j] = false := by simpa using hp
      have HN : Hid (false = B) := hid (by have := HP.out; simpa [hjk, hkj, hp1] using this)
      have hp2 : ¬ (33 <= (name[j]).toNat /\ (name[j]).toNat <= 126) := by simpa [prin] using hp
      by_cases h33 : (name[j]).toNat < 33
      .
       have v1 : decide ((((⟨name.toArray⟩ : ByteArray)[j]'hlt).toNat : Int) < 33) = true := by show decide (((name[j]).toNat : Int) < 33) = true; simp; omega
       clear HP hp hp1 hp2 hjk hkj hx8 h33
       go_wp2_with fail
       go_ret
       exact Ret.mk (by rw [<- HN.out]; rfl) HW.out.1
      .
       have v1 : decide ((((⟨name.toArray⟩ : ByteArray)[j]'hlt).toNat : Int) < 33) = false := by show decide (((name[j]).toNat : Int) < 33) = false; simp; omega
       have v2 : decide (126 < (((⟨name.toArray⟩ : ByteArray)[j]'hlt).toNat : Int)) = true := by show decide (126 < ((name[j]).toNat : Int)) = true; simp; omega
       clear HP hp hp1 hp2 hjk hkj hx8 h33
       go_wp2_with fail
       go_ret
       exact Ret.mk (by rw [<- HN.out]; rfl) HW.out.1
    .
     have u2 : decide (k < j) = false := by simp; omega
     have HN : Hid (goodA k (name.drop (j + 1)) (j + 1) = B) := hid (by have := HP.out; simpa [hjk, hkj] using this)
     clear HP hjk hkj
     go_wp2_with fail
     go_roundw
     case rel => exact ⟨j + 1, by omega, by omega, by go_num, HN, HW⟩
     case measure => simp [intOf]; omega
  .
   obtain rfl : j = name.length := by omega
   have HN : Hid (true = B) := by have := HP.out; rw [List.drop_length] at this; exact this
   clear HP
   go_wp2_with fail
   go_ret
   exact Ret.mk (by rw [<- HN.out]; rfl) HW.out.1
theorem r10_any (e : EV) (w : World) : Calls Tryz.prog 63 #[e.v] w (Ret (.bool e.ok) w) := by
 rw [<- EV.ok_eq]
 obtain ⟨sch, name, node, svc⟩ := e
 unfold EV.okR
 simp only []
 by_cases h2 : sch = 2
 . subst h2; rw [if_pos rfl]; exact r10_two name node svc w
 rw [if_neg h2]
 by_cases h1 : sch = 1
 case neg => rw [if_pos (Or.inl h1)]; exact r10_sch sch name node svc h2 h1 w
 subst h1
 by_cases hn : node = 0
 case neg => rw [if_pos (by omega)]; exact r10_node name node svc hn w
 subst hn
 by_cases hv : svc = 0
 case neg => rw [if_pos (by omega)]; exact r10_svc name svc hv w
 subst hv
 by_cases hl : 60 < name.length
 . rw [if_pos (by omega)]; exact r10_long name hl w
 rw [if_neg (by omega)]
 by_cases h0 : name = noneL
 . rw [if_pos h0]; subst h0; exact r10_none w
 rw [if_neg h0]
 exact r10_name name (by omega) h0 w
theorem EV.ok_cases {e : EV} (h : e.ok = true) : (e = ⟨1, [110, 111, 110, 101], 0, 0⟩) \/ (∃ name, e = ⟨1, name, 0, 0⟩ /\ name ≠ [110, 111, 110, 101] /\ name.length <= 60) \/ (∃ node svc, e = ⟨2, [], node, svc⟩ /\ node <= 4294967295 /\ svc <= 4294967295) := by
 obtain ⟨sch, name, node, svc⟩ := e
 unfold EV.ok at h
 simp only [] at h
 by_cases h1 : sch = 1
 .
  rw [if_pos h1] at h
  simp only [Bool.and_eq_true, decide_eq_true_eq] at h
  obtain ⟨⟨rfl, rfl⟩, hn⟩ := h
  subst h1
  by_cases h0 : name = [110, 111, 110, 101]
  . subst h0; exact .inl rfl
  .
   refine .inr (.inl ⟨name, rfl, h0, ?_⟩)
   have h00 : ¬ name = noneL := h0
   simp only [namedL, h00, decide_false, Bool.false_or, Bool.and_eq_true, decide_eq_true_eq] at hn
   by_cases hl : name.length <= 60
   . exact hl
   .
    exfalso
    apply hn.1
    unfold nodeN
    rw [if_neg (fun h => hl h.2)]
 .
  rw [if_neg h1] at h
  by_cases h2 : sch = 2
  .
   rw [if_pos h2] at h
   simp only [Bool.and_eq_true, decide_eq_true_eq] at h
   obtain ⟨⟨rfl, ha⟩, hb⟩ := h
   subst h2
   exact .inr (.inr ⟨node, svc, rfl, ha, hb⟩)
  .
   rw [if_neg h2] at h
   cases h
theorem eidItem_ok (e : EV) (ho : e.ok = true) (w : World) : Calls Tryz.prog 147 #[e.v] w (fun r w' => ∃ A, r = .returned (.tuple #[itemV (eidT e) A 2, .int .i64 0]) /\ Ext w w' /\ IsL w' (fun b => w.heap.size <= b) (eidT e) A) := by
 rcases EV.ok_cases ho with rfl | ⟨name, rfl, hn, hl⟩ | ⟨node, svc, rfl, ha, hb⟩
 . exact eidItem_none w
 . exact eidItem_dtn name (by unfold Hid; omega) hn ho w
 .
  have e1 : eidT ⟨2, [], node, svc⟩ = ipnT node svc := rfl
  rw [e1]
  exact eidItem_ipn node svc ha hb w
theorem text_ok {s : List UInt8} (h : s.length < 4611686018427387904) : (textT s).ok := by unfold textT T.ok; exact ⟨by omega, by omega, h, by omega, fun i hi => by omega⟩
theorem eidT_ok {e : EV} (ho : e.ok = true) : (eidT e).ok /\ (∀ d, 3 <= d -> (eidT e).right d = true) /\ (eidT e).plain = true /\ (eidT e).size <= 100000 := by
 rcases EV.ok_cases ho with rfl | ⟨name, rfl, hn, hl⟩ | ⟨node, svc, rfl, ha, hb⟩
 .
  refine ⟨?_, fun d hd => ?_, by decide, by decide⟩
  .
   unfold eidT T.ok
   exact ⟨by omega, by omega, by simp, by omega, fun i hi => by dsimp only; split; exact num_ok (by decide); exact num_ok (by decide)⟩
  .
   have h1 : ¬ d < 1 := by omega
   have h2 : ¬ d - 1 < 1 := by omega
   simp [eidT, twoT, noneL, T.right, h1, h2, T.node, T.all, numT]
 .
  have h0 : ¬ name = noneL := hn
  have e1 : twoT ⟨1, name, 0, 0⟩ = textT name := by simp [twoT, h0]
  refine ⟨?_, fun d hd => ?_, ?_, ?_⟩
  .
   unfold eidT T.ok
   exact ⟨by omega, by omega, by simp, by omega, fun i hi => by dsimp only; split; exact num_ok (by decide); rw [e1]; exact text_ok (by omega)⟩
  .
   have h1 : ¬ d < 1 := by omega
   have h2 : ¬ d - 1 < 1 := by omega
   simp [eidT, e1, T.right, h1, h2, T.node, T.all, numT, textT]
  . simp [eidT, e1, T.plain, T.node, T.all, numT, textT]
  . simp [eidT, e1, T.size, T.sum, numT, textT]; omega
 .
  refine ⟨?_, fun d hd => ?_, ?_, ?_⟩
  .
   unfold eidT T.ok
   refine ⟨by omega, by omega, by simp, by omega, fun i hi => ?_⟩
   dsimp only
   split
   . exact num_ok (by decide)
   .
    show (T.mk 4 0 [] false 2 (fun j => if j = 0 then numT node else numT svc)).ok
    unfold T.ok
    exact ⟨by omega, by omega, by simp, by omega, fun i hi => by dsimp only; split; exact num_ok (by omega); exact num_ok (by omega)⟩
  .
   have h1 : ¬ d < 1 := by omega
   have h2 : ¬ d - 1 < 1 := by omega
   have h3 : ¬ d - 1 - 1 < 1 := by omega
   simp [eidT, twoT, T.right, h1, h2, h3, T.node, T.all, numT]
  . simp [eidT, twoT, T.plain, T.node, T.all, numT]
  . simp [eidT, twoT, T.size, T.sum, numT]
theorem two_IsL {W : World} {Q : Nat -> Prop} {g : Nat} (t0 t1 : T) (A0 A1 : Option Addr) (c0 c1 : Nat) (q : Q g)
  (h : Blk W g 68 #[.int .i64 t0.kind, .int .u64 (t0.n : Int), str t0.s, .slice A0 t0.k c0, .bool t0.op, .int .i64 t1.kind, .int .u64 (t1.n : Int), str t1.s, .slice A1 t1.k c1, .bool t1.op]) (h0 : IsL W Q t0 A0) (h1 : IsL W Q t1 A1) : IsL W Q (T.mk 4 0 [] false 2 fun i => if i = 0 then t0 else t1) (some ⟨g, 0, none⟩) := fun _ => ⟨g, 0, rfl, h.lt, q, fun i hi => by
 have hi2 : i = 0 \/ i = 1 := by omega
 rcases hi2 with rfl | rfl
 . exact ⟨A0, c0, ⟨h.cell 0, h.cell 1, h.cell 2, h.cell 3, h.cell 4⟩, h0⟩
 . exact ⟨A1, c1, ⟨h.cell 5, h.cell 6, h.cell 7, h.cell 8, h.cell 9⟩, h1⟩⟩
theorem leaf_IsL {W : World} {Q : Nat -> Prop} {t : T} {A : Option Addr} (h : t.k = 0) (hn : t ≠ T.nil) : IsL W Q t A := by
 cases t with
 | nil => exact absurd rfl hn
 | mk kind n s op k ch => intro h0; have : k = 0 := h; omega
set_option maxRecDepth 20000 in
set_option maxHeartbeats 1600000 in
theorem r10Item_none (w : World) : Calls Tryz.prog 67 #[EV.v ⟨1, [110, 111, 110, 101], 0, 0⟩] w (fun r w' => ∃ A, r = .returned (itemV (eidT ⟨1, [110, 111, 110, 101], 0, 0⟩) A 2) /\ Ext w w' /\ IsL w' (fun b => w.heap.size <= b) (eidT ⟨1, [110, 111, 110, 101], 0, 0⟩) A) := by
 go_enter Tryz.func67, Tryz.ntmps67
 go_wp2_with fail
 refine bodyPost_ret (v := itemV (eidT ⟨1, [110, 111, 110, 101], 0, 0⟩) (some ⟨w.heap.size + 1 + 1 + 1, 0, none⟩) 2) (by simp [results, Tryz.results67, go_sem]; exact ⟨rfl, rfl, rfl, rfl, rfl⟩) rfl ?_
 refine ⟨_, rfl, ((((Mod.refl _ _).alloc _).alloc _).alloc _).alloc _, ?_⟩
 exact two_IsL (numT 1) (numT 0) none none 0 0 (show w.heap.size <= w.heap.size + 1 + 1 + 1 by omega) (Blk.new' _ _ _ (by simp)) (leaf_IsL rfl (by simp [numT])) (leaf_IsL rfl (by simp [numT]))
set_option maxRecDepth 20000 in
set_option maxHeartbeats 1600000 in
theorem r10Item_dtn (name : List UInt8) (hn : name ≠ [110, 111, 110, 101]) (w : World) : Calls Tryz.prog 67 #[EV.v ⟨1, name, 0, 0⟩] w (fun r w' => ∃ A, r = .returned (itemV (eidT ⟨1, name, 0, 0⟩) A 2) /\ Ext w w' /\ IsL w' (fun b => w.heap.size <= b) (eidT ⟨1, name, 0, 0⟩) A) := by
 have h0 : ¬ name = noneL := hn
 have e1 : eidT ⟨1, name, 0, 0⟩ = T.mk 4 0 [] false 2 fun i => if i = 0 then numT 1 else textT name := by simp [eidT, twoT, h0]
 rw [e1]
 have n1 : (name == [110, 111, 110, 101]) = false := by simpa using hn
 have n2 : (name = [110, 111, 110, 101]) = False := by simpa using hn
 have n3 : (name != [110, 111, 110, 101]) = true := by simpa using hn
 clear e1 h0 hn
 go_enter Tryz.func67, Tryz.ntmps67
 go_wp2_with fail
 refine bodyPost_ret (v := itemV (T.mk 4 0 [] false 2 fun i => if i = 0 then numT 1 else textT name) (some ⟨w.heap.size + 1 + 1 + 1, 0, none⟩) 2) (by simp [results, Tryz.results67, go_sem]; exact ⟨rfl, rfl, rfl, rfl, rfl⟩) rfl ?_
 refine ⟨_, rfl, ((((Mod.refl _ _).alloc _).alloc _).alloc _).alloc _, ?_⟩
 exact two_IsL (numT 1) (textT name) none none 0 0 (show w.heap.size <= w.heap.size + 1 + 1 + 1 by omega) (Blk.new' _ _ _ (by simp)) (leaf_IsL rfl (by simp [numT])) (leaf_IsL rfl (by simp [textT]))
set_option maxRecDepth 20000 in
set_option maxHeartbeats 1600000 in
theorem r10Item_ipn (node svc : Nat) (w : World) : Calls Tryz.prog 67 #[EV.v ⟨2, [], node, svc⟩] w (fun r w' => ∃ A, r = .returned (itemV (eidT ⟨2, [], node, svc⟩) A 2) /\ Ext w w' /\ IsL w' (fun b => w.heap.size <= b) (eidT ⟨2, [], node, svc⟩) A) := by
 go_enter Tryz.func67, Tryz.ntmps67
 go_wp2_with fail
 refine bodyPost_ret (v := itemV (eidT ⟨2, [], node, svc⟩) (some ⟨w.heap.size + 1 + 1 + 1 + 1, 0, none⟩) 2) (by simp [results, Tryz.results67, go_sem]; exact ⟨rfl, rfl, rfl, rfl, rfl⟩) rfl ?_
 refine ⟨_, rfl, (((((Mod.refl _ _).alloc _).alloc _).alloc _).alloc _).alloc _, ?_⟩
 refine two_IsL (numT 2) (T.mk 4 0 [] false 2 (fun j => if j = 0 then numT node else numT svc)) none (some ⟨w.heap.size + 1 + 1 + 1, 0, none⟩) 0 2 (show w.heap.size <= w.heap.size + 1 + 1 + 1 + 1 by omega) (Blk.new' _ _ _ (by simp)) (leaf_IsL rfl (by simp [numT])) ?_
 exact two_IsL (numT node) (numT svc) none none 0 0 (show w.heap.size <= w.heap.size + 1 + 1 + 1 by omega) ((Blk.new' _ _ _ (by simp)).alloc _) (leaf_IsL rfl (by simp [numT])) (leaf_IsL rfl (by simp [numT]))
theorem r10Item_ok (e : EV) (ho : e.ok = true) (w : World) : Calls Tryz.prog 67 #[e.v] w (fun r w' => ∃ A, r = .returned (itemV (eidT e) A 2) /\ Ext w w' /\ IsL w' (fun b => w.heap.size <= b) (eidT e) A) := by
 rcases EV.ok_cases ho with rfl | ⟨name, rfl, hn, hl⟩ | ⟨node, svc, rfl, ha, hb⟩
 . exact r10Item_none w
 . exact r10Item_dtn name hn w
 . exact r10Item_ipn node svc w
def listT (L : List T) : T := T.mk 4 0 [] false L.length fun i => (L[i]?).getD T.nil
theorem catR_list (g : T -> List UInt8) : ∀ L : List T, T.catR (fun i => g ((L[i]?).getD T.nil)) L.length = (L.map g).flatten
 | [] => rfl
 | x :: L => by
  rw [List.length_cons, T.catR, List.map_cons, List.flatten_cons, <- catR_list g L]
  rfl
theorem listT_bytes (L : List T) : (listT L).bytes = headL 4 L.length ++ (L.map T.bytes).flatten := by
 unfold listT
 rw [T.bytes, if_neg (by decide), if_neg (by decide), T.cat_eq, catR_list]
 simp
theorem getD_mem {L : List T} {i : Nat} (h : i < L.length) : (L[i]?).getD T.nil ∈ L := by
 rw [List.getElem?_eq_getElem h]; exact List.getElem_mem h
theorem listT_ok {L : List T} (hl : L.length < 4611686018427387904) (h : ∀ t ∈ L, t.ok) : (listT L).ok := by
 unfold listT T.ok
 exact ⟨by omega, by omega, by simp, hl, fun i hi => h _ (getD_mem hi)⟩
theorem listT_right {L : List T} {d : Nat} (hd : 1 <= d) (hl : L.length <= 1000) (h : ∀ t ∈ L, t.right (d - 1) = true) : (listT L).right d = true := by
 unfold listT T.right
 rw [if_neg (by omega), Bool.and_eq_true, T.all_iff]
 refine ⟨?_, fun i hi => h _ (getD_mem hi)⟩
 simp [T.node, hl]
theorem sum_le_each {f : Nat -> Nat} {B k : Nat} (h : ∀ i, i < k -> f i <= B) : T.sum f k <= k * B := by
 induction k with
 | zero => simp [T.sum]
 | succ k ih =>
  have := ih (fun i hi => h i (by omega))
  have := h k (by omega)
  rw [T.sum, Nat.succ_mul]; omega
theorem listT_size {L : List T} {B : Nat} (h : ∀ t ∈ L, t.size <= B) : (listT L).size <= 1 + L.length * B := by
 unfold listT T.size
 have := sum_le_each (f := fun i => ((L[i]?).getD T.nil).size) (B := B) (k := L.length) (fun i hi => h _ (getD_mem hi))
 simp; omega
theorem numT_all (n : Nat) (h : n < 18446744073709551616) : (numT n).ok /\ (∀ d, 1 <= d -> (numT n).right d = true) /\ (numT n).size <= 100 /\ (numT n).bytes = headL 0 n := by
 refine ⟨num_ok h, fun d hd => ?_, by simp [numT, T.size, T.sum], rfl⟩
 unfold numT T.right
 rw [if_neg (by omega)]
 simp [T.node, T.all]
theorem strT_all {s : List UInt8} (h : s.length <= 90) : (strT s).ok /\ (∀ d, 1 <= d -> (strT s).right d = true) /\ (strT s).size <= 100 /\ (strT s).bytes = headL 2 s.length ++ s := by
 refine ⟨str_ok (by omega), fun d hd => ?_, ?_, rfl⟩
 .
  unfold strT T.right
  rw [if_neg (by omega)]
  simp [T.node, T.all]
 . simp [strT, T.size, T.sum]; omega
theorem eidT_small {e : EV} (ho : e.ok = true) : (eidT e).size <= 100 := by
 rcases EV.ok_cases ho with rfl | ⟨name, rfl, hn, hl⟩ | ⟨node, svc, rfl, ha, hb⟩
 . decide
 .
  have h0 : ¬ name = noneL := hn
  have e1 : twoT ⟨1, name, 0, 0⟩ = textT name := by simp [twoT, h0]
  simp [eidT, e1, T.size, T.sum, numT, textT]; omega
 . simp [eidT, twoT, T.size, T.sum, numT]
/- A primary. -/
def PV.ranged (p : PV) : Bool := p.d.ok && (p.s.ok && (p.r.ok && decide (0 <= p.crc /\ p.crc <= 2 /\ p.fl < 2097152 /\ p.t <= 1099511627776 /\ p.q <= 1099511627776 /\ p.l <= 1099511627776 /\ p.o <= 1099511627776 /\ p.n <= 1099511627776)))
def PV.none (p : PV) : Prop := p.s.sch = 1 /\ p.s.name = noneL
instance (p : PV) : Decidable p.none := by unfold PV.none; infer_instance
def PV.right (p : PV) : Int :=
 if p.ranged = false then 1
 else if (p.fl % 2 = 1 /\ (p.fl / 4 % 2 = 1 \/ p.n <= p.o)) \/ (¬ p.fl % 2 = 1 /\ (0 < p.o \/ 0 < p.n)) then 8
 else if ((p.fl / 16384 % 2 = 1 \/ p.fl / 262144 % 2 = 1) /\ (p.none \/ p.fl / 2 % 2 = 1)) \/ (p.none /\ ¬ p.fl / 4 % 2 = 1) then 8
 else 0
theorem PV.ranged_spec {p : PV} (h : p.ranged = true) : p.d.ok = true /\ p.s.ok = true /\ p.r.ok = true /\ 0 <= p.crc /\ p.crc <= 2 /\ p.fl < 2097152 /\ p.t <= 1099511627776 /\ p.q <= 1099511627776 /\ p.l <= 1099511627776 /\ p.o <= 1099511627776 /\ p.n <= 1099511627776 := by
 unfold PV.ranged at h
 simp only [Bool.and_eq_true, decide_eq_true_eq] at h
 exact ⟨h.1, h.2.1, h.2.2.1, h.2.2.2⟩
theorem PV.right_ranged {p : PV} (h : p.right = 0) : p.ranged = true := by
 unfold PV.right at h
 cases hr : p.ranged with
 | true => rfl
 | false => rw [hr, if_pos rfl] at h; exact absurd h (by decide)
def priL (p : PV) (k : Nat) (sum : List UInt8) : List T :=
 [numT 7, numT p.fl, numT k, eidT p.d, eidT p.s, eidT p.r, listT [numT p.t, numT p.q], numT p.l] ++ ((if p.fl % 2 = 1 then [numT p.o, numT p.n] else []) ++ (if k = 0 then [] else [strT sum]))
def priT (p : PV) (k : Nat) (sum : List UInt8) : T := listT (priL p k sum)
def priN (p : PV) (k : Nat) : Nat := 8 + ((if p.fl % 2 = 1 then 2 else 0) + (if k = 0 then 0 else 1))
theorem priL_length (p : PV) (k : Nat) (sum : List UInt8) : (priL p k sum).length = priN p k := by
 unfold priL priN
 split <;> split <;> simp
def priB (p : PV) (k : Nat) (sum : List UInt8) : List UInt8 :=
 headL 4 (priN p k) ++ (headL 0 7 ++ (headL 0 p.fl ++ (headL 0 k ++ ((eidT p.d).bytes ++ ((eidT p.s).bytes ++ ((eidT p.r).bytes ++ (headL 4 2 ++ (headL 0 p.t ++ (headL 0 p.q ++ (headL 0 p.l ++
 ((if p.fl % 2 = 1 then headL 0 p.o ++ headL 0 p.n else []) ++ (if k = 0 then [] else headL 2 sum.length ++ sum))))))))))))
theorem priT_bytes (p : PV) (k : Nat) (sum : List UInt8) : (priT p k sum).bytes = priB p k sum := by
 unfold priT
 rw [listT_bytes, priL_length]
 unfold priL priB
 have e : (listT [numT p.t, numT p.q]).bytes = headL 4 2 ++ (headL 0 p.t ++ headL 0 p.q) := by
  rw [listT_bytes]; simp [show ∀ n, (numT n).bytes = headL 0 n from fun n => rfl]
 by_cases h1 : p.fl % 2 = 1 <;> by_cases h2 : k = 0 <;>
  simp [h1, h2, e, show ∀ n, (numT n).bytes = headL 0 n from fun n => rfl, show ∀ s, (strT s).bytes = headL 2 s.length ++ s from fun s => rfl]
theorem priT_all {p : PV} (h : p.ranged = true) {k : Nat} (hk : k <= 2) {sum : List UInt8} (hs : sum.length <= 90) : (priT p k sum).ok /\ (∀ d, 4 <= d -> (priT p k sum).right d = true) /\ (priT p k sum).size <= 4000 := by
 obtain ⟨h1, h2, h3, h4, h5, h6, h7, h8, h9, h10, h11⟩ := PV.ranged_spec h
 have hm : ∀ t ∈ priL p k sum, t.ok /\ (∀ d, 3 <= d -> t.right d = true) /\ t.size <= 350 := by
  intro t ht
  have num : ∀ n, n < 18446744073709551616 -> (numT n).ok /\ (∀ d, 3 <= d -> (numT n).right d = true) /\ (numT n).size <= 350 := fun n hn => by
   obtain ⟨a, b, c, _⟩ := numT_all n hn
   exact ⟨a, fun d hd => b d (by omega), by omega⟩
  have eid : ∀ e : EV, e.ok = true -> (eidT e).ok /\ (∀ d, 3 <= d -> (eidT e).right d = true) /\ (eidT e).size <= 350 := fun e he => by
   obtain ⟨a, b, _, _⟩ := eidT_ok he
   exact ⟨a, b, by have := eidT_small he; omega⟩
  unfold priL at ht
  rw [List.mem_append, List.mem_append] at ht
  rcases ht with ht | ht | ht
  .
   simp only [List.mem_cons, List.not_mem_nil, or_false] at ht
   rcases ht with rfl | rfl | rfl | rfl | rfl | rfl | rfl | rfl
   . exact num 7 (by decide)
   . exact num _ (by omega)
   . exact num _ (by omega)
   . exact eid _ h1
   . exact eid _ h2
   . exact eid _ h3
   .
    have a := numT_all p.t (by omega)
    have b := numT_all p.q (by omega)
    refine ⟨listT_ok (by simp) ?_, fun d hd => listT_right (by omega) (by simp) ?_, ?_⟩
    .
     intro t ht
     simp only [List.mem_cons, List.not_mem_nil, or_false] at ht
     rcases ht with rfl | rfl
     . exact a.1
     . exact b.1
    .
     intro t ht
     simp only [List.mem_cons, List.not_mem_nil, or_false] at ht
     rcases ht with rfl | rfl
     . exact a.2.1 _ (by omega)
     . exact b.2.1 _ (by omega)
    .
     have := listT_size (L := [numT p.t, numT p.q]) (B := 100) (by
      intro t ht
      simp only [List.mem_cons, List.not_mem_nil, or_false] at ht
      rcases ht with rfl | rfl
      . exact a.2.2.1
      . exact b.2.2.1)
     simp at this
     omega
   . exact num _ (by omega)
  .
   split at ht
   .
    simp only [List.mem_cons, List.not_mem_nil, or_false] at ht
    rcases ht with rfl | rfl
    . exact num _ (by omega)
    . exact num _ (by omega)
   . cases ht
  .
   split at ht
   . cases ht
   .
    simp only [List.mem_cons, List.not_mem_nil, or_false] at ht
    subst ht
    obtain ⟨a, b, c, _⟩ := strT_all hs
    exact ⟨a, fun d hd => b d (by omega), by omega⟩
 have hl : (priL p k sum).length <= 11 := by rw [priL_length]; unfold priN; split <;> split <;> omega
 refine ⟨listT_ok (by omega) fun t ht => (hm t ht).1, fun d hd => listT_right (by omega) (by omega) fun t ht => (hm t ht).2.1 _ (by omega), ?_⟩
 have := listT_size (L := priL p k sum) (B := 350) fun t ht => (hm t ht).2.2
 have h2 : (priL p k sum).length * 350 <= 11 * 350 := Nat.mul_le_mul_right _ hl
 show (listT (priL p k sum)).size <= 4000
 omega
def has (f c : Nat) : Bool := decide (f / c % 2 = 1)
def blkT (ty num fl crc : Nat) (data sum : List UInt8) : T := T.mk 4 0 [] false (if crc = 0 then 5 else 6) fun i => if i = 0 then numT ty else if i = 1 then numT num else if i = 2 then numT fl else if i = 3 then numT crc else if i = 4 then strT data else if i = 5 then strT sum else T.nil
abbrev blk5 (ty num fl crc : Nat) (data : List UInt8) : Array Value := #[.int .i64 0, .int .u64 (ty : Int), str [], .slice none 0 0, .bool false, .int .i64 0, .int .u64 (num : Int), str [], .slice none 0 0, .bool false, .int .i64 0, .int .u64 (fl : Int), str [], .slice none 0 0, .bool false, .int .i64 0, .int .u64 (crc : Int), str [], .slice none 0 0, .bool false, .int .i64 2, .int .u64 0, str data, .slice none 0 0, .bool false]
theorem blk5_IsL {W : World} {Q : Nat -> Prop} {g : Nat} {ty num fl : Nat} {data sum : List UInt8} (q : Q g) (h : Blk W g 68 (blk5 ty num fl 0 data)) : IsL W Q (blkT ty num fl 0 data sum) (some ⟨g, 0, none⟩) := fun _ => ⟨g, 0, rfl, h.lt, q, fun j hj => by
 have hj2 : j = 0 \/ j = 1 \/ j = 2 \/ j = 3 \/ j = 4 := by simp at hj; omega
 rcases hj2 with rfl | rfl | rfl | rfl | rfl
 . exact ⟨none, 0, ⟨h.cell 0, h.cell 1, h.cell 2, h.cell 3, h.cell 4⟩, fun h => absurd h (by decide)⟩
 . exact ⟨none, 0, ⟨h.cell 5, h.cell 6, h.cell 7, h.cell 8, h.cell 9⟩, fun h => absurd h (by decide)⟩
 . exact ⟨none, 0, ⟨h.cell 10, h.cell 11, h.cell 12, h.cell 13, h.cell 14⟩, fun h => absurd h (by decide)⟩
 . exact ⟨none, 0, ⟨h.cell 15, h.cell 16, h.cell 17, h.cell 18, h.cell 19⟩, fun h => absurd h (by decide)⟩
 . exact ⟨none, 0, ⟨h.cell 20, h.cell 21, h.cell 22, h.cell 23, h.cell 24⟩, fun h => absurd h (by decide)⟩⟩
theorem blk6_IsL {W : World} {Q : Nat -> Prop} {base g c : Nat} {ty num fl crc : Nat} {data sum : List UInt8} (hc : ¬ crc = 0) (q : Q g) (hlt : g < W.heap.size) (h : W.ownsRow base 68 5 (.slice (some ⟨g, 0, none⟩) (5 + 1) c) (5 + 1) ((blk5 ty num fl crc data).toList ++ [Value.int .i64 (strT sum).kind, .int .u64 ((strT sum).n : Int), str (strT sum).s, .slice none (strT sum).k 0, .bool (strT sum).op])) : IsL W Q (blkT ty num fl crc data sum) (some ⟨g, 0, none⟩) := by
 unfold blkT
 rw [if_neg hc]
 refine fun _ => ⟨g, 0, rfl, hlt, q, fun j hj => ?_⟩
 have hj2 : j = 0 \/ j = 1 \/ j = 2 \/ j = 3 \/ j = 4 \/ j = 5 := by omega
 rcases hj2 with rfl | rfl | rfl | rfl | rfl | rfl
 . exact ⟨none, 0, ⟨own_cells (j := 0) h rfl, own_cells (j := 1) h rfl, own_cells (j := 2) h rfl, own_cells (j := 3) h rfl, own_cells (j := 4) h rfl⟩, fun h => absurd h (by decide)⟩
 . exact ⟨none, 0, ⟨own_cells (j := 5) h rfl, own_cells (j := 6) h rfl, own_cells (j := 7) h rfl, own_cells (j := 8) h rfl, own_cells (j := 9) h rfl⟩, fun h => absurd h (by decide)⟩
 . exact ⟨none, 0, ⟨own_cells (j := 10) h rfl, own_cells (j := 11) h rfl, own_cells (j := 12) h rfl, own_cells (j := 13) h rfl, own_cells (j := 14) h rfl⟩, fun h => absurd h (by decide)⟩
 . exact ⟨none, 0, ⟨own_cells (j := 15) h rfl, own_cells (j := 16) h rfl, own_cells (j := 17) h rfl, own_cells (j := 18) h rfl, own_cells (j := 19) h rfl⟩, fun h => absurd h (by decide)⟩
 . exact ⟨none, 0, ⟨own_cells (j := 20) h rfl, own_cells (j := 21) h rfl, own_cells (j := 22) h rfl, own_cells (j := 23) h rfl, own_cells (j := 24) h rfl⟩, fun h => absurd h (by decide)⟩
 . exact ⟨none, 0, ⟨own_cells (j := 25) h rfl, own_cells (j := 26) h rfl, own_cells (j := 27) h rfl, own_cells (j := 28) h rfl, own_cells (j := 29) h rfl⟩, fun h => absurd h (by decide)⟩
set_option maxRecDepth 20000 in
set_option maxHeartbeats 800000 in
theorem with_any (ty num fl crc : Nat) (data sum : List UInt8) (h1 : ty <= 65535) (h2 : num <= 65535) (h3 : crc <= 2) (w : World) : Calls Tryz.prog 166 #[BV.v ⟨ty, num, fl, crc, data⟩, str sum] w (fun e w' => ∃ A c, e = .returned (itemV (blkT ty num fl crc data sum) A c) /\ Ext w w' /\ IsL w' (fun b => w.heap.size <= b) (blkT ty num fl crc data sum) A) := by
 have HB := hid ((Blk.new w 45 (BV.c ⟨ty, num, fl, crc, data⟩)).alloc (.cells #[.int .i64 0, .int .u64 0, .string ⟨#[]⟩, .slice none 0 0, .bool false] 68))
 have HR : Hid (Blk ((w.alloc (.cells (BV.c ⟨ty, num, fl, crc, data⟩) 45)).alloc (.cells #[.int .i64 0, .int .u64 0, .string ⟨#[]⟩, .slice none 0 0, .bool false] 68)) (w.heap.size + 1) 68 #[.int .i64 0, .int .u64 0, .string ⟨#[]⟩, .slice none 0 0, .bool false]) := by
  have := Blk.new (w.alloc (.cells (BV.c ⟨ty, num, fl, crc, data⟩) 45)) 68 #[.int .i64 0, .int .u64 0, .string ⟨#[]⟩, .slice none 0 0, .bool false]
  unfold Hid
  simpa using this
 have HE := hid (((Mod.refl [] w).alloc (.cells (BV.c ⟨ty, num, fl, crc, data⟩) 45)).alloc (.cells #[.int .i64 0, .int .u64 0, .string ⟨#[]⟩, .slice none 0 0, .bool false] 68))
 have t1 : IntKind.u64.wrap (ty : Int) = (ty : Int) := IntWalk.u64_in _ (by omega)
 have t2 : IntKind.u64.wrap (num : Int) = (num : Int) := IntWalk.u64_in _ (by omega)
 have t3 : IntKind.u64.wrap (crc : Int) = (crc : Int) := IntWalk.u64_in _ (by omega)
 go_enter Tryz.func166, Tryz.ntmps166
 go_upto_region 1 with fail
 generalize ((w.alloc (.cells (BV.c ⟨ty, num, fl, crc, data⟩) 45)).alloc (.cells #[.int .i64 0, .int .u64 0, .string ⟨#[]⟩, .slice none 0 0, .bool false] 68)) = V at *
 have HS : Hid (∀ w', Ext V w' -> w'.cell? ⟨w.heap.size, 0, none⟩ = some (.int .i64 (ty : Int)) /\ w'.cell? ⟨w.heap.size, 1, none⟩ = some (.int .i64 (num : Int)) /\ w'.cell? ⟨w.heap.size, 2, none⟩ = some (.int .u64 (fl : Int)) /\ w'.cell? ⟨w.heap.size, 3, none⟩ = some (.int .i64 (crc : Int)) /\ w'.cell? ⟨w.heap.size, 4, none⟩ = some (str data)) := fun W hW => by
  have b1 := HB.out.ext hW
  exact ⟨b1.cell 0, b1.cell 1, b1.cell 2, b1.cell 3, b1.cell 4⟩
 obtain ⟨p0, p1, p2, p3, p4⟩ := HS.out V (Mod.refl _ _)
 go_cut [5] (fun s3 wx => ∃ g3, s3 = .slice (some ⟨g3, 0, none⟩) 5 5 /\ Hid (Ext V wx /\ Blk wx g3 68 (blk5 ty num fl crc data) /\ w.heap.size + 2 <= g3))
 case first =>
  go_region_held3 (fun w' => w'.cell? ⟨w.heap.size, 0, none⟩ = some (.int .i64 (ty : Int)) /\ w'.cell? ⟨w.heap.size, 1, none⟩ = some (.int .i64 (num : Int)) /\ w'.cell? ⟨w.heap.size, 2, none⟩ = some (.int .u64 (fl : Int)) /\ w'.cell? ⟨w.heap.size, 3, none⟩ = some (.int .i64 (crc : Int)) /\ w'.cell? ⟨w.heap.size, 4, none⟩ = some (str data)) (go_keep)
    (first
     | (go_at_call 142; (try rw [t1]); (try rw [t2]); (try rw [t3]); refine (NumI_any _ _).mono ?_; rintro x w3 ⟨rfl, hb3⟩; have hx : Ext V w3 := (by (with_reducible refine Mod.trans ?_ hb3); (repeat (first | with_reducible assumption | with_reducible exact Mod.refl _ _ | with_reducible refine Mod.drew ?_ | with_reducible refine Mod.alloc ?_ _))); have z := HS.out w3 hx)
     | (go_at_call 181; refine (StrV_any _ _).mono ?_; rintro x w3 ⟨rfl, hb3⟩; have hx : Ext V w3 := (by (with_reducible refine Mod.trans ?_ hb3); (repeat (first | with_reducible assumption | with_reducible exact Mod.refl _ _ | with_reducible refine Mod.drew ?_ | with_reducible refine Mod.alloc ?_ _))); have z := HS.out w3 hx))
  all_goals go_wp2_with fail
  all_goals go_meet
  all_goals exact ⟨_, rfl, Mod.alloc hx _, Blk.new _ _ _, Nat.le_trans (Nat.succ_le_of_lt HR.out.lt) (Mod.size (S := []) (w := V) (by assumption))⟩
 obtain ⟨g3, rfl, hG⟩ := hcut
 have HE1 := hid (HE.out.trans hG.out.1)
 have HB1 := hid (HB.out.ext hG.out.1)
 have HR1 := hid (HR.out.ext hG.out.1)
 have q3 : wc.cell? ⟨w.heap.size, 3, none⟩ = some (.int .i64 (crc : Int)) := HB1.out.cell 3
 clear p0 p1 p2 p3 p4 HS t1 t2 t3 HE HB HR
 by_cases hc : crc = 0
 .
  subst hc
  go_wp2_with fail
  refine (ListV_any 5 _ 5 _).mono ?_
  rintro e w8 ⟨rfl, hb8⟩
  have HE8 := hid (HE1.out.trans hb8)
  have HR8 : Hid (Blk w8 (w.heap.size + 1) 68 (itemC (T.mk 0 0 [] false 0 fun _ => T.nil) none 0)) := hid (HR1.out.ext hb8)
  have HG8 := hid (hG.out.2.1.ext hb8)
  obtain ⟨c0, c1, c2, c3, c4⟩ := cells5 HR8.out
  have f0 := Blk.frozen HR8.out 0
  have f1 := Blk.frozen HR8.out 1
  have f2 := Blk.frozen HR8.out 2
  have f3 := Blk.frozen HR8.out 3
  have f4 := Blk.frozen HR8.out 4
  clear hb8 q3
  go_wp2_with fail
  obtain ⟨d0, d1, d2, d3, d4⟩ := cells5 (set5_blk (t := blkT ty num fl 0 data sum) (A := some ⟨g3, 0, none⟩) (c := 5) HR8.out)
  clear c0 c1 c2 c3 c4 f0 f1 f2 f3 f4
  show bodyPost _ _ _ _ _ (set5 w8 (w.heap.size + 1) (blkT ty num fl 0 data sum) (some ⟨g3, 0, none⟩) 5)
  refine bodyPost_ret (v := itemV (blkT ty num fl 0 data sum) (some ⟨g3, 0, none⟩) 5) (by simp [results, Tryz.results166, go_sem, d0, d1, d2, d3, d4]) rfl ?_
  refine ⟨_, 5, rfl, set5_mod HE8.out (by omega), IsL.weak (fun _ _ h => by have : w.heap.size + 2 <= _ := h; omega) _ (IsL.mod (Q := fun b => w.heap.size + 2 <= b) set5_modb (fun k hq hk hm => by rw [List.mem_singleton] at hm; have : w.heap.size + 2 <= k := hq; omega) _ (blk5_IsL hG.out.2.2 HG8.out))⟩
 .
  have hc2 : ((crc : Int) = 0) = False := by simp [hc]
  have hc3 : ((crc : Int) == 0) = false := by simp [hc]
  obtain ⟨i0, hi, hz0, hz1, hz2⟩ := info_parts infoItem
  go_wp2_with fail
  refine (StrV_any sum _).mono ?_
  rintro e w8 ⟨rfl, hb8⟩
  have HE8 := hid (HE1.out.trans hb8)
  have HR8 := hid (HR1.out.ext hb8)
  have hown8 := own_of_blk (base := w.heap.size + 2) (n := 5) (size := 5) (hG.out.2.1.ext hb8) hG.out.2.2 (by decide) rfl
  clear hb8 q3
  go_wp2_with (at_builtin; refine wpList_append_own _ rfl _ _ 66 rfl (w.heap.size + 2) 68 i0 _ 5 64 vqF hi hz0 hz1 hz2 rfl (by decide) _ _ _ rfl (hown8.alloc _) ⟨w8.heap.size, 0, none⟩ 1 1 [Value.int .i64 (strT sum).kind, .int .u64 ((strT sum).n : Int), str (strT sum).s, .slice none (strT sum).k 0, .bool (strT sum).op] rfl rfl (news5 w8 (strT sum) none 0) (one5 (strT sum) none 0) (by decide) (by decide) (by have := HR8.out.lt; simp; omega) ?_; intro v' w9 hown' hgrow _)
  obtain ⟨g4, k4, rfl, hg4, hlt4⟩ := own_form hown'
  have HE9 := hid ((HE8.out.alloc _).grown hgrow (fun k hk => by obtain rfl : g3 = k := Option.some.inj hk; right; have := hG.out.2.2; omega))
  have HR9 := hid ((HR8.out.alloc _).mod (Mod.grown (S := [g3]) (Mod.refl _ _) hgrow (fun k hk => by obtain rfl : g3 = k := Option.some.inj hk; left; simp)) (by have := hG.out.2.2; simp; omega))
  have HL9 := hid (blk6_IsL (sum := sum) (Q := fun b => w.heap.size + 2 <= b) hc (show w.heap.size + 2 <= g4 by omega) hlt4 hown')
  clear hown8 hown' hgrow hlt4 hz0 hz1 hz2 hi
  go_wp2_with fail
  refine (ListV_any 6 _ k4 _).mono ?_
  rintro e wA ⟨rfl, hbA⟩
  have HEA := hid (HE9.out.trans hbA)
  have HRA : Hid (Blk wA (w.heap.size + 1) 68 (itemC (T.mk 0 0 [] false 0 fun _ => T.nil) none 0)) := hid (HR9.out.ext hbA)
  have HLA := hid (HL9.out.ext hbA)
  obtain ⟨c0, c1, c2, c3, c4⟩ := cells5 HRA.out
  have f0 := Blk.frozen HRA.out 0
  have f1 := Blk.frozen HRA.out 1
  have f2 := Blk.frozen HRA.out 2
  have f3 := Blk.frozen HRA.out 3
  have f4 := Blk.frozen HRA.out 4
  clear hbA
  go_wp2_with fail
  obtain ⟨d0, d1, d2, d3, d4⟩ := cells5 (set5_blk (t := T.mk 4 0 [] false 6 fun _ => T.nil) (A := some ⟨g4, 0, none⟩) (c := k4) HRA.out)
  clear c0 c1 c2 c3 c4 f0 f1 f2 f3 f4
  show bodyPost _ _ _ _ _ (set5 wA (w.heap.size + 1) (T.mk 4 0 [] false 6 fun _ => T.nil) (some ⟨g4, 0, none⟩) k4)
  refine bodyPost_ret (v := itemV (T.mk 4 0 [] false 6 fun _ => T.nil) (some ⟨g4, 0, none⟩) k4) (by simp [results, Tryz.results166, go_sem, d0, d1, d2, d3, d4]) rfl ?_
  refine ⟨some ⟨g4, 0, none⟩, k4, ?_, set5_mod HEA.out (by omega), IsL.weak (fun _ _ h => by have : w.heap.size + 2 <= _ := h; omega) _ (IsL.mod (Q := fun b => w.heap.size + 2 <= b) set5_modb (fun k hq hk hm => by rw [List.mem_singleton] at hm; have : w.heap.size + 2 <= k := hq; omega) _ HLA.out)⟩
  simp only [blkT, if_neg hc]
  rfl
theorem blkT_ok {ty num fl crc : Nat} {data sum : List UInt8} (h1 : ty <= 65535) (h2 : num <= 65535) (h3 : fl <= 255) (h4 : crc <= 2) (h5 : data.length <= 4000) (h6 : sum.length <= 4000) : (blkT ty num fl crc data sum).ok := by
 unfold blkT T.ok
 refine ⟨by omega, by omega, by simp, by split <;> omega, fun i hi => ?_⟩
 dsimp only
 split
 . exact num_ok (by omega)
 .
  split
  . exact num_ok (by omega)
  .
   split
   . exact num_ok (by omega)
   .
    split
    . exact num_ok (by omega)
    .
     split
     . exact str_ok (by omega)
     .
      split
      . exact str_ok (by omega)
      .
       have : i < 6 := by split at hi <;> omega
       omega
set_option maxRecDepth 20000 in
theorem summed_0 (t : T) (A : Option Addr) (c : Nat) (w : World) : Calls Tryz.prog 165 #[.int .i64 0, itemV t A c] w (Ret (itemV t A c) w) := by
 have HB := hid (Blk.new w 68 (itemC t A c))
 go_enter Tryz.func165, Tryz.ntmps165
 go_wp2_with fail
 refine bodyPost_ret (v := itemV t A c) (by simp [results, Tryz.results165, go_sem]) rfl (Ret.mk rfl (((Mod.refl _ _).alloc _).alloc _))
set_option maxRecDepth 20000 in
set_option maxHeartbeats 800000 in
theorem Item_ok (ty num fl crc : Nat) (data : List UInt8) (hb : BV.right ⟨ty, num, fl, crc, data⟩ = 0) (t : T) (KS : Hid (∀ N A c W, N <= W.heap.size -> IsL W (fun b => N <= b) (blkT ty num fl crc data []) A -> Calls Tryz.prog 165 #[.int .i64 (crc : Int), itemV (blkT ty num fl crc data []) A c] W (fun e w' => ∃ A c, e = .returned (itemV t A c) /\ Ext W w' /\ IsL w' (fun b => N <= b) t A))) (w : World) : Calls Tryz.prog 135 #[BV.v ⟨ty, num, fl, crc, data⟩] w (fun e w' => ∃ A c, e = .returned (.tuple #[itemV t A c, .int .i64 0]) /\ Ext w w' /\ IsL w' (fun b => w.heap.size <= b) t A) := by
 have h := BV.right_zero hb
 simp only [] at h
 have HB := hid ((Blk.new w 45 (BV.c ⟨ty, num, fl, crc, data⟩)).alloc (.cells #[.int .i64 0, .int .u64 0, .string ⟨#[]⟩, .slice none 0 0, .bool false] 68))
 have HE0 := hid (((Mod.refl [] w).alloc (.cells (BV.c ⟨ty, num, fl, crc, data⟩) 45)).alloc (.cells #[.int .i64 0, .int .u64 0, .string ⟨#[]⟩, .slice none 0 0, .bool false] 68))
 have HR : Hid (Blk ((w.alloc (.cells (BV.c ⟨ty, num, fl, crc, data⟩) 45)).alloc (.cells #[.int .i64 0, .int .u64 0, .string ⟨#[]⟩, .slice none 0 0, .bool false] 68)) (w.heap.size + 1) 68 (itemC (numT 0) none 0)) := by
  have := Blk.new (w.alloc (.cells (BV.c ⟨ty, num, fl, crc, data⟩) 45)) 68 (itemC (numT 0) none 0)
  unfold Hid
  simpa [itemC, numT, T.kind, T.n, T.s, T.k, T.op] using this
 have k1 : Hid (∀ W, Calls Tryz.prog 106 #[BV.v ⟨ty, num, fl, crc, data⟩] W (Ret (.int .i64 0) W)) := fun W => by have := cbRight_any ⟨ty, num, fl, crc, data⟩ W; rw [hb] at this; exact this
 go_enter Tryz.func135, Tryz.ntmps135
 go_wp2_with fail
 refine (k1.out _).mono ?_
 rintro e w1 ⟨rfl, hb1⟩
 have HE1 := hid (HE0.out.trans hb1)
 have HR1 := hid (HR.out.ext hb1)
 have HC := hid (HB.out.ext hb1)
 obtain ⟨c0, c1, c2, c3, c4⟩ : w1.cell? ⟨w.heap.size, 0, none⟩ = some (.int .i64 (ty : Int)) /\ w1.cell? ⟨w.heap.size, 1, none⟩ = some (.int .i64 (num : Int)) /\ w1.cell? ⟨w.heap.size, 2, none⟩ = some (.int .u64 (fl : Int)) /\ w1.cell? ⟨w.heap.size, 3, none⟩ = some (.int .i64 (crc : Int)) /\ w1.cell? ⟨w.heap.size, 4, none⟩ = some (str data) := ⟨HC.out.cell 0, HC.out.cell 1, HC.out.cell 2, HC.out.cell 3, HC.out.cell 4⟩
 clear hb1
 have HN : Hid (w.heap.size + 2 <= w1.heap.size) := Nat.succ_le_of_lt HR1.out.lt
 go_upto_region 4 with fail
 have HS : Hid (∀ w', Ext w1 w' -> w'.cell? ⟨w.heap.size, 0, none⟩ = some (.int .i64 (ty : Int)) /\ w'.cell? ⟨w.heap.size, 1, none⟩ = some (.int .i64 (num : Int)) /\ w'.cell? ⟨w.heap.size, 2, none⟩ = some (.int .u64 (fl : Int)) /\ w'.cell? ⟨w.heap.size, 3, none⟩ = some (.int .i64 (crc : Int)) /\ w'.cell? ⟨w.heap.size, 4, none⟩ = some (str data)) := fun W hW => by
  have b1 := HC.out.ext hW
  exact ⟨b1.cell 0, b1.cell 1, b1.cell 2, b1.cell 3, b1.cell 4⟩
 obtain ⟨g0, g1, g2, g3, g4⟩ := cells5 HR1.out
 have f0 := Blk.frozen HR1.out 0
 have f1 := Blk.frozen HR1.out 1
 have f2 := Blk.frozen HR1.out 2
 have f3 := Blk.frozen HR1.out 3
 have f4 := Blk.frozen HR1.out 4
 go_region_held3 (fun w' => w'.cell? ⟨w.heap.size, 0, none⟩ = some (.int .i64 (ty : Int)) /\ w'.cell? ⟨w.heap.size, 1, none⟩ = some (.int .i64 (num : Int)) /\ w'.cell? ⟨w.heap.size, 2, none⟩ = some (.int .u64 (fl : Int)) /\ w'.cell? ⟨w.heap.size, 3, none⟩ = some (.int .i64 (crc : Int)) /\ w'.cell? ⟨w.heap.size, 4, none⟩ = some (str data)) (go_keep)
   (first
    | (go_at_call 166; refine (with_any ty num fl crc data [] (by omega) (by omega) (by omega) _).mono ?_; rintro x w3 ⟨A, c, rfl, hb3, hl3⟩; have hl3 := IsL.weak (R := fun b => w.heap.size + 2 <= b) (fun k _ hq => Nat.le_trans (Nat.le_trans HN.out (Mod.size (S := []) (by first | with_reducible exact Mod.refl _ _ | with_reducible exact (Mod.refl _ _).drew))) hq) _ hl3; have hx : Ext w1 w3 := (by (with_reducible refine Mod.trans ?_ hb3); (repeat (first | with_reducible assumption | with_reducible exact Mod.refl _ _ | with_reducible refine Mod.drew ?_ | with_reducible refine Mod.alloc ?_ _))); have z := HS.out w3 hx)
    | (go_at_call 165; refine (KS.out (w.heap.size + 2) _ _ _ (Nat.le_trans HN.out (Mod.size hx)) hl3).mono ?_; rintro x w4 ⟨A2, c2, rfl, hb4, hl4⟩; have hx : Ext w1 w4 := (by (with_reducible refine Mod.trans ?_ hb4); (repeat (first | with_reducible assumption | with_reducible exact Mod.refl _ _ | with_reducible refine Mod.drew ?_ | with_reducible refine Mod.alloc ?_ _))); have z := HS.out w4 hx; have HR4 := hid (HR1.out.ext hx); obtain ⟨g0, g1, g2, g3, g4⟩ := cells5 HR4.out; have f0 := Blk.frozen HR4.out 0; have f1 := Blk.frozen HR4.out 1; have f2 := Blk.frozen HR4.out 2; have f3 := Blk.frozen HR4.out 3; have f4 := Blk.frozen HR4.out 4))
 all_goals go_wp2_with fail
 all_goals obtain ⟨d0, d1, d2, d3, d4⟩ := cells5 (set5_blk (t := t) (A := A2) (c := c2) HR4.out)
 all_goals clear g0 g1 g2 g3 g4 f0 f1 f2 f3 f4
 all_goals show bodyPost _ _ _ _ _ (set5 w4 (w.heap.size + 1) t A2 c2)
 all_goals refine bodyPost_ret (v := .tuple #[itemV t A2 c2, .int .i64 0]) (by simp [results, Tryz.results135, go_sem, d0, d1, d2, d3, d4]) rfl ?_
 all_goals exact ⟨A2, c2, rfl, set5_mod (HE1.out.trans hx) (by omega), IsL.weak (fun _ _ h => by have : w.heap.size + 2 <= _ := h; omega) _ (IsL.mod (Q := fun b => w.heap.size + 2 <= b) set5_modb (fun k hq hk hm => by rw [List.mem_singleton] at hm; have : w.heap.size + 2 <= k := hq; omega) _ hl4)⟩
end Go.Proofs.YtmckfdmdkljomaaGreatDoor
