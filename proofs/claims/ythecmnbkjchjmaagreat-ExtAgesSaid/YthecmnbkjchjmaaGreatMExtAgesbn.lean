/-
 A step.
-/
import Derived.Test.YthecmnbkjchjmaaGreatMExtAgesbl
import Derived.Test.YthecmnbkjchjmaaGreatMExtAgesbm

namespace Go.Proofs.YthecmnbkjchjmaaGreat
open Go.RowKit Go.Shelf
set_option linter.unusedVariables false
set_option linter.unusedSimpArgs false

theorem entersY1 : ∀ args w, (callFunc 33 args).run Tryz.prog w = .ok (.enter 33 args) w := enters_of Tryz.func33 (by kernel_rfl) rfl
theorem entersY2 : ∀ args w, (callFunc 35 args).run Tryz.prog w = .ok (.enter 35 args) w := enters_of Tryz.func35 (by kernel_rfl) rfl
theorem entersY3 : ∀ args w, (callFunc 39 args).run Tryz.prog w = .ok (.enter 39 args) w := enters_of Tryz.func39 (by kernel_rfl) rfl
noncomputable def bbS (bs : Nat -> BV) (k : Nat) (L : List UInt8) (ms : Nat) (i : Nat) : Nat -> BV := if i = 0 then bs else if i = 1 then sentF bs k L else if i = 2 then agedF (sentF bs k L) (sentK bs k) ms else hopF (agedF (sentF bs k L) (sentK bs k) ms) (sentK bs k)
noncomputable def kkS (bs : Nat -> BV) (k : Nat) (i : Nat) : Nat := if i = 0 then k else sentK bs k
theorem St.len {p : PV} {R bs : Nat -> BV} {k : Nat} (h : St p R bs k) : ∀ i, i < k -> (bs i).data.length <= 100000 := fun i hi => by
 have r := h.ok.br i hi
 unfold BV.right at r
 split at r
 . exact absurd r (by decide)
 split at r
 . exact absurd r (by decide)
 omega
theorem St.extR0 {p : PV} {R bs : Nat -> BV} {k : Nat} (h : St p R bs k) : extR bs k = 0 := extR_yes h.ex
set_option maxRecDepth 20000 in
set_option maxHeartbeats 16000000 in
theorem Step_ok (p : PV) (bs R : Nat -> BV) (k c : Nat) (A : Option Addr) (hnl : Hid (p.d.name.length < 4611686018427387904 /\ p.s.name.length < 4611686018427387904 /\ p.r.name.length < 4611686018427387904)) (hf : p.fl < 18446744073709551616) (sch : Int) (nm : List UInt8) (nd sv ms : Nat) (hm : ms < 18446744073709551616) (ho : EV.ok ⟨sch, nm, nd, sv⟩ = true) (hst : St p R bs k) (R' : Nat -> BV) (hS : Stepped p bs k (eidT ⟨sch, nm, nd, sv⟩).bytes ms R') (hh : ∀ l n, hopV bs k = some (l, n) -> n < l) (w : World) (h : BsL w A k bs) : Calls Tryz.prog 14 #[bunV p A k c, EV.v ⟨sch, nm, nd, sv⟩, .int .u64 (ms : Int)] w (BunPost p (bbS bs k (eidT ⟨sch, nm, nd, sv⟩).bytes ms 3) (sentK bs k) w) := by
 obtain ⟨L, hL⟩ : ∃ L, (eidT ⟨sch, nm, nd, sv⟩).bytes = L := ⟨_, rfl⟩
 rw [hL] at hS ⊢
 have KP : Hid (∀ W, Calls Tryz.prog 31 #[EV.v ⟨sch, nm, nd, sv⟩] W (Ret (.tuple #[str L, .int .i64 0]) W)) := hid (fun W => by rw [<- hL]; exact Prev_yes ⟨sch, nm, nd, sv⟩ ho W)
 have hk16 := hst.ok.k16
 have K0 : Hid (0 < k) := hid hst.ok.k0
 have K1 : Hid (0 < sentK bs k) := hid hS.k0
 have hs16 := hS.s1.ok.k16
 have KM : Hid (∀ W, BsL W A k bs -> Calls Tryz.prog 32 #[bunV p A k c] W (Ret (.int .i64 0) W)) := hid (fun W hW => by
  cases hf1 : firstOf (tyB bs 10) k with
  | none => exact xmay_none p bs k c A hnl hf (by omega) hst.len hst.right hst.extR0 hf1 W hW
  | some i =>
   obtain ⟨l, n, h1, _, h2⟩ := hst.hop_at hf1
   exact xmay_some p bs k c A hnl hf (by omega) hst.len hst.right hst.extR0 i l n false (by have := hh l n h2; simp; omega) hf1 h1 W hW)
 have KS0 : Hid (∀ W A1 c1, BsL W A1 k bs -> ∀ q, Blk W q 9 #[str L] -> Calls Tryz.prog 33 (#[bunV p A1 k c1] ++ #[.pointer (some ⟨q, 0, none⟩)]) W (BunPost p (sentF bs k L) (sentK bs k) W)) := hid (fun W A1 c1 hW q hq => stepA_any p bs k c1 A1 (sentK bs k) _ K1 L q _ W hW hq (hid (fun W' hW' _ => sent_any p bs k c1 A1 hnl hf (by omega) K0.out hst.ok.du L hS.s1.right W' hW')))
 have KS1 : Hid (∀ W A1 c1, BsL W A1 (sentK bs k) (sentF bs k L) -> ∀ q, Blk W q 22 #[.int .u64 (ms : Int)] -> Calls Tryz.prog 35 (#[bunV p A1 (sentK bs k) c1] ++ #[.pointer (some ⟨q, 0, none⟩)]) W (BunPost p (agedF (sentF bs k L) (sentK bs k) ms) (sentK bs k) W)) := hid (fun W A1 c1 hW q hq => stepB_any p _ _ c1 A1 (sentK bs k) _ K1 ms q _ W hW hq (hid (fun W' hW' hq' => aged_any p _ _ c1 A1 hnl hf (by omega) K1.out hS.s1.ok.du hS.s1.len ms hm (fun i hi => by obtain ⟨n, a1, a2, _⟩ := hS.s1.age_at hi; exact ⟨n, a1, a2⟩) hS.s2.right W' hW' q _ hq')))
 have KS2 : Hid (∀ W A1 c1, BsL W A1 (sentK bs k) (agedF (sentF bs k L) (sentK bs k) ms) -> Calls Tryz.prog 39 (#[bunV p A1 (sentK bs k) c1] ++ #[]) W (BunPost p (hopF (agedF (sentF bs k L) (sentK bs k) ms) (sentK bs k)) (sentK bs k) W)) := hid (fun W A1 c1 hW => stepC_any p _ _ c1 A1 (sentK bs k) _ K1 W hW (hid (fun W' hW' => hopped_any p _ _ c1 A1 hnl hf (by omega) K1.out hS.s2.ok.du hS.s2.len (fun i hi => by
  obtain ⟨l, n, a1, a2, a3⟩ := hS.s2.hop_at hi
  have a4 := hh l n (by rw [<- hS.hop2]; exact a3)
  exact ⟨l, n, a1, by simp [mayB] at a2 ⊢; omega⟩) hS.s3.right W' hW')))
 have HI : Hid (∀ (A1 : Option Addr) (k1 c1 : Nat), ZX (bunC p A1 k1 c1)) := hid (fun A1 k1 c1 => ZX.mk' p A1 k1 c1)
 have HE := hid (((((Mod.refl [] w).alloc (.cells (bunC p A k c) 29)).alloc (.cells #[.int .i64 sch, str nm, .int .u64 (nd : Int), .int .u64 (sv : Int)] 24)).alloc (.cells #[.int .u64 (ms : Int)] 22)).alloc (.cells #[.int .u64 0, .int .i64 0, .int .i64 0, .string ⟨#[]⟩, .int .u64 0, .int .u64 0, .int .i64 0, .string ⟨#[]⟩, .int .u64 0, .int .u64 0, .int .i64 0, .string ⟨#[]⟩, .int .u64 0, .int .u64 0, .int .u64 0, .int .u64 0, .int .u64 0, .int .u64 0, .int .u64 0, .slice none 0 0] 29))
 have HB0 : Hid (Blk ((((w.alloc (.cells (bunC p A k c) 29)).alloc (.cells #[.int .i64 sch, str nm, .int .u64 (nd : Int), .int .u64 (sv : Int)] 24)).alloc (.cells #[.int .u64 (ms : Int)] 22)).alloc (.cells #[.int .u64 0, .int .i64 0, .int .i64 0, .string ⟨#[]⟩, .int .u64 0, .int .u64 0, .int .i64 0, .string ⟨#[]⟩, .int .u64 0, .int .u64 0, .int .i64 0, .string ⟨#[]⟩, .int .u64 0, .int .u64 0, .int .u64 0, .int .u64 0, .int .u64 0, .int .u64 0, .int .u64 0, .slice none 0 0] 29)) w.heap.size 29 (bunC p A k c)) := hid ((((Blk.new w 29 (bunC p A k c)).alloc (.cells #[.int .i64 sch, str nm, .int .u64 (nd : Int), .int .u64 (sv : Int)] 24)).alloc (.cells #[.int .u64 (ms : Int)] 22)).alloc (.cells #[.int .u64 0, .int .i64 0, .int .i64 0, .string ⟨#[]⟩, .int .u64 0, .int .u64 0, .int .i64 0, .string ⟨#[]⟩, .int .u64 0, .int .u64 0, .int .i64 0, .string ⟨#[]⟩, .int .u64 0, .int .u64 0, .int .u64 0, .int .u64 0, .int .u64 0, .int .u64 0, .int .u64 0, .slice none 0 0] 29))
 have HB1 : Hid (Blk ((((w.alloc (.cells (bunC p A k c) 29)).alloc (.cells #[.int .i64 sch, str nm, .int .u64 (nd : Int), .int .u64 (sv : Int)] 24)).alloc (.cells #[.int .u64 (ms : Int)] 22)).alloc (.cells #[.int .u64 0, .int .i64 0, .int .i64 0, .string ⟨#[]⟩, .int .u64 0, .int .u64 0, .int .i64 0, .string ⟨#[]⟩, .int .u64 0, .int .u64 0, .int .i64 0, .string ⟨#[]⟩, .int .u64 0, .int .u64 0, .int .u64 0, .int .u64 0, .int .u64 0, .int .u64 0, .int .u64 0, .slice none 0 0] 29)) (w.heap.size + 1) 24 #[.int .i64 sch, str nm, .int .u64 (nd : Int), .int .u64 (sv : Int)]) := by unfold Hid; have := (Blk.newL (N := (w.heap.size + 1)) (w.alloc (.cells (bunC p A k c) 29)) 24 #[.int .i64 sch, str nm, .int .u64 (nd : Int), .int .u64 (sv : Int)] (by simp)); exact ((this.alloc (.cells #[.int .u64 (ms : Int)] 22)).alloc (.cells #[.int .u64 0, .int .i64 0, .int .i64 0, .string ⟨#[]⟩, .int .u64 0, .int .u64 0, .int .i64 0, .string ⟨#[]⟩, .int .u64 0, .int .u64 0, .int .i64 0, .string ⟨#[]⟩, .int .u64 0, .int .u64 0, .int .u64 0, .int .u64 0, .int .u64 0, .int .u64 0, .int .u64 0, .slice none 0 0] 29))
 have HB2 : Hid (Blk ((((w.alloc (.cells (bunC p A k c) 29)).alloc (.cells #[.int .i64 sch, str nm, .int .u64 (nd : Int), .int .u64 (sv : Int)] 24)).alloc (.cells #[.int .u64 (ms : Int)] 22)).alloc (.cells #[.int .u64 0, .int .i64 0, .int .i64 0, .string ⟨#[]⟩, .int .u64 0, .int .u64 0, .int .i64 0, .string ⟨#[]⟩, .int .u64 0, .int .u64 0, .int .i64 0, .string ⟨#[]⟩, .int .u64 0, .int .u64 0, .int .u64 0, .int .u64 0, .int .u64 0, .int .u64 0, .int .u64 0, .slice none 0 0] 29)) (w.heap.size + 1 + 1) 22 #[.int .u64 (ms : Int)]) := by unfold Hid; have := (Blk.newL (N := (w.heap.size + 1 + 1)) ((w.alloc (.cells (bunC p A k c) 29)).alloc (.cells #[.int .i64 sch, str nm, .int .u64 (nd : Int), .int .u64 (sv : Int)] 24)) 22 #[.int .u64 (ms : Int)] (by simp)); exact (this.alloc (.cells #[.int .u64 0, .int .i64 0, .int .i64 0, .string ⟨#[]⟩, .int .u64 0, .int .u64 0, .int .i64 0, .string ⟨#[]⟩, .int .u64 0, .int .u64 0, .int .i64 0, .string ⟨#[]⟩, .int .u64 0, .int .u64 0, .int .u64 0, .int .u64 0, .int .u64 0, .int .u64 0, .int .u64 0, .slice none 0 0] 29))
 have HB3 : Hid (Blk ((((w.alloc (.cells (bunC p A k c) 29)).alloc (.cells #[.int .i64 sch, str nm, .int .u64 (nd : Int), .int .u64 (sv : Int)] 24)).alloc (.cells #[.int .u64 (ms : Int)] 22)).alloc (.cells #[.int .u64 0, .int .i64 0, .int .i64 0, .string ⟨#[]⟩, .int .u64 0, .int .u64 0, .int .i64 0, .string ⟨#[]⟩, .int .u64 0, .int .u64 0, .int .i64 0, .string ⟨#[]⟩, .int .u64 0, .int .u64 0, .int .u64 0, .int .u64 0, .int .u64 0, .int .u64 0, .int .u64 0, .slice none 0 0] 29)) (w.heap.size + 1 + 1 + 1) 29 #[.int .u64 0, .int .i64 0, .int .i64 0, .string ⟨#[]⟩, .int .u64 0, .int .u64 0, .int .i64 0, .string ⟨#[]⟩, .int .u64 0, .int .u64 0, .int .i64 0, .string ⟨#[]⟩, .int .u64 0, .int .u64 0, .int .u64 0, .int .u64 0, .int .u64 0, .int .u64 0, .int .u64 0, .slice none 0 0]) := by unfold Hid; exact Blk.newL _ _ _ (by simp)
 have HL := hid (BsL.ext h HE.out)
 have HLW := hid h
 clear h hh hst hnl hf ho hm hL hS hk16 hs16
 go_enter Tryz.func14, Tryz.ntmps14
 go_upto_region 1 with fail
 generalize ((((w.alloc (.cells (bunC p A k c) 29)).alloc (.cells #[.int .i64 sch, str nm, .int .u64 (nd : Int), .int .u64 (sv : Int)] 24)).alloc (.cells #[.int .u64 (ms : Int)] 22)).alloc (.cells #[.int .u64 0, .int .i64 0, .int .i64 0, .string ⟨#[]⟩, .int .u64 0, .int .u64 0, .int .i64 0, .string ⟨#[]⟩, .int .u64 0, .int .u64 0, .int .i64 0, .string ⟨#[]⟩, .int .u64 0, .int .u64 0, .int .u64 0, .int .u64 0, .int .u64 0, .int .u64 0, .int .u64 0, .slice none 0 0] 29)) = V at *
 obtain ⟨e, he⟩ := Later.self V
 rw [he]
 clear he
 have tk1 : True := trivial
 go_upto_region 4 with (first | (clear tk1; refine wpList_row (by rfl) 24 _ rfl _ rfl (HB1.out.later _) Tryz.underlying24 rfl (by kernel_rfl) ?_) | (go_at_call 31; refine (Ret.later (KP.out _)).mono ?_; rintro x _ ⟨rfl, e, rfl⟩))
 generalize hU : World.alloc e.x _ = U
 have HEU : Hid (Ext V U) := hid (by rw [<- hU]; exact e.h.alloc _)
 have HQU : Hid (Blk U e.x.heap.size 9 #[str L]) := hid (by rw [<- hU]; exact Blk.new _ _ _)
 have HNQ : Hid (V.heap.size <= e.x.heap.size) := hid e.h.size
 clear hU
 generalize e.x.heap.size = qb at *
 have HBU := hid (HB0.out.ext HEU.out)
 have HMU := hid (HB2.out.ext HEU.out)
 have HRU := hid (HB3.out.ext HEU.out)
 have HLU := hid (HL.out.ext HEU.out)
 have HVS : Hid ((w.heap.size + 1 + 1 + 1) < V.heap.size) := hid HB3.out.lt
 clear HB0 HB1 HB2 HB3 HL e KP
 obtain ⟨e, he⟩ := Later.self U
 rw [he]
 clear he
 have tk1 : True := trivial
 go_upto_region 7 with (first | (clear tk1; refine wpList_row (by rfl) 29 _ rfl _ rfl (HBU.out.later _) dU rfl (by kernel_rfl) ?_) | (go_at_call 32; refine (Ret.later (KM.out _ (HLU.out.ext (Later.h _)))).mono ?_; rintro x _ ⟨rfl, e, rfl⟩))
 go_wp2_with fail
 generalize hV2 : World.alloc e.x _ = V2
 have HSL : Hid (Blk V2 e.x.heap.size 70 #[.func (.func 33) #[] #[.pointer (some ⟨qb, 0, none⟩)], .func (.func 35) #[] #[.pointer (some ⟨(w.heap.size + 1 + 1), 0, none⟩)], .func (.func 39) #[] #[]]) := hid (by rw [<- hV2]; exact Blk.new _ _ _)
 have HU2 : Hid (Ext U V2) := hid (by rw [<- hV2]; exact e.h.alloc _)
 have HNS : Hid (U.heap.size <= e.x.heap.size) := hid e.h.size
 generalize e.x.heap.size = sb at *
 clear hV2 KM e
 have HUL := hid HU2.out.size
 have HVU := hid HNQ.out
 have HNN : Hid (w.heap.size ≠ qb /\ w.heap.size ≠ (w.heap.size + 1 + 1) /\ w.heap.size ≠ (w.heap.size + 1 + 1 + 1) /\ w.heap.size ≠ sb) := hid ⟨by have := HVS.out; have := HNQ.out; omega, by omega, by omega, by have := HBU.out.lt; have := HNS.out; omega⟩
 have HSW0 := HSL
 have HQW0 := hid (HQU.out.ext HU2.out)
 have HMW0 := hid (HMU.out.ext HU2.out)
 have HRW0 := hid (HRU.out.ext HU2.out)
 have HBW0 := hid (HBU.out.ext HU2.out)
 have HLW0 := hid (HLU.out.ext HU2.out)
 have HW2 := hid ((HE.out.trans HEU.out).trans HU2.out)
 clear HSL HQU HMU HRU HBU HLU HE HEU HU2 HNQ HVU HUL HNS HVS HLW
 go_loopw [32] (fun s32 wr => ∃ (i : Nat) (zc : Array Value) (A1 : Option Addr) (c1 : Nat), i <= 3 /\ s32 = .int .i64 (i : Int) /\ Hid (bunC p A1 (kkS bs k i) c1 = zc) /\ Hid (Blk wr w.heap.size 29 zc) /\ Hid (BsL wr A1 (kkS bs k i) (bbS bs k L ms i)) /\ Hid (Mod [w.heap.size] V2 wr)) (fun s32 _ => 3 - (intOf s32).toNat)
 case atStart => exact ⟨0, _, A, c, by omega, rfl, hid rfl, HBW0, HLW0, hid (Mod.refl _ _)⟩
 case round =>
  obtain ⟨i, zc, A1, c1, hi, rfl, hz, HBW, HBL, HMO⟩ := hrel
  rename World => wr
  have HZC : Hid (ZX zc) := hid (by rw [<- hz.out]; exact ZX.mk' p A1 _ c1)
  have HSW := hid (HSW0.out.mod HMO.out (by simp; exact fun h => HNN.out.2.2.2 h.symm))
  have HQW := hid (HQW0.out.mod HMO.out (by simp; exact fun h => HNN.out.1 h.symm))
  have HMW := hid (HMW0.out.mod HMO.out (by simp; omega))
  have HRW := hid (HRW0.out.mod HMO.out (by simp; omega))
  have hi4 : i = 0 \/ i = 1 \/ i = 2 \/ i = 3 := by omega
  clear hi
  rcases hi4 with rfl | rfl | rfl | rfl
  .
   have HBL : Hid (BsL wr A1 k bs) := HBL
   have hz : Hid (bunC p A1 k c1 = zc) := hz
   have x0 : ∀ e : Later wr, e.x.cell? ⟨sb, 0, none⟩ = some (.func (.func 33) #[] #[.pointer (some ⟨qb, 0, none⟩)]) := HSW.out.cellL 0 rfl
   have eg := entersY1
   have KC := hid (fun W (hW : Ext wr W) => KS0.out W A1 c1 (HBL.out.ext hW) qb (HQW.out.ext hW))
   rw [show bunV p A1 k c1 = .agg zc by rw [<- hz.out]] at KC
   obtain ⟨e, he⟩ := Later.self wr
   rw [he]
   clear he
   have tk1 : True := trivial
   go_upto_region 11 with (first | (clear tk1; refine wpList_row (by rfl) 29 _ rfl _ rfl (HBW.out.later _) dU rfl HZC.out.i ?_) | (go_at_fn 33; refine (KC.out _ (Later.h _)).mono ?_; rintro y w3 ⟨zd, A2, c2, hz2, rfl, hb3, hL3⟩; have HZD : Hid (ZX zd) := hid (by rw [<- hz2.out]; exact ZX.mk' p A2 _ c2); have HE3 := hid (e.h.trans hb3); have HB3 := hid (HBW.out.ext (e.h.trans hb3)); have HZ2 := hid hz2.out; clear hz2 hb3) | (refine wpList_store_mid rfl 29 _ _ rfl w.heap.size 0 zd (by rfl) (by rfl) (HB3.out.there (by rw [HZD.out.s, HZC.out.s]; exact Nat.le_refl 20)) HZD.out.i HZD.out.o ?_))
   generalize hZ : World.setCells _ _ _ _ = Z
   have HZB : Hid (Blk Z w.heap.size 29 zd) := hid (by rw [<- hZ]; exact setCells_all (ds := zd) HB3.out (by rw [Array.length_toList, HZD.out.s, HZC.out.s]))
   have HZX : Hid (Mod [w.heap.size] w3 Z) := hid (by rw [<- hZ]; exact setCells_mod _ _ (Mod.refl _ _) (.inl (by simp)))
   have HAP : Hid (∀ ad, A2 = some ad -> ad.block ∉ [w.heap.size]) := hid (BsL.apart hL3.out (by have h := HB3.out; rw [<- hz.out] at h; exact h) K1.out)
   clear hZ
   go_wp2_with fail
   go_roundw
   case rel =>
    exact ⟨1, zd, A2, c2, by omega, by go_num, HZ2, HZB, hid (BsL.modX hL3.out HZX.out HAP.out), hid ((HMO.out.trans (Mod.of_ext HE3.out)).trans HZX.out)⟩
   case measure => simp [intOf]
  .
   have HBL : Hid (BsL wr A1 (sentK bs k) (sentF bs k L)) := HBL
   have hz : Hid (bunC p A1 (sentK bs k) c1 = zc) := hz
   have x0 : ∀ e : Later wr, e.x.cell? ⟨sb, 1, none⟩ = some (.func (.func 35) #[] #[.pointer (some ⟨(w.heap.size + 1 + 1), 0, none⟩)]) := HSW.out.cellL 1 rfl
   have eg := entersY2
   have KC := hid (fun W (hW : Ext wr W) => KS1.out W A1 c1 (HBL.out.ext hW) _ (HMW.out.ext hW))
   rw [show bunV p A1 (sentK bs k) c1 = .agg zc by rw [<- hz.out]] at KC
   obtain ⟨e, he⟩ := Later.self wr
   rw [he]
   clear he
   have tk1 : True := trivial
   go_upto_region 11 with (first | (clear tk1; refine wpList_row (by rfl) 29 _ rfl _ rfl (HBW.out.later _) dU rfl HZC.out.i ?_) | (go_at_fn 35; refine (KC.out _ (Later.h _)).mono ?_; rintro y w3 ⟨zd, A2, c2, hz2, rfl, hb3, hL3⟩; have HZD : Hid (ZX zd) := hid (by rw [<- hz2.out]; exact ZX.mk' p A2 _ c2); have HE3 := hid (e.h.trans hb3); have HB3 := hid (HBW.out.ext (e.h.trans hb3)); have HZ2 := hid hz2.out; clear hz2 hb3) | (refine wpList_store_mid rfl 29 _ _ rfl w.heap.size 0 zd (by rfl) (by rfl) (HB3.out.there (by rw [HZD.out.s, HZC.out.s]; exact Nat.le_refl 20)) HZD.out.i HZD.out.o ?_))
   generalize hZ : World.setCells _ _ _ _ = Z
   have HZB : Hid (Blk Z w.heap.size 29 zd) := hid (by rw [<- hZ]; exact setCells_all (ds := zd) HB3.out (by rw [Array.length_toList, HZD.out.s, HZC.out.s]))
   have HZX : Hid (Mod [w.heap.size] w3 Z) := hid (by rw [<- hZ]; exact setCells_mod _ _ (Mod.refl _ _) (.inl (by simp)))
   have HAP : Hid (∀ ad, A2 = some ad -> ad.block ∉ [w.heap.size]) := hid (BsL.apart hL3.out (by have h := HB3.out; rw [<- hz.out] at h; exact h) K1.out)
   clear hZ
   go_wp2_with fail
   go_roundw
   case rel =>
    exact ⟨2, zd, A2, c2, by omega, by go_num, HZ2, HZB, hid (BsL.modX hL3.out HZX.out HAP.out), hid ((HMO.out.trans (Mod.of_ext HE3.out)).trans HZX.out)⟩
   case measure => simp [intOf]
  .
   have HBL : Hid (BsL wr A1 (sentK bs k) (agedF (sentF bs k L) (sentK bs k) ms)) := HBL
   have hz : Hid (bunC p A1 (sentK bs k) c1 = zc) := hz
   have x0 : ∀ e : Later wr, e.x.cell? ⟨sb, 2, none⟩ = some (.func (.func 39) #[] #[]) := HSW.out.cellL 2 rfl
   have eg := entersY3
   have KC := hid (fun W (hW : Ext wr W) => KS2.out W A1 c1 (HBL.out.ext hW))
   rw [show bunV p A1 (sentK bs k) c1 = .agg zc by rw [<- hz.out]] at KC
   obtain ⟨e, he⟩ := Later.self wr
   rw [he]
   clear he
   have tk1 : True := trivial
   go_upto_region 11 with (first | (clear tk1; refine wpList_row (by rfl) 29 _ rfl _ rfl (HBW.out.later _) dU rfl HZC.out.i ?_) | (go_at_fn 39; refine (KC.out _ (Later.h _)).mono ?_; rintro y w3 ⟨zd, A2, c2, hz2, rfl, hb3, hL3⟩; have HZD : Hid (ZX zd) := hid (by rw [<- hz2.out]; exact ZX.mk' p A2 _ c2); have HE3 := hid (e.h.trans hb3); have HB3 := hid (HBW.out.ext (e.h.trans hb3)); have HZ2 := hid hz2.out; clear hz2 hb3) | (refine wpList_store_mid rfl 29 _ _ rfl w.heap.size 0 zd (by rfl) (by rfl) (HB3.out.there (by rw [HZD.out.s, HZC.out.s]; exact Nat.le_refl 20)) HZD.out.i HZD.out.o ?_))
   generalize hZ : World.setCells _ _ _ _ = Z
   have HZB : Hid (Blk Z w.heap.size 29 zd) := hid (by rw [<- hZ]; exact setCells_all (ds := zd) HB3.out (by rw [Array.length_toList, HZD.out.s, HZC.out.s]))
   have HZX : Hid (Mod [w.heap.size] w3 Z) := hid (by rw [<- hZ]; exact setCells_mod _ _ (Mod.refl _ _) (.inl (by simp)))
   have HAP : Hid (∀ ad, A2 = some ad -> ad.block ∉ [w.heap.size]) := hid (BsL.apart hL3.out (by have h := HB3.out; rw [<- hz.out] at h; exact h) K1.out)
   clear hZ
   go_wp2_with fail
   go_roundw
   case rel =>
    exact ⟨3, zd, A2, c2, by omega, by go_num, HZ2, HZB, hid (BsL.modX hL3.out HZX.out HAP.out), hid ((HMO.out.trans (Mod.of_ext HE3.out)).trans HZX.out)⟩
   case measure => simp [intOf]
  .
   have HBL : Hid (BsL wr A1 (sentK bs k) (bbS bs k L ms 3)) := HBL
   have hz : Hid (bunC p A1 (sentK bs k) c1 = zc) := hz
   have tk1 : True := trivial
   go_wp2_with (first | (clear tk1; refine wpList_row (by rfl) 29 _ rfl _ rfl HBW.out dU rfl HZC.out.i ?_) | (refine wpList_store_mid rfl 29 _ _ rfl (w.heap.size + 1 + 1 + 1) 0 zc (by rfl) (by rfl) (HRW.out.there (by rw [HZC.out.s]; exact Nat.le_refl 20)) HZC.out.i HZC.out.o ?_))
   generalize hZ : World.setCells _ _ _ _ = Z
   have HZB : Hid (Blk Z (w.heap.size + 1 + 1 + 1) 29 zc) := hid (by rw [<- hZ]; exact setCells_all (ds := zc) HRW.out (by rw [Array.length_toList, HZC.out.s]; rfl))
   have HZX : Hid (Mod [(w.heap.size + 1 + 1 + 1)] wr Z) := hid (by rw [<- hZ]; exact setCells_mod _ _ (Mod.refl _ _) (.inl (by simp)))
   clear hZ
   refine bodyPost_ret (v := .tuple #[.agg zc, .int .i64 0]) (results_cell2 Tryz.results14 _ rfl rfl HZB.out dU rfl HZC.out.i) rfl ?_
   refine ⟨zc, A1, c1, hz, rfl, ?_, hid ?_⟩
   . exact (((HW2.out.of_ext (S := [w.heap.size, (w.heap.size + 1 + 1 + 1)])).trans (HMO.out.mono (by simp))).trans (HZX.out.mono (by simp))).new (fun kk hkk => .inr (by simp at hkk; omega))
   . exact BsL.modX HBL.out HZX.out (BsL.apartZ HBL.out HRW.out K1.out)
end Go.Proofs.YthecmnbkjchjmaaGreat


namespace Go.Proofs.YthecmnbkjchjmaaGreat
open Go.RowKit
set_option linter.unusedVariables false
set_option linter.unusedSimpArgs false

theorem few_names14 {p : PV} (h : p.few = true) : p.d.name.length < 4611686018427387904 /\ p.s.name.length < 4611686018427387904 /\ p.r.name.length < 4611686018427387904 := by
 unfold PV.few at h
 simp only [Bool.and_eq_true, decide_eq_true_eq] at h
 omega
theorem lived_ageV {t : Nat} {bs : Nat -> BV} {k now n : Nat} (h : ageV bs k = some n) : livedN t bs k now = n := by
 unfold ageV at h
 cases hf : firstOf (tyB bs 7) k with
 | none => rw [hf] at h; cases h
 | some i => rw [hf] at h; exact lived_age hf h
def sumN (f : Nat -> Nat) : Nat -> Nat
 | 0 => 0
 | j + 1 => sumN f j + f j
theorem sumN_le {f : Nat -> Nat} {m : Nat} (h : ∀ i, i < m -> f i <= 4294967295) : ∀ j, j <= m -> sumN f j <= j * 4294967295
 | 0, _ => by simp [sumN]
 | j + 1, hj => by have := sumN_le h j (by omega); have := h j (by omega); rw [sumN]; omega
structure AgK (p : PV) (n0 : Nat) (f : Nat -> Nat) (cb j : Nat) (W : World) (zc : Array Value) (A : Option Addr) (k c : Nat) (bs R : Nat -> BV) : Prop where
 z : bunC p A k c = zc
 b : Blk W cb 29 zc
 l : BsL W A k bs
 st : St p R bs k
 age : ageV bs k = some (min (n0 + sumN f j) 1099511627776)
 hop : hopV bs k = none
set_option maxRecDepth 20000 in
set_option maxHeartbeats 16000000 in
theorem lawAges_any (p : PV) (bs : Nat -> BV) (k c : Nat) (A : Option Addr) (hf : p.fl < 18446744073709551616) (hk : k < 4611686018427387904) (Am : Option Addr) (m cm : Nat) (f : Nat -> Nat) (hmk : m < 4611686018427387904) (hfm : ∀ i, i < m -> f i <= 4294967295) (w : World) (h : BsL w A k bs) (hU : UsL w .u32 Am m f) : Calls Tryz.prog 4 #[bunV p A k c, .slice Am m cm] w (Ret (.bool true) w) := by
 have KA := hid (fun W => awake14_any W)
 have KF := hid (fun W (hW : BsL W A k bs) => few13_any p bs k c A hk W hW)
 have HU := hid hU
 clear hU
 have HE := hid ((Mod.refl [] w).alloc (.cells (bunC p A k c) 29))
 have HB0 : Hid (Blk (w.alloc (.cells (bunC p A k c) 29)) w.heap.size 29 (bunC p A k c)) := hid (Blk.new w 29 (bunC p A k c))
 have HL := hid (BsL.ext h HE.out)
 have HF := hid hf
 have HK := hid hk
 clear h hf hk
 go_enter Tryz.func4, Tryz.ntmps4
 go_upto_region 1 with fail
 generalize (w.alloc (.cells (bunC p A k c) 29)) = V at *
 obtain ⟨e, he⟩ := Later.self V
 rw [he]
 clear he
 have b19 : ∀ e : Later V, e.x.cell? ⟨w.heap.size, 19, none⟩ = some (.slice A k c) := HB0.out.cellL 19 rfl
 have tk1 : True := trivial
 cases hF : bunFew p bs k with
 | false =>
  rw [hF] at KF
  clear hF
  go_wp2_with (first | (go_at_call 5; refine (Ret.later (KA.out _)).mono ?_; rintro x _ ⟨rfl, e, rfl⟩) | (clear tk1; refine wpList_row (by rfl) 29 _ rfl _ rfl (HB0.out.later _) dU rfl (by kernel_rfl) ?_) | (go_at_call 6; refine (Ret.later (KF.out _ (HL.out.ext (Later.h _)))).mono ?_; rintro x _ ⟨rfl, e, rfl⟩))
  go_ret
  exact Ret.mk rfl (HE.out.trans e.h)
 | true =>
 have hnl := few_names14 (bunFew_spec hF).2.1
 have hd : ∀ i, i < k -> (bs i).data.length <= 4100 := (bunFew_spec hF).2.2
 have KR := hid (fun W (hW : BsL W A k bs) => r13Right_any p bs k c A HF.out HK.out (fun i hi => by have := hd i hi; omega) W hW)
 rw [hF] at KF
 clear hF
 have tk2 : True := trivial
 by_cases hR : bunRight p bs k = 0
 case neg =>
  generalize bunRight p bs k = r at *
  have ra : ((r) == (0)) = false := by rw [beq_eq_false_iff_ne]; exact hR
  have rb : ((r) = (0)) = False := eq_false (by exact hR)
  have rc : ((r) != (0)) = true := by rw [bne_iff_ne]; exact hR
  clear hR hnl hd
  go_wp2_with (first | (go_at_call 5; refine (Ret.later (KA.out _)).mono ?_; rintro x _ ⟨rfl, e, rfl⟩) | (clear tk1; refine wpList_row (by rfl) 29 _ rfl _ rfl (HB0.out.later _) dU rfl (by kernel_rfl) ?_) | (go_at_call 6; refine (Ret.later (KF.out _ (HL.out.ext (Later.h _)))).mono ?_; rintro x _ ⟨rfl, e, rfl⟩) | (clear tk2; refine wpList_row (by rfl) 29 _ rfl _ rfl (HB0.out.later _) dU rfl (by kernel_rfl) ?_) | (go_at_call 7; refine (Ret.later (KR.out _ (HL.out.ext (Later.h _)))).mono ?_; rintro x _ ⟨rfl, e, rfl⟩))
  go_ret
  exact Ret.mk rfl (HE.out.trans e.h)
 rw [hR] at KR
 have tk3 : True := trivial
 have KX := hid (fun W (hW : BsL W A k bs) => r14Right_any p bs k c A HK.out (fun i hi => by have := hd i hi; omega) W hW)
 by_cases hX : extR bs k = 0
 case neg =>
  generalize extR bs k = r at *
  have ra : ((r) == (0)) = false := by rw [beq_eq_false_iff_ne]; exact hX
  have rb : ((r) = (0)) = False := eq_false (by exact hX)
  have rc : ((r) != (0)) = true := by rw [bne_iff_ne]; exact hX
  clear hX hnl hd hR
  go_wp2_with (first | (go_at_call 5; refine (Ret.later (KA.out _)).mono ?_; rintro x _ ⟨rfl, e, rfl⟩) | (clear tk1; refine wpList_row (by rfl) 29 _ rfl _ rfl (HB0.out.later _) dU rfl (by kernel_rfl) ?_) | (go_at_call 6; refine (Ret.later (KF.out _ (HL.out.ext (Later.h _)))).mono ?_; rintro x _ ⟨rfl, e, rfl⟩) | (clear tk2; refine wpList_row (by rfl) 29 _ rfl _ rfl (HB0.out.later _) dU rfl (by kernel_rfl) ?_) | (go_at_call 7; refine (Ret.later (KR.out _ (HL.out.ext (Later.h _)))).mono ?_; rintro x _ ⟨rfl, e, rfl⟩) | (clear tk3; refine wpList_row (by rfl) 29 _ rfl _ rfl (HB0.out.later _) dU rfl (by kernel_rfl) ?_) | (go_at_call 8; refine (Ret.later (KX.out _ (HL.out.ext (Later.h _)))).mono ?_; rintro x _ ⟨rfl, e, rfl⟩))
  go_ret
  exact Ret.mk rfl (HE.out.trans e.h)
 rw [hX] at KX
 have tk4 : True := trivial
 have hbok := bok_of hR
 have KB := hid (fun W (hW : BsL W A k bs) => r13Bytes_any p bs k c A (by have := hbok.k16; omega) hbok.pr hbok.br W hW)
 by_cases hk10 : 10 < k
 .
  have u1 : decide (10 < k) = true := decide_eq_true hk10
  have u2 : (10 < k) = True := eq_true hk10
  have u3 : decide ((10 : Int) < (k : Int)) = true := decide_eq_true (by omega)
  have u4 : ((10 : Int) < (k : Int)) = True := eq_true (by omega)
  clear hk10 hbok hnl hd hR hX
  go_wp2_with (first | (go_at_call 5; refine (Ret.later (KA.out _)).mono ?_; rintro x _ ⟨rfl, e, rfl⟩) | (clear tk1; refine wpList_row (by rfl) 29 _ rfl _ rfl (HB0.out.later _) dU rfl (by kernel_rfl) ?_) | (go_at_call 6; refine (Ret.later (KF.out _ (HL.out.ext (Later.h _)))).mono ?_; rintro x _ ⟨rfl, e, rfl⟩) | (clear tk2; refine wpList_row (by rfl) 29 _ rfl _ rfl (HB0.out.later _) dU rfl (by kernel_rfl) ?_) | (go_at_call 7; refine (Ret.later (KR.out _ (HL.out.ext (Later.h _)))).mono ?_; rintro x _ ⟨rfl, e, rfl⟩) | (clear tk3; refine wpList_row (by rfl) 29 _ rfl _ rfl (HB0.out.later _) dU rfl (by kernel_rfl) ?_) | (go_at_call 8; refine (Ret.later (KX.out _ (HL.out.ext (Later.h _)))).mono ?_; rintro x _ ⟨rfl, e, rfl⟩))
  go_ret
  exact Ret.mk rfl (HE.out.trans e.h)
 have u1 : decide (10 < k) = false := decide_eq_false hk10
 have u2 : (10 < k) = False := eq_false hk10
 have u3 : decide ((10 : Int) < (k : Int)) = false := decide_eq_false (by omega)
 have u4 : ((10 : Int) < (k : Int)) = False := eq_false (by omega)
 obtain ⟨BB, hBB⟩ : ∃ BB, bunBytes p bs k = BB := ⟨_, rfl⟩
 rw [hBB] at KB
 by_cases hl : 3000 < BB.length
 .
  have l1 : decide (3000 < BB.length) = true := decide_eq_true hl
  have l2 : (3000 < BB.length) = True := eq_true hl
  have l3 : decide ((3000 : Int) < (BB.length : Int)) = true := decide_eq_true (by omega)
  have l4 : ((3000 : Int) < (BB.length : Int)) = True := eq_true (by omega)
  clear hl hk10 hbok hnl hd hR hX hBB
  go_wp2_with (first | (go_at_call 5; refine (Ret.later (KA.out _)).mono ?_; rintro x _ ⟨rfl, e, rfl⟩) | (clear tk1; refine wpList_row (by rfl) 29 _ rfl _ rfl (HB0.out.later _) dU rfl (by kernel_rfl) ?_) | (go_at_call 6; refine (Ret.later (KF.out _ (HL.out.ext (Later.h _)))).mono ?_; rintro x _ ⟨rfl, e, rfl⟩) | (clear tk2; refine wpList_row (by rfl) 29 _ rfl _ rfl (HB0.out.later _) dU rfl (by kernel_rfl) ?_) | (go_at_call 7; refine (Ret.later (KR.out _ (HL.out.ext (Later.h _)))).mono ?_; rintro x _ ⟨rfl, e, rfl⟩) | (clear tk3; refine wpList_row (by rfl) 29 _ rfl _ rfl (HB0.out.later _) dU rfl (by kernel_rfl) ?_) | (go_at_call 8; refine (Ret.later (KX.out _ (HL.out.ext (Later.h _)))).mono ?_; rintro x _ ⟨rfl, e, rfl⟩) | (clear tk4; refine wpList_row (by rfl) 29 _ rfl _ rfl (HB0.out.later _) dU rfl (by kernel_rfl) ?_) | (go_at_call 9; refine (Ret.later (KB.out _ (HL.out.ext (Later.h _)))).mono ?_; rintro x _ ⟨rfl, e, rfl⟩))
  go_ret
  exact Ret.mk rfl (HE.out.trans e.h)
 have l1 : decide (3000 < BB.length) = false := decide_eq_false hl
 have l2 : (3000 < BB.length) = False := eq_false hl
 have l3 : decide ((3000 : Int) < (BB.length : Int)) = false := decide_eq_false (by omega)
 have l4 : ((3000 : Int) < (BB.length : Int)) = False := eq_false (by omega)
 by_cases hm : 10 < m
 .
  have o1 : decide (10 < m) = true := decide_eq_true hm
  have o2 : (10 < m) = True := eq_true hm
  have o3 : decide ((10 : Int) < (m : Int)) = true := decide_eq_true (by omega)
  have o4 : ((10 : Int) < (m : Int)) = True := eq_true (by omega)
  clear hm hl hk10 hbok hnl hd hR hX hBB
  go_wp2_with (first | (go_at_call 5; refine (Ret.later (KA.out _)).mono ?_; rintro x _ ⟨rfl, e, rfl⟩) | (clear tk1; refine wpList_row (by rfl) 29 _ rfl _ rfl (HB0.out.later _) dU rfl (by kernel_rfl) ?_) | (go_at_call 6; refine (Ret.later (KF.out _ (HL.out.ext (Later.h _)))).mono ?_; rintro x _ ⟨rfl, e, rfl⟩) | (clear tk2; refine wpList_row (by rfl) 29 _ rfl _ rfl (HB0.out.later _) dU rfl (by kernel_rfl) ?_) | (go_at_call 7; refine (Ret.later (KR.out _ (HL.out.ext (Later.h _)))).mono ?_; rintro x _ ⟨rfl, e, rfl⟩) | (clear tk3; refine wpList_row (by rfl) 29 _ rfl _ rfl (HB0.out.later _) dU rfl (by kernel_rfl) ?_) | (go_at_call 8; refine (Ret.later (KX.out _ (HL.out.ext (Later.h _)))).mono ?_; rintro x _ ⟨rfl, e, rfl⟩) | (clear tk4; refine wpList_row (by rfl) 29 _ rfl _ rfl (HB0.out.later _) dU rfl (by kernel_rfl) ?_) | (go_at_call 9; refine (Ret.later (KB.out _ (HL.out.ext (Later.h _)))).mono ?_; rintro x _ ⟨rfl, e, rfl⟩))
  go_ret
  exact Ret.mk rfl (HE.out.trans e.h)
 have o1 : decide (10 < m) = false := decide_eq_false hm
 have o2 : (10 < m) = False := eq_false hm
 have o3 : decide ((10 : Int) < (m : Int)) = false := decide_eq_false (by omega)
 have o4 : ((10 : Int) < (m : Int)) = False := eq_false (by omega)
 have hst := St.start hR hX (by omega) (by rw [hBB]; omega)
 have HST := hid hst
 have K7 := hid (fun W (hW : BsL W A k bs) => rFirst_any p bs k c A 7 HK.out W hW)
 have K10 := hid (fun W (hW : BsL W A k bs) => rFirst_any p bs k c A 10 HK.out W hW)
 have KL := hid (fun W (hW : BsL W A k bs) => cLived_any p bs k c A 0 HK.out (fun i hi => by have := hd i hi; omega) (by omega) W hW)
 have HNL := hid hnl
 have HM10 : Hid (m <= 10) := hid (by omega)
 have HFM := hid hfm
 clear hst hR hX hBB hl hm hk10 hd hbok hnl hfm hmk
 go_upto_region 4 with (first | (go_at_call 5; refine (Ret.later (KA.out _)).mono ?_; rintro x _ ⟨rfl, e, rfl⟩) | (clear tk1; refine wpList_row (by rfl) 29 _ rfl _ rfl (HB0.out.later _) dU rfl (by kernel_rfl) ?_) | (go_at_call 6; refine (Ret.later (KF.out _ (HL.out.ext (Later.h _)))).mono ?_; rintro x _ ⟨rfl, e, rfl⟩) | (clear tk2; refine wpList_row (by rfl) 29 _ rfl _ rfl (HB0.out.later _) dU rfl (by kernel_rfl) ?_) | (go_at_call 7; refine (Ret.later (KR.out _ (HL.out.ext (Later.h _)))).mono ?_; rintro x _ ⟨rfl, e, rfl⟩) | (clear tk3; refine wpList_row (by rfl) 29 _ rfl _ rfl (HB0.out.later _) dU rfl (by kernel_rfl) ?_) | (go_at_call 8; refine (Ret.later (KX.out _ (HL.out.ext (Later.h _)))).mono ?_; rintro x _ ⟨rfl, e, rfl⟩) | (clear tk4; refine wpList_row (by rfl) 29 _ rfl _ rfl (HB0.out.later _) dU rfl (by kernel_rfl) ?_) | (go_at_call 9; refine (Ret.later (KB.out _ (HL.out.ext (Later.h _)))).mono ?_; rintro x _ ⟨rfl, e, rfl⟩))
 generalize hU1 : World.alloc e.x _ = U
 have HEU : Hid (Ext V U) := hid (by rw [<- hU1]; exact e.h.alloc _)
 have HNU : Hid (Blk U e.x.heap.size 24 #[.int .i64 2, str [], .int .u64 3, .int .u64 0]) := hid (by rw [<- hU1]; exact Blk.new _ _ _)
 clear hU1
 generalize e.x.heap.size = nb at *
 have HBU := hid (HB0.out.ext HEU.out)
 have HLU := hid (HL.out.ext HEU.out)
 have HWU := hid (HE.out.trans HEU.out)
 clear HB0 HL HE HEU KA KF KR KX KB l1 l2 l3 l4 o1 o2 o3 o4 u1 u2 u3 u4 b19 e
 obtain ⟨e, he⟩ := Later.self U
 rw [he]
 clear he
 cases h7 : firstOf (tyB bs 7) k with
 | none =>
  have hI : firstI (tyB bs 7) k = -1 := by unfold firstI; rw [h7]
  rw [hI] at K7
  clear hI h7
  have tk1 : True := trivial
  go_wp2_with (first | (clear tk1; refine wpList_row (by rfl) 29 _ rfl _ rfl (HBU.out.later _) dU rfl (by kernel_rfl) ?_) | (go_at_call 10; refine (Ret.later (K7.out _ (HLU.out.ext (Later.h _)))).mono ?_; rintro x _ ⟨rfl, e, rfl⟩))
  go_ret
  exact Ret.mk rfl (HWU.out.trans e.h)
 | some i =>
 obtain ⟨n0, a1, a2, a3⟩ := HST.out.age_at h7
 have hI : firstI (tyB bs 7) k = (i : Int) := by unfold firstI; rw [h7]
 have hLV : livedN p.t bs k 0 = n0 := lived_age h7 a1
 rw [hI] at K7
 rw [hLV] at KL
 have i0 : (0 : Int) <= (i : Int) := by omega
 have i1 : decide ((i : Int) < 0) = false := by simp
 have i2 : ((i : Int) < 0) = False := eq_false (by omega)
 have HA3 := hid a3
 have HA2 := hid a2
 clear hI h7 hLV a1 a2 a3
 cases h10 : firstOf (tyB bs 10) k with
 | some j =>
  have hI : firstI (tyB bs 10) k = (j : Int) := by unfold firstI; rw [h10]
  rw [hI] at K10
  have j1 : decide ((0 : Int) <= (j : Int)) = true := by simp
  have j2 : ((0 : Int) <= (j : Int)) = True := eq_true (by omega)
  clear hI h10
  have tk1 : True := trivial
  have tk2 : True := trivial
  have tka : True := trivial
  go_wp2_with (first | (clear tk1; refine wpList_row (by rfl) 29 _ rfl _ rfl (HBU.out.later _) dU rfl (by kernel_rfl) ?_) | (clear tka; go_at_call 10; refine (Ret.later (K7.out _ (HLU.out.ext (Later.h _)))).mono ?_; rintro x _ ⟨rfl, e, rfl⟩) | (clear tk2; refine wpList_row (by rfl) 29 _ rfl _ rfl (HBU.out.later _) dU rfl (by kernel_rfl) ?_) | (go_at_call 10; refine (Ret.later (K10.out _ (HLU.out.ext (Later.h _)))).mono ?_; rintro x _ ⟨rfl, e, rfl⟩))
  go_ret
  exact Ret.mk rfl (HWU.out.trans e.h)
 | none =>
 have hI : firstI (tyB bs 10) k = -1 := by unfold firstI; rw [h10]
 rw [hI] at K10
 have HHV : Hid (hopV bs k = none) := hid (hopV_none h10)
 clear hI h10
 have tk1 : True := trivial
 have tk2 : True := trivial
 have tk3 : True := trivial
 have tk4 : True := trivial
 have tka : True := trivial
 obtain ⟨zb, hzb⟩ : ∃ zb, bunC p A k c = zb := ⟨_, rfl⟩
 have HZB0 : Hid (ZX zb) := hid (by rw [<- hzb]; exact ZX.mk' p A k c)
 have HZBE := hid hzb
 have HBZ : Hid (Blk U w.heap.size 29 zb) := hid (by rw [<- hzb]; exact HBU.out)
 rw [show bunV p A k c = .agg zb by rw [<- hzb]] at K7 K10 KL
 clear hzb HBU
 go_upto_region 8 with (first | (clear tk1; refine wpList_row (by rfl) 29 _ rfl _ rfl (HBZ.out.later _) dU rfl HZB0.out.i ?_) | (clear tka; go_at_call 10; refine (Ret.later (K7.out _ (HLU.out.ext (Later.h _)))).mono ?_; rintro x _ ⟨rfl, e, rfl⟩) | (clear tk2; refine wpList_row (by rfl) 29 _ rfl _ rfl (HBZ.out.later _) dU rfl HZB0.out.i ?_) | (go_at_call 10; refine (Ret.later (K10.out _ (HLU.out.ext (Later.h _)))).mono ?_; rintro x _ ⟨rfl, e, rfl⟩) | (clear tk3; refine wpList_row (by rfl) 29 _ rfl _ rfl (HBZ.out.later _) dU rfl HZB0.out.i ?_) | (go_at_call 15; refine (Ret.later (KL.out _ (HLU.out.ext (Later.h _)))).mono ?_; rintro x _ ⟨rfl, e, rfl⟩) | (clear tk4; refine wpList_row (by rfl) 29 _ rfl _ rfl (HBZ.out.later _) dU rfl HZB0.out.i ?_) | (refine wpList_store_mid rfl 29 _ _ rfl e.x.heap.size 0 zb (by rfl) (by rfl) ((Blk.new _ _ _).there (by rw [HZB0.out.s]; exact Nat.le_refl 20)) HZB0.out.i HZB0.out.o ?_))
 generalize hY : World.setCells _ _ _ _ = Y
 have HYB : Hid (Blk Y e.x.heap.size 29 zb) := hid (by rw [<- hY]; exact setCells_all (ds := zb) (Blk.new _ _ _) (by rw [Array.length_toList, HZB0.out.s]; rfl))
 have HUY : Hid (Ext U Y) := hid (by rw [<- hY]; exact setCells_mod _ _ (e.h.alloc _) (.inr e.h.size))
 have HNC : Hid (U.heap.size <= e.x.heap.size) := hid e.h.size
 clear hY
 generalize e.x.heap.size = cb at *
 have HWY := hid (HWU.out.trans HUY.out)
 have HLY := hid (HLU.out.ext HUY.out)
 have HNY := hid (HNU.out.ext HUY.out)
 have HNN : Hid (nb ≠ cb /\ w.heap.size <= cb) := hid ⟨by have := HNU.out.lt; have := HNC.out; omega, by have := HWU.out.size; have := HNC.out; omega⟩
 have HUM : Hid (∀ W, Mod [cb] Y W -> UsL W .u32 Am m f) := hid (fun W hW => UsL.far HU.out HWY.out hW (fun b hb => by have e0 : b = cb := (by simpa using hb); rw [e0]; exact HNN.out.2))
 have HNM : Hid (∀ W, Mod [cb] Y W -> Blk W nb 24 #[.int .i64 2, str [], .int .u64 3, .int .u64 0]) := hid (fun W hW => HNY.out.mod hW (by simp; exact HNN.out.1))
 clear HBZ HLU HWU HU HNU HUY HNY K7 K10 KL e i0 i1 i2
 go_wp2_with fail
 go_loopw [8, 9] (fun s8 s9 wr => ∃ (j : Nat) (zc : Array Value) (A' : Option Addr) (k' c' : Nat) (bs' R' : Nat -> BV), j <= m /\ s9 = .int .i64 (j : Int) /\ s8 = .int .u64 ((sumN f j : Nat) : Int) /\ Hid (AgK p n0 f cb j wr zc A' k' c' bs' R') /\ Hid (Mod [cb] Y wr)) (fun _ s9 _ => m - (intOf s9).toNat)
 case atStart => exact ⟨0, zb, A, k, c, bs, bs, Nat.zero_le _, rfl, rfl, hid ⟨HZBE.out, HYB.out, HLY.out, HST.out, by rw [HA3.out]; congr 1; simp only [sumN]; have := HA2.out; omega, HHV.out⟩, hid (Mod.refl _ _)⟩
 case round =>
  obtain ⟨j, zc, A', k', c', bs', R', hj, rfl, rfl, hKK, hM⟩ := hrel
  rename World => wr
  have HZC : Hid (ZX zc) := hid (by rw [<- hKK.out.z]; exact ZX.mk' p A' k' c')
  have HS1 := hid (sumN_le HFM.out j hj)
  have HM11 : (m : Int) <= 10 := by have := HM10.out; omega
  have j0 : (0 : Int) <= (j : Int) := by omega
  have HCBW : Hid (Blk wr cb 29 zc) := hid hKK.out.b
  by_cases hlt : j < m
  .
   obtain ⟨b, o, hAm, hbm, hcm⟩ := (HUM.out wr hM.out).at hlt
   have hfj := HFM.out j hlt
   have hwf : IntKind.u64.wrap (f j : Int) = ((f j : Nat) : Int) := by rw [IntWalk.u64_in _ (by omega)]
   obtain ⟨R2, hS⟩ := hKK.out.st.step (e := ⟨2, [], 3, 0⟩) (by decide) (f j) (fun l n h => by rw [hKK.out.hop] at h; cases h)
   have KS : Hid (∀ W, Ext wr W -> Calls Tryz.prog 14 #[.agg zc, .agg #[.int .i64 2, str [], .int .u64 3, .int .u64 0], .int .u64 (IntKind.u64.wrap (f j : Int))] W (BunPost p (bbS bs' k' (eidT ⟨2, [], 3, 0⟩).bytes (f j) 3) (sentK bs' k') W)) := hid (fun W hW => by
    have h := Step_ok p bs' R' k' c' A' HNL.out HF.out 2 [] 3 0 (f j) (by omega) (by decide) hKK.out.st R2 hS (fun l n h => by rw [hKK.out.hop] at h; cases h) W (hKK.out.l.ext hW)
    rw [show bunV p A' k' c' = .agg zc by rw [<- hKK.out.z], <- hwf] at h
    exact h)
   have HS3 : Hid (St p R2 (bbS bs' k' (eidT ⟨2, [], 3, 0⟩).bytes (f j) 3) (sentK bs' k')) := hid hS.s3
   have HAG : Hid (ageV (bbS bs' k' (eidT ⟨2, [], 3, 0⟩).bytes (f j) 3) (sentK bs' k') = some (min (n0 + sumN f (j + 1)) 1099511627776)) := hid (by
    have h := hS.age
    rw [hKK.out.age] at h
    refine h.trans ?_
    show some (oldN _ _) = _
    rw [oldN_min, sumN, Nat.add_assoc])
   have HHG : Hid (hopV (bbS bs' k' (eidT ⟨2, [], 3, 0⟩).bytes (f j) 3) (sentK bs' k') = none) := hid (by
    have h := hS.hop
    rw [hKK.out.hop] at h
    exact h)
   have HK1 : Hid (0 < sentK bs' k') := hid hS.k0
   generalize bbS bs' k' (eidT ⟨2, [], 3, 0⟩).bytes (f j) 3 = B3 at *
   generalize sentK bs' k' = K3 at *
   have HFJ := hid hfj
   have fj0 : (0 : Int) <= (f j : Int) := by omega
   have fj1 : (f j : Int) <= 4294967295 := by omega
   have j1 : (j : Int) < (m : Int) := by omega
   have tc : decide (j < m) = true := by simp [hlt]
   have HLT := hid hlt
   have HCM := hid hcm
   subst hAm
   clear hS hlt hbm hcm hfj hwf
   go_upto_region 12 with fail
   refine wp_region_held_drew (S := Ext wr) (by kernel_rfl) (Mod.refl _ _).drew (fun hHeld => ?_)
   generalize wr.drew = y0 at *
   refine wpAnyH_take (i := 0) rfl (by kernel_rfl) (by kernel_rfl) (by kernel_rfl) (fun _ _ _ h => h) (yieldsIf_row (by rfl) 29 _ rfl _ rfl (fun W hM => HCBW.out.ext hM) dU rfl HZC.out.i) hHeld ?_
   (try simp only [Act.put, gTl, g0l, gSl, sTl, s0l, sSl])
   refine wpAnyH_take (i := 1) rfl (by kernel_rfl) (by kernel_rfl) (by kernel_rfl) (fun _ _ _ h => h) (yieldsIf_row (by rfl) 24 _ rfl _ rfl (fun W hW => (HNM.out wr hM.out).ext hW) Tryz.underlying24 rfl (by kernel_rfl)) hHeld ?_
   (try simp only [Act.put, gTl, g0l, gSl, sTl, s0l, sSl])
   refine' wpAnyH_take (i := 2) (v := _) rfl (by kernel_rfl) (by kernel_rfl) (by kernel_rfl) (fun _ _ _ h => h) (Or.inl ⟨by rfl, ?hy1⟩) hHeld ?rest1
   case hy1 => (rintro W hW; go_simp; (try with_reducible rfl))
   case rest1 =>
   (try simp only [Act.put, gTl, g0l, gSl, sTl, s0l, sSl])
   refine' wpAnyH_take (i := 3) (v := _) rfl (by kernel_rfl) (by kernel_rfl) (by kernel_rfl) (fun _ _ _ h => h) (Or.inl ⟨by rfl, ?hy2⟩) hHeld ?rest2
   case hy2 => (rintro W hW; go_simp; (try with_reducible rfl))
   case rest2 =>
   (try simp only [Act.put, gTl, g0l, gSl, sTl, s0l, sSl])
   refine' wpAnyH_take (i := 4) (v := _) rfl (by kernel_rfl) (by kernel_rfl) (by kernel_rfl) (fun _ _ _ h => h) (Or.inl ⟨by rfl, ?hy3⟩) hHeld ?rest3
   case hy3 => (rintro W hW; go_simp; (try with_reducible rfl))
   case rest3 =>
   (try simp only [Act.put, gTl, g0l, gSl, sTl, s0l, sSl])
   refine' wpAnyH_take (i := 5) (v := _) rfl (by kernel_rfl) (by kernel_rfl) (by kernel_rfl) (fun _ _ _ h => h) (Or.inl ⟨by rfl, ?hy4⟩) hHeld ?rest4
   case hy4 => (rintro W hW; have c0 := HCM.out ⟨W, hW⟩; go_simp; (try with_reducible rfl))
   case rest4 =>
   (try simp only [Act.put, gTl, g0l, gSl, sTl, s0l, sSl])
   refine' wpAnyH_take (i := 6) (v := _) rfl (by kernel_rfl) (by kernel_rfl) (by kernel_rfl) (fun _ _ _ h => h) (Or.inl ⟨by rfl, ?hy5⟩) hHeld ?rest5
   case hy5 => (rintro W hW; go_simp; (try with_reducible rfl))
   case rest5 =>
   (try simp only [Act.put, gTl, g0l, gSl, sTl, s0l, sSl])
   refine wpAnyH_ready (rs := [7, 11]) (by kernel_rfl) (by simp) ?_
   refine AllReadyH.cons rfl (fun K hK => ?_) (AllReadyH.cons rfl (fun K hK => ?_) AllReadyH.nil)
   .
    go_simp
    go_at_call 14
    refine (KS.out _ hHeld).mono ?_
    rintro x w3 ⟨zd, A2, c2, hz2, rfl, hb3, hL3⟩
    have HZD : Hid (ZX zd) := hid (by rw [<- hz2.out]; exact ZX.mk' p A2 _ c2)
    have HZ2 := hid hz2.out
    have hLx := hL3.out
    clear hz2 hL3
    refine hK.out _ _ (hHeld.trans hb3) (fun hHeld => ?_)
    clear hK K
    (try simp only [Act.put, gTl, g0l, gSl, sTl, s0l, sSl])
    refine' wpAnyH_take (i := 8) (v := _) rfl (by kernel_rfl) (by kernel_rfl) (by kernel_rfl) (fun _ _ _ h => h) (Or.inl ⟨by rfl, ?hy6⟩) hHeld ?rest6
    case hy6 => (rintro W hW; go_simp; (try with_reducible rfl))
    case rest6 =>
    (try simp only [Act.put, gTl, g0l, gSl, sTl, s0l, sSl])
    refine' wpAnyH_take (i := 9) (v := _) rfl (by kernel_rfl) (by kernel_rfl) (by kernel_rfl) (fun _ _ _ h => h) (Or.inl ⟨by rfl, ?hy7⟩) hHeld ?rest7
    case hy7 => (rintro W hW; go_simp; (try with_reducible rfl))
    case rest7 =>
    (try simp only [Act.put, gTl, g0l, gSl, sTl, s0l, sSl])
    refine' wpAnyH_take (i := 10) (v := _) rfl (by kernel_rfl) (by kernel_rfl) (by kernel_rfl) (fun _ _ _ h => h) (Or.inl ⟨by rfl, ?hy8⟩) hHeld ?rest8
    case hy8 => (rintro W hW; go_simp; (try with_reducible rfl))
    case rest8 =>
    (try simp only [Act.put, gTl, g0l, gSl, sTl, s0l, sSl])
    refine wpAnyH_ready (rs := [11]) (by kernel_rfl) (by simp) ?_
    refine AllReadyH.cons rfl (fun K hK => ?_) AllReadyH.nil
    go_simp
    generalize hV : World.alloc w3 _ = w4
    have HD : Blk w4 w3.heap.size 29 #[.int .u64 0, .int .i64 0, .int .i64 0, .string ⟨#[]⟩, .int .u64 0, .int .u64 0, .int .i64 0, .string ⟨#[]⟩, .int .u64 0, .int .u64 0, .int .i64 0, .string ⟨#[]⟩, .int .u64 0, .int .u64 0, .int .u64 0, .int .u64 0, .int .u64 0, .int .u64 0, .int .u64 0, .slice none 0 0] := by rw [<- hV]; exact Blk.new _ _ _
    have hXX : Ext w3 w4 := by rw [<- hV]; exact (Mod.refl [] _).alloc _
    have HD_n : wr.heap.size <= w3.heap.size := hHeld.size
    clear hV
    have hLx := hLx.ext hXX
    refine hK.out _ _ (hHeld.trans hXX) (fun hHeld => ?_)
    clear hK K
    (try simp only [Act.put, gTl, g0l, gSl, sTl, s0l, sSl])
    have HNE0 : Hid (cb ≠ w3.heap.size) := hid (by have h1 := HCBW.out.lt; omega)
    refine wpAnyH_ready (rs := [12]) (by kernel_rfl) (by simp) ?_
    refine AllReadyH.cons rfl (fun K hK => ?_) AllReadyH.nil
    refine wp_store_mid 29 _ _ rfl w3.heap.size 0 zd (by rfl) (by rfl) (HD.there (by rw [HZD.out.s]; exact Nat.le_refl 20)) HZD.out.i HZD.out.o ?_
    have hZB := setCells_all (ds := zd) HD (by rw [Array.length_toList, HZD.out.s]; rfl)
    have hZM := setCells_mod (b := w3.heap.size) zd.toList 0 hHeld (.inr HD_n)
    have hZO := setCells_mod (w := w4) (W := w4) (S := [w3.heap.size]) (b := w3.heap.size) zd.toList 0 (Mod.refl _ _) (.inl (by simp))
    generalize hZ : World.setCells _ _ _ _ = Z at *
    clear hZ
    have HDZ := hid hZB
    have HEZ := hid hZM
    have HLZ : Hid (BsL Z A2 K3 B3) := hid (hLx.modX hZO (BsL.apartZ hLx HD HK1.out))
    refine hK.out _ _ hZM (fun hHeld => ?_)
    clear hK K hZB hZM hZO
    refine wpAnyH_ready (rs := [13]) (by kernel_rfl) (by simp) ?_
    refine AllReadyH.cons rfl (fun K hK => ?_) AllReadyH.nil
    go_simp

    refine hK.out _ _ hHeld (fun hHeld => ?_)
    clear hK K
    (try simp only [Act.put, gTl, g0l, gSl, sTl, s0l, sSl])
    refine wpAnyH_done (by kernel_rfl) ?_ _
    clear hHeld hLx HD HD_n
    generalize w3.heap.size = db at *
    have HNE : Hid (cb ≠ db) := hid HNE0.out
    have tk1 : True := trivial
    go_upto_region 16 with (first | (clear tk1; refine wpList_row (by rfl) 29 _ rfl _ rfl HDZ.out dU rfl HZD.out.i ?_) | (refine wpList_store_mid rfl 29 _ _ rfl cb 0 zd (by rfl) (by rfl) ((HCBW.out.ext HEZ.out).there (by rw [HZD.out.s, HZC.out.s]; exact Nat.le_refl 20)) HZD.out.i HZD.out.o ?_))
    generalize hZ : World.setCells _ _ _ _ = Z2
    have HCZ : Hid (Blk Z2 cb 29 zd) := hid (by rw [<- hZ]; exact setCells_all (ds := zd) (HCBW.out.ext HEZ.out) (by rw [Array.length_toList, HZD.out.s, HZC.out.s]))
    have HMZ : Hid (Mod [cb] Z Z2) := hid (by rw [<- hZ]; exact setCells_mod _ _ (Mod.refl _ _) (.inl (by simp)))
    have HLZ2 : Hid (BsL Z2 A2 K3 B3) := hid (HLZ.out.modX HMZ.out (BsL.apart HLZ.out (by have h := HCBW.out.ext HEZ.out; rw [<- hKK.out.z] at h; exact h) HK1.out))
    clear hZ
    have HM2 : Hid (Mod [cb] Y Z2) := hid ((hM.out.trans HEZ.out.of_ext).trans HMZ.out)
    have HC2 : Z2.cell? ⟨b, o + j, none⟩ = some (.int .u32 (f j : Int)) := by
     obtain ⟨b2, o2, hA2, _, hc2⟩ := (HUM.out Z2 HM2.out).at HLT.out
     cases hA2
     exact hc2 ⟨Z2, Mod.refl _ _⟩
    have hs1 := HS1.out
    have hm1 := HM10.out
    generalize hsj : sumN f j = sj at *
    have q0 : (0 : Int) <= (sj : Int) := by omega
    have q1 : (sj : Int) <= 100000000000 := by omega
    have HSJ := hid hsj
    clear hsj hs1 hm1
    go_wp2_with fail
    go_roundw
    case rel =>
     exact ⟨j + 1, zd, A2, K3, c2, B3, R2, HLT.out, by go_num, by rw [sumN, HSJ.out]; go_num, hid ⟨HZ2.out, HCZ.out, HLZ2.out, HS3.out, HAG.out, HHG.out⟩, HM2⟩
    case measure => have := HLT.out; simp [intOf]; omega
   .
    go_simp
    generalize hV : World.alloc y0 _ = w2
    have HD : Blk w2 y0.heap.size 29 #[.int .u64 0, .int .i64 0, .int .i64 0, .string ⟨#[]⟩, .int .u64 0, .int .u64 0, .int .i64 0, .string ⟨#[]⟩, .int .u64 0, .int .u64 0, .int .i64 0, .string ⟨#[]⟩, .int .u64 0, .int .u64 0, .int .u64 0, .int .u64 0, .int .u64 0, .int .u64 0, .int .u64 0, .slice none 0 0] := by rw [<- hV]; exact Blk.new _ _ _
    have hXX : Ext y0 w2 := by rw [<- hV]; exact (Mod.refl [] _).alloc _
    have HD_n : wr.heap.size <= y0.heap.size := hHeld.size
    clear hV
    refine hK.out _ _ (hHeld.trans hXX) (fun hHeld => ?_)
    clear hK K
    (try simp only [Act.put, gTl, g0l, gSl, sTl, s0l, sSl])
    have HNE0 : Hid (cb ≠ y0.heap.size) := hid (by have h1 := HCBW.out.lt; omega)
    refine wpAnyH_ready (rs := [7]) (by kernel_rfl) (by simp) ?_
    refine AllReadyH.cons rfl (fun K hK => ?_) AllReadyH.nil
    go_simp
    go_at_call 14
    refine (KS.out _ hHeld).mono ?_
    rintro x w3 ⟨zd, A2, c2, hz2, rfl, hb3, hL3⟩
    have HZD : Hid (ZX zd) := hid (by rw [<- hz2.out]; exact ZX.mk' p A2 _ c2)
    have HZ2 := hid hz2.out
    have hLx := hL3.out
    clear hz2 hL3
    refine hK.out _ _ (hHeld.trans hb3) (fun hHeld => ?_)
    clear hK K
    (try simp only [Act.put, gTl, g0l, gSl, sTl, s0l, sSl])
    have HD := HD.ext hb3
    refine' wpAnyH_take (i := 8) (v := _) rfl (by kernel_rfl) (by kernel_rfl) (by kernel_rfl) (fun _ _ _ h => h) (Or.inl ⟨by rfl, ?hy9⟩) hHeld ?rest9
    case hy9 => (rintro W hW; go_simp; (try with_reducible rfl))
    case rest9 =>
    (try simp only [Act.put, gTl, g0l, gSl, sTl, s0l, sSl])
    refine' wpAnyH_take (i := 9) (v := _) rfl (by kernel_rfl) (by kernel_rfl) (by kernel_rfl) (fun _ _ _ h => h) (Or.inl ⟨by rfl, ?hy10⟩) hHeld ?rest10
    case hy10 => (rintro W hW; go_simp; (try with_reducible rfl))
    case rest10 =>
    (try simp only [Act.put, gTl, g0l, gSl, sTl, s0l, sSl])
    refine' wpAnyH_take (i := 10) (v := _) rfl (by kernel_rfl) (by kernel_rfl) (by kernel_rfl) (fun _ _ _ h => h) (Or.inl ⟨by rfl, ?hy11⟩) hHeld ?rest11
    case hy11 => (rintro W hW; go_simp; (try with_reducible rfl))
    case rest11 =>
    (try simp only [Act.put, gTl, g0l, gSl, sTl, s0l, sSl])
    refine wpAnyH_ready (rs := [12]) (by kernel_rfl) (by simp) ?_
    refine AllReadyH.cons rfl (fun K hK => ?_) AllReadyH.nil
    refine wp_store_mid 29 _ _ rfl y0.heap.size 0 zd (by rfl) (by rfl) (HD.there (by rw [HZD.out.s]; exact Nat.le_refl 20)) HZD.out.i HZD.out.o ?_
    have hZB := setCells_all (ds := zd) HD (by rw [Array.length_toList, HZD.out.s]; rfl)
    have hZM := setCells_mod (b := y0.heap.size) zd.toList 0 hHeld (.inr HD_n)
    have hZO := setCells_mod (w := w3) (W := w3) (S := [y0.heap.size]) (b := y0.heap.size) zd.toList 0 (Mod.refl _ _) (.inl (by simp))
    generalize hZ : World.setCells _ _ _ _ = Z at *
    clear hZ
    have HDZ := hid hZB
    have HEZ := hid hZM
    have HLZ : Hid (BsL Z A2 K3 B3) := hid (hLx.modX hZO (BsL.apartZ hLx HD HK1.out))
    refine hK.out _ _ hZM (fun hHeld => ?_)
    clear hK K hZB hZM hZO
    refine wpAnyH_ready (rs := [13]) (by kernel_rfl) (by simp) ?_
    refine AllReadyH.cons rfl (fun K hK => ?_) AllReadyH.nil
    go_simp

    refine hK.out _ _ hHeld (fun hHeld => ?_)
    clear hK K
    (try simp only [Act.put, gTl, g0l, gSl, sTl, s0l, sSl])
    refine wpAnyH_done (by kernel_rfl) ?_ _
    clear hHeld hLx HD HD_n
    generalize y0.heap.size = db at *
    have HNE : Hid (cb ≠ db) := hid HNE0.out
    have tk1 : True := trivial
    go_upto_region 16 with (first | (clear tk1; refine wpList_row (by rfl) 29 _ rfl _ rfl HDZ.out dU rfl HZD.out.i ?_) | (refine wpList_store_mid rfl 29 _ _ rfl cb 0 zd (by rfl) (by rfl) ((HCBW.out.ext HEZ.out).there (by rw [HZD.out.s, HZC.out.s]; exact Nat.le_refl 20)) HZD.out.i HZD.out.o ?_))
    generalize hZ : World.setCells _ _ _ _ = Z2
    have HCZ : Hid (Blk Z2 cb 29 zd) := hid (by rw [<- hZ]; exact setCells_all (ds := zd) (HCBW.out.ext HEZ.out) (by rw [Array.length_toList, HZD.out.s, HZC.out.s]))
    have HMZ : Hid (Mod [cb] Z Z2) := hid (by rw [<- hZ]; exact setCells_mod _ _ (Mod.refl _ _) (.inl (by simp)))
    have HLZ2 : Hid (BsL Z2 A2 K3 B3) := hid (HLZ.out.modX HMZ.out (BsL.apart HLZ.out (by have h := HCBW.out.ext HEZ.out; rw [<- hKK.out.z] at h; exact h) HK1.out))
    clear hZ
    have HM2 : Hid (Mod [cb] Y Z2) := hid ((hM.out.trans HEZ.out.of_ext).trans HMZ.out)
    have HC2 : Z2.cell? ⟨b, o + j, none⟩ = some (.int .u32 (f j : Int)) := by
     obtain ⟨b2, o2, hA2, _, hc2⟩ := (HUM.out Z2 HM2.out).at HLT.out
     cases hA2
     exact hc2 ⟨Z2, Mod.refl _ _⟩
    have hs1 := HS1.out
    have hm1 := HM10.out
    generalize hsj : sumN f j = sj at *
    have q0 : (0 : Int) <= (sj : Int) := by omega
    have q1 : (sj : Int) <= 100000000000 := by omega
    have HSJ := hid hsj
    clear hsj hs1 hm1
    go_wp2_with fail
    go_roundw
    case rel =>
     exact ⟨j + 1, zd, A2, K3, c2, B3, R2, HLT.out, by go_num, by rw [sumN, HSJ.out]; go_num, hid ⟨HZ2.out, HCZ.out, HLZ2.out, HS3.out, HAG.out, HHG.out⟩, HM2⟩
    case measure => have := HLT.out; simp [intOf]; omega
  .
   obtain rfl : j = m := by omega
   have KL : Hid (∀ W, Ext wr W -> Calls Tryz.prog 15 #[.agg zc, .int .u64 0] W (Ret (.int .u64 ((min (n0 + sumN f j) 1099511627776 : Nat) : Int)) W)) := hid (fun W hW => by
    have h := cLived_any p bs' k' c' A' 0 (by have := hKK.out.st.ok.k16; omega) (fun i hi => by have := hKK.out.st.ok.br i hi; unfold BV.right at this; split at this; (exact absurd this (by decide)); split at this; (exact absurd this (by decide)); omega) (by omega) W (hKK.out.l.ext hW)
    rw [lived_ageV hKK.out.age, show bunV p A' k' c' = .agg zc by rw [<- hKK.out.z]] at h
    exact h)
   have HRT := hid ((HWY.out.of_ext (S := [cb])).trans hM.out)
   have tc : decide (j < j) = false := by simp
   have hS1 := HS1.out
   have hA2 := HA2.out
   have hM10 := HM10.out
   generalize sumN f j = s at *
   have s0 : (0 : Int) <= (s : Int) := by omega
   have s1 : (s : Int) <= 100000000000 := by omega
   have s2 : (0 : Int) <= (n0 : Int) := by omega
   have s3 : (n0 : Int) <= 1099511627776 := by omega
   have tk1 : True := trivial
   have g : ((min (n0 + s) 1099511627776 : Nat) : Int) = min ((n0 : Int) + (s : Int)) 1099511627776 := by omega
   rw [g] at KL
   clear hS1 hA2 hM10 g hj
   go_wp2_with (first | (clear tk1; refine wpList_row (by rfl) 29 _ rfl _ rfl HCBW.out dU rfl HZC.out.i ?_) | (go_at_call 15; refine (KL.out _ (Mod.refl _ _)).mono ?_; rintro y w3 ⟨rfl, hb3⟩))
   go_ret
   exact Ret.mk (by simp) ((HRT.out.trans hb3.of_ext).new (fun kk hkk => .inr (by simp at hkk; have := HNN.out.2; omega)))
end Go.Proofs.YthecmnbkjchjmaaGreat
