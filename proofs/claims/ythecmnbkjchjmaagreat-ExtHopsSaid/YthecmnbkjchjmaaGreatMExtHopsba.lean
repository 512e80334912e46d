/-
 A step.
-/
import Derived.Test.YthecmnbkjchjmaaGreatMExtHopsay
import Derived.Test.YthecmnbkjchjmaaGreatMExtHopsaz
namespace Go.Proofs.YthecmnbkjchjmaaGreat
open Go.RowKit Go.Shelf
set_option linter.unusedVariables false
set_option linter.unusedSimpArgs false
theorem entersY1 : ∀ args w, (callFunc 33 args).run Tryz.prog w = .ok (.enter 33 args) w := enters_of Tryz.func33 (by kernel_rfl) rfl
theorem entersY2 : ∀ args w, (callFunc 35 args).run Tryz.prog w = .ok (.enter 35 args) w := enters_of Tryz.func35 (by kernel_rfl) rfl
theorem entersY3 : ∀ args w, (callFunc 39 args).run Tryz.prog w = .ok (.enter 39 args) w := enters_of Tryz.func39 (by kernel_rfl) rfl
noncomputable def bbS (bs : Nat -> BV) (k : Nat) (L : List UInt8) (ms : Nat) (i : Nat) : Nat -> BV := if i = 0 then bs else if i = 1 then sentF bs k L else if i = 2 then agedF (sentF bs k L) (sentK bs k) ms else hopF (agedF (sentF bs k L) (sentK bs k) ms) (sentK bs k)
noncomputable def kkS (bs : Nat -> BV) (k : Nat) (i : Nat) : Nat := if i = 0 then k else sentK bs k
theorem St.len {p : PV} {R bs : Nat -> BV} {k : Nat} (h : St p R bs k) : ∀ i, i < k -> (bs i).data.length <= 100000 := fun i hi => by
 have r := h.ok.br i hi
 unfold BV.right at r
 split at r
 . exact absurd r (by decide)
 split at r
 . exact absurd r (by decide)
 omega
theorem St.extR0 {p : PV} {R bs : Nat -> BV} {k : Nat} (h : St p R bs k) : extR bs k = 0 := extR_yes h.ex
set_option maxRecDepth 20000 in
set_option maxHeartbeats 4000000 in
theorem Step_hops (p : PV) (bs R : Nat -> BV) (k c : Nat) (A : Option Addr) (hnl : Hid (p.d.name.length < 4611686018427387904 /\ p.s.name.length < 4611686018427387904 /\ p.r.name.length < 4611686018427387904)) (hf : p.fl < 18446744073709551616) (sch : Int) (nm : List UInt8) (nd sv ms : Nat) (hm : ms < 18446744073709551616) (ho : EV.ok ⟨sch, nm, nd, sv⟩ = true) (hst : St p R bs k) (hh : ∃ l n, hopV bs k = some (l, n) /\ l <= n) (w : World) (h : BsL w A k bs) : Calls Tryz.prog 14 #[bunV p A k c, EV.v ⟨sch, nm, nd, sv⟩, .int .u64 (ms : Int)] w (Ret (.tuple #[.agg zeroBun, .int .i64 12]) w) := by
 obtain ⟨L, hL⟩ : ∃ L, (eidT ⟨sch, nm, nd, sv⟩).bytes = L := ⟨_, rfl⟩
 have KP : Hid (∀ W, Calls Tryz.prog 31 #[EV.v ⟨sch, nm, nd, sv⟩] W (Ret (.tuple #[str L, .int .i64 0]) W)) := hid (fun W => by rw [<- hL]; exact Prev_yes ⟨sch, nm, nd, sv⟩ ho W)
 have KM : Hid (∀ W, BsL W A k bs -> Calls Tryz.prog 32 #[bunV p A k c] W (Ret (.int .i64 12) W)) := hid (fun W hW => by
  obtain ⟨l, n, h1, h2⟩ := hh
  cases hf1 : firstOf (tyB bs 10) k with
  | none => unfold hopV at h1; rw [hf1] at h1; cases h1
  | some i =>
   unfold hopV at h1
   rw [hf1] at h1
   exact xmay_some p bs k c A hnl hf (by have := hst.ok.k16; omega) hst.len hst.right hst.extR0 i l n true (by simpa using h2) hf1 h1 W hW)
 have HE := hid (((((Mod.refl [] w).alloc (.cells (bunC p A k c) 29)).alloc (.cells #[.int .i64 sch, str nm, .int .u64 (nd : Int), .int .u64 (sv : Int)] 24)).alloc (.cells #[.int .u64 (ms : Int)] 22)).alloc (.cells #[.int .u64 0, .int .i64 0, .int .i64 0, .string ⟨#[]⟩, .int .u64 0, .int .u64 0, .int .i64 0, .string ⟨#[]⟩, .int .u64 0, .int .u64 0, .int .i64 0, .string ⟨#[]⟩, .int .u64 0, .int .u64 0, .int .u64 0, .int .u64 0, .int .u64 0, .int .u64 0, .int .u64 0, .slice none 0 0] 29))
 have HB0 : Hid (Blk ((((w.alloc (.cells (bunC p A k c) 29)).alloc (.cells #[.int .i64 sch, str nm, .int .u64 (nd : Int), .int .u64 (sv : Int)] 24)).alloc (.cells #[.int .u64 (ms : Int)] 22)).alloc (.cells #[.int .u64 0, .int .i64 0, .int .i64 0, .string ⟨#[]⟩, .int .u64 0, .int .u64 0, .int .i64 0, .string ⟨#[]⟩, .int .u64 0, .int .u64 0, .int .i64 0, .string ⟨#[]⟩, .int .u64 0, .int .u64 0, .int .u64 0, .int .u64 0, .int .u64 0, .int .u64 0, .int .u64 0, .slice none 0 0] 29)) w.heap.size 29 (bunC p A k c)) := hid ((((Blk.new w 29 (bunC p A k c)).alloc (.cells #[.int .i64 sch, str nm, .int .u64 (nd : Int), .int .u64 (sv : Int)] 24)).alloc (.cells #[.int .u64 (ms : Int)] 22)).alloc (.cells #[.int .u64 0, .int .i64 0, .int .i64 0, .string ⟨#[]⟩, .int .u64 0, .int .u64 0, .int .i64 0, .string ⟨#[]⟩, .int .u64 0, .int .u64 0, .int .i64 0, .string ⟨#[]⟩, .int .u64 0, .int .u64 0, .int .u64 0, .int .u64 0, .int .u64 0, .int .u64 0, .int .u64 0, .slice none 0 0] 29))
 have HB1 : Hid (Blk ((((w.alloc (.cells (bunC p A k c) 29)).alloc (.cells #[.int .i64 sch, str nm, .int .u64 (nd : Int), .int .u64 (sv : Int)] 24)).alloc (.cells #[.int .u64 (ms : Int)] 22)).alloc (.cells #[.int .u64 0, .int .i64 0, .int .i64 0, .string ⟨#[]⟩, .int .u64 0, .int .u64 0, .int .i64 0, .string ⟨#[]⟩, .int .u64 0, .int .u64 0, .int .i64 0, .string ⟨#[]⟩, .int .u64 0, .int .u64 0, .int .u64 0, .int .u64 0, .int .u64 0, .int .u64 0, .int .u64 0, .slice none 0 0] 29)) (w.heap.size + 1) 24 #[.int .i64 sch, str nm, .int .u64 (nd : Int), .int .u64 (sv : Int)]) := by unfold Hid; have := (Blk.newL (N := (w.heap.size + 1)) (w.alloc (.cells (bunC p A k c) 29)) 24 #[.int .i64 sch, str nm, .int .u64 (nd : Int), .int .u64 (sv : Int)] (by simp)); exact ((this.alloc (.cells #[.int .u64 (ms : Int)] 22)).alloc (.cells #[.int .u64 0, .int .i64 0, .int .i64 0, .string ⟨#[]⟩, .int .u64 0, .int .u64 0, .int .i64 0, .string ⟨#[]⟩, .int .u64 0, .int .u64 0, .int .i64 0, .string ⟨#[]⟩, .int .u64 0, .int .u64 0, .int .u64 0, .int .u64 0, .int .u64 0, .int .u64 0, .int .u64 0, .slice none 0 0] 29))
 have HB2 : Hid (Blk ((((w.alloc (.cells (bunC p A k c) 29)).alloc (.cells #[.int .i64 sch, str nm, .int .u64 (nd : Int), .int .u64 (sv : Int)] 24)).alloc (.cells #[.int .u64 (ms : Int)] 22)).alloc (.cells #[.int .u64 0, .int .i64 0, .int .i64 0, .string ⟨#[]⟩, .int .u64 0, .int .u64 0, .int .i64 0, .string ⟨#[]⟩, .int .u64 0, .int .u64 0, .int .i64 0, .string ⟨#[]⟩, .int .u64 0, .int .u64 0, .int .u64 0, .int .u64 0, .int .u64 0, .int .u64 0, .int .u64 0, .slice none 0 0] 29)) (w.heap.size + 1 + 1) 22 #[.int .u64 (ms : Int)]) := by unfold Hid; have := (Blk.newL (N := (w.heap.size + 1 + 1)) ((w.alloc (.cells (bunC p A k c) 29)).alloc (.cells #[.int .i64 sch, str nm, .int .u64 (nd : Int), .int .u64 (sv : Int)] 24)) 22 #[.int .u64 (ms : Int)] (by simp)); exact (this.alloc (.cells #[.int .u64 0, .int .i64 0, .int .i64 0, .string ⟨#[]⟩, .int .u64 0, .int .u64 0, .int .i64 0, .string ⟨#[]⟩, .int .u64 0, .int .u64 0, .int .i64 0, .string ⟨#[]⟩, .int .u64 0, .int .u64 0, .int .u64 0, .int .u64 0, .int .u64 0, .int .u64 0, .int .u64 0, .slice none 0 0] 29))
 have HB3 : Hid (Blk ((((w.alloc (.cells (bunC p A k c) 29)).alloc (.cells #[.int .i64 sch, str nm, .int .u64 (nd : Int), .int .u64 (sv : Int)] 24)).alloc (.cells #[.int .u64 (ms : Int)] 22)).alloc (.cells #[.int .u64 0, .int .i64 0, .int .i64 0, .string ⟨#[]⟩, .int .u64 0, .int .u64 0, .int .i64 0, .string ⟨#[]⟩, .int .u64 0, .int .u64 0, .int .i64 0, .string ⟨#[]⟩, .int .u64 0, .int .u64 0, .int .u64 0, .int .u64 0, .int .u64 0, .int .u64 0, .int .u64 0, .slice none 0 0] 29)) (w.heap.size + 1 + 1 + 1) 29 #[.int .u64 0, .int .i64 0, .int .i64 0, .string ⟨#[]⟩, .int .u64 0, .int .u64 0, .int .i64 0, .string ⟨#[]⟩, .int .u64 0, .int .u64 0, .int .i64 0, .string ⟨#[]⟩, .int .u64 0, .int .u64 0, .int .u64 0, .int .u64 0, .int .u64 0, .int .u64 0, .int .u64 0, .slice none 0 0]) := by unfold Hid; exact Blk.newL _ _ _ (by simp)
 have HL := hid (BsL.ext h HE.out)
 clear h hh hst hnl hf ho hm hL
 go_enter Tryz.func14, Tryz.ntmps14
 go_upto_region 1 with fail
 generalize ((((w.alloc (.cells (bunC p A k c) 29)).alloc (.cells #[.int .i64 sch, str nm, .int .u64 (nd : Int), .int .u64 (sv : Int)] 24)).alloc (.cells #[.int .u64 (ms : Int)] 22)).alloc (.cells #[.int .u64 0, .int .i64 0, .int .i64 0, .string ⟨#[]⟩, .int .u64 0, .int .u64 0, .int .i64 0, .string ⟨#[]⟩, .int .u64 0, .int .u64 0, .int .i64 0, .string ⟨#[]⟩, .int .u64 0, .int .u64 0, .int .u64 0, .int .u64 0, .int .u64 0, .int .u64 0, .int .u64 0, .slice none 0 0] 29)) = V at *
 obtain ⟨e, he⟩ := Later.self V
 rw [he]
 clear he
 have tk1 : True := trivial
 go_upto_region 4 with (first | (clear tk1; refine wpList_row (by rfl) 24 _ rfl _ rfl (HB1.out.later _) vqJ rfl (by kernel_rfl) ?_) | (go_at_call 31; refine (Ret.later (KP.out _)).mono ?_; rintro x _ ⟨rfl, e, rfl⟩))
 generalize hU : World.alloc e.x _ = U
 have HEU : Hid (Ext V U) := hid (by rw [<- hU]; exact e.h.alloc _)
 clear hU
 have HBU := hid (HB0.out.ext HEU.out)
 have HRU := hid (HB3.out.ext HEU.out)
 have HLU := hid (HL.out.ext HEU.out)
 generalize e.x.heap.size = qb at *
 clear HB0 HB1 HB2 HB3 HL e KP
 obtain ⟨e, he⟩ := Later.self U
 rw [he]
 clear he
 have tk1 : True := trivial
 go_wp2_with (first | (clear tk1; refine wpList_row (by rfl) 29 _ rfl _ rfl (HBU.out.later _) vqA rfl (by kernel_rfl) ?_) | (go_at_call 32; refine (Ret.later (KM.out _ (HLU.out.ext (Later.h _)))).mono ?_; rintro x _ ⟨rfl, e, rfl⟩) | (refine wpList_store_mid rfl 29 _ _ rfl (w.heap.size + 1 + 1 + 1) 0 zeroBun (by rfl) (by rfl) ((HRU.out.later e).there (Nat.le_refl 20)) (by kernel_rfl) (by simp [zeroBun, Value.oneCell']) ?_))
 generalize hZ : World.setCells _ _ _ _ = Z
 have HZB : Hid (Blk Z (w.heap.size + 1 + 1 + 1) 29 zeroBun) := hid (by rw [<- hZ]; exact setCells_all (ds := zeroBun) (HRU.out.later e) rfl)
 have HZM : Hid (Ext w Z) := hid (by rw [<- hZ]; exact setCells_mod _ _ ((HE.out.trans HEU.out).trans e.h) (.inr (by omega)))
 clear hZ
 exact bodyPost_ret (v := .tuple #[.agg zeroBun, .int .i64 12]) (results_cell2 Tryz.results14 _ rfl rfl HZB.out vqA rfl (by kernel_rfl)) rfl (Ret.mk rfl HZM.out)
set_option maxRecDepth 20000 in
set_option maxHeartbeats 16000000 in
theorem Step_ok (p : PV) (bs R : Nat -> BV) (k c : Nat) (A : Option Addr) (hnl : Hid (p.d.name.length < 4611686018427387904 /\ p.s.name.length < 4611686018427387904 /\ p.r.name.length < 4611686018427387904)) (hf : p.fl < 18446744073709551616) (sch : Int) (nm : List UInt8) (nd sv ms : Nat) (hm : ms < 18446744073709551616) (ho : EV.ok ⟨sch, nm, nd, sv⟩ = true) (hst : St p R bs k) (R' : Nat -> BV) (hS : Stepped p bs k (eidT ⟨sch, nm, nd, sv⟩).bytes ms R') (hh : ∀ l n, hopV bs k = some (l, n) -> n < l) (w : World) (h : BsL w A k bs) : Calls Tryz.prog 14 #[bunV p A k c, EV.v ⟨sch, nm, nd, sv⟩, .int .u64 (ms : Int)] w (BunPost p (bbS bs k (eidT ⟨sch, nm, nd, sv⟩).bytes ms 3) (sentK bs k) w) := by
 obtain ⟨L, hL⟩ : ∃ L, (eidT ⟨sch, nm, nd, sv⟩).bytes = L := ⟨_, rfl⟩
 rw [hL] at hS ⊢
 have KP : Hid (∀ W, Calls Tryz.prog 31 #[EV.v ⟨sch, nm, nd, sv⟩] W (Ret (.tuple #[str L, .int .i64 0]) W)) := hid (fun W => by rw [<- hL]; exact Prev_yes ⟨sch, nm, nd, sv⟩ ho W)
 have hk16 := hst.ok.k16
 have K0 : Hid (0 < k) := hid hst.ok.k0
 have K1 : Hid (0 < sentK bs k) := hid hS.k0
 have hs16 := hS.s1.ok.k16
 have KM : Hid (∀ W, BsL W A k bs -> Calls Tryz.prog 32 #[bunV p A k c] W (Ret (.int .i64 0) W)) := hid (fun W hW => by
  cases hf1 : firstOf (tyB bs 10) k with
  | none => exact xmay_none p bs k c A hnl hf (by omega) hst.len hst.right hst.extR0 hf1 W hW
  | some i =>
   obtain ⟨l, n, h1, _, h2⟩ := hst.hop_at hf1
   exact xmay_some p bs k c A hnl hf (by omega) hst.len hst.right hst.extR0 i l n false (by have := hh l n h2; simp; omega) hf1 h1 W hW)
 have KS0 : Hid (∀ W A1 c1, BsL W A1 k bs -> ∀ q, Blk W q 9 #[str L] -> Calls Tryz.prog 33 (#[bunV p A1 k c1] ++ #[.pointer (some ⟨q, 0, none⟩)]) W (BunPost p (sentF bs k L) (sentK bs k) W)) := hid (fun W A1 c1 hW q hq => stepA_any p bs k c1 A1 (sentK bs k) _ K1 L q _ W hW hq (hid (fun W' hW' _ => sent_any p bs k c1 A1 hnl hf (by omega) K0.out hst.ok.du L hS.s1.right W' hW')))
 have KS1 : Hid (∀ W A1 c1, BsL W A1 (sentK bs k) (sentF bs k L) -> ∀ q, Blk W q 22 #[.int .u64 (ms : Int)] -> Calls Tryz.prog 35 (#[bunV p A1 (sentK bs k) c1] ++ #[.pointer (some ⟨q, 0, none⟩)]) W (BunPost p (agedF (sentF bs k L) (sentK bs k) ms) (sentK bs k) W)) := hid (fun W A1 c1 hW q hq => stepB_any p _ _ c1 A1 (sentK bs k) _ K1 ms q _ W hW hq (hid (fun W' hW' hq' => aged_any p _ _ c1 A1 hnl hf (by omega) K1.out hS.s1.ok.du hS.s1.len ms hm (fun i hi => by obtain ⟨n, a1, a2, _⟩ := hS.s1.age_at hi; exact ⟨n, a1, a2⟩) hS.s2.right W' hW' q _ hq')))
 have KS2 : Hid (∀ W A1 c1, BsL W A1 (sentK bs k) (agedF (sentF bs k L) (sentK bs k) ms) -> Calls Tryz.prog 39 (#[bunV p A1 (sentK bs k) c1] ++ #[]) W (BunPost p (hopF (agedF (sentF bs k L) (sentK bs k) ms) (sentK bs k)) (sentK bs k) W)) := hid (fun W A1 c1 hW => stepC_any p _ _ c1 A1 (sentK bs k) _ K1 W hW (hid (fun W' hW' => hopped_any p _ _ c1 A1 hnl hf (by omega) K1.out hS.s2.ok.du hS.s2.len (fun i hi => by
  obtain ⟨l, n, a1, a2, a3⟩ := hS.s2.hop_at hi
  have a4 := hh l n (by rw [<- hS.hop2]; exact a3)
  exact ⟨l, n, a1, by simp [mayB] at a2 ⊢; omega⟩) hS.s3.right W' hW')))
 have HI : Hid (∀ (A1 : Option Addr) (k1 c1 : Nat), ZX (bunC p A1 k1 c1)) := hid (fun A1 k1 c1 => ZX.mk' p A1 k1 c1)
 have HE := hid (((((Mod.refl [] w).alloc (.cells (bunC p A k c) 29)).alloc (.cells #[.int .i64 sch, str nm, .int .u64 (nd : Int), .int .u64 (sv : Int)] 24)).alloc (.cells #[.int .u64 (ms : Int)] 22)).alloc (.cells #[.int .u64 0, .int .i64 0, .int .i64 0, .string ⟨#[]⟩, .int .u64 0, .int .u64 0, .int .i64 0, .string ⟨#[]⟩, .int .u64 0, .int .u64 0, .int .i64 0, .string ⟨#[]⟩, .int .u64 0, .int .u64 0, .int .u64 0, .int .u64 0, .int .u64 0, .int .u64 0, .int .u64 0, .slice none 0 0] 29))
 have HB0 : Hid (Blk ((((w.alloc (.cells (bunC p A k c) 29)).alloc (.cells #[.int .i64 sch, str nm, .int .u64 (nd : Int), .int .u64 (sv : Int)] 24)).alloc (.cells #[.int .u64 (ms : Int)] 22)).alloc (.cells #[.int .u64 0, .int .i64 0, .int .i64 0, .string ⟨#[]⟩, .int .u64 0, .int .u64 0, .int .i64 0, .string ⟨#[]⟩, .int .u64 0, .int .u64 0, .int .i64 0, .string ⟨#[]⟩, .int .u64 0, .int .u64 0, .int .u64 0, .int .u64 0, .int .u64 0, .int .u64 0, .int .u64 0, .slice none 0 0] 29)) w.heap.size 29 (bunC p A k c)) := hid ((((Blk.new w 29 (bunC p A k c)).alloc (.cells #[.int .i64 sch, str nm, .int .u64 (nd : Int), .int .u64 (sv : Int)] 24)).alloc (.cells #[.int .u64 (ms : Int)] 22)).alloc (.cells #[.int .u64 0, .int .i64 0, .int .i64 0, .string ⟨#[]⟩, .int .u64 0, .int .u64 0, .int .i64 0, .string ⟨#[]⟩, .int .u64 0, .int .u64 0, .int .i64 0, .string ⟨#[]⟩, .int .u64 0, .int .u64 0, .int .u64 0, .int .u64 0, .int .u64 0, .int .u64 0, .int .u64 0, .slice none 0 0] 29))
 have HB1 : Hid (Blk ((((w.alloc (.cells (bunC p A k c) 29)).alloc (.cells #[.int .i64 sch, str nm, .int .u64 (nd : Int), .int .u64 (sv : Int)] 24)).alloc (.cells #[.int .u64 (ms : Int)] 22)).alloc (.cells #[.int .u64 0, .int .i64 0, .int .i64 0, .string ⟨#[]⟩, .int .u64 0, .int .u64 0, .int .i64 0, .string ⟨#[]⟩, .int .u64 0, .int .u64 0, .int .i64 0, .string ⟨#[]⟩, .int .u64 0, .int .u64 0, .int .u64 0, .int .u64 0, .int .u64 0, .int .u64 0, .int .u64 0, .slice none 0 0] 29)) (w.heap.size + 1) 24 #[.int .i64 sch, str nm, .int .u64 (nd : Int), .int .u64 (sv : Int)]) := by unfold Hid; have := (Blk.newL (N := (w.heap.size + 1)) (w.alloc (.cells (bunC p A k c) 29)) 24 #[.int .i64 sch, str nm, .int .u64 (nd : Int), .int .u64 (sv : Int)] (by simp)); exact ((this.alloc (.cells #[.int .u64 (ms : Int)] 22)).alloc (.cells #[.int .u64 0, .int .i64 0, .int .i64 0, .string ⟨#[]⟩, .int .u64 0, .int .u64 0, .int .i64 0, .string ⟨#[]⟩, .int .u64 0, .int .u64 0, .int .i64 0, .string ⟨#[]⟩, .int .u64 0, .int .u64 0, .int .u64 0, .int .u64 0, .int .u64 0, .int .u64 0, .int .u64 0, .slice none 0 0] 29))
 have HB2 : Hid (Blk ((((w.alloc (.cells (bunC p A k c) 29)).alloc (.cells #[.int .i64 sch, str nm, .int .u64 (nd : Int), .int .u64 (sv : Int)] 24)).alloc (.cells #[.int .u64 (ms : Int)] 22)).alloc (.cells #[.int .u64 0, .int .i64 0, .int .i64 0, .string ⟨#[]⟩, .int .u64 0, .int .u64 0, .int .i64 0, .string ⟨#[]⟩, .int .u64 0, .int .u64 0, .int .i64 0, .string ⟨#[]⟩, .int .u64 0, .int .u64 0, .int .u64 0, .int .u64 0, .int .u64 0, .int .u64 0, .int .u64 0, .slice none 0 0] 29)) (w.heap.size + 1 + 1) 22 #[.int .u64 (ms : Int)]) := by unfold Hid; have := (Blk.newL (N := (w.heap.size + 1 + 1)) ((w.alloc (.cells (bunC p A k c) 29)).alloc (.cells #[.int .i64 sch, str nm, .int .u64 (nd : Int), .int .u64 (sv : Int)] 24)) 22 #[.int .u64 (ms : Int)] (by simp)); exact (this.alloc (.cells #[.int .u64 0, .int .i64 0, .int .i64 0, .string ⟨#[]⟩, .int .u64 0, .int .u64 0, .int .i64 0, .string ⟨#[]⟩, .int .u64 0, .int .u64 0, .int .i64 0, .string ⟨#[]⟩, .int .u64 0, .int .u64 0, .int .u64 0, .int .u64 0, .int .u64 0, .int .u64 0, .int .u64 0, .slice none 0 0] 29))
 have HB3 : Hid (Blk ((((w.alloc (.cells (bunC p A k c) 29)).alloc (.cells #[.int .i64 sch, str nm, .int .u64 (nd : Int), .int .u64 (sv : Int)] 24)).alloc (.cells #[.int .u64 (ms : Int)] 22)).alloc (.cells #[.int .u64 0, .int .i64 0, .int .i64 0, .string ⟨#[]⟩, .int .u64 0, .int .u64 0, .int .i64 0, .string ⟨#[]⟩, .int .u64 0, .int .u64 0, .int .i64 0, .string ⟨#[]⟩, .int .u64 0, .int .u64 0, .int .u64 0, .int .u64 0, .int .u64 0, .int .u64 0, .int .u64 0, .slice none 0 0] 29)) (w.heap.size + 1 + 1 + 1) 29 #[.int .u64 0, .int .i64 0, .int .i64 0, .string ⟨#[]⟩, .int .u64 0, .int .u64 0, .int .i64 0, .string ⟨#[]⟩, .int .u64 0, .int .u64 0, .int .i64 0, .string ⟨#[]⟩, .int .u64 0, .int .u64 0, .int .u64 0, .int .u64 0, .int .u64 0, .int .u64 0, .int .u64 0, .slice none 0 0]) := by unfold Hid; exact Blk.newL _ _ _ (by simp)
 have HL := hid (BsL.ext h HE.out)
 have HLW := hid h
 clear h hh hst hnl hf ho hm hL hS hk16 hs16
 go_enter Tryz.func14, Tryz.ntmps14
 go_upto_region 1 with fail
 generalize ((((w.alloc (.cells (bunC p A k c) 29)).alloc (.cells #[.int .i64 sch, str nm, .int .u64 (nd : Int), .int .u64 (sv : Int)] 24)).alloc (.cells #[.int .u64 (ms : Int)] 22)).alloc (.cells #[.int .u64 0, .int .i64 0, .int .i64 0, .string ⟨#[]⟩, .int .u64 0, .int .u64 0, .int .i64 0, .string ⟨#[]⟩, .int .u64 0, .int .u64 0, .int .i64 0, .string ⟨#[]⟩, .int .u64 0, .int .u64 0, .int .u64 0, .int .u64 0, .int .u64 0, .int .u64 0, .int .u64 0, .slice none 0 0] 29)) = V at *
 obtain ⟨e, he⟩ := Later.self V
 rw [he]
 clear he
 have tk1 : True := trivial
 go_upto_region 4 with (first | (clear tk1; refine wpList_row (by rfl) 24 _ rfl _ rfl (HB1.out.later _) vqJ rfl (by kernel_rfl) ?_) | (go_at_call 31; refine (Ret.later (KP.out _)).mono ?_; rintro x _ ⟨rfl, e, rfl⟩))
 generalize hU : World.alloc e.x _ = U
 have HEU : Hid (Ext V U) := hid (by rw [<- hU]; exact e.h.alloc _)
 have HQU : Hid (Blk U e.x.heap.size 9 #[str L]) := hid (by rw [<- hU]; exact Blk.new _ _ _)
 have HNQ : Hid (V.heap.size <= e.x.heap.size) := hid e.h.size
 clear hU
 generalize e.x.heap.size = qb at *
 have HBU := hid (HB0.out.ext HEU.out)
 have HMU := hid (HB2.out.ext HEU.out)
 have HRU := hid (HB3.out.ext HEU.out)
 have HLU := hid (HL.out.ext HEU.out)
 have HVS : Hid ((w.heap.size + 1 + 1 + 1) < V.heap.size) := hid HB3.out.lt
 clear HB0 HB1 HB2 HB3 HL e KP
 obtain ⟨e, he⟩ := Later.self U
 rw [he]
 clear he
 have tk1 : True := trivial
 go_upto_region 7 with (first | (clear tk1; refine wpList_row (by rfl) 29 _ rfl _ rfl (HBU.out.later _) vqA rfl (by kernel_rfl) ?_) | (go_at_call 32; refine (Ret.later (KM.out _ (HLU.out.ext (Later.h _)))).mono ?_; rintro x _ ⟨rfl, e, rfl⟩))
 go_wp2_with fail
 generalize hV2 : World.alloc e.x _ = V2
 have HSL : Hid (Blk V2 e.x.heap.size 70 #[.func (.func 33) #[] #[.pointer (some ⟨qb, 0, none⟩)], .func (.func 35) #[] #[.pointer (some ⟨(w.heap.size + 1 + 1), 0, none⟩)], .func (.func 39) #[] #[]]) := hid (by rw [<- hV2]; exact Blk.new _ _ _)
 have HU2 : Hid (Ext U V2) := hid (by rw [<- hV2]; exact e.h.alloc _)
 have HNS : Hid (U.heap.size <= e.x.heap.size) := hid e.h.size
 generalize e.x.heap.size = sb at *
 clear hV2 KM e
 have HUL := hid HU2.out.size
 have HVU := hid HNQ.out
 have HNN : Hid (w.heap.size ≠ qb /\ w.heap.size ≠ (w.heap.size + 1 + 1) /\ w.heap.size ≠ (w.heap.size + 1 + 1 + 1) /\ w.heap.size ≠ sb) := hid ⟨by have := HVS.out; have := HNQ.out; omega, by omega, by omega, by have := HBU.out.lt; have := HNS.out; omega⟩
 have HSW0 := HSL
 have HQW0 := hid (HQU.out.ext HU2.out)
 have HMW0 := hid (HMU.out.ext HU2.out)
 have HRW0 := hid (HRU.out.ext HU2.out)
 have HBW0 := hid (HBU.out.ext HU2.out)
 have HLW0 := hid (HLU.out.ext HU2.out)
 have HW2 := hid ((HE.out.trans HEU.out).trans HU2.out)
 clear HSL HQU HMU HRU HBU HLU HE HEU HU2 HNQ HVU HUL HNS HVS HLW
 go_loopw [32] (fun s32 wr => ∃ (i : Nat) (zc : Array Value) (A1 : Option Addr) (c1 : Nat), i <= 3 /\ s32 = .int .i64 (i : Int) /\ Hid (bunC p A1 (kkS bs k i) c1 = zc) /\ Hid (Blk wr w.heap.size 29 zc) /\ Hid (BsL wr A1 (kkS bs k i) (bbS bs k L ms i)) /\ Hid (Mod [w.heap.size] V2 wr)) (fun s32 _ => 3 - (intOf s32).toNat)
 case atStart => exact ⟨0, _, A, c, by omega, rfl, hid rfl, HBW0, HLW0, hid (Mod.refl _ _)⟩
 case round =>
  obtain ⟨i, zc, A1, c1, hi, rfl, hz, HBW, HBL, HMO⟩ := hrel
  rename World => wr
  have HZC : Hid (ZX zc) := hid (by rw [<- hz.out]; exact ZX.mk' p A1 _ c1)
  have HSW := hid (HSW0.out.mod HMO.out (by simp; exact fun h => HNN.out.2.2.2 h.symm))
  have HQW := hid (HQW0.out.mod HMO.out (by simp; exact fun h => HNN.out.1 h.symm))
  have HMW := hid (HMW0.out.mod HMO.out (by simp; omega))
  have HRW := hid (HRW0.out.mod HMO.out (by simp; omega))
  have hi4 : i = 0 \/ i = 1 \/ i = 2 \/ i = 3 := by omega
  clear hi
  rcases hi4 with rfl | rfl | rfl | rfl
  .
   have HBL : Hid (BsL wr A1 k bs) := HBL
   have hz : Hid (bunC p A1 k c1 = zc) := hz
   have x0 : ∀ e : Later wr, e.x.cell? ⟨sb, 0, none⟩ = some (.func (.func 33) #[] #[.pointer (some ⟨qb, 0, none⟩)]) := HSW.out.cellL 0 rfl
   have eg := entersY1
   have KC := hid (fun W (hW : Ext wr W) => KS0.out W A1 c1 (HBL.out.ext hW) qb (HQW.out.ext hW))
   rw [show bunV p A1 k c1 = .agg zc by rw [<- hz.out]] at KC
   obtain ⟨e, he⟩ := Later.self wr
   rw [he]
   clear he
   have tk1 : True := trivial
   go_upto_region 11 with (first | (clear tk1; refine wpList_row (by rfl) 29 _ rfl _ rfl (HBW.out.later _) vqA rfl HZC.out.i ?_) | (go_at_fn 33; refine (KC.out _ (Later.h _)).mono ?_; rintro y w3 ⟨zd, A2, c2, hz2, rfl, hb3, hL3⟩; have HZD : Hid (ZX zd) := hid (by rw [<- hz2.out]; exact ZX.mk' p A2 _ c2); have HE3 := hid (e.h.trans hb3); have HB3 := hid (HBW.out.ext (e.h.trans hb3)); have HZ2 := hid hz2.out; clear hz2 hb3) | (refine wpList_store_mid rfl 29 _ _ rfl w.heap.size 0 zd (by rfl) (by rfl) (HB3.out.there (by rw [HZD.out.s, HZC.out.s]; exact Nat.le_refl 20)) HZD.out.i HZD.out.o ?_))
   generalize hZ : World.setCells _ _ _ _ = Z
   have HZB : Hid (Blk Z w.heap.size 29 zd) := hid (by rw [<- hZ]; exact setCells_all (ds := zd) HB3.out (by rw [Array.length_toList, HZD.out.s, HZC.out.s]))
   have HZX : Hid (Mod [w.heap.size] w3 Z) := hid (by rw [<- hZ]; exact setCells_mod _ _ (Mod.refl _ _) (.inl (by simp)))
   have HAP : Hid (∀ ad, A2 = some ad -> ad.block ∉ [w.heap.size]) := hid (BsL.apart hL3.out (by have h := HB3.out; rw [<- hz.out] at h; exact h) K1.out)
   clear hZ
   go_wp2_with fail
   go_roundw
   case rel =>
    exact ⟨1, zd, A2, c2, by omega, by go_num, HZ2, HZB, hid (BsL.modX hL3.out HZX.out HAP.out), hid ((HMO.out.trans (Mod.of_ext HE3.out)).trans HZX.out)⟩
   case measure => simp [intOf]
  .
   have HBL : Hid (BsL wr A1 (sentK bs k) (sentF bs k L)) := HBL
   have hz : Hid (bunC p A1 (sentK bs k) c1 = zc) := hz
   have x0 : ∀ e : Later wr, e.x.cell? ⟨sb, 1, none⟩ = some (.func (.func 35) #[] #[.pointer (some ⟨(w.heap.size + 1 + 1), 0, none⟩)]) := HSW.out.cellL 1 rfl
   have eg := entersY2
   have KC := hid (fun W (hW : Ext wr W) => KS1.out W A1 c1 (HBL.out.ext hW) _ (HMW.out.ext hW))
   rw [show bunV p A1 (sentK bs k) c1 = .agg zc by rw [<- hz.out]] at KC
   obtain ⟨e, he⟩ := Later.self wr
   rw [he]
   clear he
   have tk1 : True := trivial
   go_upto_region 11 with (first | (clear tk1; refine wpList_row (by rfl) 29 _ rfl _ rfl (HBW.out.later _) vqA rfl HZC.out.i ?_) | (go_at_fn 35; refine (KC.out _ (Later.h _)).mono ?_; rintro y w3 ⟨zd, A2, c2, hz2, rfl, hb3, hL3⟩; have HZD : Hid (ZX zd) := hid (by rw [<- hz2.out]; exact ZX.mk' p A2 _ c2); have HE3 := hid (e.h.trans hb3); have HB3 := hid (HBW.out.ext (e.h.trans hb3)); have HZ2 := hid hz2.out; clear hz2 hb3) | (refine wpList_store_mid rfl 29 _ _ rfl w.heap.size 0 zd (by rfl) (by rfl) (HB3.out.there (by rw [HZD.out.s, HZC.out.s]; exact Nat.le_refl 20)) HZD.out.i HZD.out.o ?_))
   generalize hZ : World.setCells _ _ _ _ = Z
   have HZB : Hid (Blk Z w.heap.size 29 zd) := hid (by rw [<- hZ]; exact setCells_all (ds := zd) HB3.out (by rw [Array.length_toList, HZD.out.s, HZC.out.s]))
   have HZX : Hid (Mod [w.heap.size] w3 Z) := hid (by rw [<- hZ]; exact setCells_mod _ _ (Mod.refl _ _) (.inl (by simp)))
   have HAP : Hid (∀ ad, A2 = some ad -> ad.block ∉ [w.heap.size]) := hid (BsL.apart hL3.out (by have h := HB3.out; rw [<- hz.out] at h; exact h) K1.out)
   clear hZ
   go_wp2_with fail
   go_roundw
   case rel =>
    exact ⟨2, zd, A2, c2, by omega, by go_num, HZ2, HZB, hid (BsL.modX hL3.out HZX.out HAP.out), hid ((HMO.out.trans (Mod.of_ext HE3.out)).trans HZX.out)⟩
   case measure => simp [intOf]
  .
   have HBL : Hid (BsL wr A1 (sentK bs k) (agedF (sentF bs k L) (sentK bs k) ms)) := HBL
   have hz : Hid (bunC p A1 (sentK bs k) c1 = zc) := hz
   have x0 : ∀ e : Later wr, e.x.cell? ⟨sb, 2, none⟩ = some (.func (.func 39) #[] #[]) := HSW.out.cellL 2 rfl
   have eg := entersY3
   have KC := hid (fun W (hW : Ext wr W) => KS2.out W A1 c1 (HBL.out.ext hW))
   rw [show bunV p A1 (sentK bs k) c1 = .agg zc by rw [<- hz.out]] at KC
   obtain ⟨e, he⟩ := Later.self wr
   rw [he]
   clear he
   have tk1 : True := trivial
   go_upto_region 11 with (first | (clear tk1; refine wpList_row (by rfl) 29 _ rfl _ rfl (HBW.out.later _) vqA rfl HZC.out.i ?_) | (go_at_fn 39; refine (KC.out _ (Later.h _)).mono ?_; rintro y w3 ⟨zd, A2, c2, hz2, rfl, hb3, hL3⟩; have HZD : Hid (ZX zd) := hid (by rw [<- hz2.out]; exact ZX.mk' p A2 _ c2); have HE3 := hid (e.h.trans hb3); have HB3 := hid (HBW.out.ext (e.h.trans hb3)); have HZ2 := hid hz2.out; clear hz2 hb3) | (refine wpList_store_mid rfl 29 _ _ rfl w.heap.size 0 zd (by rfl) (by rfl) (HB3.out.there (by rw [HZD.out.s, HZC.out.s]; exact Nat.le_refl 20)) HZD.out.i HZD.out.o ?_))
   generalize hZ : World.setCells _ _ _ _ = Z
   have HZB : Hid (Blk Z w.heap.size 29 zd) := hid (by rw [<- hZ]; exact setCells_all (ds := zd) HB3.out (by rw [Array.length_toList, HZD.out.s, HZC.out.s]))
   have HZX : Hid (Mod [w.heap.size] w3 Z) := hid (by rw [<- hZ]; exact setCells_mod _ _ (Mod.refl _ _) (.inl (by simp)))
   have HAP : Hid (∀ ad, A2 = some ad -> ad.block ∉ [w.heap.size]) := hid (BsL.apart hL3.out (by have h := HB3.out; rw [<- hz.out] at h; exact h) K1.out)
   clear hZ
   go_wp2_with fail
   go_roundw
   case rel =>
    exact ⟨3, zd, A2, c2, by omega, by go_num, HZ2, HZB, hid (BsL.modX hL3.out HZX.out HAP.out), hid ((HMO.out.trans (Mod.of_ext HE3.out)).trans HZX.out)⟩
   case measure => simp [intOf]
  .
   have HBL : Hid (BsL wr A1 (sentK bs k) (bbS bs k L ms 3)) := HBL
   have hz : Hid (bunC p A1 (sentK bs k) c1 = zc) := hz
   have tk1 : True := trivial
   go_wp2_with (first | (clear tk1; refine wpList_row (by rfl) 29 _ rfl _ rfl HBW.out vqA rfl HZC.out.i ?_) | (refine wpList_store_mid rfl 29 _ _ rfl (w.heap.size + 1 + 1 + 1) 0 zc (by rfl) (by rfl) (HRW.out.there (by rw [HZC.out.s]; exact Nat.le_refl 20)) HZC.out.i HZC.out.o ?_))
   generalize hZ : World.setCells _ _ _ _ = Z
   have HZB : Hid (Blk Z (w.heap.size + 1 + 1 + 1) 29 zc) := hid (by rw [<- hZ]; exact setCells_all (ds := zc) HRW.out (by rw [Array.length_toList, HZC.out.s]; rfl))
   have HZX : Hid (Mod [(w.heap.size + 1 + 1 + 1)] wr Z) := hid (by rw [<- hZ]; exact setCells_mod _ _ (Mod.refl _ _) (.inl (by simp)))
   clear hZ
   refine bodyPost_ret (v := .tuple #[.agg zc, .int .i64 0]) (results_cell2 Tryz.results14 _ rfl rfl HZB.out vqA rfl HZC.out.i) rfl ?_
   refine ⟨zc, A1, c1, hz, rfl, ?_, hid ?_⟩
   . exact (((HW2.out.of_ext (S := [w.heap.size, (w.heap.size + 1 + 1 + 1)])).trans (HMO.out.mono (by simp))).trans (HZX.out.mono (by simp))).new (fun kk hkk => .inr (by simp at hkk; omega))
   . exact BsL.modX HBL.out HZX.out (BsL.apartZ HBL.out HRW.out K1.out)
theorem few_names14 {p : PV} (h : p.few = true) : p.d.name.length < 4611686018427387904 /\ p.s.name.length < 4611686018427387904 /\ p.r.name.length < 4611686018427387904 := by
 unfold PV.few at h
 simp only [Bool.and_eq_true, decide_eq_true_eq] at h
 omega
def sumN (f : Nat -> Nat) : Nat -> Nat
 | 0 => 0
 | j + 1 => sumN f j + f j
structure AgK (p : PV) (n0 : Nat) (f : Nat -> Nat) (cb j : Nat) (W : World) (zc : Array Value) (A : Option Addr) (k c : Nat) (bs R : Nat -> BV) : Prop where
 z : bunC p A k c = zc
 b : Blk W cb 29 zc
 l : BsL W A k bs
 st : St p R bs k
 age : ageV bs k = some (min (n0 + sumN f j) 1099511627776)
 hop : hopV bs k = none
theorem neq_pri_self (p : PV) (hp : p.wf) (hpl : p.d.name.length < 4611686018427387904 /\ p.s.name.length < 4611686018427387904 /\ p.r.name.length < 4611686018427387904) : ∀ w, (binOp .neq 26 (.agg p.c) (.agg p.c)).run Tryz.prog w = .ok (.bool false) w := fun w => by
 obtain ⟨r, hr, hEQ⟩ := eq_pri_any p p hp hp hpl hpl
 obtain rfl : r = true := hr.2 rfl
 have h := hEQ w
 simp only [binOp] at h ⊢
 simp only [Sem.run_bind] at h ⊢
 revert h
 generalize (Op.equal 26 (.agg p.c) (.agg p.c)).run Tryz.prog w = R
 cases R <;> simp [Result.andThen]
theorem range5 {w : World} {b o : Nat} {x0 x1 x2 x3 x4 : Value} (c0 : w.cell? ⟨b, o, none⟩ = some x0) (c1 : w.cell? ⟨b, o + 1, none⟩ = some x1) (c2 : w.cell? ⟨b, o + 2, none⟩ = some x2) (c3 : w.cell? ⟨b, o + 3, none⟩ = some x3) (c4 : w.cell? ⟨b, o + 4, none⟩ = some x4) : w.rangeAt b o [x0, x1, x2, x3, x4] := by
 intro j v hj
 match j with
 | 0 => cases hj; exact c0
 | 1 => cases hj; exact c1
 | 2 => cases hj; exact c2
 | 3 => cases hj; exact c3
 | 4 => cases hj; exact c4
 | j + 5 => cases hj
theorem ZX_zero : ZX zeroBun := ⟨by kernel_rfl, by simp [zeroBun, Value.oneCell'], rfl⟩
structure HpK (p : PV) (nn : Nat) (pay : BV) (N j : Nat) (W : World) (zc : Array Value) (A : Option Addr) (k c : Nat) (bs R : Nat -> BV) : Prop where
 z : bunC p A k c = zc
 b : Blk W N 29 zc
 l : BsL W A k bs
 st : St p R bs k
 hop : j <= nn -> hopV bs k = some (nn, j)
 la : bs (k - 1) = pay
set_option maxRecDepth 20000 in
set_option maxHeartbeats 32000000 in
theorem lawHops_any (p : PV) (bs : Nat -> BV) (k c : Nat) (A : Option Addr) (hf : p.fl < 18446744073709551616) (hpw : p.wf) (hk : k < 4611686018427387904) (hS : SlA A k c) (lm : Nat) (hlm : lm <= 255) (Am : Option Addr) (m cm : Nat) (f : Nat -> EV) (hmk : m < 4611686018427387904) (w : World) (h : BsL w A k bs) (hU : EsL w Am m f) : Calls Tryz.prog 3 #[bunV p A k c, .int .u8 (lm : Int), .slice Am m cm] w (Ret (.bool true) w) := by
 have KA := hid (fun W => awake14_any W)
 have KF := hid (fun W (hW : BsL W A k bs) => few13_any p bs k c A hk W hW)
 have HU := hid hU
 have HLW := hid h
 clear hU
 have HE := hid ((Mod.refl [] w).alloc (.cells (bunC p A k c) 29))
 have HB0 : Hid (Blk (w.alloc (.cells (bunC p A k c) 29)) w.heap.size 29 (bunC p A k c)) := hid (Blk.new w 29 (bunC p A k c))
 have HL := hid (BsL.ext h HE.out)
 have HF := hid hf
 have HK := hid hk
 clear h hf hk
 go_enter Tryz.func3, Tryz.ntmps3
 go_upto_region 1 with fail
 generalize (w.alloc (.cells (bunC p A k c) 29)) = V at *
 obtain ⟨e, he⟩ := Later.self V
 rw [he]
 clear he
 have b19 : ∀ e : Later V, e.x.cell? ⟨w.heap.size, 19, none⟩ = some (.slice A k c) := HB0.out.cellL 19 rfl
 have tk1 : True := trivial
 cases hF : bunFew p bs k with
 | false =>
  rw [hF] at KF
  clear hF
  go_wp2_with (first | (go_at_call 5; refine (Ret.later (KA.out _)).mono ?_; rintro x _ ⟨rfl, e, rfl⟩) | (clear tk1; refine wpList_row (by rfl) 29 _ rfl _ rfl (HB0.out.later _) vqA rfl (by kernel_rfl) ?_) | (go_at_call 6; refine (Ret.later (KF.out _ (HL.out.ext (Later.h _)))).mono ?_; rintro x _ ⟨rfl, e, rfl⟩))
  go_ret
  exact Ret.mk rfl (HE.out.trans e.h)
 | true =>
 have hnl := few_names14 (bunFew_spec hF).2.1
 have hd : ∀ i, i < k -> (bs i).data.length <= 4100 := (bunFew_spec hF).2.2
 have KR := hid (fun W (hW : BsL W A k bs) => r13Right_any p bs k c A HF.out HK.out (fun i hi => by have := hd i hi; omega) W hW)
 rw [hF] at KF
 clear hF
 have tk2 : True := trivial
 by_cases hR : bunRight p bs k = 0
 case neg =>
  generalize bunRight p bs k = r at *
  have ra : ((r) == (0)) = false := by rw [beq_eq_false_iff_ne]; exact hR
  have rb : ((r) = (0)) = False := eq_false (by exact hR)
  have rc : ((r) != (0)) = true := by rw [bne_iff_ne]; exact hR
  clear hR hnl hd
  go_wp2_with (first | (go_at_call 5; refine (Ret.later (KA.out _)).mono ?_; rintro x _ ⟨rfl, e, rfl⟩) | (clear tk1; refine wpList_row (by rfl) 29 _ rfl _ rfl (HB0.out.later _) vqA rfl (by kernel_rfl) ?_) | (go_at_call 6; refine (Ret.later (KF.out _ (HL.out.ext (Later.h _)))).mono ?_; rintro x _ ⟨rfl, e, rfl⟩) | (clear tk2; refine wpList_row (by rfl) 29 _ rfl _ rfl (HB0.out.later _) vqA rfl (by kernel_rfl) ?_) | (go_at_call 7; refine (Ret.later (KR.out _ (HL.out.ext (Later.h _)))).mono ?_; rintro x _ ⟨rfl, e, rfl⟩))
  go_ret
  exact Ret.mk rfl (HE.out.trans e.h)
 rw [hR] at KR
 have tk3 : True := trivial
 have KX := hid (fun W (hW : BsL W A k bs) => r14Right_any p bs k c A HK.out (fun i hi => by have := hd i hi; omega) W hW)
 by_cases hX : extR bs k = 0
 case neg =>
  generalize extR bs k = r at *
  have ra : ((r) == (0)) = false := by rw [beq_eq_false_iff_ne]; exact hX
  have rb : ((r) = (0)) = False := eq_false (by exact hX)
  have rc : ((r) != (0)) = true := by rw [bne_iff_ne]; exact hX
  clear hX hnl hd hR
  go_wp2_with (first | (go_at_call 5; refine (Ret.later (KA.out _)).mono ?_; rintro x _ ⟨rfl, e, rfl⟩) | (clear tk1; refine wpList_row (by rfl) 29 _ rfl _ rfl (HB0.out.later _) vqA rfl (by kernel_rfl) ?_) | (go_at_call 6; refine (Ret.later (KF.out _ (HL.out.ext (Later.h _)))).mono ?_; rintro x _ ⟨rfl, e, rfl⟩) | (clear tk2; refine wpList_row (by rfl) 29 _ rfl _ rfl (HB0.out.later _) vqA rfl (by kernel_rfl) ?_) | (go_at_call 7; refine (Ret.later (KR.out _ (HL.out.ext (Later.h _)))).mono ?_; rintro x _ ⟨rfl, e, rfl⟩) | (clear tk3; refine wpList_row (by rfl) 29 _ rfl _ rfl (HB0.out.later _) vqA rfl (by kernel_rfl) ?_) | (go_at_call 8; refine (Ret.later (KX.out _ (HL.out.ext (Later.h _)))).mono ?_; rintro x _ ⟨rfl, e, rfl⟩))
  go_ret
  exact Ret.mk rfl (HE.out.trans e.h)
 rw [hX] at KX
 have tk4 : True := trivial
 have hbok := bok_of hR
 have KB := hid (fun W (hW : BsL W A k bs) => r13Bytes_any p bs k c A (by have := hbok.k16; omega) hbok.pr hbok.br W hW)
 by_cases hk10 : 10 < k
 .
  have u1 : decide (10 < k) = true := decide_eq_true hk10
  have u2 : (10 < k) = True := eq_true hk10
  have u3 : decide ((10 : Int) < (k : Int)) = true := decide_eq_true (by omega)
  have u4 : ((10 : Int) < (k : Int)) = True := eq_true (by omega)
  clear hk10 hbok hnl hd hR hX
  go_wp2_with (first | (go_at_call 5; refine (Ret.later (KA.out _)).mono ?_; rintro x _ ⟨rfl, e, rfl⟩) | (clear tk1; refine wpList_row (by rfl) 29 _ rfl _ rfl (HB0.out.later _) vqA rfl (by kernel_rfl) ?_) | (go_at_call 6; refine (Ret.later (KF.out _ (HL.out.ext (Later.h _)))).mono ?_; rintro x _ ⟨rfl, e, rfl⟩) | (clear tk2; refine wpList_row (by rfl) 29 _ rfl _ rfl (HB0.out.later _) vqA rfl (by kernel_rfl) ?_) | (go_at_call 7; refine (Ret.later (KR.out _ (HL.out.ext (Later.h _)))).mono ?_; rintro x _ ⟨rfl, e, rfl⟩) | (clear tk3; refine wpList_row (by rfl) 29 _ rfl _ rfl (HB0.out.later _) vqA rfl (by kernel_rfl) ?_) | (go_at_call 8; refine (Ret.later (KX.out _ (HL.out.ext (Later.h _)))).mono ?_; rintro x _ ⟨rfl, e, rfl⟩))
  go_ret
  exact Ret.mk rfl (HE.out.trans e.h)
 have u1 : decide (10 < k) = false := decide_eq_false hk10
 have u2 : (10 < k) = False := eq_false hk10
 have u3 : decide ((10 : Int) < (k : Int)) = false := decide_eq_false (by omega)
 have u4 : ((10 : Int) < (k : Int)) = False := eq_false (by omega)
 obtain ⟨BB, hBB⟩ : ∃ BB, bunBytes p bs k = BB := ⟨_, rfl⟩
 rw [hBB] at KB
 by_cases hl : 3000 < BB.length
 .
  have l1 : decide (3000 < BB.length) = true := decide_eq_true hl
  have l2 : (3000 < BB.length) = True := eq_true hl
  have l3 : decide ((3000 : Int) < (BB.length : Int)) = true := decide_eq_true (by omega)
  have l4 : ((3000 : Int) < (BB.length : Int)) = True := eq_true (by omega)
  clear hl hk10 hbok hnl hd hR hX hBB
  go_wp2_with (first | (go_at_call 5; refine (Ret.later (KA.out _)).mono ?_; rintro x _ ⟨rfl, e, rfl⟩) | (clear tk1; refine wpList_row (by rfl) 29 _ rfl _ rfl (HB0.out.later _) vqA rfl (by kernel_rfl) ?_) | (go_at_call 6; refine (Ret.later (KF.out _ (HL.out.ext (Later.h _)))).mono ?_; rintro x _ ⟨rfl, e, rfl⟩) | (clear tk2; refine wpList_row (by rfl) 29 _ rfl _ rfl (HB0.out.later _) vqA rfl (by kernel_rfl) ?_) | (go_at_call 7; refine (Ret.later (KR.out _ (HL.out.ext (Later.h _)))).mono ?_; rintro x _ ⟨rfl, e, rfl⟩) | (clear tk3; refine wpList_row (by rfl) 29 _ rfl _ rfl (HB0.out.later _) vqA rfl (by kernel_rfl) ?_) | (go_at_call 8; refine (Ret.later (KX.out _ (HL.out.ext (Later.h _)))).mono ?_; rintro x _ ⟨rfl, e, rfl⟩) | (clear tk4; refine wpList_row (by rfl) 29 _ rfl _ rfl (HB0.out.later _) vqA rfl (by kernel_rfl) ?_) | (go_at_call 9; refine (Ret.later (KB.out _ (HL.out.ext (Later.h _)))).mono ?_; rintro x _ ⟨rfl, e, rfl⟩))
  go_ret
  exact Ret.mk rfl (HE.out.trans e.h)
 have l1 : decide (3000 < BB.length) = false := decide_eq_false hl
 have l2 : (3000 < BB.length) = False := eq_false hl
 have l3 : decide ((3000 : Int) < (BB.length : Int)) = false := decide_eq_false (by omega)
 have l4 : ((3000 : Int) < (BB.length : Int)) = False := eq_false (by omega)
 by_cases hm : 20 < m
 .
  have o1 : decide (20 < m) = true := decide_eq_true hm
  have o2 : (20 < m) = True := eq_true hm
  have o3 : decide ((20 : Int) < (m : Int)) = true := decide_eq_true (by omega)
  have o4 : ((20 : Int) < (m : Int)) = True := eq_true (by omega)
  clear hm hl hk10 hbok hnl hd hR hX hBB
  go_wp2_with (first | (go_at_call 5; refine (Ret.later (KA.out _)).mono ?_; rintro x _ ⟨rfl, e, rfl⟩) | (clear tk1; refine wpList_row (by rfl) 29 _ rfl _ rfl (HB0.out.later _) vqA rfl (by kernel_rfl) ?_) | (go_at_call 6; refine (Ret.later (KF.out _ (HL.out.ext (Later.h _)))).mono ?_; rintro x _ ⟨rfl, e, rfl⟩) | (clear tk2; refine wpList_row (by rfl) 29 _ rfl _ rfl (HB0.out.later _) vqA rfl (by kernel_rfl) ?_) | (go_at_call 7; refine (Ret.later (KR.out _ (HL.out.ext (Later.h _)))).mono ?_; rintro x _ ⟨rfl, e, rfl⟩) | (clear tk3; refine wpList_row (by rfl) 29 _ rfl _ rfl (HB0.out.later _) vqA rfl (by kernel_rfl) ?_) | (go_at_call 8; refine (Ret.later (KX.out _ (HL.out.ext (Later.h _)))).mono ?_; rintro x _ ⟨rfl, e, rfl⟩) | (clear tk4; refine wpList_row (by rfl) 29 _ rfl _ rfl (HB0.out.later _) vqA rfl (by kernel_rfl) ?_) | (go_at_call 9; refine (Ret.later (KB.out _ (HL.out.ext (Later.h _)))).mono ?_; rintro x _ ⟨rfl, e, rfl⟩))
  go_ret
  exact Ret.mk rfl (HE.out.trans e.h)
 have o1 : decide (20 < m) = false := decide_eq_false hm
 have o2 : (20 < m) = False := eq_false hm
 have o3 : decide ((20 : Int) < (m : Int)) = false := decide_eq_false (by omega)
 have o4 : ((20 : Int) < (m : Int)) = False := eq_false (by omega)
 have K10 := hid (fun W (hW : BsL W A k bs) => rFirst_any p bs k c A 10 HK.out W hW)
 have tk5 : True := trivial
 have tka : True := trivial
 have HNL := hid hnl
 have HNQ := hid (neq_pri_self p hpw hnl)
 have HM20 : Hid (m <= 20) := hid (by omega)
 have lm0 : (0 : Int) <= (lm : Int) := by omega
 have lm1 : (lm : Int) <= 255 := by omega
 cases h10 : firstOf (tyB bs 10) k with
 | none =>
  have hI : firstI (tyB bs 10) k = -1 := by unfold firstI; rw [h10]
  rw [hI] at K10
  clear hI h10 hR hX hBB hl hm hk10 hd hbok hnl hmk
  go_wp2_with (first | (go_at_call 5; refine (Ret.later (KA.out _)).mono ?_; rintro x _ ⟨rfl, e, rfl⟩) | (clear tk1; refine wpList_row (by rfl) 29 _ rfl _ rfl (HB0.out.later _) vqA rfl (by kernel_rfl) ?_) | (go_at_call 6; refine (Ret.later (KF.out _ (HL.out.ext (Later.h _)))).mono ?_; rintro x _ ⟨rfl, e, rfl⟩) | (clear tk2; refine wpList_row (by rfl) 29 _ rfl _ rfl (HB0.out.later _) vqA rfl (by kernel_rfl) ?_) | (go_at_call 7; refine (Ret.later (KR.out _ (HL.out.ext (Later.h _)))).mono ?_; rintro x _ ⟨rfl, e, rfl⟩) | (clear tk3; refine wpList_row (by rfl) 29 _ rfl _ rfl (HB0.out.later _) vqA rfl (by kernel_rfl) ?_) | (go_at_call 8; refine (Ret.later (KX.out _ (HL.out.ext (Later.h _)))).mono ?_; rintro x _ ⟨rfl, e, rfl⟩) | (clear tk4; refine wpList_row (by rfl) 29 _ rfl _ rfl (HB0.out.later _) vqA rfl (by kernel_rfl) ?_) | (go_at_call 9; refine (Ret.later (KB.out _ (HL.out.ext (Later.h _)))).mono ?_; rintro x _ ⟨rfl, e, rfl⟩) | (clear tk5; refine wpList_row (by rfl) 29 _ rfl _ rfl (HB0.out.later _) vqA rfl (by kernel_rfl) ?_) | (clear tka; go_at_call 10; refine (Ret.later (K10.out _ (HL.out.ext (Later.h _)))).mono ?_; rintro x _ ⟨rfl, e, rfl⟩))
  go_ret
  exact Ret.mk rfl (HE.out.trans e.h)
 | some i =>
 obtain ⟨nn, hnn⟩ : ∃ nn, 1 + lm % 40 = nn := ⟨_, rfl⟩
 have hst := St.limit hR hX (by omega) (by rw [hBB]; omega) h10 (n := nn) (by omega) (by omega)
 have hi := (firstOf_spec h10).1
 have HIK := hid hi
 have hI : firstI (tyB bs 10) k = (i : Int) := by unfold firstI; rw [h10]
 rw [hI] at K10
 have HNN := hid hnn
 have HST := hid hst
 have HKK : Hid (k <= 10) := hid (by omega)
 have HK0 : Hid (0 < k) := hid hbok.k0
 have HBD : Hid ((bs i).data.length <= 4100) := hid (hd i hi)
 have i0 : (0 : Int) <= (i : Int) := by omega
 have i1 : decide ((i : Int) < 0) = false := by simp
 have i2 : ((i : Int) < 0) = False := eq_false (by omega)
 have i3 : (i : Int) < (k : Int) := by omega
 have tc : decide (i < k) = true := by simp [hi]
 obtain ⟨b, o, rfl, hb, q0, q1, q2, q3, q4⟩ := HL.out.cells hi
 obtain ⟨x, hx⟩ : ∃ x, bs i = x := ⟨_, rfl⟩
 rw [hx] at q0 q1 q2 q3 q4
 have HX := hid hx
 clear hI h10 hst hR hX hBB hl hm hk10 hd hbok hnl hmk hnn hi hx hb
 go_upto_region 7 with (first | (go_at_call 5; refine (Ret.later (KA.out _)).mono ?_; rintro x _ ⟨rfl, e, rfl⟩) | (clear tk1; refine wpList_row (by rfl) 29 _ rfl _ rfl (HB0.out.later _) vqA rfl (by kernel_rfl) ?_) | (go_at_call 6; refine (Ret.later (KF.out _ (HL.out.ext (Later.h _)))).mono ?_; rintro x _ ⟨rfl, e, rfl⟩) | (clear tk2; refine wpList_row (by rfl) 29 _ rfl _ rfl (HB0.out.later _) vqA rfl (by kernel_rfl) ?_) | (go_at_call 7; refine (Ret.later (KR.out _ (HL.out.ext (Later.h _)))).mono ?_; rintro x _ ⟨rfl, e, rfl⟩) | (clear tk3; refine wpList_row (by rfl) 29 _ rfl _ rfl (HB0.out.later _) vqA rfl (by kernel_rfl) ?_) | (go_at_call 8; refine (Ret.later (KX.out _ (HL.out.ext (Later.h _)))).mono ?_; rintro x _ ⟨rfl, e, rfl⟩) | (clear tk4; refine wpList_row (by rfl) 29 _ rfl _ rfl (HB0.out.later _) vqA rfl (by kernel_rfl) ?_) | (go_at_call 9; refine (Ret.later (KB.out _ (HL.out.ext (Later.h _)))).mono ?_; rintro x _ ⟨rfl, e, rfl⟩) | (clear tk5; refine wpList_row (by rfl) 29 _ rfl _ rfl (HB0.out.later _) vqA rfl (by kernel_rfl) ?_) | (clear tka; go_at_call 10; refine (Ret.later (K10.out _ (HL.out.ext (Later.h _)))).mono ?_; rintro x _ ⟨rfl, e, rfl⟩))
 go_upto_region 8 with fail
 generalize hU1 : World.alloc e.x _ = U
 have HEU : Hid (Ext V U) := hid (by rw [<- hU1]; exact e.h.alloc _)
 have HXU : Hid (Blk U e.x.heap.size 38 (BV.c x)) := hid (by rw [<- hU1]; exact Blk.new _ _ _)
 have HNX : Hid (w.heap.size < e.x.heap.size) := hid (by have h1 := HB0.out.lt; have h2 := e.h.size; omega)
 clear hU1 q0 q1 q2 q3 q4
 generalize e.x.heap.size = xb at *
 have HBU := hid (HB0.out.ext HEU.out)
 have HWU := hid (HE.out.trans HEU.out)
 have HLU := hid (HL.out.ext HEU.out)
 clear HB0 HL HE HEU KA KF KR KX KB K10 l1 l2 l3 l4 o1 o2 o3 o4 u1 u2 u3 u4 b19 e
 obtain ⟨e, he⟩ := Later.self U
 rw [he]
 clear he
 have hq : (1 + (lm : Int) % 40) = (nn : Int) := by have := HNN.out; omega
 rw [hq]
 have HN0 : Hid (1 <= nn /\ nn <= 40) := hid (by have := HNN.out; omega)
 clear hq
 obtain ⟨D, hD⟩ : ∃ D, (130 : UInt8) :: (headL 0 nn ++ headL 0 0) = D := ⟨_, rfl⟩
 have KH : Hid (∀ W, Calls Tryz.prog 11 #[.int .i64 (nn : Int), .int .i64 0] W (Ret (str D) W)) := hid (fun W => by rw [<- hD]; exact r14Hops nn 0 (by have := HN0.out; omega) (by omega) W)
 have HST2 := hid HST.out
 rw [hD] at HST2
 clear HST
 obtain ⟨B0, hB0⟩ : ∃ B0, setP bs i D = B0 := ⟨_, rfl⟩
 rw [hB0] at HST2
 obtain ⟨X, hXX⟩ : ∃ X : BV, { x with data := D } = X := ⟨_, rfl⟩
 have HXE : Hid (BV.c X = (BV.c x).setIfInBounds 4 (str D)) := hid (by rw [<- hXX]; rfl)
 have KW : Hid (∀ W vb, BsL W (some ⟨b, o, none⟩) k bs -> Blk W vb 38 (BV.c X) -> Calls Tryz.prog 12 #[bunV p (some ⟨b, o, none⟩) k c, .int .i64 (i : Int), .int .i64 1, .slice (some ⟨vb, 0, none⟩) 1 1] W (fun e w' => ∃ zc A' c', Hid (bunC p A' k c' = zc) /\ e = .returned (.agg zc) /\ Ext W w' /\ Hid (BsL w' A' k B0))) := hid (fun W vb hW hv => by
  have hi := HIK.out
  refine (With_some p bs k c _ hS i 1 (by omega) 1 1 _ (fun _ => X) (one_SlA vb) (by omega) (by have := HKK.out; omega) (by omega) W hW (one_BsL hv)).mono fun e w' ⟨A', c', h1, h2, h3, _⟩ => ?_
  rw [show i + 1 + (k - (i + 1)) = k by omega] at h1 h3
  refine ⟨_, A', c', hid rfl, h1, h2, hid (h3.congr fun j hj => ?_)⟩
  rw [<- set_with bs k i X hi j hj, <- hB0, <- hXX, <- HX.out]
  rfl)
 have x4 : ∀ e : Later U, e.x.cell? ⟨xb, 4, none⟩ = some (str x.data) := HXU.out.cellL 4 rfl
 have x4f : ∀ e : Later U, e.x.frozen? ⟨xb, 4, none⟩ = false := fun e => (HXU.out.later e).frozen 4
 clear hD hB0 hXX hS
 go_upto_region 9 with (go_at_call 11; refine (Ret.later (KH.out _)).mono ?_; rintro x _ ⟨rfl, e, rfl⟩)
 generalize hY : World.setCell e.x _ _ = Y
 have HXY : Hid (Blk Y xb 38 (BV.c X)) := hid (by rw [<- hY, HXE.out]; exact (HXU.out.later e).set_ 4 (str D))
 have HBY : Hid (Blk Y w.heap.size 29 (bunC p (some ⟨b, o, none⟩) k c)) := hid (by rw [<- hY]; exact (HBU.out.later e).far (by have := HNX.out; simp; omega) _)
 have HWY : Hid (Ext w Y) := hid (by rw [<- hY]; exact (HWU.out.trans e.h).setCell (.inr (by have := HNX.out; simp; omega)) _)
 have HLY : Hid (BsL Y (some ⟨b, o, none⟩) k bs) := hid (HLW.out.ext HWY.out)
 clear hY HXU HBU HLU HWU x4 x4f e
 obtain ⟨e, he⟩ := Later.self Y
 rw [he]
 clear he
 have HVN := hid (Blk.new e.x 38 (BV.c X))
 have tk1 : True := trivial
 have tk2 : True := trivial
 go_upto_region 10 with (first | (clear tk1; refine wpList_row (by rfl) 29 _ rfl _ rfl (HBY.out.later _) vqA rfl (by kernel_rfl) ?_) | (clear tk2; refine wpList_row (by rfl) 38 _ rfl _ rfl (HXY.out.later _) vqI rfl (by kernel_rfl) ?_) | (go_at_call 12; refine (KW.out _ e.x.heap.size (HLY.out.ext (e.h.alloc _)) HVN.out).mono ?_; rintro y w5 ⟨zc, A2, c2, hz, rfl, hb5, hL5⟩; have HZC : Hid (ZX zc) := hid (by rw [<- hz.out]; exact ZX.mk' p A2 k c2); have HE5 := hid ((e.h.alloc _).trans hb5); have HB5 := hid (HBY.out.ext HE5.out); have HZE := hid hz.out; clear hz hb5) | (refine wpList_store_mid rfl 29 _ _ rfl w.heap.size 0 zc (by rfl) (by rfl) (HB5.out.there (by rw [HZC.out.s]; exact Nat.le_refl 20)) HZC.out.i HZC.out.o ?_))
 generalize hZ : World.setCells _ _ _ _ = Z
 have HBZ : Hid (Blk Z w.heap.size 29 zc) := hid (by rw [<- hZ]; exact setCells_all (ds := zc) HB5.out (by rw [Array.length_toList, HZC.out.s]; rfl))
 have HZX : Hid (Mod [w.heap.size] w5 Z) := hid (by rw [<- hZ]; exact setCells_mod _ _ (Mod.refl _ _) (.inl (by simp)))
 clear hZ
 have HLZ : Hid (BsL Z A2 k B0) := hid (hL5.out.modX HZX.out (BsL.apart hL5.out HB5.out HK0.out))
 have HWZ : Hid (Ext w Z) := hid (((HWY.out.trans HE5.out).of_ext.trans HZX.out).new (fun kk hkk => .inr (by simp at hkk; omega)))
 clear HZX HE5 HB5 hL5 HVN HXY HBY HWY HLY KW KH HXE
 generalize e.x.heap.size = vb0 at *
 have HLA : Hid (B0 (k - 1) = bs (k - 1)) := hid HST2.out.2.2
 obtain ⟨kk, hkk⟩ : ∃ kk, k = kk + 1 := ⟨k - 1, by have := HK0.out; omega⟩
 subst hkk
 have HZE2 := HZE
 have z19 : ∀ e : Later Z, e.x.cell? ⟨w.heap.size, 19, none⟩ = some (.slice A2 (kk + 1) c2) := fun e => by rw [(HBZ.out.later e).cell 19, <- HZE2.out]; rfl
 obtain ⟨b2, o2, rfl, hb2, r0, r1, r2, r3, r4⟩ := HLZ.out.cells (show kk < kk + 1 by omega)
 obtain ⟨pay, hpay⟩ : ∃ pay, B0 kk = pay := ⟨_, rfl⟩
 rw [hpay] at r0 r1 r2 r3 r4
 have HPA := hid hpay
 have kk0 : (0 : Int) <= (kk : Int) := by omega
 have kk1 : (kk : Int) <= 10 := by have := HKK.out; omega
 have tq : decide (kk < kk + 1) = true := by simp
 clear hb2 hpay
 obtain ⟨e, he⟩ := Later.self Z
 rw [he]
 clear he
 go_upto_region 11 with fail
 generalize hU2 : World.alloc e.x _ = Q
 have HPB : Hid (Blk Q e.x.heap.size 38 (BV.c pay)) := hid (by rw [<- hU2]; exact Blk.new _ _ _)
 have HZQ : Hid (Ext Z Q) := hid (by rw [<- hU2]; exact e.h.alloc _)
 have HNP : Hid (w.heap.size ≠ e.x.heap.size) := hid (by have h1 := HBZ.out.lt; have h2 := e.h.size; omega)
 clear hU2 r0 r1 r2 r3 r4 z19
 generalize e.x.heap.size = pb at *
 have HBQ := hid (HBZ.out.ext HZQ.out)
 have HLQ := hid (HLZ.out.ext HZQ.out)
 have HWQ := hid (HWZ.out.trans HZQ.out)
 clear HBZ HLZ HWZ HZQ e
 go_wp2_with fail
 go_loopw [11] (fun s11 wr => ∃ (j : Nat) (zc : Array Value) (A' : Option Addr) (k' c' : Nat) (bs' R' : Nat -> BV), j <= nn + 1 /\ s11 = .int .i64 (j : Int) /\ Hid (HpK p nn pay w.heap.size j wr zc A' k' c' bs' R') /\ Hid (Mod [w.heap.size] Q wr)) (fun s11 _ => nn + 2 - (intOf s11).toNat)
 case atStart => exact ⟨0, zc, _, kk + 1, c2, B0, bs, by omega, rfl, hid ⟨HZE.out, HBQ.out, HLQ.out, HST2.out.1, fun _ => HST2.out.2.1, HPA.out⟩, hid (Mod.refl _ _)⟩
 case round =>
  clear HST2 HPA HLA HZC HZE HZE2 HBQ HLQ
  obtain ⟨j, zc, A', k', c', bs', R', hj, rfl, hKK, hM⟩ := hrel
  rename World => wr
  have HZC : Hid (ZX zc) := hid (by rw [<- hKK.out.z]; exact ZX.mk' p A' k' c')
  have hn40 := HN0.out
  have j0 : (0 : Int) <= (j : Int) := by omega
  have j1 : (j : Int) <= 41 := by omega
  have HJ := hid hj
  by_cases hlt : j <= nn
  .
   have tc : decide (j <= nn) = true := by simp [hlt]
   have j2 : (j : Int) <= (nn : Int) := by omega
   have HLT := hid hlt
   clear hlt hj hn40
   go_upto_region 14 with fail
   go_cut [12] (fun s12 wx => ∃ g, s12 = .pointer (some ⟨g, 0, none⟩) /\ Hid (wr.heap.size <= g /\ Ext wr wx /\ Blk wx g 24 #[.int .i64 2, str [], .int .u64 (j : Int), .int .u64 0]))
   case first =>
    go_wp2_with fail
    go_meet
    exact ⟨_, rfl, hid ⟨Nat.le_refl _, (Mod.refl [] _).alloc _, Blk.new _ _ _⟩⟩
   obtain ⟨eb, rfl, hEB⟩ := hcut
   rename World => wA
   have HE0 : Hid (Ext wr wA) := hid hEB.out.2.1
   have HEB : Hid (Blk wA eb 24 #[.int .i64 2, str [], .int .u64 (j : Int), .int .u64 0]) := hid hEB.out.2.2
   have HNE : Hid (wr.heap.size <= eb /\ w.heap.size ≠ eb /\ pb ≠ eb) := hid ⟨hEB.out.1, by have h1 := hKK.out.b.lt; have h3 := hEB.out.1; omega, by have h2 := (HPB.out.mod hM.out (by simp; exact fun h => HNP.out h.symm)).lt; have h3 := hEB.out.1; omega⟩
   clear hEB
   go_step
   go_step
   go_cut [] (fun wx => Hid (∃ ev : EV, ev.ok = true /\ Blk wx eb 24 #[.int .i64 ev.sch, str ev.name, .int .u64 (ev.node : Int), .int .u64 (ev.svc : Int)] /\ Mod [eb] wA wx))
   case first =>
    rcases Nat.eq_zero_or_pos m with hm0 | hm0
    .
     subst hm0
     go_wp2_with fail
     go_meet
     exact hid ⟨⟨2, [], j, 0⟩, by unfold EV.ok; have := HLT.out; have := HN0.out; simp; omega, HEB.out, Mod.refl _ _⟩
    obtain ⟨r, hr⟩ : ∃ r, j % m = r := ⟨_, rfl⟩
    have hrm : r < m := by rw [<- hr]; exact Nat.mod_lt _ hm0
    have HEM : Hid (EsL wA Am m f) := hid (EsL.far HU.out (HWQ.out) (hM.out.trans (HE0.out.of_ext)) (fun b hb => by have e0 : b = w.heap.size := (by simpa using hb); rw [e0]; exact Nat.le_refl _))
    obtain ⟨b4, o4, hA4, hb4, hc4⟩ := HEM.out hm0
    obtain ⟨g0, g1, g2, g3⟩ := hc4 r hrm
    obtain ⟨ev, hev⟩ : ∃ ev, f r = ev := ⟨_, rfl⟩
    rw [hev] at g0 g1 g2 g3
    have e0 : ∀ e : Later wA, e.x.cell? ⟨b4, o4 + r * 4, none⟩ = some (.int .i64 ev.sch) := cellL g0
    have e1 : ∀ e : Later wA, e.x.cell? ⟨b4, o4 + r * 4 + 1, none⟩ = some (str ev.name) := cellL g1
    have e2 : ∀ e : Later wA, e.x.cell? ⟨b4, o4 + r * 4 + 2, none⟩ = some (.int .u64 (ev.node : Int)) := cellL g2
    have e3 : ∀ e : Later wA, e.x.cell? ⟨b4, o4 + r * 4 + 3, none⟩ = some (.int .u64 (ev.svc : Int)) := cellL g3
    have KR := hid (fun W => r10_any ev W)
    subst hA4
    have m0 : (0 : Int) < (m : Int) := by omega
    have m1 : (m : Int) <= 20 := by have := HM20.out; omega
    have m2 : decide (0 < m) = true := by simp [hm0]
    have m3 : (0 < m) = True := eq_true hm0
    have m4 : ((m : Int) == 0) = false := by rw [beq_eq_false_iff_ne]; omega
    have m5 : ((m : Int) = 0) = False := eq_false (by omega)
    have m6 : (m = 0) = False := eq_false (by omega)
    have hrI : (j : Int) % (m : Int) = (r : Int) := by rw [<- hr]; rfl
    have hrT : Int.tmod (j : Int) (m : Int) = (r : Int) := by rw [Int.tmod_eq_emod_of_nonneg (by omega)]; exact hrI
    have r0 : (0 : Int) <= (r : Int) := by omega
    have r1 : (r : Int) < (m : Int) := by omega
    have r2 : decide (r < m) = true := by simp [hrm]
    clear hr hrm g0 g1 g2 g3 hb4 hc4 hev hm0
    have HEBX := HEB
    obtain ⟨e, he⟩ := Later.self wA
    rw [he]
    clear he
    cases hok : ev.ok with
    | false =>
     rw [hok] at KR
     clear hok
     go_wp2_with (go_at_call 13; refine (Ret.later (KR.out _)).mono ?_; rintro x _ ⟨rfl, e, rfl⟩)
     go_meet
     exact hid ⟨⟨2, [], j, 0⟩, by unfold EV.ok; have := HLT.out; have := HN0.out; simp; omega, HEB.out.ext e.h, e.h.of_ext⟩
    | true =>
     rw [hok] at KR
     have HOK := hid hok
     clear hok
     go_upto_region 16 with (go_at_call 13; refine (Ret.later (KR.out _)).mono ?_; rintro x _ ⟨rfl, e, rfl⟩)
     obtain ⟨d0, d1, d2, d3⟩ : (e.x.cell? ⟨eb, 0, none⟩).isSome = true /\ (e.x.cell? ⟨eb, 1, none⟩).isSome = true /\ (e.x.cell? ⟨eb, 2, none⟩).isSome = true /\ (e.x.cell? ⟨eb, 3, none⟩).isSome = true := by
      have h := HEB.out.ext e.h
      rw [h.cell, h.cell, h.cell, h.cell]; simp
     have HTH : Hid (Blk e.x eb 24 #[.int .i64 2, str [], .int .u64 (j : Int), .int .u64 0]) := hid (HEB.out.ext e.h)
     go_wp2_with (refine wpList_store_mid rfl 24 _ _ rfl eb 0 #[.int .i64 ev.sch, str ev.name, .int .u64 (ev.node : Int), .int .u64 (ev.svc : Int)] (by rfl) (by rfl) (HTH.out.there (Nat.le_refl 4)) (by kernel_rfl) (by simp [Value.oneCell']) ?_)
     go_meet
     exact hid ⟨ev, HOK.out, setCells_all (ds := #[.int .i64 ev.sch, str ev.name, .int .u64 (ev.node : Int), .int .u64 (ev.svc : Int)]) HTH.out rfl, setCells_mod _ _ e.h.of_ext (.inl (by simp))⟩
   obtain ⟨ev, hok, hEV, hMV⟩ := hcut.out
   have HEV := hid hEV
   have HE1 : Hid (Ext wr wc) := hid ((HE0.out.of_ext.trans hMV).new (fun kk hkk => .inr (by have := HNE.out.1; simp at hkk; omega)))
   have HOKE := hid hok
   clear hcut hok hEV hMV HEB HE0
   rename World => W1
   go_upto_region 17 with fail
   have HBW : Hid (Blk W1 w.heap.size 29 zc) := hid (hKK.out.b.ext HE1.out)
   have HLW1 : Hid (BsL W1 A' k' bs') := hid (hKK.out.l.ext HE1.out)
   have hn40 := HN0.out
   have HOK : Hid (EV.ok ⟨ev.sch, ev.name, ev.node, ev.svc⟩ = true) := hid (HOKE.out)
   have HEBL : ∀ e : Later W1, Blk e.x eb 24 #[.int .i64 ev.sch, str ev.name, .int .u64 (ev.node : Int), .int .u64 (ev.svc : Int)] := fun e => HEV.out.later e
   have HBWL : ∀ e : Later W1, Blk e.x w.heap.size 29 zc := fun e => HBW.out.later e
   obtain ⟨e, he⟩ := Later.self W1
   rw [he]
   clear he
   have tk1 : True := trivial
   have tk2 : True := trivial
   by_cases hjn : j < nn
   .
    have KS0 : ∃ (B3 : Nat -> BV) (K3 : Nat) (R2 : Nat -> BV), St p R2 B3 (K3 + 1) /\ hopV B3 (K3 + 1) = some (nn, j + 1) /\ B3 K3 = pay /\ ∀ W, Ext W1 W -> Calls Tryz.prog 14 #[.agg zc, .agg #[.int .i64 ev.sch, str ev.name, .int .u64 (ev.node : Int), .int .u64 (ev.svc : Int)], .int .u64 (j : Int)] W (BunPost p B3 (K3 + 1) W) := by
     have hop := hKK.out.hop HLT.out
     obtain ⟨R2, hS⟩ := hKK.out.st.step (e := ⟨ev.sch, ev.name, ev.node, ev.svc⟩) HOK.out j (fun l n h => by rw [hop] at h; cases h; exact hjn)
     have hk0 := hS.k0
     obtain ⟨K3, hK3⟩ : ∃ K3, sentK bs' k' = K3 + 1 := ⟨sentK bs' k' - 1, by omega⟩
     refine ⟨bbS bs' k' (eidT ⟨ev.sch, ev.name, ev.node, ev.svc⟩).bytes j 3, K3, R2, by rw [<- hK3]; exact hS.s3, ?_, ?_, fun W hW => ?_⟩
     .
      rw [<- hK3]
      refine hS.hop.trans ?_
      rw [hop]; rfl
     .
      rw [show K3 = sentK bs' k' - 1 by omega]
      exact hS.la.trans hKK.out.la
     .
      have h := Step_ok p bs' R' k' c' A' HNL.out HF.out ev.sch ev.name ev.node ev.svc j (by omega) HOK.out hKK.out.st R2 hS (fun l n h => by rw [hop] at h; cases h; exact hjn) W (HLW1.out.ext hW)
      rw [show bunV p A' k' c' = .agg zc by rw [<- hKK.out.z], hK3] at h
      exact h
    obtain ⟨B3, K3, R2, hs3, hh3, hl3, hks⟩ := KS0
    have HS3 := hid hs3
    have HH3 := hid hh3
    have HL3 := hid hl3
    have KS := hid hks
    have tj1 : decide (j < nn) = true := by simp [hjn]
    have tj2 : (j : Int) < (nn : Int) := by omega
    have HJN := hid hjn
    clear hs3 hh3 hl3 hks hjn hn40
    go_upto_region 18 with (first | (clear tk1; refine wpList_row (by rfl) 29 _ rfl _ rfl (HBWL _) vqA rfl HZC.out.i ?_) | (clear tk2; refine wpList_row (by rfl) 24 _ rfl _ rfl (HEBL _) vqJ rfl (by kernel_rfl) ?_) | (go_at_call 14; refine (KS.out _ (Later.h _)).mono ?_; rintro y w3 ⟨zd, A2, c2, hz2, rfl, hb3, hL3⟩; have HZD : Hid (ZX zd) := hid (by rw [<- hz2.out]; exact ZX.mk' p A2 _ c2); have HE3 := hid (e.h.trans hb3); have HZ2 := hid hz2.out; clear hz2 hb3) | (refine wpList_store_mid rfl 29 _ _ rfl w3.heap.size 0 zd (by rfl) (by rfl) ((Blk.new _ _ _).there (by rw [HZD.out.s]; exact Nat.le_refl 20)) HZD.out.i HZD.out.o ?_))
    generalize hZ : World.setCells _ _ _ _ = Z1
    have HDZ : Hid (Blk Z1 w3.heap.size 29 zd) := hid (by rw [<- hZ]; exact setCells_all (ds := zd) (Blk.new _ _ _) (by rw [Array.length_toList, HZD.out.s]; rfl))
    have HZW : Hid (Ext W1 Z1) := hid (by rw [<- hZ]; exact setCells_mod _ _ (HE3.out.alloc _) (.inr HE3.out.size))
    have HZ3 : Hid (Ext w3 Z1) := hid (by rw [<- hZ]; exact setCells_mod _ _ ((Mod.refl [] _).alloc _) (.inr (Nat.le_refl _)))
    have HLZ := hid (hL3.out.ext HZ3.out)
    have HND : Hid (w.heap.size ≠ w3.heap.size) := hid (by have h1 := HBW.out.lt; have h2 := HE3.out.size; omega)
    clear hZ HZ3 hL3
    generalize w3.heap.size = db at *
    have HBZ := hid (HBW.out.ext HZW.out)
    have HPZ : Hid (Blk Z1 pb 38 (BV.c pay)) := hid ((HPB.out.mod hM.out (by simp; exact fun h => HNP.out h.symm)).ext (HE1.out.trans HZW.out))
    have z19 : Z1.cell? ⟨db, 19, none⟩ = some (.slice A2 (K3 + 1) c2) := by rw [HDZ.out.cell 19, <- HZ2.out]; rfl
    go_upto_region 21 with fail
    obtain ⟨b3, o3, rfl, hb3, hat⟩ := HLZ.out (by omega)
    have HAT : Hid (∀ e : Later Z1, e.x.rangeAt b3 (o3 + K3 * 5) (BV.c pay).toList) := hid (fun e => by
     obtain ⟨c0, c1, c2, c3, c4⟩ := (hat K3 (by omega)).mod e.h hb3 (by simp)
     rw [HL3.out] at c0 c1 c2 c3 c4
     exact range5 c0 c1 c2 c3 c4)
    have zz : ∀ e : Later Z1, e.x.cell? ⟨db, 19, none⟩ = some (.slice (some ⟨b3, o3, none⟩) (K3 + 1) c2) := fun e => (e.h.cell HDZ.out.lt (by simp)).trans z19
    have HDR : Hid (∀ e : Later Z1, e.x.rangeAt db 0 (PV.c p).toList) := hid (fun e => by
     have h := HDZ.out
     rw [<- HZ2] at h
     exact h.rangeE e.h 0 19 rfl)
    have HBR : Hid (∀ e : Later Z1, e.x.rangeAt w.heap.size 0 (PV.c p).toList) := hid (fun e => by
     have h := HBZ.out
     rw [<- hKK.out.z] at h
     exact h.rangeE e.h 0 19 rfl)
    have HPR : Hid (∀ e : Later Z1, Blk e.x pb 38 (BV.c pay)) := hid (fun e => HPZ.out.later e)
    have K30 : (0 : Int) <= (K3 : Int) := by omega
    have K31 : (K3 : Int) <= 16 := by have := HS3.out.ok.k16; omega
    have tk3 : decide (K3 < K3 + 1) = true := by simp
    have ke1 : (((K3 : Int) + 1) == 0) = false := by rw [beq_eq_false_iff_ne]; omega
    have ke2 : (((K3 : Int) + 1) = 0) = False := eq_false (by omega)
    have ke3 : ((((K3 + 1 : Nat) : Int)) == 0) = false := by rw [beq_eq_false_iff_ne]; omega
    have ke4 : decide (((K3 : Int) + 1) = 0) = false := decide_eq_false (by omega)
    have hnq := HNQ.out
    clear hat hb3 z19
    obtain ⟨e, he⟩ := Later.self Z1
    rw [he]
    clear he
    have ta : True := trivial
    have tb : True := trivial
    have tc9 : True := trivial
    have td : True := trivial
    refine wp_region_later (by kernel_rfl) (by kernel_rfl) ?_
    repeat (first | (clear ta; refine later_mid (by rfl) 38 _ rfl _ _ rfl _ _ HAT.out vqI rfl (by kernel_rfl) ?_; simp only [Act.put, List.setIfInBounds_toArray, List.set_cons_zero, List.set_cons_succ]) | (clear tb; refine later_row (by rfl) 38 _ rfl _ rfl HPR.out vqI rfl (by kernel_rfl) ?_; simp only [Act.put, List.setIfInBounds_toArray, List.set_cons_zero, List.set_cons_succ]) | (clear tc9; refine later_mid (by rfl) 26 _ rfl _ _ rfl _ _ HDR.out vqC rfl (by kernel_rfl) ?_; simp only [Act.put, List.setIfInBounds_toArray, List.set_cons_zero, List.set_cons_succ]) | (clear td; refine later_mid (by rfl) 26 _ rfl _ _ rfl _ _ HBR.out vqC rfl (by kernel_rfl) ?_; simp only [Act.put, List.setIfInBounds_toArray, List.set_cons_zero, List.set_cons_succ]) | go_big_quiet_step (fail))
    refine wpQuiet_nil ?_
    rintro _ ⟨e, rfl⟩
    have HDE : Hid (Blk e.x db 29 zd) := hid (HDZ.out.ext e.h)
    have HBE : Hid (Blk e.x w.heap.size 29 zc) := hid (HBZ.out.ext e.h)
    have HLE : Hid (BsL e.x (some ⟨b3, o3, none⟩) (K3 + 1) B3) := hid (HLZ.out.ext e.h)
    have tk1 : True := trivial
    go_upto_region 13 with (first | (clear tk1; refine wpList_row (by rfl) 29 _ rfl _ rfl HDE.out vqA rfl HZD.out.i ?_) | (refine wpList_store_mid rfl 29 _ _ rfl w.heap.size 0 zd (by rfl) (by rfl) (HBE.out.there (by rw [HZD.out.s, HZC.out.s]; exact Nat.le_refl 20)) HZD.out.i HZD.out.o ?_))
    generalize hZ : World.setCells _ _ _ _ = Z2
    have HCZ : Hid (Blk Z2 w.heap.size 29 zd) := hid (by rw [<- hZ]; exact setCells_all (ds := zd) HBE.out (by rw [Array.length_toList, HZD.out.s, HZC.out.s]))
    have HMZ : Hid (Mod [w.heap.size] e.x Z2) := hid (by rw [<- hZ]; exact setCells_mod _ _ (Mod.refl _ _) (.inl (by simp)))
    have HLZ2 : Hid (BsL Z2 (some ⟨b3, o3, none⟩) (K3 + 1) B3) := hid (HLE.out.modX HMZ.out (BsL.apart HLE.out (by have h := HBE.out; rw [<- hKK.out.z] at h; exact h) (by omega)))
    clear hZ
    go_wp2_with fail
    go_roundw
    case rel =>
     exact ⟨j + 1, zd, _, K3 + 1, c2, B3, R2, by have := HJN.out; omega, by go_num, hid ⟨HZ2, HCZ.out, HLZ2.out, HS3.out, fun _ => HH3.out, HL3.out⟩, hid ((hM.out.trans (((HE1.out.trans HZW.out).trans e.h).of_ext)).trans HMZ.out)⟩
    case measure => have := HLT.out; simp [intOf]; omega
   .
    have KS : Hid (∀ W, Ext W1 W -> Calls Tryz.prog 14 #[.agg zc, .agg #[.int .i64 ev.sch, str ev.name, .int .u64 (ev.node : Int), .int .u64 (ev.svc : Int)], .int .u64 (j : Int)] W (Ret (.tuple #[.agg zeroBun, .int .i64 12]) W)) := hid (fun W hW => by
     have h := Step_hops p bs' R' k' c' A' HNL.out HF.out ev.sch ev.name ev.node ev.svc j (by omega) HOK.out hKK.out.st ⟨nn, j, hKK.out.hop HLT.out, by omega⟩ W (HLW1.out.ext hW)
     rw [show bunV p A' k' c' = .agg zc by rw [<- hKK.out.z]] at h
     exact h)
    obtain ⟨zd, hzd⟩ : ∃ zd, zeroBun = zd := ⟨_, rfl⟩
    rw [hzd] at KS
    have HZD : Hid (ZX zd) := hid (by rw [<- hzd]; exact ZX_zero)
    clear hzd
    have HJE : Hid (j = nn) := hid (by have := HLT.out; omega)
    have tj1 : decide (j < nn) = false := decide_eq_false hjn
    have tj2 : ((j : Int) < (nn : Int)) = False := eq_false (by omega)
    have tj3 : decide ((j : Int) < (nn : Int)) = false := decide_eq_false (by omega)
    clear hjn hn40
    go_upto_region 18 with (first | (clear tk1; refine wpList_row (by rfl) 29 _ rfl _ rfl (HBWL _) vqA rfl HZC.out.i ?_) | (clear tk2; refine wpList_row (by rfl) 24 _ rfl _ rfl (HEBL _) vqJ rfl (by kernel_rfl) ?_) | (go_at_call 14; refine (Ret.later (KS.out _ (Later.h _))).mono ?_; rintro y _ ⟨rfl, e, rfl⟩) | (refine wpList_store_mid rfl 29 _ _ rfl e.x.heap.size 0 zd (by rfl) (by rfl) ((Blk.new _ _ _).there (by rw [HZD.out.s]; exact Nat.le_refl 20)) HZD.out.i HZD.out.o ?_))
    generalize hZ : World.setCells _ _ _ _ = Z1
    have HZW : Hid (Ext W1 Z1) := hid (by rw [<- hZ]; exact setCells_mod _ _ (e.h.alloc _) (.inr e.h.size))
    clear hZ
    go_wp2_with fail
    go_roundw
    case rel =>
     exact ⟨j + 1, zc, A', k', c', bs', R', by have := HLT.out; omega, by go_num, hid ⟨hKK.out.z, hKK.out.b.ext (HE1.out.trans HZW.out), hKK.out.l.ext (HE1.out.trans HZW.out), hKK.out.st, fun h => absurd h (by have := HJE.out; omega), hKK.out.la⟩, hid (hM.out.trans ((HE1.out.trans HZW.out).of_ext))⟩
    case measure => have := HLT.out; simp [intOf]; omega
  .
   have hjn : j = nn + 1 := by have := HJ.out; omega
   have tc : decide (j <= nn) = false := by simp; omega
   have tc2 : ((j : Int) <= (nn : Int)) = False := eq_false (by omega)
   have tc3 : decide ((j : Int) <= (nn : Int)) = false := by simp; omega
   clear hjn hlt hj hn40
   go_wp2_with fail
   go_ret
   exact Ret.mk rfl ((HWQ.out.of_ext.trans hM.out).new (fun kk hkk => .inr (by simp at hkk; omega)))
end Go.Proofs.YthecmnbkjchjmaaGreat
