/-
  The parts that a scope may cover, as the code reads them.
  What is signed, and what goes with what is sealed, as the code puts it together.
  What is signed, and what goes with what is sealed, as the code puts it together: of what is read.
  What is signed, as the reference puts it together: where something is wrong.
  What is signed, as the reference puts it together: where all is right.
  What is signed, and what goes with what is sealed: code and reference against one plain answer.
-/
import Derived.Test.YtkeabdfgacicaaaMScopeApartg

namespace Go.Proofs.Ytkeabdfgacicaaa
open Go.RowKit
set_option linter.unusedVariables false
set_option linter.unusedSimpArgs false

def hdr0 (b : BV) : List UInt8 := if b.right = 0 then b.hdr else []
theorem hdr0_any (b : BV) (w : World) : Calls Try.prog 58 #[b.v] w (Ret (.tuple #[str (hdr0 b), .int .i64 b.right]) w) := by
  unfold hdr0
  by_cases h : b.right = 0
  · rw [if_pos h, h]; exact hdr_call h w
  · rw [if_neg h]; exact cHeader_bad b h w
set_option maxRecDepth 20000 in
set_option maxHeartbeats 1000000 in
theorem sread_none (p : PV) (sec X : BV) (k c : Nat) (A : Option Addr) (target : Int) (ht : target ≠ 0) (w : World) (hG : ∀ W, Ext w W → Calls Try.prog 57 #[bunV p A k c, .int .i64 target] W (Ret (.tuple #[X.v, .bool false]) W)) :
    Calls Try.prog 31 #[bunV p A k c, .int .i64 target, sec.v] w (Ret (.tuple #[.agg #[.string ⟨#[]⟩, .string ⟨#[]⟩, .string ⟨#[]⟩, .string ⟨#[]⟩], .int .i64 15]) w) := by
  have ta : ((target) == (0)) = false := by rw [beq_eq_false_iff_ne]; exact ht
  have tb : ((target) = (0)) = False := eq_false (by exact ht)
  have tc : ((target) != (0)) = true := by rw [bne_iff_ne]; exact ht
  clear ht
  have HE := hid ((((Mod.refl [] w).alloc (.cells (bunC p A k c) 29)).alloc (.cells (BV.c sec) 32)).alloc (.cells #[.string ⟨#[]⟩, .string ⟨#[]⟩, .string ⟨#[]⟩, .string ⟨#[]⟩] 71))
  have HB := hid (((Blk.new w 29 (bunC p A k c)).alloc (.cells (BV.c sec) 32)).alloc (.cells #[.string ⟨#[]⟩, .string ⟨#[]⟩, .string ⟨#[]⟩, .string ⟨#[]⟩] 71))
  have HS := hid ((Blk.newL (w.alloc (.cells (bunC p A k c) 29)) 32 (BV.c sec) (N := w.heap.size + 1) (by simp)).alloc (.cells #[.string ⟨#[]⟩, .string ⟨#[]⟩, .string ⟨#[]⟩, .string ⟨#[]⟩] 71))
  have HP : Hid (Blk (((w.alloc (.cells (bunC p A k c) 29)).alloc (.cells (BV.c sec) 32)).alloc (.cells #[.string ⟨#[]⟩, .string ⟨#[]⟩, .string ⟨#[]⟩, .string ⟨#[]⟩] 71)) (w.heap.size + 2) 71 #[.string ⟨#[]⟩, .string ⟨#[]⟩, .string ⟨#[]⟩, .string ⟨#[]⟩]) := Blk.newL _ _ _ (by simp)
  have KG : Hid (∀ e : Later (((w.alloc (.cells (bunC p A k c) 29)).alloc (.cells (BV.c sec) 32)).alloc (.cells #[.string ⟨#[]⟩, .string ⟨#[]⟩, .string ⟨#[]⟩, .string ⟨#[]⟩] 71)), Calls Try.prog 57 #[bunV p A k c, .int .i64 target] e.x (Ret (.tuple #[X.v, .bool false]) e.x)) := fun e => hG e.x (HE.out.trans e.h)
  clear hG
  go_enter Try.func31, Try.ntmps31
  go_upto_region 1 with fail
  generalize (((w.alloc (.cells (bunC p A k c) 29)).alloc (.cells (BV.c sec) 32)).alloc (.cells #[.string ⟨#[]⟩, .string ⟨#[]⟩, .string ⟨#[]⟩, .string ⟨#[]⟩] 71)) = V0 at *
  obtain ⟨e, he⟩ := Later.self V0
  rw [he]
  clear he
  go_upto_region 2 with (first | (refine wpList_row (by rfl) 29 _ rfl _ rfl (HB.out.later _) Try.underlying29 rfl (by kernel_rfl) ?_) | (go_at_call 57; refine (Ret.later (KG.out _)).mono ?_; rintro x _ ⟨rfl, e, rfl⟩))
  generalize hU : World.alloc e.x _ = V1
  have HMU : Hid (Ext e.x V1) := hid (by rw [← hU]; exact (Mod.refl [] e.x).alloc _)
  have HX : Hid (Blk V1 e.x.heap.size 32 (BV.c X)) := hid (by rw [← hU]; exact Blk.new _ _ _)
  clear hU
  have hgx : Hid (w.heap.size + 3 ≤ e.x.heap.size) := hid (Nat.le_trans (Nat.succ_le_of_lt HP.out.lt) e.h.size)
  replace HB := hid ((HB.out.later e).ext HMU.out)
  replace HS := hid ((HS.out.later e).ext HMU.out)
  replace HP := hid ((HP.out.later e).ext HMU.out)
  replace HE := hid ((HE.out.trans e.h).trans HMU.out)
  clear HMU KG
  generalize e.x.heap.size = gx at *
  clear e
  have pc0 : ∀ e : Later V1, e.x.cell? ⟨w.heap.size + 2, 0, none⟩ = some (.string ⟨#[]⟩) := HP.out.cellL 0 rfl
  have pz0 : ∀ e : Later V1, e.x.frozen? ⟨w.heap.size + 2, 0, none⟩ = false := fun e => (HP.out.later e).frozen 0
  have pc1 : ∀ e : Later V1, e.x.cell? ⟨w.heap.size + 2, 1, none⟩ = some (.string ⟨#[]⟩) := HP.out.cellL 1 rfl
  have pz1 : ∀ e : Later V1, e.x.frozen? ⟨w.heap.size + 2, 1, none⟩ = false := fun e => (HP.out.later e).frozen 1
  have pc2 : ∀ e : Later V1, e.x.cell? ⟨w.heap.size + 2, 2, none⟩ = some (.string ⟨#[]⟩) := HP.out.cellL 2 rfl
  have pz2 : ∀ e : Later V1, e.x.frozen? ⟨w.heap.size + 2, 2, none⟩ = false := fun e => (HP.out.later e).frozen 2
  have pc3 : ∀ e : Later V1, e.x.cell? ⟨w.heap.size + 2, 3, none⟩ = some (.string ⟨#[]⟩) := HP.out.cellL 3 rfl
  have pz3 : ∀ e : Later V1, e.x.frozen? ⟨w.heap.size + 2, 3, none⟩ = false := fun e => (HP.out.later e).frozen 3
  have HPR : Hid (∀ e : Later V1, e.x.rangeAt w.heap.size 0 p.c.toList) := HB.out.range 0 19 (by rw [Array.toList_extract]; rfl)
  obtain ⟨e, he⟩ := Later.self V1
  rw [he]
  clear he
  go_wp2_with (first | (refine wpList_row (by rfl) 71 _ rfl _ rfl (HP.out.later _) Try.underlying71 rfl (by kernel_rfl) ?_) | (refine wpList_store_mid rfl 71 _ _ rfl (w.heap.size + 2) 0 #[.string ⟨#[]⟩, .string ⟨#[]⟩, .string ⟨#[]⟩, .string ⟨#[]⟩] (by rfl) (by rfl) ((HP.out.later _).there (Nat.le_refl 4)) (by kernel_rfl) (by simp [BV.c, Value.oneCell']) ?_))
  have HXX := setCells_all (ds := #[.string ⟨#[]⟩, .string ⟨#[]⟩, .string ⟨#[]⟩, .string ⟨#[]⟩]) (HP.out.later e) rfl
  have HM : Ext w (e.x.setCells (w.heap.size + 2) 0 (#[.string ⟨#[]⟩, .string ⟨#[]⟩, .string ⟨#[]⟩, .string ⟨#[]⟩] : Array Value).toList) := setCells_mod _ _ (HE.out.trans e.h) (.inr (by omega))
  refine bodyPost_ret (v := .tuple #[.agg #[.string ⟨#[]⟩, .string ⟨#[]⟩, .string ⟨#[]⟩, .string ⟨#[]⟩], .int .i64 (15)]) (results_cell2 Try.results31 _ rfl rfl HXX Try.underlying71 rfl (by kernel_rfl)) rfl (Ret.mk rfl HM)
set_option maxRecDepth 20000 in
set_option maxHeartbeats 1000000 in
theorem sread_pbad (p : PV) (sec X : BV) (k c : Nat) (A : Option Addr) (target : Int) (hnl : Hid (p.d.name.length < 4611686018427387904 ∧ p.s.name.length < 4611686018427387904 ∧ p.r.name.length < 4611686018427387904)) (hf : p.fl < 18446744073709551616) (hb : p.right ≠ 0) (ht : target ≠ 0) (w : World) (hG : ∀ W, Ext w W → Calls Try.prog 57 #[bunV p A k c, .int .i64 target] W (Ret (.tuple #[X.v, .bool true]) W)) :
    Calls Try.prog 31 #[bunV p A k c, .int .i64 target, sec.v] w (Ret (.tuple #[.agg #[.string ⟨#[]⟩, .string ⟨#[]⟩, .string ⟨#[]⟩, .string ⟨#[]⟩], .int .i64 p.right]) w) := by
  have KP := hid (fun W => cPriPlain_bad p hnl hf hb W)
  generalize p.right = r at *
  have ra : ((r) == (0)) = false := by rw [beq_eq_false_iff_ne]; exact hb
  have rb : ((r) = (0)) = False := eq_false (by exact hb)
  have rc : ((r) != (0)) = true := by rw [bne_iff_ne]; exact hb
  clear hb hf
  have ta : ((target) == (0)) = false := by rw [beq_eq_false_iff_ne]; exact ht
  have tb : ((target) = (0)) = False := eq_false (by exact ht)
  have tc : ((target) != (0)) = true := by rw [bne_iff_ne]; exact ht
  clear ht
  have HE := hid ((((Mod.refl [] w).alloc (.cells (bunC p A k c) 29)).alloc (.cells (BV.c sec) 32)).alloc (.cells #[.string ⟨#[]⟩, .string ⟨#[]⟩, .string ⟨#[]⟩, .string ⟨#[]⟩] 71))
  have HB := hid (((Blk.new w 29 (bunC p A k c)).alloc (.cells (BV.c sec) 32)).alloc (.cells #[.string ⟨#[]⟩, .string ⟨#[]⟩, .string ⟨#[]⟩, .string ⟨#[]⟩] 71))
  have HS := hid ((Blk.newL (w.alloc (.cells (bunC p A k c) 29)) 32 (BV.c sec) (N := w.heap.size + 1) (by simp)).alloc (.cells #[.string ⟨#[]⟩, .string ⟨#[]⟩, .string ⟨#[]⟩, .string ⟨#[]⟩] 71))
  have HP : Hid (Blk (((w.alloc (.cells (bunC p A k c) 29)).alloc (.cells (BV.c sec) 32)).alloc (.cells #[.string ⟨#[]⟩, .string ⟨#[]⟩, .string ⟨#[]⟩, .string ⟨#[]⟩] 71)) (w.heap.size + 2) 71 #[.string ⟨#[]⟩, .string ⟨#[]⟩, .string ⟨#[]⟩, .string ⟨#[]⟩]) := Blk.newL _ _ _ (by simp)
  have KG : Hid (∀ e : Later (((w.alloc (.cells (bunC p A k c) 29)).alloc (.cells (BV.c sec) 32)).alloc (.cells #[.string ⟨#[]⟩, .string ⟨#[]⟩, .string ⟨#[]⟩, .string ⟨#[]⟩] 71)), Calls Try.prog 57 #[bunV p A k c, .int .i64 target] e.x (Ret (.tuple #[X.v, .bool true]) e.x)) := fun e => hG e.x (HE.out.trans e.h)
  clear hG
  go_enter Try.func31, Try.ntmps31
  go_upto_region 1 with fail
  generalize (((w.alloc (.cells (bunC p A k c) 29)).alloc (.cells (BV.c sec) 32)).alloc (.cells #[.string ⟨#[]⟩, .string ⟨#[]⟩, .string ⟨#[]⟩, .string ⟨#[]⟩] 71)) = V0 at *
  obtain ⟨e, he⟩ := Later.self V0
  rw [he]
  clear he
  go_upto_region 2 with (first | (refine wpList_row (by rfl) 29 _ rfl _ rfl (HB.out.later _) Try.underlying29 rfl (by kernel_rfl) ?_) | (go_at_call 57; refine (Ret.later (KG.out _)).mono ?_; rintro x _ ⟨rfl, e, rfl⟩))
  generalize hU : World.alloc e.x _ = V1
  have HMU : Hid (Ext e.x V1) := hid (by rw [← hU]; exact (Mod.refl [] e.x).alloc _)
  have HX : Hid (Blk V1 e.x.heap.size 32 (BV.c X)) := hid (by rw [← hU]; exact Blk.new _ _ _)
  clear hU
  have hgx : Hid (w.heap.size + 3 ≤ e.x.heap.size) := hid (Nat.le_trans (Nat.succ_le_of_lt HP.out.lt) e.h.size)
  replace HB := hid ((HB.out.later e).ext HMU.out)
  replace HS := hid ((HS.out.later e).ext HMU.out)
  replace HP := hid ((HP.out.later e).ext HMU.out)
  replace HE := hid ((HE.out.trans e.h).trans HMU.out)
  clear HMU KG
  generalize e.x.heap.size = gx at *
  clear e
  have pc0 : ∀ e : Later V1, e.x.cell? ⟨w.heap.size + 2, 0, none⟩ = some (.string ⟨#[]⟩) := HP.out.cellL 0 rfl
  have pz0 : ∀ e : Later V1, e.x.frozen? ⟨w.heap.size + 2, 0, none⟩ = false := fun e => (HP.out.later e).frozen 0
  have pc1 : ∀ e : Later V1, e.x.cell? ⟨w.heap.size + 2, 1, none⟩ = some (.string ⟨#[]⟩) := HP.out.cellL 1 rfl
  have pz1 : ∀ e : Later V1, e.x.frozen? ⟨w.heap.size + 2, 1, none⟩ = false := fun e => (HP.out.later e).frozen 1
  have pc2 : ∀ e : Later V1, e.x.cell? ⟨w.heap.size + 2, 2, none⟩ = some (.string ⟨#[]⟩) := HP.out.cellL 2 rfl
  have pz2 : ∀ e : Later V1, e.x.frozen? ⟨w.heap.size + 2, 2, none⟩ = false := fun e => (HP.out.later e).frozen 2
  have pc3 : ∀ e : Later V1, e.x.cell? ⟨w.heap.size + 2, 3, none⟩ = some (.string ⟨#[]⟩) := HP.out.cellL 3 rfl
  have pz3 : ∀ e : Later V1, e.x.frozen? ⟨w.heap.size + 2, 3, none⟩ = false := fun e => (HP.out.later e).frozen 3
  have HPR : Hid (∀ e : Later V1, e.x.rangeAt w.heap.size 0 p.c.toList) := HB.out.range 0 19 (by rw [Array.toList_extract]; rfl)
  obtain ⟨e, he⟩ := Later.self V1
  rw [he]
  clear he
  go_upto_region 5 with (first | (refine wpList_mid (by rfl) 26 _ rfl _ 0 rfl _ _ (HPR.out _) Try.underlying26 rfl (by kernel_rfl) ?_) | (go_at_call 28; refine (Ret.later (KP.out _)).mono ?_; rintro x _ ⟨rfl, e, rfl⟩))
  clear pc0 pz0 pc1 pz1 pc2 pz2 pc3 pz3 HPR
  generalize hU : World.setCell _ _ _ = V2
  replace HB : Hid (Blk V2 w.heap.size 29 (bunC p A k c)) := hid (by rw [← hU]; exact (HB.out.later e).far (by simp <;> omega) _)
  replace HS : Hid (Blk V2 (w.heap.size + 1) 32 (BV.c sec)) := hid (by rw [← hU]; exact (HS.out.later e).far (by simp <;> omega) _)
  replace HX : Hid (Blk V2 gx 32 (BV.c X)) := hid (by rw [← hU]; exact (HX.out.later e).far (by have := hgx.out; simp <;> omega) _)
  replace HP : Hid (Blk V2 (w.heap.size + 2) 71 #[str [], .string ⟨#[]⟩, .string ⟨#[]⟩, .string ⟨#[]⟩]) := hid (by rw [← hU]; exact (HP.out.later e).set_ 0 (str []))
  replace HE : Hid (Ext w V2) := hid (by rw [← hU]; exact (HE.out.trans e.h).setCell (.inr (show w.heap.size ≤ w.heap.size + 2 by omega)) _)
  clear hU e
  have pc0 : ∀ e : Later V2, e.x.cell? ⟨w.heap.size + 2, 0, none⟩ = some (str []) := HP.out.cellL 0 rfl
  have pz0 : ∀ e : Later V2, e.x.frozen? ⟨w.heap.size + 2, 0, none⟩ = false := fun e => (HP.out.later e).frozen 0
  have pc1 : ∀ e : Later V2, e.x.cell? ⟨w.heap.size + 2, 1, none⟩ = some (.string ⟨#[]⟩) := HP.out.cellL 1 rfl
  have pz1 : ∀ e : Later V2, e.x.frozen? ⟨w.heap.size + 2, 1, none⟩ = false := fun e => (HP.out.later e).frozen 1
  have pc2 : ∀ e : Later V2, e.x.cell? ⟨w.heap.size + 2, 2, none⟩ = some (.string ⟨#[]⟩) := HP.out.cellL 2 rfl
  have pz2 : ∀ e : Later V2, e.x.frozen? ⟨w.heap.size + 2, 2, none⟩ = false := fun e => (HP.out.later e).frozen 2
  have pc3 : ∀ e : Later V2, e.x.cell? ⟨w.heap.size + 2, 3, none⟩ = some (.string ⟨#[]⟩) := HP.out.cellL 3 rfl
  have pz3 : ∀ e : Later V2, e.x.frozen? ⟨w.heap.size + 2, 3, none⟩ = false := fun e => (HP.out.later e).frozen 3
  have HPR : Hid (∀ e : Later V2, e.x.rangeAt w.heap.size 0 p.c.toList) := HB.out.range 0 19 (by rw [Array.toList_extract]; rfl)
  obtain ⟨e, he⟩ := Later.self V2
  rw [he]
  clear he
  go_wp2_with (first | (refine wpList_row (by rfl) 71 _ rfl _ rfl (HP.out.later _) Try.underlying71 rfl (by kernel_rfl) ?_) | (refine wpList_store_mid rfl 71 _ _ rfl (w.heap.size + 2) 0 #[str [], .string ⟨#[]⟩, .string ⟨#[]⟩, .string ⟨#[]⟩] (by rfl) (by rfl) ((HP.out.later _).there (Nat.le_refl 4)) (by kernel_rfl) (by simp [BV.c, Value.oneCell']) ?_))
  have HXX := setCells_all (ds := #[str [], .string ⟨#[]⟩, .string ⟨#[]⟩, .string ⟨#[]⟩]) (HP.out.later e) rfl
  have HM : Ext w (e.x.setCells (w.heap.size + 2) 0 (#[str [], .string ⟨#[]⟩, .string ⟨#[]⟩, .string ⟨#[]⟩] : Array Value).toList) := setCells_mod _ _ (HE.out.trans e.h) (.inr (by omega))
  refine bodyPost_ret (v := .tuple #[.agg #[str [], .string ⟨#[]⟩, .string ⟨#[]⟩, .string ⟨#[]⟩], .int .i64 (r)]) (results_cell2 Try.results31 _ rfl rfl HXX Try.underlying71 rfl (by kernel_rfl)) rfl (Ret.mk rfl HM)
set_option maxRecDepth 20000 in
set_option maxHeartbeats 1000000 in
theorem sread_pbad0 (p : PV) (sec X : BV) (k c : Nat) (A : Option Addr) (OK : Bool) (hnl : Hid (p.d.name.length < 4611686018427387904 ∧ p.s.name.length < 4611686018427387904 ∧ p.r.name.length < 4611686018427387904)) (hf : p.fl < 18446744073709551616) (hb : p.right ≠ 0)  (w : World) (hG : ∀ W, Ext w W → Calls Try.prog 57 #[bunV p A k c, .int .i64 0] W (Ret (.tuple #[X.v, .bool OK]) W)) :
    Calls Try.prog 31 #[bunV p A k c, .int .i64 0, sec.v] w (Ret (.tuple #[.agg #[.string ⟨#[]⟩, .string ⟨#[]⟩, .string ⟨#[]⟩, .string ⟨#[]⟩], .int .i64 p.right]) w) := by
  have KP := hid (fun W => cPriPlain_bad p hnl hf hb W)
  generalize p.right = r at *
  have ra : ((r) == (0)) = false := by rw [beq_eq_false_iff_ne]; exact hb
  have rb : ((r) = (0)) = False := eq_false (by exact hb)
  have rc : ((r) != (0)) = true := by rw [bne_iff_ne]; exact hb
  clear hb hf
  have HE := hid ((((Mod.refl [] w).alloc (.cells (bunC p A k c) 29)).alloc (.cells (BV.c sec) 32)).alloc (.cells #[.string ⟨#[]⟩, .string ⟨#[]⟩, .string ⟨#[]⟩, .string ⟨#[]⟩] 71))
  have HB := hid (((Blk.new w 29 (bunC p A k c)).alloc (.cells (BV.c sec) 32)).alloc (.cells #[.string ⟨#[]⟩, .string ⟨#[]⟩, .string ⟨#[]⟩, .string ⟨#[]⟩] 71))
  have HS := hid ((Blk.newL (w.alloc (.cells (bunC p A k c) 29)) 32 (BV.c sec) (N := w.heap.size + 1) (by simp)).alloc (.cells #[.string ⟨#[]⟩, .string ⟨#[]⟩, .string ⟨#[]⟩, .string ⟨#[]⟩] 71))
  have HP : Hid (Blk (((w.alloc (.cells (bunC p A k c) 29)).alloc (.cells (BV.c sec) 32)).alloc (.cells #[.string ⟨#[]⟩, .string ⟨#[]⟩, .string ⟨#[]⟩, .string ⟨#[]⟩] 71)) (w.heap.size + 2) 71 #[.string ⟨#[]⟩, .string ⟨#[]⟩, .string ⟨#[]⟩, .string ⟨#[]⟩]) := Blk.newL _ _ _ (by simp)
  have KG : Hid (∀ e : Later (((w.alloc (.cells (bunC p A k c) 29)).alloc (.cells (BV.c sec) 32)).alloc (.cells #[.string ⟨#[]⟩, .string ⟨#[]⟩, .string ⟨#[]⟩, .string ⟨#[]⟩] 71)), Calls Try.prog 57 #[bunV p A k c, .int .i64 0] e.x (Ret (.tuple #[X.v, .bool OK]) e.x)) := fun e => hG e.x (HE.out.trans e.h)
  clear hG
  go_enter Try.func31, Try.ntmps31
  go_upto_region 1 with fail
  generalize (((w.alloc (.cells (bunC p A k c) 29)).alloc (.cells (BV.c sec) 32)).alloc (.cells #[.string ⟨#[]⟩, .string ⟨#[]⟩, .string ⟨#[]⟩, .string ⟨#[]⟩] 71)) = V0 at *
  obtain ⟨e, he⟩ := Later.self V0
  rw [he]
  clear he
  go_upto_region 2 with (first | (refine wpList_row (by rfl) 29 _ rfl _ rfl (HB.out.later _) Try.underlying29 rfl (by kernel_rfl) ?_) | (go_at_call 57; refine (Ret.later (KG.out _)).mono ?_; rintro x _ ⟨rfl, e, rfl⟩))
  generalize hU : World.alloc e.x _ = V1
  have HMU : Hid (Ext e.x V1) := hid (by rw [← hU]; exact (Mod.refl [] e.x).alloc _)
  have HX : Hid (Blk V1 e.x.heap.size 32 (BV.c X)) := hid (by rw [← hU]; exact Blk.new _ _ _)
  clear hU
  have hgx : Hid (w.heap.size + 3 ≤ e.x.heap.size) := hid (Nat.le_trans (Nat.succ_le_of_lt HP.out.lt) e.h.size)
  replace HB := hid ((HB.out.later e).ext HMU.out)
  replace HS := hid ((HS.out.later e).ext HMU.out)
  replace HP := hid ((HP.out.later e).ext HMU.out)
  replace HE := hid ((HE.out.trans e.h).trans HMU.out)
  clear HMU KG
  generalize e.x.heap.size = gx at *
  clear e
  have pc0 : ∀ e : Later V1, e.x.cell? ⟨w.heap.size + 2, 0, none⟩ = some (.string ⟨#[]⟩) := HP.out.cellL 0 rfl
  have pz0 : ∀ e : Later V1, e.x.frozen? ⟨w.heap.size + 2, 0, none⟩ = false := fun e => (HP.out.later e).frozen 0
  have pc1 : ∀ e : Later V1, e.x.cell? ⟨w.heap.size + 2, 1, none⟩ = some (.string ⟨#[]⟩) := HP.out.cellL 1 rfl
  have pz1 : ∀ e : Later V1, e.x.frozen? ⟨w.heap.size + 2, 1, none⟩ = false := fun e => (HP.out.later e).frozen 1
  have pc2 : ∀ e : Later V1, e.x.cell? ⟨w.heap.size + 2, 2, none⟩ = some (.string ⟨#[]⟩) := HP.out.cellL 2 rfl
  have pz2 : ∀ e : Later V1, e.x.frozen? ⟨w.heap.size + 2, 2, none⟩ = false := fun e => (HP.out.later e).frozen 2
  have pc3 : ∀ e : Later V1, e.x.cell? ⟨w.heap.size + 2, 3, none⟩ = some (.string ⟨#[]⟩) := HP.out.cellL 3 rfl
  have pz3 : ∀ e : Later V1, e.x.frozen? ⟨w.heap.size + 2, 3, none⟩ = false := fun e => (HP.out.later e).frozen 3
  have HPR : Hid (∀ e : Later V1, e.x.rangeAt w.heap.size 0 p.c.toList) := HB.out.range 0 19 (by rw [Array.toList_extract]; rfl)
  obtain ⟨e, he⟩ := Later.self V1
  rw [he]
  clear he
  go_upto_region 5 with (first | (refine wpList_mid (by rfl) 26 _ rfl _ 0 rfl _ _ (HPR.out _) Try.underlying26 rfl (by kernel_rfl) ?_) | (go_at_call 28; refine (Ret.later (KP.out _)).mono ?_; rintro x _ ⟨rfl, e, rfl⟩))
  clear pc0 pz0 pc1 pz1 pc2 pz2 pc3 pz3 HPR
  generalize hU : World.setCell _ _ _ = V2
  replace HB : Hid (Blk V2 w.heap.size 29 (bunC p A k c)) := hid (by rw [← hU]; exact (HB.out.later e).far (by simp <;> omega) _)
  replace HS : Hid (Blk V2 (w.heap.size + 1) 32 (BV.c sec)) := hid (by rw [← hU]; exact (HS.out.later e).far (by simp <;> omega) _)
  replace HX : Hid (Blk V2 gx 32 (BV.c X)) := hid (by rw [← hU]; exact (HX.out.later e).far (by have := hgx.out; simp <;> omega) _)
  replace HP : Hid (Blk V2 (w.heap.size + 2) 71 #[str [], .string ⟨#[]⟩, .string ⟨#[]⟩, .string ⟨#[]⟩]) := hid (by rw [← hU]; exact (HP.out.later e).set_ 0 (str []))
  replace HE : Hid (Ext w V2) := hid (by rw [← hU]; exact (HE.out.trans e.h).setCell (.inr (show w.heap.size ≤ w.heap.size + 2 by omega)) _)
  clear hU e
  have pc0 : ∀ e : Later V2, e.x.cell? ⟨w.heap.size + 2, 0, none⟩ = some (str []) := HP.out.cellL 0 rfl
  have pz0 : ∀ e : Later V2, e.x.frozen? ⟨w.heap.size + 2, 0, none⟩ = false := fun e => (HP.out.later e).frozen 0
  have pc1 : ∀ e : Later V2, e.x.cell? ⟨w.heap.size + 2, 1, none⟩ = some (.string ⟨#[]⟩) := HP.out.cellL 1 rfl
  have pz1 : ∀ e : Later V2, e.x.frozen? ⟨w.heap.size + 2, 1, none⟩ = false := fun e => (HP.out.later e).frozen 1
  have pc2 : ∀ e : Later V2, e.x.cell? ⟨w.heap.size + 2, 2, none⟩ = some (.string ⟨#[]⟩) := HP.out.cellL 2 rfl
  have pz2 : ∀ e : Later V2, e.x.frozen? ⟨w.heap.size + 2, 2, none⟩ = false := fun e => (HP.out.later e).frozen 2
  have pc3 : ∀ e : Later V2, e.x.cell? ⟨w.heap.size + 2, 3, none⟩ = some (.string ⟨#[]⟩) := HP.out.cellL 3 rfl
  have pz3 : ∀ e : Later V2, e.x.frozen? ⟨w.heap.size + 2, 3, none⟩ = false := fun e => (HP.out.later e).frozen 3
  have HPR : Hid (∀ e : Later V2, e.x.rangeAt w.heap.size 0 p.c.toList) := HB.out.range 0 19 (by rw [Array.toList_extract]; rfl)
  obtain ⟨e, he⟩ := Later.self V2
  rw [he]
  clear he
  go_wp2_with (first | (refine wpList_row (by rfl) 71 _ rfl _ rfl (HP.out.later _) Try.underlying71 rfl (by kernel_rfl) ?_) | (refine wpList_store_mid rfl 71 _ _ rfl (w.heap.size + 2) 0 #[str [], .string ⟨#[]⟩, .string ⟨#[]⟩, .string ⟨#[]⟩] (by rfl) (by rfl) ((HP.out.later _).there (Nat.le_refl 4)) (by kernel_rfl) (by simp [BV.c, Value.oneCell']) ?_))
  have HXX := setCells_all (ds := #[str [], .string ⟨#[]⟩, .string ⟨#[]⟩, .string ⟨#[]⟩]) (HP.out.later e) rfl
  have HM : Ext w (e.x.setCells (w.heap.size + 2) 0 (#[str [], .string ⟨#[]⟩, .string ⟨#[]⟩, .string ⟨#[]⟩] : Array Value).toList) := setCells_mod _ _ (HE.out.trans e.h) (.inr (by omega))
  refine bodyPost_ret (v := .tuple #[.agg #[str [], .string ⟨#[]⟩, .string ⟨#[]⟩, .string ⟨#[]⟩], .int .i64 (r)]) (results_cell2 Try.results31 _ rfl rfl HXX Try.underlying71 rfl (by kernel_rfl)) rfl (Ret.mk rfl HM)
set_option maxRecDepth 20000 in
set_option maxHeartbeats 1000000 in
theorem sread_xbad (p : PV) (sec X : BV) (k c : Nat) (A : Option Addr) (target : Int) (hnl : Hid (p.d.name.length < 4611686018427387904 ∧ p.s.name.length < 4611686018427387904 ∧ p.r.name.length < 4611686018427387904)) (hf : p.fl < 18446744073709551616) (hb : p.right = 0) (hx : X.right ≠ 0) (ht : target ≠ 0) (w : World) (hG : ∀ W, Ext w W → Calls Try.prog 57 #[bunV p A k c, .int .i64 target] W (Ret (.tuple #[X.v, .bool true]) W)) :
    Calls Try.prog 31 #[bunV p A k c, .int .i64 target, sec.v] w (Ret (.tuple #[.agg #[str p.plain.bytes, str [], str [], str p.plain.bytes], .int .i64 X.right]) w) := by
  have KP := hid (fun W => cPriPlain_ok p hnl hf hb W)
  generalize p.plain.bytes = B at *
  have KX := hid (fun W => cHeader_bad X hx W)
  generalize X.right = r at *
  have ra : ((r) == (0)) = false := by rw [beq_eq_false_iff_ne]; exact hx
  have rb : ((r) = (0)) = False := eq_false (by exact hx)
  have rc : ((r) != (0)) = true := by rw [bne_iff_ne]; exact hx
  have ta : ((target) == (0)) = false := by rw [beq_eq_false_iff_ne]; exact ht
  have tb : ((target) = (0)) = False := eq_false (by exact ht)
  have tc : ((target) != (0)) = true := by rw [bne_iff_ne]; exact ht
  clear hx ht hb hf
  have HE := hid ((((Mod.refl [] w).alloc (.cells (bunC p A k c) 29)).alloc (.cells (BV.c sec) 32)).alloc (.cells #[.string ⟨#[]⟩, .string ⟨#[]⟩, .string ⟨#[]⟩, .string ⟨#[]⟩] 71))
  have HB := hid (((Blk.new w 29 (bunC p A k c)).alloc (.cells (BV.c sec) 32)).alloc (.cells #[.string ⟨#[]⟩, .string ⟨#[]⟩, .string ⟨#[]⟩, .string ⟨#[]⟩] 71))
  have HS := hid ((Blk.newL (w.alloc (.cells (bunC p A k c) 29)) 32 (BV.c sec) (N := w.heap.size + 1) (by simp)).alloc (.cells #[.string ⟨#[]⟩, .string ⟨#[]⟩, .string ⟨#[]⟩, .string ⟨#[]⟩] 71))
  have HP : Hid (Blk (((w.alloc (.cells (bunC p A k c) 29)).alloc (.cells (BV.c sec) 32)).alloc (.cells #[.string ⟨#[]⟩, .string ⟨#[]⟩, .string ⟨#[]⟩, .string ⟨#[]⟩] 71)) (w.heap.size + 2) 71 #[.string ⟨#[]⟩, .string ⟨#[]⟩, .string ⟨#[]⟩, .string ⟨#[]⟩]) := Blk.newL _ _ _ (by simp)
  have KG : Hid (∀ e : Later (((w.alloc (.cells (bunC p A k c) 29)).alloc (.cells (BV.c sec) 32)).alloc (.cells #[.string ⟨#[]⟩, .string ⟨#[]⟩, .string ⟨#[]⟩, .string ⟨#[]⟩] 71)), Calls Try.prog 57 #[bunV p A k c, .int .i64 target] e.x (Ret (.tuple #[X.v, .bool true]) e.x)) := fun e => hG e.x (HE.out.trans e.h)
  clear hG
  go_enter Try.func31, Try.ntmps31
  go_upto_region 1 with fail
  generalize (((w.alloc (.cells (bunC p A k c) 29)).alloc (.cells (BV.c sec) 32)).alloc (.cells #[.string ⟨#[]⟩, .string ⟨#[]⟩, .string ⟨#[]⟩, .string ⟨#[]⟩] 71)) = V0 at *
  obtain ⟨e, he⟩ := Later.self V0
  rw [he]
  clear he
  go_upto_region 2 with (first | (refine wpList_row (by rfl) 29 _ rfl _ rfl (HB.out.later _) Try.underlying29 rfl (by kernel_rfl) ?_) | (go_at_call 57; refine (Ret.later (KG.out _)).mono ?_; rintro x _ ⟨rfl, e, rfl⟩))
  generalize hU : World.alloc e.x _ = V1
  have HMU : Hid (Ext e.x V1) := hid (by rw [← hU]; exact (Mod.refl [] e.x).alloc _)
  have HX : Hid (Blk V1 e.x.heap.size 32 (BV.c X)) := hid (by rw [← hU]; exact Blk.new _ _ _)
  clear hU
  have hgx : Hid (w.heap.size + 3 ≤ e.x.heap.size) := hid (Nat.le_trans (Nat.succ_le_of_lt HP.out.lt) e.h.size)
  replace HB := hid ((HB.out.later e).ext HMU.out)
  replace HS := hid ((HS.out.later e).ext HMU.out)
  replace HP := hid ((HP.out.later e).ext HMU.out)
  replace HE := hid ((HE.out.trans e.h).trans HMU.out)
  clear HMU KG
  generalize e.x.heap.size = gx at *
  clear e
  have pc0 : ∀ e : Later V1, e.x.cell? ⟨w.heap.size + 2, 0, none⟩ = some (.string ⟨#[]⟩) := HP.out.cellL 0 rfl
  have pz0 : ∀ e : Later V1, e.x.frozen? ⟨w.heap.size + 2, 0, none⟩ = false := fun e => (HP.out.later e).frozen 0
  have pc1 : ∀ e : Later V1, e.x.cell? ⟨w.heap.size + 2, 1, none⟩ = some (.string ⟨#[]⟩) := HP.out.cellL 1 rfl
  have pz1 : ∀ e : Later V1, e.x.frozen? ⟨w.heap.size + 2, 1, none⟩ = false := fun e => (HP.out.later e).frozen 1
  have pc2 : ∀ e : Later V1, e.x.cell? ⟨w.heap.size + 2, 2, none⟩ = some (.string ⟨#[]⟩) := HP.out.cellL 2 rfl
  have pz2 : ∀ e : Later V1, e.x.frozen? ⟨w.heap.size + 2, 2, none⟩ = false := fun e => (HP.out.later e).frozen 2
  have pc3 : ∀ e : Later V1, e.x.cell? ⟨w.heap.size + 2, 3, none⟩ = some (.string ⟨#[]⟩) := HP.out.cellL 3 rfl
  have pz3 : ∀ e : Later V1, e.x.frozen? ⟨w.heap.size + 2, 3, none⟩ = false := fun e => (HP.out.later e).frozen 3
  have HPR : Hid (∀ e : Later V1, e.x.rangeAt w.heap.size 0 p.c.toList) := HB.out.range 0 19 (by rw [Array.toList_extract]; rfl)
  obtain ⟨e, he⟩ := Later.self V1
  rw [he]
  clear he
  go_upto_region 5 with (first | (refine wpList_mid (by rfl) 26 _ rfl _ 0 rfl _ _ (HPR.out _) Try.underlying26 rfl (by kernel_rfl) ?_) | (go_at_call 28; refine (Ret.later (KP.out _)).mono ?_; rintro x _ ⟨rfl, e, rfl⟩))
  clear pc0 pz0 pc1 pz1 pc2 pz2 pc3 pz3 HPR
  generalize hU : World.setCell _ _ _ = V2
  replace HB : Hid (Blk V2 w.heap.size 29 (bunC p A k c)) := hid (by rw [← hU]; exact (HB.out.later e).far (by simp <;> omega) _)
  replace HS : Hid (Blk V2 (w.heap.size + 1) 32 (BV.c sec)) := hid (by rw [← hU]; exact (HS.out.later e).far (by simp <;> omega) _)
  replace HX : Hid (Blk V2 gx 32 (BV.c X)) := hid (by rw [← hU]; exact (HX.out.later e).far (by have := hgx.out; simp <;> omega) _)
  replace HP : Hid (Blk V2 (w.heap.size + 2) 71 #[str B, .string ⟨#[]⟩, .string ⟨#[]⟩, .string ⟨#[]⟩]) := hid (by rw [← hU]; exact (HP.out.later e).set_ 0 (str B))
  replace HE : Hid (Ext w V2) := hid (by rw [← hU]; exact (HE.out.trans e.h).setCell (.inr (show w.heap.size ≤ w.heap.size + 2 by omega)) _)
  clear hU e
  have pc0 : ∀ e : Later V2, e.x.cell? ⟨w.heap.size + 2, 0, none⟩ = some (str B) := HP.out.cellL 0 rfl
  have pz0 : ∀ e : Later V2, e.x.frozen? ⟨w.heap.size + 2, 0, none⟩ = false := fun e => (HP.out.later e).frozen 0
  have pc1 : ∀ e : Later V2, e.x.cell? ⟨w.heap.size + 2, 1, none⟩ = some (.string ⟨#[]⟩) := HP.out.cellL 1 rfl
  have pz1 : ∀ e : Later V2, e.x.frozen? ⟨w.heap.size + 2, 1, none⟩ = false := fun e => (HP.out.later e).frozen 1
  have pc2 : ∀ e : Later V2, e.x.cell? ⟨w.heap.size + 2, 2, none⟩ = some (.string ⟨#[]⟩) := HP.out.cellL 2 rfl
  have pz2 : ∀ e : Later V2, e.x.frozen? ⟨w.heap.size + 2, 2, none⟩ = false := fun e => (HP.out.later e).frozen 2
  have pc3 : ∀ e : Later V2, e.x.cell? ⟨w.heap.size + 2, 3, none⟩ = some (.string ⟨#[]⟩) := HP.out.cellL 3 rfl
  have pz3 : ∀ e : Later V2, e.x.frozen? ⟨w.heap.size + 2, 3, none⟩ = false := fun e => (HP.out.later e).frozen 3
  have HPR : Hid (∀ e : Later V2, e.x.rangeAt w.heap.size 0 p.c.toList) := HB.out.range 0 19 (by rw [Array.toList_extract]; rfl)
  obtain ⟨e, he⟩ := Later.self V2
  rw [he]
  clear he
  go_upto_region 8 with fail
  clear pc0 pz0 pc1 pz1 pc2 pz2 pc3 pz3 HPR
  generalize hU : World.setCell _ _ _ = V3
  replace HB : Hid (Blk V3 w.heap.size 29 (bunC p A k c)) := hid (by rw [← hU]; exact (HB.out.later e).far (by simp <;> omega) _)
  replace HS : Hid (Blk V3 (w.heap.size + 1) 32 (BV.c sec)) := hid (by rw [← hU]; exact (HS.out.later e).far (by simp <;> omega) _)
  replace HX : Hid (Blk V3 gx 32 (BV.c X)) := hid (by rw [← hU]; exact (HX.out.later e).far (by have := hgx.out; simp <;> omega) _)
  replace HP : Hid (Blk V3 (w.heap.size + 2) 71 #[str B, .string ⟨#[]⟩, .string ⟨#[]⟩, str B]) := hid (by rw [← hU]; exact (HP.out.later e).set_ 3 (str B))
  replace HE : Hid (Ext w V3) := hid (by rw [← hU]; exact (HE.out.trans e.h).setCell (.inr (show w.heap.size ≤ w.heap.size + 2 by omega)) _)
  clear hU e
  have pc0 : ∀ e : Later V3, e.x.cell? ⟨w.heap.size + 2, 0, none⟩ = some (str B) := HP.out.cellL 0 rfl
  have pz0 : ∀ e : Later V3, e.x.frozen? ⟨w.heap.size + 2, 0, none⟩ = false := fun e => (HP.out.later e).frozen 0
  have pc1 : ∀ e : Later V3, e.x.cell? ⟨w.heap.size + 2, 1, none⟩ = some (.string ⟨#[]⟩) := HP.out.cellL 1 rfl
  have pz1 : ∀ e : Later V3, e.x.frozen? ⟨w.heap.size + 2, 1, none⟩ = false := fun e => (HP.out.later e).frozen 1
  have pc2 : ∀ e : Later V3, e.x.cell? ⟨w.heap.size + 2, 2, none⟩ = some (.string ⟨#[]⟩) := HP.out.cellL 2 rfl
  have pz2 : ∀ e : Later V3, e.x.frozen? ⟨w.heap.size + 2, 2, none⟩ = false := fun e => (HP.out.later e).frozen 2
  have pc3 : ∀ e : Later V3, e.x.cell? ⟨w.heap.size + 2, 3, none⟩ = some (str B) := HP.out.cellL 3 rfl
  have pz3 : ∀ e : Later V3, e.x.frozen? ⟨w.heap.size + 2, 3, none⟩ = false := fun e => (HP.out.later e).frozen 3
  have HPR : Hid (∀ e : Later V3, e.x.rangeAt w.heap.size 0 p.c.toList) := HB.out.range 0 19 (by rw [Array.toList_extract]; rfl)
  obtain ⟨e, he⟩ := Later.self V3
  rw [he]
  clear he
  go_upto_region 10 with (first | (refine wpList_row (by rfl) 32 _ rfl _ rfl (HX.out.later _) Try.underlying32 rfl (by kernel_rfl) ?_) | (go_at_call 58; refine (Ret.later (KX.out _)).mono ?_; rintro x _ ⟨rfl, e, rfl⟩))
  clear pc0 pz0 pc1 pz1 pc2 pz2 pc3 pz3 HPR
  generalize hU : World.setCell _ _ _ = V4
  replace HB : Hid (Blk V4 w.heap.size 29 (bunC p A k c)) := hid (by rw [← hU]; exact (HB.out.later e).far (by simp <;> omega) _)
  replace HS : Hid (Blk V4 (w.heap.size + 1) 32 (BV.c sec)) := hid (by rw [← hU]; exact (HS.out.later e).far (by simp <;> omega) _)
  replace HX : Hid (Blk V4 gx 32 (BV.c X)) := hid (by rw [← hU]; exact (HX.out.later e).far (by have := hgx.out; simp <;> omega) _)
  replace HP : Hid (Blk V4 (w.heap.size + 2) 71 #[str B, str [], .string ⟨#[]⟩, str B]) := hid (by rw [← hU]; exact (HP.out.later e).set_ 1 (str []))
  replace HE : Hid (Ext w V4) := hid (by rw [← hU]; exact (HE.out.trans e.h).setCell (.inr (show w.heap.size ≤ w.heap.size + 2 by omega)) _)
  clear hU e
  have pc0 : ∀ e : Later V4, e.x.cell? ⟨w.heap.size + 2, 0, none⟩ = some (str B) := HP.out.cellL 0 rfl
  have pz0 : ∀ e : Later V4, e.x.frozen? ⟨w.heap.size + 2, 0, none⟩ = false := fun e => (HP.out.later e).frozen 0
  have pc1 : ∀ e : Later V4, e.x.cell? ⟨w.heap.size + 2, 1, none⟩ = some (str []) := HP.out.cellL 1 rfl
  have pz1 : ∀ e : Later V4, e.x.frozen? ⟨w.heap.size + 2, 1, none⟩ = false := fun e => (HP.out.later e).frozen 1
  have pc2 : ∀ e : Later V4, e.x.cell? ⟨w.heap.size + 2, 2, none⟩ = some (.string ⟨#[]⟩) := HP.out.cellL 2 rfl
  have pz2 : ∀ e : Later V4, e.x.frozen? ⟨w.heap.size + 2, 2, none⟩ = false := fun e => (HP.out.later e).frozen 2
  have pc3 : ∀ e : Later V4, e.x.cell? ⟨w.heap.size + 2, 3, none⟩ = some (str B) := HP.out.cellL 3 rfl
  have pz3 : ∀ e : Later V4, e.x.frozen? ⟨w.heap.size + 2, 3, none⟩ = false := fun e => (HP.out.later e).frozen 3
  have HPR : Hid (∀ e : Later V4, e.x.rangeAt w.heap.size 0 p.c.toList) := HB.out.range 0 19 (by rw [Array.toList_extract]; rfl)
  obtain ⟨e, he⟩ := Later.self V4
  rw [he]
  clear he
  go_wp2_with (first | (refine wpList_row (by rfl) 71 _ rfl _ rfl (HP.out.later _) Try.underlying71 rfl (by kernel_rfl) ?_) | (refine wpList_store_mid rfl 71 _ _ rfl (w.heap.size + 2) 0 #[str B, str [], .string ⟨#[]⟩, str B] (by rfl) (by rfl) ((HP.out.later _).there (Nat.le_refl 4)) (by kernel_rfl) (by simp [BV.c, Value.oneCell']) ?_))
  have HXX := setCells_all (ds := #[str B, str [], .string ⟨#[]⟩, str B]) (HP.out.later e) rfl
  have HM : Ext w (e.x.setCells (w.heap.size + 2) 0 (#[str B, str [], .string ⟨#[]⟩, str B] : Array Value).toList) := setCells_mod _ _ (HE.out.trans e.h) (.inr (by omega))
  refine bodyPost_ret (v := .tuple #[.agg #[str B, str [], .string ⟨#[]⟩, str B], .int .i64 (r)]) (results_cell2 Try.results31 _ rfl rfl HXX Try.underlying71 rfl (by kernel_rfl)) rfl (Ret.mk rfl HM)
set_option maxRecDepth 20000 in
set_option maxHeartbeats 1000000 in
theorem sread_zero (p : PV) (sec X : BV) (k c : Nat) (A : Option Addr) (OK : Bool) (hnl : Hid (p.d.name.length < 4611686018427387904 ∧ p.s.name.length < 4611686018427387904 ∧ p.r.name.length < 4611686018427387904)) (hf : p.fl < 18446744073709551616) (hb : p.right = 0) (w : World) (hG : ∀ W, Ext w W → Calls Try.prog 57 #[bunV p A k c, .int .i64 0] W (Ret (.tuple #[X.v, .bool OK]) W)) :
    Calls Try.prog 31 #[bunV p A k c, .int .i64 0, sec.v] w (Ret (.tuple #[.agg #[str p.plain.bytes, str [], str (hdr0 sec), str p.plain.bytes], .int .i64 sec.right]) w) := by
  have KP := hid (fun W => cPriPlain_ok p hnl hf hb W)
  generalize p.plain.bytes = B at *
  have KS := hid (fun W => hdr0_any sec W)
  generalize hdr0 sec = HD at *
  generalize sec.right = r at *
  clear hb hf
  have HE := hid ((((Mod.refl [] w).alloc (.cells (bunC p A k c) 29)).alloc (.cells (BV.c sec) 32)).alloc (.cells #[.string ⟨#[]⟩, .string ⟨#[]⟩, .string ⟨#[]⟩, .string ⟨#[]⟩] 71))
  have HB := hid (((Blk.new w 29 (bunC p A k c)).alloc (.cells (BV.c sec) 32)).alloc (.cells #[.string ⟨#[]⟩, .string ⟨#[]⟩, .string ⟨#[]⟩, .string ⟨#[]⟩] 71))
  have HS := hid ((Blk.newL (w.alloc (.cells (bunC p A k c) 29)) 32 (BV.c sec) (N := w.heap.size + 1) (by simp)).alloc (.cells #[.string ⟨#[]⟩, .string ⟨#[]⟩, .string ⟨#[]⟩, .string ⟨#[]⟩] 71))
  have HP : Hid (Blk (((w.alloc (.cells (bunC p A k c) 29)).alloc (.cells (BV.c sec) 32)).alloc (.cells #[.string ⟨#[]⟩, .string ⟨#[]⟩, .string ⟨#[]⟩, .string ⟨#[]⟩] 71)) (w.heap.size + 2) 71 #[.string ⟨#[]⟩, .string ⟨#[]⟩, .string ⟨#[]⟩, .string ⟨#[]⟩]) := Blk.newL _ _ _ (by simp)
  have KG : Hid (∀ e : Later (((w.alloc (.cells (bunC p A k c) 29)).alloc (.cells (BV.c sec) 32)).alloc (.cells #[.string ⟨#[]⟩, .string ⟨#[]⟩, .string ⟨#[]⟩, .string ⟨#[]⟩] 71)), Calls Try.prog 57 #[bunV p A k c, .int .i64 0] e.x (Ret (.tuple #[X.v, .bool OK]) e.x)) := fun e => hG e.x (HE.out.trans e.h)
  clear hG
  go_enter Try.func31, Try.ntmps31
  go_upto_region 1 with fail
  generalize (((w.alloc (.cells (bunC p A k c) 29)).alloc (.cells (BV.c sec) 32)).alloc (.cells #[.string ⟨#[]⟩, .string ⟨#[]⟩, .string ⟨#[]⟩, .string ⟨#[]⟩] 71)) = V0 at *
  obtain ⟨e, he⟩ := Later.self V0
  rw [he]
  clear he
  go_upto_region 2 with (first | (refine wpList_row (by rfl) 29 _ rfl _ rfl (HB.out.later _) Try.underlying29 rfl (by kernel_rfl) ?_) | (go_at_call 57; refine (Ret.later (KG.out _)).mono ?_; rintro x _ ⟨rfl, e, rfl⟩))
  generalize hU : World.alloc e.x _ = V1
  have HMU : Hid (Ext e.x V1) := hid (by rw [← hU]; exact (Mod.refl [] e.x).alloc _)
  have HX : Hid (Blk V1 e.x.heap.size 32 (BV.c X)) := hid (by rw [← hU]; exact Blk.new _ _ _)
  clear hU
  have hgx : Hid (w.heap.size + 3 ≤ e.x.heap.size) := hid (Nat.le_trans (Nat.succ_le_of_lt HP.out.lt) e.h.size)
  replace HB := hid ((HB.out.later e).ext HMU.out)
  replace HS := hid ((HS.out.later e).ext HMU.out)
  replace HP := hid ((HP.out.later e).ext HMU.out)
  replace HE := hid ((HE.out.trans e.h).trans HMU.out)
  clear HMU KG
  generalize e.x.heap.size = gx at *
  clear e
  have pc0 : ∀ e : Later V1, e.x.cell? ⟨w.heap.size + 2, 0, none⟩ = some (.string ⟨#[]⟩) := HP.out.cellL 0 rfl
  have pz0 : ∀ e : Later V1, e.x.frozen? ⟨w.heap.size + 2, 0, none⟩ = false := fun e => (HP.out.later e).frozen 0
  have pc1 : ∀ e : Later V1, e.x.cell? ⟨w.heap.size + 2, 1, none⟩ = some (.string ⟨#[]⟩) := HP.out.cellL 1 rfl
  have pz1 : ∀ e : Later V1, e.x.frozen? ⟨w.heap.size + 2, 1, none⟩ = false := fun e => (HP.out.later e).frozen 1
  have pc2 : ∀ e : Later V1, e.x.cell? ⟨w.heap.size + 2, 2, none⟩ = some (.string ⟨#[]⟩) := HP.out.cellL 2 rfl
  have pz2 : ∀ e : Later V1, e.x.frozen? ⟨w.heap.size + 2, 2, none⟩ = false := fun e => (HP.out.later e).frozen 2
  have pc3 : ∀ e : Later V1, e.x.cell? ⟨w.heap.size + 2, 3, none⟩ = some (.string ⟨#[]⟩) := HP.out.cellL 3 rfl
  have pz3 : ∀ e : Later V1, e.x.frozen? ⟨w.heap.size + 2, 3, none⟩ = false := fun e => (HP.out.later e).frozen 3
  have HPR : Hid (∀ e : Later V1, e.x.rangeAt w.heap.size 0 p.c.toList) := HB.out.range 0 19 (by rw [Array.toList_extract]; rfl)
  obtain ⟨e, he⟩ := Later.self V1
  rw [he]
  clear he
  go_upto_region 5 with (first | (refine wpList_mid (by rfl) 26 _ rfl _ 0 rfl _ _ (HPR.out _) Try.underlying26 rfl (by kernel_rfl) ?_) | (go_at_call 28; refine (Ret.later (KP.out _)).mono ?_; rintro x _ ⟨rfl, e, rfl⟩))
  clear pc0 pz0 pc1 pz1 pc2 pz2 pc3 pz3 HPR
  generalize hU : World.setCell _ _ _ = V2
  replace HB : Hid (Blk V2 w.heap.size 29 (bunC p A k c)) := hid (by rw [← hU]; exact (HB.out.later e).far (by simp <;> omega) _)
  replace HS : Hid (Blk V2 (w.heap.size + 1) 32 (BV.c sec)) := hid (by rw [← hU]; exact (HS.out.later e).far (by simp <;> omega) _)
  replace HX : Hid (Blk V2 gx 32 (BV.c X)) := hid (by rw [← hU]; exact (HX.out.later e).far (by have := hgx.out; simp <;> omega) _)
  replace HP : Hid (Blk V2 (w.heap.size + 2) 71 #[str B, .string ⟨#[]⟩, .string ⟨#[]⟩, .string ⟨#[]⟩]) := hid (by rw [← hU]; exact (HP.out.later e).set_ 0 (str B))
  replace HE : Hid (Ext w V2) := hid (by rw [← hU]; exact (HE.out.trans e.h).setCell (.inr (show w.heap.size ≤ w.heap.size + 2 by omega)) _)
  clear hU e
  have pc0 : ∀ e : Later V2, e.x.cell? ⟨w.heap.size + 2, 0, none⟩ = some (str B) := HP.out.cellL 0 rfl
  have pz0 : ∀ e : Later V2, e.x.frozen? ⟨w.heap.size + 2, 0, none⟩ = false := fun e => (HP.out.later e).frozen 0
  have pc1 : ∀ e : Later V2, e.x.cell? ⟨w.heap.size + 2, 1, none⟩ = some (.string ⟨#[]⟩) := HP.out.cellL 1 rfl
  have pz1 : ∀ e : Later V2, e.x.frozen? ⟨w.heap.size + 2, 1, none⟩ = false := fun e => (HP.out.later e).frozen 1
  have pc2 : ∀ e : Later V2, e.x.cell? ⟨w.heap.size + 2, 2, none⟩ = some (.string ⟨#[]⟩) := HP.out.cellL 2 rfl
  have pz2 : ∀ e : Later V2, e.x.frozen? ⟨w.heap.size + 2, 2, none⟩ = false := fun e => (HP.out.later e).frozen 2
  have pc3 : ∀ e : Later V2, e.x.cell? ⟨w.heap.size + 2, 3, none⟩ = some (.string ⟨#[]⟩) := HP.out.cellL 3 rfl
  have pz3 : ∀ e : Later V2, e.x.frozen? ⟨w.heap.size + 2, 3, none⟩ = false := fun e => (HP.out.later e).frozen 3
  have HPR : Hid (∀ e : Later V2, e.x.rangeAt w.heap.size 0 p.c.toList) := HB.out.range 0 19 (by rw [Array.toList_extract]; rfl)
  obtain ⟨e, he⟩ := Later.self V2
  rw [he]
  clear he
  go_upto_region 8 with fail
  clear pc0 pz0 pc1 pz1 pc2 pz2 pc3 pz3 HPR
  generalize hU : World.setCell _ _ _ = V3
  replace HB : Hid (Blk V3 w.heap.size 29 (bunC p A k c)) := hid (by rw [← hU]; exact (HB.out.later e).far (by simp <;> omega) _)
  replace HS : Hid (Blk V3 (w.heap.size + 1) 32 (BV.c sec)) := hid (by rw [← hU]; exact (HS.out.later e).far (by simp <;> omega) _)
  replace HX : Hid (Blk V3 gx 32 (BV.c X)) := hid (by rw [← hU]; exact (HX.out.later e).far (by have := hgx.out; simp <;> omega) _)
  replace HP : Hid (Blk V3 (w.heap.size + 2) 71 #[str B, .string ⟨#[]⟩, .string ⟨#[]⟩, str B]) := hid (by rw [← hU]; exact (HP.out.later e).set_ 3 (str B))
  replace HE : Hid (Ext w V3) := hid (by rw [← hU]; exact (HE.out.trans e.h).setCell (.inr (show w.heap.size ≤ w.heap.size + 2 by omega)) _)
  clear hU e
  have pc0 : ∀ e : Later V3, e.x.cell? ⟨w.heap.size + 2, 0, none⟩ = some (str B) := HP.out.cellL 0 rfl
  have pz0 : ∀ e : Later V3, e.x.frozen? ⟨w.heap.size + 2, 0, none⟩ = false := fun e => (HP.out.later e).frozen 0
  have pc1 : ∀ e : Later V3, e.x.cell? ⟨w.heap.size + 2, 1, none⟩ = some (.string ⟨#[]⟩) := HP.out.cellL 1 rfl
  have pz1 : ∀ e : Later V3, e.x.frozen? ⟨w.heap.size + 2, 1, none⟩ = false := fun e => (HP.out.later e).frozen 1
  have pc2 : ∀ e : Later V3, e.x.cell? ⟨w.heap.size + 2, 2, none⟩ = some (.string ⟨#[]⟩) := HP.out.cellL 2 rfl
  have pz2 : ∀ e : Later V3, e.x.frozen? ⟨w.heap.size + 2, 2, none⟩ = false := fun e => (HP.out.later e).frozen 2
  have pc3 : ∀ e : Later V3, e.x.cell? ⟨w.heap.size + 2, 3, none⟩ = some (str B) := HP.out.cellL 3 rfl
  have pz3 : ∀ e : Later V3, e.x.frozen? ⟨w.heap.size + 2, 3, none⟩ = false := fun e => (HP.out.later e).frozen 3
  have HPR : Hid (∀ e : Later V3, e.x.rangeAt w.heap.size 0 p.c.toList) := HB.out.range 0 19 (by rw [Array.toList_extract]; rfl)
  obtain ⟨e, he⟩ := Later.self V3
  rw [he]
  clear he
  go_upto_region 14 with (first | (refine wpList_row (by rfl) 32 _ rfl _ rfl (HS.out.later _) Try.underlying32 rfl (by kernel_rfl) ?_) | (go_at_call 58; refine (Ret.later (KS.out _)).mono ?_; rintro x _ ⟨rfl, e, rfl⟩))
  clear pc0 pz0 pc1 pz1 pc2 pz2 pc3 pz3 HPR
  generalize hU : World.setCell _ _ _ = V4
  replace HB : Hid (Blk V4 w.heap.size 29 (bunC p A k c)) := hid (by rw [← hU]; exact (HB.out.later e).far (by simp <;> omega) _)
  replace HS : Hid (Blk V4 (w.heap.size + 1) 32 (BV.c sec)) := hid (by rw [← hU]; exact (HS.out.later e).far (by simp <;> omega) _)
  replace HX : Hid (Blk V4 gx 32 (BV.c X)) := hid (by rw [← hU]; exact (HX.out.later e).far (by have := hgx.out; simp <;> omega) _)
  replace HP : Hid (Blk V4 (w.heap.size + 2) 71 #[str B, .string ⟨#[]⟩, str HD, str B]) := hid (by rw [← hU]; exact (HP.out.later e).set_ 2 (str HD))
  replace HE : Hid (Ext w V4) := hid (by rw [← hU]; exact (HE.out.trans e.h).setCell (.inr (show w.heap.size ≤ w.heap.size + 2 by omega)) _)
  clear hU e
  have pc0 : ∀ e : Later V4, e.x.cell? ⟨w.heap.size + 2, 0, none⟩ = some (str B) := HP.out.cellL 0 rfl
  have pz0 : ∀ e : Later V4, e.x.frozen? ⟨w.heap.size + 2, 0, none⟩ = false := fun e => (HP.out.later e).frozen 0
  have pc1 : ∀ e : Later V4, e.x.cell? ⟨w.heap.size + 2, 1, none⟩ = some (.string ⟨#[]⟩) := HP.out.cellL 1 rfl
  have pz1 : ∀ e : Later V4, e.x.frozen? ⟨w.heap.size + 2, 1, none⟩ = false := fun e => (HP.out.later e).frozen 1
  have pc2 : ∀ e : Later V4, e.x.cell? ⟨w.heap.size + 2, 2, none⟩ = some (str HD) := HP.out.cellL 2 rfl
  have pz2 : ∀ e : Later V4, e.x.frozen? ⟨w.heap.size + 2, 2, none⟩ = false := fun e => (HP.out.later e).frozen 2
  have pc3 : ∀ e : Later V4, e.x.cell? ⟨w.heap.size + 2, 3, none⟩ = some (str B) := HP.out.cellL 3 rfl
  have pz3 : ∀ e : Later V4, e.x.frozen? ⟨w.heap.size + 2, 3, none⟩ = false := fun e => (HP.out.later e).frozen 3
  have HPR : Hid (∀ e : Later V4, e.x.rangeAt w.heap.size 0 p.c.toList) := HB.out.range 0 19 (by rw [Array.toList_extract]; rfl)
  obtain ⟨e, he⟩ := Later.self V4
  rw [he]
  clear he
  go_wp2_with (first | (refine wpList_row (by rfl) 71 _ rfl _ rfl (HP.out.later _) Try.underlying71 rfl (by kernel_rfl) ?_) | (refine wpList_store_mid rfl 71 _ _ rfl (w.heap.size + 2) 0 #[str B, .string ⟨#[]⟩, str HD, str B] (by rfl) (by rfl) ((HP.out.later _).there (Nat.le_refl 4)) (by kernel_rfl) (by simp [BV.c, Value.oneCell']) ?_))
  have HXX := setCells_all (ds := #[str B, .string ⟨#[]⟩, str HD, str B]) (HP.out.later e) rfl
  have HM : Ext w (e.x.setCells (w.heap.size + 2) 0 (#[str B, .string ⟨#[]⟩, str HD, str B] : Array Value).toList) := setCells_mod _ _ (HE.out.trans e.h) (.inr (by omega))
  refine bodyPost_ret (v := .tuple #[.agg #[str B, .string ⟨#[]⟩, str HD, str B], .int .i64 (r)]) (results_cell2 Try.results31 _ rfl rfl HXX Try.underlying71 rfl (by kernel_rfl)) rfl (Ret.mk rfl HM)
set_option maxRecDepth 20000 in
set_option maxHeartbeats 1000000 in
theorem sread_tgt (p : PV) (sec X : BV) (k c : Nat) (A : Option Addr) (target : Int) (hnl : Hid (p.d.name.length < 4611686018427387904 ∧ p.s.name.length < 4611686018427387904 ∧ p.r.name.length < 4611686018427387904)) (hf : p.fl < 18446744073709551616) (hb : p.right = 0) (hx : X.right = 0) (hd : Hid (X.data.length < 4611686018427387904)) (ht : target ≠ 0) (w : World) (hG : ∀ W, Ext w W → Calls Try.prog 57 #[bunV p A k c, .int .i64 target] W (Ret (.tuple #[X.v, .bool true]) W)) :
    Calls Try.prog 31 #[bunV p A k c, .int .i64 target, sec.v] w (Ret (.tuple #[.agg #[str p.plain.bytes, str X.hdr, str (hdr0 sec), str (headL 2 X.data.length ++ X.data)], .int .i64 sec.right]) w) := by
  have KP := hid (fun W => cPriPlain_ok p hnl hf hb W)
  generalize p.plain.bytes = B at *
  have KS := hid (fun W => hdr0_any sec W)
  generalize hdr0 sec = HD at *
  generalize sec.right = r at *
  have KX := hid (fun W => hdr_call hx W)
  have KB := hid (fun W => wBytes_any X.data hd W)
  generalize headL 2 X.data.length ++ X.data = D at *
  generalize X.hdr = HX1 at *
  have ta : ((target) == (0)) = false := by rw [beq_eq_false_iff_ne]; exact ht
  have tb : ((target) = (0)) = False := eq_false (by exact ht)
  have tc : ((target) != (0)) = true := by rw [bne_iff_ne]; exact ht
  clear hx ht hb hf
  have HE := hid ((((Mod.refl [] w).alloc (.cells (bunC p A k c) 29)).alloc (.cells (BV.c sec) 32)).alloc (.cells #[.string ⟨#[]⟩, .string ⟨#[]⟩, .string ⟨#[]⟩, .string ⟨#[]⟩] 71))
  have HB := hid (((Blk.new w 29 (bunC p A k c)).alloc (.cells (BV.c sec) 32)).alloc (.cells #[.string ⟨#[]⟩, .string ⟨#[]⟩, .string ⟨#[]⟩, .string ⟨#[]⟩] 71))
  have HS := hid ((Blk.newL (w.alloc (.cells (bunC p A k c) 29)) 32 (BV.c sec) (N := w.heap.size + 1) (by simp)).alloc (.cells #[.string ⟨#[]⟩, .string ⟨#[]⟩, .string ⟨#[]⟩, .string ⟨#[]⟩] 71))
  have HP : Hid (Blk (((w.alloc (.cells (bunC p A k c) 29)).alloc (.cells (BV.c sec) 32)).alloc (.cells #[.string ⟨#[]⟩, .string ⟨#[]⟩, .string ⟨#[]⟩, .string ⟨#[]⟩] 71)) (w.heap.size + 2) 71 #[.string ⟨#[]⟩, .string ⟨#[]⟩, .string ⟨#[]⟩, .string ⟨#[]⟩]) := Blk.newL _ _ _ (by simp)
  have KG : Hid (∀ e : Later (((w.alloc (.cells (bunC p A k c) 29)).alloc (.cells (BV.c sec) 32)).alloc (.cells #[.string ⟨#[]⟩, .string ⟨#[]⟩, .string ⟨#[]⟩, .string ⟨#[]⟩] 71)), Calls Try.prog 57 #[bunV p A k c, .int .i64 target] e.x (Ret (.tuple #[X.v, .bool true]) e.x)) := fun e => hG e.x (HE.out.trans e.h)
  clear hG
  go_enter Try.func31, Try.ntmps31
  go_upto_region 1 with fail
  generalize (((w.alloc (.cells (bunC p A k c) 29)).alloc (.cells (BV.c sec) 32)).alloc (.cells #[.string ⟨#[]⟩, .string ⟨#[]⟩, .string ⟨#[]⟩, .string ⟨#[]⟩] 71)) = V0 at *
  obtain ⟨e, he⟩ := Later.self V0
  rw [he]
  clear he
  go_upto_region 2 with (first | (refine wpList_row (by rfl) 29 _ rfl _ rfl (HB.out.later _) Try.underlying29 rfl (by kernel_rfl) ?_) | (go_at_call 57; refine (Ret.later (KG.out _)).mono ?_; rintro x _ ⟨rfl, e, rfl⟩))
  generalize hU : World.alloc e.x _ = V1
  have HMU : Hid (Ext e.x V1) := hid (by rw [← hU]; exact (Mod.refl [] e.x).alloc _)
  have HX : Hid (Blk V1 e.x.heap.size 32 (BV.c X)) := hid (by rw [← hU]; exact Blk.new _ _ _)
  clear hU
  have hgx : Hid (w.heap.size + 3 ≤ e.x.heap.size) := hid (Nat.le_trans (Nat.succ_le_of_lt HP.out.lt) e.h.size)
  replace HB := hid ((HB.out.later e).ext HMU.out)
  replace HS := hid ((HS.out.later e).ext HMU.out)
  replace HP := hid ((HP.out.later e).ext HMU.out)
  replace HE := hid ((HE.out.trans e.h).trans HMU.out)
  clear HMU KG
  generalize e.x.heap.size = gx at *
  clear e
  have pc0 : ∀ e : Later V1, e.x.cell? ⟨w.heap.size + 2, 0, none⟩ = some (.string ⟨#[]⟩) := HP.out.cellL 0 rfl
  have pz0 : ∀ e : Later V1, e.x.frozen? ⟨w.heap.size + 2, 0, none⟩ = false := fun e => (HP.out.later e).frozen 0
  have pc1 : ∀ e : Later V1, e.x.cell? ⟨w.heap.size + 2, 1, none⟩ = some (.string ⟨#[]⟩) := HP.out.cellL 1 rfl
  have pz1 : ∀ e : Later V1, e.x.frozen? ⟨w.heap.size + 2, 1, none⟩ = false := fun e => (HP.out.later e).frozen 1
  have pc2 : ∀ e : Later V1, e.x.cell? ⟨w.heap.size + 2, 2, none⟩ = some (.string ⟨#[]⟩) := HP.out.cellL 2 rfl
  have pz2 : ∀ e : Later V1, e.x.frozen? ⟨w.heap.size + 2, 2, none⟩ = false := fun e => (HP.out.later e).frozen 2
  have pc3 : ∀ e : Later V1, e.x.cell? ⟨w.heap.size + 2, 3, none⟩ = some (.string ⟨#[]⟩) := HP.out.cellL 3 rfl
  have pz3 : ∀ e : Later V1, e.x.frozen? ⟨w.heap.size + 2, 3, none⟩ = false := fun e => (HP.out.later e).frozen 3
  have HPR : Hid (∀ e : Later V1, e.x.rangeAt w.heap.size 0 p.c.toList) := HB.out.range 0 19 (by rw [Array.toList_extract]; rfl)
  obtain ⟨e, he⟩ := Later.self V1
  rw [he]
  clear he
  go_upto_region 5 with (first | (refine wpList_mid (by rfl) 26 _ rfl _ 0 rfl _ _ (HPR.out _) Try.underlying26 rfl (by kernel_rfl) ?_) | (go_at_call 28; refine (Ret.later (KP.out _)).mono ?_; rintro x _ ⟨rfl, e, rfl⟩))
  clear pc0 pz0 pc1 pz1 pc2 pz2 pc3 pz3 HPR
  generalize hU : World.setCell _ _ _ = V2
  replace HB : Hid (Blk V2 w.heap.size 29 (bunC p A k c)) := hid (by rw [← hU]; exact (HB.out.later e).far (by simp <;> omega) _)
  replace HS : Hid (Blk V2 (w.heap.size + 1) 32 (BV.c sec)) := hid (by rw [← hU]; exact (HS.out.later e).far (by simp <;> omega) _)
  replace HX : Hid (Blk V2 gx 32 (BV.c X)) := hid (by rw [← hU]; exact (HX.out.later e).far (by have := hgx.out; simp <;> omega) _)
  replace HP : Hid (Blk V2 (w.heap.size + 2) 71 #[str B, .string ⟨#[]⟩, .string ⟨#[]⟩, .string ⟨#[]⟩]) := hid (by rw [← hU]; exact (HP.out.later e).set_ 0 (str B))
  replace HE : Hid (Ext w V2) := hid (by rw [← hU]; exact (HE.out.trans e.h).setCell (.inr (show w.heap.size ≤ w.heap.size + 2 by omega)) _)
  clear hU e
  have pc0 : ∀ e : Later V2, e.x.cell? ⟨w.heap.size + 2, 0, none⟩ = some (str B) := HP.out.cellL 0 rfl
  have pz0 : ∀ e : Later V2, e.x.frozen? ⟨w.heap.size + 2, 0, none⟩ = false := fun e => (HP.out.later e).frozen 0
  have pc1 : ∀ e : Later V2, e.x.cell? ⟨w.heap.size + 2, 1, none⟩ = some (.string ⟨#[]⟩) := HP.out.cellL 1 rfl
  have pz1 : ∀ e : Later V2, e.x.frozen? ⟨w.heap.size + 2, 1, none⟩ = false := fun e => (HP.out.later e).frozen 1
  have pc2 : ∀ e : Later V2, e.x.cell? ⟨w.heap.size + 2, 2, none⟩ = some (.string ⟨#[]⟩) := HP.out.cellL 2 rfl
  have pz2 : ∀ e : Later V2, e.x.frozen? ⟨w.heap.size + 2, 2, none⟩ = false := fun e => (HP.out.later e).frozen 2
  have pc3 : ∀ e : Later V2, e.x.cell? ⟨w.heap.size + 2, 3, none⟩ = some (.string ⟨#[]⟩) := HP.out.cellL 3 rfl
  have pz3 : ∀ e : Later V2, e.x.frozen? ⟨w.heap.size + 2, 3, none⟩ = false := fun e => (HP.out.later e).frozen 3
  have HPR : Hid (∀ e : Later V2, e.x.rangeAt w.heap.size 0 p.c.toList) := HB.out.range 0 19 (by rw [Array.toList_extract]; rfl)
  obtain ⟨e, he⟩ := Later.self V2
  rw [he]
  clear he
  go_upto_region 8 with fail
  clear pc0 pz0 pc1 pz1 pc2 pz2 pc3 pz3 HPR
  generalize hU : World.setCell _ _ _ = V3
  replace HB : Hid (Blk V3 w.heap.size 29 (bunC p A k c)) := hid (by rw [← hU]; exact (HB.out.later e).far (by simp <;> omega) _)
  replace HS : Hid (Blk V3 (w.heap.size + 1) 32 (BV.c sec)) := hid (by rw [← hU]; exact (HS.out.later e).far (by simp <;> omega) _)
  replace HX : Hid (Blk V3 gx 32 (BV.c X)) := hid (by rw [← hU]; exact (HX.out.later e).far (by have := hgx.out; simp <;> omega) _)
  replace HP : Hid (Blk V3 (w.heap.size + 2) 71 #[str B, .string ⟨#[]⟩, .string ⟨#[]⟩, str B]) := hid (by rw [← hU]; exact (HP.out.later e).set_ 3 (str B))
  replace HE : Hid (Ext w V3) := hid (by rw [← hU]; exact (HE.out.trans e.h).setCell (.inr (show w.heap.size ≤ w.heap.size + 2 by omega)) _)
  clear hU e
  have pc0 : ∀ e : Later V3, e.x.cell? ⟨w.heap.size + 2, 0, none⟩ = some (str B) := HP.out.cellL 0 rfl
  have pz0 : ∀ e : Later V3, e.x.frozen? ⟨w.heap.size + 2, 0, none⟩ = false := fun e => (HP.out.later e).frozen 0
  have pc1 : ∀ e : Later V3, e.x.cell? ⟨w.heap.size + 2, 1, none⟩ = some (.string ⟨#[]⟩) := HP.out.cellL 1 rfl
  have pz1 : ∀ e : Later V3, e.x.frozen? ⟨w.heap.size + 2, 1, none⟩ = false := fun e => (HP.out.later e).frozen 1
  have pc2 : ∀ e : Later V3, e.x.cell? ⟨w.heap.size + 2, 2, none⟩ = some (.string ⟨#[]⟩) := HP.out.cellL 2 rfl
  have pz2 : ∀ e : Later V3, e.x.frozen? ⟨w.heap.size + 2, 2, none⟩ = false := fun e => (HP.out.later e).frozen 2
  have pc3 : ∀ e : Later V3, e.x.cell? ⟨w.heap.size + 2, 3, none⟩ = some (str B) := HP.out.cellL 3 rfl
  have pz3 : ∀ e : Later V3, e.x.frozen? ⟨w.heap.size + 2, 3, none⟩ = false := fun e => (HP.out.later e).frozen 3
  have HPR : Hid (∀ e : Later V3, e.x.rangeAt w.heap.size 0 p.c.toList) := HB.out.range 0 19 (by rw [Array.toList_extract]; rfl)
  obtain ⟨e, he⟩ := Later.self V3
  rw [he]
  clear he
  go_upto_region 10 with (first | (refine wpList_row (by rfl) 32 _ rfl _ rfl (HX.out.later _) Try.underlying32 rfl (by kernel_rfl) ?_) | (go_at_call 58; refine (Ret.later (KX.out _)).mono ?_; rintro x _ ⟨rfl, e, rfl⟩))
  clear pc0 pz0 pc1 pz1 pc2 pz2 pc3 pz3 HPR
  generalize hU : World.setCell _ _ _ = V4
  replace HB : Hid (Blk V4 w.heap.size 29 (bunC p A k c)) := hid (by rw [← hU]; exact (HB.out.later e).far (by simp <;> omega) _)
  replace HS : Hid (Blk V4 (w.heap.size + 1) 32 (BV.c sec)) := hid (by rw [← hU]; exact (HS.out.later e).far (by simp <;> omega) _)
  replace HX : Hid (Blk V4 gx 32 (BV.c X)) := hid (by rw [← hU]; exact (HX.out.later e).far (by have := hgx.out; simp <;> omega) _)
  replace HP : Hid (Blk V4 (w.heap.size + 2) 71 #[str B, str HX1, .string ⟨#[]⟩, str B]) := hid (by rw [← hU]; exact (HP.out.later e).set_ 1 (str HX1))
  replace HE : Hid (Ext w V4) := hid (by rw [← hU]; exact (HE.out.trans e.h).setCell (.inr (show w.heap.size ≤ w.heap.size + 2 by omega)) _)
  clear hU e
  have pc0 : ∀ e : Later V4, e.x.cell? ⟨w.heap.size + 2, 0, none⟩ = some (str B) := HP.out.cellL 0 rfl
  have pz0 : ∀ e : Later V4, e.x.frozen? ⟨w.heap.size + 2, 0, none⟩ = false := fun e => (HP.out.later e).frozen 0
  have pc1 : ∀ e : Later V4, e.x.cell? ⟨w.heap.size + 2, 1, none⟩ = some (str HX1) := HP.out.cellL 1 rfl
  have pz1 : ∀ e : Later V4, e.x.frozen? ⟨w.heap.size + 2, 1, none⟩ = false := fun e => (HP.out.later e).frozen 1
  have pc2 : ∀ e : Later V4, e.x.cell? ⟨w.heap.size + 2, 2, none⟩ = some (.string ⟨#[]⟩) := HP.out.cellL 2 rfl
  have pz2 : ∀ e : Later V4, e.x.frozen? ⟨w.heap.size + 2, 2, none⟩ = false := fun e => (HP.out.later e).frozen 2
  have pc3 : ∀ e : Later V4, e.x.cell? ⟨w.heap.size + 2, 3, none⟩ = some (str B) := HP.out.cellL 3 rfl
  have pz3 : ∀ e : Later V4, e.x.frozen? ⟨w.heap.size + 2, 3, none⟩ = false := fun e => (HP.out.later e).frozen 3
  have HPR : Hid (∀ e : Later V4, e.x.rangeAt w.heap.size 0 p.c.toList) := HB.out.range 0 19 (by rw [Array.toList_extract]; rfl)
  have xc4 : ∀ e : Later V4, e.x.cell? ⟨gx, 4, none⟩ = some (str X.data) := HX.out.cellL 4 rfl
  obtain ⟨e, he⟩ := Later.self V4
  rw [he]
  clear he
  go_upto_region 13 with (go_at_call 59; refine (Ret.later (KB.out _)).mono ?_; rintro x _ ⟨rfl, e, rfl⟩)
  clear pc0 pz0 pc1 pz1 pc2 pz2 pc3 pz3 HPR xc4
  generalize hU : World.setCell _ _ _ = V5
  replace HB : Hid (Blk V5 w.heap.size 29 (bunC p A k c)) := hid (by rw [← hU]; exact (HB.out.later e).far (by simp <;> omega) _)
  replace HS : Hid (Blk V5 (w.heap.size + 1) 32 (BV.c sec)) := hid (by rw [← hU]; exact (HS.out.later e).far (by simp <;> omega) _)
  replace HX : Hid (Blk V5 gx 32 (BV.c X)) := hid (by rw [← hU]; exact (HX.out.later e).far (by have := hgx.out; simp <;> omega) _)
  replace HP : Hid (Blk V5 (w.heap.size + 2) 71 #[str B, str HX1, .string ⟨#[]⟩, str D]) := hid (by rw [← hU]; exact (HP.out.later e).set_ 3 (str D))
  replace HE : Hid (Ext w V5) := hid (by rw [← hU]; exact (HE.out.trans e.h).setCell (.inr (show w.heap.size ≤ w.heap.size + 2 by omega)) _)
  clear hU e
  have pc0 : ∀ e : Later V5, e.x.cell? ⟨w.heap.size + 2, 0, none⟩ = some (str B) := HP.out.cellL 0 rfl
  have pz0 : ∀ e : Later V5, e.x.frozen? ⟨w.heap.size + 2, 0, none⟩ = false := fun e => (HP.out.later e).frozen 0
  have pc1 : ∀ e : Later V5, e.x.cell? ⟨w.heap.size + 2, 1, none⟩ = some (str HX1) := HP.out.cellL 1 rfl
  have pz1 : ∀ e : Later V5, e.x.frozen? ⟨w.heap.size + 2, 1, none⟩ = false := fun e => (HP.out.later e).frozen 1
  have pc2 : ∀ e : Later V5, e.x.cell? ⟨w.heap.size + 2, 2, none⟩ = some (.string ⟨#[]⟩) := HP.out.cellL 2 rfl
  have pz2 : ∀ e : Later V5, e.x.frozen? ⟨w.heap.size + 2, 2, none⟩ = false := fun e => (HP.out.later e).frozen 2
  have pc3 : ∀ e : Later V5, e.x.cell? ⟨w.heap.size + 2, 3, none⟩ = some (str D) := HP.out.cellL 3 rfl
  have pz3 : ∀ e : Later V5, e.x.frozen? ⟨w.heap.size + 2, 3, none⟩ = false := fun e => (HP.out.later e).frozen 3
  have HPR : Hid (∀ e : Later V5, e.x.rangeAt w.heap.size 0 p.c.toList) := HB.out.range 0 19 (by rw [Array.toList_extract]; rfl)
  obtain ⟨e, he⟩ := Later.self V5
  rw [he]
  clear he
  go_upto_region 14 with (first | (refine wpList_row (by rfl) 32 _ rfl _ rfl (HS.out.later _) Try.underlying32 rfl (by kernel_rfl) ?_) | (go_at_call 58; refine (Ret.later (KS.out _)).mono ?_; rintro x _ ⟨rfl, e, rfl⟩))
  clear pc0 pz0 pc1 pz1 pc2 pz2 pc3 pz3 HPR
  generalize hU : World.setCell _ _ _ = V6
  replace HB : Hid (Blk V6 w.heap.size 29 (bunC p A k c)) := hid (by rw [← hU]; exact (HB.out.later e).far (by simp <;> omega) _)
  replace HS : Hid (Blk V6 (w.heap.size + 1) 32 (BV.c sec)) := hid (by rw [← hU]; exact (HS.out.later e).far (by simp <;> omega) _)
  replace HX : Hid (Blk V6 gx 32 (BV.c X)) := hid (by rw [← hU]; exact (HX.out.later e).far (by have := hgx.out; simp <;> omega) _)
  replace HP : Hid (Blk V6 (w.heap.size + 2) 71 #[str B, str HX1, str HD, str D]) := hid (by rw [← hU]; exact (HP.out.later e).set_ 2 (str HD))
  replace HE : Hid (Ext w V6) := hid (by rw [← hU]; exact (HE.out.trans e.h).setCell (.inr (show w.heap.size ≤ w.heap.size + 2 by omega)) _)
  clear hU e
  have pc0 : ∀ e : Later V6, e.x.cell? ⟨w.heap.size + 2, 0, none⟩ = some (str B) := HP.out.cellL 0 rfl
  have pz0 : ∀ e : Later V6, e.x.frozen? ⟨w.heap.size + 2, 0, none⟩ = false := fun e => (HP.out.later e).frozen 0
  have pc1 : ∀ e : Later V6, e.x.cell? ⟨w.heap.size + 2, 1, none⟩ = some (str HX1) := HP.out.cellL 1 rfl
  have pz1 : ∀ e : Later V6, e.x.frozen? ⟨w.heap.size + 2, 1, none⟩ = false := fun e => (HP.out.later e).frozen 1
  have pc2 : ∀ e : Later V6, e.x.cell? ⟨w.heap.size + 2, 2, none⟩ = some (str HD) := HP.out.cellL 2 rfl
  have pz2 : ∀ e : Later V6, e.x.frozen? ⟨w.heap.size + 2, 2, none⟩ = false := fun e => (HP.out.later e).frozen 2
  have pc3 : ∀ e : Later V6, e.x.cell? ⟨w.heap.size + 2, 3, none⟩ = some (str D) := HP.out.cellL 3 rfl
  have pz3 : ∀ e : Later V6, e.x.frozen? ⟨w.heap.size + 2, 3, none⟩ = false := fun e => (HP.out.later e).frozen 3
  have HPR : Hid (∀ e : Later V6, e.x.rangeAt w.heap.size 0 p.c.toList) := HB.out.range 0 19 (by rw [Array.toList_extract]; rfl)
  obtain ⟨e, he⟩ := Later.self V6
  rw [he]
  clear he
  go_wp2_with (first | (refine wpList_row (by rfl) 71 _ rfl _ rfl (HP.out.later _) Try.underlying71 rfl (by kernel_rfl) ?_) | (refine wpList_store_mid rfl 71 _ _ rfl (w.heap.size + 2) 0 #[str B, str HX1, str HD, str D] (by rfl) (by rfl) ((HP.out.later _).there (Nat.le_refl 4)) (by kernel_rfl) (by simp [BV.c, Value.oneCell']) ?_))
  have HXX := setCells_all (ds := #[str B, str HX1, str HD, str D]) (HP.out.later e) rfl
  have HM : Ext w (e.x.setCells (w.heap.size + 2) 0 (#[str B, str HX1, str HD, str D] : Array Value).toList) := setCells_mod _ _ (HE.out.trans e.h) (.inr (by omega))
  refine bodyPost_ret (v := .tuple #[.agg #[str B, str HX1, str HD, str D], .int .i64 (r)]) (results_cell2 Try.results31 _ rfl rfl HXX Try.underlying71 rfl (by kernel_rfl)) rfl (Ret.mk rfl HM)
end Go.Proofs.Ytkeabdfgacicaaa


namespace Go.Proofs.Ytkeabdfgacicaaa
open Go.RowKit
set_option linter.unusedVariables false
set_option linter.unusedSimpArgs false

structure Parts where
  pr : List UInt8
  tg : List UInt8
  sc : List UInt8
  ow : List UInt8
  err : Int
def Parts.c (q : Parts) : Array Value := #[str q.pr, str q.tg, str q.sc, str q.ow]
def Parts.v (q : Parts) : Value := .tuple #[.agg q.c, .int .i64 q.err]
/-- What scope.read reads. -/
def partsOf (p : PV) (bs : Nat → BV) (k : Nat) (target : Int) (sec : BV) : Parts :=
  if target = 0 then (if p.right = 0 then ⟨p.plain.bytes, [], hdr0 sec, p.plain.bytes, sec.right⟩ else ⟨[], [], [], [], p.right⟩)
  else match firstOf (numB bs target) k with
    | none => ⟨[], [], [], [], 15⟩
    | some i => if p.right = 0 then (if (bs i).right = 0 then ⟨p.plain.bytes, (bs i).hdr, hdr0 sec, headL 2 (bs i).data.length ++ (bs i).data, sec.right⟩ else ⟨p.plain.bytes, [], [], p.plain.bytes, (bs i).right⟩) else ⟨[], [], [], [], p.right⟩
theorem sread_any (p : PV) (bs : Nat → BV) (k c : Nat) (A : Option Addr) (target : Int) (sec : BV) (hnl : Hid (p.d.name.length < 4611686018427387904 ∧ p.s.name.length < 4611686018427387904 ∧ p.r.name.length < 4611686018427387904)) (hf : p.fl < 18446744073709551616) (hk : k < 4611686018427387904) (hd : ∀ i, i < k → (bs i).data.length ≤ 100000) (w : World) (h : BsL w A k bs) :
    Calls Try.prog 31 #[bunV p A k c, .int .i64 target, sec.v] w (Ret (partsOf p bs k target sec).v w) := by
  have hG : ∀ W, Ext w W → Calls Try.prog 57 #[bunV p A k c, .int .i64 target] W (Ret (getV bs target k) W) := fun W hW => Get_any p bs k c A target hk W (h.ext hW)
  unfold partsOf
  unfold getV at hG
  by_cases ht : target = 0
  · subst ht
    rw [if_pos rfl]
    by_cases hb : p.right = 0
    · rw [if_pos hb]
      cases hfo : firstOf (numB bs 0) k with
      | none => rw [hfo] at hG; exact sread_zero p sec zeroB k c A false hnl hf hb w hG
      | some i => rw [hfo] at hG; exact sread_zero p sec (bs i) k c A true hnl hf hb w hG
    · rw [if_neg hb]
      cases hfo : firstOf (numB bs 0) k with
      | none => rw [hfo] at hG; exact sread_pbad0 p sec zeroB k c A false hnl hf hb w hG
      | some i => rw [hfo] at hG; exact sread_pbad0 p sec (bs i) k c A true hnl hf hb w hG
  · rw [if_neg ht]
    cases hfo : firstOf (numB bs target) k with
    | none => rw [hfo] at hG; exact sread_none p sec zeroB k c A target ht w hG
    | some i =>
      rw [hfo] at hG
      have hi := (firstOf_spec hfo).1
      show Calls Try.prog 31 #[bunV p A k c, .int .i64 target, sec.v] w (Ret (Parts.v (if p.right = 0 then _ else _)) w)
      by_cases hb : p.right = 0
      · rw [if_pos hb]
        by_cases hx : (bs i).right = 0
        · rw [if_pos hx]; exact sread_tgt p sec (bs i) k c A target hnl hf hb hx (by have := hd i hi; unfold Hid; omega) ht w hG
        · rw [if_neg hx]; exact sread_xbad p sec (bs i) k c A target hnl hf hb hx ht w hG
      · rw [if_neg hb]; exact sread_pbad p sec (bs i) k c A target hnl hf hb ht w hG
end Go.Proofs.Ytkeabdfgacicaaa


namespace Go.Proofs.Ytkeabdfgacicaaa
open Go.RowKit
set_option linter.unusedVariables false
set_option linter.unusedSimpArgs false

set_option maxRecDepth 20000 in
theorem cText_bad (p : PV) (sec : BV) (k c : Nat) (A : Option Addr) (target : Int) (s : Int) (hs : s < 0 ∨ 7 < s) (w : World) : Calls Try.prog 10 #[bunV p A k c, .int .i64 target, sec.v, .int .i64 s] w (Ret (.tuple #[str [], .int .i64 1]) w) := by
  have KM : Hid (∀ W, Calls Try.prog 30 #[.int .i64 s] W (Ret (.bool false) W)) := fun W => by have := smay_any (s) W; rw [show (decide (0 ≤ (s)) && decide ((s) < 8)) = false from by simp; omega] at this; exact this
  have HE := hid (((Mod.refl [] w).alloc (.cells (bunC p A k c) 29)).alloc (.cells (BV.c sec) 32))
  have HB := hid ((Blk.new w 29 (bunC p A k c)).alloc (.cells (BV.c sec) 32))
  have HS : Hid (Blk ((w.alloc (.cells (bunC p A k c) 29)).alloc (.cells (BV.c sec) 32)) (w.heap.size + 1) 32 (BV.c sec)) := Blk.newL _ _ _ (by simp)
  clear hs
  go_enter Try.func10, Try.ntmps10
  go_upto_region 1 with fail
  generalize ((w.alloc (.cells (bunC p A k c) 29)).alloc (.cells (BV.c sec) 32)) = V at *
  obtain ⟨e, he⟩ := Later.self V
  rw [he]
  clear he
  go_wp2_with (go_at_call 30; refine (Ret.later (KM.out _)).mono ?_; rintro x _ ⟨rfl, e, rfl⟩)
  go_ret2
  exact Ret.mk rfl (HE.out.trans e.h)
set_option maxRecDepth 20000 in
theorem cText_err (p : PV) (sec : BV) (k c : Nat) (A : Option Addr) (target : Int) (n : Nat) (hn : n < 8) (Q : Parts) (he : Q.err ≠ 0) (w : World) (hR : ∀ W, Ext w W → Calls Try.prog 31 #[bunV p A k c, .int .i64 target, sec.v] W (Ret Q.v W)) : Calls Try.prog 10 #[bunV p A k c, .int .i64 target, sec.v, .int .i64 (n : Int)] w (Ret (.tuple #[str [], .int .i64 Q.err]) w) := by
  have KM : Hid (∀ W, Calls Try.prog 30 #[.int .i64 (n : Int)] W (Ret (.bool true) W)) := fun W => by have := smay_any ((n : Int)) W; rw [show (decide (0 ≤ ((n : Int))) && decide (((n : Int)) < 8)) = true from by simp; omega] at this; exact this
  obtain ⟨pr, tg, sc, ow, err⟩ := Q
  have HE := hid (((Mod.refl [] w).alloc (.cells (bunC p A k c) 29)).alloc (.cells (BV.c sec) 32))
  have HB := hid ((Blk.new w 29 (bunC p A k c)).alloc (.cells (BV.c sec) 32))
  have HS : Hid (Blk ((w.alloc (.cells (bunC p A k c) 29)).alloc (.cells (BV.c sec) 32)) (w.heap.size + 1) 32 (BV.c sec)) := Blk.newL _ _ _ (by simp)
  have KR : Hid (∀ e : Later ((w.alloc (.cells (bunC p A k c) 29)).alloc (.cells (BV.c sec) 32)), Calls Try.prog 31 #[bunV p A k c, .int .i64 target, sec.v] e.x (Ret (.tuple #[.agg #[str pr, str tg, str sc, str ow], .int .i64 err]) e.x)) := fun e => hR e.x (HE.out.trans e.h)
  have ra : ((err) == (0)) = false := by rw [beq_eq_false_iff_ne]; exact he
  have rb : ((err) = (0)) = False := eq_false (by exact he)
  have rc : ((err) != (0)) = true := by rw [bne_iff_ne]; exact he
  clear hn he hR
  go_enter Try.func10, Try.ntmps10
  go_upto_region 1 with fail
  generalize ((w.alloc (.cells (bunC p A k c) 29)).alloc (.cells (BV.c sec) 32)) = V at *
  obtain ⟨e, he⟩ := Later.self V
  rw [he]
  clear he
  go_wp2_with (first | (refine wpList_row (by rfl) 29 _ rfl _ rfl (HB.out.later _) Try.underlying29 rfl (by kernel_rfl) ?_) | (refine wpList_row (by rfl) 32 _ rfl _ rfl (HS.out.later _) Try.underlying32 rfl (by kernel_rfl) ?_) | (go_at_call 30; refine (Ret.later (KM.out _)).mono ?_; rintro x _ ⟨rfl, e, rfl⟩) | (go_at_call 31; refine (Ret.later (KR.out _)).mono ?_; rintro x _ ⟨rfl, e, rfl⟩))
  go_ret2
  exact Ret.mk rfl (HE.out.trans ((Later.h e).alloc _))
set_option maxRecDepth 20000 in
theorem cText_ok (p : PV) (sec : BV) (k c : Nat) (A : Option Addr) (target : Int) (n : Nat) (hn : n < 8) (Q : Parts) (he : Q.err = 0) (l1 : Q.pr.length ≤ 100000) (l2 : Q.tg.length ≤ 100000) (l3 : Q.sc.length ≤ 100000) (l4 : Q.ow.length ≤ 200000) (w : World) (hR : ∀ W, Ext w W → Calls Try.prog 31 #[bunV p A k c, .int .i64 target, sec.v] W (Ret Q.v W)) : Calls Try.prog 10 #[bunV p A k c, .int .i64 target, sec.v, .int .i64 (n : Int)] w (Ret (.tuple #[str (besB Q.pr Q.tg Q.sc target n ++ Q.ow), .int .i64 0]) w) := by
  have KM : Hid (∀ W, Calls Try.prog 30 #[.int .i64 (n : Int)] W (Ret (.bool true) W)) := fun W => by have := smay_any ((n : Int)) W; rw [show (decide (0 ≤ ((n : Int))) && decide (((n : Int)) < 8)) = true from by simp; omega] at this; exact this
  obtain ⟨pr, tg, sc, ow, err⟩ := Q
  have HE := hid (((Mod.refl [] w).alloc (.cells (bunC p A k c) 29)).alloc (.cells (BV.c sec) 32))
  have HB := hid ((Blk.new w 29 (bunC p A k c)).alloc (.cells (BV.c sec) 32))
  have HS : Hid (Blk ((w.alloc (.cells (bunC p A k c) 29)).alloc (.cells (BV.c sec) 32)) (w.heap.size + 1) 32 (BV.c sec)) := Blk.newL _ _ _ (by simp)
  have KR : Hid (∀ e : Later ((w.alloc (.cells (bunC p A k c) 29)).alloc (.cells (BV.c sec) 32)), Calls Try.prog 31 #[bunV p A k c, .int .i64 target, sec.v] e.x (Ret (.tuple #[.agg #[str pr, str tg, str sc, str ow], .int .i64 err]) e.x)) := fun e => hR e.x (HE.out.trans e.h)
  have KB := hid (fun W => pBeside_any pr tg sc ow target n hn l1 l2 l3 W)
  have lb : (besB pr tg sc target n).length ≤ 400000 := by
    have := headL_le 0 n
    have h1 : pr.length ≤ 100000 := l1
    have h2 : tg.length ≤ 100000 := l2
    have h3 : sc.length ≤ 100000 := l3
    unfold besB
    simp only [List.length_append]
    split <;> split <;> split <;> simp <;> omega
  have lo : ow.length ≤ 200000 := l4
  obtain rfl : err = 0 := he
  clear hn hR l1 l2 l3 l4
  show Calls _ _ _ _ (Ret (.tuple #[str (besB pr tg sc target n ++ ow), .int .i64 0]) w)
  generalize besB pr tg sc target n = BB at *
  go_enter Try.func10, Try.ntmps10
  go_upto_region 1 with fail
  generalize ((w.alloc (.cells (bunC p A k c) 29)).alloc (.cells (BV.c sec) 32)) = V at *
  obtain ⟨e, he⟩ := Later.self V
  rw [he]
  clear he
  go_upto_region 6 with (first | (refine wpList_row (by rfl) 29 _ rfl _ rfl (HB.out.later _) Try.underlying29 rfl (by kernel_rfl) ?_) | (refine wpList_row (by rfl) 32 _ rfl _ rfl (HS.out.later _) Try.underlying32 rfl (by kernel_rfl) ?_) | (go_at_call 30; refine (Ret.later (KM.out _)).mono ?_; rintro x _ ⟨rfl, e, rfl⟩) | (go_at_call 31; refine (Ret.later (KR.out _)).mono ?_; rintro x _ ⟨rfl, e, rfl⟩))
  generalize hU : World.alloc e.x _ = V1
  have HX : Hid (Blk V1 e.x.heap.size 71 #[str pr, str tg, str sc, str ow]) := hid (by rw [← hU]; exact Blk.new _ _ _)
  have HE1 : Hid (Ext w V1) := hid (by rw [← hU]; exact (HE.out.trans e.h).alloc _)
  clear hU KR
  generalize e.x.heap.size = gx at *
  clear e
  have x3 : ∀ e : Later V1, e.x.cell? ⟨gx, 3, none⟩ = some (str ow) := HX.out.cellL 3 rfl
  obtain ⟨e, he⟩ := Later.self V1
  rw [he]
  clear he
  refine wp_region_later (by kernel_rfl) (by kernel_rfl) ?_
  repeat (first | (refine later_row (by rfl) 71 _ rfl _ rfl (fun e => HX.out.later e) Try.underlying71 rfl (by kernel_rfl) ?_; simp only [Act.put, List.setIfInBounds_toArray, List.set_cons_zero, List.set_cons_succ]) | (refine q_cat (by rfl) _ _ _ _ rfl _ _ rfl rfl (by omega) ?_; (try simp only [Act.put, List.setIfInBounds_toArray, List.set_cons_zero, List.set_cons_succ])) | go_big_quiet_step ((go_at_call 32; exact Ret.later (KB.out _))))
  refine wpQuiet_nil ?_
  rintro _ ⟨e, rfl⟩
  go_wp2_with fail
  go_ret2
  exact Ret.mk rfl (HE1.out.trans e.h)
set_option maxRecDepth 20000 in
theorem cBeside_bad (p : PV) (sec : BV) (k c : Nat) (A : Option Addr) (target : Int) (s : Int) (hs : s < 0 ∨ 7 < s) (w : World) : Calls Try.prog 15 #[bunV p A k c, .int .i64 target, sec.v, .int .i64 s] w (Ret (.tuple #[str [], .int .i64 1]) w) := by
  have KM : Hid (∀ W, Calls Try.prog 30 #[.int .i64 s] W (Ret (.bool false) W)) := fun W => by have := smay_any (s) W; rw [show (decide (0 ≤ (s)) && decide ((s) < 8)) = false from by simp; omega] at this; exact this
  have HE := hid (((Mod.refl [] w).alloc (.cells (bunC p A k c) 29)).alloc (.cells (BV.c sec) 32))
  have HB := hid ((Blk.new w 29 (bunC p A k c)).alloc (.cells (BV.c sec) 32))
  have HS : Hid (Blk ((w.alloc (.cells (bunC p A k c) 29)).alloc (.cells (BV.c sec) 32)) (w.heap.size + 1) 32 (BV.c sec)) := Blk.newL _ _ _ (by simp)
  clear hs
  go_enter Try.func15, Try.ntmps15
  go_upto_region 1 with fail
  generalize ((w.alloc (.cells (bunC p A k c) 29)).alloc (.cells (BV.c sec) 32)) = V at *
  obtain ⟨e, he⟩ := Later.self V
  rw [he]
  clear he
  go_wp2_with (go_at_call 30; refine (Ret.later (KM.out _)).mono ?_; rintro x _ ⟨rfl, e, rfl⟩)
  go_ret2
  exact Ret.mk rfl (HE.out.trans e.h)
set_option maxRecDepth 20000 in
theorem cBeside_0 (p : PV) (sec : BV) (k c : Nat) (A : Option Addr) (n : Nat) (hn : n < 8) (w : World) : Calls Try.prog 15 #[bunV p A k c, .int .i64 0, sec.v, .int .i64 (n : Int)] w (Ret (.tuple #[str [], .int .i64 8]) w) := by
  have KM : Hid (∀ W, Calls Try.prog 30 #[.int .i64 (n : Int)] W (Ret (.bool true) W)) := fun W => by have := smay_any ((n : Int)) W; rw [show (decide (0 ≤ ((n : Int))) && decide (((n : Int)) < 8)) = true from by simp; omega] at this; exact this
  have HE := hid (((Mod.refl [] w).alloc (.cells (bunC p A k c) 29)).alloc (.cells (BV.c sec) 32))
  have HB := hid ((Blk.new w 29 (bunC p A k c)).alloc (.cells (BV.c sec) 32))
  have HS : Hid (Blk ((w.alloc (.cells (bunC p A k c) 29)).alloc (.cells (BV.c sec) 32)) (w.heap.size + 1) 32 (BV.c sec)) := Blk.newL _ _ _ (by simp)
  clear hn
  go_enter Try.func15, Try.ntmps15
  go_upto_region 1 with fail
  generalize ((w.alloc (.cells (bunC p A k c) 29)).alloc (.cells (BV.c sec) 32)) = V at *
  obtain ⟨e, he⟩ := Later.self V
  rw [he]
  clear he
  go_wp2_with (go_at_call 30; refine (Ret.later (KM.out _)).mono ?_; rintro x _ ⟨rfl, e, rfl⟩)
  go_ret2
  exact Ret.mk rfl (HE.out.trans e.h)
set_option maxRecDepth 20000 in
theorem cBeside_err (p : PV) (sec : BV) (k c : Nat) (A : Option Addr) (target : Int) (n : Nat) (hn : n < 8) (Q : Parts) (he : Q.err ≠ 0) (ht : target ≠ 0) (w : World) (hR : ∀ W, Ext w W → Calls Try.prog 31 #[bunV p A k c, .int .i64 target, sec.v] W (Ret Q.v W)) : Calls Try.prog 15 #[bunV p A k c, .int .i64 target, sec.v, .int .i64 (n : Int)] w (Ret (.tuple #[str [], .int .i64 Q.err]) w) := by
  have KM : Hid (∀ W, Calls Try.prog 30 #[.int .i64 (n : Int)] W (Ret (.bool true) W)) := fun W => by have := smay_any ((n : Int)) W; rw [show (decide (0 ≤ ((n : Int))) && decide (((n : Int)) < 8)) = true from by simp; omega] at this; exact this
  obtain ⟨pr, tg, sc, ow, err⟩ := Q
  have HE := hid (((Mod.refl [] w).alloc (.cells (bunC p A k c) 29)).alloc (.cells (BV.c sec) 32))
  have HB := hid ((Blk.new w 29 (bunC p A k c)).alloc (.cells (BV.c sec) 32))
  have HS : Hid (Blk ((w.alloc (.cells (bunC p A k c) 29)).alloc (.cells (BV.c sec) 32)) (w.heap.size + 1) 32 (BV.c sec)) := Blk.newL _ _ _ (by simp)
  have KR : Hid (∀ e : Later ((w.alloc (.cells (bunC p A k c) 29)).alloc (.cells (BV.c sec) 32)), Calls Try.prog 31 #[bunV p A k c, .int .i64 target, sec.v] e.x (Ret (.tuple #[.agg #[str pr, str tg, str sc, str ow], .int .i64 err]) e.x)) := fun e => hR e.x (HE.out.trans e.h)
  have ra : ((err) == (0)) = false := by rw [beq_eq_false_iff_ne]; exact he
  have rb : ((err) = (0)) = False := eq_false (by exact he)
  have rc : ((err) != (0)) = true := by rw [bne_iff_ne]; exact he
  have ta : ((target) == (0)) = false := by rw [beq_eq_false_iff_ne]; exact ht
  have tb : ((target) = (0)) = False := eq_false (by exact ht)
  have tc : ((target) != (0)) = true := by rw [bne_iff_ne]; exact ht
  clear ht
  clear hn he hR
  go_enter Try.func15, Try.ntmps15
  go_upto_region 1 with fail
  generalize ((w.alloc (.cells (bunC p A k c) 29)).alloc (.cells (BV.c sec) 32)) = V at *
  obtain ⟨e, he⟩ := Later.self V
  rw [he]
  clear he
  go_wp2_with (first | (refine wpList_row (by rfl) 29 _ rfl _ rfl (HB.out.later _) Try.underlying29 rfl (by kernel_rfl) ?_) | (refine wpList_row (by rfl) 32 _ rfl _ rfl (HS.out.later _) Try.underlying32 rfl (by kernel_rfl) ?_) | (go_at_call 30; refine (Ret.later (KM.out _)).mono ?_; rintro x _ ⟨rfl, e, rfl⟩) | (go_at_call 31; refine (Ret.later (KR.out _)).mono ?_; rintro x _ ⟨rfl, e, rfl⟩))
  go_ret2
  exact Ret.mk rfl (HE.out.trans ((Later.h e).alloc _))
set_option maxRecDepth 20000 in
theorem cBeside_ok (p : PV) (sec : BV) (k c : Nat) (A : Option Addr) (target : Int) (n : Nat) (hn : n < 8) (Q : Parts) (he : Q.err = 0) (ht : target ≠ 0) (l1 : Q.pr.length ≤ 100000) (l2 : Q.tg.length ≤ 100000) (l3 : Q.sc.length ≤ 100000) (l4 : Q.ow.length ≤ 200000) (w : World) (hR : ∀ W, Ext w W → Calls Try.prog 31 #[bunV p A k c, .int .i64 target, sec.v] W (Ret Q.v W)) : Calls Try.prog 15 #[bunV p A k c, .int .i64 target, sec.v, .int .i64 (n : Int)] w (Ret (.tuple #[str (besB Q.pr Q.tg Q.sc target n), .int .i64 0]) w) := by
  have KM : Hid (∀ W, Calls Try.prog 30 #[.int .i64 (n : Int)] W (Ret (.bool true) W)) := fun W => by have := smay_any ((n : Int)) W; rw [show (decide (0 ≤ ((n : Int))) && decide (((n : Int)) < 8)) = true from by simp; omega] at this; exact this
  obtain ⟨pr, tg, sc, ow, err⟩ := Q
  have HE := hid (((Mod.refl [] w).alloc (.cells (bunC p A k c) 29)).alloc (.cells (BV.c sec) 32))
  have HB := hid ((Blk.new w 29 (bunC p A k c)).alloc (.cells (BV.c sec) 32))
  have HS : Hid (Blk ((w.alloc (.cells (bunC p A k c) 29)).alloc (.cells (BV.c sec) 32)) (w.heap.size + 1) 32 (BV.c sec)) := Blk.newL _ _ _ (by simp)
  have KR : Hid (∀ e : Later ((w.alloc (.cells (bunC p A k c) 29)).alloc (.cells (BV.c sec) 32)), Calls Try.prog 31 #[bunV p A k c, .int .i64 target, sec.v] e.x (Ret (.tuple #[.agg #[str pr, str tg, str sc, str ow], .int .i64 err]) e.x)) := fun e => hR e.x (HE.out.trans e.h)
  have KB := hid (fun W => pBeside_any pr tg sc ow target n hn l1 l2 l3 W)
  have lb : (besB pr tg sc target n).length ≤ 400000 := by
    have := headL_le 0 n
    have h1 : pr.length ≤ 100000 := l1
    have h2 : tg.length ≤ 100000 := l2
    have h3 : sc.length ≤ 100000 := l3
    unfold besB
    simp only [List.length_append]
    split <;> split <;> split <;> simp <;> omega
  have lo : ow.length ≤ 200000 := l4
  obtain rfl : err = 0 := he
  have ta : ((target) == (0)) = false := by rw [beq_eq_false_iff_ne]; exact ht
  have tb : ((target) = (0)) = False := eq_false (by exact ht)
  have tc : ((target) != (0)) = true := by rw [bne_iff_ne]; exact ht
  clear ht
  clear hn hR l1 l2 l3 l4
  show Calls _ _ _ _ (Ret (.tuple #[str (besB pr tg sc target n), .int .i64 0]) w)
  generalize besB pr tg sc target n = BB at *
  go_enter Try.func15, Try.ntmps15
  go_upto_region 1 with fail
  generalize ((w.alloc (.cells (bunC p A k c) 29)).alloc (.cells (BV.c sec) 32)) = V at *
  obtain ⟨e, he⟩ := Later.self V
  rw [he]
  clear he
  go_upto_region 8 with (first | (refine wpList_row (by rfl) 29 _ rfl _ rfl (HB.out.later _) Try.underlying29 rfl (by kernel_rfl) ?_) | (refine wpList_row (by rfl) 32 _ rfl _ rfl (HS.out.later _) Try.underlying32 rfl (by kernel_rfl) ?_) | (go_at_call 30; refine (Ret.later (KM.out _)).mono ?_; rintro x _ ⟨rfl, e, rfl⟩) | (go_at_call 31; refine (Ret.later (KR.out _)).mono ?_; rintro x _ ⟨rfl, e, rfl⟩))
  generalize hU : World.alloc e.x _ = V1
  have HX : Hid (Blk V1 e.x.heap.size 71 #[str pr, str tg, str sc, str ow]) := hid (by rw [← hU]; exact Blk.new _ _ _)
  have HE1 : Hid (Ext w V1) := hid (by rw [← hU]; exact (HE.out.trans e.h).alloc _)
  clear hU KR
  generalize e.x.heap.size = gx at *
  clear e
  have x3 : ∀ e : Later V1, e.x.cell? ⟨gx, 3, none⟩ = some (str ow) := HX.out.cellL 3 rfl
  obtain ⟨e, he⟩ := Later.self V1
  rw [he]
  clear he
  go_wp2_with (first | (refine wpList_row (by rfl) 71 _ rfl _ rfl (HX.out.later _) Try.underlying71 rfl (by kernel_rfl) ?_) | (go_at_call 32; refine (Ret.later (KB.out _)).mono ?_; rintro x _ ⟨rfl, e, rfl⟩))
  go_ret2
  exact Ret.mk rfl (HE1.out.trans e.h)
end Go.Proofs.Ytkeabdfgacicaaa


namespace Go.Proofs.Ytkeabdfgacicaaa
open Go.RowKit
set_option linter.unusedVariables false
set_option linter.unusedSimpArgs false

set_option maxRecDepth 20000 in
set_option maxHeartbeats 800000 in
theorem r16_neg (p : PV) (sec : BV) (bs : Nat → BV) (k c : Nat) (A : Option Addr) (target : Int) (s : Int) (hs : s < 0) (hk : k < 4611686018427387904) (w : World) (h : BsL w A k bs) : Calls Try.prog 33 #[bunV p A k c, .int .i64 target, sec.v, .int .i64 s] w (Ret (.tuple #[str [], str [], .int .i64 (1)]) w) := by
  have HE := hid (((Mod.refl [] w).alloc (.cells (bunC p A k c) 29)).alloc (.cells (BV.c sec) 32))
  have HB := hid ((Blk.new w 29 (bunC p A k c)).alloc (.cells (BV.c sec) 32))
  have HS : Hid (Blk ((w.alloc (.cells (bunC p A k c) 29)).alloc (.cells (BV.c sec) 32)) (w.heap.size + 1) 32 (BV.c sec)) := Blk.newL _ _ _ (by simp)
  have HL := hid (BsL.ext h HE.out)
  have k1 : (k : Int) < 4611686018427387904 := by omega
  have KA : Hid (∀ e : Later ((w.alloc (.cells (bunC p A k c) 29)).alloc (.cells (BV.c sec) 32)), Calls Try.prog 12 #[bunV p A k c, .int .i64 target] e.x (Ret (.int .i64 (firstI (numB bs target) k)) e.x)) := fun e => At13_any p bs k c A target hk e.x (HL.out.ext e.h)
  generalize firstI (numB bs target) k = at0 at *
  have saa : decide (s < 0) = true := decide_eq_true (by omega)
  have sab : (s < 0) = True := eq_true (by omega)
  clear hs
  clear h hk
  go_enter Try.func33, Try.ntmps33
  go_upto_region 1 with fail
  generalize ((w.alloc (.cells (bunC p A k c) 29)).alloc (.cells (BV.c sec) 32)) = V at *
  have HPR : Hid (∀ e : Later V, e.x.rangeAt w.heap.size 0 p.c.toList) := HB.out.range 0 19 (by rw [Array.toList_extract]; rfl)
  have b19 : ∀ e : Later V, e.x.cell? ⟨w.heap.size, 19, none⟩ = some (.slice A k c) := HB.out.cellL 19 rfl
  obtain ⟨e, he⟩ := Later.self V
  rw [he]
  clear he
  go_wp2_with (first | (refine wpList_row (by rfl) 29 _ rfl _ rfl (HB.out.later _) Try.underlying29 rfl (by kernel_rfl) ?_) | (refine wpList_row (by rfl) 32 _ rfl _ rfl (HS.out.later _) Try.underlying32 rfl (by kernel_rfl) ?_) | (refine wpList_mid (by rfl) 26 _ rfl _ 0 rfl _ _ (HPR.out _) Try.underlying26 rfl (by kernel_rfl) ?_) | (go_at_call 12; refine (Ret.later (KA.out _)).mono ?_; rintro x _ ⟨rfl, e, rfl⟩) | (go_at_call 24; refine (Ret.later (KP.out _)).mono ?_; rintro x _ ⟨rfl, e, rfl⟩) | (go_at_call 17; first | ((with_reducible refine (Ret.later (KX.out _)).mono ?_); rintro x _ ⟨rfl, e, rfl⟩) | ((with_reducible refine (Ret.later (KS.out _)).mono ?_); rintro x _ ⟨rfl, e, rfl⟩)))
  go_ret3
  exact Ret.mk rfl (HE.out.trans e.h)
set_option maxRecDepth 20000 in
set_option maxHeartbeats 800000 in
theorem r16_big (p : PV) (sec : BV) (bs : Nat → BV) (k c : Nat) (A : Option Addr) (target : Int) (s : Int) (hs : 7 < s) (hk : k < 4611686018427387904) (w : World) (h : BsL w A k bs) : Calls Try.prog 33 #[bunV p A k c, .int .i64 target, sec.v, .int .i64 s] w (Ret (.tuple #[str [], str [], .int .i64 (1)]) w) := by
  have HE := hid (((Mod.refl [] w).alloc (.cells (bunC p A k c) 29)).alloc (.cells (BV.c sec) 32))
  have HB := hid ((Blk.new w 29 (bunC p A k c)).alloc (.cells (BV.c sec) 32))
  have HS : Hid (Blk ((w.alloc (.cells (bunC p A k c) 29)).alloc (.cells (BV.c sec) 32)) (w.heap.size + 1) 32 (BV.c sec)) := Blk.newL _ _ _ (by simp)
  have HL := hid (BsL.ext h HE.out)
  have k1 : (k : Int) < 4611686018427387904 := by omega
  have KA : Hid (∀ e : Later ((w.alloc (.cells (bunC p A k c) 29)).alloc (.cells (BV.c sec) 32)), Calls Try.prog 12 #[bunV p A k c, .int .i64 target] e.x (Ret (.int .i64 (firstI (numB bs target) k)) e.x)) := fun e => At13_any p bs k c A target hk e.x (HL.out.ext e.h)
  generalize firstI (numB bs target) k = at0 at *
  have saa : decide (s < 0) = false := decide_eq_false (by omega)
  have sab : (s < 0) = False := eq_false (by omega)
  have sba : decide (7 < s) = true := decide_eq_true (by omega)
  have sbb : (7 < s) = True := eq_true (by omega)
  clear hs
  clear h hk
  go_enter Try.func33, Try.ntmps33
  go_upto_region 1 with fail
  generalize ((w.alloc (.cells (bunC p A k c) 29)).alloc (.cells (BV.c sec) 32)) = V at *
  have HPR : Hid (∀ e : Later V, e.x.rangeAt w.heap.size 0 p.c.toList) := HB.out.range 0 19 (by rw [Array.toList_extract]; rfl)
  have b19 : ∀ e : Later V, e.x.cell? ⟨w.heap.size, 19, none⟩ = some (.slice A k c) := HB.out.cellL 19 rfl
  obtain ⟨e, he⟩ := Later.self V
  rw [he]
  clear he
  go_wp2_with (first | (refine wpList_row (by rfl) 29 _ rfl _ rfl (HB.out.later _) Try.underlying29 rfl (by kernel_rfl) ?_) | (refine wpList_row (by rfl) 32 _ rfl _ rfl (HS.out.later _) Try.underlying32 rfl (by kernel_rfl) ?_) | (refine wpList_mid (by rfl) 26 _ rfl _ 0 rfl _ _ (HPR.out _) Try.underlying26 rfl (by kernel_rfl) ?_) | (go_at_call 12; refine (Ret.later (KA.out _)).mono ?_; rintro x _ ⟨rfl, e, rfl⟩) | (go_at_call 24; refine (Ret.later (KP.out _)).mono ?_; rintro x _ ⟨rfl, e, rfl⟩) | (go_at_call 17; first | ((with_reducible refine (Ret.later (KX.out _)).mono ?_); rintro x _ ⟨rfl, e, rfl⟩) | ((with_reducible refine (Ret.later (KS.out _)).mono ?_); rintro x _ ⟨rfl, e, rfl⟩)))
  go_ret3
  exact Ret.mk rfl (HE.out.trans e.h)
set_option maxRecDepth 20000 in
set_option maxHeartbeats 800000 in
theorem r16_none (p : PV) (sec : BV) (bs : Nat → BV) (k c : Nat) (A : Option Addr) (target : Int) (n : Nat) (hn : n < 8) (hfo : firstOf (numB bs target) k = none) (ht : target ≠ 0) (hk : k < 4611686018427387904) (w : World) (h : BsL w A k bs) : Calls Try.prog 33 #[bunV p A k c, .int .i64 target, sec.v, .int .i64 (n : Int)] w (Ret (.tuple #[str [], str [], .int .i64 (15)]) w) := by
  have HE := hid (((Mod.refl [] w).alloc (.cells (bunC p A k c) 29)).alloc (.cells (BV.c sec) 32))
  have HB := hid ((Blk.new w 29 (bunC p A k c)).alloc (.cells (BV.c sec) 32))
  have HS : Hid (Blk ((w.alloc (.cells (bunC p A k c) 29)).alloc (.cells (BV.c sec) 32)) (w.heap.size + 1) 32 (BV.c sec)) := Blk.newL _ _ _ (by simp)
  have HL := hid (BsL.ext h HE.out)
  have k1 : (k : Int) < 4611686018427387904 := by omega
  have KA : Hid (∀ e : Later ((w.alloc (.cells (bunC p A k c) 29)).alloc (.cells (BV.c sec) 32)), Calls Try.prog 12 #[bunV p A k c, .int .i64 target] e.x (Ret (.int .i64 (firstI (numB bs target) k)) e.x)) := fun e => At13_any p bs k c A target hk e.x (HL.out.ext e.h)
  unfold firstI at KA
  rw [hfo] at KA
  have n0 : (0 : Int) ≤ (n : Int) := by omega
  have n8 : (n : Int) ≤ 7 := by omega
  have naa : decide ((n : Int) < 0) = false := decide_eq_false (by omega)
  have nab : ((n : Int) < 0) = False := eq_false (by omega)
  have nba : decide ((7 : Int) < (n : Int)) = false := decide_eq_false (by omega)
  have nbb : ((7 : Int) < (n : Int)) = False := eq_false (by omega)
  have nc : decide (7 < n) = false := decide_eq_false (by omega)
  clear hn
  have ta : ((target) == (0)) = false := by rw [beq_eq_false_iff_ne]; exact ht
  have tb : ((target) = (0)) = False := eq_false (by exact ht)
  have tc : ((target) != (0)) = true := by rw [bne_iff_ne]; exact ht
  clear ht
  clear h hk
  go_enter Try.func33, Try.ntmps33
  go_upto_region 1 with fail
  generalize ((w.alloc (.cells (bunC p A k c) 29)).alloc (.cells (BV.c sec) 32)) = V at *
  have HPR : Hid (∀ e : Later V, e.x.rangeAt w.heap.size 0 p.c.toList) := HB.out.range 0 19 (by rw [Array.toList_extract]; rfl)
  have b19 : ∀ e : Later V, e.x.cell? ⟨w.heap.size, 19, none⟩ = some (.slice A k c) := HB.out.cellL 19 rfl
  obtain ⟨e, he⟩ := Later.self V
  rw [he]
  clear he
  go_wp2_with (first | (refine wpList_row (by rfl) 29 _ rfl _ rfl (HB.out.later _) Try.underlying29 rfl (by kernel_rfl) ?_) | (refine wpList_row (by rfl) 32 _ rfl _ rfl (HS.out.later _) Try.underlying32 rfl (by kernel_rfl) ?_) | (refine wpList_mid (by rfl) 26 _ rfl _ 0 rfl _ _ (HPR.out _) Try.underlying26 rfl (by kernel_rfl) ?_) | (go_at_call 12; refine (Ret.later (KA.out _)).mono ?_; rintro x _ ⟨rfl, e, rfl⟩) | (go_at_call 24; refine (Ret.later (KP.out _)).mono ?_; rintro x _ ⟨rfl, e, rfl⟩) | (go_at_call 17; first | ((with_reducible refine (Ret.later (KX.out _)).mono ?_); rintro x _ ⟨rfl, e, rfl⟩) | ((with_reducible refine (Ret.later (KS.out _)).mono ?_); rintro x _ ⟨rfl, e, rfl⟩)))
  go_ret3
  exact Ret.mk rfl (HE.out.trans e.h)
set_option maxRecDepth 20000 in
set_option maxHeartbeats 800000 in
theorem r16_pbad0 (p : PV) (sec : BV) (bs : Nat → BV) (k c : Nat) (A : Option Addr)  (n : Nat) (hn : n < 8) (hf : p.fl < 18446744073709551616) (hb : p.right ≠ 0) (hk : k < 4611686018427387904) (w : World) (h : BsL w A k bs) : Calls Try.prog 33 #[bunV p A k c, .int .i64 0, sec.v, .int .i64 (n : Int)] w (Ret (.tuple #[str [], str [], .int .i64 (p.right)]) w) := by
  have HE := hid (((Mod.refl [] w).alloc (.cells (bunC p A k c) 29)).alloc (.cells (BV.c sec) 32))
  have HB := hid ((Blk.new w 29 (bunC p A k c)).alloc (.cells (BV.c sec) 32))
  have HS : Hid (Blk ((w.alloc (.cells (bunC p A k c) 29)).alloc (.cells (BV.c sec) 32)) (w.heap.size + 1) 32 (BV.c sec)) := Blk.newL _ _ _ (by simp)
  have HL := hid (BsL.ext h HE.out)
  have k1 : (k : Int) < 4611686018427387904 := by omega
  have KA : Hid (∀ e : Later ((w.alloc (.cells (bunC p A k c) 29)).alloc (.cells (BV.c sec) 32)), Calls Try.prog 12 #[bunV p A k c, .int .i64 0] e.x (Ret (.int .i64 (firstI (numB bs 0) k)) e.x)) := fun e => At13_any p bs k c A 0 hk e.x (HL.out.ext e.h)
  generalize firstI (numB bs 0) k = at0 at *
  have n0 : (0 : Int) ≤ (n : Int) := by omega
  have n8 : (n : Int) ≤ 7 := by omega
  have naa : decide ((n : Int) < 0) = false := decide_eq_false (by omega)
  have nab : ((n : Int) < 0) = False := eq_false (by omega)
  have nba : decide ((7 : Int) < (n : Int)) = false := decide_eq_false (by omega)
  have nbb : ((7 : Int) < (n : Int)) = False := eq_false (by omega)
  have nc : decide (7 < n) = false := decide_eq_false (by omega)
  clear hn
  have KP := hid (fun W => r11Right_any p hf W)
  generalize p.right = r at *
  have ra : ((r) == (0)) = false := by rw [beq_eq_false_iff_ne]; exact hb
  have rb : ((r) = (0)) = False := eq_false (by exact hb)
  have rc : ((r) != (0)) = true := by rw [bne_iff_ne]; exact hb
  clear hb hf
  clear h hk
  go_enter Try.func33, Try.ntmps33
  go_upto_region 1 with fail
  generalize ((w.alloc (.cells (bunC p A k c) 29)).alloc (.cells (BV.c sec) 32)) = V at *
  have HPR : Hid (∀ e : Later V, e.x.rangeAt w.heap.size 0 p.c.toList) := HB.out.range 0 19 (by rw [Array.toList_extract]; rfl)
  have b19 : ∀ e : Later V, e.x.cell? ⟨w.heap.size, 19, none⟩ = some (.slice A k c) := HB.out.cellL 19 rfl
  obtain ⟨e, he⟩ := Later.self V
  rw [he]
  clear he
  go_wp2_with (first | (refine wpList_row (by rfl) 29 _ rfl _ rfl (HB.out.later _) Try.underlying29 rfl (by kernel_rfl) ?_) | (refine wpList_row (by rfl) 32 _ rfl _ rfl (HS.out.later _) Try.underlying32 rfl (by kernel_rfl) ?_) | (refine wpList_mid (by rfl) 26 _ rfl _ 0 rfl _ _ (HPR.out _) Try.underlying26 rfl (by kernel_rfl) ?_) | (go_at_call 12; refine (Ret.later (KA.out _)).mono ?_; rintro x _ ⟨rfl, e, rfl⟩) | (go_at_call 24; refine (Ret.later (KP.out _)).mono ?_; rintro x _ ⟨rfl, e, rfl⟩) | (go_at_call 17; first | ((with_reducible refine (Ret.later (KX.out _)).mono ?_); rintro x _ ⟨rfl, e, rfl⟩) | ((with_reducible refine (Ret.later (KS.out _)).mono ?_); rintro x _ ⟨rfl, e, rfl⟩)))
  go_ret3
  exact Ret.mk rfl (HE.out.trans e.h)
set_option maxRecDepth 20000 in
set_option maxHeartbeats 800000 in
theorem r16_pbad (p : PV) (sec : BV) (bs : Nat → BV) (k c : Nat) (A : Option Addr) (target : Int) (n : Nat) (hn : n < 8) (hf : p.fl < 18446744073709551616) (hb : p.right ≠ 0) (i : Nat) (hfo : firstOf (numB bs target) k = some i) (ht : target ≠ 0) (hk : k < 4611686018427387904) (w : World) (h : BsL w A k bs) : Calls Try.prog 33 #[bunV p A k c, .int .i64 target, sec.v, .int .i64 (n : Int)] w (Ret (.tuple #[str [], str [], .int .i64 (p.right)]) w) := by
  have HE := hid (((Mod.refl [] w).alloc (.cells (bunC p A k c) 29)).alloc (.cells (BV.c sec) 32))
  have HB := hid ((Blk.new w 29 (bunC p A k c)).alloc (.cells (BV.c sec) 32))
  have HS : Hid (Blk ((w.alloc (.cells (bunC p A k c) 29)).alloc (.cells (BV.c sec) 32)) (w.heap.size + 1) 32 (BV.c sec)) := Blk.newL _ _ _ (by simp)
  have HL := hid (BsL.ext h HE.out)
  have k1 : (k : Int) < 4611686018427387904 := by omega
  have KA : Hid (∀ e : Later ((w.alloc (.cells (bunC p A k c) 29)).alloc (.cells (BV.c sec) 32)), Calls Try.prog 12 #[bunV p A k c, .int .i64 target] e.x (Ret (.int .i64 (firstI (numB bs target) k)) e.x)) := fun e => At13_any p bs k c A target hk e.x (HL.out.ext e.h)
  unfold firstI at KA
  rw [hfo] at KA
  have hi := (firstOf_spec hfo).1
  obtain ⟨b, o, rfl, hb0, q0, q1, q2, q3, q4⟩ := HL.out.cells hi
  have i0 : (0 : Int) ≤ (i : Int) := by omega
  have i1 : (i : Int) < (k : Int) := by omega
  have tn : decide ((i : Int) < 0) = false := by simp
  have tc : decide (i < k) = true := by simp [hi]
  clear hi hfo
  have n0 : (0 : Int) ≤ (n : Int) := by omega
  have n8 : (n : Int) ≤ 7 := by omega
  have naa : decide ((n : Int) < 0) = false := decide_eq_false (by omega)
  have nab : ((n : Int) < 0) = False := eq_false (by omega)
  have nba : decide ((7 : Int) < (n : Int)) = false := decide_eq_false (by omega)
  have nbb : ((7 : Int) < (n : Int)) = False := eq_false (by omega)
  have nc : decide (7 < n) = false := decide_eq_false (by omega)
  clear hn
  have ta : ((target) == (0)) = false := by rw [beq_eq_false_iff_ne]; exact ht
  have tb : ((target) = (0)) = False := eq_false (by exact ht)
  have tc : ((target) != (0)) = true := by rw [bne_iff_ne]; exact ht
  clear ht
  have KP := hid (fun W => r11Right_any p hf W)
  generalize p.right = r at *
  have ra : ((r) == (0)) = false := by rw [beq_eq_false_iff_ne]; exact hb
  have rb : ((r) = (0)) = False := eq_false (by exact hb)
  have rc : ((r) != (0)) = true := by rw [bne_iff_ne]; exact hb
  clear hb hf
  clear h hk
  go_enter Try.func33, Try.ntmps33
  go_upto_region 1 with fail
  generalize ((w.alloc (.cells (bunC p (some ⟨b, o, none⟩) k c) 29)).alloc (.cells (BV.c sec) 32)) = V at *
  have HPR : Hid (∀ e : Later V, e.x.rangeAt w.heap.size 0 p.c.toList) := HB.out.range 0 19 (by rw [Array.toList_extract]; rfl)
  have b19 : ∀ e : Later V, e.x.cell? ⟨w.heap.size, 19, none⟩ = some (.slice (some ⟨b, o, none⟩) k c) := HB.out.cellL 19 rfl
  obtain ⟨e, he⟩ := Later.self V
  rw [he]
  clear he
  go_wp2_with (first | (refine wpList_row (by rfl) 29 _ rfl _ rfl (HB.out.later _) Try.underlying29 rfl (by kernel_rfl) ?_) | (refine wpList_row (by rfl) 32 _ rfl _ rfl (HS.out.later _) Try.underlying32 rfl (by kernel_rfl) ?_) | (refine wpList_mid (by rfl) 26 _ rfl _ 0 rfl _ _ (HPR.out _) Try.underlying26 rfl (by kernel_rfl) ?_) | (go_at_call 12; refine (Ret.later (KA.out _)).mono ?_; rintro x _ ⟨rfl, e, rfl⟩) | (go_at_call 24; refine (Ret.later (KP.out _)).mono ?_; rintro x _ ⟨rfl, e, rfl⟩) | (go_at_call 17; first | ((with_reducible refine (Ret.later (KX.out _)).mono ?_); rintro x _ ⟨rfl, e, rfl⟩) | ((with_reducible refine (Ret.later (KS.out _)).mono ?_); rintro x _ ⟨rfl, e, rfl⟩)))
  go_ret3
  exact Ret.mk rfl (HE.out.trans e.h)
set_option maxRecDepth 20000 in
set_option maxHeartbeats 800000 in
theorem r16_xbad (p : PV) (sec : BV) (bs : Nat → BV) (k c : Nat) (A : Option Addr) (target : Int) (n : Nat) (hn : n < 8) (hf : p.fl < 18446744073709551616) (hb : p.right = 0) (i : Nat) (hx : (bs i).right ≠ 0) (hfo : firstOf (numB bs target) k = some i) (ht : target ≠ 0) (hk : k < 4611686018427387904) (w : World) (h : BsL w A k bs) : Calls Try.prog 33 #[bunV p A k c, .int .i64 target, sec.v, .int .i64 (n : Int)] w (Ret (.tuple #[str [], str [], .int .i64 ((bs i).right)]) w) := by
  have HE := hid (((Mod.refl [] w).alloc (.cells (bunC p A k c) 29)).alloc (.cells (BV.c sec) 32))
  have HB := hid ((Blk.new w 29 (bunC p A k c)).alloc (.cells (BV.c sec) 32))
  have HS : Hid (Blk ((w.alloc (.cells (bunC p A k c) 29)).alloc (.cells (BV.c sec) 32)) (w.heap.size + 1) 32 (BV.c sec)) := Blk.newL _ _ _ (by simp)
  have HL := hid (BsL.ext h HE.out)
  have k1 : (k : Int) < 4611686018427387904 := by omega
  have KA : Hid (∀ e : Later ((w.alloc (.cells (bunC p A k c) 29)).alloc (.cells (BV.c sec) 32)), Calls Try.prog 12 #[bunV p A k c, .int .i64 target] e.x (Ret (.int .i64 (firstI (numB bs target) k)) e.x)) := fun e => At13_any p bs k c A target hk e.x (HL.out.ext e.h)
  unfold firstI at KA
  rw [hfo] at KA
  have hi := (firstOf_spec hfo).1
  obtain ⟨b, o, rfl, hb0, q0, q1, q2, q3, q4⟩ := HL.out.cells hi
  have i0 : (0 : Int) ≤ (i : Int) := by omega
  have i1 : (i : Int) < (k : Int) := by omega
  have tn : decide ((i : Int) < 0) = false := by simp
  have tc : decide (i < k) = true := by simp [hi]
  clear hi hfo
  have n0 : (0 : Int) ≤ (n : Int) := by omega
  have n8 : (n : Int) ≤ 7 := by omega
  have naa : decide ((n : Int) < 0) = false := decide_eq_false (by omega)
  have nab : ((n : Int) < 0) = False := eq_false (by omega)
  have nba : decide ((7 : Int) < (n : Int)) = false := decide_eq_false (by omega)
  have nbb : ((7 : Int) < (n : Int)) = False := eq_false (by omega)
  have nc : decide (7 < n) = false := decide_eq_false (by omega)
  clear hn
  have ta : ((target) == (0)) = false := by rw [beq_eq_false_iff_ne]; exact ht
  have tb : ((target) = (0)) = False := eq_false (by exact ht)
  have tc : ((target) != (0)) = true := by rw [bne_iff_ne]; exact ht
  clear ht
  have KP := hid (fun W => r11Right_any p hf W)
  rw [hb] at KP
  clear hb hf
  have KX := hid (fun W => rbRight_any (bs i) W)
  generalize (bs i).right = r at *
  have ra : ((r) == (0)) = false := by rw [beq_eq_false_iff_ne]; exact hx
  have rb : ((r) = (0)) = False := eq_false (by exact hx)
  have rc : ((r) != (0)) = true := by rw [bne_iff_ne]; exact hx
  clear hx
  clear h hk
  go_enter Try.func33, Try.ntmps33
  go_upto_region 1 with fail
  generalize ((w.alloc (.cells (bunC p (some ⟨b, o, none⟩) k c) 29)).alloc (.cells (BV.c sec) 32)) = V at *
  have HPR : Hid (∀ e : Later V, e.x.rangeAt w.heap.size 0 p.c.toList) := HB.out.range 0 19 (by rw [Array.toList_extract]; rfl)
  have b19 : ∀ e : Later V, e.x.cell? ⟨w.heap.size, 19, none⟩ = some (.slice (some ⟨b, o, none⟩) k c) := HB.out.cellL 19 rfl
  obtain ⟨e, he⟩ := Later.self V
  rw [he]
  clear he
  go_wp2_with (first | (refine wpList_row (by rfl) 29 _ rfl _ rfl (HB.out.later _) Try.underlying29 rfl (by kernel_rfl) ?_) | (refine wpList_row (by rfl) 32 _ rfl _ rfl (HS.out.later _) Try.underlying32 rfl (by kernel_rfl) ?_) | (refine wpList_mid (by rfl) 26 _ rfl _ 0 rfl _ _ (HPR.out _) Try.underlying26 rfl (by kernel_rfl) ?_) | (go_at_call 12; refine (Ret.later (KA.out _)).mono ?_; rintro x _ ⟨rfl, e, rfl⟩) | (go_at_call 24; refine (Ret.later (KP.out _)).mono ?_; rintro x _ ⟨rfl, e, rfl⟩) | (go_at_call 17; first | ((with_reducible refine (Ret.later (KX.out _)).mono ?_); rintro x _ ⟨rfl, e, rfl⟩) | ((with_reducible refine (Ret.later (KS.out _)).mono ?_); rintro x _ ⟨rfl, e, rfl⟩)))
  go_ret3
  exact Ret.mk rfl (HE.out.trans e.h)
set_option maxRecDepth 20000 in
set_option maxHeartbeats 800000 in
theorem r16_sbad0 (p : PV) (sec : BV) (bs : Nat → BV) (k c : Nat) (A : Option Addr)  (n : Nat) (hn : n < 8) (hf : p.fl < 18446744073709551616) (hb : p.right = 0) (hs : sec.right ≠ 0) (hk : k < 4611686018427387904) (w : World) (h : BsL w A k bs) : Calls Try.prog 33 #[bunV p A k c, .int .i64 0, sec.v, .int .i64 (n : Int)] w (Ret (.tuple #[str [], str [], .int .i64 (sec.right)]) w) := by
  have HE := hid (((Mod.refl [] w).alloc (.cells (bunC p A k c) 29)).alloc (.cells (BV.c sec) 32))
  have HB := hid ((Blk.new w 29 (bunC p A k c)).alloc (.cells (BV.c sec) 32))
  have HS : Hid (Blk ((w.alloc (.cells (bunC p A k c) 29)).alloc (.cells (BV.c sec) 32)) (w.heap.size + 1) 32 (BV.c sec)) := Blk.newL _ _ _ (by simp)
  have HL := hid (BsL.ext h HE.out)
  have k1 : (k : Int) < 4611686018427387904 := by omega
  have KA : Hid (∀ e : Later ((w.alloc (.cells (bunC p A k c) 29)).alloc (.cells (BV.c sec) 32)), Calls Try.prog 12 #[bunV p A k c, .int .i64 0] e.x (Ret (.int .i64 (firstI (numB bs 0) k)) e.x)) := fun e => At13_any p bs k c A 0 hk e.x (HL.out.ext e.h)
  generalize firstI (numB bs 0) k = at0 at *
  have n0 : (0 : Int) ≤ (n : Int) := by omega
  have n8 : (n : Int) ≤ 7 := by omega
  have naa : decide ((n : Int) < 0) = false := decide_eq_false (by omega)
  have nab : ((n : Int) < 0) = False := eq_false (by omega)
  have nba : decide ((7 : Int) < (n : Int)) = false := decide_eq_false (by omega)
  have nbb : ((7 : Int) < (n : Int)) = False := eq_false (by omega)
  have nc : decide (7 < n) = false := decide_eq_false (by omega)
  clear hn
  have KP := hid (fun W => r11Right_any p hf W)
  rw [hb] at KP
  clear hb hf
  have KS := hid (fun W => rbRight_any sec W)
  generalize sec.right = r at *
  have ra : ((r) == (0)) = false := by rw [beq_eq_false_iff_ne]; exact hs
  have rb : ((r) = (0)) = False := eq_false (by exact hs)
  have rc : ((r) != (0)) = true := by rw [bne_iff_ne]; exact hs
  clear hs
  clear h hk
  go_enter Try.func33, Try.ntmps33
  go_upto_region 1 with fail
  generalize ((w.alloc (.cells (bunC p A k c) 29)).alloc (.cells (BV.c sec) 32)) = V at *
  have HPR : Hid (∀ e : Later V, e.x.rangeAt w.heap.size 0 p.c.toList) := HB.out.range 0 19 (by rw [Array.toList_extract]; rfl)
  have b19 : ∀ e : Later V, e.x.cell? ⟨w.heap.size, 19, none⟩ = some (.slice A k c) := HB.out.cellL 19 rfl
  obtain ⟨e, he⟩ := Later.self V
  rw [he]
  clear he
  go_wp2_with (first | (refine wpList_row (by rfl) 29 _ rfl _ rfl (HB.out.later _) Try.underlying29 rfl (by kernel_rfl) ?_) | (refine wpList_row (by rfl) 32 _ rfl _ rfl (HS.out.later _) Try.underlying32 rfl (by kernel_rfl) ?_) | (refine wpList_mid (by rfl) 26 _ rfl _ 0 rfl _ _ (HPR.out _) Try.underlying26 rfl (by kernel_rfl) ?_) | (go_at_call 12; refine (Ret.later (KA.out _)).mono ?_; rintro x _ ⟨rfl, e, rfl⟩) | (go_at_call 24; refine (Ret.later (KP.out _)).mono ?_; rintro x _ ⟨rfl, e, rfl⟩) | (go_at_call 17; first | ((with_reducible refine (Ret.later (KX.out _)).mono ?_); rintro x _ ⟨rfl, e, rfl⟩) | ((with_reducible refine (Ret.later (KS.out _)).mono ?_); rintro x _ ⟨rfl, e, rfl⟩)))
  go_ret3
  exact Ret.mk rfl (HE.out.trans e.h)
set_option maxRecDepth 20000 in
set_option maxHeartbeats 800000 in
theorem r16_sbad (p : PV) (sec : BV) (bs : Nat → BV) (k c : Nat) (A : Option Addr) (target : Int) (n : Nat) (hn : n < 8) (hf : p.fl < 18446744073709551616) (hb : p.right = 0) (i : Nat) (hx : (bs i).right = 0) (hs : sec.right ≠ 0) (hfo : firstOf (numB bs target) k = some i) (ht : target ≠ 0) (hk : k < 4611686018427387904) (w : World) (h : BsL w A k bs) : Calls Try.prog 33 #[bunV p A k c, .int .i64 target, sec.v, .int .i64 (n : Int)] w (Ret (.tuple #[str [], str [], .int .i64 (sec.right)]) w) := by
  have HE := hid (((Mod.refl [] w).alloc (.cells (bunC p A k c) 29)).alloc (.cells (BV.c sec) 32))
  have HB := hid ((Blk.new w 29 (bunC p A k c)).alloc (.cells (BV.c sec) 32))
  have HS : Hid (Blk ((w.alloc (.cells (bunC p A k c) 29)).alloc (.cells (BV.c sec) 32)) (w.heap.size + 1) 32 (BV.c sec)) := Blk.newL _ _ _ (by simp)
  have HL := hid (BsL.ext h HE.out)
  have k1 : (k : Int) < 4611686018427387904 := by omega
  have KA : Hid (∀ e : Later ((w.alloc (.cells (bunC p A k c) 29)).alloc (.cells (BV.c sec) 32)), Calls Try.prog 12 #[bunV p A k c, .int .i64 target] e.x (Ret (.int .i64 (firstI (numB bs target) k)) e.x)) := fun e => At13_any p bs k c A target hk e.x (HL.out.ext e.h)
  unfold firstI at KA
  rw [hfo] at KA
  have hi := (firstOf_spec hfo).1
  obtain ⟨b, o, rfl, hb0, q0, q1, q2, q3, q4⟩ := HL.out.cells hi
  have i0 : (0 : Int) ≤ (i : Int) := by omega
  have i1 : (i : Int) < (k : Int) := by omega
  have tn : decide ((i : Int) < 0) = false := by simp
  have tc : decide (i < k) = true := by simp [hi]
  clear hi hfo
  have n0 : (0 : Int) ≤ (n : Int) := by omega
  have n8 : (n : Int) ≤ 7 := by omega
  have naa : decide ((n : Int) < 0) = false := decide_eq_false (by omega)
  have nab : ((n : Int) < 0) = False := eq_false (by omega)
  have nba : decide ((7 : Int) < (n : Int)) = false := decide_eq_false (by omega)
  have nbb : ((7 : Int) < (n : Int)) = False := eq_false (by omega)
  have nc : decide (7 < n) = false := decide_eq_false (by omega)
  clear hn
  have ta : ((target) == (0)) = false := by rw [beq_eq_false_iff_ne]; exact ht
  have tb : ((target) = (0)) = False := eq_false (by exact ht)
  have tc : ((target) != (0)) = true := by rw [bne_iff_ne]; exact ht
  clear ht
  have KP := hid (fun W => r11Right_any p hf W)
  rw [hb] at KP
  clear hb hf
  have KX := hid (fun W => rbRight_any (bs i) W)
  rw [hx] at KX
  clear hx
  have KS := hid (fun W => rbRight_any sec W)
  generalize sec.right = r at *
  have ra : ((r) == (0)) = false := by rw [beq_eq_false_iff_ne]; exact hs
  have rb : ((r) = (0)) = False := eq_false (by exact hs)
  have rc : ((r) != (0)) = true := by rw [bne_iff_ne]; exact hs
  clear hs
  clear h hk
  go_enter Try.func33, Try.ntmps33
  go_upto_region 1 with fail
  generalize ((w.alloc (.cells (bunC p (some ⟨b, o, none⟩) k c) 29)).alloc (.cells (BV.c sec) 32)) = V at *
  have HPR : Hid (∀ e : Later V, e.x.rangeAt w.heap.size 0 p.c.toList) := HB.out.range 0 19 (by rw [Array.toList_extract]; rfl)
  have b19 : ∀ e : Later V, e.x.cell? ⟨w.heap.size, 19, none⟩ = some (.slice (some ⟨b, o, none⟩) k c) := HB.out.cellL 19 rfl
  obtain ⟨e, he⟩ := Later.self V
  rw [he]
  clear he
  go_wp2_with (first | (refine wpList_row (by rfl) 29 _ rfl _ rfl (HB.out.later _) Try.underlying29 rfl (by kernel_rfl) ?_) | (refine wpList_row (by rfl) 32 _ rfl _ rfl (HS.out.later _) Try.underlying32 rfl (by kernel_rfl) ?_) | (refine wpList_mid (by rfl) 26 _ rfl _ 0 rfl _ _ (HPR.out _) Try.underlying26 rfl (by kernel_rfl) ?_) | (go_at_call 12; refine (Ret.later (KA.out _)).mono ?_; rintro x _ ⟨rfl, e, rfl⟩) | (go_at_call 24; refine (Ret.later (KP.out _)).mono ?_; rintro x _ ⟨rfl, e, rfl⟩) | (go_at_call 17; first | ((with_reducible refine (Ret.later (KX.out _)).mono ?_); rintro x _ ⟨rfl, e, rfl⟩) | ((with_reducible refine (Ret.later (KS.out _)).mono ?_); rintro x _ ⟨rfl, e, rfl⟩)))
  go_ret3
  exact Ret.mk rfl (HE.out.trans e.h)
end Go.Proofs.Ytkeabdfgacicaaa


namespace Go.Proofs.Ytkeabdfgacicaaa
open Go.RowKit
set_option linter.unusedVariables false
set_option linter.unusedSimpArgs false

theorem r12Hdr_any {b : BV} (h : b.right = 0) (w : World) : Calls Try.prog 63 #[b.v] w (Ret (str b.hdr) w) := by
  have hz := BV.right_zero h
  obtain ⟨ty, num, e⟩ := bv_nat h
  rw [e] at hz ⊢
  simp only [] at hz
  simpa [BV.hdr] using rHeader_ok ty num b.fl b.crc b.data (by unfold Hid; omega) (by unfold Hid; omega) (by unfold Hid; omega) w
set_option maxRecDepth 20000 in
set_option maxHeartbeats 4000000 in
theorem r16_ok0 (p : PV) (sec : BV) (bs : Nat → BV) (k c : Nat) (A : Option Addr)  (n : Nat) (hn : n < 8) (hb : p.right = 0) (hs : sec.right = 0) (hk : k < 4611686018427387904) (w : World) (h : BsL w A k bs) : Calls Try.prog 33 #[bunV p A k c, .int .i64 0, sec.v, .int .i64 (n : Int)] w (Ret (.tuple #[str (besB p.plain.bytes [] sec.hdr 0 n), str p.plain.bytes, .int .i64 0]) w) := by
  have HE := hid (((Mod.refl [] w).alloc (.cells (bunC p A k c) 29)).alloc (.cells (BV.c sec) 32))
  have HB := hid ((Blk.new w 29 (bunC p A k c)).alloc (.cells (BV.c sec) 32))
  have HS : Hid (Blk ((w.alloc (.cells (bunC p A k c) 29)).alloc (.cells (BV.c sec) 32)) (w.heap.size + 1) 32 (BV.c sec)) := Blk.newL _ _ _ (by simp)
  have HL := hid (BsL.ext h HE.out)
  have k1 : (k : Int) < 4611686018427387904 := by omega
  have KA : Hid (∀ e : Later ((w.alloc (.cells (bunC p A k c) 29)).alloc (.cells (BV.c sec) 32)), Calls Try.prog 12 #[bunV p A k c, .int .i64 0] e.x (Ret (.int .i64 (firstI (numB bs 0) k)) e.x)) := fun e => At13_any p bs k c A 0 hk e.x (HL.out.ext e.h)
  have hrs := PV.ranged_spec (PV.right_ranged hb)
  have KP := hid (fun W => r11Right_any p (by omega) W)
  rw [hb] at KP
  have KL := hid (fun W => r11Plain_ok p hb W)
  have lB : p.plain.bytes.length ≤ 40000 := PV.bytes_length (PV.right_ranged (PV.plain_right hb))
  have KS := hid (fun W => rbRight_any sec W)
  rw [hs] at KS
  have HH := hid (fun W => r12Hdr_any hs W)
  have lH : sec.hdr.length ≤ 100 := by have a := headL_le 0 sec.ty.toNat; have b := headL_le 0 sec.num.toNat; have d := headL_le 0 sec.fl; unfold BV.hdr; simp only [List.length_append]; omega
  generalize firstI (numB bs 0) k = at0 at *
  generalize p.plain.bytes = PB at *
  generalize sec.hdr = SH at *
  have hcv := convByte
  clear h hk hrs hb hs


  obtain ⟨s, hsn⟩ : ∃ s : Int, s = (n : Int) := ⟨_, rfl⟩
  rw [← hsn]
  have h8 : Hid ((s = 0 ∧ n = 0) ∨ (s = 1 ∧ n = 1) ∨ (s = 2 ∧ n = 2) ∨ (s = 3 ∧ n = 3) ∨ (s = 4 ∧ n = 4) ∨ (s = 5 ∧ n = 5) ∨ (s = 6 ∧ n = 6) ∨ (s = 7 ∧ n = 7)) := by unfold Hid; omega
  have s0 : (0 : Int) ≤ s := by omega
  have s8 : s ≤ 7 := by omega
  have saa : decide (s < 0) = false := decide_eq_false (by omega)
  have sab : (s < 0) = False := eq_false (by omega)
  have sba : decide ((7 : Int) < s) = false := decide_eq_false (by omega)
  have sbb : ((7 : Int) < s) = False := eq_false (by omega)
  clear hn hsn
  go_enter Try.func33, Try.ntmps33
  go_upto_region 1 with fail
  generalize ((w.alloc (.cells (bunC p A k c) 29)).alloc (.cells (BV.c sec) 32)) = V at *
  have HPR : Hid (∀ e : Later V, e.x.rangeAt w.heap.size 0 p.c.toList) := HB.out.range 0 19 (by rw [Array.toList_extract]; rfl)
  have b19 : ∀ e : Later V, e.x.cell? ⟨w.heap.size, 19, none⟩ = some (.slice A k c) := HB.out.cellL 19 rfl
  obtain ⟨e, he⟩ := Later.self V
  rw [he]
  clear he
  go_upto_region 17 with (first | (refine wpList_row (by rfl) 29 _ rfl _ rfl (HB.out.later _) Try.underlying29 rfl (by kernel_rfl) ?_) | (refine wpList_row (by rfl) 32 _ rfl _ rfl (HS.out.later _) Try.underlying32 rfl (by kernel_rfl) ?_) | (refine wpList_mid (by rfl) 26 _ rfl _ 0 rfl _ _ (HPR.out _) Try.underlying26 rfl (by kernel_rfl) ?_) | (go_at_call 12; refine (Ret.later (KA.out _)).mono ?_; rintro x _ ⟨rfl, e, rfl⟩) | (go_at_call 24; refine (Ret.later (KP.out _)).mono ?_; rintro x _ ⟨rfl, e, rfl⟩) | (go_at_call 17; first | ((with_reducible refine (Ret.later (KX.out _)).mono ?_); rintro x _ ⟨rfl, e, rfl⟩) | ((with_reducible refine (Ret.later (KS.out _)).mono ?_); rintro x _ ⟨rfl, e, rfl⟩)))
  clear saa sab sba sbb s0 s8
  rcases h8.out with ⟨rfl, rfl⟩ | ⟨rfl, rfl⟩ | ⟨rfl, rfl⟩ | ⟨rfl, rfl⟩ | ⟨rfl, rfl⟩ | ⟨rfl, rfl⟩ | ⟨rfl, rfl⟩ | ⟨rfl, rfl⟩
  all_goals clear h8
  all_goals generalize hU : World.alloc e.x _ = U
  all_goals obtain ⟨e2, rfl⟩ : ∃ e2 : Later V, U = e2.x := ⟨⟨U, by rw [← hU]; exact (Later.h e).alloc _⟩, rfl⟩
  all_goals clear hU
  all_goals go_wp2_with (first | (refine wpList_row (by rfl) 32 _ rfl _ rfl (HS.out.later _) Try.underlying32 rfl (by kernel_rfl) ?_) | (refine wpList_cat (by rfl) _ _ _ _ rfl _ _ rfl rfl (by (try simp only [List.length_append, List.length_cons, List.length_nil]); omega) ?_) | (refine wpList_mid (by rfl) 26 _ rfl _ 0 rfl _ _ (HPR.out _) Try.underlying26 rfl (by kernel_rfl) ?_) | (go_at_call 61; refine (Ret.laterW (by first | exact (Later.h _).alloc _ | exact Later.h _) (KL.out _)).mono ?_; rintro x _ ⟨rfl, e, rfl⟩) | (go_at_call 63; first | ((with_reducible refine (Ret.later (HX.out _)).mono ?_); rintro x _ ⟨rfl, e, rfl⟩) | ((with_reducible refine (Ret.later (HH.out _)).mono ?_); rintro x _ ⟨rfl, e, rfl⟩)) | (go_at_call 62; refine (Ret.later (KB.out _)).mono ?_; rintro x _ ⟨rfl, e, rfl⟩))
  all_goals go_ret3
  all_goals refine Ret.mk ?_ (HE.out.trans (Later.h _))
  all_goals simp [besB]
  all_goals rfl
set_option maxRecDepth 20000 in
set_option maxHeartbeats 4000000 in
theorem r16_okT (p : PV) (sec : BV) (bs : Nat → BV) (k c : Nat) (A : Option Addr) (target : Int) (n : Nat) (hn : n < 8) (hb : p.right = 0) (hs : sec.right = 0) (i : Nat) (hx : (bs i).right = 0) (hfo : firstOf (numB bs target) k = some i) (ht : target ≠ 0) (hd : (bs i).data.length ≤ 100000) (hk : k < 4611686018427387904) (w : World) (h : BsL w A k bs) : Calls Try.prog 33 #[bunV p A k c, .int .i64 target, sec.v, .int .i64 (n : Int)] w (Ret (.tuple #[str (besB p.plain.bytes (bs i).hdr sec.hdr target n), str (headL 2 (bs i).data.length ++ (bs i).data), .int .i64 0]) w) := by
  have HE := hid (((Mod.refl [] w).alloc (.cells (bunC p A k c) 29)).alloc (.cells (BV.c sec) 32))
  have HB := hid ((Blk.new w 29 (bunC p A k c)).alloc (.cells (BV.c sec) 32))
  have HS : Hid (Blk ((w.alloc (.cells (bunC p A k c) 29)).alloc (.cells (BV.c sec) 32)) (w.heap.size + 1) 32 (BV.c sec)) := Blk.newL _ _ _ (by simp)
  have HL := hid (BsL.ext h HE.out)
  have k1 : (k : Int) < 4611686018427387904 := by omega
  have KA : Hid (∀ e : Later ((w.alloc (.cells (bunC p A k c) 29)).alloc (.cells (BV.c sec) 32)), Calls Try.prog 12 #[bunV p A k c, .int .i64 target] e.x (Ret (.int .i64 (firstI (numB bs target) k)) e.x)) := fun e => At13_any p bs k c A target hk e.x (HL.out.ext e.h)
  have hrs := PV.ranged_spec (PV.right_ranged hb)
  have KP := hid (fun W => r11Right_any p (by omega) W)
  rw [hb] at KP
  have KL := hid (fun W => r11Plain_ok p hb W)
  have lB : p.plain.bytes.length ≤ 40000 := PV.bytes_length (PV.right_ranged (PV.plain_right hb))
  have KS := hid (fun W => rbRight_any sec W)
  rw [hs] at KS
  have HH := hid (fun W => r12Hdr_any hs W)
  have lH : sec.hdr.length ≤ 100 := by have a := headL_le 0 sec.ty.toNat; have b := headL_le 0 sec.num.toNat; have d := headL_le 0 sec.fl; unfold BV.hdr; simp only [List.length_append]; omega
  have KX := hid (fun W => rbRight_any (bs i) W)
  rw [hx] at KX
  have HX := hid (fun W => r12Hdr_any hx W)
  have lX : (bs i).hdr.length ≤ 100 := by have a := headL_le 0 (bs i).ty.toNat; have b := headL_le 0 (bs i).num.toNat; have d := headL_le 0 (bs i).fl; unfold BV.hdr; simp only [List.length_append]; omega
  have KB := hid (fun W => rBytes_any (bs i).data (by unfold Hid; omega) W)
  unfold firstI at KA
  rw [hfo] at KA
  have hi := (firstOf_spec hfo).1
  obtain ⟨b, o, rfl, hb0, q0, q1, q2, q3, q4⟩ := HL.out.cells hi
  have i0 : (0 : Int) ≤ (i : Int) := by omega
  have i1 : (i : Int) < (k : Int) := by omega
  have tn : decide ((i : Int) < 0) = false := by simp
  have tc : decide (i < k) = true := by simp [hi]
  clear hi hfo
  generalize headL 2 (bs i).data.length ++ (bs i).data = D at *
  generalize (bs i).hdr = XH at *
  have ta : ((target) == (0)) = false := by rw [beq_eq_false_iff_ne]; exact ht
  have tb : ((target) = (0)) = False := eq_false (by exact ht)
  have tc : ((target) != (0)) = true := by rw [bne_iff_ne]; exact ht
  have HT := hid ht
  clear ht hx hd
  generalize p.plain.bytes = PB at *
  generalize sec.hdr = SH at *
  have hcv := convByte
  clear h hk hrs hb hs


  obtain ⟨s, hsn⟩ : ∃ s : Int, s = (n : Int) := ⟨_, rfl⟩
  rw [← hsn]
  have h8 : Hid ((s = 0 ∧ n = 0) ∨ (s = 1 ∧ n = 1) ∨ (s = 2 ∧ n = 2) ∨ (s = 3 ∧ n = 3) ∨ (s = 4 ∧ n = 4) ∨ (s = 5 ∧ n = 5) ∨ (s = 6 ∧ n = 6) ∨ (s = 7 ∧ n = 7)) := by unfold Hid; omega
  have s0 : (0 : Int) ≤ s := by omega
  have s8 : s ≤ 7 := by omega
  have saa : decide (s < 0) = false := decide_eq_false (by omega)
  have sab : (s < 0) = False := eq_false (by omega)
  have sba : decide ((7 : Int) < s) = false := decide_eq_false (by omega)
  have sbb : ((7 : Int) < s) = False := eq_false (by omega)
  clear hn hsn
  go_enter Try.func33, Try.ntmps33
  go_upto_region 1 with fail
  generalize ((w.alloc (.cells (bunC p (some ⟨b, o, none⟩) k c) 29)).alloc (.cells (BV.c sec) 32)) = V at *
  have HPR : Hid (∀ e : Later V, e.x.rangeAt w.heap.size 0 p.c.toList) := HB.out.range 0 19 (by rw [Array.toList_extract]; rfl)
  have b19 : ∀ e : Later V, e.x.cell? ⟨w.heap.size, 19, none⟩ = some (.slice (some ⟨b, o, none⟩) k c) := HB.out.cellL 19 rfl
  obtain ⟨e, he⟩ := Later.self V
  rw [he]
  clear he
  go_upto_region 17 with (first | (refine wpList_row (by rfl) 29 _ rfl _ rfl (HB.out.later _) Try.underlying29 rfl (by kernel_rfl) ?_) | (refine wpList_row (by rfl) 32 _ rfl _ rfl (HS.out.later _) Try.underlying32 rfl (by kernel_rfl) ?_) | (refine wpList_mid (by rfl) 26 _ rfl _ 0 rfl _ _ (HPR.out _) Try.underlying26 rfl (by kernel_rfl) ?_) | (go_at_call 12; refine (Ret.later (KA.out _)).mono ?_; rintro x _ ⟨rfl, e, rfl⟩) | (go_at_call 24; refine (Ret.later (KP.out _)).mono ?_; rintro x _ ⟨rfl, e, rfl⟩) | (go_at_call 17; first | ((with_reducible refine (Ret.later (KX.out _)).mono ?_); rintro x _ ⟨rfl, e, rfl⟩) | ((with_reducible refine (Ret.later (KS.out _)).mono ?_); rintro x _ ⟨rfl, e, rfl⟩)))
  clear saa sab sba sbb s0 s8
  rcases h8.out with ⟨rfl, rfl⟩ | ⟨rfl, rfl⟩ | ⟨rfl, rfl⟩ | ⟨rfl, rfl⟩ | ⟨rfl, rfl⟩ | ⟨rfl, rfl⟩ | ⟨rfl, rfl⟩ | ⟨rfl, rfl⟩
  all_goals clear h8
  all_goals generalize hU : World.alloc e.x _ = U
  all_goals obtain ⟨e2, rfl⟩ : ∃ e2 : Later V, U = e2.x := ⟨⟨U, by rw [← hU]; exact (Later.h e).alloc _⟩, rfl⟩
  all_goals clear hU
  all_goals go_wp2_with (first | (refine wpList_row (by rfl) 32 _ rfl _ rfl (HS.out.later _) Try.underlying32 rfl (by kernel_rfl) ?_) | (refine wpList_cat (by rfl) _ _ _ _ rfl _ _ rfl rfl (by (try simp only [List.length_append, List.length_cons, List.length_nil]); omega) ?_) | (refine wpList_mid (by rfl) 26 _ rfl _ 0 rfl _ _ (HPR.out _) Try.underlying26 rfl (by kernel_rfl) ?_) | (go_at_call 61; refine (Ret.laterW (by first | exact (Later.h _).alloc _ | exact Later.h _) (KL.out _)).mono ?_; rintro x _ ⟨rfl, e, rfl⟩) | (go_at_call 63; first | ((with_reducible refine (Ret.later (HX.out _)).mono ?_); rintro x _ ⟨rfl, e, rfl⟩) | ((with_reducible refine (Ret.later (HH.out _)).mono ?_); rintro x _ ⟨rfl, e, rfl⟩)) | (go_at_call 62; refine (Ret.later (KB.out _)).mono ?_; rintro x _ ⟨rfl, e, rfl⟩))
  all_goals go_ret3
  all_goals refine Ret.mk ?_ (HE.out.trans (Later.h _))
  all_goals simp [besB, HT.out]
  all_goals rfl
end Go.Proofs.Ytkeabdfgacicaaa


namespace Go.Proofs.Ytkeabdfgacicaaa
open Go.RowKit
set_option linter.unusedVariables false
set_option linter.unusedSimpArgs false

/-- What ref16.beside answers. -/
def r16Of (p : PV) (sec : BV) (bs : Nat → BV) (k : Nat) (target s : Int) : List UInt8 × List UInt8 × Int :=
  if s < 0 ∨ 7 < s then ([], [], 1)
  else if target = 0 then (if p.right ≠ 0 then ([], [], p.right) else if sec.right ≠ 0 then ([], [], sec.right) else (besB p.plain.bytes [] sec.hdr 0 s.toNat, p.plain.bytes, 0))
  else match firstOf (numB bs target) k with
    | none => ([], [], 15)
    | some i => if p.right ≠ 0 then ([], [], p.right) else if (bs i).right ≠ 0 then ([], [], (bs i).right) else if sec.right ≠ 0 then ([], [], sec.right)
        else (besB p.plain.bytes (bs i).hdr sec.hdr target s.toNat, headL 2 (bs i).data.length ++ (bs i).data, 0)
theorem besB_length {pr tg sc : List UInt8} {target : Int} {n : Nat} (h1 : pr.length ≤ 100000) (h2 : tg.length ≤ 100000) (h3 : sc.length ≤ 100000) : (besB pr tg sc target n).length ≤ 400000 := by
  have := headL_le 0 n
  unfold besB
  simp only [List.length_append]
  split <;> split <;> split <;> simp <;> omega
theorem hdr_length (b : BV) : b.hdr.length ≤ 100 := by have a := headL_le 0 b.ty.toNat; have c := headL_le 0 b.num.toNat; have d := headL_le 0 b.fl; unfold BV.hdr; simp only [List.length_append]; omega
theorem plain_length {p : PV} (h : p.right = 0) : p.plain.bytes.length ≤ 40000 := PV.bytes_length (PV.right_ranged (PV.plain_right h))
theorem r16Of_length {p : PV} {sec : BV} {bs : Nat → BV} {k : Nat} {target s : Int} (hd : ∀ i, i < k → (bs i).data.length ≤ 100000) : (r16Of p sec bs k target s).1.length ≤ 400000 ∧ (r16Of p sec bs k target s).2.1.length ≤ 200000 := by
  unfold r16Of
  by_cases c1 : s < 0 ∨ 7 < s
  · rw [if_pos c1]; simp
  · rw [if_neg c1]
    by_cases ht : target = 0
    · rw [if_pos ht]
      by_cases hb : p.right = 0
      · rw [if_neg (by simpa using hb)]
        have := plain_length hb
        by_cases hs : sec.right = 0
        · rw [if_neg (by simpa using hs)]
          exact ⟨besB_length (by omega) (by simp) (by have := hdr_length sec; omega), by show p.plain.bytes.length ≤ _; omega⟩
        · rw [if_pos hs]; simp
      · rw [if_pos hb]; simp
    · rw [if_neg ht]
      cases hfo : firstOf (numB bs target) k with
      | none => simp
      | some i =>
        have hi := (firstOf_spec hfo).1
        have := hd i hi
        have := headL_le 2 (bs i).data.length
        dsimp only
        by_cases hb : p.right = 0
        · rw [if_neg (by simpa using hb)]
          have := plain_length hb
          by_cases hx : (bs i).right = 0
          · rw [if_neg (by simpa using hx)]
            by_cases hs : sec.right = 0
            · rw [if_neg (by simpa using hs)]
              exact ⟨besB_length (by omega) (by have := hdr_length (bs i); omega) (by have := hdr_length sec; omega), by simp only [List.length_append]; omega⟩
            · rw [if_pos hs]; simp
          · rw [if_pos hx]; simp
        · rw [if_pos hb]; simp
theorem r16_any (p : PV) (sec : BV) (bs : Nat → BV) (k c : Nat) (A : Option Addr) (target s : Int) (hf : p.fl < 18446744073709551616) (hk : k < 4611686018427387904) (hd : ∀ i, i < k → (bs i).data.length ≤ 100000) (w : World) (h : BsL w A k bs) :
    Calls Try.prog 33 #[bunV p A k c, .int .i64 target, sec.v, .int .i64 s] w (Ret (.tuple #[str (r16Of p sec bs k target s).1, str (r16Of p sec bs k target s).2.1, .int .i64 (r16Of p sec bs k target s).2.2]) w) := by
  unfold r16Of
  by_cases c1 : s < 0 ∨ 7 < s
  · rw [if_pos c1]
    rcases c1 with c1 | c1
    · exact r16_neg p sec bs k c A target s c1 hk w h
    · exact r16_big p sec bs k c A target s c1 hk w h
  · rw [if_neg c1]
    obtain ⟨n, rfl⟩ : ∃ n : Nat, s = (n : Int) := ⟨s.toNat, by omega⟩
    have hn : n < 8 := by omega
    simp only [Int.toNat_natCast]
    by_cases ht : target = 0
    · subst ht
      rw [if_pos rfl]
      by_cases hb : p.right = 0
      · rw [if_neg (by simpa using hb)]
        by_cases hs : sec.right = 0
        · rw [if_neg (by simpa using hs)]; exact r16_ok0 p sec bs k c A n hn hb hs hk w h
        · rw [if_pos hs]; exact r16_sbad0 p sec bs k c A n hn hf hb hs hk w h
      · rw [if_pos hb]; exact r16_pbad0 p sec bs k c A n hn hf hb hk w h
    · rw [if_neg ht]
      cases hfo : firstOf (numB bs target) k with
      | none => exact r16_none p sec bs k c A target n hn hfo ht hk w h
      | some i =>
        dsimp only
        by_cases hb : p.right = 0
        · rw [if_neg (by simpa using hb)]
          by_cases hx : (bs i).right = 0
          · rw [if_neg (by simpa using hx)]
            by_cases hs : sec.right = 0
            · rw [if_neg (by simpa using hs)]; exact r16_okT p sec bs k c A target n hn hb hs i hx hfo ht (hd i (firstOf_spec hfo).1) hk w h
            · rw [if_pos hs]; exact r16_sbad p sec bs k c A target n hn hf hb i hx hs hfo ht hk w h
          · rw [if_pos hx]; exact r16_xbad p sec bs k c A target n hn hf hb i hx hfo ht hk w h
        · rw [if_pos hb]; exact r16_pbad p sec bs k c A target n hn hf hb i hfo ht hk w h
/-- What Text answers. -/
def sText (p : PV) (sec : BV) (bs : Nat → BV) (k : Nat) (target s : Int) : List UInt8 × Int := ((r16Of p sec bs k target s).1 ++ (r16Of p sec bs k target s).2.1, (r16Of p sec bs k target s).2.2)
/-- What Beside answers. -/
def sBes (p : PV) (sec : BV) (bs : Nat → BV) (k : Nat) (target s : Int) : List UInt8 × Int :=
  if (0 ≤ s ∧ s ≤ 7) ∧ target = 0 then ([], 8) else ((r16Of p sec bs k target s).1, (r16Of p sec bs k target s).2.2)
def tv (r : List UInt8 × Int) : Value := .tuple #[str r.1, .int .i64 r.2]
set_option maxRecDepth 20000 in
theorem rSText_any (p : PV) (sec : BV) (bs : Nat → BV) (k c : Nat) (A : Option Addr) (target s : Int) (hf : p.fl < 18446744073709551616) (hk : k < 4611686018427387904) (hd : ∀ i, i < k → (bs i).data.length ≤ 100000) (w : World) (h : BsL w A k bs) : Calls Try.prog 11 #[bunV p A k c, .int .i64 target, sec.v, .int .i64 s] w (Ret (tv (sText p sec bs k target s)) w) := by
  show Calls _ _ _ _ (Ret (.tuple #[str ((r16Of p sec bs k target s).1 ++ (r16Of p sec bs k target s).2.1), .int .i64 (r16Of p sec bs k target s).2.2]) w)
  have hl := r16Of_length (p := p) (sec := sec) (bs := bs) (k := k) (target := target) (s := s) hd
  generalize hX : r16Of p sec bs k target s = X at *
  have HE := hid (((Mod.refl [] w).alloc (.cells (bunC p A k c) 29)).alloc (.cells (BV.c sec) 32))
  have HB0 : Hid (Blk ((w.alloc (.cells (bunC p A k c) 29)).alloc (.cells (BV.c sec) 32)) w.heap.size 29 (bunC p A k c)) := hid ((Blk.new w 29 (bunC p A k c)).alloc (.cells (BV.c sec) 32))
  have HB1 : Hid (Blk ((w.alloc (.cells (bunC p A k c) 29)).alloc (.cells (BV.c sec) 32)) (w.heap.size + 1) 32 (BV.c sec)) := by unfold Hid; exact Blk.newL _ _ _ (by simp)
  have KB : Hid (∀ e : Later ((w.alloc (.cells (bunC p A k c) 29)).alloc (.cells (BV.c sec) 32)), Calls Try.prog 33 #[bunV p A k c, .int .i64 target, sec.v, .int .i64 s] e.x (Ret (.tuple #[str X.1, str X.2.1, .int .i64 X.2.2]) e.x)) := fun e => by rw [← hX]; exact r16_any p sec bs k c A target s hf hk hd e.x (h.ext (HE.out.trans e.h))
  clear hX hf hk hd h
  have l1 := hl.1
  have l2 := hl.2
  clear hl
  obtain ⟨x1, x2, x3⟩ := X
  dsimp only at *
  go_enter Try.func11, Try.ntmps11
  go_upto_region 1 with fail
  generalize ((w.alloc (.cells (bunC p A k c) 29)).alloc (.cells (BV.c sec) 32)) = V at *
  obtain ⟨e, he⟩ := Later.self V
  rw [he]
  clear he
  go_wp2_with (first | (refine wpList_cat (by rfl) _ _ _ _ rfl _ _ rfl rfl (by (try simp only [List.length_append, List.length_cons, List.length_nil]); omega) ?_) | (refine wpList_row (by rfl) 29 _ rfl _ rfl (HB0.out.later _) Try.underlying29 rfl (by kernel_rfl) ?_) | (refine wpList_row (by rfl) 32 _ rfl _ rfl (HB1.out.later _) Try.underlying32 rfl (by kernel_rfl) ?_) | (go_at_call 33; refine (Ret.later (KB.out _)).mono ?_; rintro x _ ⟨rfl, e, rfl⟩))
  go_ret2
  exact Ret.mk rfl (HE.out.trans e.h)
theorem cText_any (p : PV) (sec : BV) (bs : Nat → BV) (k c : Nat) (A : Option Addr) (target s : Int) (hf : p.fl < 18446744073709551616) (hk : k < 4611686018427387904) (hd : ∀ i, i < k → (bs i).data.length ≤ 100000) (hnl : Hid (p.d.name.length < 4611686018427387904 ∧ p.s.name.length < 4611686018427387904 ∧ p.r.name.length < 4611686018427387904)) (w : World) (h : BsL w A k bs) : Calls Try.prog 10 #[bunV p A k c, .int .i64 target, sec.v, .int .i64 s] w (Ret (tv (sText p sec bs k target s)) w) := by
  have hR : ∀ W, Ext w W → Calls Try.prog 31 #[bunV p A k c, .int .i64 target, sec.v] W (Ret (partsOf p bs k target sec).v W) := fun W hW => sread_any p bs k c A target sec hnl hf hk hd W (h.ext hW)
  unfold sText r16Of
  by_cases c1 : s < 0 ∨ 7 < s
  · rw [if_pos c1]; exact cText_bad p sec k c A target s c1 w
  · rw [if_neg c1]
    obtain ⟨n, rfl⟩ : ∃ n : Nat, s = (n : Int) := ⟨s.toNat, by omega⟩
    have hn : n < 8 := by omega
    simp only [Int.toNat_natCast]
    by_cases hE : (partsOf p bs k target sec).err = 0
    · have hT : (∀ l1 l2 l3 l4, Calls Try.prog 10 #[bunV p A k c, .int .i64 target, sec.v, .int .i64 (n : Int)] w (Ret (.tuple #[str (besB (partsOf p bs k target sec).pr (partsOf p bs k target sec).tg (partsOf p bs k target sec).sc target n ++ (partsOf p bs k target sec).ow), .int .i64 0]) w)) := fun l1 l2 l3 l4 => cText_ok p sec k c A target n hn (partsOf p bs k target sec) hE l1 l2 l3 l4 w hR
      clear hR
      unfold partsOf at hE hT
      by_cases ht : target = 0
      · subst ht
        simp only [if_true] at hE hT ⊢
        by_cases hb : p.right = 0
        · simp only [hb, if_true, hdr0] at hE hT ⊢
          have := plain_length hb
          have := hdr_length sec
          simp only [hE, if_true] at hT ⊢
          exact hT (by omega) (by simp) (by omega) (by omega)
        · simp only [hb, if_false] at hE
      · simp only [ht, if_false] at hE hT ⊢
        cases hfo : firstOf (numB bs target) k with
        | none => rw [hfo] at hE; simp at hE
        | some i =>
          rw [hfo] at hE hT
          dsimp only at hE hT ⊢
          have := hd i (firstOf_spec hfo).1
          have := headL_le 2 (bs i).data.length
          by_cases hb : p.right = 0
          · simp only [hb, if_true] at hE hT ⊢
            have := plain_length hb
            have := hdr_length sec
            have := hdr_length (bs i)
            by_cases hx : (bs i).right = 0
            · simp only [hx, if_true, hdr0] at hE hT ⊢
              simp only [hE, if_true] at hT ⊢
              exact hT (by omega) (by omega) (by omega) (by simp only [List.length_append]; omega)
            · simp only [hx, if_false] at hE
          · simp only [hb, if_false] at hE
    · have hT := cText_err p sec k c A target n hn (partsOf p bs k target sec) hE w hR
      clear hR
      unfold partsOf at hE hT
      by_cases ht : target = 0
      · subst ht
        simp only [if_true] at hE hT ⊢
        by_cases hb : p.right = 0
        · simp only [hb, if_true, ne_eq, not_true_eq_false, if_false] at hE hT ⊢; rw [if_pos hE]; exact hT
        · simp only [hb, if_false, ne_eq, not_false_eq_true, if_true] at hE hT ⊢; exact hT
      · simp only [ht, if_false] at hE hT ⊢
        cases hfo : firstOf (numB bs target) k with
        | none => rw [hfo] at hT; exact hT
        | some i =>
          rw [hfo] at hE hT
          dsimp only at hE hT ⊢
          by_cases hb : p.right = 0
          · simp only [hb, if_true, ne_eq, not_true_eq_false, if_false] at hE hT ⊢
            by_cases hx : (bs i).right = 0
            · simp only [hx, if_true, ne_eq, not_true_eq_false, if_false] at hE hT ⊢; rw [if_pos hE]; exact hT
            · simp only [hx, if_false, ne_eq, not_false_eq_true, if_true] at hE hT ⊢; exact hT
          · simp only [hb, if_false, ne_eq, not_false_eq_true, if_true] at hE hT ⊢; exact hT
theorem cBes_any (p : PV) (sec : BV) (bs : Nat → BV) (k c : Nat) (A : Option Addr) (target s : Int) (hf : p.fl < 18446744073709551616) (hk : k < 4611686018427387904) (hd : ∀ i, i < k → (bs i).data.length ≤ 100000) (hnl : Hid (p.d.name.length < 4611686018427387904 ∧ p.s.name.length < 4611686018427387904 ∧ p.r.name.length < 4611686018427387904)) (w : World) (h : BsL w A k bs) : Calls Try.prog 15 #[bunV p A k c, .int .i64 target, sec.v, .int .i64 s] w (Ret (tv (sBes p sec bs k target s)) w) := by
  have hR : ∀ W, Ext w W → Calls Try.prog 31 #[bunV p A k c, .int .i64 target, sec.v] W (Ret (partsOf p bs k target sec).v W) := fun W hW => sread_any p bs k c A target sec hnl hf hk hd W (h.ext hW)
  unfold sBes
  by_cases c1 : s < 0 ∨ 7 < s
  · rw [if_neg (by omega)]; unfold r16Of; rw [if_pos c1]; exact cBeside_bad p sec k c A target s c1 w
  · obtain ⟨n, rfl⟩ : ∃ n : Nat, s = (n : Int) := ⟨s.toNat, by omega⟩
    have hn : n < 8 := by omega
    by_cases ht : target = 0
    · rw [if_pos (by omega)]; subst ht; exact cBeside_0 p sec k c A n hn w
    · rw [if_neg (fun h => ht h.2)]
      unfold r16Of
      rw [if_neg c1, if_neg ht]
      simp only [Int.toNat_natCast]
      by_cases hE : (partsOf p bs k target sec).err = 0
      · have hT : (∀ l1 l2 l3 l4, Calls Try.prog 15 #[bunV p A k c, .int .i64 target, sec.v, .int .i64 (n : Int)] w (Ret (.tuple #[str (besB (partsOf p bs k target sec).pr (partsOf p bs k target sec).tg (partsOf p bs k target sec).sc target n), .int .i64 0]) w)) := fun l1 l2 l3 l4 => cBeside_ok p sec k c A target n hn (partsOf p bs k target sec) hE ht l1 l2 l3 l4 w hR
        clear hR
        unfold partsOf at hE hT
        simp only [ht, if_false] at hE hT ⊢
        cases hfo : firstOf (numB bs target) k with
        | none => rw [hfo] at hE; simp at hE
        | some i =>
          rw [hfo] at hE hT
          dsimp only at hE hT ⊢
          have := hd i (firstOf_spec hfo).1
          have := headL_le 2 (bs i).data.length
          by_cases hb : p.right = 0
          · simp only [hb, if_true] at hE hT ⊢
            have := plain_length hb
            have := hdr_length sec
            have := hdr_length (bs i)
            by_cases hx : (bs i).right = 0
            · simp only [hx, if_true, hdr0] at hE hT ⊢
              simp only [hE, if_true] at hT ⊢
              exact hT (by omega) (by omega) (by omega) (by simp only [List.length_append]; omega)
            · simp only [hx, if_false] at hE
          · simp only [hb, if_false] at hE
      · have hT := cBeside_err p sec k c A target n hn (partsOf p bs k target sec) hE ht w hR
        clear hR
        unfold partsOf at hE hT
        simp only [ht, if_false] at hE hT ⊢
        cases hfo : firstOf (numB bs target) k with
        | none => rw [hfo] at hT; exact hT
        | some i =>
          rw [hfo] at hE hT
          dsimp only at hE hT ⊢
          by_cases hb : p.right = 0
          · simp only [hb, if_true, ne_eq, not_true_eq_false, if_false] at hE hT ⊢
            by_cases hx : (bs i).right = 0
            · simp only [hx, if_true, ne_eq, not_true_eq_false, if_false] at hE hT ⊢; rw [if_pos hE]; exact hT
            · simp only [hx, if_false, ne_eq, not_false_eq_true, if_true] at hE hT ⊢; exact hT
          · simp only [hb, if_false, ne_eq, not_false_eq_true, if_true] at hE hT ⊢; exact hT
end Go.Proofs.Ytkeabdfgacicaaa
