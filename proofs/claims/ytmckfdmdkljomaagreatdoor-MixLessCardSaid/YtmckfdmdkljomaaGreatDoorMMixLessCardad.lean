/-
 Primaries and bundles, plainly; the first place of a kind.
-/
import Derived.Test.YtmckfdmdkljomaaGreatDoorMMixLessCardab
import Derived.Test.YtmckfdmdkljomaaGreatDoorMMixLessCardac
import Derived.Laws.OwnMore
import Derived.OwnWalk
import Derived.OneCell
namespace Go.Proofs.YtmckfdmdkljomaaGreatDoor
open Go.RowKit
set_option linter.unusedVariables false
set_option linter.unusedSimpArgs false
structure PV where
 fl : Nat
 crc : Int
 d : EV
 s : EV
 r : EV
 t : Nat
 q : Nat
 l : Nat
 o : Nat
 n : Nat
def firstOf (p : Nat -> Bool) : Nat -> Option Nat
 | 0 => none
 | k + 1 => match firstOf p k with | some i => some i | none => if p k then some k else none
theorem firstOf_none {p : Nat -> Bool} {k : Nat} (hj : ∀ j, j < k -> p j = false) : firstOf p k = none := by
 induction k with
 | zero => rfl
 | succ k ih => rw [firstOf, ih (fun j h => hj j (by omega)), hj k (by omega)]; rfl
theorem firstOf_some {p : Nat -> Bool} {k i : Nat} (hi : i < k) (h : p i = true) (hj : ∀ j, j < i -> p j = false) : firstOf p k = some i := by
 induction k with
 | zero => omega
 | succ k ih =>
  rw [firstOf]
  by_cases e : i = k
  .
   subst e
   rw [firstOf_none hj, h]; rfl
  . rw [ih (by omega)]
theorem firstOf_no {p : Nat -> Bool} {k : Nat} (h : firstOf p k = none) : ∀ j, j < k -> p j = false := by
 induction k with
 | zero => intro j hj; omega
 | succ k ih =>
  rw [firstOf] at h
  cases hf : firstOf p k with
  | some x => rw [hf] at h; cases h
  | none =>
   rw [hf] at h
   intro j hj
   by_cases e : j = k
   .
    subst e
    cases hp : p j with
    | false => rfl
    | true => simp [hp] at h
   . exact ih hf j (by omega)
theorem firstOf_spec {p : Nat -> Bool} {k i : Nat} (h : firstOf p k = some i) : i < k /\ p i = true /\ ∀ j, j < i -> p j = false := by
 induction k with
 | zero => cases h
 | succ k ih =>
  rw [firstOf] at h
  cases hf : firstOf p k with
  | some x =>
   rw [hf] at h
   simp only [Option.some.injEq] at h
   subst h
   have := ih hf
   exact ⟨by omega, this.2.1, this.2.2⟩
  | none =>
   rw [hf] at h
   cases hk : p k with
   | true =>
    simp only [hk, if_true, Option.some.injEq] at h
    subst h
    exact ⟨by omega, hk, fun j hj => firstOf_no hf j hj⟩
   | false => simp [hk] at h
def firstI (p : Nat -> Bool) (k : Nat) : Int := match firstOf p k with | some i => (i : Int) | none => -1
def zeroB : BV := ⟨0, 0, 0, 0, []⟩
abbrev PV.c (p : PV) : Array Value := #[.int .u64 (p.fl : Int), .int .i64 p.crc, .int .i64 p.d.sch, str p.d.name, .int .u64 (p.d.node : Int), .int .u64 (p.d.svc : Int), .int .i64 p.s.sch, str p.s.name, .int .u64 (p.s.node : Int), .int .u64 (p.s.svc : Int), .int .i64 p.r.sch, str p.r.name, .int .u64 (p.r.node : Int), .int .u64 (p.r.svc : Int), .int .u64 (p.t : Int), .int .u64 (p.q : Int), .int .u64 (p.l : Int), .int .u64 (p.o : Int), .int .u64 (p.n : Int)]
abbrev PV.v (p : PV) : Value := .agg p.c
abbrev bunC (p : PV) (A : Option Addr) (k c : Nat) : Array Value := #[.int .u64 (p.fl : Int), .int .i64 p.crc, .int .i64 p.d.sch, str p.d.name, .int .u64 (p.d.node : Int), .int .u64 (p.d.svc : Int), .int .i64 p.s.sch, str p.s.name, .int .u64 (p.s.node : Int), .int .u64 (p.s.svc : Int), .int .i64 p.r.sch, str p.r.name, .int .u64 (p.r.node : Int), .int .u64 (p.r.svc : Int), .int .u64 (p.t : Int), .int .u64 (p.q : Int), .int .u64 (p.l : Int), .int .u64 (p.o : Int), .int .u64 (p.n : Int), .slice A k c]
abbrev bunV (p : PV) (A : Option Addr) (k c : Nat) : Value := .agg (bunC p A k c)
def BAt (w : World) (b o : Nat) (x : BV) : Prop :=
 w.cell? ⟨b, o, none⟩ = some (.int .i64 x.ty) /\ w.cell? ⟨b, o + 1, none⟩ = some (.int .i64 x.num) /\ w.cell? ⟨b, o + 2, none⟩ = some (.int .u64 (x.fl : Int)) /\ w.cell? ⟨b, o + 3, none⟩ = some (.int .i64 x.crc) /\ w.cell? ⟨b, o + 4, none⟩ = some (str x.data)
def BsL (w : World) (A : Option Addr) (k : Nat) (bs : Nat -> BV) : Prop := 0 < k -> ∃ b o, A = some ⟨b, o, none⟩ /\ b < w.heap.size /\ ∀ i, i < k -> BAt w b (o + i * 5) (bs i)
theorem BAt.mod {w w' : World} {S : List Nat} {b o : Nat} {x : BV} (h : BAt w b o x) (hm : Mod S w w') (hb : b < w.heap.size) (hs : b ∉ S) : BAt w' b o x := by
 obtain ⟨h0, h1, h2, h3, h4⟩ := h
 exact ⟨(hm.cell hb hs).trans h0, (hm.cell hb hs).trans h1, (hm.cell hb hs).trans h2, (hm.cell hb hs).trans h3, (hm.cell hb hs).trans h4⟩
theorem BsL.ext {w w' : World} {A : Option Addr} {k : Nat} {bs : Nat -> BV} (h : BsL w A k bs) (hm : Ext w w') : BsL w' A k bs := fun hk => by
 obtain ⟨b, o, hA, hb, hc⟩ := h hk
 exact ⟨b, o, hA, Nat.lt_of_lt_of_le hb hm.size, fun i hi => (hc i hi).mod hm hb (by simp)⟩
theorem BsL.cells {V : World} {A : Option Addr} {k : Nat} {bs : Nat -> BV} (h : BsL V A k bs) {i : Nat} (hi : i < k) : ∃ b o, A = some ⟨b, o, none⟩ /\ b < V.heap.size /\
  (∀ e : Later V, e.x.cell? ⟨b, o + i * 5, none⟩ = some (.int .i64 (bs i).ty)) /\ (∀ e : Later V, e.x.cell? ⟨b, o + i * 5 + 1, none⟩ = some (.int .i64 (bs i).num)) /\ (∀ e : Later V, e.x.cell? ⟨b, o + i * 5 + 2, none⟩ = some (.int .u64 ((bs i).fl : Int))) /\
  (∀ e : Later V, e.x.cell? ⟨b, o + i * 5 + 3, none⟩ = some (.int .i64 (bs i).crc)) /\ (∀ e : Later V, e.x.cell? ⟨b, o + i * 5 + 4, none⟩ = some (str (bs i).data)) := by
 obtain ⟨b, o, hA, hb, hc⟩ := h (by omega)
 obtain ⟨h0, h1, h2, h3, h4⟩ := hc i hi
 exact ⟨b, o, hA, hb, cellL h0, cellL h1, cellL h2, cellL h3, cellL h4⟩
abbrev BV.c (b : BV) : Array Value := #[.int .i64 b.ty, .int .i64 b.num, .int .u64 (b.fl : Int), .int .i64 b.crc, str b.data]
abbrev BV.v (b : BV) : Value := .agg b.c
set_option maxRecDepth 20000 in
theorem cRight_0 (ty : Int) (num : Int) (fl : Nat) (crc : Int) (data : List UInt8) (h : ty < 1) (w : World) : Calls Tryz.prog 106 #[BV.v ⟨ty, num, fl, crc, data⟩] w (Ret (.int .i64 1) w) := by
 have t0 : decide (ty < 1) = true := by simp; omega
 have t1 : decide (1 <= ty) = false := by simp; omega
 clear h
 go_enter Tryz.func106, Tryz.ntmps106
 go_wp2
 go_ret
 exact Ret.mk rfl ((Mod.refl _ _).alloc _)
set_option maxRecDepth 20000 in
theorem cRight_1 (ty : Int) (num : Int) (fl : Nat) (crc : Int) (data : List UInt8) (a1 : 1 <= ty) (h : 65535 < ty) (w : World) : Calls Tryz.prog 106 #[BV.v ⟨ty, num, fl, crc, data⟩] w (Ret (.int .i64 1) w) := by
 have t0 : decide (ty < 1) = false := by simp; omega
 have t1 : decide (1 <= ty) = true := by simp; omega
 have t2 : decide (65535 < ty) = true := by simp; omega
 have t3 : decide (ty <= 65535) = false := by simp; omega
 clear a1 h
 go_enter Tryz.func106, Tryz.ntmps106
 go_wp2
 go_ret
 exact Ret.mk rfl ((Mod.refl _ _).alloc _)
set_option maxRecDepth 20000 in
theorem cRight_2 (ty : Int) (num : Int) (fl : Nat) (crc : Int) (data : List UInt8) (a1 : 1 <= ty) (a2 : ty <= 65535) (h : num < 1) (w : World) : Calls Tryz.prog 106 #[BV.v ⟨ty, num, fl, crc, data⟩] w (Ret (.int .i64 1) w) := by
 have t0 : decide (ty < 1) = false := by simp; omega
 have t1 : decide (1 <= ty) = true := by simp; omega
 have t2 : decide (65535 < ty) = false := by simp; omega
 have t3 : decide (ty <= 65535) = true := by simp; omega
 have t4 : decide (num < 1) = true := by simp; omega
 have t5 : decide (1 <= num) = false := by simp; omega
 clear a1 a2 h
 go_enter Tryz.func106, Tryz.ntmps106
 go_wp2
 go_ret
 exact Ret.mk rfl ((Mod.refl _ _).alloc _)
set_option maxRecDepth 20000 in
theorem cRight_3 (ty : Int) (num : Int) (fl : Nat) (crc : Int) (data : List UInt8) (a1 : 1 <= ty) (a2 : ty <= 65535) (a3 : 1 <= num) (h : 65535 < num) (w : World) : Calls Tryz.prog 106 #[BV.v ⟨ty, num, fl, crc, data⟩] w (Ret (.int .i64 1) w) := by
 have t0 : decide (ty < 1) = false := by simp; omega
 have t1 : decide (1 <= ty) = true := by simp; omega
 have t2 : decide (65535 < ty) = false := by simp; omega
 have t3 : decide (ty <= 65535) = true := by simp; omega
 have t4 : decide (num < 1) = false := by simp; omega
 have t5 : decide (1 <= num) = true := by simp; omega
 have t6 : decide (65535 < num) = true := by simp; omega
 have t7 : decide (num <= 65535) = false := by simp; omega
 clear a1 a2 a3 h
 go_enter Tryz.func106, Tryz.ntmps106
 go_wp2
 go_ret
 exact Ret.mk rfl ((Mod.refl _ _).alloc _)
set_option maxRecDepth 20000 in
theorem cRight_4 (ty : Int) (num : Int) (fl : Nat) (crc : Int) (data : List UInt8) (a1 : 1 <= ty) (a2 : ty <= 65535) (a3 : 1 <= num) (a4 : num <= 65535) (h : 255 < fl) (w : World) : Calls Tryz.prog 106 #[BV.v ⟨ty, num, fl, crc, data⟩] w (Ret (.int .i64 1) w) := by
 have t0 : decide (ty < 1) = false := by simp; omega
 have t1 : decide (1 <= ty) = true := by simp; omega
 have t2 : decide (65535 < ty) = false := by simp; omega
 have t3 : decide (ty <= 65535) = true := by simp; omega
 have t4 : decide (num < 1) = false := by simp; omega
 have t5 : decide (1 <= num) = true := by simp; omega
 have t6 : decide (65535 < num) = false := by simp; omega
 have t7 : decide (num <= 65535) = true := by simp; omega
 have t8 : decide (255 < (fl : Int)) = true := by simp; omega
 have t9 : decide ((fl : Int) <= 255) = false := by simp; omega
 clear a1 a2 a3 a4 h
 go_enter Tryz.func106, Tryz.ntmps106
 go_wp2
 go_ret
 exact Ret.mk rfl ((Mod.refl _ _).alloc _)
set_option maxRecDepth 20000 in
theorem cRight_5 (ty : Int) (num : Int) (fl : Nat) (crc : Int) (data : List UInt8) (a1 : 1 <= ty) (a2 : ty <= 65535) (a3 : 1 <= num) (a4 : num <= 65535) (a5 : fl <= 255) (h : crc < 0) (w : World) : Calls Tryz.prog 106 #[BV.v ⟨ty, num, fl, crc, data⟩] w (Ret (.int .i64 1) w) := by
 have t0 : decide (ty < 1) = false := by simp; omega
 have t1 : decide (1 <= ty) = true := by simp; omega
 have t2 : decide (65535 < ty) = false := by simp; omega
 have t3 : decide (ty <= 65535) = true := by simp; omega
 have t4 : decide (num < 1) = false := by simp; omega
 have t5 : decide (1 <= num) = true := by simp; omega
 have t6 : decide (65535 < num) = false := by simp; omega
 have t7 : decide (num <= 65535) = true := by simp; omega
 have t8 : decide (255 < (fl : Int)) = false := by simp; omega
 have t9 : decide ((fl : Int) <= 255) = true := by simp; omega
 have t10 : decide (crc < 0) = true := by simp; omega
 have t11 : decide (0 <= crc) = false := by simp; omega
 clear a1 a2 a3 a4 a5 h
 go_enter Tryz.func106, Tryz.ntmps106
 go_wp2
 go_ret
 exact Ret.mk rfl ((Mod.refl _ _).alloc _)
set_option maxRecDepth 20000 in
theorem cRight_6 (ty : Int) (num : Int) (fl : Nat) (crc : Int) (data : List UInt8) (a1 : 1 <= ty) (a2 : ty <= 65535) (a3 : 1 <= num) (a4 : num <= 65535) (a5 : fl <= 255) (a6 : 0 <= crc) (h : 2 < crc) (w : World) : Calls Tryz.prog 106 #[BV.v ⟨ty, num, fl, crc, data⟩] w (Ret (.int .i64 1) w) := by
 have t0 : decide (ty < 1) = false := by simp; omega
 have t1 : decide (1 <= ty) = true := by simp; omega
 have t2 : decide (65535 < ty) = false := by simp; omega
 have t3 : decide (ty <= 65535) = true := by simp; omega
 have t4 : decide (num < 1) = false := by simp; omega
 have t5 : decide (1 <= num) = true := by simp; omega
 have t6 : decide (65535 < num) = false := by simp; omega
 have t7 : decide (num <= 65535) = true := by simp; omega
 have t8 : decide (255 < (fl : Int)) = false := by simp; omega
 have t9 : decide ((fl : Int) <= 255) = true := by simp; omega
 have t10 : decide (crc < 0) = false := by simp; omega
 have t11 : decide (0 <= crc) = true := by simp; omega
 have t12 : decide (2 < crc) = true := by simp; omega
 have t13 : decide (crc <= 2) = false := by simp; omega
 clear a1 a2 a3 a4 a5 a6 h
 go_enter Tryz.func106, Tryz.ntmps106
 go_wp2
 go_ret
 exact Ret.mk rfl ((Mod.refl _ _).alloc _)
set_option maxRecDepth 20000 in
theorem cRight_7 (ty : Int) (num : Int) (fl : Nat) (crc : Int) (data : List UInt8) (a1 : 1 <= ty) (a2 : ty <= 65535) (a3 : 1 <= num) (a4 : num <= 65535) (a5 : fl <= 255) (a6 : 0 <= crc) (a7 : crc <= 2) (h : 4000 < data.length) (w : World) : Calls Tryz.prog 106 #[BV.v ⟨ty, num, fl, crc, data⟩] w (Ret (.int .i64 4) w) := by
 have t0 : decide (ty < 1) = false := by simp; omega
 have t1 : decide (1 <= ty) = true := by simp; omega
 have t2 : decide (65535 < ty) = false := by simp; omega
 have t3 : decide (ty <= 65535) = true := by simp; omega
 have t4 : decide (num < 1) = false := by simp; omega
 have t5 : decide (1 <= num) = true := by simp; omega
 have t6 : decide (65535 < num) = false := by simp; omega
 have t7 : decide (num <= 65535) = true := by simp; omega
 have t8 : decide (255 < (fl : Int)) = false := by simp; omega
 have t9 : decide ((fl : Int) <= 255) = true := by simp; omega
 have t10 : decide (crc < 0) = false := by simp; omega
 have t11 : decide (0 <= crc) = true := by simp; omega
 have t12 : decide (2 < crc) = false := by simp; omega
 have t13 : decide (crc <= 2) = true := by simp; omega
 have t14 : decide (4000 < (data.length : Int)) = true := by simp; omega
 have t15 : decide ((data.length : Int) <= 4000) = false := by simp; omega
 clear a1 a2 a3 a4 a5 a6 a7 h
 go_enter Tryz.func106, Tryz.ntmps106
 go_wp2
 go_ret
 exact Ret.mk rfl ((Mod.refl _ _).alloc _)
set_option maxRecDepth 20000 in
theorem cRight_8 (num : Int) (fl : Nat) (crc : Int) (data : List UInt8) (a3 : 1 <= num) (a4 : num <= 65535) (a5 : fl <= 255) (a6 : 0 <= crc) (a7 : crc <= 2) (a8 : data.length <= 4000) (b2 : num ≠ 1) (w : World) : Calls Tryz.prog 106 #[BV.v ⟨1, num, fl, crc, data⟩] w (Ret (.int .i64 8) w) := by
 have t0 : decide (num < 1) = false := by simp; omega
 have t1 : decide (1 <= num) = true := by simp; omega
 have t2 : decide (65535 < num) = false := by simp; omega
 have t3 : decide (num <= 65535) = true := by simp; omega
 have t4 : decide (255 < (fl : Int)) = false := by simp; omega
 have t5 : decide ((fl : Int) <= 255) = true := by simp; omega
 have t6 : decide (crc < 0) = false := by simp; omega
 have t7 : decide (0 <= crc) = true := by simp; omega
 have t8 : decide (2 < crc) = false := by simp; omega
 have t9 : decide (crc <= 2) = true := by simp; omega
 have t10 : decide (4000 < (data.length : Int)) = false := by simp; omega
 have t11 : decide ((data.length : Int) <= 4000) = true := by simp; omega
 have e3 : (num = 1) = False := by simp [b2]
 have e4 : (num == 1) = false := by simp [b2]
 clear a3 a4 a5 a6 a7 a8 b2
 go_enter Tryz.func106, Tryz.ntmps106
 go_wp2
 go_ret
 exact Ret.mk rfl ((Mod.refl _ _).alloc _)
set_option maxRecDepth 20000 in
theorem cRight_9 (ty : Int) (fl : Nat) (crc : Int) (data : List UInt8) (a1 : 1 <= ty) (a2 : ty <= 65535) (a5 : fl <= 255) (a6 : 0 <= crc) (a7 : crc <= 2) (a8 : data.length <= 4000) (b1 : ty ≠ 1) (w : World) : Calls Tryz.prog 106 #[BV.v ⟨ty, 1, fl, crc, data⟩] w (Ret (.int .i64 8) w) := by
 have t0 : decide (ty < 1) = false := by simp; omega
 have t1 : decide (1 <= ty) = true := by simp; omega
 have t2 : decide (65535 < ty) = false := by simp; omega
 have t3 : decide (ty <= 65535) = true := by simp; omega
 have t4 : decide (255 < (fl : Int)) = false := by simp; omega
 have t5 : decide ((fl : Int) <= 255) = true := by simp; omega
 have t6 : decide (crc < 0) = false := by simp; omega
 have t7 : decide (0 <= crc) = true := by simp; omega
 have t8 : decide (2 < crc) = false := by simp; omega
 have t9 : decide (crc <= 2) = true := by simp; omega
 have t10 : decide (4000 < (data.length : Int)) = false := by simp; omega
 have t11 : decide ((data.length : Int) <= 4000) = true := by simp; omega
 have e1 : (ty = 1) = False := by simp [b1]
 have e2 : (ty == 1) = false := by simp [b1]
 clear a1 a2 a5 a6 a7 a8 b1
 go_enter Tryz.func106, Tryz.ntmps106
 go_wp2
 go_ret
 exact Ret.mk rfl ((Mod.refl _ _).alloc _)
set_option maxRecDepth 20000 in
theorem cRight_10  (fl : Nat) (crc : Int) (data : List UInt8) (a5 : fl <= 255) (a6 : 0 <= crc) (a7 : crc <= 2) (a8 : data.length <= 4000) (w : World) : Calls Tryz.prog 106 #[BV.v ⟨1, 1, fl, crc, data⟩] w (Ret (.int .i64 0) w) := by
 have t0 : decide (255 < (fl : Int)) = false := by simp; omega
 have t1 : decide ((fl : Int) <= 255) = true := by simp; omega
 have t2 : decide (crc < 0) = false := by simp; omega
 have t3 : decide (0 <= crc) = true := by simp; omega
 have t4 : decide (2 < crc) = false := by simp; omega
 have t5 : decide (crc <= 2) = true := by simp; omega
 have t6 : decide (4000 < (data.length : Int)) = false := by simp; omega
 have t7 : decide ((data.length : Int) <= 4000) = true := by simp; omega
 clear a5 a6 a7 a8
 go_enter Tryz.func106, Tryz.ntmps106
 go_wp2
 go_ret
 exact Ret.mk rfl ((Mod.refl _ _).alloc _)
set_option maxRecDepth 20000 in
theorem cRight_11 (ty : Int) (num : Int) (fl : Nat) (crc : Int) (data : List UInt8) (a1 : 1 <= ty) (a2 : ty <= 65535) (a3 : 1 <= num) (a4 : num <= 65535) (a5 : fl <= 255) (a6 : 0 <= crc) (a7 : crc <= 2) (a8 : data.length <= 4000) (b1 : ty ≠ 1) (b2 : num ≠ 1) (w : World) : Calls Tryz.prog 106 #[BV.v ⟨ty, num, fl, crc, data⟩] w (Ret (.int .i64 0) w) := by
 have t0 : decide (ty < 1) = false := by simp; omega
 have t1 : decide (1 <= ty) = true := by simp; omega
 have t2 : decide (65535 < ty) = false := by simp; omega
 have t3 : decide (ty <= 65535) = true := by simp; omega
 have t4 : decide (num < 1) = false := by simp; omega
 have t5 : decide (1 <= num) = true := by simp; omega
 have t6 : decide (65535 < num) = false := by simp; omega
 have t7 : decide (num <= 65535) = true := by simp; omega
 have t8 : decide (255 < (fl : Int)) = false := by simp; omega
 have t9 : decide ((fl : Int) <= 255) = true := by simp; omega
 have t10 : decide (crc < 0) = false := by simp; omega
 have t11 : decide (0 <= crc) = true := by simp; omega
 have t12 : decide (2 < crc) = false := by simp; omega
 have t13 : decide (crc <= 2) = true := by simp; omega
 have t14 : decide (4000 < (data.length : Int)) = false := by simp; omega
 have t15 : decide ((data.length : Int) <= 4000) = true := by simp; omega
 have e1 : (ty = 1) = False := by simp [b1]
 have e2 : (ty == 1) = false := by simp [b1]
 have e3 : (num = 1) = False := by simp [b2]
 have e4 : (num == 1) = false := by simp [b2]
 clear a1 a2 a3 a4 a5 a6 a7 a8 b1 b2
 go_enter Tryz.func106, Tryz.ntmps106
 go_wp2
 go_ret
 exact Ret.mk rfl ((Mod.refl _ _).alloc _)
theorem cbRight_any (b : BV) (w : World) : Calls Tryz.prog 106 #[b.v] w (Ret (.int .i64 b.right) w) := by
 obtain ⟨ty, num, fl, crc, data⟩ := b
 have go : ∀ (k : Int), Calls Tryz.prog 106 #[BV.v ⟨ty, num, fl, crc, data⟩] w (Ret (.int .i64 k) w) -> BV.right ⟨ty, num, fl, crc, data⟩ = k -> Calls Tryz.prog 106 #[BV.v ⟨ty, num, fl, crc, data⟩] w (Ret (.int .i64 (BV.right ⟨ty, num, fl, crc, data⟩)) w) := fun k h e => by rw [e]; exact h
 by_cases h0 : ty < 1
 . exact go _ (cRight_0 ty num fl crc data (by omega) w) (by unfold BV.right; simp only []; rw [if_pos (by omega)])
 by_cases h1 : 65535 < ty
 . exact go _ (cRight_1 ty num fl crc data (by omega) (by omega) w) (by unfold BV.right; simp only []; rw [if_pos (by omega)])
 by_cases h2 : num < 1
 . exact go _ (cRight_2 ty num fl crc data (by omega) (by omega) (by omega) w) (by unfold BV.right; simp only []; rw [if_pos (by omega)])
 by_cases h3 : 65535 < num
 . exact go _ (cRight_3 ty num fl crc data (by omega) (by omega) (by omega) (by omega) w) (by unfold BV.right; simp only []; rw [if_pos (by omega)])
 by_cases h4 : 255 < fl
 . exact go _ (cRight_4 ty num fl crc data (by omega) (by omega) (by omega) (by omega) (by omega) w) (by unfold BV.right; simp only []; rw [if_pos (by omega)])
 by_cases h5 : crc < 0
 . exact go _ (cRight_5 ty num fl crc data (by omega) (by omega) (by omega) (by omega) (by omega) (by omega) w) (by unfold BV.right; simp only []; rw [if_pos (by omega)])
 by_cases h6 : 2 < crc
 . exact go _ (cRight_6 ty num fl crc data (by omega) (by omega) (by omega) (by omega) (by omega) (by omega) (by omega) w) (by unfold BV.right; simp only []; rw [if_pos (by omega)])
 by_cases h7 : 4000 < data.length
 . exact go _ (cRight_7 ty num fl crc data (by omega) (by omega) (by omega) (by omega) (by omega) (by omega) (by omega) (by omega) w) (by unfold BV.right; simp only []; rw [if_neg (by omega), if_pos (by omega)])
 by_cases k1 : ty = 1
 .
  subst k1
  by_cases k2 : num = 1
  .
   subst k2
   exact go _ (cRight_10 fl crc data (by omega) (by omega) (by omega) (by omega) w) (by unfold BV.right; simp only []; rw [if_neg (by omega), if_neg (by omega), if_neg (by omega)])
  . exact go _ (cRight_8 num fl crc data (by omega) (by omega) (by omega) (by omega) (by omega) (by omega) k2 w) (by unfold BV.right; simp only []; rw [if_neg (by omega), if_neg (by omega), if_pos (by simp [k2])])
 .
  by_cases k2 : num = 1
  .
   subst k2
   exact go _ (cRight_9 ty fl crc data (by omega) (by omega) (by omega) (by omega) (by omega) (by omega) k1 w) (by unfold BV.right; simp only []; rw [if_neg (by omega), if_neg (by omega), if_pos (by simp [k1])])
  . exact go _ (cRight_11 ty num fl crc data (by omega) (by omega) (by omega) (by omega) (by omega) (by omega) (by omega) (by omega) k1 k2 w) (by unfold BV.right; simp only []; rw [if_neg (by omega), if_neg (by omega), if_neg (by omega)])
section
def tyB (bs : Nat -> BV) (typ : Int) (i : Nat) : Bool := decide ((bs i).ty = typ)
theorem tyB_no {bs : Nat -> BV} {typ : Int} {i : Nat} (h : (bs i).ty ≠ typ) : tyB bs typ i = false := by unfold tyB; simp [h]
theorem tyB_yes {bs : Nat -> BV} {typ : Int} {i : Nat} (h : (bs i).ty = typ) : tyB bs typ i = true := by unfold tyB; simp [h]
def setB (W : World) (g : Nat) (b : BV) : World := ((((W.setCell ⟨g, 0, none⟩ (.int .i64 b.ty)).setCell ⟨g, 1, none⟩ (.int .i64 b.num)).setCell ⟨g, 2, none⟩ (.int .u64 (b.fl : Int))).setCell ⟨g, 3, none⟩ (.int .i64 b.crc)).setCell ⟨g, 4, none⟩ (str b.data)
section
variable {W : World} {g : Nat} {b0 b : BV}
theorem setB_blk (h : Blk W g 45 b0.c) : Blk (setB W g b) g 45 b.c := by
 have := ((((h.set_ 0 (.int .i64 b.ty)).set_ 1 (.int .i64 b.num)).set_ 2 (.int .u64 (b.fl : Int))).set_ 3 (.int .i64 b.crc)).set_ 4 (str b.data)
 unfold setB
 simpa using this
theorem setB_mod {w : World} {S : List Nat} (h : Mod S w W) (hb : w.heap.size <= g) : Mod S w (setB W g b) :=
 ((((h.setCell (.inr hb) _).setCell (.inr hb) _).setCell (.inr hb) _).setCell (.inr hb) _).setCell (.inr hb) _
theorem cellsB (h : Blk W g 45 b.c) : W.cell? ⟨g, 0, none⟩ = some (.int .i64 b.ty) /\ W.cell? ⟨g, 1, none⟩ = some (.int .i64 b.num) /\ W.cell? ⟨g, 2, none⟩ = some (.int .u64 (b.fl : Int)) /\
  W.cell? ⟨g, 3, none⟩ = some (.int .i64 b.crc) /\ W.cell? ⟨g, 4, none⟩ = some (str b.data) := ⟨h.cell 0, h.cell 1, h.cell 2, h.cell 3, h.cell 4⟩
end
def findV (bs : Nat -> BV) (typ : Int) (k : Nat) : Value := match firstOf (tyB bs typ) k with | some i => .tuple #[(bs i).v, .bool true] | none => .tuple #[zeroB.v, .bool false]
set_option maxRecDepth 20000 in
set_option maxHeartbeats 800000 in
theorem Find_any (p : PV) (bs : Nat -> BV) (k c : Nat) (A : Option Addr) (typ : Int) (hk : k < 4611686018427387904) (w : World) (h : BsL w A k bs) : Calls Tryz.prog 107 #[bunV p A k c, .int .i64 typ] w (Ret (findV bs typ k) w) := by
 have HE := hid (((Mod.refl [] w).alloc (.cells (bunC p A k c) 29)).alloc (.cells #[.int .i64 0, .int .i64 0, .int .u64 0, .int .i64 0, .string ⟨#[]⟩] 45))
 have HB := hid ((Blk.new w 29 (bunC p A k c)).alloc (.cells #[.int .i64 0, .int .i64 0, .int .u64 0, .int .i64 0, .string ⟨#[]⟩] 45))
 have HR : Hid (Blk ((w.alloc (.cells (bunC p A k c) 29)).alloc (.cells #[.int .i64 0, .int .i64 0, .int .u64 0, .int .i64 0, .string ⟨#[]⟩] 45)) (w.heap.size + 1) 45 zeroB.c) := Blk.newL _ _ _ (by simp)
 have HL := hid (BsL.ext h HE.out)
 have k1 : (k : Int) < 4611686018427387904 := by omega
 have HK := hid hk
 clear h hk
 go_enter Tryz.func107, Tryz.ntmps107
 go_upto_region 1 with fail
 generalize (w.alloc (.cells (bunC p A k c) 29)).alloc (.cells #[.int .i64 0, .int .i64 0, .int .u64 0, .int .i64 0, .string ⟨#[]⟩] 45) = V at *
 have b19 : ∀ e : Later V, e.x.cell? ⟨w.heap.size, 19, none⟩ = some (.slice A k c) := HB.out.cellL 19 rfl
 have b19v : V.cell? ⟨w.heap.size, 19, none⟩ = some (.slice A k c) := HB.out.cell 19
 go_wp2_with fail
 clear b19v
 obtain ⟨e0, he0⟩ := Later.self V
 go_loopw [11] (fun s11 wr => ∃ i : Nat, s11 = .int .i64 (i : Int) /\ Hid (i <= k /\ ∀ j, j < i -> tyB bs typ j = false) /\ ∃ e : Later V, wr = e.x) (fun s11 _ => k - (intOf s11).toNat)
 case atStart => exact ⟨0, rfl, (show Hid _ from ⟨by omega, fun j hj => by omega⟩), e0, he0⟩
 case round =>
  clear he0 e0
  obtain ⟨i, rfl, hi, e, rfl⟩ := hrel
  have i0 : (0 : Int) <= (i : Int) := by omega
  by_cases hlt : i < k
  .
   obtain ⟨b, o, rfl, hb, q0, q1, q2, q3, q4⟩ := HL.out.cells hlt
   have tc : decide (i < k) = true := by simp [hlt]
   have i1 : (i : Int) < (k : Int) := by omega
   have HLT := hid hlt
   have HRA := hid ((HR.out.later e).alloc (.cells (BV.c (bs i)) 45))
   have HEA := hid (HE.out.trans ((Later.h e).alloc (.cells (BV.c (bs i)) 45)))
   clear hlt
   by_cases ht : (bs i).ty = typ
   .
    have HF : Hid (findV bs typ k = .tuple #[(bs i).v, .bool true]) := by unfold Hid findV; rw [firstOf_some HLT.out (tyB_yes ht) hi.out.2]
    have t1 : ((bs i).ty == typ) = true := by simpa using ht
    have t2 : ((bs i).ty = typ) = True := by simpa using ht
    clear ht
    obtain ⟨c0, c1, c2, c3, c4⟩ := cellsB (b := zeroB) HRA.out
    have f0 := HRA.out.frozen 0
    have f1 := HRA.out.frozen 1
    have f2 := HRA.out.frozen 2
    have f3 := HRA.out.frozen 3
    have f4 := HRA.out.frozen 4
    go_wp2_with fail
    obtain ⟨d0, d1, d2, d3, d4⟩ := cellsB (setB_blk (b := bs i) HRA.out)
    clear c0 c1 c2 c3 c4 f0 f1 f2 f3 f4
    show bodyPost _ _ _ _ _ (setB (e.x.alloc (.cells (BV.c (bs i)) 45)) (w.heap.size + 1) (bs i))
    refine bodyPost_ret (v := .tuple #[(bs i).v, .bool true]) (by simp [results, Tryz.results107, go_sem, d0, d1, d2, d3, d4]) rfl (Ret.mk HF.out.symm (setB_mod HEA.out (by omega)))
   .
    have HN := hid (tyB_no ht)
    have t1 : ((bs i).ty == typ) = false := by simpa using ht
    have t2 : ((bs i).ty = typ) = False := by simpa using ht
    clear ht
    go_wp2_with fail
    go_roundw
    case rel => exact ⟨i + 1, by go_num, (show Hid _ from ⟨HLT.out, fun j hj => by
     by_cases hji : j = i
     . subst hji; exact HN.out
     . exact hi.out.2 j (by omega)⟩), Later.go e ((Mod.refl [] _).alloc _)⟩
    case measure => have := HLT.out; simp [intOf]; omega
  .
   obtain rfl : i = k := by have := hi.out.1; omega
   have tc : decide (i < i) = false := by simp
   have HF : Hid (findV bs typ i = .tuple #[zeroB.v, .bool false]) := by unfold Hid findV; rw [firstOf_none hi.out.2]
   have HRA := hid (HR.out.later e)
   obtain ⟨c0, c1, c2, c3, c4⟩ := cellsB (b := zeroB) HRA.out
   have f0 := HRA.out.frozen 0
   have f1 := HRA.out.frozen 1
   have f2 := HRA.out.frozen 2
   have f3 := HRA.out.frozen 3
   have f4 := HRA.out.frozen 4
   go_wp2_with fail
   obtain ⟨d0, d1, d2, d3, d4⟩ := cellsB (setB_blk (b := zeroB) HRA.out)
   clear c0 c1 c2 c3 c4 f0 f1 f2 f3 f4
   show bodyPost _ _ _ _ _ (setB e.x (w.heap.size + 1) zeroB)
   refine bodyPost_ret (v := .tuple #[zeroB.v, .bool false]) (by simp [results, Tryz.results107, go_sem, d0, d1, d2, d3, d4]) rfl (Ret.mk HF.out.symm (setB_mod (HE.out.trans e.h) (by omega)))
end
def numT (n : Nat) : T := T.mk 0 n [] false 0 fun _ => T.nil
def strT (s : List UInt8) : T := T.mk 2 0 s false 0 fun _ => T.nil
theorem Num_any (n : Nat) (w : World) : Calls Tryz.prog 142 #[.int .u64 (n : Int)] w (Ret (itemV (numT n) none 0) w) := by
 go_enter Tryz.func142, Tryz.ntmps142
 go_wp2
 refine bodyPost_ret (v := itemV (numT n) none 0) ?_ rfl (Ret.mk rfl ((Mod.refl _ _).alloc _))
 simp [results, Tryz.results142, go_sem]
 exact ⟨rfl, rfl, rfl, rfl, rfl⟩
theorem Str_any (s : List UInt8) (w : World) : Calls Tryz.prog 181 #[str s] w (Ret (itemV (strT s) none 0) w) := by
 go_enter Tryz.func181, Tryz.ntmps181
 go_wp2
 refine bodyPost_ret (v := itemV (strT s) none 0) ?_ rfl (Ret.mk rfl ((Mod.refl _ _).alloc _))
 simp [results, Tryz.results181, go_sem]
 exact ⟨rfl, rfl, rfl, rfl, rfl⟩
theorem List_any (ch : Nat -> T) (k : Nat) (A : Option Addr) (c : Nat) (w : World) : Calls Tryz.prog 158 #[.slice A k c] w (Ret (itemV (T.mk 4 0 [] false k ch) A c) w) := by
 go_enter Tryz.func158, Tryz.ntmps158
 go_wp2
 refine bodyPost_ret (v := itemV (T.mk 4 0 [] false k ch) A c) ?_ rfl (Ret.mk rfl ((Mod.refl _ _).alloc _))
 simp [results, Tryz.results158, go_sem]
 exact ⟨rfl, rfl, rfl, rfl, rfl⟩
theorem NumI_any (n : Int) (w : World) : Calls Tryz.prog 142 #[.int .u64 n] w (Ret (.agg #[.int .i64 0, .int .u64 n, str [], .slice none 0 0, .bool false]) w) := by
 go_enter Tryz.func142, Tryz.ntmps142
 go_wp2
 refine bodyPost_ret (v := .agg #[.int .i64 0, .int .u64 n, str [], .slice none 0 0, .bool false]) ?_ rfl (Ret.mk rfl ((Mod.refl _ _).alloc _))
 simp [results, Tryz.results142, go_sem]
theorem ListV_any (k : Nat) (A : Option Addr) (c : Nat) (w : World) : Calls Tryz.prog 158 #[.slice A k c] w (Ret (.agg #[.int .i64 4, .int .u64 0, str [], .slice A k c, .bool false]) w) := List_any (fun _ => T.nil) k A c w
theorem StrV_any (s : List UInt8) (w : World) : Calls Tryz.prog 181 #[str s] w (Ret (.agg #[.int .i64 2, .int .u64 0, str s, .slice none 0 0, .bool false]) w) := Str_any s w
theorem num_ok {n : Nat} (h : n < 18446744073709551616) : (numT n).ok := by unfold numT T.ok; exact ⟨by omega, h, by simp, by omega, fun i hi => by omega⟩
theorem str_ok {s : List UInt8} (h : s.length < 4611686018427387904) : (strT s).ok := by unfold strT T.ok; exact ⟨by omega, by omega, h, by omega, fun i hi => by omega⟩
section
def set5 (W : World) (b : Nat) (t : T) (A : Option Addr) (c : Nat) : World := ((((W.setCell ⟨b, 0, none⟩ (.int .i64 t.kind)).setCell ⟨b, 1, none⟩ (.int .u64 (t.n : Int))).setCell ⟨b, 2, none⟩ (str t.s)).setCell ⟨b, 3, none⟩ (.slice A t.k c)).setCell ⟨b, 4, none⟩ (.bool t.op)
section
variable {W : World} {b : Nat} {t0 t : T} {A0 A : Option Addr} {c0 c : Nat}
theorem set5_blk (h : Blk W b 68 (itemC t0 A0 c0)) : Blk (set5 W b t A c) b 68 (itemC t A c) := by
 have := ((((h.set_ 0 (.int .i64 t.kind)).set_ 1 (.int .u64 (t.n : Int))).set_ 2 (str t.s)).set_ 3 (.slice A t.k c)).set_ 4 (.bool t.op)
 unfold set5
 simpa [itemC] using this
theorem set5_mod {w : World} {S : List Nat} (h : Mod S w W) (hb : w.heap.size <= b) : Mod S w (set5 W b t A c) :=
 ((((h.setCell (.inr hb) _).setCell (.inr hb) _).setCell (.inr hb) _).setCell (.inr hb) _).setCell (.inr hb) _
theorem set5_modR {w : World} (h : Mod [b] w W) : Mod [b] w (set5 W b t A c) :=
 ((((h.setCell (.inl (by simp)) _).setCell (.inl (by simp)) _).setCell (.inl (by simp)) _).setCell (.inl (by simp)) _).setCell (.inl (by simp)) _
theorem set5_modb : Mod [b] W (set5 W b t A c) :=
 (((((Mod.refl _ _).setCell (.inl (by simp)) _).setCell (.inl (by simp)) _).setCell (.inl (by simp)) _).setCell (.inl (by simp)) _).setCell (.inl (by simp)) _
theorem set5_far {g : Nat} {ty : TypeId} {cs : Array Value} (h : Blk W g ty cs) (hg : g ≠ b) : Blk (set5 W b t A c) g ty cs := h.mod set5_modb (by simpa using hg)
end
theorem cells5 {W : World} {b : Nat} {t : T} {A : Option Addr} {c : Nat} (h : Blk W b 68 (itemC t A c)) : W.cell? ⟨b, 0, none⟩ = some (.int .i64 t.kind) /\ W.cell? ⟨b, 1, none⟩ = some (.int .u64 (t.n : Int)) /\ W.cell? ⟨b, 2, none⟩ = some (str t.s) /\
  W.cell? ⟨b, 3, none⟩ = some (.slice A t.k c) /\ W.cell? ⟨b, 4, none⟩ = some (.bool t.op) := ⟨h.cell 0, h.cell 1, h.cell 2, h.cell 3, h.cell 4⟩
end
abbrev eidC (sch : Int) (name : List UInt8) (node svc : Nat) : Array Value := #[.int .i64 sch, str name, .int .u64 (node : Int), .int .u64 (svc : Int)]
abbrev eidV (sch : Int) (name : List UInt8) (node svc : Nat) : Value := .agg (eidC sch name node svc)
theorem eidNone_any (w : World) : Calls Tryz.prog 132 #[] w (Ret (eidV 1 [110, 111, 110, 101] 0 0) w) := by
 go_enter Tryz.func132, Tryz.ntmps132
 go_wp2
 refine bodyPost_ret (v := eidV 1 [110, 111, 110, 101] 0 0) ?_ rfl (Ret.mk rfl ((Mod.refl _ _).alloc _))
 simp [results, Tryz.results132, go_sem]
theorem eidRight_ipn (node svc : Nat) (hn : node <= 4294967295) (hs : svc <= 4294967295) (w : World) : Calls Tryz.prog 153 #[eidV 2 [] node svc] w (Ret (.bool true) w) := by
 have t1 : decide ((node : Int) <= 4294967295) = true := by simp; omega
 have t2 : decide ((svc : Int) <= 4294967295) = true := by simp; omega
 clear hn hs
 go_enter Tryz.func153, Tryz.ntmps153
 go_wp2
 go_ret
 exact Ret.mk rfl ((Mod.refl _ _).alloc _)
def ipnT (node svc : Nat) : T := T.mk 4 0 [] false 2 fun i => if i = 0 then numT 2 else T.mk 4 0 [] false 2 fun j => if j = 0 then numT node else numT svc
set_option maxRecDepth 20000 in
set_option maxHeartbeats 1600000 in
theorem eidItem_ipn (node svc : Nat) (hn : Hid (node <= 4294967295)) (hs : Hid (svc <= 4294967295)) (w : World) : Calls Tryz.prog 147 #[eidV 2 [] node svc] w (fun e w' => ∃ A, e = .returned (.tuple #[itemV (ipnT node svc) A 2, .int .i64 0]) /\ Ext w w' /\ IsL w' (fun b => w.heap.size <= b) (ipnT node svc) A) := by
 have HB := hid ((Blk.new w 24 (eidC 2 [] node svc)).alloc (.cells #[.int .i64 0, .int .u64 0, str [], .slice none 0 0, .bool false] 68))
 have HR : Hid (Blk ((w.alloc (.cells (eidC 2 [] node svc) 24)).alloc (.cells #[.int .i64 0, .int .u64 0, str [], .slice none 0 0, .bool false] 68)) (w.heap.size + 1) 68 #[.int .i64 0, .int .u64 0, str [], .slice none 0 0, .bool false]) := by
  have := Blk.new (w.alloc (.cells (eidC 2 [] node svc) 24)) 68 #[.int .i64 0, .int .u64 0, str [], .slice none 0 0, .bool false]
  unfold Hid
  simpa using this
 have HE := hid (((Mod.refl [] w).alloc (.cells (eidC 2 [] node svc) 24)).alloc (.cells #[.int .i64 0, .int .u64 0, str [], .slice none 0 0, .bool false] 68))
 go_enter Tryz.func147, Tryz.ntmps147
 go_wp2_with fail
 refine (eidRight_ipn node svc hn.out hs.out _).mono ?_
 rintro e w1 ⟨rfl, hb1⟩
 have HB1 := hid (HB.out.ext hb1)
 have HR1 := hid (HR.out.ext hb1)
 have HE1 := hid (HE.out.trans hb1)
 have x0 : w1.cell? ⟨w.heap.size, 0, none⟩ = some (.int .i64 2) := HB1.out.cell 0
 clear hb1 HB HR HE
 have HS : Hid (∀ W, Ext w1 W -> W.cell? ⟨w.heap.size, 2, none⟩ = some (.int .u64 (node : Int)) /\ W.cell? ⟨w.heap.size, 3, none⟩ = some (.int .u64 (svc : Int))) := fun W hW => ⟨(HB1.out.ext hW).cell 2, (HB1.out.ext hW).cell 3⟩
 have y2 := (HS.out w1 (Mod.refl _ _)).1
 have y3 := (HS.out w1 (Mod.refl _ _)).2
 go_upto_region 4 with fail
 go_region_held3 (fun w' => w'.cell? ⟨w.heap.size, 2, none⟩ = some (.int .u64 (node : Int)) /\ w'.cell? ⟨w.heap.size, 3, none⟩ = some (.int .u64 (svc : Int))) (go_keep)
  (first
   | (go_at_call 142; refine (NumI_any _ _).mono ?_; rintro x w3 ⟨rfl, hb3⟩; have hx : Ext w1 w3 := (by (with_reducible refine Mod.trans ?_ hb3); (repeat (first | with_reducible assumption | with_reducible exact Mod.refl _ _ | with_reducible refine Mod.drew ?_ | with_reducible refine Mod.alloc ?_ _))); have z := HS.out w3 hx)
   | (go_at_call 158; have hI := hIn; refine (ListV_any 2 _ 2 _).mono ?_; rintro x w5 ⟨rfl, hb5⟩; have hx : Ext w1 w5 := (by (with_reducible refine Mod.trans ?_ hb5); (repeat (first | with_reducible assumption | with_reducible exact Mod.refl _ _ | with_reducible refine Mod.drew ?_ | with_reducible refine Mod.alloc ?_ _))); have z := HS.out w5 hx; have hOut := (Blk.new _ _ _).ext hb5; have hIn2 := (Blk.alloc hIn _).ext hb5; have r0 : w5.cell? ⟨w.heap.size + 1, 0, none⟩ = some (.int .i64 0) := (HR1.out.ext hx).cell 0; have g0 : w5.frozen? ⟨w.heap.size + 1, 0, none⟩ = false := (HR1.out.ext hx).frozen 0; have r1 : w5.cell? ⟨w.heap.size + 1, 1, none⟩ = some (.int .u64 0) := (HR1.out.ext hx).cell 1; have g1 : w5.frozen? ⟨w.heap.size + 1, 1, none⟩ = false := (HR1.out.ext hx).frozen 1; have r2 : w5.cell? ⟨w.heap.size + 1, 2, none⟩ = some (str []) := (HR1.out.ext hx).cell 2; have g2 : w5.frozen? ⟨w.heap.size + 1, 2, none⟩ = false := (HR1.out.ext hx).frozen 2; have r3 : w5.cell? ⟨w.heap.size + 1, 3, none⟩ = some (.slice none 0 0) := (HR1.out.ext hx).cell 3; have g3 : w5.frozen? ⟨w.heap.size + 1, 3, none⟩ = false := (HR1.out.ext hx).frozen 3; have r4 : w5.cell? ⟨w.heap.size + 1, 4, none⟩ = some (.bool false) := (HR1.out.ext hx).cell 4; have g4 : w5.frozen? ⟨w.heap.size + 1, 4, none⟩ = false := (HR1.out.ext hx).frozen 4)
   | (go_at_call 158; refine (ListV_any 2 _ 2 _).mono ?_; rintro x w4 ⟨rfl, hb4⟩; have hx : Ext w1 w4 := (by (with_reducible refine Mod.trans ?_ hb4); (repeat (first | with_reducible assumption | with_reducible exact Mod.refl _ _ | with_reducible refine Mod.drew ?_ | with_reducible refine Mod.alloc ?_ _))); have z := HS.out w4 hx; have hIn := (Blk.new _ _ _).ext hb4))
 have h3 : Ext w1 w3 := by assumption
 have h4 : Ext w1 w4 := by assumption
 have hl : w.heap.size + 1 < w1.heap.size := HR1.out.lt
 have hs3 := h3.size
 have hs4 := h4.size
 have HR5 := hid (HR1.out.ext hx)
 have HFin : Hid (Ext w (set5 w5 (w.heap.size + 1) (ipnT node svc) (some ⟨w4.heap.size, 0, none⟩) 2) /\ Blk (set5 w5 (w.heap.size + 1) (ipnT node svc) (some ⟨w4.heap.size, 0, none⟩) 2) (w.heap.size + 1) 68 (itemC (ipnT node svc) (some ⟨w4.heap.size, 0, none⟩) 2) /\
   IsL (set5 w5 (w.heap.size + 1) (ipnT node svc) (some ⟨w4.heap.size, 0, none⟩) 2) (fun b => w.heap.size <= b) (ipnT node svc) (some ⟨w4.heap.size, 0, none⟩)) := by
  have hm : Mod [w.heap.size + 1] w5 (set5 w5 (w.heap.size + 1) (ipnT node svc) (some ⟨w4.heap.size, 0, none⟩) 2) := set5_modb
  have b1 := hOut.mod hm (by simp; omega)
  have b2 := hIn2.mod hm (by simp; omega)
  refine ⟨set5_mod (HE1.out.trans hx) (by omega), set5_blk (t0 := T.mk 0 0 [] false 0 fun _ => T.nil) (A0 := none) (c0 := 0) HR5.out, fun _ => ⟨w4.heap.size, 0, rfl, b1.lt, (show w.heap.size <= w4.heap.size by omega), fun i hi => ?_⟩⟩
  have hi2 : i = 0 \/ i = 1 := by omega
  rcases hi2 with rfl | rfl
  . exact ⟨none, 0, ⟨b1.cell 0, b1.cell 1, b1.cell 2, b1.cell 3, b1.cell 4⟩, fun h => absurd h (by decide)⟩
  .
   refine ⟨some ⟨w3.heap.size, 0, none⟩, 2, ⟨b1.cell 5, b1.cell 6, b1.cell 7, b1.cell 8, b1.cell 9⟩, fun _ => ⟨w3.heap.size, 0, rfl, b2.lt, (show w.heap.size <= w3.heap.size by omega), fun j hj => ?_⟩⟩
   have hj2 : j = 0 \/ j = 1 := by omega
   rcases hj2 with rfl | rfl
   . exact ⟨none, 0, ⟨b2.cell 0, b2.cell 1, b2.cell 2, b2.cell 3, b2.cell 4⟩, fun h => absurd h (by decide)⟩
   . exact ⟨none, 0, ⟨b2.cell 5, b2.cell 6, b2.cell 7, b2.cell 8, b2.cell 9⟩, fun h => absurd h (by decide)⟩
 obtain ⟨d0, d1, d2, d3, d4⟩ := cells5 HFin.out.2.1
 clear hOut hIn2 hIn h3 h4 hl hs3 hs4
 go_wp2_with fail
 show bodyPost _ _ _ _ _ (set5 w5 (w.heap.size + 1) (ipnT node svc) (some ⟨w4.heap.size, 0, none⟩) 2)
 refine bodyPost_ret (v := .tuple #[itemV (ipnT node svc) (some ⟨w4.heap.size, 0, none⟩) 2, .int .i64 0]) (by simp [results, Tryz.results147, go_sem, d0, d1, d2, d3, d4]) rfl ?_
 exact ⟨_, rfl, HFin.out.1, HFin.out.2.2⟩
def lettersL : List UInt8 := [97, 98, 99, 100, 101, 102, 103, 104, 105, 106, 107, 108, 109, 110, 111, 112, 113, 114, 115, 116, 117, 118, 119, 120, 121, 122, 48, 49, 50, 51, 52, 53, 54, 55, 56, 57, 45, 46]
theorem lett_mem_n : ∀ n : Fin 256, lett (UInt8.ofNat n.val) = lettersL.contains (UInt8.ofNat n.val) := by decide +kernel
theorem lett_mem (c : UInt8) : lett c = lettersL.contains c := by
 have := lett_mem_n ⟨c.toNat, c.toNat_lt⟩
 simpa using this
set_option maxHeartbeats 800000 in
theorem letter_any (c : UInt8) (w : World) : Calls Tryz.prog 91 #[.int .u8 (c.toNat : Int)] w (Ret (.bool (lett c)) w) := by
 rw [lett_mem]
 obtain ⟨B, hB⟩ : ∃ B, lettersL.contains c = B := ⟨_, rfl⟩
 rw [hB]
 have HB : Hid ((lettersL.drop 0).contains c = B) := hB
 clear hB
 go_enter Tryz.func91, Tryz.ntmps91
 go_wp2_with fail
 go_loop [3] (fun i => ∃ j : Nat, j <= 38 /\ i = .int .i64 j /\ Hid ((lettersL.drop j).contains c = B)) (fun i => 38 - (intOf i).toNat)
 case atStart => exact ⟨0, Nat.zero_le _, rfl, HB⟩
 case round =>
  obtain ⟨j, hj, rfl, HP⟩ := hrel
  by_cases hlt : j < 38
  .
   have hlt2 : j < lettersL.length := hlt
   have hdr : lettersL.drop j = lettersL[j] :: lettersL.drop (j + 1) := List.drop_eq_getElem_cons hlt2
   rw [hdr] at HP
   by_cases hx : lettersL[j] = c
   .
    have q : ((((({ data := #[97, 98, 99, 100, 101, 102, 103, 104, 105, 106, 107, 108, 109, 110, 111, 112, 113, 114, 115, 116, 117, 118, 119, 120, 121, 122, 48, 49, 50, 51, 52, 53, 54, 55, 56, 57, 45, 46] } : ByteArray)[j]'hlt)).toNat : Int) == (c.toNat : Int)) = true := by show (((lettersL[j]).toNat : Int) == _) = true; simp [hx]
    have HT : Hid (true = B) := by have := HP.out; rw [hx, List.contains_cons] at this; rw [<- this]; unfold Hid; simp
    clear HP hdr hx
    go_wp2_with fail
    go_ret
    exact Ret.mk (by rw [<- HT.out]; rfl) (Mod.refl _ _)
   .
    have hn : ¬ (lettersL[j]).toNat = c.toNat := fun h => hx (UInt8.toNat_inj.1 h)
    have q : ((((({ data := #[97, 98, 99, 100, 101, 102, 103, 104, 105, 106, 107, 108, 109, 110, 111, 112, 113, 114, 115, 116, 117, 118, 119, 120, 121, 122, 48, 49, 50, 51, 52, 53, 54, 55, 56, 57, 45, 46] } : ByteArray)[j]'hlt)).toNat : Int) == (c.toNat : Int)) = false := by show (((lettersL[j]).toNat : Int) == _) = false; simp; omega
    have HT : Hid ((lettersL.drop (j + 1)).contains c = B) := by have := HP.out; rw [List.contains_cons] at this; have h2 : (c == lettersL[j]) = false := (by simpa using Ne.symm hx); rw [h2, Bool.false_or] at this; exact this
    clear HP hdr hx hn
    go_wp2_with fail
    go_round
    case rel => exact ⟨j + 1, by omega, by go_num, HT⟩
    case measure => simp [intOf]; omega
  .
   obtain rfl : j = 38 := by omega
   have HT : Hid (false = B) := HP
   clear HP
   go_wp2_with fail
   go_ret
   exact Ret.mk (by rw [<- HT.out]; rfl) (Mod.refl _ _)
set_option maxHeartbeats 800000 in
theorem slash_any (s : List UInt8) (hs : Hid (s.length < 4611686018427387904)) (w : World) : Calls Tryz.prog 90 #[str s] w (Ret (.int .i64 (slash s : Nat)) w) := by
 obtain ⟨B, hB⟩ : ∃ B, slash s = B := ⟨_, rfl⟩
 rw [hB]
 have HB : Hid (slashA (s.drop 2) 2 = B) := hB
 clear hB
 go_enter Tryz.func90, Tryz.ntmps90
 go_wp2_with fail
 have hs2 := hs.out
 by_cases hl : s.length < 2
 .
  have HT : Hid (0 = B) := by have := HB.out; rw [List.drop_eq_nil_of_le (by omega)] at this; exact this
  go_loop [3] (fun i => i = .int .i64 2) (fun i => 0)
  case atStart => rfl
  case round =>
   subst hrel
   go_wp2_with fail
   go_ret
   exact Ret.mk (by rw [<- HT.out]; rfl) (Mod.refl _ _)
 go_loop [3] (fun i => ∃ j : Nat, 2 <= j /\ j <= s.length /\ i = .int .i64 j /\ Hid (slashA (s.drop j) j = B)) (fun i => s.length - (intOf i).toNat)
 case atStart => exact ⟨2, Nat.le_refl _, by omega, rfl, HB⟩
 case round =>
  obtain ⟨j, hj2, hj, rfl, HP⟩ := hrel
  by_cases hlt : j < s.length
  .
   have hdr : s.drop j = s[j] :: s.drop (j + 1) := List.drop_eq_getElem_cons hlt
   rw [hdr, slashA] at HP
   clear hdr
   by_cases hx : (s[j]).toNat = 47
   .
    have q : ((((⟨s.toArray⟩ : ByteArray)[j]'hlt).toNat : Int) == 47) = true := by show (((s[j]).toNat : Int) == 47) = true; simp; omega
    have q2 : ((((⟨s.toArray⟩ : ByteArray)[j]'hlt).toNat : Int) = 47) = True := by show (((s[j]).toNat : Int) = 47) = True; simp; omega
    have HT : Hid (j = B) := by have := HP.out; rw [if_pos hx] at this; exact this
    clear HP hx
    go_wp2_with fail
    go_ret
    exact Ret.mk (by rw [<- HT.out]; rfl) (Mod.refl _ _)
   .
    have q : ((((⟨s.toArray⟩ : ByteArray)[j]'hlt).toNat : Int) == 47) = false := by show (((s[j]).toNat : Int) == 47) = false; simp; omega
    have q2 : ((((⟨s.toArray⟩ : ByteArray)[j]'hlt).toNat : Int) = 47) = False := by show (((s[j]).toNat : Int) = 47) = False; simp; omega
    have HT : Hid (slashA (s.drop (j + 1)) (j + 1) = B) := by have := HP.out; rw [if_neg hx] at this; exact this
    clear HP hx
    go_wp2_with fail
    go_round
    case rel => exact ⟨j + 1, by omega, by omega, by go_num, HT⟩
    case measure => simp [intOf]; omega
  .
   obtain rfl : j = s.length := by omega
   have HT : Hid (0 = B) := by have := HP.out; rw [List.drop_length] at this; exact this
   clear HP
   go_wp2_with fail
   go_ret
   exact Ret.mk (by rw [<- HT.out]; rfl) (Mod.refl _ _)
section
def flatG (f : Nat -> List Value) : Nat -> List Value
 | 0 => []
 | i + 1 => flatG f i ++ f i
section
variable {f g : Nat -> List Value} {z : Nat}
theorem flatG_length (hf : ∀ i, (f i).length = z) (i : Nat) : (flatG f i).length = i * z := by
 induction i with
 | zero => simp [flatG]
 | succ i ih => rw [flatG, List.length_append, ih, hf, Nat.succ_mul]
theorem flatG_congr {i : Nat} (h : ∀ j, j < i -> f j = g j) : flatG f i = flatG g i := by
 induction i with
 | zero => rfl
 | succ i ih => rw [flatG, flatG, ih (fun j hj => h j (by omega)), h i (by omega)]
theorem flatG_get (hf : ∀ i, (f i).length = z) (k : Nat) : ∀ j, j < k -> ∀ r, r < z -> (flatG f k)[j * z + r]? = (f j)[r]? := by
 induction k with
 | zero => intro j hj; omega
 | succ k ih =>
  intro j hj r hr
  have hl := flatG_length hf k
  rw [flatG]
  by_cases e : j = k
  .
   subst e
   rw [List.getElem?_append_right (by omega), hl]
   congr 1; omega
  .
   have h1 : (j + 1) * z <= k * z := Nat.mul_le_mul_right z (by omega)
   rw [Nat.succ_mul] at h1
   rw [List.getElem?_append_left (by omega), ih j (by omega) r hr]
theorem flatG_idx (hz : 0 < z) (hf : ∀ i, (f i).length = z) (k : Nat) {j : Nat} {u : Value} (h : (flatG f k)[j]? = some u) : ∃ i r, i < k /\ r < z /\ j = i * z + r /\ (f i)[r]? = some u := by
 have h1 := (List.getElem?_eq_some_iff.1 h).1
 rw [flatG_length hf] at h1
 have hi : j / z < k := Nat.div_lt_of_lt_mul (by rw [Nat.mul_comm]; exact h1)
 have hr : j % z < z := Nat.mod_lt _ hz
 have he : j = j / z * z + j % z := by have := Nat.div_add_mod j z; rw [Nat.mul_comm] at this; omega
 refine ⟨j / z, j % z, hi, hr, he, ?_⟩
 rw [<- flatG_get hf k _ hi _ hr, <- he]; exact h
theorem flatG_one (hz : 0 < z) (hf : ∀ i, (f i).length = z) (h1 : ∀ i, ∀ u ∈ f i, u.oneCell' = true) (k : Nat) : ∀ u ∈ flatG f k, u.oneCell' = true := by
 intro u hu
 obtain ⟨j, hj⟩ := List.getElem?_of_mem hu
 obtain ⟨i, r, _, _, _, h⟩ := flatG_idx hz hf k hj
 exact h1 i u (List.mem_of_getElem? h)
theorem flatG_news (hz : 0 < z) (hf : ∀ i, (f i).length = z) {W : World} {b o k : Nat} (h : ∀ i, i < k -> ∀ r u, (f i)[r]? = some u -> W.cell? ⟨b, o + i * z + r, none⟩ = some u) : ∀ j u, (flatG f k)[j]? = some u -> W.cell? ((⟨b, o, none⟩ : Addr).add j) = some u := by
 intro j u hj
 obtain ⟨i, r, hi, hr, rfl, hu⟩ := flatG_idx hz hf k hj
 rw [addr_add, <- Nat.add_assoc]
 exact h i hi r u hu
theorem flatG_own {W : World} {base b c k : Nat} {e : TypeId} (hf : ∀ i, (f i).length = z) (h : W.ownsRow base e z (.slice (some ⟨b, 0, none⟩) k c) k (flatG f k)) {i : Nat} (hi : i < k) {r : Nat} (hr : r < z) {u : Value} (hu : (f i)[r]? = some u) : W.cell? ⟨b, i * z + r, none⟩ = some u := by
 have := h.cells (g := b) rfl (i * z + r) u (by rw [flatG_get hf k i hi r hr]; exact hu)
 rw [addr_add, Nat.zero_add] at this
 exact this
end
theorem own_cap {w : World} {base size n c : Nat} {e : TypeId} {A : Option Addr} {xs : List Value} (h : w.ownsRow base e size (.slice A n c) n xs) : n <= c := by
 rcases h.2 with ⟨h1, h2⟩ | ⟨g, cap, cur, hv, hbg, hg, hnc, hcm, hcs, htake⟩
 . simp only [Value.slice.injEq] at h1; omega
 . simp only [Value.slice.injEq] at hv; omega
end
def IsC (w : World) (Q : Nat -> Prop) : T -> Option Addr -> Nat -> Prop
 | T.nil, A, c => False
 | T.mk _ _ _ _ k ch, A, c => k <= c /\ (0 < k -> ∃ b o, A = some ⟨b, o, none⟩ /\ b < w.heap.size /\ Q b /\ ∀ i, i < k -> ∃ Ai ci, At5 w b (o + i * 5) (ch i) Ai ci /\ IsC w Q (ch i) Ai ci)
theorem IsC.mod {w w' : World} {Q : Nat -> Prop} {S : List Nat} (hm : Mod S w w') (hs : ∀ k, Q k -> k < w.heap.size -> k ∉ S) (t : T) : ∀ {A : Option Addr} {c : Nat}, IsC w Q t A c -> IsC w' Q t A c := by
 induction t with
 | nil => intro A c h; cases h
 | mk kind n s op k ch ih =>
  rintro A c ⟨hc0, h⟩
  refine ⟨hc0, fun h0 => ?_⟩
  obtain ⟨b, o, hA, hb, hq, hc⟩ := h h0
  refine ⟨b, o, hA, Nat.lt_of_lt_of_le hb hm.size, hq, fun i hi => ?_⟩
  obtain ⟨Ai, ci, h1, h2⟩ := hc i hi
  exact ⟨Ai, ci, h1.mod hm hb (hs b hq hb), ih i h2⟩
theorem IsC.ext {w w' : World} {Q : Nat -> Prop} {t : T} {A : Option Addr} {c : Nat} (h : IsC w Q t A c) (hm : Ext w w') : IsC w' Q t A c := IsC.mod hm (by simp) t h
theorem IsC.weak {w : World} {Q R : Nat -> Prop} (hq : ∀ k, k < w.heap.size -> Q k -> R k) (t : T) : ∀ {A : Option Addr} {c : Nat}, IsC w Q t A c -> IsC w R t A c := by
 induction t with
 | nil => intro A c h; cases h
 | mk kind n s op k ch ih =>
  rintro A c ⟨hc0, h⟩
  refine ⟨hc0, fun h0 => ?_⟩
  obtain ⟨b, o, hA, hb, hq', hc⟩ := h h0
  refine ⟨b, o, hA, hb, hq b hb hq', fun i hi => ?_⟩
  obtain ⟨Ai, ci, h1, h2⟩ := hc i hi
  exact ⟨Ai, ci, h1, ih i h2⟩
theorem IsC.leaf {w : World} {Q : Nat -> Prop} {kind : Int} {n : Nat} {s : List UInt8} {op : Bool} {ch : Nat -> T} {A : Option Addr} {c : Nat} : IsC w Q (.mk kind n s op 0 ch) A c := ⟨Nat.zero_le _, fun h => by omega⟩
theorem IsC.isL {w : World} {Q : Nat -> Prop} (t : T) : ∀ {A : Option Addr} {c : Nat}, IsC w Q t A c -> IsL w Q t A := by
 induction t with
 | nil => intro A c h; cases h
 | mk kind n s op k ch ih =>
  rintro A c ⟨hc0, h⟩ h0
  obtain ⟨b, o, hA, hb, hq, hc⟩ := h h0
  refine ⟨b, o, hA, hb, hq, fun i hi => ?_⟩
  obtain ⟨Ai, ci, h1, h2⟩ := hc i hi
  exact ⟨Ai, ci, h1, ih i h2⟩
theorem IsC.cap {w : World} {Q : Nat -> Prop} {t : T} {A : Option Addr} {c : Nat} (h : IsC w Q t A c) : t.k <= c := by
 cases t with
 | nil => exact absurd h id
 | mk kind n s op k ch => exact h.1
theorem room_cap {w : World} {base : Nat} {e : TypeId} {size : Nat} {A : Option Addr} {k c : Nat} {xs : List Value} (h : w.ownsRow base e size (.slice A k c) k xs) : k <= c := by
 rcases h.2 with ⟨_, h0⟩ | ⟨g, cap, cs, e1, _, _, h1, _⟩
 . omega
 .
  simp only [Value.slice.injEq] at e1
  omega
end Go.Proofs.YtmckfdmdkljomaaGreatDoor
