/-
 Blocks, plainly: why one is not right; its header.
-/
import Derived.Test.YthecmnbkjchjmaaGreatMExtHopsab
import Derived.Test.YthecmnbkjchjmaaGreatMExtHopsac
import Derived.Lib.SliceRun
import Derived.Deep.Slices
import Derived.Deep.Fields
import Derived.ChangeSame
import Derived.SizedLaws
namespace Go.Proofs.YthecmnbkjchjmaaGreat
open Go.RowKit
set_option linter.unusedVariables false
set_option linter.unusedSimpArgs false
structure BV where
 ty : Int
 num : Int
 fl : Nat
 crc : Int
 data : List UInt8
def BV.right (b : BV) : Int :=
 if b.ty < 1 \/ 65535 < b.ty \/ b.num < 1 \/ 65535 < b.num \/ 255 < b.fl \/ b.crc < 0 \/ 2 < b.crc then 1 else if 4000 < b.data.length then 4
 else if (b.ty = 1 /\ b.num ≠ 1) \/ (b.ty ≠ 1 /\ b.num = 1) then 8 else 0
theorem BV.right_zero {b : BV} (h : b.right = 0) : 1 <= b.ty /\ b.ty <= 65535 /\ 1 <= b.num /\ b.num <= 65535 /\ b.fl <= 255 /\ 0 <= b.crc /\ b.crc <= 2 /\ b.data.length <= 4000 /\ (b.ty = 1 ↔ b.num = 1) := by
 unfold BV.right at h
 split at h
 . omega
 .
  split at h
  . omega
  .
   split at h
   . omega
   . omega
structure PV where
 fl : Nat
 crc : Int
 d : EV
 s : EV
 r : EV
 t : Nat
 q : Nat
 l : Nat
 o : Nat
 n : Nat
def firstOf (p : Nat -> Bool) : Nat -> Option Nat
 | 0 => none
 | k + 1 => match firstOf p k with | some i => some i | none => if p k then some k else none
theorem firstOf_none {p : Nat -> Bool} {k : Nat} (hj : ∀ j, j < k -> p j = false) : firstOf p k = none := by
 induction k with
 | zero => rfl
 | succ k ih => rw [firstOf, ih (fun j h => hj j (by omega)), hj k (by omega)]; rfl
theorem firstOf_some {p : Nat -> Bool} {k i : Nat} (hi : i < k) (h : p i = true) (hj : ∀ j, j < i -> p j = false) : firstOf p k = some i := by
 induction k with
 | zero => omega
 | succ k ih =>
  rw [firstOf]
  by_cases e : i = k
  .
   subst e
   rw [firstOf_none hj, h]; rfl
  . rw [ih (by omega)]
theorem firstOf_no {p : Nat -> Bool} {k : Nat} (h : firstOf p k = none) : ∀ j, j < k -> p j = false := by
 induction k with
 | zero => intro j hj; omega
 | succ k ih =>
  rw [firstOf] at h
  cases hf : firstOf p k with
  | some x => rw [hf] at h; cases h
  | none =>
   rw [hf] at h
   intro j hj
   by_cases e : j = k
   .
    subst e
    cases hp : p j with
    | false => rfl
    | true => simp [hp] at h
   . exact ih hf j (by omega)
theorem firstOf_spec {p : Nat -> Bool} {k i : Nat} (h : firstOf p k = some i) : i < k /\ p i = true /\ ∀ j, j < i -> p j = false := by
 induction k with
 | zero => cases h
 | succ k ih =>
  rw [firstOf] at h
  cases hf : firstOf p k with
  | some x =>
   rw [hf] at h
   simp only [Option.some.injEq] at h
   subst h
   have := ih hf
   exact ⟨by omega, this.2.1, this.2.2⟩
  | none =>
   rw [hf] at h
   cases hk : p k with
   | true =>
    simp only [hk, if_true, Option.some.injEq] at h
    subst h
    exact ⟨by omega, hk, fun j hj => firstOf_no hf j hj⟩
   | false => simp [hk] at h
def firstI (p : Nat -> Bool) (k : Nat) : Int := match firstOf p k with | some i => (i : Int) | none => -1
def zeroB : BV := ⟨0, 0, 0, 0, []⟩
abbrev PV.c (p : PV) : Array Value := #[.int .u64 (p.fl : Int), .int .i64 p.crc, .int .i64 p.d.sch, str p.d.name, .int .u64 (p.d.node : Int), .int .u64 (p.d.svc : Int), .int .i64 p.s.sch, str p.s.name, .int .u64 (p.s.node : Int), .int .u64 (p.s.svc : Int), .int .i64 p.r.sch, str p.r.name, .int .u64 (p.r.node : Int), .int .u64 (p.r.svc : Int), .int .u64 (p.t : Int), .int .u64 (p.q : Int), .int .u64 (p.l : Int), .int .u64 (p.o : Int), .int .u64 (p.n : Int)]
abbrev PV.v (p : PV) : Value := .agg p.c
abbrev bunC (p : PV) (A : Option Addr) (k c : Nat) : Array Value := #[.int .u64 (p.fl : Int), .int .i64 p.crc, .int .i64 p.d.sch, str p.d.name, .int .u64 (p.d.node : Int), .int .u64 (p.d.svc : Int), .int .i64 p.s.sch, str p.s.name, .int .u64 (p.s.node : Int), .int .u64 (p.s.svc : Int), .int .i64 p.r.sch, str p.r.name, .int .u64 (p.r.node : Int), .int .u64 (p.r.svc : Int), .int .u64 (p.t : Int), .int .u64 (p.q : Int), .int .u64 (p.l : Int), .int .u64 (p.o : Int), .int .u64 (p.n : Int), .slice A k c]
abbrev bunV (p : PV) (A : Option Addr) (k c : Nat) : Value := .agg (bunC p A k c)
def BAt (w : World) (b o : Nat) (x : BV) : Prop :=
 w.cell? ⟨b, o, none⟩ = some (.int .i64 x.ty) /\ w.cell? ⟨b, o + 1, none⟩ = some (.int .i64 x.num) /\ w.cell? ⟨b, o + 2, none⟩ = some (.int .u64 (x.fl : Int)) /\ w.cell? ⟨b, o + 3, none⟩ = some (.int .i64 x.crc) /\ w.cell? ⟨b, o + 4, none⟩ = some (str x.data)
def BsL (w : World) (A : Option Addr) (k : Nat) (bs : Nat -> BV) : Prop := 0 < k -> ∃ b o, A = some ⟨b, o, none⟩ /\ b < w.heap.size /\ ∀ i, i < k -> BAt w b (o + i * 5) (bs i)
theorem BAt.mod {w w' : World} {S : List Nat} {b o : Nat} {x : BV} (h : BAt w b o x) (hm : Mod S w w') (hb : b < w.heap.size) (hs : b ∉ S) : BAt w' b o x := by
 obtain ⟨h0, h1, h2, h3, h4⟩ := h
 exact ⟨(hm.cell hb hs).trans h0, (hm.cell hb hs).trans h1, (hm.cell hb hs).trans h2, (hm.cell hb hs).trans h3, (hm.cell hb hs).trans h4⟩
theorem BsL.ext {w w' : World} {A : Option Addr} {k : Nat} {bs : Nat -> BV} (h : BsL w A k bs) (hm : Ext w w') : BsL w' A k bs := fun hk => by
 obtain ⟨b, o, hA, hb, hc⟩ := h hk
 exact ⟨b, o, hA, Nat.lt_of_lt_of_le hb hm.size, fun i hi => (hc i hi).mod hm hb (by simp)⟩
theorem BsL.cells {V : World} {A : Option Addr} {k : Nat} {bs : Nat -> BV} (h : BsL V A k bs) {i : Nat} (hi : i < k) : ∃ b o, A = some ⟨b, o, none⟩ /\ b < V.heap.size /\
  (∀ e : Later V, e.x.cell? ⟨b, o + i * 5, none⟩ = some (.int .i64 (bs i).ty)) /\ (∀ e : Later V, e.x.cell? ⟨b, o + i * 5 + 1, none⟩ = some (.int .i64 (bs i).num)) /\ (∀ e : Later V, e.x.cell? ⟨b, o + i * 5 + 2, none⟩ = some (.int .u64 ((bs i).fl : Int))) /\
  (∀ e : Later V, e.x.cell? ⟨b, o + i * 5 + 3, none⟩ = some (.int .i64 (bs i).crc)) /\ (∀ e : Later V, e.x.cell? ⟨b, o + i * 5 + 4, none⟩ = some (str (bs i).data)) := by
 obtain ⟨b, o, hA, hb, hc⟩ := h (by omega)
 obtain ⟨h0, h1, h2, h3, h4⟩ := hc i hi
 exact ⟨b, o, hA, hb, cellL h0, cellL h1, cellL h2, cellL h3, cellL h4⟩
def numT (n : Nat) : T := T.mk 0 n [] false 0 fun _ => T.nil
def strT (s : List UInt8) : T := T.mk 2 0 s false 0 fun _ => T.nil
theorem Num_any (n : Nat) (w : World) : Calls Tryz.prog 46 #[.int .u64 (n : Int)] w (Ret (itemV (numT n) none 0) w) := by
 go_enter Tryz.func46, Tryz.ntmps46
 go_wp2
 refine bodyPost_ret (v := itemV (numT n) none 0) ?_ rfl (Ret.mk rfl ((Mod.refl _ _).alloc _))
 simp [results, Tryz.results46, go_sem]
 exact ⟨rfl, rfl, rfl, rfl, rfl⟩
theorem Str_any (s : List UInt8) (w : World) : Calls Tryz.prog 159 #[str s] w (Ret (itemV (strT s) none 0) w) := by
 go_enter Tryz.func159, Tryz.ntmps159
 go_wp2
 refine bodyPost_ret (v := itemV (strT s) none 0) ?_ rfl (Ret.mk rfl ((Mod.refl _ _).alloc _))
 simp [results, Tryz.results159, go_sem]
 exact ⟨rfl, rfl, rfl, rfl, rfl⟩
theorem List_any (ch : Nat -> T) (k : Nat) (A : Option Addr) (c : Nat) (w : World) : Calls Tryz.prog 45 #[.slice A k c] w (Ret (itemV (T.mk 4 0 [] false k ch) A c) w) := by
 go_enter Tryz.func45, Tryz.ntmps45
 go_wp2
 refine bodyPost_ret (v := itemV (T.mk 4 0 [] false k ch) A c) ?_ rfl (Ret.mk rfl ((Mod.refl _ _).alloc _))
 simp [results, Tryz.results45, go_sem]
 exact ⟨rfl, rfl, rfl, rfl, rfl⟩
theorem NumI_any (n : Int) (w : World) : Calls Tryz.prog 46 #[.int .u64 n] w (Ret (.agg #[.int .i64 0, .int .u64 n, str [], .slice none 0 0, .bool false]) w) := by
 go_enter Tryz.func46, Tryz.ntmps46
 go_wp2
 refine bodyPost_ret (v := .agg #[.int .i64 0, .int .u64 n, str [], .slice none 0 0, .bool false]) ?_ rfl (Ret.mk rfl ((Mod.refl _ _).alloc _))
 simp [results, Tryz.results46, go_sem]
theorem ListV_any (k : Nat) (A : Option Addr) (c : Nat) (w : World) : Calls Tryz.prog 45 #[.slice A k c] w (Ret (.agg #[.int .i64 4, .int .u64 0, str [], .slice A k c, .bool false]) w) := List_any (fun _ => T.nil) k A c w
theorem StrV_any (s : List UInt8) (w : World) : Calls Tryz.prog 159 #[str s] w (Ret (.agg #[.int .i64 2, .int .u64 0, str s, .slice none 0 0, .bool false]) w) := Str_any s w
theorem num_ok {n : Nat} (h : n < 18446744073709551616) : (numT n).ok := by unfold numT T.ok; exact ⟨by omega, h, by simp, by omega, fun i hi => by omega⟩
theorem str_ok {s : List UInt8} (h : s.length < 4611686018427387904) : (strT s).ok := by unfold strT T.ok; exact ⟨by omega, by omega, h, by omega, fun i hi => by omega⟩
section
def set5 (W : World) (b : Nat) (t : T) (A : Option Addr) (c : Nat) : World := ((((W.setCell ⟨b, 0, none⟩ (.int .i64 t.kind)).setCell ⟨b, 1, none⟩ (.int .u64 (t.n : Int))).setCell ⟨b, 2, none⟩ (str t.s)).setCell ⟨b, 3, none⟩ (.slice A t.k c)).setCell ⟨b, 4, none⟩ (.bool t.op)
section
variable {W : World} {b : Nat} {t0 t : T} {A0 A : Option Addr} {c0 c : Nat}
theorem set5_blk (h : Blk W b 86 (itemC t0 A0 c0)) : Blk (set5 W b t A c) b 86 (itemC t A c) := by
 have := ((((h.set_ 0 (.int .i64 t.kind)).set_ 1 (.int .u64 (t.n : Int))).set_ 2 (str t.s)).set_ 3 (.slice A t.k c)).set_ 4 (.bool t.op)
 unfold set5
 simpa [itemC] using this
theorem set5_mod {w : World} {S : List Nat} (h : Mod S w W) (hb : w.heap.size <= b) : Mod S w (set5 W b t A c) :=
 ((((h.setCell (.inr hb) _).setCell (.inr hb) _).setCell (.inr hb) _).setCell (.inr hb) _).setCell (.inr hb) _
theorem set5_modR {w : World} (h : Mod [b] w W) : Mod [b] w (set5 W b t A c) :=
 ((((h.setCell (.inl (by simp)) _).setCell (.inl (by simp)) _).setCell (.inl (by simp)) _).setCell (.inl (by simp)) _).setCell (.inl (by simp)) _
theorem set5_modb : Mod [b] W (set5 W b t A c) :=
 (((((Mod.refl _ _).setCell (.inl (by simp)) _).setCell (.inl (by simp)) _).setCell (.inl (by simp)) _).setCell (.inl (by simp)) _).setCell (.inl (by simp)) _
theorem set5_far {g : Nat} {ty : TypeId} {cs : Array Value} (h : Blk W g ty cs) (hg : g ≠ b) : Blk (set5 W b t A c) g ty cs := h.mod set5_modb (by simpa using hg)
end
theorem cells5 {W : World} {b : Nat} {t : T} {A : Option Addr} {c : Nat} (h : Blk W b 86 (itemC t A c)) : W.cell? ⟨b, 0, none⟩ = some (.int .i64 t.kind) /\ W.cell? ⟨b, 1, none⟩ = some (.int .u64 (t.n : Int)) /\ W.cell? ⟨b, 2, none⟩ = some (str t.s) /\
  W.cell? ⟨b, 3, none⟩ = some (.slice A t.k c) /\ W.cell? ⟨b, 4, none⟩ = some (.bool t.op) := ⟨h.cell 0, h.cell 1, h.cell 2, h.cell 3, h.cell 4⟩
end
abbrev eidC (sch : Int) (name : List UInt8) (node svc : Nat) : Array Value := #[.int .i64 sch, str name, .int .u64 (node : Int), .int .u64 (svc : Int)]
abbrev eidV (sch : Int) (name : List UInt8) (node svc : Nat) : Value := .agg (eidC sch name node svc)
theorem eidNone_any (w : World) : Calls Tryz.prog 134 #[] w (Ret (eidV 1 [110, 111, 110, 101] 0 0) w) := by
 go_enter Tryz.func134, Tryz.ntmps134
 go_wp2
 refine bodyPost_ret (v := eidV 1 [110, 111, 110, 101] 0 0) ?_ rfl (Ret.mk rfl ((Mod.refl _ _).alloc _))
 simp [results, Tryz.results134, go_sem]
theorem eidRight_ipn (node svc : Nat) (hn : node <= 4294967295) (hs : svc <= 4294967295) (w : World) : Calls Tryz.prog 77 #[eidV 2 [] node svc] w (Ret (.bool true) w) := by
 have t1 : decide ((node : Int) <= 4294967295) = true := by simp; omega
 have t2 : decide ((svc : Int) <= 4294967295) = true := by simp; omega
 clear hn hs
 go_enter Tryz.func77, Tryz.ntmps77
 go_wp2
 go_ret
 exact Ret.mk rfl ((Mod.refl _ _).alloc _)
def ipnT (node svc : Nat) : T := T.mk 4 0 [] false 2 fun i => if i = 0 then numT 2 else T.mk 4 0 [] false 2 fun j => if j = 0 then numT node else numT svc
set_option maxRecDepth 20000 in
set_option maxHeartbeats 1600000 in
theorem eidItem_ipn (node svc : Nat) (hn : Hid (node <= 4294967295)) (hs : Hid (svc <= 4294967295)) (w : World) : Calls Tryz.prog 58 #[eidV 2 [] node svc] w (fun e w' => ∃ A, e = .returned (.tuple #[itemV (ipnT node svc) A 2, .int .i64 0]) /\ Ext w w' /\ IsL w' (fun b => w.heap.size <= b) (ipnT node svc) A) := by
 have HB := hid ((Blk.new w 24 (eidC 2 [] node svc)).alloc (.cells #[.int .i64 0, .int .u64 0, str [], .slice none 0 0, .bool false] 86))
 have HR : Hid (Blk ((w.alloc (.cells (eidC 2 [] node svc) 24)).alloc (.cells #[.int .i64 0, .int .u64 0, str [], .slice none 0 0, .bool false] 86)) (w.heap.size + 1) 86 #[.int .i64 0, .int .u64 0, str [], .slice none 0 0, .bool false]) := by
  have := Blk.new (w.alloc (.cells (eidC 2 [] node svc) 24)) 86 #[.int .i64 0, .int .u64 0, str [], .slice none 0 0, .bool false]
  unfold Hid
  simpa using this
 have HE := hid (((Mod.refl [] w).alloc (.cells (eidC 2 [] node svc) 24)).alloc (.cells #[.int .i64 0, .int .u64 0, str [], .slice none 0 0, .bool false] 86))
 go_enter Tryz.func58, Tryz.ntmps58
 go_wp2_with fail
 refine (eidRight_ipn node svc hn.out hs.out _).mono ?_
 rintro e w1 ⟨rfl, hb1⟩
 have HB1 := hid (HB.out.ext hb1)
 have HR1 := hid (HR.out.ext hb1)
 have HE1 := hid (HE.out.trans hb1)
 have x0 : w1.cell? ⟨w.heap.size, 0, none⟩ = some (.int .i64 2) := HB1.out.cell 0
 clear hb1 HB HR HE
 have HS : Hid (∀ W, Ext w1 W -> W.cell? ⟨w.heap.size, 2, none⟩ = some (.int .u64 (node : Int)) /\ W.cell? ⟨w.heap.size, 3, none⟩ = some (.int .u64 (svc : Int))) := fun W hW => ⟨(HB1.out.ext hW).cell 2, (HB1.out.ext hW).cell 3⟩
 have y2 := (HS.out w1 (Mod.refl _ _)).1
 have y3 := (HS.out w1 (Mod.refl _ _)).2
 go_upto_region 4 with fail
 go_region_held3 (fun w' => w'.cell? ⟨w.heap.size, 2, none⟩ = some (.int .u64 (node : Int)) /\ w'.cell? ⟨w.heap.size, 3, none⟩ = some (.int .u64 (svc : Int))) (go_keep)
  (first
   | (go_at_call 46; refine (NumI_any _ _).mono ?_; rintro x w3 ⟨rfl, hb3⟩; have hx : Ext w1 w3 := (by (with_reducible refine Mod.trans ?_ hb3); (repeat (first | with_reducible assumption | with_reducible exact Mod.refl _ _ | with_reducible refine Mod.drew ?_ | with_reducible refine Mod.alloc ?_ _))); have z := HS.out w3 hx)
   | (go_at_call 45; have hI := hIn; refine (ListV_any 2 _ 2 _).mono ?_; rintro x w5 ⟨rfl, hb5⟩; have hx : Ext w1 w5 := (by (with_reducible refine Mod.trans ?_ hb5); (repeat (first | with_reducible assumption | with_reducible exact Mod.refl _ _ | with_reducible refine Mod.drew ?_ | with_reducible refine Mod.alloc ?_ _))); have z := HS.out w5 hx; have hOut := (Blk.new _ _ _).ext hb5; have hIn2 := (Blk.alloc hIn _).ext hb5; have r0 : w5.cell? ⟨w.heap.size + 1, 0, none⟩ = some (.int .i64 0) := (HR1.out.ext hx).cell 0; have g0 : w5.frozen? ⟨w.heap.size + 1, 0, none⟩ = false := (HR1.out.ext hx).frozen 0; have r1 : w5.cell? ⟨w.heap.size + 1, 1, none⟩ = some (.int .u64 0) := (HR1.out.ext hx).cell 1; have g1 : w5.frozen? ⟨w.heap.size + 1, 1, none⟩ = false := (HR1.out.ext hx).frozen 1; have r2 : w5.cell? ⟨w.heap.size + 1, 2, none⟩ = some (str []) := (HR1.out.ext hx).cell 2; have g2 : w5.frozen? ⟨w.heap.size + 1, 2, none⟩ = false := (HR1.out.ext hx).frozen 2; have r3 : w5.cell? ⟨w.heap.size + 1, 3, none⟩ = some (.slice none 0 0) := (HR1.out.ext hx).cell 3; have g3 : w5.frozen? ⟨w.heap.size + 1, 3, none⟩ = false := (HR1.out.ext hx).frozen 3; have r4 : w5.cell? ⟨w.heap.size + 1, 4, none⟩ = some (.bool false) := (HR1.out.ext hx).cell 4; have g4 : w5.frozen? ⟨w.heap.size + 1, 4, none⟩ = false := (HR1.out.ext hx).frozen 4)
   | (go_at_call 45; refine (ListV_any 2 _ 2 _).mono ?_; rintro x w4 ⟨rfl, hb4⟩; have hx : Ext w1 w4 := (by (with_reducible refine Mod.trans ?_ hb4); (repeat (first | with_reducible assumption | with_reducible exact Mod.refl _ _ | with_reducible refine Mod.drew ?_ | with_reducible refine Mod.alloc ?_ _))); have z := HS.out w4 hx; have hIn := (Blk.new _ _ _).ext hb4))
 have h3 : Ext w1 w3 := by assumption
 have h4 : Ext w1 w4 := by assumption
 have hl : w.heap.size + 1 < w1.heap.size := HR1.out.lt
 have hs3 := h3.size
 have hs4 := h4.size
 have HR5 := hid (HR1.out.ext hx)
 have HFin : Hid (Ext w (set5 w5 (w.heap.size + 1) (ipnT node svc) (some ⟨w4.heap.size, 0, none⟩) 2) /\ Blk (set5 w5 (w.heap.size + 1) (ipnT node svc) (some ⟨w4.heap.size, 0, none⟩) 2) (w.heap.size + 1) 86 (itemC (ipnT node svc) (some ⟨w4.heap.size, 0, none⟩) 2) /\
   IsL (set5 w5 (w.heap.size + 1) (ipnT node svc) (some ⟨w4.heap.size, 0, none⟩) 2) (fun b => w.heap.size <= b) (ipnT node svc) (some ⟨w4.heap.size, 0, none⟩)) := by
  have hm : Mod [w.heap.size + 1] w5 (set5 w5 (w.heap.size + 1) (ipnT node svc) (some ⟨w4.heap.size, 0, none⟩) 2) := set5_modb
  have b1 := hOut.mod hm (by simp; omega)
  have b2 := hIn2.mod hm (by simp; omega)
  refine ⟨set5_mod (HE1.out.trans hx) (by omega), set5_blk (t0 := T.mk 0 0 [] false 0 fun _ => T.nil) (A0 := none) (c0 := 0) HR5.out, fun _ => ⟨w4.heap.size, 0, rfl, b1.lt, (show w.heap.size <= w4.heap.size by omega), fun i hi => ?_⟩⟩
  have hi2 : i = 0 \/ i = 1 := by omega
  rcases hi2 with rfl | rfl
  . exact ⟨none, 0, ⟨b1.cell 0, b1.cell 1, b1.cell 2, b1.cell 3, b1.cell 4⟩, fun h => absurd h (by decide)⟩
  .
   refine ⟨some ⟨w3.heap.size, 0, none⟩, 2, ⟨b1.cell 5, b1.cell 6, b1.cell 7, b1.cell 8, b1.cell 9⟩, fun _ => ⟨w3.heap.size, 0, rfl, b2.lt, (show w.heap.size <= w3.heap.size by omega), fun j hj => ?_⟩⟩
   have hj2 : j = 0 \/ j = 1 := by omega
   rcases hj2 with rfl | rfl
   . exact ⟨none, 0, ⟨b2.cell 0, b2.cell 1, b2.cell 2, b2.cell 3, b2.cell 4⟩, fun h => absurd h (by decide)⟩
   . exact ⟨none, 0, ⟨b2.cell 5, b2.cell 6, b2.cell 7, b2.cell 8, b2.cell 9⟩, fun h => absurd h (by decide)⟩
 obtain ⟨d0, d1, d2, d3, d4⟩ := cells5 HFin.out.2.1
 clear hOut hIn2 hIn h3 h4 hl hs3 hs4
 go_wp2_with fail
 show bodyPost _ _ _ _ _ (set5 w5 (w.heap.size + 1) (ipnT node svc) (some ⟨w4.heap.size, 0, none⟩) 2)
 refine bodyPost_ret (v := .tuple #[itemV (ipnT node svc) (some ⟨w4.heap.size, 0, none⟩) 2, .int .i64 0]) (by simp [results, Tryz.results58, go_sem, d0, d1, d2, d3, d4]) rfl ?_
 exact ⟨_, rfl, HFin.out.1, HFin.out.2.2⟩
set_option maxHeartbeats 800000 in
theorem CloneI_any {Q : Nat -> Prop} {kind : Int} {n : Nat} {s : List UInt8} {op : Bool} (ch : Nat -> T) (k : Nat) (hk : Hid (0 < k /\ k <= 1000)) (A : Option Addr) (c : Nat) (w : World) (h : IsL w Q (T.mk kind n s op k ch) A) :
  Calls Tryz.prog 158 #[.slice A k c] w (fun e w' => ∃ (g c' : Nat) (ac : Nat -> Option Addr × Nat), e = .returned (.slice (some ⟨g, 0, none⟩) k c') /\ Ext w w' /\ w.heap.size <= g /\ g < w'.heap.size /\ w'.ownsRow w.heap.size 86 5 (.slice (some ⟨g, 0, none⟩) k c') k (flatC ch ac k) /\ ∀ i, i < k -> IsL w' Q (ch i) (ac i).1) := by
 have he := Lib.run_eql_slice_nil (P := Tryz.prog)
 obtain ⟨i0, hi, hz0, hz1, hz2⟩ := info_parts infoItem
 obtain ⟨b, o, ac, rfl, hb, hq, hc⟩ := h.rows hk.out.1
 have hl := World.ownsRow_lit (base := w.heap.size) (e := 86) (size := 5) w #[] 0 (Nat.le_refl _) (Nat.zero_le _) rfl
 have hnews : Hid (∀ j u, (flatC ch ac k)[j]? = some u -> (w.alloc (.cells #[] 86)).cell? ((⟨b, o, none⟩ : Addr).add j) = some u) := flatC_news fun i hi => (hc i hi).1.mod (S := []) ((Mod.refl _ _).alloc _) hb (by simp)
 have hfl := hid (flatC_length ch ac k)
 have hfc := hid (flatC_one ch ac k)
 have HC := hid hc
 clear hc h
 go_enter Tryz.func158, Tryz.ntmps158
 go_wp2_with (at_builtin; refine wpList_append_own _ rfl _ _ 84 rfl w.heap.size 86 i0 _ 5 64 vqG hi hz0 hz1 hz2 rfl (by decide) _ _ _ rfl hl ⟨b, o, none⟩ k c (flatC ch ac k) rfl hfl.out hnews.out hfc.out (by have := hk.out; unfold maxLen; omega) (by have := hk.out; omega) (by simp) ?_; intro v' w1 hown' hgrow hnil)
 have hg2 : (w.alloc (.cells #[] 86)).grownBy w1 (some w.heap.size) := hgrow
 have hm : Ext w w1 := ((Mod.refl [] w).alloc (.cells #[] 86)).grown hg2 (fun k hk => .inr (by cases hk; exact Nat.le_refl _))
 have hown2 : w1.ownsRow w.heap.size 86 5 v' k (flatC ch ac k) := by simpa using hown'
 obtain ⟨m, rfl⟩ : ∃ m, k = m + 1 := ⟨k - 1, by have := hk.out.1; omega⟩
 obtain ⟨g, c', rfl, hg, hlt⟩ := own_form hown2
 go_wp2
 go_ret
 exact ⟨g, c', rfl, hm, hg, hlt, ac, hown2, fun i hi => (HC.out i hi).2.ext hm⟩
section
open Go.ChangeShapes Go.WideShapes Go.ChangeAt Go.Deep
section
variable {H : Type} {enc : TypeId × Value -> H} {w : World} {base b0 : Nat} {spare : Nat -> Bool} {held : Bool} {r : Reach}
theorem field_at {P : Program} {fs : Array Field} {cs : List Value} {ys : List (DataW H × List MemPlace)} {n : Nat} (hone : oneCellFields P fs = true)
  (hfl : ∀ (i : Nat) (f : Field), fs[i]? = some f -> DataW.trod enc P w base spare held n f.type ((cs.drop f.offset).take (P.cellsOf f.type)) = ys[i]?)
  {i : Nat} {f : Field} (h : fs[i]? = some f) {c : Value} (hc : cs[i]? = some c) : DataW.trod enc P w base spare held n f.type [c] = ys[i]? := by
 obtain ⟨ho, hk⟩ := hone_of hone i f h
 have := hfl i f h
 rw [ho, hk] at this
 obtain ⟨hlt, hv⟩ := List.getElem?_eq_some_iff.1 hc
 rw [List.drop_eq_getElem_cons hlt, hv] at this
 exact this
theorem weights_mem_all {P : Program} {e : TypeId} {d : DataW H} {n : Nat} (hn : n ∈ d.weights P e) : ∀ {l : List (DataW H)}, d ∈ l -> n ∈ DataW.weightsAll P e l
 | x :: r, h => by
  simp only [DataW.weightsAll, List.mem_append]
  rcases List.mem_cons.1 h with rfl | h
  . exact .inl hn
  . exact .inr (weights_mem_all hn h)
end
end
end Go.Proofs.YthecmnbkjchjmaaGreat
