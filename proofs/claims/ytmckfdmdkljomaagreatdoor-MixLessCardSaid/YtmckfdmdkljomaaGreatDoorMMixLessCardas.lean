/-
 What data tell, by their bytes alone: a name, an age, hops.
-/
import Derived.Test.YtmckfdmdkljomaaGreatDoorMMixLessCardap
import Derived.Shelf.Abstract
namespace Go.Proofs.YtmckfdmdkljomaaGreatDoor
open Go.RowKit
set_option linter.unusedVariables false
set_option linter.unusedSimpArgs false
theorem T.plain_of {t : T} {d : Nat} (h : t.right d = true) : t.plain = true := by
 rw [T.right_eq, Bool.and_eq_true] at h; exact h.2
theorem bytes_same {a b : T} (ha : a.plain = true) (hb : b.plain = true) (oa : a.ok) (ob : b.ok) (h : a.bytes = b.bytes) : a.same b = true := (T.bytes_inj a b ha hb oa ob [] [] (by rw [h])).1
def isPrev (s : List UInt8) (e : EV) : Prop := e.ok = true /\ (eidT e).bytes = s
open Classical in
noncomputable def theO {α : Type} (P : α -> Prop) : Option α := if h : ∃ e, P e then some h.choose else none
theorem theO_some {α : Type} {P : α -> Prop} (u : ∀ x y, P x -> P y -> x = y) {x : α} (h : P x) : theO P = some x := by
 unfold theO
 have hx : ∃ e, P e := ⟨x, h⟩
 rw [dif_pos hx, u _ _ hx.choose_spec h]
theorem theO_none {α : Type} {P : α -> Prop} (h : ∀ x, ¬ P x) : theO P = none := by
 unfold theO
 rw [dif_neg (by rintro ⟨x, hx⟩; exact h x hx)]
theorem prev_tree {t : T} (hr : t.right 8 = true) (hok : t.ok) {e : EV} (h : isPrev t.bytes e) : readE t = e /\ ofB t = true := by
 obtain ⟨g1, g2, g3, g4⟩ := eidT_ok h.1
 have p := T.plain_of hr
 have s1 := bytes_same g3 p g1 hok h.2
 have s2 := bytes_same p g3 hok g1 h.2.symm
 have e1 := readE_same h.1 s1
 refine ⟨e1, ?_⟩
 unfold ofB
 rw [e1, h.1, hr, s2]; rfl
def cntGe (bs : Nat -> BV) (n : Int) : Nat -> Nat
 | 0 => 0
 | k + 1 => cntGe bs n k + (if n <= (bs k).num then 1 else 0)
theorem cntGe_le (bs : Nat -> BV) (n : Int) : ∀ k, cntGe bs n k <= k
 | 0 => Nat.le_refl _
 | k + 1 => by have := cntGe_le bs n k; rw [cntGe]; split <;> omega
theorem cntGe_mono (bs : Nat -> BV) (n : Int) : ∀ k, cntGe bs (n + 1) k <= cntGe bs n k
 | 0 => Nat.le_refl _
 | k + 1 => by
  have := cntGe_mono bs n k
  rw [cntGe, cntGe]
  split <;> split <;> omega
theorem cntGe_less {bs : Nat -> BV} {n : Int} {i : Nat} : ∀ {k : Nat}, i < k -> (bs i).num = n -> cntGe bs (n + 1) k + 1 <= cntGe bs n k
 | k + 1, h, hn => by
  rw [cntGe, cntGe]
  by_cases e : i = k
  .
   subst e
   have := cntGe_mono bs n i
   rw [if_neg (by omega), if_pos (by omega)]
   omega
  .
   have := cntGe_less (k := k) (by omega) hn
   split <;> split <;> omega
def usedB (bs : Nat -> BV) (k : Nat) (n : Nat) : Prop := ∃ i, firstOf (numB bs (n : Int)) k = some i
theorem free_ex (bs : Nat -> BV) (k : Nat) : ∀ (m n : Nat), cntGe bs (n : Int) k <= m -> ∃ N, n <= N /\ N <= n + m /\ firstOf (numB bs (N : Int)) k = none /\ ∀ j, n <= j -> j < N -> usedB bs k j
 | m, n, h => by
  cases hf : firstOf (numB bs (n : Int)) k with
  | none => exact ⟨n, Nat.le_refl _, by omega, hf, fun j h1 h2 => by omega⟩
  | some i =>
   obtain ⟨h1, h2, _⟩ := firstOf_spec hf
   have hn : (bs i).num = (n : Int) := by simpa [numB, hasNum] using h2
   have hl := cntGe_less h1 hn
   obtain ⟨m', rfl⟩ : ∃ m', m = m' + 1 := ⟨m - 1, by omega⟩
   have h3 : cntGe bs ((n + 1 : Nat) : Int) k <= m' := by
      have : ((n + 1 : Nat) : Int) = (n : Int) + 1 := by omega
      rw [this]; omega
   obtain ⟨N, a1, a2, a3, a4⟩ := free_ex bs k m' (n + 1) h3
   refine ⟨N, by omega, by omega, a3, fun j b1 b2 => ?_⟩
   by_cases e : j = n
   . subst e; exact ⟨i, hf⟩
   . exact a4 j (by omega) b2
noncomputable def freeN (bs : Nat -> BV) (k : Nat) : Nat := (free_ex bs k (cntGe bs ((2 : Nat) : Int) k) 2 (Nat.le_refl _)).choose
theorem freeN_spec (bs : Nat -> BV) (k : Nat) : 2 <= freeN bs k /\ freeN bs k <= 2 + k /\ firstOf (numB bs (freeN bs k : Int)) k = none /\ ∀ j, 2 <= j -> j < freeN bs k -> usedB bs k j := by
 obtain ⟨h1, h2, h3, h4⟩ := (free_ex bs k (cntGe bs ((2 : Nat) : Int) k) 2 (Nat.le_refl _)).choose_spec
 have := cntGe_le bs ((2 : Nat) : Int) k
 exact ⟨h1, Nat.le_trans h2 (by omega), h3, h4⟩
theorem freeN_eq {bs : Nat -> BV} {k N : Nat} (h1 : 2 <= N) (h2 : firstOf (numB bs (N : Int)) k = none) (h3 : ∀ j, 2 <= j -> j < N -> usedB bs k j) : freeN bs k = N := by
 obtain ⟨g1, g2, g3, g4⟩ := freeN_spec bs k
 rcases Nat.lt_trichotomy (freeN bs k) N with hlt | he | hgt
 . obtain ⟨i, hi⟩ := h3 _ g1 hlt; rw [g3] at hi; cases hi
 . exact he
 . obtain ⟨i, hi⟩ := g4 _ h1 hgt; rw [h2] at hi; cases hi
set_option maxRecDepth 20000 in
set_option maxHeartbeats 800000 in
theorem Free_any (p : PV) (bs : Nat -> BV) (k c : Nat) (A : Option Addr) (hk : k < 4611686018427387904) (w : World) (h : BsL w A k bs) : Calls Tryz.prog 27 #[bunV p A k c] w (Ret (.int .i64 (freeN bs k : Nat)) w) := by
 have HS := hid (freeN_spec bs k)
 have KA := hid (fun W n (hW : BsL W A k bs) => at_any p bs k c A n hk W hW)
 have n9 : ((freeN bs k : Nat) : Int) <= 4611686018427387910 := by have := HS.out.2.1; omega
 generalize freeN bs k = N at *
 have HE := hid ((Mod.refl [] w).alloc (.cells (bunC p A k c) 29))
 have HB0 : Hid (Blk (w.alloc (.cells (bunC p A k c) 29)) w.heap.size 29 (bunC p A k c)) := hid (Blk.new w 29 (bunC p A k c))
 have HL := hid (BsL.ext h HE.out)
 clear h hk
 go_enter Tryz.func27, Tryz.ntmps27
 go_upto_region 1 with fail
 generalize (w.alloc (.cells (bunC p A k c) 29)) = V at *
 obtain ⟨e, he⟩ := Later.self V
 rw [he]
 clear he
 go_upto_region 2 with fail
 go_loopw [3] (fun s3 wr => ∃ n : Nat, s3 = .int .i64 (n : Int) /\ Hid (2 <= n /\ n <= N) /\ ∃ e : Later V, wr = e.x) (fun s3 _ => N - (intOf s3).toNat)
 case atStart => exact ⟨2, rfl, (show Hid _ from ⟨by omega, HS.out.1⟩), e, rfl⟩
 case round =>
  clear e
  obtain ⟨n, rfl, hn, e, rfl⟩ := hrel
  have n0 : (0 : Int) <= (n : Int) := by omega
  have n1 : (n : Int) <= (N : Int) := by have := hn.out; omega
  by_cases hlt : n < N
  .
   obtain ⟨i, hi⟩ := HS.out.2.2.2 n hn.out.1 hlt
   have KB := hid (fun W hW => KA.out W (n : Int) hW)
   unfold firstI at KB
   rw [hi] at KB
   have HLT := hid hlt
   have i0 : (0 : Int) <= (i : Int) := by omega
   have i1 : decide ((i : Int) < 0) = false := by simp
   have i2 : ((i : Int) < 0) = False := eq_false (by omega)
   have i3 : decide ((0 : Int) <= (i : Int)) = true := decide_eq_true (by omega)
   have n2 : (n : Int) < (N : Int) := by omega
   clear hi hlt KA
   go_wp2_with (first | (refine wpList_row (by rfl) 29 _ rfl _ rfl (HB0.out.later _) vqA rfl (by kernel_rfl) ?_) | (go_at_call 54; refine (Ret.later (KB.out _ (HL.out.ext (Later.h _)))).mono ?_; rintro x _ ⟨rfl, e, rfl⟩))
   go_roundw
   case rel => exact ⟨n + 1, by go_num, (show Hid _ from ⟨by have := hn.out.1; omega, HLT.out⟩), e, rfl⟩
   case measure => have := HLT.out; simp [intOf]; omega
  .
   obtain rfl : n = N := by have := hn.out.2; omega
   have KB := hid (fun W hW => KA.out W (n : Int) hW)
   unfold firstI at KB
   rw [HS.out.2.2.1] at KB
   clear KA hlt
   go_wp2_with (first | (refine wpList_row (by rfl) 29 _ rfl _ rfl (HB0.out.later _) vqA rfl (by kernel_rfl) ?_) | (go_at_call 54; refine (Ret.later (KB.out _ (HL.out.ext (Later.h _)))).mono ?_; rintro x _ ⟨rfl, e, rfl⟩))
   go_ret
   exact Ret.mk rfl (HE.out.trans e.h)
section
open Go.Shelf
theorem firstI_isM {p : Nat -> Bool} {k : Nat} : decide (0 <= firstI p k) = (firstOf p k).isSome := by
 unfold firstI
 cases firstOf p k with
 | none => rfl
 | some i => simp
abbrev OV.c (o : OV) : Array Value := #[.int .i64 o.kind, .int .i64 o.num, .int .i64 o.tgt]
abbrev OV.v (o : OV) : Value := .agg o.c
def OAt (w : World) (b o : Nat) (x : OV) : Prop := w.cell? ⟨b, o, none⟩ = some (.int .i64 x.kind) /\ w.cell? ⟨b, o + 1, none⟩ = some (.int .i64 x.num) /\ w.cell? ⟨b, o + 2, none⟩ = some (.int .i64 x.tgt)
def OsL (w : World) (A : Option Addr) (n : Nat) (f : Nat -> OV) : Prop := 0 < n -> ∃ b o, A = some ⟨b, o, none⟩ /\ b < w.heap.size /\ ∀ i, i < n -> OAt w b (o + i * 3) (f i)
theorem OsL.modX {w w' : World} {S : List Nat} {A : Option Addr} {n : Nat} {f : Nat -> OV} (h : OsL w A n f) (hm : Mod S w w') (hs : ∀ g, A = some g -> g.block ∉ S) : OsL w' A n f := fun hn => by
 obtain ⟨b, o, hA, hb, hc⟩ := h hn
 refine ⟨b, o, hA, Nat.lt_of_lt_of_le hb hm.size, fun i hi => ?_⟩
 obtain ⟨h0, h1, h2⟩ := hc i hi
 exact ⟨(hm.cell hb (hs _ hA)).trans h0, (hm.cell hb (hs _ hA)).trans h1, (hm.cell hb (hs _ hA)).trans h2⟩
theorem OsL.ext {w w' : World} {A : Option Addr} {n : Nat} {f : Nat -> OV} (h : OsL w A n f) (hm : Ext w w') : OsL w' A n f := h.modX hm (fun _ _ => by simp)
theorem OsL.cells {V : World} {A : Option Addr} {n : Nat} {f : Nat -> OV} (h : OsL V A n f) {i : Nat} (hi : i < n) : ∃ b o, A = some ⟨b, o, none⟩ /\ b < V.heap.size /\
  (∀ e : Later V, e.x.cell? ⟨b, o + i * 3, none⟩ = some (.int .i64 (f i).kind)) /\ (∀ e : Later V, e.x.cell? ⟨b, o + i * 3 + 1, none⟩ = some (.int .i64 (f i).num)) /\ (∀ e : Later V, e.x.cell? ⟨b, o + i * 3 + 2, none⟩ = some (.int .i64 (f i).tgt)) := by
 obtain ⟨b, o, hA, hb, hc⟩ := h (by omega)
 obtain ⟨h0, h1, h2⟩ := hc i hi
 exact ⟨b, o, hA, hb, cellL h0, cellL h1, cellL h2⟩
set_option maxRecDepth 20000 in
theorem IndexFuncO_any (A : Option Addr) (f : Nat -> OV) (k c g : Nat) (lb : Array Value) (P : OV -> Bool) (eg : ∀ args w, (callFunc g args).run Tryz.prog w = .ok (.enter g args) w)
  (hk : k < 4611686018427387904) (w : World) (h : OsL w A k f) (hp : Hid (∀ (W : World) (x : OV), Ext w W -> Calls Tryz.prog g (#[x.v] ++ lb) W (Ret (.bool (P x)) W))) :
  Calls Tryz.prog 55 #[.slice A k c, .func (.func g) #[] lb] w (Ret (.int .i64 (firstI (fun i => P (f i)) k)) w) := by
 have HL := hid h
 have k1 : (k : Int) < 4611686018427387904 := by omega
 have HK := hid hk
 clear h hk
 obtain ⟨e0, he0⟩ := Later.self w
 go_enter Tryz.func55, Tryz.ntmps55
 go_wp2_with fail
 go_loopw [8] (fun s5 wr => ∃ i : Nat, s5 = .int .i64 (i : Int) /\ Hid (i <= k /\ ∀ j, j < i -> (fun i => P (f i)) j = false) /\ ∃ e : Later w, wr = e.x) (fun s5 _ => k - (intOf s5).toNat)
 case atStart => exact ⟨0, rfl, (show Hid _ from ⟨by omega, fun j hj => by omega⟩), e0, (by first | exact he0 | rfl)⟩
 case round =>
  clear he0 e0
  obtain ⟨i, rfl, hi, e, rfl⟩ := hrel
  have i0 : (0 : Int) <= (i : Int) := by omega
  by_cases hlt : i < k
  .
   obtain ⟨b, o, rfl, hb, q0, q1, q2⟩ := HL.out.cells hlt
   have tc : decide (i < k) = true := by simp [hlt]
   have i1 : (i : Int) < (k : Int) := by omega
   have HLT := hid hlt
   clear hlt
   by_cases ht : (fun i => P (f i)) i = true
   .
    have HF : Hid (firstI ((fun i => P (f i))) k = (i : Int)) := by unfold Hid firstI; rw [firstOf_some HLT.out ht hi.out.2]
    have hcall : Calls Tryz.prog g (#[(f i).v] ++ lb) e.x (Ret (.bool true) e.x) := by have := hp.out e.x (f i) e.h; rw [show P (f i) = true from ht] at this; exact this
    clear ht
    go_wp2_with (go_at_fn g; refine (Ret.later hcall).mono ?_; rintro x _ ⟨rfl, e3, rfl⟩)
    go_ret
    exact Ret.mk (by rw [HF.out]; rfl) e3.h
   .
    have HN : Hid ((fun i => P (f i)) i = false) := by unfold Hid; simpa using ht
    have hcall : Calls Tryz.prog g (#[(f i).v] ++ lb) e.x (Ret (.bool false) e.x) := by have := hp.out e.x (f i) e.h; rw [show P (f i) = false from HN.out] at this; exact this
    clear ht
    go_wp2_with (go_at_fn g; refine (Ret.later hcall).mono ?_; rintro x _ ⟨rfl, e3, rfl⟩)
    go_roundw
    case rel => exact ⟨i + 1, by go_num, (show Hid _ from ⟨HLT.out, fun j hj => by
     by_cases hji : j = i
     . subst hji; exact HN.out
     . exact hi.out.2 j (by omega)⟩), e3, rfl⟩
    case measure => have := HLT.out; simp [intOf]; omega
  .
   obtain rfl : i = k := by have := hi.out.1; omega
   have tc : decide (i < i) = false := by simp
   have HF : Hid (firstI ((fun i => P (f i))) i = -1) := by unfold Hid firstI; rw [firstOf_none hi.out.2]
   go_wp2_with fail
   go_ret
   exact Ret.mk (by rw [HF.out]; rfl) (e.h)
set_option maxRecDepth 20000 in
theorem ContainsO_any (A : Option Addr) (f : Nat -> OV) (k c g : Nat) (lb : Array Value) (P : OV -> Bool) (eg : ∀ args w, (callFunc g args).run Tryz.prog w = .ok (.enter g args) w)
  (hk : k < 4611686018427387904) (w : World) (h : OsL w A k f) (hp : Hid (∀ (W : World) (x : OV), Ext w W -> Calls Tryz.prog g (#[x.v] ++ lb) W (Ret (.bool (P x)) W))) :
  Calls Tryz.prog 72 #[.slice A k c, .func (.func g) #[] lb] w (Ret (.bool (firstOf (fun i => P (f i)) k).isSome) w) := by
 have K := hid (IndexFuncO_any A f k c g lb P eg hk w h hp)
 have hX := hid (firstI_isM (p := (fun i => P (f i))) (k := k))
 generalize firstI (fun i => P (f i)) k = X at *
 generalize (firstOf (fun i => P (f i)) k).isSome = B at *
 clear h hp eg
 go_enter Tryz.func72, Tryz.ntmps72
 go_wp2_with (go_at_call 55; refine K.out.mono ?_; rintro e w' ⟨rfl, hb'⟩)
 go_ret
 exact Ret.mk (congrArg Value.bool hX.out) hb'
set_option maxRecDepth 20000 in
theorem amongCl_any (kd tg : Int) (B C : Nat) (w : World) (hB : B < w.heap.size) (hC : C < w.heap.size) (c0 : w.cell? ⟨B, 0, none⟩ = some (.int .i64 kd)) (c1 : w.cell? ⟨C, 0, none⟩ = some (.int .i64 tg)) (W : World) (x : OV) (hb : Ext w W) : Calls Tryz.prog 73 (#[x.v] ++ #[.pointer (some ⟨B, 0, none⟩), .pointer (some ⟨C, 0, none⟩)]) W (Ret (.bool (decide (x.kind = kd) && decide (x.tgt = tg))) W) := by
 have d0 : W.cell? ⟨B, 0, none⟩ = some (.int .i64 kd) := (hb.cell hB (by simp)).trans c0
 have d1 : W.cell? ⟨C, 0, none⟩ = some (.int .i64 tg) := (hb.cell hC (by simp)).trans c1
 have hBW : B < W.heap.size := Nat.lt_of_lt_of_le hB hb.size
 have hCW : C < W.heap.size := Nat.lt_of_lt_of_le hC hb.size
 have hne : B ≠ W.heap.size := by omega
 have hnf : C ≠ W.heap.size := by omega
 clear c0 c1
 obtain ⟨xk, xn, xt⟩ := x
 show Calls Tryz.prog 73 #[.agg #[.int .i64 xk, .int .i64 xn, .int .i64 xt], .pointer (some ⟨B, 0, none⟩), .pointer (some ⟨C, 0, none⟩)] W (Ret (.bool (decide (xk = kd) && decide (xt = tg))) W)
 by_cases hk : xk = kd
 .
  subst hk
  go_enter Tryz.func73, Tryz.ntmps73
  go_wp2
  go_ret
  exact Ret.mk (by simp; rfl) ((Mod.refl _ _).alloc _)
 .
  have h1 : (xk = kd) = False := eq_false hk
  have h2 : (xk == kd) = false := by simpa using hk
  have h3 : decide (xk = kd) = false := by simpa using hk
  clear hk
  go_enter Tryz.func73, Tryz.ntmps73
  go_wp2
  go_ret
  exact Ret.mk (by simp [h3]) ((Mod.refl _ _).alloc _)
theorem entersAm : ∀ args w, (callFunc 73 args).run Tryz.prog w = .ok (.enter 73 args) w := enters_of Tryz.func73 (by kernel_rfl) rfl
set_option maxRecDepth 20000 in
theorem among_any (A : Option Addr) (f : Nat -> OV) (k c : Nat) (kd tg : Int) (hk : k < 4611686018427387904) (w : World) (h : OsL w A k f) : Calls Tryz.prog 47 #[.slice A k c, .int .i64 kd, .int .i64 tg] w (Ret (.bool (amongB f k kd tg)) w) := by
 have HE := hid (((Mod.refl [] w).alloc (.cells #[.int .i64 kd] 3)).alloc (.cells #[.int .i64 tg] 3))
 have HB0 : Hid (Blk ((w.alloc (.cells #[.int .i64 kd] 3)).alloc (.cells #[.int .i64 tg] 3)) w.heap.size 3 #[.int .i64 kd]) := hid ((Blk.new w 3 #[.int .i64 kd]).alloc (.cells #[.int .i64 tg] 3))
 have HB1 : Hid (Blk ((w.alloc (.cells #[.int .i64 kd] 3)).alloc (.cells #[.int .i64 tg] 3)) (w.heap.size + 1) 3 #[.int .i64 tg]) := by unfold Hid; exact Blk.newL _ _ _ (by simp)
 have HL := hid (OsL.ext h HE.out)
 have HK := hid hk
 clear h hk
 go_enter Tryz.func47, Tryz.ntmps47
 go_upto_region 1 with fail
 generalize ((w.alloc (.cells #[.int .i64 kd] 3)).alloc (.cells #[.int .i64 tg] 3)) = V at *
 have KI : Hid (Calls Tryz.prog 72 #[.slice A k c, .func (.func 73) #[] #[.pointer (some ⟨w.heap.size, 0, none⟩), .pointer (some ⟨w.heap.size + 1, 0, none⟩)]] V (Ret (.bool (amongB f k kd tg)) V)) :=
  ContainsO_any A f k c 73 #[.pointer (some ⟨w.heap.size, 0, none⟩), .pointer (some ⟨w.heap.size + 1, 0, none⟩)] (fun x => decide (x.kind = kd) && decide (x.tgt = tg)) entersAm HK.out V HL.out (fun W x hb => amongCl_any kd tg w.heap.size (w.heap.size + 1) V HB0.out.lt HB1.out.lt (HB0.out.cell 0) (HB1.out.cell 0) W x hb)
 go_wp2_with (go_at_call 72; refine KI.out.mono ?_; rintro x w2 ⟨rfl, hb2⟩)
 go_ret
 exact Ret.mk rfl (HE.out.trans hb2)
set_option maxRecDepth 20000 in
theorem safe_any (x : BV) (w : World) : Calls Tryz.prog 84 #[x.v] w (Ret (.bool (safeT x.ty)) w) := by
 obtain ⟨ty, num, fl, crc, data⟩ := x
 show Calls Tryz.prog 84 #[.agg #[.int .i64 ty, .int .i64 num, .int .u64 (fl : Int), .int .i64 crc, str data]] w (Ret (.bool (safeT ty)) w)
 by_cases h0 : ty = 11
 .
  subst h0
  go_enter Tryz.func84, Tryz.ntmps84
  go_wp2
  go_ret
  exact Ret.mk (by rfl) ((Mod.refl _ _).alloc _)
 by_cases h1 : ty = 12
 .
  subst h1
  go_enter Tryz.func84, Tryz.ntmps84
  go_wp2
  go_ret
  exact Ret.mk (by rfl) ((Mod.refl _ _).alloc _)
 have a0 : (ty = 11) = False := eq_false h0
 have b0 : (ty == 11) = false := by simpa using h0
 have a1 : (ty = 12) = False := eq_false h1
 have b1 : (ty == 12) = false := by simpa using h1
 have HX : Hid (safeT ty = false) := hid (by unfold safeT; simp [h0, h1])
 clear h0 h1
 go_enter Tryz.func84, Tryz.ntmps84
 go_wp2
 go_ret
 exact Ret.mk (by rw [HX.out]; rfl) ((Mod.refl _ _).alloc _)
set_option maxRecDepth 20000 in
theorem changes_any (x : BV) (w : World) : Calls Tryz.prog 85 #[x.v] w (Ret (.bool (chgT x.ty)) w) := by
 obtain ⟨ty, num, fl, crc, data⟩ := x
 show Calls Tryz.prog 85 #[.agg #[.int .i64 ty, .int .i64 num, .int .u64 (fl : Int), .int .i64 crc, str data]] w (Ret (.bool (chgT ty)) w)
 by_cases h0 : ty = 6
 .
  subst h0
  go_enter Tryz.func85, Tryz.ntmps85
  go_wp2
  go_ret
  exact Ret.mk (by rfl) ((Mod.refl _ _).alloc _)
 by_cases h1 : ty = 7
 .
  subst h1
  go_enter Tryz.func85, Tryz.ntmps85
  go_wp2
  go_ret
  exact Ret.mk (by rfl) ((Mod.refl _ _).alloc _)
 by_cases h2 : ty = 10
 .
  subst h2
  go_enter Tryz.func85, Tryz.ntmps85
  go_wp2
  go_ret
  exact Ret.mk (by rfl) ((Mod.refl _ _).alloc _)
 have a0 : (ty = 6) = False := eq_false h0
 have b0 : (ty == 6) = false := by simpa using h0
 have a1 : (ty = 7) = False := eq_false h1
 have b1 : (ty == 7) = false := by simpa using h1
 have a2 : (ty = 10) = False := eq_false h2
 have b2 : (ty == 10) = false := by simpa using h2
 have HX : Hid (chgT ty = false) := hid (by unfold chgT; simp [h0, h1, h2])
 clear h0 h1 h2
 go_enter Tryz.func85, Tryz.ntmps85
 go_wp2
 go_ret
 exact Ret.mk (by rw [HX.out]; rfl) ((Mod.refl _ _).alloc _)
theorem entersSf : ∀ args w, (callFunc 84 args).run Tryz.prog w = .ok (.enter 84 args) w := enters_of Tryz.func84 (by kernel_rfl) rfl
set_option maxRecDepth 20000 in
theorem ContainsB_any (A : Option Addr) (bs : Nat -> BV) (k c g : Nat) (lb : Array Value) (P : BV -> Bool) (eg : ∀ args w, (callFunc g args).run Tryz.prog w = .ok (.enter g args) w)
  (hk : k < 4611686018427387904) (w : World) (h : BsL w A k bs) (hp : Hid (∀ (W : World) (x : BV), Ext w W -> Calls Tryz.prog g (#[x.v] ++ lb) W (Ret (.bool (P x)) W))) :
  Calls Tryz.prog 83 #[.slice A k c, .func (.func g) #[] lb] w (Ret (.bool (firstOf (fun i => P (bs i)) k).isSome) w) := by
 have K := hid (IndexFuncB_any A bs k c g lb P eg hk w h hp)
 have hX := hid (firstI_isM (p := (fun i => P (bs i))) (k := k))
 generalize firstI (fun i => P (bs i)) k = X at *
 generalize (firstOf (fun i => P (bs i)) k).isSome = B at *
 clear h hp eg
 go_enter Tryz.func83, Tryz.ntmps83
 go_wp2_with (go_at_call 81; refine K.out.mono ?_; rintro e w' ⟨rfl, hb'⟩)
 go_ret
 exact Ret.mk (congrArg Value.bool hX.out) hb'
end
set_option maxRecDepth 20000 in
set_option maxHeartbeats 4000000 in
theorem there_any (p : PV) (bs : Nat -> BV) (k c : Nat) (A : Option Addr) (hk : k < 4611686018427387904) (l : Nat -> OV) (n cl : Nat) (Al : Option Addr) (hn : n < 4611686018427387904) (w : World) (h : BsL w A k bs) (ho : OsL w Al n l) : Calls Tryz.prog 57 #[bunV p A k c, .slice Al n cl] w (Ret (.bool (thereB bs k l n)) w) := by
 have KG := hid (fun W m (hW : BsL W A k bs) => Get_any p bs k c A m hk W hW)
 have HE := hid ((Mod.refl [] w).alloc (.cells (bunC p A k c) 29))
 have HB0 : Hid (Blk (w.alloc (.cells (bunC p A k c) 29)) w.heap.size 29 (bunC p A k c)) := hid (Blk.new w 29 (bunC p A k c))
 have HL := hid (BsL.ext h HE.out)
 have HO := hid (OsL.ext ho HE.out)
 have HK := hid hn
 have n1 : (n : Int) < 4611686018427387904 := by omega
 clear h ho hk hn
 go_enter Tryz.func57, Tryz.ntmps57
 go_upto_region 1 with fail
 generalize w.alloc (.cells (bunC p A k c) 29) = V at *
 obtain ⟨e0, he0⟩ := Later.self V
 rw [he0]
 go_wp2_with fail
 go_loopw [11] (fun s wr => ∃ i : Nat, s = .int .i64 (i : Int) /\ Hid (i <= n /\ ∀ j, j < i -> thereAt bs k l j = false) /\ ∃ e : Later V, wr = e.x) (fun s _ => n - (intOf s).toNat)
 case atStart => exact ⟨0, rfl, (show Hid _ from ⟨by omega, fun j hj => by omega⟩), e0, rfl⟩
 case round =>
  clear he0 e0
  obtain ⟨i, rfl, hi, e, rfl⟩ := hrel
  have i0 : (0 : Int) <= (i : Int) := by omega
  by_cases hlt : i < n
  .
   obtain ⟨b, o, rfl, hb, q0, q1, q2⟩ := HO.out.cells hlt
   have tc : decide (i < n) = true := by simp [hlt]
   have i1 : (i : Int) < (n : Int) := by omega
   have HLT := hid hlt
   clear hlt
   obtain ⟨x, hx⟩ : ∃ x, l i = x := ⟨_, rfl⟩
   rw [hx] at q0 q1 q2
   have HXL := hid hx
   clear hx
   go_upto_region 4 with fail
   generalize hW1 : World.alloc e.x _ = W1
   have HEW : Hid (Ext V W1) := hid (by rw [<- hW1]; exact e.h.alloc _)
   have HOB : Hid (Blk W1 e.x.heap.size 40 x.c) := hid (by rw [<- hW1]; exact Blk.new _ _ _)
   clear hW1 q0 q1 q2
   generalize e.x.heap.size = ob at *
   clear e
   have HBW := hid (HB0.out.ext HEW.out)
   have HLW := hid (HL.out.ext HEW.out)
   have HOW := hid (HO.out.ext HEW.out)
   obtain ⟨e, he⟩ := Later.self W1
   rw [he]
   clear he
   have o0 : ∀ e : Later W1, e.x.cell? ⟨ob, 0, none⟩ = some (.int .i64 x.kind) := HOB.out.cellL 0 rfl
   have o1 : ∀ e : Later W1, e.x.cell? ⟨ob, 1, none⟩ = some (.int .i64 x.num) := HOB.out.cellL 1 rfl
   have o2 : ∀ e : Later W1, e.x.cell? ⟨ob, 2, none⟩ = some (.int .i64 x.tgt) := HOB.out.cellL 2 rfl
   have KG1 := hid (fun W hW => KG.out W x.tgt hW)
   have tk1 : True := trivial
   cases hf : firstOf (numB bs x.tgt) k with
   | some j =>
    have hI : getV bs x.tgt k = .tuple #[(bs j).v, .bool true] := by unfold getV; rw [hf]
    rw [hI] at KG1
    have HN : Hid (thereAt bs k l i = false) := hid (by unfold thereAt; rw [HXL.out, hf]; simp)
    clear hf hI
    go_upto_region 5 with (first | (clear tk1; refine wpList_row (by rfl) 29 _ rfl _ rfl (HBW.out.later _) vqA rfl (by kernel_rfl) ?_) | (go_at_call 53; refine (Ret.later (KG1.out _ (HLW.out.ext (Later.h _)))).mono ?_; rintro y _ ⟨rfl, e, rfl⟩))
    go_wp2_with fail
    go_roundw
    case rel => exact ⟨i + 1, by go_num, (show Hid _ from ⟨HLT.out, fun j hj => by
     by_cases hji : j = i
     . subst hji; exact HN.out
     . exact hi.out.2 j (by omega)⟩), Later.go ⟨W1, HEW.out⟩ (e.h.alloc _)⟩
    case measure => have := HLT.out; simp [intOf]; omega
   | none =>
    have hI : getV bs x.tgt k = .tuple #[zeroB.v, .bool false] := by unfold getV; rw [hf]
    rw [hI] at KG1
    by_cases ht : x.tgt = 0
    .
     have HN : Hid (thereAt bs k l i = false) := hid (by unfold thereAt; rw [HXL.out]; simp [ht])
     have t1 : (x.tgt == 0) = true := by simpa using ht
     have t2 : (x.tgt = 0) = True := eq_true ht
     have t3 : (x.tgt != 0) = false := by simpa using ht
     clear hf hI ht
     go_upto_region 5 with (first | (clear tk1; refine wpList_row (by rfl) 29 _ rfl _ rfl (HBW.out.later _) vqA rfl (by kernel_rfl) ?_) | (go_at_call 53; refine (Ret.later (KG1.out _ (HLW.out.ext (Later.h _)))).mono ?_; rintro y _ ⟨rfl, e, rfl⟩))
     have a2 : ∀ ob, (World.alloc e.x ob).cell? ⟨_, 2, none⟩ = _ := fun ob => ((HOB.out.later e).alloc ob).cell 2
     go_wp2_with fail
     go_roundw
     case rel => exact ⟨i + 1, by go_num, (show Hid _ from ⟨HLT.out, fun j hj => by
      by_cases hji : j = i
      . subst hji; exact HN.out
      . exact hi.out.2 j (by omega)⟩), Later.go ⟨W1, HEW.out⟩ (e.h.alloc _)⟩
     case measure => have := HLT.out; simp [intOf]; omega
    .
     have HF : Hid (thereB bs k l n = false) := hid (by
      have h1 : thereAt bs k l i = true := by unfold thereAt; rw [HXL.out, hf]; simp [ht]
      unfold thereB
      rw [firstOf_some HLT.out h1 hi.out.2]; rfl)
     have t1 : (x.tgt == 0) = false := by simpa using ht
     have t2 : (x.tgt = 0) = False := eq_false ht
     have t3 : (x.tgt != 0) = true := by simpa using ht
     clear hf hI ht
     go_upto_region 5 with (first | (clear tk1; refine wpList_row (by rfl) 29 _ rfl _ rfl (HBW.out.later _) vqA rfl (by kernel_rfl) ?_) | (go_at_call 53; refine (Ret.later (KG1.out _ (HLW.out.ext (Later.h _)))).mono ?_; rintro y _ ⟨rfl, e, rfl⟩))
     have a2 : ∀ ob, (World.alloc e.x ob).cell? ⟨_, 2, none⟩ = _ := fun ob => ((HOB.out.later e).alloc ob).cell 2
     go_wp2_with fail
     go_ret
     exact Ret.mk (by rw [HF.out]; rfl) (HE.out.trans (HEW.out.trans (e.h.alloc _)))
  .
   have hin : i = n := by have := hi.out.1; omega
   have HF : Hid (thereB bs k l n = true) := hid (by unfold thereB; rw [firstOf_none (fun j hj => hi.out.2 j (by omega))]; rfl)
   have tc : decide (i < n) = false := by simp [hin]
   have tc2 : decide ((i : Int) < (n : Int)) = false := by simp [hin]
   clear hin
   go_wp2_with fail
   go_ret
   exact Ret.mk (by rw [HF.out]; rfl) (HE.out.trans e.h)
theorem getV_ty (bs : Nat -> BV) (k : Nat) (n : Int) : ∃ (y : BV) (bf : Bool), getV bs n k = .tuple #[y.v, .bool bf] /\ y.ty = tyAt bs k n := by
 unfold getV tyAt
 cases firstOf (numB bs n) k with
 | some j => exact ⟨bs j, true, rfl, rfl⟩
 | none => exact ⟨zeroB, false, rfl, rfl⟩
set_option maxRecDepth 20000 in
set_option maxHeartbeats 4000000 in
theorem signs_any (p : PV) (bs : Nat -> BV) (k c : Nat) (A : Option Addr) (hk : k < 4611686018427387904) (l : Nat -> OV) (n cl : Nat) (Al : Option Addr) (hn : n < 4611686018427387904) (w : World) (h : BsL w A k bs) (ho : OsL w Al n l) : Calls Tryz.prog 60 #[bunV p A k c, .slice Al n cl] w (Ret (.bool (signsB bs k l n)) w) := by
 have KG := hid (fun W m (hW : BsL W A k bs) => Get_any p bs k c A m hk W hW)
 have KM := hid (fun W t (hW : OsL W Al n l) => among_any Al l n cl 2 t hn W hW)
 have HE := hid ((Mod.refl [] w).alloc (.cells (bunC p A k c) 29))
 have HB0 : Hid (Blk (w.alloc (.cells (bunC p A k c) 29)) w.heap.size 29 (bunC p A k c)) := hid (Blk.new w 29 (bunC p A k c))
 have HL := hid (BsL.ext h HE.out)
 have HO := hid (OsL.ext ho HE.out)
 have HK := hid hn
 have n1 : (n : Int) < 4611686018427387904 := by omega
 clear h ho hk hn
 go_enter Tryz.func60, Tryz.ntmps60
 go_upto_region 1 with fail
 generalize w.alloc (.cells (bunC p A k c) 29) = V at *
 obtain ⟨e0, he0⟩ := Later.self V
 rw [he0]
 go_wp2_with fail
 go_loopw [11] (fun s wr => ∃ i : Nat, s = .int .i64 (i : Int) /\ Hid (i <= n /\ ∀ j, j < i -> signAt bs k l n j = false) /\ ∃ e : Later V, wr = e.x) (fun s _ => n - (intOf s).toNat)
 case atStart => exact ⟨0, rfl, (show Hid _ from ⟨by omega, fun j hj => by omega⟩), e0, rfl⟩
 case round =>
  clear he0 e0
  obtain ⟨i, rfl, hi, e, rfl⟩ := hrel
  have i0 : (0 : Int) <= (i : Int) := by omega
  by_cases hlt : i < n
  .
   obtain ⟨b, o, rfl, hb, q0, q1, q2⟩ := HO.out.cells hlt
   have tc : decide (i < n) = true := by simp [hlt]
   have i1 : (i : Int) < (n : Int) := by omega
   have HLT := hid hlt
   clear hlt
   obtain ⟨x, hx⟩ : ∃ x, l i = x := ⟨_, rfl⟩
   rw [hx] at q0 q1 q2
   have HXL := hid hx
   clear hx
   go_upto_region 4 with fail
   generalize hW1 : World.alloc e.x _ = W1
   have HEW : Hid (Ext V W1) := hid (by rw [<- hW1]; exact e.h.alloc _)
   have HOB : Hid (Blk W1 e.x.heap.size 40 x.c) := hid (by rw [<- hW1]; exact Blk.new _ _ _)
   clear hW1 q0 q1 q2
   generalize e.x.heap.size = ob at *
   clear e
   have HBW := hid (HB0.out.ext HEW.out)
   have HLW := hid (HL.out.ext HEW.out)
   have HOW := hid (HO.out.ext HEW.out)
   obtain ⟨e, he⟩ := Later.self W1
   rw [he]
   clear he
   have o0 : ∀ e : Later W1, e.x.cell? ⟨ob, 0, none⟩ = some (.int .i64 x.kind) := HOB.out.cellL 0 rfl
   have o1 : ∀ e : Later W1, e.x.cell? ⟨ob, 1, none⟩ = some (.int .i64 x.num) := HOB.out.cellL 1 rfl
   have o2 : ∀ e : Later W1, e.x.cell? ⟨ob, 2, none⟩ = some (.int .i64 x.tgt) := HOB.out.cellL 2 rfl
   by_cases hk1 : x.kind = 1
   case neg =>
    have HN : Hid (signAt bs k l n i = false) := hid (by unfold signAt; rw [HXL.out]; simp [hk1])
    have t1 : (x.kind == 1) = false := by simpa using hk1
    have t2 : (x.kind = 1) = False := eq_false hk1
    have t3 : (x.kind != 1) = true := by simpa using hk1
    clear hk1
    go_wp2_with fail
    go_roundw
    case rel => exact ⟨i + 1, by go_num, (show Hid _ from ⟨HLT.out, fun j hj => by
     by_cases hji : j = i
     . subst hji; exact HN.out
     . exact hi.out.2 j (by omega)⟩), Later.go ⟨W1, HEW.out⟩ (e.h)⟩
    case measure => have := HLT.out; simp [intOf]; omega
   by_cases ht : x.tgt = 0
   case pos =>
    have HN : Hid (signAt bs k l n i = false) := hid (by unfold signAt; rw [HXL.out]; simp [ht])
    have t1 : (x.kind == 1) = true := by simpa using hk1
    have t2 : (x.kind = 1) = True := eq_true hk1
    have t3 : (x.kind != 1) = false := by simpa using hk1
    have u1 : (x.tgt == 0) = true := by simpa using ht
    have u2 : (x.tgt = 0) = True := eq_true ht
    have u3 : (x.tgt != 0) = false := by simpa using ht
    clear hk1 ht
    go_wp2_with fail
    go_roundw
    case rel => exact ⟨i + 1, by go_num, (show Hid _ from ⟨HLT.out, fun j hj => by
     by_cases hji : j = i
     . subst hji; exact HN.out
     . exact hi.out.2 j (by omega)⟩), Later.go ⟨W1, HEW.out⟩ (e.h)⟩
    case measure => have := HLT.out; simp [intOf]; omega
   have HSG : Hid (signAt bs k l n i = (safeT (tyAt bs k x.tgt) || chgT (tyAt bs k x.tgt) || amongB l n 2 x.tgt)) := hid (by unfold signAt; rw [HXL.out]; simp [hk1, ht])
   have t1 : (x.kind == 1) = true := by simpa using hk1
   have t2 : (x.kind = 1) = True := eq_true hk1
   have t3 : (x.kind != 1) = false := by simpa using hk1
   have u1 : (x.tgt == 0) = false := by simpa using ht
   have u2 : (x.tgt = 0) = False := eq_false ht
   have u3 : (x.tgt != 0) = true := by simpa using ht
   clear hk1 ht
   have KG1 := hid (fun W hW => KG.out W x.tgt hW)
   obtain ⟨y, bf, hI, hty⟩ := getV_ty bs k x.tgt
   rw [hI] at KG1
   have HTY := hid hty
   clear hI hty
   have tk1 : True := trivial
   go_upto_region 6 with (first | (clear tk1; refine wpList_row (by rfl) 29 _ rfl _ rfl (HBW.out.later _) vqA rfl (by kernel_rfl) ?_) | (go_at_call 53; refine (Ret.later (KG1.out _ (HLW.out.ext (Later.h _)))).mono ?_; rintro y _ ⟨rfl, e, rfl⟩))
   generalize hW2 : World.alloc e.x _ = W2
   have HEW2 : Hid (Ext W1 W2) := hid (by rw [<- hW2]; exact e.h.alloc _)
   have HYB : Hid (Blk W2 e.x.heap.size 45 (BV.c y)) := hid (by rw [<- hW2]; exact Blk.new _ _ _)
   clear hW2 o0 o1
   generalize e.x.heap.size = yb at *
   have HOW2 := hid (HOW.out.ext HEW2.out)
   have o2 : ∀ e : Later W2, e.x.cell? ⟨ob, 2, none⟩ = some (.int .i64 x.tgt) := (HOB.out.ext HEW2.out).cellL 2 rfl
   have HYL : ∀ e : Later W2, Blk e.x yb 45 (BV.c y) := fun e => HYB.out.later e
   clear e
   obtain ⟨e, he⟩ := Later.self W2
   rw [he]
   clear he
   have tka : True := trivial
   have tkb : True := trivial
   have hs1 : ∀ W, Calls Tryz.prog 84 #[y.v] W (Ret (.bool (safeT (tyAt bs k x.tgt))) W) := fun W => by rw [<- HTY.out]; exact safe_any y W
   have hs2 : ∀ W, Calls Tryz.prog 85 #[y.v] W (Ret (.bool (chgT (tyAt bs k x.tgt))) W) := fun W => by rw [<- HTY.out]; exact changes_any y W
   have HS1 := hid hs1
   have HS2 := hid hs2
   have KM1 := hid (fun W hW => KM.out W x.tgt hW)
   clear hs1 hs2 KM
   generalize safeT (tyAt bs k x.tgt) = a1 at *
   generalize chgT (tyAt bs k x.tgt) = a2 at *
   generalize amongB l n 2 x.tgt = a3 at *
   cases a1 with
   | true =>
    have HF : Hid (signsB bs k l n = false) := hid (by unfold signsB; rw [firstOf_some HLT.out (by rw [HSG.out]; rfl) hi.out.2]; rfl)
    go_wp2_with (first | (clear tka; refine wpList_row (by rfl) 45 _ rfl _ rfl (HYL _) vqG rfl (by kernel_rfl) ?_) | (go_at_call 84; refine (Ret.later (HS1.out _)).mono ?_; rintro y0 _ ⟨rfl, e, rfl⟩) | (clear tkb; refine wpList_row (by rfl) 45 _ rfl _ rfl (HYL _) vqG rfl (by kernel_rfl) ?_) | (go_at_call 85; refine (Ret.later (HS2.out _)).mono ?_; rintro y0 _ ⟨rfl, e, rfl⟩) | (go_at_call 47; refine (Ret.later (KM1.out _ (HOW2.out.ext (Later.h _)))).mono ?_; rintro y0 _ ⟨rfl, e, rfl⟩))
    go_ret
    exact Ret.mk (by rw [HF.out]; rfl) (HE.out.trans (HEW.out.trans (HEW2.out.trans e.h)))
   | false =>
   cases a2 with
   | true =>
    have HF : Hid (signsB bs k l n = false) := hid (by unfold signsB; rw [firstOf_some HLT.out (by rw [HSG.out]; rfl) hi.out.2]; rfl)
    go_wp2_with (first | (clear tka; refine wpList_row (by rfl) 45 _ rfl _ rfl (HYL _) vqG rfl (by kernel_rfl) ?_) | (go_at_call 84; refine (Ret.later (HS1.out _)).mono ?_; rintro y0 _ ⟨rfl, e, rfl⟩) | (clear tkb; refine wpList_row (by rfl) 45 _ rfl _ rfl (HYL _) vqG rfl (by kernel_rfl) ?_) | (go_at_call 85; refine (Ret.later (HS2.out _)).mono ?_; rintro y0 _ ⟨rfl, e, rfl⟩) | (go_at_call 47; refine (Ret.later (KM1.out _ (HOW2.out.ext (Later.h _)))).mono ?_; rintro y0 _ ⟨rfl, e, rfl⟩))
    go_ret
    exact Ret.mk (by rw [HF.out]; rfl) (HE.out.trans (HEW.out.trans (HEW2.out.trans e.h)))
   | false =>
   cases a3 with
   | true =>
    have HF : Hid (signsB bs k l n = false) := hid (by unfold signsB; rw [firstOf_some HLT.out (by rw [HSG.out]; rfl) hi.out.2]; rfl)
    go_wp2_with (first | (clear tka; refine wpList_row (by rfl) 45 _ rfl _ rfl (HYL _) vqG rfl (by kernel_rfl) ?_) | (go_at_call 84; refine (Ret.later (HS1.out _)).mono ?_; rintro y0 _ ⟨rfl, e, rfl⟩) | (clear tkb; refine wpList_row (by rfl) 45 _ rfl _ rfl (HYL _) vqG rfl (by kernel_rfl) ?_) | (go_at_call 85; refine (Ret.later (HS2.out _)).mono ?_; rintro y0 _ ⟨rfl, e, rfl⟩) | (go_at_call 47; refine (Ret.later (KM1.out _ (HOW2.out.ext (Later.h _)))).mono ?_; rintro y0 _ ⟨rfl, e, rfl⟩))
    go_ret
    exact Ret.mk (by rw [HF.out]; rfl) (HE.out.trans (HEW.out.trans (HEW2.out.trans e.h)))
   | false =>
    have HN : Hid (signAt bs k l n i = false) := hid (by rw [HSG.out]; rfl)
    go_wp2_with (first | (clear tka; refine wpList_row (by rfl) 45 _ rfl _ rfl (HYL _) vqG rfl (by kernel_rfl) ?_) | (go_at_call 84; refine (Ret.later (HS1.out _)).mono ?_; rintro y0 _ ⟨rfl, e, rfl⟩) | (clear tkb; refine wpList_row (by rfl) 45 _ rfl _ rfl (HYL _) vqG rfl (by kernel_rfl) ?_) | (go_at_call 85; refine (Ret.later (HS2.out _)).mono ?_; rintro y0 _ ⟨rfl, e, rfl⟩) | (go_at_call 47; refine (Ret.later (KM1.out _ (HOW2.out.ext (Later.h _)))).mono ?_; rintro y0 _ ⟨rfl, e, rfl⟩))
    go_roundw
    case rel => exact ⟨i + 1, by go_num, (show Hid _ from ⟨HLT.out, fun j hj => by
     by_cases hji : j = i
     . subst hji; exact HN.out
     . exact hi.out.2 j (by omega)⟩), Later.go ⟨W1, HEW.out⟩ (HEW2.out.trans e.h)⟩
    case measure => have := HLT.out; simp [intOf]; omega
  .
   have hin : i = n := by have := hi.out.1; omega
   have HF : Hid (signsB bs k l n = true) := hid (by unfold signsB; rw [firstOf_none (fun j hj => hi.out.2 j (by omega))]; rfl)
   have tc : decide (i < n) = false := by simp [hin]
   have tc2 : decide ((i : Int) < (n : Int)) = false := by simp [hin]
   clear hin
   go_wp2_with fail
   go_ret
   exact Ret.mk (by rw [HF.out]; rfl) (HE.out.trans e.h)
set_option maxRecDepth 20000 in
theorem rType_any (p : PV) (bs : Nat -> BV) (k c : Nat) (A : Option Addr) (m : Int) (hk : k < 4611686018427387904) (w : World) (h : BsL w A k bs) : Calls Tryz.prog 23 #[bunV p A k c, .int .i64 m] w (Ret (.int .i64 (tyAt bs k m)) w) := by
 have KA := hid (fun W (hW : BsL W A k bs) => At13_any p bs k c A m hk W hW)
 have HE := hid ((Mod.refl [] w).alloc (.cells (bunC p A k c) 29))
 have HB0 : Hid (Blk (w.alloc (.cells (bunC p A k c) 29)) w.heap.size 29 (bunC p A k c)) := hid (Blk.new w 29 (bunC p A k c))
 have HL := hid (BsL.ext h HE.out)
 have k1 : (k : Int) < 4611686018427387904 := by omega
 clear h hk
 go_enter Tryz.func23, Tryz.ntmps23
 go_upto_region 1 with fail
 generalize (w.alloc (.cells (bunC p A k c) 29)) = V at *
 obtain ⟨e, he⟩ := Later.self V
 rw [he]
 clear he
 have tk1 : True := trivial
 have b19 : ∀ e : Later V, e.x.cell? ⟨w.heap.size, 19, none⟩ = some (.slice A k c) := HB0.out.cellL 19 rfl
 cases hf : firstOf (numB bs m) k with
 | none =>
  have hI : firstI (numB bs m) k = -1 := by unfold firstI; rw [hf]
  have HT : Hid (tyAt bs k m = 0) := hid (by unfold tyAt; rw [hf])
  rw [hI] at KA
  clear hI hf
  go_wp2_with (first | (clear tk1; refine wpList_row (by rfl) 29 _ rfl _ rfl (HB0.out.later _) vqA rfl (by kernel_rfl) ?_) | (go_at_call 32; refine (Ret.later (KA.out _ (HL.out.ext (Later.h _)))).mono ?_; rintro x _ ⟨rfl, e, rfl⟩))
  go_ret
  exact Ret.mk (by rw [HT.out]; rfl) (HE.out.trans e.h)
 | some i =>
  have hI : firstI (numB bs m) k = (i : Int) := by unfold firstI; rw [hf]
  have HT : Hid (tyAt bs k m = (bs i).ty) := hid (by unfold tyAt; rw [hf])
  rw [hI] at KA
  have hi := (firstOf_spec hf).1
  obtain ⟨b, o, rfl, hb, q0, q1, q2, q3, q4⟩ := HL.out.cells hi
  have i0 : (0 : Int) <= (i : Int) := by omega
  have i1 : (i : Int) < (k : Int) := by omega
  have i2 : decide ((i : Int) < 0) = false := by simp
  have i3 : ((i : Int) < 0) = False := eq_false (by omega)
  have tc : decide (i < k) = true := by simp [hi]
  clear hI hf hi
  go_wp2_with (first | (clear tk1; refine wpList_row (by rfl) 29 _ rfl _ rfl (HB0.out.later _) vqA rfl (by kernel_rfl) ?_) | (go_at_call 32; refine (Ret.later (KA.out _ (HL.out.ext (Later.h _)))).mono ?_; rintro x _ ⟨rfl, e, rfl⟩))
  go_ret
  exact Ret.mk (by rw [HT.out]; rfl) (HE.out.trans e.h)
end Go.Proofs.YtmckfdmdkljomaaGreatDoor
