/-
 Security texts, plainly: what bytes tell.
-/
import Derived.Test.YtmckfdmdkljomaaGreatDoorMMixLessCardaq
import Derived.Test.YtmckfdmdkljomaaGreatDoorMMixLessCardas
import Derived.Test.YtmckfdmdkljomaaGreatDoorMMixLessCardau
import Derived.WideKeyEntry
import Derived.DeepKeys4
namespace Go.Proofs.YtmckfdmdkljomaaGreatDoor
open Go.RowKit
set_option linter.unusedVariables false
set_option linter.unusedSimpArgs false
theorem catA_congr {f g : Nat -> List UInt8} {k : Nat} (h : ∀ i, i < k -> f i = g i) : T.cat f k = T.cat g k := by
 induction k with
 | zero => rfl
 | succ j ih => rw [T.cat, T.cat, ih (fun i hi => h i (by omega)), h j (by omega)]
theorem all_congr {f g : Nat -> Bool} {k : Nat} (h : ∀ i, i < k -> f i = g i) : T.all f k = T.all g k := by
 induction k with
 | zero => rfl
 | succ j ih => rw [T.all, T.all, ih (fun i hi => h i (by omega)), h j (by omega)]
theorem sum_mono {f g : Nat -> Nat} {k : Nat} (h : ∀ i, i < k -> f i <= g i) : T.sum f k <= T.sum g k := by
 induction k with
 | zero => exact Nat.le_refl _
 | succ j ih => rw [T.sum, T.sum]; exact Nat.add_le_add (ih (fun i hi => h i (by omega))) (h j (by omega))
theorem kid_k {t : T} {d : Nat} (h : t.right d = true) : t.k <= 1000 := by
 cases t with
 | nil => exact Nat.zero_le _
 | mk kd n s op k ch =>
  show k <= 1000
  unfold T.right at h
  split at h
  . exact absurd h (by decide)
  .
   rw [Bool.and_eq_true] at h
   have h := h.1
   unfold T.node at h
   split at h
   . simp at h; omega
   .
    split at h
    . simp at h; omega
    .
     split at h
     . simp at h; omega
     . exact absurd h (by decide)
theorem kid_right {t : T} {d : Nat} (h : t.right (d + 1) = true) {i : Nat} (hi : i < t.k) : (t.ch i).right d = true := by
 cases t with
 | nil => simp [T.right] at h
 | mk kd n s op k ch =>
  unfold T.right at h
  rw [if_neg (by omega), Bool.and_eq_true, T.all_iff] at h
  exact h.2 i hi
theorem right_of_same (x : T) : ∀ {u : T} {d : Nat}, x.right d = true -> x.same u = true -> u.ok -> u.right d = true := by
 induction x with
 | nil => intro u d h; cases h
 | mk kind n s op k ch ih =>
  intro u d h hs hu
  obtain ⟨h1, h2, h3, h4, h5, h6⟩ := same_mk hs
  cases u with
  | nil => exact absurd hu T.not_nil
  | mk kind' n' s' op' k' ch' =>
   have h1 : kind' = kind := h1
   have h2 : n' = n := h2
   have h3 : s' = s := h3
   have h4 : op' = op := h4
   have h5 : k' = k := h5
   subst h1 h2 h3 h4 h5
   unfold T.right at h ⊢
   split at h
   . exact absurd h (by decide)
   .
    rename_i hd
    rw [if_neg hd]
    rw [Bool.and_eq_true, T.all_iff] at h ⊢
    exact ⟨h.1, fun i hi => ih i (h.2 i hi) (h6 i hi) (by unfold T.ok at hu; exact hu.2.2.2.2 i hi)⟩
theorem kid_n {t : T} (h : t.ok) : t.n < 18446744073709551616 := by
 cases t with
 | nil => decide
 | mk kd n s op k ch => unfold T.ok at h; exact h.2.1
theorem kid_sz {t : T} (h : t.ok) : 1 <= t.size := by
 cases t with
 | nil => exact absurd h T.not_nil
 | mk kd n s op k ch => unfold T.size; omega
theorem kid_size {t : T} {i : Nat} (h : i < t.k) : (t.ch i).size <= t.size := by
 cases t with
 | nil => exact absurd h (Nat.not_lt_zero _)
 | mk kd n s op k ch => exact T.size_ch h
theorem same_five {x y : T} (h : x.same y = true) : x.kind = y.kind /\ x.n = y.n /\ x.s = y.s /\ x.op = y.op /\ x.k = y.k /\ ∀ i, i < x.k -> (x.ch i).same (y.ch i) = true := by
 cases x with
 | nil =>
  cases y with
  | nil => exact ⟨rfl, rfl, rfl, rfl, rfl, fun i hi => absurd hi (Nat.not_lt_zero _)⟩
  | mk => cases h
 | mk kind n s op k ch =>
  obtain ⟨h1, h2, h3, h4, h5, h6⟩ := same_mk h
  exact ⟨h1.symm, h2.symm, h3.symm, h4.symm, h5.symm, h6⟩
/-! Two lists, two texts, alike as far as they go. -/
structure PL.Eqv (p q : PL) : Prop where
 k : p.k = q.k
 i : ∀ i, i < p.k -> (p.a i).id = (q.a i).id /\ (p.a i).t.same (q.a i).t = true /\ (q.a i).t.ok /\ (q.a i).t.right 8 = true
structure AV.Eqv (a b : AV) : Prop where
 tk : a.tk = b.tk
 tg : ∀ i, i < a.tk -> a.tg i = b.tg i
 ctx : a.ctx = b.ctx
 src : a.src = b.src
 ps : a.ps.Eqv b.ps
 rk : a.rk = b.rk
 rs : ∀ i, i < a.rk -> (a.rs i).Eqv (b.rs i)
theorem unlikeB_congr {f g : Nat -> Int} {k : Nat} (h : ∀ i, i < k -> f i = g i) : unlikeB f k = unlikeB g k := by
 unfold unlikeB
 refine all_congr fun i hi => ?_
 rw [h i hi]
 congr 1
 exact all_congr fun j hj => by rw [h j (by omega)]
theorem PL.Eqv.pairs {p q : PL} (h : p.Eqv q) (hp : pairsB p = true) : pairsB q = true := by
 obtain ⟨h1, h2⟩ := pairsB_iff.1 hp
 refine pairsB_iff.2 ⟨fun i hi => ?_, ?_⟩
 .
  have hi : i < p.k := by rw [h.k]; exact hi
  have g := h1 i hi
  obtain ⟨_, e2, _, e4⟩ := h.i i hi
  unfold valB at g ⊢
  rw [<- (same_five e2).1, e4, Bool.and_true]
  rw [Bool.and_eq_true] at g
  exact g.1
 .
  rw [<- h.k, <- unlikeB_congr (f := fun i => (p.a i).id) (fun i hi => (h.i i hi).1)]
  exact h2
theorem PL.Eqv.bytes {p q : PL} (h : p.Eqv q) : (plT p).bytes = (plT q).bytes := by
 rw [pl_bytes, pl_bytes]
 unfold catP
 rw [<- h.k]
 congr 1
 exact catA_congr fun i hi => by
  obtain ⟨e1, e2, e3, _⟩ := h.i i hi
  rw [pair_bytes, pair_bytes, e1, T.same_bytes _ _ e3 e2]
theorem AV.Eqv.shaped {a b : AV} (h : a.Eqv b) (hs : a.shaped = true) : b.shaped = true := by
 obtain ⟨h1, h3, h4, h5, h6, h7, h8, h9⟩ := AV.shaped_iff.1 hs
 refine AV.shaped_iff.2 ⟨by rw [<- h.tk]; exact h1, ?_, by rw [<- h.ctx]; exact h4, by rw [<- h.src]; exact h5, by rw [<- h.ps.k]; exact h6, h.ps.pairs h7, by rw [<- h.tk, <- h.rk]; exact h8, ?_⟩
 . rw [<- h.tk, <- unlikeB_congr h.tg]; exact h3
 .
  rw [<- h.rk, T.all_iff]
  intro i hi
  obtain ⟨g1, g2⟩ := resB_iff.1 (T.all_iff.1 h9 i hi)
  exact resB_iff.2 ⟨by rw [<- (h.rs i hi).k]; exact g1, (h.rs i hi).pairs g2⟩
theorem AV.Eqv.bytes {a b : AV} (h : a.Eqv b) (hk : a.rk = a.tk) : a.bytes = b.bytes := by
 rw [av_bytes hk, av_bytes (by rw [<- h.rk, <- h.tk]; exact hk)]
 unfold catR15
 have e1 : preR a = preR b := by
  unfold preR catT midB
  rw [<- h.tk, <- h.ctx, <- h.src, <- h.ps.k, <- h.ps.bytes, catA_congr (fun i hi => by rw [h.tg i hi])]
 rw [e1, <- h.rk]
 congr 1
 exact catA_congr fun i hi => (h.rs i hi).bytes
theorem AV.Eqv.val {a b : AV} (h : a.Eqv b) (m : AA) : asbV a m = asbV b m := by
 unfold asbV asbC
 rw [h.tk, h.ctx, h.src, h.ps.k, h.rk]
theorem IsL.same {w : World} {Q : Nat -> Prop} (u : T) : ∀ {t : T} {A : Option Addr}, u.same t = true -> IsL w Q t A -> IsL w Q u A := by
 induction u with
 | nil =>
  intro t A h H
  cases t with
  | nil => exact H
  | mk => cases h
 | mk kind n s op k ch ih =>
  intro t A h H
  obtain ⟨h1, h2, h3, h4, h5, h6⟩ := same_mk h
  cases t with
  | nil => exact absurd H id
  | mk kind' n' s' op' k' ch' =>
   intro h0
   have h5 : k' = k := h5
   obtain ⟨b, o, hA, hb, hq, hc⟩ := H (by omega)
   refine ⟨b, o, hA, hb, hq, fun i hi => ?_⟩
   obtain ⟨Ai, ci, g1, g2⟩ := hc i (by omega)
   have e := same_five (h6 i hi)
   refine ⟨Ai, ci, ?_, ih i (h6 i hi) g2⟩
   unfold At5
   rw [e.1, e.2.1, e.2.2.1, e.2.2.2.1, e.2.2.2.2.1]
   exact g1
theorem AsL.wk {w : World} {Q R : Nat -> Prop} {a : AV} {m : AA} (h : AsL w Q a m) (hq : ∀ k, k < w.heap.size -> Q k -> R k) : AsL w R a m :=
 ⟨h.t, fun b o hA h0 => by
  obtain ⟨b', o', hA', hb, _⟩ := h.t h0
  rw [hA] at hA'; cases hA'
  exact hq _ hb (h.tq b o hA h0), h.p.weak hq, h.r.weak hq⟩
/-! What is read of items. -/
theorem listT_kids {L : List T} {u : T} (h : (listT L).same u = true) : u.k = L.length /\ ∀ (i : Nat) (x : T), L[i]? = some x -> x.same (u.ch i) = true := by
 obtain ⟨h1, h2, h3, h4, h5, h6⟩ := same_mk h
 refine ⟨h5, fun i x hx => ?_⟩
 have hi : i < L.length := by
  rcases Nat.lt_or_ge i L.length with h | h
  . exact h
  . rw [List.getElem?_eq_none h] at hx; exact absurd hx (by simp)
 have := h6 i hi
 rw [hx] at this
 exact this
theorem min_id {n : Nat} {x : Int} (h0 : 0 <= x /\ x <= 65535) (h : n = x.toNat) : min (n : Int) 65536 = x := by omega
theorem pl_read {p : PL} (hp : pairsB p = true) {u : T} (h : (plT p).same u = true) (hok : u.ok) : T.all (pairK u) u.k = true /\ T.all (fun i => decide ((u.ch i).k = 2)) u.k = true /\ p.Eqv ⟨u.k, pairP u⟩ := by
 obtain ⟨v1, v2⟩ := pairsB_iff.1 hp
 have v3 := unlikeB_coded v2
 obtain ⟨_, _, _, _, h5, h6⟩ := same_mk h
 have hk : ∀ i, i < u.k -> (u.ch i).k = 2 /\ ((u.ch i).ch 0).kind = 0 /\ ((u.ch i).ch 0).n = (p.a i).id.toNat /\ (p.a i).t.same ((u.ch i).ch 1) = true := fun i hi => by
  have g := listT_kids (h6 i (by omega))
  have g0 := same_five (g.2 0 _ rfl)
  exact ⟨g.1, g0.1.symm, g0.2.1.symm, g.2 1 _ rfl⟩
 refine ⟨T.all_iff.2 fun i hi => ?_, T.all_iff.2 fun i hi => ?_, h5.symm, fun i hi => ?_⟩
 .
  obtain ⟨g1, g2, _⟩ := hk i hi
  unfold pairK; rw [decide_eq_true g1, decide_eq_true g2]; rfl
 . exact decide_eq_true (hk i hi).1
 .
  have hi' : i < u.k := by omega
  obtain ⟨g1, _, g3, g4⟩ := hk i hi'
  refine ⟨(min_id (v3 i hi) g3).symm, g4, T.okc (T.okc hok hi') (by omega), right_of_same _ (valB_right (v1 i hi)) g4 (T.okc (T.okc hok hi') (by omega))⟩
def r15P (u : T) : PL := if T.all (fun i => decide ((u.ch i).k = 2)) u.k then ⟨u.k, pairP u⟩ else ⟨0, pairP u⟩
def r15A (t : T) : AV := ⟨(t.ch 0).k, tgtN (t.ch 0), min ((t.ch 1).n : Int) 65536, readE (t.ch 3), if t.k = 6 then r15P (t.ch 4) else zeroA.ps, (t.ch (t.k - 1)).k, fun i => r15P ((t.ch (t.k - 1)).ch i)⟩
def isAsb (s : List UInt8) (a : AV) : Prop := a.wf /\ a.right = true /\ a.bytes = s
theorem tg_read {k : Nat} {f : Nat -> Int} (h3 : unlikeB f k = true) {u : T} (h : (tgT k f).same u = true) : u.k = k /\ T.all (numK u) u.k = true /\ ∀ i, i < k -> f i = tgtN u i := by
 obtain ⟨_, _, _, _, h5, h6⟩ := same_mk h
 refine ⟨h5, T.all_iff.2 fun i hi => ?_, fun i hi => ?_⟩
 .
  have g := same_five (h6 i (by omega))
  exact decide_eq_true g.1.symm
 .
  have g := same_five (h6 i hi)
  exact (min_id (unlikeB_coded h3 i hi) g.2.1.symm).symm
theorem rs_read {k : Nat} {f : Nat -> PL} (h : T.all (fun i => resB (f i)) k = true) {u : T} (hs : (rsT k f).same u = true) (hok : u.ok) : u.k = k /\ T.all (resK u) u.k = true /\ ∀ i, i < k -> (f i).Eqv (resP u i) /\ (f i).Eqv (r15P (u.ch i)) := by
 obtain ⟨_, _, _, _, h5, h6⟩ := same_mk hs
 have hh : ∀ i, i < u.k -> T.all (pairK (u.ch i)) (u.ch i).k = true /\ T.all (fun j => decide (((u.ch i).ch j).k = 2)) (u.ch i).k = true /\ (f i).Eqv ⟨(u.ch i).k, pairP (u.ch i)⟩ := fun i hi =>
  pl_read (resB_iff.1 (T.all_iff.1 h i (by omega))).2 (h6 i (by omega)) (T.okc hok hi)
 refine ⟨h5, T.all_iff.2 fun i hi => (hh i hi).1, fun i hi => ?_⟩
 have g := hh i (by omega)
 refine ⟨g.2.2, ?_⟩
 unfold r15P
 rw [g.2.1]
 exact g.2.2
set_option maxRecDepth 20000 in
theorem rd_of {a : AV} (hs : a.shaped = true) {t : T} (hc : ∀ i, i < t.k -> (t.ch i).ok /\ (t.ch i).right 8 = true) (hk : t.k = a.items.length) (hx : ∀ (i : Nat) (x : T), a.items[i]? = some x -> x.same (t.ch i) = true) : rdOK t = true /\ a.Eqv (rdA t) /\ a.Eqv (r15A t) := by
 obtain ⟨h1, h3, h4, h5, h6, h7, h8, h9⟩ := AV.shaped_iff.1 hs
 have hct := codedB_iff.1 h4
 have hname : ∀ u : T, u.ok -> u.right 8 = true -> (eidT a.src).same u = true -> readE u = a.src /\ ofB u = true := fun u hok hr hsm => prev_tree hr hok ⟨h5, T.same_bytes _ _ hok hsm⟩
 have hres : ∀ u : T, u.ok -> u.right 8 = true -> (rsT a.rk a.rs).same u = true -> u.k = a.rk /\ T.all (resK u) u.k = true /\ ∀ i, i < a.rk -> (a.rs i).Eqv (resP u i) /\ (a.rs i).Eqv (r15P (u.ch i)) := fun u hok hr hsm => rs_read h9 hsm hok
 by_cases hp : a.ps.k = 0
 .
  have hI : a.items = [tgT a.tk a.tg, numT a.ctx.toNat, numT 0, eidT a.src, rsT a.rk a.rs] := by unfold AV.items; rw [if_pos hp]
  rw [hI] at hk hx
  have hk : t.k = 5 := hk
  obtain ⟨k0, n0, f0⟩ := tg_read h3 (hx 0 _ rfl)
  have n1 := same_five (hx 1 _ rfl)
  have hk1 : (t.ch 1).kind = 0 := n1.1.symm
  have c3 := hc 3 (by omega)
  have c4 := hc 4 (by omega)
  obtain ⟨e3, o3⟩ := hname _ c3.1 c3.2 (hx 3 _ rfl)
  obtain ⟨k4, r4, f4⟩ := hres _ c4.1 c4.2 (hx 4 _ rfl)
  have hn6 : ¬ t.k = 6 := by omega
  have hctx : a.ctx = min ((t.ch 1).n : Int) 65536 := (min_id hct n1.2.1.symm).symm
  have hps : a.ps.Eqv zeroA.ps := ⟨hp, fun i hi => by omega⟩
  have hl : t.k - 1 = 4 := by omega
  refine ⟨?_, ?_, ?_⟩
  .
   unfold rdOK
   rw [hl, n0, o3, r4, decide_eq_true hk, decide_eq_true hk1]
   simp
  .
   refine ⟨k0.symm, f0, hctx, e3.symm, ?_, ?_, ?_⟩
   .
    show a.ps.Eqv (if t.k = 6 then _ else _)
    rw [if_neg hn6]; exact hps
   .
    show a.rk = (t.ch (t.k - 1)).k
    rw [hl]; exact k4.symm
   .
    show ∀ i, i < a.rk -> (a.rs i).Eqv (resP (t.ch (t.k - 1)) i)
    rw [hl]; exact fun i hi => (f4 i hi).1
  .
   refine ⟨k0.symm, f0, hctx, e3.symm, ?_, ?_, ?_⟩
   .
    show a.ps.Eqv (if t.k = 6 then _ else _)
    rw [if_neg hn6]; exact hps
   .
    show a.rk = (t.ch (t.k - 1)).k
    rw [hl]; exact k4.symm
   .
    show ∀ i, i < a.rk -> (a.rs i).Eqv (r15P ((t.ch (t.k - 1)).ch i))
    rw [hl]; exact fun i hi => (f4 i hi).2
 .
  have hI : a.items = [tgT a.tk a.tg, numT a.ctx.toNat, numT 1, eidT a.src, plT a.ps, rsT a.rk a.rs] := by unfold AV.items; rw [if_neg hp]
  rw [hI] at hk hx
  have hk : t.k = 6 := hk
  obtain ⟨k0, n0, f0⟩ := tg_read h3 (hx 0 _ rfl)
  have n1 := same_five (hx 1 _ rfl)
  have hk1 : (t.ch 1).kind = 0 := n1.1.symm
  have c3 := hc 3 (by omega)
  have c4 := hc 4 (by omega)
  have c5 := hc 5 (by omega)
  obtain ⟨e3, o3⟩ := hname _ c3.1 c3.2 (hx 3 _ rfl)
  obtain ⟨p4, q4, f4⟩ := pl_read h7 (hx 4 _ rfl) c4.1
  obtain ⟨k5, r5, f5⟩ := hres _ c5.1 c5.2 (hx 5 _ rfl)
  have hctx : a.ctx = min ((t.ch 1).n : Int) 65536 := (min_id hct n1.2.1.symm).symm
  have hl : t.k - 1 = 5 := by omega
  refine ⟨?_, ?_, ?_⟩
  .
   unfold rdOK
   rw [hl, n0, o3, r5, p4, decide_eq_true hk, decide_eq_true hk1]
   simp
  .
   refine ⟨k0.symm, f0, hctx, e3.symm, ?_, ?_, ?_⟩
   .
    show a.ps.Eqv (if t.k = 6 then _ else _)
    rw [if_pos hk]; exact f4
   .
    show a.rk = (t.ch (t.k - 1)).k
    rw [hl]; exact k5.symm
   .
    show ∀ i, i < a.rk -> (a.rs i).Eqv (resP (t.ch (t.k - 1)) i)
    rw [hl]; exact fun i hi => (f5 i hi).1
  .
   refine ⟨k0.symm, f0, hctx, e3.symm, ?_, ?_, ?_⟩
   .
    show a.ps.Eqv (if t.k = 6 then _ else _)
    rw [if_pos hk]
    unfold r15P
    rw [q4]; exact f4
   .
    show a.rk = (t.ch (t.k - 1)).k
    rw [hl]; exact k5.symm
   .
    show ∀ i, i < a.rk -> (a.rs i).Eqv (r15P ((t.ch (t.k - 1)).ch i))
    rw [hl]; exact fun i hi => (f5 i hi).2
/-! Of the text that is read: its numbers; its size. -/
theorem pr_wf {u : T} (hok : u.ok) (hk : u.k <= 1000) (h2 : ∀ i, i < u.k -> (u.ch i).k = 2) : PL.wf ⟨u.k, pairP u⟩ := by
 refine ⟨by show u.k < _; omega, fun i hi => ⟨?_, ?_⟩⟩
 . exact T.okc (T.okc hok hi) (by rw [h2 i hi]; omega)
 .
  have := kid_n (T.okc (T.okc hok hi) (i := 0) (by rw [h2 i hi]; omega))
  show -9223372036854775808 <= min (((u.ch i).ch 0).n : Int) 65536 /\ min (((u.ch i).ch 0).n : Int) 65536 <= 9223372036854775807
  omega
theorem pr_size {u : T} (hok : u.ok) (h2 : ∀ i, i < u.k -> (u.ch i).k = 2) : (plT ⟨u.k, pairP u⟩).size <= u.size := by
 have hm : ∀ i, i < u.k -> (pairT (pairP u i)).size <= (u.ch i).size := fun i hi => by
  have hc := T.okc hok hi
  have h0 := kid_sz (T.okc hc (i := 0) (by rw [h2 i hi]; omega))
  rw [pair_size]
  show 2 + ((u.ch i).ch 1).size <= _
  have hk := h2 i hi
  generalize u.ch i = v at *
  cases v with
  | nil => exact absurd hc T.not_nil
  | mk kd n s op k ch =>
   have hk : k = 2 := hk
   subst hk
   have e : (T.mk kd n s op 2 ch).size = 1 + s.length + (0 + (ch 0).size + (ch 1).size) := rfl
   have e1 : (T.mk kd n s op 2 ch).ch 1 = ch 1 := rfl
   have e0 : (T.mk kd n s op 2 ch).ch 0 = ch 0 := rfl
   rw [e0] at h0
   rw [e, e1]
   omega
 cases u with
 | nil => exact absurd hok T.not_nil
 | mk kd n s op k ch =>
  have := sum_mono (k := k) (f := fun i => (pairT (pairP (T.mk kd n s op k ch) i)).size) (g := fun i => (ch i).size) hm
  unfold plT T.size
  show 1 + 0 + T.sum (fun i => (pairT (pairP (T.mk kd n s op k ch) i)).size) k <= _
  omega
theorem rs_size {u : T} (hok : u.ok) {f : Nat -> PL} (h : ∀ i, i < u.k -> (plT (f i)).size <= (u.ch i).size) : (rsT u.k f).size <= u.size := by
 cases u with
 | nil => exact absurd hok T.not_nil
 | mk kd n s op k ch =>
  have := sum_mono (k := k) (f := fun i => (plT (f i)).size) (g := fun i => (ch i).size) h
  unfold rsT T.size
  show 1 + 0 + T.sum (fun i => (plT (f i)).size) k <= _
  omega
theorem pairK_two {u : T} (h : T.all (pairK u) u.k = true) : ∀ i, i < u.k -> (u.ch i).k = 2 := fun i hi => by
 have := T.all_iff.1 h i hi
 unfold pairK at this
 simp at this
 exact this.1
structure Kids (t : T) : Prop where
 k : t.k = 5 \/ t.k = 6
 o : ∀ i, i < t.k -> (t.ch i).ok
 r : ∀ i, i < t.k -> (t.ch i).right 8 = true
 s : ∀ i, i < t.k -> (t.ch i).size <= 100000
theorem Kids.name {t : T} (h : Kids t) (hb : ofB (t.ch 3) = true) : (readE (t.ch 3)).name.length < 4611686018427387904 := by
 unfold ofB at hb
 rw [Bool.and_eq_true] at hb
 rcases EV.ok_cases hb.1 with e | ⟨name, e, _, hl⟩ | ⟨node, svc, e, _, _⟩
 . rw [e]; decide
 . rw [e]; show name.length < _; omega
 . rw [e]; show 0 < _; omega
theorem Kids.wf0 {t : T} (h : Kids t) (hb : ofB (t.ch 3) = true) {a : AV} (htk : a.tk = (t.ch 0).k) (htg : a.tg = tgtN (t.ch 0)) (hctx : a.ctx = min ((t.ch 1).n : Int) 65536) (hsrc : a.src = readE (t.ch 3)) (hps : a.ps.wf) (hrk : a.rk = (t.ch (t.k - 1)).k) (hrs : ∀ i, i < a.rk -> (a.rs i).wf) : a.wf := by
 have hk := h.k
 have k0 := kid_k (h.r 0 (by omega))
 have kl := kid_k (h.r (t.k - 1) (by omega))
 have n1 := kid_n (h.o 1 (by omega))
 refine ⟨⟨by omega, fun i hi => ?_⟩, by omega, by rw [hsrc]; exact h.name hb, hps, by omega, hrs⟩
 have := kid_n (T.okc (h.o 0 (by omega)) (i := i) (by omega))
 rw [htg]
 show -9223372036854775808 <= min (((t.ch 0).ch i).n : Int) 65536 /\ min (((t.ch 0).ch i).n : Int) 65536 <= 9223372036854775807
 omega
theorem Kids.kk {t : T} (h : Kids t) {i j : Nat} (hi : i < t.k) (hj : j < (t.ch i).k) : ((t.ch i).ch j).k <= 1000 := kid_k (kid_right (d := 7) (h.r i hi) hj)
theorem rdOK_iff {t : T} (h : rdOK t = true) : (t.k = 5 \/ t.k = 6) /\ ofB (t.ch 3) = true /\ (t.k = 6 -> T.all (pairK (t.ch 4)) (t.ch 4).k = true) /\ T.all (resK (t.ch (t.k - 1))) (t.ch (t.k - 1)).k = true := by
 unfold rdOK at h
 simp only [Bool.and_eq_true, Bool.or_eq_true, decide_eq_true_eq] at h
 obtain ⟨⟨⟨⟨⟨h1, h2⟩, h3⟩, h4⟩, h5⟩, h6⟩ := h
 exact ⟨h1, h4, fun g => h5.resolve_left (by omega), h6⟩
theorem Kids.wf {t : T} (h : Kids t) (hb : rdOK t = true) : (rdA t).wf := by
 have hk := h.k
 obtain ⟨_, h2, h3, h4⟩ := rdOK_iff hb
 refine h.wf0 h2 rfl rfl rfl rfl ?_ rfl fun i hi => ?_
 .
  show PL.wf (if t.k = 6 then _ else _)
  split
  .
   rename_i h6
   exact pr_wf (h.o 4 (by omega)) (kid_k (h.r 4 (by omega))) (pairK_two (h3 h6))
  . exact ⟨by decide, fun i hi => absurd hi (Nat.not_lt_zero _)⟩
 .
  have hi : i < (t.ch (t.k - 1)).k := hi
  exact pr_wf (T.okc (h.o (t.k - 1) (by omega)) hi) (h.kk (by omega) hi) (pairK_two (T.all_iff.1 h4 i hi))
theorem Kids.small {t : T} (h : Kids t) (hb : rdOK t = true) : (rdA t).small := by
 have hk := h.k
 obtain ⟨_, h2, h3, h4⟩ := rdOK_iff hb
 constructor
 .
  show (plT (if t.k = 6 then _ else _)).size <= _
  split
  .
   rename_i h6
   exact Nat.le_trans (pr_size (h.o 4 (by omega)) (pairK_two (h3 h6))) (h.s 4 (by omega))
  . decide
 . exact Nat.le_trans (rs_size (h.o (t.k - 1) (by omega)) fun i hi => pr_size (T.okc (h.o (t.k - 1) (by omega)) hi) (pairK_two (T.all_iff.1 h4 i hi))) (h.s _ (by omega))
/-! The items between the bytes that open and close them. -/
def wrapT (L : List T) : T := .mk 4 0 [] true L.length fun i => (L[i]?).getD T.nil
theorem cat_list (L : List T) : T.cat (fun i => ((L[i]?).getD T.nil).bytes) L.length = (L.map T.bytes).flatten := by
 have : ∀ j, j <= L.length -> T.cat (fun i => ((L[i]?).getD T.nil).bytes) j = catL L j := by
  intro j hj
  induction j with
  | zero => rfl
  | succ j ih => rw [T.cat, ih (by omega), catL_succ (by omega)]; rfl
 rw [this _ (Nat.le_refl _)]
 unfold catL
 rw [List.take_length]
theorem wrap_bytes (L : List T) : (wrapT L).bytes = 159 :: ((L.map T.bytes).flatten ++ [255]) := by
 unfold wrapT T.bytes
 rw [if_neg (by decide), if_neg (by decide), cat_list]
 rfl
theorem wrap_ok {L : List T} (h : ∀ t ∈ L, t.ok) (hl : L.length <= 1000) : (wrapT L).ok := by
 unfold wrapT T.ok
 refine ⟨by omega, by omega, by simp, by omega, fun i hi => ?_⟩
 show ((L[i]?).getD T.nil).ok
 rw [List.getElem?_eq_getElem hi]
 exact h _ (List.getElem_mem _)
theorem wrap_right {L : List T} {d : Nat} (h : ∀ t ∈ L, t.right d = true) (hl : L.length <= 1000) : (wrapT L).right (d + 1) = true := by
 unfold wrapT T.right
 rw [if_neg (by omega), Bool.and_eq_true, T.all_iff]
 refine ⟨by simp [T.node, hl], fun i hi => ?_⟩
 show ((L[i]?).getD T.nil).right d = true
 rw [List.getElem?_eq_getElem hi]
 exact h _ (List.getElem_mem _)
theorem wrap_kids {L : List T} {t : T} (h : (wrapT L).same t = true) : t.k = L.length /\ ∀ (i : Nat) (x : T), L[i]? = some x -> x.same (t.ch i) = true := by
 obtain ⟨h1, h2, h3, h4, h5, h6⟩ := same_mk h
 refine ⟨h5, fun i x hx => ?_⟩
 have hi : i < L.length := by
  rcases Nat.lt_or_ge i L.length with h | h
  . exact h
  . rw [List.getElem?_eq_none h] at hx; exact absurd hx (by simp)
 have := h6 i hi
 rw [hx] at this
 exact this
theorem items_seven {a : AV} (hw : a.wf) (h : a.shaped = true) : (∀ t ∈ a.items, t.ok /\ t.right 7 = true) /\ (a.items.length = 5 \/ a.items.length = 6) := by
 obtain ⟨⟨h1, h2⟩, h3, h4, h5, h6, h7, h8, h9⟩ := AV.shaped_iff.1 h
 obtain ⟨w1, w2, w3, w4, w5, w6⟩ := hw
 have c := codedB_iff.1 h4
 have ntg : (tgT a.tk a.tg).ok /\ (tgT a.tk a.tg).right 7 = true := ⟨tg_ok (by omega) h3, tg_right (by omega) (by omega) h3⟩
 have nn : ∀ n, n <= 65535 -> (numT n).ok /\ (numT n).right 7 = true := fun n hn => by
  have := numT_all n (by omega)
  exact ⟨this.1, this.2.1 7 (by omega)⟩
 have ne : (eidT a.src).ok /\ (eidT a.src).right 7 = true := by
  have := eidT_ok h5
  exact ⟨this.1, this.2.1 7 (by omega)⟩
 have np : (plT a.ps).ok /\ (plT a.ps).right 7 = true := ⟨pl_ok w4 h7, pl_right (by omega) (by omega) h7⟩
 have nr : (rsT a.rk a.rs).ok /\ (rsT a.rk a.rs).right 7 = true := ⟨rs_ok (by omega) w6 h9, rs_right (by omega) (by omega) h9⟩
 unfold AV.items
 split
 .
  refine ⟨fun t ht => ?_, .inl rfl⟩
  simp only [List.mem_cons, List.not_mem_nil, or_false] at ht
  rcases ht with rfl | rfl | rfl | rfl | rfl
  . exact ntg
  . exact nn _ (by omega)
  . exact nn _ (by omega)
  . exact ne
  . exact nr
 .
  refine ⟨fun t ht => ?_, .inr rfl⟩
  simp only [List.mem_cons, List.not_mem_nil, or_false] at ht
  rcases ht with rfl | rfl | rfl | rfl | rfl | rfl
  . exact ntg
  . exact nn _ (by omega)
  . exact nn _ (by omega)
  . exact ne
  . exact np
  . exact nr
structure Kids0 (t : T) (a : AV) : Prop where
 o : rdOK t = true
 e : a.Eqv (rdA t)
 q : a.Eqv (r15A t)
 s : a.shaped = true
theorem isAsb_tree {s : List UInt8} {a : AV} (h : isAsb s a) {t : T} (hok : t.ok) (hr : t.right 9 = true) (hb : t.bytes = 159 :: (s ++ [255])) : Kids0 t a := by
 obtain ⟨h1, h2, h3⟩ := h
 have hsh : a.shaped = true := by
  unfold AV.right at h2
  rw [Bool.and_eq_true] at h2
  exact h2.1
 obtain ⟨i1, i2⟩ := items_seven h1 hsh
 have wr := wrap_right (fun t ht => (i1 t ht).2) (by omega)
 have hs := bytes_same (T.plain_of wr) (T.plain_of hr) (wrap_ok (fun t ht => (i1 t ht).1) (by omega)) hok (by rw [wrap_bytes, hb, <- h3]; rfl)
 obtain ⟨k1, k2⟩ := wrap_kids hs
 have := rd_of hsh (fun i hi => ⟨T.okc hok hi, kid_right (d := 8) hr hi⟩) k1 k2
 exact ⟨this.1, this.2.1, this.2.2, hsh⟩
def isSec (s : List UInt8) (x : Int × List Int) : Prop := ∃ a, isAsb s a /\ x = (a.ctx, (List.range a.tk).map a.tg)
theorem isAsb_two {s : List UInt8} {a b : AV} (ha : isAsb s a) (hb : isAsb s b) : ∃ t : T, a.Eqv (rdA t) /\ b.Eqv (rdA t) := by
 obtain ⟨h1, h2, h3⟩ := ha
 have hsh : a.shaped = true := by
  unfold AV.right at h2
  rw [Bool.and_eq_true] at h2
  exact h2.1
 obtain ⟨i1, i2⟩ := items_seven h1 hsh
 have wr : (wrapT a.items).right 8 = true := wrap_right (fun t ht => (i1 t ht).2) (by omega)
 have w9 : (wrapT a.items).right 9 = true := T.right_up _ 8 wr
 have wo := wrap_ok (fun t ht => (i1 t ht).1) (by omega)
 have wb : (wrapT a.items).bytes = 159 :: (s ++ [255]) := by rw [wrap_bytes, <- h3]; rfl
 exact ⟨wrapT a.items, (isAsb_tree ⟨h1, h2, h3⟩ wo w9 wb).e, (isAsb_tree hb wo w9 wb).e⟩
theorem sec_eq {a b : AV} (h : a.Eqv b) : (a.ctx, (List.range a.tk).map a.tg) = (b.ctx, (List.range b.tk).map b.tg) := by
 refine Prod.ext h.ctx ?_
 show (List.range a.tk).map a.tg = (List.range b.tk).map b.tg
 rw [<- h.tk]
 exact List.map_congr_left fun i hi => h.tg i (by simpa using hi)
theorem isSec_inj {s : List UInt8} (x y : Int × List Int) (hx : isSec s x) (hy : isSec s y) : x = y := by
 obtain ⟨a, ha, rfl⟩ := hx
 obtain ⟨b, hb, rfl⟩ := hy
 obtain ⟨t, h1, h2⟩ := isAsb_two ha hb
 rw [sec_eq h1, sec_eq h2]
noncomputable def secO (s : List UInt8) : Option (Int × List Int) := theO (isSec s)
theorem secO_some {s : List UInt8} {a : AV} (h : isAsb s a) : secO s = some (a.ctx, (List.range a.tk).map a.tg) := theO_some isSec_inj ⟨a, h, rfl⟩
theorem secO_none {s : List UInt8} (h : ∀ a, ¬ isAsb s a) : secO s = none := theO_none fun x hx => by obtain ⟨a, ha, _⟩ := hx; exact h a ha
theorem secO_len {s : List UInt8} {c : Int} {l : List Int} (h : secO s = some (c, l)) : l.length <= 16 := by
 have hx : isSec s (c, l) := by
  unfold secO theO at h
  split at h
  .
   rename_i g
   simp only [Option.some.injEq] at h
   rw [<- h]
   exact g.choose_spec
  . cases h
 obtain ⟨a, ⟨h1, h2, h3⟩, e⟩ := hx
 have hsh : a.shaped = true := by
  unfold AV.right at h2
  rw [Bool.and_eq_true] at h2
  exact h2.1
 have := (AV.shaped_iff.1 hsh).1
 have e2 : l = (List.range a.tk).map a.tg := congrArg Prod.snd e
 rw [e2, List.length_map, List.length_range]
 omega
noncomputable def opsL (typ kind ctx : Int) (out : BV -> Bool) (bs : Nat -> BV) : Nat -> Option (List OV)
 | 0 => some []
 | k + 1 => match opsL typ kind ctx out bs k with
  | none => none
  | some l => if (bs k).ty ≠ typ \/ out (bs k) = true then some l else match secO (bs k).data with
   | some (c, ts) => if c = ctx then some (l ++ ts.map (OV.mk kind (bs k).num)) else none
   | none => none
theorem opsL_skip {typ kind ctx : Int} {out : BV -> Bool} {bs : Nat -> BV} {k : Nat} (h : (bs k).ty ≠ typ \/ out (bs k) = true) : opsL typ kind ctx out bs (k + 1) = opsL typ kind ctx out bs k := by
 rw [opsL]
 cases opsL typ kind ctx out bs k with
 | none => rfl
 | some l => dsimp only; rw [if_pos h]
theorem opsL_bad {typ kind ctx : Int} {out : BV -> Bool} {bs : Nat -> BV} {k : Nat} (h : ¬ ((bs k).ty ≠ typ \/ out (bs k) = true)) (hs : ∀ ts, secO (bs k).data ≠ some (ctx, ts)) : opsL typ kind ctx out bs (k + 1) = none := by
 rw [opsL]
 cases opsL typ kind ctx out bs k with
 | none => rfl
 | some l =>
  dsimp only
  rw [if_neg h]
  cases hx : secO (bs k).data with
  | none => rfl
  | some x =>
   obtain ⟨c, ts⟩ := x
   dsimp only
   rw [if_neg]
   intro e
   subst e
   exact hs ts hx
theorem opsL_more {typ kind ctx : Int} {out : BV -> Bool} {bs : Nat -> BV} {k : Nat} {l : List OV} (hl : opsL typ kind ctx out bs k = some l) (h : ¬ ((bs k).ty ≠ typ \/ out (bs k) = true)) {ts : List Int} (hs : secO (bs k).data = some (ctx, ts)) : opsL typ kind ctx out bs (k + 1) = some (l ++ ts.map (OV.mk kind (bs k).num)) := by
 rw [opsL, hl]
 dsimp only
 rw [if_neg h, hs]
 dsimp only
 rw [if_pos rfl]
theorem opsL_none {typ kind ctx : Int} {out : BV -> Bool} {bs : Nat -> BV} {i : Nat} (h : opsL typ kind ctx out bs i = none) : ∀ k, i <= k -> opsL typ kind ctx out bs k = none := by
 intro k hk
 induction k with
 | zero =>
    obtain rfl : i = 0 := by omega
    exact h
 | succ k ih =>
  by_cases e : i = k + 1
  . subst e; exact h
  . rw [opsL, ih (by omega)]
theorem opsL_len {typ kind ctx : Int} {out : BV -> Bool} {bs : Nat -> BV} : ∀ {k : Nat} {l : List OV}, opsL typ kind ctx out bs k = some l -> l.length <= 16 * k
 | 0, l, h => by rw [opsL] at h; simp only [Option.some.injEq] at h; subst h; simp
 | k + 1, l, h => by
  cases hl : opsL typ kind ctx out bs k with
  | none => rw [opsL, hl] at h; cases h
  | some l0 =>
   have ih := opsL_len hl
   by_cases hs : (bs k).ty ≠ typ \/ out (bs k) = true
   .
    rw [opsL_skip hs, hl] at h
    simp only [Option.some.injEq] at h
    subst h; omega
   .
    by_cases hx : ∃ ts, secO (bs k).data = some (ctx, ts)
    .
     obtain ⟨ts, hx⟩ := hx
     rw [opsL_more hl hs hx] at h
     simp only [Option.some.injEq] at h
     have := secO_len hx
     subst h
     rw [List.length_append, List.length_map]; omega
    . rw [opsL_bad hs (fun ts e => hx ⟨ts, e⟩)] at h; cases h
theorem opsL_kind {typ kind ctx : Int} {out : BV -> Bool} {bs : Nat -> BV} : ∀ {k : Nat} {l : List OV}, opsL typ kind ctx out bs k = some l -> ∀ o ∈ l, o.kind = kind
 | 0, l, h => by rw [opsL] at h; simp only [Option.some.injEq] at h; subst h; simp
 | k + 1, l, h => by
  cases hl : opsL typ kind ctx out bs k with
  | none => rw [opsL, hl] at h; cases h
  | some l0 =>
   have ih := opsL_kind hl
   by_cases hs : (bs k).ty ≠ typ \/ out (bs k) = true
   .
    rw [opsL_skip hs, hl] at h
    simp only [Option.some.injEq] at h
    subst h; exact ih
   .
    by_cases hx : ∃ ts, secO (bs k).data = some (ctx, ts)
    .
     obtain ⟨ts, hx⟩ := hx
     rw [opsL_more hl hs hx] at h
     simp only [Option.some.injEq] at h
     subst h
     intro o ho
     rcases List.mem_append.1 ho with ho | ho
     . exact ih o ho
     . obtain ⟨t, _, rfl⟩ := List.mem_map.1 ho; rfl
    . rw [opsL_bad hs (fun ts e => hx ⟨ts, e⟩)] at h; cases h
def underB (l : List OV) (x : BV) : Bool := l.any fun o => decide (o.kind = 2) && decide (o.tgt = x.num)
noncomputable def opsF (bs : Nat -> BV) (k : Nat) : Option (List OV) := match opsL 12 2 2 (fun _ => false) bs k with
 | none => none
 | some s => match opsL 11 1 1 (underB s) bs k with
  | none => none
  | some g => some (s ++ g)
theorem opsF_kind {bs : Nat -> BV} {k : Nat} {l : List OV} (h : opsF bs k = some l) : ∀ o ∈ l, o.kind = 1 \/ o.kind = 2 := by
 unfold opsF at h
 cases h1 : opsL 12 2 2 (fun _ => false) bs k with
 | none => rw [h1] at h; cases h
 | some s =>
  rw [h1] at h
  dsimp only at h
  cases h2 : opsL 11 1 1 (underB s) bs k with
  | none => rw [h2] at h; cases h
  | some g =>
   rw [h2] at h
   simp only [Option.some.injEq] at h
   subst h
   intro o ho
   rcases List.mem_append.1 ho with ho | ho
   . exact .inr (opsL_kind h1 o ho)
   . exact .inl (opsL_kind h2 o ho)
theorem opsF_len {bs : Nat -> BV} {k : Nat} {l : List OV} (h : opsF bs k = some l) : l.length <= 32 * k := by
 unfold opsF at h
 cases h1 : opsL 12 2 2 (fun _ => false) bs k with
 | none => rw [h1] at h; cases h
 | some s =>
  rw [h1] at h
  dsimp only at h
  cases h2 : opsL 11 1 1 (underB s) bs k with
  | none => rw [h2] at h; cases h
  | some g =>
   rw [h2] at h
   simp only [Option.some.injEq] at h
   subst h
   have := opsL_len h1
   have := opsL_len h2
   rw [List.length_append]; omega
def opN (l : List OV) (i : Nat) : OV := l.getD i ⟨0, 0, 0⟩
theorem opN_mem {l : List OV} {i : Nat} (h : i < l.length) : opN l i ∈ l := by
 unfold opN
 rw [List.getD_eq_getElem?_getD, List.getElem?_eq_getElem h]
 exact List.getElem_mem h
noncomputable def soundF (p : PV) (bs : Nat -> BV) (k : Nat) (right : Int) : Int := if right ≠ 0 then right else match opsF bs k with
 | none => 2
 | some l => if has p.fl 1 && (firstOf (fun i => safeT (bs i).ty) k).isSome then 8 else if rulesB bs k (opN l) l.length then 0 else 8
def goodO (bs : Nat -> BV) (k : Nat) (o : OV) : Prop :=
 (o.tgt = 0 \/ (firstOf (numB bs o.tgt) k).isSome = true) /\ (o.kind = 2 -> o.tgt ≠ 0 /\ tyAt bs k o.tgt ≠ 12 /\ chgT (tyAt bs k o.tgt) = false) /\
 (o.kind = 1 -> o.tgt ≠ 0 -> safeT (tyAt bs k o.tgt) = false /\ chgT (tyAt bs k o.tgt) = false)
def pairO (a b : OV) : Prop := (a.kind = b.kind -> a.tgt ≠ b.tgt) /\ (a.kind = 2 -> b.kind = 2 -> a.num ≠ b.num) /\ (a.kind ≠ b.kind -> a.tgt = b.tgt -> a.tgt = 0)
theorem opN_get {l : List OV} {i : Nat} (h : i < l.length) : opN l i = l[i] := by
 unfold opN
 rw [List.getD_eq_getElem?_getD, List.getElem?_eq_getElem h]; rfl
theorem all_opN {l : List OV} {P : OV -> Prop} : (∀ i, i < l.length -> P (opN l i)) ↔ ∀ o ∈ l, P o := by
 constructor
 .
  intro h o ho
  obtain ⟨i, hi, rfl⟩ := List.getElem_of_mem ho
  rw [<- opN_get hi]; exact h i hi
 .
  intro h i hi
  exact h _ (opN_mem hi)
theorem thereAt_no {bs : Nat -> BV} {k : Nat} {l : Nat -> OV} {i : Nat} : thereAt bs k l i = false ↔ ((l i).tgt = 0 \/ (firstOf (numB bs (l i).tgt) k).isSome = true) := by
 unfold thereAt
 rw [Bool.and_eq_false_iff]
 constructor
 .
  rintro (h | h)
  . left; simpa using h
  .
   right
   cases hf : firstOf (numB bs (l i).tgt) k with
   | none => rw [hf] at h; cases h
   | some j => rfl
 .
  rintro (h | h)
  . left; simp [h]
  .
   right
   cases hf : firstOf (numB bs (l i).tgt) k with
   | none => rw [hf] at h; cases h
   | some j => rfl
theorem onceAt_no {l : Nat -> OV} {i : Nat} : onceAt l i = false ↔ ∀ j, j < i -> ¬ ((l j).kind = (l i).kind /\ (l j).tgt = (l i).tgt) := by
 unfold onceAt
 rw [<- Bool.not_eq_true, firstSome_iff]
 unfold sameKT
 constructor
 . intro h j hj e; exact h ⟨j, hj, by simp [e.1, e.2]⟩
 . rintro h ⟨j, hj, e⟩; simp at e; exact h j hj e
theorem sealAt_no {bs : Nat -> BV} {k : Nat} {l : Nat -> OV} {i : Nat} : sealAt bs k l i = false ↔ ((l i).kind = 2 -> (∀ j, j < i -> ¬ ((l j).kind = (l i).kind /\ (l j).num = (l i).num)) /\ (l i).tgt ≠ 0 /\ tyAt bs k (l i).tgt ≠ 12 /\ chgT (tyAt bs k (l i).tgt) = false) := by
 unfold sealAt
 rw [<- Bool.not_eq_true]
 simp only [Bool.and_eq_true, Bool.or_eq_true, firstSome_iff, decide_eq_true_eq]
 unfold sameKN
 constructor
 .
  intro h hk
  refine ⟨fun j hj e => h ⟨hk, .inl (.inl (.inl ⟨j, hj, by simp [e.1, e.2]⟩))⟩, fun e => h ⟨hk, .inl (.inl (.inr e))⟩, fun e => h ⟨hk, .inl (.inr e)⟩, ?_⟩
  cases hc : chgT (tyAt bs k (l i).tgt) with
  | false => rfl
  | true => exact absurd ⟨hk, .inr hc⟩ h
 .
  rintro h ⟨hk, hh⟩
  obtain ⟨a, b, c, d⟩ := h hk
  rcases hh with ((⟨j, hj, e⟩ | e) | e) | e
  . simp at e; exact a j hj e
  . exact b e
  . exact c e
  . rw [d] at e; cases e
theorem signAt_no {bs : Nat -> BV} {k : Nat} {l : Nat -> OV} {n i : Nat} : signAt bs k l n i = false ↔ ((l i).kind = 1 -> (l i).tgt ≠ 0 -> safeT (tyAt bs k (l i).tgt) = false /\ chgT (tyAt bs k (l i).tgt) = false /\ ∀ j, j < n -> ¬ ((l j).kind = 2 /\ (l j).tgt = (l i).tgt)) := by
 unfold signAt amongB
 rw [<- Bool.not_eq_true]
 simp only [Bool.and_eq_true, Bool.or_eq_true, firstSome_iff, decide_eq_true_eq]
 unfold sameKT
 constructor
 .
  intro h hk ht
  refine ⟨?_, ?_, fun j hj e => h ⟨⟨hk, ht⟩, .inr ⟨j, hj, by simp [e.1, e.2]⟩⟩⟩
  .
   cases hc : safeT (tyAt bs k (l i).tgt) with
   | false => rfl
   | true => exact absurd ⟨⟨hk, ht⟩, .inl (.inl hc)⟩ h
  .
   cases hc : chgT (tyAt bs k (l i).tgt) with
   | false => rfl
   | true => exact absurd ⟨⟨hk, ht⟩, .inl (.inr hc)⟩ h
 .
  rintro h ⟨⟨hk, ht⟩, hh⟩
  obtain ⟨a, b, c⟩ := h hk ht
  rcases hh with (e | e) | ⟨j, hj, e⟩
  . rw [a] at e; cases e
  . rw [b] at e; cases e
  . simp at e; exact c j hj e
theorem rules_iff {bs : Nat -> BV} {k : Nat} {l : List OV} (hl : ∀ o ∈ l, o.kind = 1 \/ o.kind = 2) : rulesB bs k (opN l) l.length = true ↔ (∀ o ∈ l, goodO bs k o) /\ l.Pairwise pairO := by
 unfold rulesB thereB onceO sealsB signsB
 simp only [Bool.and_eq_true, firstNone_iff, thereAt_no, onceAt_no, sealAt_no, signAt_no]
 have hk : ∀ i, i < l.length -> (opN l i).kind = 1 \/ (opN l i).kind = 2 := all_opN.2 hl
 constructor
 .
  rintro ⟨⟨⟨a, b⟩, c⟩, d⟩
  refine ⟨all_opN.1 fun i hi => ⟨a i hi, fun h2 => (c i hi h2).2, fun h1 ht => ⟨(d i hi h1 ht).1, (d i hi h1 ht).2.1⟩⟩, ?_⟩
  rw [List.pairwise_iff_getElem]
  intro i j hi hj hij
  rw [<- opN_get hi, <- opN_get hj]
  refine ⟨fun e q => b j hj i hij ⟨e, q⟩, fun e1 e2 q => (c j hj e2).1 i hij ⟨e1.trans e2.symm, q⟩, fun e q => ?_⟩
  rcases hk i hi with h1 | h2
  .
   rcases hk j hj with g1 | g2
   . exact absurd (h1.trans g1.symm) e
   .
    by_cases h0 : (opN l i).tgt = 0
    . exact h0
    . exact absurd ⟨g2, q.symm⟩ ((d i hi h1 h0).2.2 j hj)
  .
   rcases hk j hj with g1 | g2
   .
    by_cases h0 : (opN l j).tgt = 0
    . rw [q]; exact h0
    . exact absurd ⟨h2, q⟩ ((d j hj g1 h0).2.2 i hi)
   . exact absurd (h2.trans g2.symm) e
 .
  rintro ⟨a, b⟩
  have a := (all_opN (l := l)).2 a
  rw [List.pairwise_iff_getElem] at b
  have b : ∀ i j, i < l.length -> j < l.length -> i < j -> pairO (opN l i) (opN l j) := fun i j hi hj hij => by
   rw [opN_get hi, opN_get hj]; exact b i j hi hj hij
  refine ⟨⟨⟨fun i hi => (a i hi).1, fun i hi j hj e => (b j i (by omega) hi hj).1 e.1 e.2⟩, fun i hi h2 => ⟨fun j hj e => (b j i (by omega) hi hj).2.1 (e.1.trans h2) h2 e.2, (a i hi).2.1 h2⟩⟩, fun i hi h1 ht => ⟨((a i hi).2.2 h1 ht).1, ((a i hi).2.2 h1 ht).2, fun j hj e => ?_⟩⟩
  have hne : i ≠ j := fun q => by subst q; rw [h1] at e; exact absurd e.1 (by decide)
  rcases Nat.lt_or_ge i j with hlt | hge
  . exact ht ((b i j hi hj hlt).2.2 (by rw [h1, e.1]; decide) e.2.symm)
  . exact ht (by rw [<- e.2]; exact (b j i hj hi (by omega)).2.2 (by rw [h1, e.1]; decide) e.2)
theorem rules_sub {bs bs' : Nat -> BV} {k k' : Nat} {l l' : List OV} (hl : ∀ o ∈ l, o.kind = 1 \/ o.kind = 2) (h : rulesB bs k (opN l) l.length = true) (hs : l'.Sublist l) (hg : ∀ o ∈ l', goodO bs k o -> goodO bs' k' o) : rulesB bs' k' (opN l') l'.length = true := by
 rw [rules_iff hl] at h
 rw [rules_iff fun o ho => hl o (hs.subset ho)]
 exact ⟨fun o ho => hg o ho (h.1 o (hs.subset ho)), h.2.sublist hs⟩
def spec (t : Int) : Prop := t = 6 \/ t = 7 \/ t = 10
structure Lk1 (a r : BV) : Prop where
 ty : a.ty = r.ty
 num : a.num = r.num
 fl : a.fl = r.fl
 crc : a.crc = r.crc
 d : a.data = r.data \/ (spec r.ty /\ a.data.length <= 70)
def Lk (R : Nat -> BV) (k : Nat) (bs : Nat -> BV) : Prop := ∀ i, i < k -> Lk1 (bs i) (R i)
theorem Lk.refl (R : Nat -> BV) (k : Nat) : Lk R k R := fun i hi => ⟨rfl, rfl, rfl, rfl, .inl rfl⟩
theorem Lk.set {R bs : Nat -> BV} {k : Nat} (h : Lk R k bs) {i : Nat} (hs : spec (R i).ty) {d : List UInt8} (hd : d.length <= 70) : Lk R k (fun j => if j = i then { bs i with data := d } else bs j) := fun j hj => by
 by_cases e : j = i
 .
  subst e
  have g := h j hj
  show Lk1 (if j = j then _ else _) _
  rw [if_pos rfl]
  exact ⟨g.ty, g.num, g.fl, g.crc, .inr ⟨hs, hd⟩⟩
 .
  show Lk1 (if j = i then _ else _) _
  rw [if_neg e]
  exact h j hj
theorem firstOf_congr' {p q : Nat -> Bool} {k : Nat} (h : ∀ j, j < k -> p j = q j) : firstOf p k = firstOf q k := by
 cases hq : firstOf q k with
 | none => exact firstOf_none fun j hj => by rw [h j hj]; exact firstOf_no hq j hj
 | some i =>
  obtain ⟨h1, h2, h3⟩ := firstOf_spec hq
  exact firstOf_some h1 (by rw [h i h1]; exact h2) fun j hj => by rw [h j (by omega)]; exact h3 j hj
theorem Lk.ty {R bs : Nat -> BV} {k : Nat} (h : Lk R k bs) (t : Int) : firstOf (tyB bs t) k = firstOf (tyB R t) k := firstOf_congr' fun j hj => by unfold tyB; rw [(h j hj).ty]
theorem cntB_congr' {bs bs' : Nat -> BV} (t : Int) : ∀ {k : Nat}, (∀ j, j < k -> (bs j).ty = (bs' j).ty) -> cntB bs t k = cntB bs' t k
 | 0, _ => rfl
 | k + 1, h => by rw [cntB, cntB, cntB_congr' t fun j hj => h j (by omega), h k (by omega)]
theorem dupB_iff {bs : Nat -> BV} {k : Nat} : dupB bs k = false ↔ ∀ i j, i < k -> j < i -> (bs i).num ≠ (bs j).num := by
 constructor
 . intro h i j hi hj; exact dup_no h hi hj
 .
  intro h
  unfold dupB
  rw [firstOf_none]
  . rfl
  .
   intro i hi
   unfold dupAt
   rw [firstOf_none]
   . rfl
   .
    intro j hj
    unfold hasNumOf
    exact decide_eq_false (h i j hi hj)
structure BOK (p : PV) (bs : Nat -> BV) (k : Nat) : Prop where
 pr : p.right = 0
 br : ∀ i, i < k -> (bs i).right = 0
 k16 : k <= 16
 k0 : 0 < k
 c1 : cntB bs 1 k = 1
 du : dupB bs k = false
 c6 : cntB bs 6 k <= 1
 c7 : cntB bs 7 k <= 1
 c10 : cntB bs 10 k <= 1
 la : (bs (k - 1)).ty = 1
 t0 : p.t = 0 -> cntB bs 7 k ≠ 0
 fr : has p.fl 1 = true -> p.o + (bs (k - 1)).data.length <= p.n
 l : (bunBytes p bs k).length <= 4000
theorem bok_of {p : PV} {bs : Nat -> BV} {k : Nat} (h : bunRight p bs k = 0) : BOK p bs k := by
 obtain ⟨h1, h2, h3, h4, h5, h6, h7⟩ := bunRight_zero h
 unfold bunRule1 at h4
 unfold bunRule2 at h5
 unfold bunRule3 at h6
 simp only [Bool.or_eq_false_iff, decide_eq_false_iff_not] at h4 h5
 obtain ⟨⟨⟨⟨⟨a1, a2⟩, a3⟩, a4⟩, a5⟩, a6⟩ := h4
 obtain ⟨b1, b2⟩ := h5
 refine ⟨h1, h2, h3, by omega, by omega, a3, by omega, by omega, by omega, by simpa using b1, fun e c => ?_, fun hh => ?_, h7⟩
 . rw [e, c] at b2; exact absurd b2 (by decide)
 .
  rw [hh] at h6
  simp at h6
  omega
theorem bok_to {p : PV} {bs : Nat -> BV} {k : Nat} (h : BOK p bs k) : bunRight p bs k = 0 := by
 have h1 : bunRule1 bs k = false := by
  unfold bunRule1
  simp only [Bool.or_eq_false_iff, decide_eq_false_iff_not]
  exact ⟨⟨⟨⟨⟨by have := h.k0; omega, by have := h.c1; omega⟩, h.du⟩, by have := h.c6; omega⟩, by have := h.c7; omega⟩, by have := h.c10; omega⟩
 have h2 : bunRule2 p bs k = false := by
  unfold bunRule2
  simp only [Bool.or_eq_false_iff, decide_eq_false_iff_not]
  refine ⟨by have := h.la; simpa using this, ?_⟩
  by_cases e : p.t = 0
  . rw [decide_eq_false (h.t0 e)]; simp
  . rw [decide_eq_false e]; rfl
 have h3 : bunRule3 p bs k = false := by
  unfold bunRule3
  cases hh : has p.fl 1 with
  | false => rfl
  | true => have := h.fr hh; simp; omega
 unfold bunRight
 rw [if_neg (by simpa using h.pr), firstOf_none (p := badAt bs) fun j hj => by unfold badAt; simpa using h.br j hj]
 dsimp only
 rw [if_neg (by have := h.k16; omega), h1, if_neg (by decide), h2, if_neg (by decide), h3, if_neg (by decide), if_neg (by have := h.l; omega)]
theorem BV.bytes_le {b : BV} (h : b.right = 0) : b.bytes.length <= b.data.length + 60 := by
 obtain ⟨h1, h2, h3, h4, h5, h6, h7, h8, h9⟩ := BV.right_zero h
 have a0 : ∀ x, (headL 4 x).length <= 9 := headL_le 4
 have s : (sumB b.ty.toNat b.num.toNat b.fl b.crc.toNat b.data).length <= 4 := by rw [sumB_length (by omega)]; omega
 unfold BV.bytes blkB
 generalize sumB b.ty.toNat b.num.toNat b.fl b.crc.toNat b.data = S at *
 have e1 : ∀ x, x < 24 -> (headL 4 x).length = 1 := fun x hx => by unfold headL; rw [if_pos hx]; rfl
 have e2 : ∀ x, x < 24 -> (headL 2 x).length = 1 := fun x hx => by unfold headL; rw [if_pos hx]; rfl
 have a1 := headL_le 0 b.ty.toNat
 have a2 := headL_le 0 b.num.toNat
 have a3 := headL_le 0 b.fl
 have a4 := headL_le 0 b.crc.toNat
 have a5 := headL_le 2 b.data.length
 have a6 : (if b.crc.toNat = 0 then ([] : List UInt8) else headL 2 S.length ++ S).length <= 5 := by
  split
  . simp
  . rw [List.length_append, e2 _ (by omega)]; omega
 have a7 : (headL 4 (if b.crc.toNat = 0 then 5 else 6)).length = 1 := e1 _ (by split <;> omega)
 simp only [List.length_append]
 omega
theorem num_first {bs : Nat -> BV} {k i : Nat} (hd : dupB bs k = false) (hi : i < k) : firstOf (fun j => decide ((bs j).num = (bs i).num)) k = some i :=
 firstOf_some hi (by simp) fun j hj => by
  have := dupB_iff.1 hd i j hi hj
  simp; exact fun e => this e.symm
def insP (bs : Nat -> BV) (i : Nat) (x : BV) : Nat -> BV := fun j => if j < i then bs j else if j = i then x else bs (j - 1)
theorem insP_cnt {bs : Nat -> BV} {i : Nat} {x : BV} (t : Int) : ∀ {k : Nat}, i <= k -> cntB (insP bs i x) t (k + 1) = cntB bs t k + (if x.ty = t then 1 else 0) := by
 have lo : ∀ {k : Nat}, k <= i -> cntB (insP bs i x) t k = cntB bs t k := fun {k} hk => cntB_congr' t fun j hj => by unfold insP; rw [if_pos (by omega)]
 intro k
 induction k with
 | zero =>
  intro h
  obtain rfl : i = 0 := by omega
  rw [cntB, cntB, cntB]
  unfold insP; simp
 | succ k ih =>
  intro h
  by_cases e : i = k + 1
  .
   subst e
   have : insP bs (k + 1) x (k + 1) = x := by unfold insP; simp
   rw [cntB, lo (Nat.le_refl _), this]
  .
   rw [cntB, ih (by omega), cntB]
   have : insP bs i x (k + 1) = bs k := by unfold insP; rw [if_neg (by omega), if_neg (by omega)]; rfl
   rw [this]; omega
theorem insP_len {bs : Nat -> BV} {i : Nat} {x : BV} : ∀ {k : Nat}, i <= k -> (blksB (insP bs i x) (k + 1)).length = (blksB bs k).length + x.bytes.length := by
 have lo : ∀ {k : Nat}, k <= i -> blksB (insP bs i x) k = blksB bs k := by
  intro k
  induction k with
  | zero => intro _; rfl
  | succ k ih =>
   intro h
   have : insP bs i x k = bs k := by unfold insP; rw [if_pos (by omega)]
   rw [blksB, blksB, ih (by omega), this]
 intro k
 induction k with
 | zero =>
  intro h
  obtain rfl : i = 0 := by omega
  have : insP bs 0 x 0 = x := by unfold insP; simp
  simp [blksB, this]
 | succ k ih =>
  intro h
  by_cases e : i = k + 1
  .
   subst e
   have : insP bs (k + 1) x (k + 1) = x := by unfold insP; simp
   rw [blksB, lo (Nat.le_refl _), this, List.length_append]
  .
   have : insP bs i x (k + 1) = bs k := by unfold insP; rw [if_neg (by omega), if_neg (by omega)]; rfl
   rw [blksB, List.length_append, ih (by omega), this, blksB, List.length_append]; omega
noncomputable def stepO (typ kind ctx : Int) (out : BV -> Bool) (x : BV) : Option (List OV) := if x.ty ≠ typ \/ out x = true then some [] else match secO x.data with
 | some (c, ts) => if c = ctx then some (ts.map (OV.mk kind x.num)) else none
 | none => none
theorem opsL_step (typ kind ctx : Int) (out : BV -> Bool) (bs : Nat -> BV) (k : Nat) : opsL typ kind ctx out bs (k + 1) = (opsL typ kind ctx out bs k).bind fun l => (stepO typ kind ctx out (bs k)).map fun m => l ++ m := by
 rw [opsL]
 cases opsL typ kind ctx out bs k with
 | none => rfl
 | some l =>
  dsimp only [Option.bind_some]
  unfold stepO
  by_cases h : (bs k).ty ≠ typ \/ out (bs k) = true
  . rw [if_pos h, if_pos h]; simp
  .
   rw [if_neg h, if_neg h]
   cases secO (bs k).data with
   | none => rfl
   | some x =>
    obtain ⟨c, ts⟩ := x
    dsimp only
    by_cases hc : c = ctx
    . rw [if_pos hc, if_pos hc]; rfl
    . rw [if_neg hc, if_neg hc]; rfl
theorem opsL_congr {typ kind ctx : Int} {out out' : BV -> Bool} {bs bs' : Nat -> BV} : ∀ {k : Nat}, (∀ i, i < k -> stepO typ kind ctx out (bs i) = stepO typ kind ctx out' (bs' i)) -> opsL typ kind ctx out bs k = opsL typ kind ctx out' bs' k
 | 0, _ => rfl
 | k + 1, h => by rw [opsL_step, opsL_step, opsL_congr fun i hi => h i (by omega), h k (by omega)]
theorem insP_lt {bs : Nat -> BV} {i j : Nat} {x : BV} (h : j < i) : insP bs i x j = bs j := by unfold insP; rw [if_pos h]
theorem insP_at (bs : Nat -> BV) (i : Nat) (x : BV) : insP bs i x i = x := by unfold insP; rw [if_neg (by omega), if_pos rfl]
theorem insP_gt {bs : Nat -> BV} {i j : Nat} {x : BV} (h : i <= j) : insP bs i x (j + 1) = bs j := by unfold insP; rw [if_neg (by omega), if_neg (by omega)]; rfl
theorem opsL_ins {typ kind ctx : Int} {out : BV -> Bool} {bs : Nat -> BV} {i : Nat} {x : BV} : ∀ {k : Nat}, i <= k ->
  (opsL typ kind ctx out bs k = none /\ opsL typ kind ctx out (insP bs i x) (k + 1) = none) \/ (stepO typ kind ctx out x = none /\ opsL typ kind ctx out (insP bs i x) (k + 1) = none) \/
  ∃ l1 l2 m, opsL typ kind ctx out bs k = some (l1 ++ l2) /\ stepO typ kind ctx out x = some m /\ opsL typ kind ctx out (insP bs i x) (k + 1) = some (l1 ++ m ++ l2)
 | 0, h => by
  obtain rfl : i = 0 := by omega
  rw [opsL_step, insP_at]
  cases hs : stepO typ kind ctx out x with
  | none => right; left; exact ⟨rfl, by rw [opsL]; rfl⟩
  | some m => right; right; exact ⟨[], [], m, rfl, rfl, by rw [opsL]; simp⟩
 | k + 1, h => by
  by_cases e : i = k + 1
  .
   subst e
   rw [opsL_step (bs := insP bs (k + 1) x), insP_at, opsL_congr (bs := insP bs (k + 1) x) (bs' := bs) (k := k + 1) (fun j hj => by rw [insP_lt hj])]
   cases ho : opsL typ kind ctx out bs (k + 1) with
   | none => left; exact ⟨rfl, rfl⟩
   | some l =>
    cases hs : stepO typ kind ctx out x with
    | none => right; left; exact ⟨rfl, rfl⟩
    | some m => right; right; exact ⟨l, [], m, by simp, rfl, by simp⟩
  .
   have ih := opsL_ins (typ := typ) (kind := kind) (ctx := ctx) (out := out) (bs := bs) (x := x) (k := k) (i := i) (by omega)
   rw [opsL_step (bs := insP bs i x), insP_gt (by omega), opsL_step (bs := bs)]
   rcases ih with ⟨h1, h2⟩ | ⟨h1, h2⟩ | ⟨l1, l2, m, h1, h2, h3⟩
   . left; rw [h1, h2]; exact ⟨rfl, rfl⟩
   . right; left; rw [h2]; exact ⟨h1, rfl⟩
   .
    rw [h1, h3]
    cases hs : stepO typ kind ctx out (bs k) with
    | none => left; exact ⟨rfl, rfl⟩
    | some q => right; right; exact ⟨l1, l2 ++ q, m, by simp, h2, by simp⟩
theorem stepO_num {typ kind ctx : Int} {out : BV -> Bool} {x : BV} {m : List OV} (h : stepO typ kind ctx out x = some m) : ∀ o ∈ m, o.num = x.num /\ o.kind = kind := by
 unfold stepO at h
 split at h
 . cases h; simp
 .
  split at h
  .
   split at h
   .
    cases h
    intro o ho
    obtain ⟨t, _, rfl⟩ := List.mem_map.1 ho
    exact ⟨rfl, rfl⟩
   . cases h
  . cases h
theorem stepO_skip {typ kind ctx : Int} {out : BV -> Bool} {x : BV} (h : x.ty ≠ typ \/ out x = true) : stepO typ kind ctx out x = some [] := by unfold stepO; rw [if_pos h]
theorem opsL_from {typ kind ctx : Int} {out : BV -> Bool} {bs : Nat -> BV} : ∀ {k : Nat} {l : List OV}, opsL typ kind ctx out bs k = some l -> ∀ o ∈ l, ∃ i, i < k /\ o.num = (bs i).num /\ (bs i).ty = typ
 | 0, l, h => by rw [opsL] at h; simp only [Option.some.injEq] at h; subst h; simp
 | k + 1, l, h => by
  rw [opsL_step] at h
  cases hl : opsL typ kind ctx out bs k with
  | none => rw [hl] at h; cases h
  | some l0 =>
   rw [hl] at h
   cases hs : stepO typ kind ctx out (bs k) with
   | none => rw [hs] at h; cases h
   | some m =>
    rw [hs] at h
    simp only [Option.bind_some, Option.map_some, Option.some.injEq] at h
    subst h
    intro o ho
    rcases List.mem_append.1 ho with ho | ho
    .
     obtain ⟨i, h1, h2⟩ := opsL_from hl o ho
     exact ⟨i, by omega, h2⟩
    .
     refine ⟨k, by omega, (stepO_num hs o ho).1, ?_⟩
     by_cases ht : (bs k).ty = typ
     . exact ht
     .
      rw [stepO_skip (.inl ht)] at hs
      cases hs; simp at ho
theorem underB_append (a b : List OV) (x : BV) : underB (a ++ b) x = (underB a x || underB b x) := by unfold underB; rw [List.any_append]
theorem underB_iff {s : List OV} {x : BV} : underB s x = true ↔ ∃ o ∈ s, o.kind = 2 /\ o.tgt = x.num := by
 unfold underB
 rw [List.any_eq_true]
 constructor
 . rintro ⟨o, h1, h2⟩; simp at h2; exact ⟨o, h1, h2⟩
 . rintro ⟨o, h1, h2⟩; exact ⟨o, h1, by simp [h2.1, h2.2]⟩
theorem opsF_eq {bs : Nat -> BV} {k : Nat} {s : List OV} (h : opsL 12 2 2 (fun _ => false) bs k = some s) : opsF bs k = (opsL 11 1 1 (underB s) bs k).map fun g => s ++ g := by
 unfold opsF
 rw [h]
 dsimp only
 cases opsL 11 1 1 (underB s) bs k <;> rfl
theorem opsF_some {bs : Nat -> BV} {k : Nat} {l : List OV} (h : opsF bs k = some l) : ∃ s g, opsL 12 2 2 (fun _ => false) bs k = some s /\ opsL 11 1 1 (underB s) bs k = some g /\ l = s ++ g := by
 unfold opsF at h
 cases h1 : opsL 12 2 2 (fun _ => false) bs k with
 | none => rw [h1] at h; cases h
 | some s =>
  rw [h1] at h
  dsimp only at h
  cases h2 : opsL 11 1 1 (underB s) bs k with
  | none => rw [h2] at h; cases h
  | some g =>
   rw [h2] at h
   simp only [Option.some.injEq] at h
   exact ⟨s, g, rfl, h2, h.symm⟩
theorem soundF_zero {p : PV} {bs : Nat -> BV} {k : Nat} : soundF p bs k (bunRight p bs k) = 0 ↔ bunRight p bs k = 0 /\ ∃ l, opsF bs k = some l /\ (has p.fl 1 && (firstOf (fun i => safeT (bs i).ty) k).isSome) = false /\ rulesB bs k (opN l) l.length = true := by
 unfold soundF
 by_cases h : bunRight p bs k = 0
 .
  rw [if_neg (by simpa using h)]
  cases ho : opsF bs k with
  | none => simp [h]
  | some l =>
   dsimp only
   cases hw : (has p.fl 1 && (firstOf (fun i => safeT (bs i).ty) k).isSome) with
   | true => simp [h]
   | false =>
    cases hr : rulesB bs k (opN l) l.length with
    | true => simp [h, hr]
    | false => simp [h, hr]
 .
  rw [if_pos h]
  exact ⟨fun e => absurd e h, fun e => e.1⟩
theorem first_ins {bs : Nat -> BV} {i : Nat} {x : BV} {n : Int} (hx : x.num ≠ n) : ∀ {k : Nat}, i <= k -> tyAt (insP bs i x) (k + 1) n = tyAt bs k n /\ (firstOf (numB (insP bs i x) n) (k + 1)).isSome = (firstOf (numB bs n) k).isSome := by
 intro k hi
 have hxb : numB (insP bs i x) n i = false := by unfold numB hasNum; rw [insP_at]; simpa using hx
 cases hf : firstOf (numB bs n) k with
 | none =>
  have h := firstOf_no hf
  have h2 : firstOf (numB (insP bs i x) n) (k + 1) = none := firstOf_none fun j hj => by
   rcases Nat.lt_trichotomy j i with hlt | rfl | hgt
   . have := h j (by omega); unfold numB at this ⊢; rw [insP_lt hlt]; exact this
   . exact hxb
   .
    obtain ⟨j, rfl⟩ : ∃ j', j = j' + 1 := ⟨j - 1, by omega⟩
    have := h j (by omega); unfold numB at this ⊢; rw [insP_gt (by omega)]; exact this
  unfold tyAt
  rw [h2, hf]
  exact ⟨rfl, rfl⟩
 | some a =>
  obtain ⟨h1, h2, h3⟩ := firstOf_spec hf
  by_cases ha : a < i
  .
   have g : firstOf (numB (insP bs i x) n) (k + 1) = some a := firstOf_some (by omega) (by unfold numB at h2 ⊢; rw [insP_lt ha]; exact h2) fun j hj => by
    have := h3 j hj; unfold numB at this ⊢; rw [insP_lt (by omega)]; exact this
   unfold tyAt
   rw [g, hf]
   dsimp only
   rw [insP_lt ha]
   exact ⟨rfl, rfl⟩
  .
   have g : firstOf (numB (insP bs i x) n) (k + 1) = some (a + 1) := firstOf_some (by omega) (by unfold numB at h2 ⊢; rw [insP_gt (by omega)]; exact h2) fun j hj => by
    rcases Nat.lt_trichotomy j i with hlt | rfl | hgt
    . have := h3 j (by omega); unfold numB at this ⊢; rw [insP_lt hlt]; exact this
    . exact hxb
    .
     obtain ⟨j, rfl⟩ : ∃ j', j = j' + 1 := ⟨j - 1, by omega⟩
     have := h3 j (by omega); unfold numB at this ⊢; rw [insP_gt (by omega)]; exact this
   unfold tyAt
   rw [g, hf]
   dsimp only
   rw [insP_gt (by omega)]
   exact ⟨rfl, rfl⟩
theorem good_ins {bs : Nat -> BV} {i k : Nat} {x : BV} {o : OV} (hi : i <= k) (hx : x.num ≠ o.tgt) : goodO (insP bs i x) (k + 1) o ↔ goodO bs k o := by
 obtain ⟨h1, h2⟩ := first_ins (bs := bs) (i := i) hx hi
 unfold goodO
 rw [h1, h2]
section
open Go.Maps Go.ChangeMaps Go.MapKept
theorem laidAll : laidOutB Tryz.prog = true := by kernel_rfl
theorem opLaw : WideMaps.KeyLaw Tryz.prog 40 := deep_law_laid (m := 5) laidAll (by decide) (of_decide_eq_true (by kernel_rfl)) (by kernel_rfl) (by kernel_rfl)
theorem opKeyed : Keyed Tryz.prog 40 := Keyed.of_law opLaw
abbrev OKey (a t : Int) : Value := .agg #[.int .i64 a, .int .i64 0, .int .i64 t]
theorem kl_i64m (d : Nat) (n : Int) (h : InI n) : Tryz.prog.keyLits (d + 1) 3 [.int .i64 n] = some [.int .i64 n] := by
 unfold Program.keyLits
 simp only [vqK]
 rw [if_pos ⟨trivial, h.wf⟩]
theorem keyOfOp {a t : Int} (ha : InI a) (ht : InI t) : ∃ s, keyOf Tryz.prog 40 (OKey a t) = some (.string s) := by
 have h1 : Tryz.prog.keyType 40 = true := by kernel_rfl
 have h2 : (OKey a t).formed Tryz.prog 40 = true := by kernel_rfl
 have h3 : ∃ d, Tryz.prog.types.size + 1 = d + 2 := ⟨Tryz.prog.types.size - 1, by
  have h : decide (0 < Tryz.prog.types.size) = true := by kernel_rfl
  have := of_decide_eq_true h
  omega⟩
 obtain ⟨d, hd⟩ := h3
 have k1 : Tryz.prog.cellsOf 3 = 1 := by kernel_rfl
 have k2 : Tryz.prog.cellsOf 40 = 3 := by kernel_rfl
 have e : Tryz.prog.keyLits (d + 2) 40 (OKey a t).cells.toList = some [.int .i64 a, .int .i64 0, .int .i64 t] := by
  unfold Program.keyLits
  simp only [vqL]
  simp [k1, k2, kl_i64m d _ ha, kl_i64m d _ ht, kl_i64m d 0 (by unfold InI; omega), Value.cells]
 unfold keyOf
 simp only [vqL]
 rw [h1, h2, hd, e]
 exact ⟨_, rfl⟩
theorem key_one : ∀ {l : List MapEntry}, (l.map (·.key)).Nodup -> ∀ {a b : MapEntry}, a ∈ l -> b ∈ l -> a.key = b.key -> a = b
 | [], _, _, _, ha, _, _ => absurd ha (by simp)
 | x :: r, h, a, b, ha, hb, e => by
  simp only [List.map_cons, List.nodup_cons] at h
  rcases List.mem_cons.1 ha with ha' | ha' <;> rcases List.mem_cons.1 hb with hb' | hb'
  . rw [ha', hb']
  . exact (h.1 (List.mem_map.2 ⟨b, hb', by rw [<- e, ha']⟩)).elim
  . exact (h.1 (List.mem_map.2 ⟨a, ha', by rw [e, hb']⟩)).elim
  . exact key_one h.2 ha' hb' e
open WideElems in
theorem look_after {H : Type} {P : Program} {w : World} {t k e : TypeId} {R : Value -> Option (DataW H × List MemPlace)} {b : Nat} {es : Array MapEntry} {clock : Nat} (K : WideMaps.KeyLaw P k) (ht : P.underlying t = some (.map k e)) {z : Value} (hz : ∀ u : World, (zeroValue e).run P u = .ok z u) (hb : w.heap[b]? = some (.map es clock)) (F : Fit P k R es clock)
  {key : Value} {kl : Lit} (hkey : keyOf P k key = some kl) {v0 : Value} {st : Nat} {es1 : Array MapEntry} {clock1 : Nat} (hE : (Instr.mapEntry t (.map (some b)) key).run P w = .ok (.tuple #[v0, goInt st]) (setBlock w b (.map es1 clock1))) :
  (Instr.lookup t (.map (some b)) key false).run P (setBlock w b (.map es1 clock1)) = .ok v0 (setBlock w b (.map es1 clock1)) := by
 have inj : ∀ {es2 : Array MapEntry} {ck2 : Nat}, setBlock w b (.map es2 ck2) = setBlock w b (.map es1 clock1) -> es2 = es1 := fun h => by
  have h1 := heap_setBlock_same hb (.map es1 clock1)
  rw [<- h, heap_setBlock_same hb] at h1
  simp only [Option.some.injEq, Obj.map.injEq] at h1
  exact h1.1
 have fin : ∀ e1 : MapEntry, e1 ∈ es1.toList -> e1.key = key -> e1.val = v0 -> (es1.toList.map (·.key)).Nodup -> (∀ e ∈ es1.toList, ∃ l, keyOf P k e.key = some l) -> (Instr.lookup t (.map (some b)) key false).run P (setBlock w b (.map es1 clock1)) = .ok v0 (setBlock w b (.map es1 clock1)) := fun e1 hm hk hv hn hks => by
  have hb3 := heap_setBlock_same hb (.map es1 clock1)
  rcases K.find (setBlock w b (.map es1 clock1)) hkey es1.toList hks with ⟨_, g2⟩ | ⟨j, e2, g1, g2, g3⟩
  . exact absurd hk (g2 e1 hm)
  .
   have : e2 = e1 := key_one hn (List.mem_of_getElem? g2) hm (g3.trans hk.symm)
   subst this
   simp [Instr.lookup, run_underlying ht, MapKept.run_getObj_map hb3, K.check _ _ hkey, g1, Result.andThen, hv]
 rcases K.find w hkey es.toList F.keys with ⟨h1, h2⟩ | ⟨j, e0, h1, h2, h3⟩
 .
  have run1 : (Instr.mapEntry t (.map (some b)) key).run P w = .ok (.tuple #[z, goInt clock]) (setBlock w b (.map (es.push ⟨key, z, clock⟩) (clock + 1))) := by
   simp [Instr.mapEntry, run_underlying ht, MapKept.run_getObj_map hb, K.check w false hkey, h1, hz, MapKept.run_setObj_map _ hb, Result.andThen, setBlock]
  rw [run1] at hE
  simp only [Result.ok.injEq, Value.tuple.injEq, Array.mk.injEq, List.cons.injEq] at hE
  have e1 := inj hE.2
  subst e1
  refine fin ⟨key, z, clock⟩ (by simp) rfl hE.1.1 ?_ fun e he => ?_
  .
   rw [Array.toList_push, List.map_append, List.nodup_append]
   refine ⟨F.stamped.2.2, by simp, fun a ha c hc q => ?_⟩
   simp only [List.map_cons, List.map_nil, List.mem_singleton] at hc
   obtain ⟨x, hx, rfl⟩ := List.mem_map.1 ha
   exact h2 x hx (q.trans hc)
  .
   rw [Array.toList_push] at he
   rcases List.mem_append.1 he with he | he
   . exact F.keys e he
   .
    simp only [List.mem_singleton] at he
    subst he; exact ⟨kl, hkey⟩
 .
  have hj : es[j]? = some e0 := by simpa using h2
  have hsame : es.modify j (fun e => { e with key := key }) = es := by
   apply Array.ext'
   rw [Array.toList_modify, modify_eq_set _ _ _ _ h2]
   have : ({ e0 with key := key } : MapEntry) = e0 := by rw [<- h3]
   rw [this]
   exact set_self _ _ _ h2
  have run1 : (Instr.mapEntry t (.map (some b)) key).run P w = .ok (.tuple #[e0.val, goInt e0.born]) (setBlock w b (.map es clock)) := by
   simp [Instr.mapEntry, run_underlying ht, MapKept.run_getObj_map hb, K.check w false hkey, h1, hj, h3, K.stays w hkey, hsame, MapKept.run_setObj_map _ hb, Result.andThen, setBlock]
  rw [run1] at hE
  simp only [Result.ok.injEq, Value.tuple.injEq, Array.mk.injEq, List.cons.injEq] at hE
  have e1 := inj hE.2
  subst e1
  exact fin e0 (List.mem_of_getElem? h2) h3 hE.1.1 F.stamped.2.2 F.keys
abbrev OpMap (w : World) (b n : Nat) (D : UD) : Prop := w.ownsMap Tryz.prog 40 (plainElem (H := Unit) Tryz.prog 3) b n D
theorem own_entry {w : World} {b n : Nat} {D : UD} (h : OpMap w b n D) (hn : n < maxLen) {key : Value} {kl : Lit} (hkey : keyOf Tryz.prog 40 key = some kl) :
  ∃ (c : Int) (st : Nat) (es1 : Array MapEntry) (clock1 : Nat), (Instr.mapEntry 117 (.map (some b)) key).run Tryz.prog w = .ok (.tuple #[.int .i64 c, goInt st]) (setBlock w b (.map es1 clock1)) /\
   D.atKey kl (.lit (.int .i64 0)) = .lit (.int .i64 c) /\ (Lit.int .i64 c).wf = true /\ w.grownBy (setBlock w b (.map es1 clock1)) (some b) /\ (Instr.lookup 117 (.map (some b)) key false).run Tryz.prog (setBlock w b (.map es1 clock1)) = .ok (.int .i64 c) (setBlock w b (.map es1 clock1)) /\
   ∀ (w2 : World) (c' : Int), w2.heap[b]? = some (.map es1 clock1) -> (Lit.int .i64 c').wf = true -> ∃ w4, (Instr.entryStore 117 (.map (some b)) (goInt st) (.int .i64 c')).run Tryz.prog w2 = .ok () w4 /\ OpMap w4 b (n + 1) (D.put kl (.lit (.int .i64 c'))) /\ w2.grownBy w4 (some b) := by
 obtain ⟨c, hrun, hat, hwc⟩ := World.ownsMap.lookup_int h opKeyed vqM vqK (zero3 w) hkey
 have h0 := h
 obtain ⟨es, clock, hb, F, hs, hD⟩ := h
 obtain ⟨v0, st, es1, clock1, he, hv, hst⟩ := WideElems.entry_then_store (z := .int .i64 0) opLaw vqM (fun u => zero3 u) hb F hkey
 have hvc : v0 = .int .i64 c := by
  rcases Maps.fit_look false opKeyed vqM (zero3 w) hb F hkey with ⟨hr, hno, _⟩ | ⟨e0, y, hm, hk, hr, _⟩
  .
   rw [hr] at hrun
   simp only [Bool.false_eq_true, if_false, Result.ok.injEq, and_true] at hrun
   rcases hv with ⟨e0, h1, h2, _⟩ | ⟨_, h⟩
   . exact absurd h2 (hno e0 h1)
   . rw [h]; exact hrun
  .
   rw [hr] at hrun
   simp only [Bool.false_eq_true, if_false, Result.ok.injEq, and_true] at hrun
   rcases hv with ⟨e1, h1, h2, h3⟩ | ⟨h2, _⟩
   .
    have : e1 = e0 := key_one F.stamped.2.2 h1 hm (h2.trans hk.symm)
    rw [h3, this]; exact hrun
   . exact absurd hk (h2 e0 hm)
 subst hvc
 refine ⟨c, st, es1, clock1, he, hat, hwc, ⟨rfl, rfl, rfl, by simp [setBlock], fun i _ hi => heap_setBlock_other hb _ (fun e => hi (by rw [e]))⟩, look_after opLaw vqM (fun u => zero3 u) hb F hkey he, fun w2 c' hw2 hc' => ?_⟩
 obtain ⟨es', clock', hs1, hu⟩ := hst w2 (.int .i64 c') hw2
 obtain ⟨w', hu', ho', _⟩ := World.ownsMap.update h0 opKeyed vqM hn hkey (plainElem_int vqK hc')
 rw [hu] at hu'
 simp only [Result.ok.injEq, true_and] at hu'
 subst hu'
 refine ⟨_, hs1, ?_, ⟨rfl, rfl, rfl, by simp [setBlock], fun i _ hi => heap_setBlock_other hw2 _ (fun e => hi (by rw [e]))⟩⟩
 obtain ⟨es2, ck2, hb2, F2, hs2, hD2⟩ := ho'
 rw [heap_setBlock_same hb] at hb2
 cases hb2
 exact ⟨es', clock', heap_setBlock_same hw2 _, F2, hs2, hD2⟩
def CountsO (w : World) (m c : Nat) (f : Int -> Int -> Nat) : Prop :=
 ∃ D : UD, OpMap w m c D /\ ∀ a t s, InI a -> InI t -> keyOf Tryz.prog 40 (OKey a t) = some (.string s) -> D.atKey (.string s) (.lit (.int .i64 0)) = .lit (.int .i64 (f a t : Int))
theorem CountsO.kept {w w' : World} {m c : Nat} {f : Int -> Int -> Nat} {S : List Nat} (h : CountsO w m c f) (hm : Mod S w w') (hs : m ∉ S) : CountsO w' m c f := by
 obtain ⟨D, ⟨es, clock, h1, h2, h3, h4⟩, h5⟩ := h
 have hlt : m < w.heap.size := by
  rcases Nat.lt_or_ge m w.heap.size with hlt | hge
  . exact hlt
  . rw [Array.getElem?_eq_none hge] at h1; cases h1
 exact ⟨D, ⟨es, clock, (hm.block m hlt hs).trans h1, h2, h3, h4⟩, h5⟩
theorem CountsO.lt {w : World} {m c : Nat} {f : Int -> Int -> Nat} (h : CountsO w m c f) : m < w.heap.size := by
 obtain ⟨D, h1, _⟩ := h
 exact h1.lt
theorem CountsO.made (w : World) : CountsO (w.alloc (.map #[] 0)) w.heap.size 0 (fun _ _ => 0) := ⟨.map [], World.ownsMap_made _ _ _ _, fun _ _ _ _ _ _ => rfl⟩
theorem CountsO.congr {w : World} {m c : Nat} {f g : Int -> Int -> Nat} (h : CountsO w m c f) (e : ∀ x y, f x y = g x y) : CountsO w m c g := by
 obtain rfl : f = g := funext fun x => funext fun y => e x y
 exact h
def updO (f : Int -> Int -> Nat) (a t : Int) : Int -> Int -> Nat := fun x y => if x = a /\ y = t then f a t + 1 else f x y
theorem CountsO.look {w : World} {m c : Nat} {f : Int -> Int -> Nat} (h : CountsO w m c f) {a t : Int} (ha : InI a) (ht : InI t) :
  (Instr.lookup 117 (.map (some m)) (OKey a t) false).run Tryz.prog w = .ok (.int .i64 (f a t : Int)) w := by
 obtain ⟨D, hown, hat⟩ := h
 obtain ⟨s, hs⟩ := keyOfOp ha ht
 obtain ⟨v, hrun, h1, _⟩ := World.ownsMap.lookup_int hown opKeyed vqM vqK (zero3 w) hs
 rw [hat a t s ha ht hs] at h1
 have : v = (f a t : Int) := by
  have := h1
  simp at this
  exact this.symm
 rw [hrun, this]
theorem CountsO.bump {w : World} {m c : Nat} {f : Int -> Int -> Nat} (h : CountsO w m c f) (hc : c < maxLen) {a t : Int} (ha : InI a) (ht : InI t) (hf : (f a t : Int) <= 100000) :
  ∃ (st : Nat) (es1 : Array MapEntry) (clock1 : Nat) (w4 : World), (Instr.mapEntry 117 (.map (some m)) (OKey a t)).run Tryz.prog w = .ok (.tuple #[.int .i64 (f a t : Int), goInt st]) (setBlock w m (.map es1 clock1)) /\ w.grownBy (setBlock w m (.map es1 clock1)) (some m) /\ (Instr.lookup 117 (.map (some m)) (OKey a t) false).run Tryz.prog (setBlock w m (.map es1 clock1)) = .ok (.int .i64 (f a t : Int)) (setBlock w m (.map es1 clock1)) /\
   (Instr.entryStore 117 (.map (some m)) (goInt st) (.int .i64 ((f a t : Int) + 1))).run Tryz.prog (setBlock w m (.map es1 clock1)) = .ok () w4 /\ CountsO w4 m (c + 1) (updO f a t) /\ Mod [m] w w4 := by
 obtain ⟨D, hown, hat⟩ := h
 obtain ⟨s, hs⟩ := keyOfOp ha ht
 obtain ⟨v, st, es1, clock1, h1, h2, h3, h4, hlk, h5⟩ := own_entry hown hc hs
 rw [hat a t s ha ht hs] at h2
 have hv : v = (f a t : Int) := by
  have := h2
  simp at this
  exact this.symm
 subst hv
 have hb : (setBlock w m (.map es1 clock1)).heap[m]? = some (.map es1 clock1) := by
  obtain ⟨es, clock, hb, _⟩ := hown
  exact heap_setBlock_same hb _
 obtain ⟨w4, g1, g2, g3⟩ := h5 _ ((f a t : Int) + 1) hb (InI.wf (by unfold InI; omega))
 refine ⟨st, es1, clock1, w4, h1, h4, hlk, g1, ⟨_, g2, fun x y s' hx hy hs' => ?_⟩, ((Mod.refl _ _).grown h4 (fun kk hkk => .inl (by cases hkk; simp))).grown g3 (fun kk hkk => .inl (by cases hkk; simp))⟩
 obtain ⟨es, clock, e1, e2, e3, e4⟩ := hown
 by_cases e : x = a /\ y = t
 .
  obtain ⟨rfl, rfl⟩ := e
  rw [hs] at hs'
  cases hs'
  rw [atKey_put_same ⟨_, e4⟩ (by simp [WideAt.IsKeyLit])]
  simp [updO]
 .
  rw [atKey_put_other (fun h => by
   cases h
   have := opLaw.inj hs hs'
   simp only [OKey, Value.agg.injEq, Array.mk.injEq, List.cons.injEq, Value.int.injEq, and_true, true_and] at this
   exact e ⟨this.1.symm, this.2.symm⟩), hat x y s' hx hy hs']
  simp [updO, e]
end
end Go.Proofs.YtmckfdmdkljomaaGreatDoor
