/-
  Security texts, plainly: what bytes tell.
  Security texts, read: errors.Is, of errors as chains.
  Security texts: Parse.
  The reference's blocks, built.
  The law AsbLong: its walk.
-/
import Derived.Test.YtblfmokklfhklaaDoorMAsbLongCardf
import Derived.LaidEql
import Derived.Stop.Asserts
import Derived.RowKitTokens

namespace Go.Proofs.YtblfmokklfhklaaDoor
open Go.RowKit
set_option linter.unusedVariables false
set_option linter.unusedSimpArgs false

theorem catA_congr {f g : Nat → List UInt8} {k : Nat} (h : ∀ i, i < k → f i = g i) : T.cat f k = T.cat g k := by
  induction k with
  | zero => rfl
  | succ j ih => rw [T.cat, T.cat, ih (fun i hi => h i (by omega)), h j (by omega)]
theorem all_congr {f g : Nat → Bool} {k : Nat} (h : ∀ i, i < k → f i = g i) : T.all f k = T.all g k := by
  induction k with
  | zero => rfl
  | succ j ih => rw [T.all, T.all, ih (fun i hi => h i (by omega)), h j (by omega)]
theorem sum_mono {f g : Nat → Nat} {k : Nat} (h : ∀ i, i < k → f i ≤ g i) : T.sum f k ≤ T.sum g k := by
  induction k with
  | zero => exact Nat.le_refl _
  | succ j ih => rw [T.sum, T.sum]; exact Nat.add_le_add (ih (fun i hi => h i (by omega))) (h j (by omega))
theorem kid_k {t : T} {d : Nat} (h : t.right d = true) : t.k ≤ 1000 := by
  cases t with
  | nil => exact Nat.zero_le _
  | mk kd n s op k ch =>
    show k ≤ 1000
    unfold T.right at h
    split at h
    · exact absurd h (by decide)
    · rw [Bool.and_eq_true] at h
      have h := h.1
      unfold T.node at h
      split at h
      · simp at h; omega
      · split at h
        · simp at h; omega
        · split at h
          · simp at h; omega
          · exact absurd h (by decide)
theorem kid_right {t : T} {d : Nat} (h : t.right (d + 1) = true) {i : Nat} (hi : i < t.k) : (t.ch i).right d = true := by
  cases t with
  | nil => simp [T.right] at h
  | mk kd n s op k ch =>
    unfold T.right at h
    rw [if_neg (by omega), Bool.and_eq_true, T.all_iff] at h
    exact h.2 i hi
theorem right_of_same (x : T) : ∀ {u : T} {d : Nat}, x.right d = true → x.same u = true → u.ok → u.right d = true := by
  induction x with
  | nil => intro u d h; cases h
  | mk kind n s op k ch ih =>
    intro u d h hs hu
    obtain ⟨h1, h2, h3, h4, h5, h6⟩ := same_mk hs
    cases u with
    | nil => exact absurd hu T.not_nil
    | mk kind' n' s' op' k' ch' =>
      have h1 : kind' = kind := h1
      have h2 : n' = n := h2
      have h3 : s' = s := h3
      have h4 : op' = op := h4
      have h5 : k' = k := h5
      subst h1 h2 h3 h4 h5
      unfold T.right at h ⊢
      split at h
      · exact absurd h (by decide)
      · rename_i hd
        rw [if_neg hd]
        rw [Bool.and_eq_true, T.all_iff] at h ⊢
        exact ⟨h.1, fun i hi => ih i (h.2 i hi) (h6 i hi) (by unfold T.ok at hu; exact hu.2.2.2.2 i hi)⟩
theorem kid_n {t : T} (h : t.ok) : t.n < 18446744073709551616 := by
  cases t with
  | nil => decide
  | mk kd n s op k ch => unfold T.ok at h; exact h.2.1
theorem kid_sz {t : T} (h : t.ok) : 1 ≤ t.size := by
  cases t with
  | nil => exact absurd h T.not_nil
  | mk kd n s op k ch => unfold T.size; omega
theorem kid_size {t : T} {i : Nat} (h : i < t.k) : (t.ch i).size ≤ t.size := by
  cases t with
  | nil => exact absurd h (Nat.not_lt_zero _)
  | mk kd n s op k ch => exact T.size_ch h
theorem same_five {x y : T} (h : x.same y = true) : x.kind = y.kind ∧ x.n = y.n ∧ x.s = y.s ∧ x.op = y.op ∧ x.k = y.k ∧ ∀ i, i < x.k → (x.ch i).same (y.ch i) = true := by
  cases x with
  | nil =>
    cases y with
    | nil => exact ⟨rfl, rfl, rfl, rfl, rfl, fun i hi => absurd hi (Nat.not_lt_zero _)⟩
    | mk => cases h
  | mk kind n s op k ch =>
    obtain ⟨h1, h2, h3, h4, h5, h6⟩ := same_mk h
    exact ⟨h1.symm, h2.symm, h3.symm, h4.symm, h5.symm, h6⟩

/-! Two lists, two texts, alike as far as they go. -/
structure PL.Eqv (p q : PL) : Prop where
  k : p.k = q.k
  i : ∀ i, i < p.k → (p.a i).id = (q.a i).id ∧ (p.a i).t.same (q.a i).t = true ∧ (q.a i).t.ok ∧ (q.a i).t.right 8 = true
structure AV.Eqv (a b : AV) : Prop where
  tk : a.tk = b.tk
  tg : ∀ i, i < a.tk → a.tg i = b.tg i
  ctx : a.ctx = b.ctx
  src : a.src = b.src
  ps : a.ps.Eqv b.ps
  rk : a.rk = b.rk
  rs : ∀ i, i < a.rk → (a.rs i).Eqv (b.rs i)
theorem unlikeB_congr {f g : Nat → Int} {k : Nat} (h : ∀ i, i < k → f i = g i) : unlikeB f k = unlikeB g k := by
  unfold unlikeB
  refine all_congr fun i hi => ?_
  rw [h i hi]
  congr 1
  exact all_congr fun j hj => by rw [h j (by omega)]
theorem PL.Eqv.pairs {p q : PL} (h : p.Eqv q) (hp : pairsB p = true) : pairsB q = true := by
  obtain ⟨h1, h2⟩ := pairsB_iff.1 hp
  refine pairsB_iff.2 ⟨fun i hi => ?_, ?_⟩
  · have hi : i < p.k := by rw [h.k]; exact hi
    have g := h1 i hi
    obtain ⟨_, e2, _, e4⟩ := h.i i hi
    unfold valB at g ⊢
    rw [← (same_five e2).1, e4, Bool.and_true]
    rw [Bool.and_eq_true] at g
    exact g.1
  · rw [← h.k, ← unlikeB_congr (f := fun i => (p.a i).id) (fun i hi => (h.i i hi).1)]
    exact h2
theorem PL.Eqv.bytes {p q : PL} (h : p.Eqv q) : (plT p).bytes = (plT q).bytes := by
  rw [pl_bytes, pl_bytes]
  unfold catP
  rw [← h.k]
  congr 1
  exact catA_congr fun i hi => by
    obtain ⟨e1, e2, e3, _⟩ := h.i i hi
    rw [pair_bytes, pair_bytes, e1, T.same_bytes _ _ e3 e2]
theorem AV.Eqv.shaped {a b : AV} (h : a.Eqv b) (hs : a.shaped = true) : b.shaped = true := by
  obtain ⟨h1, h3, h4, h5, h6, h7, h8, h9⟩ := AV.shaped_iff.1 hs
  refine AV.shaped_iff.2 ⟨by rw [← h.tk]; exact h1, ?_, by rw [← h.ctx]; exact h4, by rw [← h.src]; exact h5, by rw [← h.ps.k]; exact h6, h.ps.pairs h7, by rw [← h.tk, ← h.rk]; exact h8, ?_⟩
  · rw [← h.tk, ← unlikeB_congr h.tg]; exact h3
  · rw [← h.rk, T.all_iff]
    intro i hi
    obtain ⟨g1, g2⟩ := resB_iff.1 (T.all_iff.1 h9 i hi)
    exact resB_iff.2 ⟨by rw [← (h.rs i hi).k]; exact g1, (h.rs i hi).pairs g2⟩
theorem AV.Eqv.bytes {a b : AV} (h : a.Eqv b) (hk : a.rk = a.tk) : a.bytes = b.bytes := by
  rw [av_bytes hk, av_bytes (by rw [← h.rk, ← h.tk]; exact hk)]
  unfold catR15
  have e1 : preR a = preR b := by
    unfold preR catT midB
    rw [← h.tk, ← h.ctx, ← h.src, ← h.ps.k, ← h.ps.bytes, catA_congr (fun i hi => by rw [h.tg i hi])]
  rw [e1, ← h.rk]
  congr 1
  exact catA_congr fun i hi => (h.rs i hi).bytes
theorem AV.Eqv.val {a b : AV} (h : a.Eqv b) (m : AA) : asbV a m = asbV b m := by
  unfold asbV asbC
  rw [h.tk, h.ctx, h.src, h.ps.k, h.rk]
theorem IsL.same {w : World} {Q : Nat → Prop} (u : T) : ∀ {t : T} {A : Option Addr}, u.same t = true → IsL w Q t A → IsL w Q u A := by
  induction u with
  | nil =>
    intro t A h H
    cases t with
    | nil => exact H
    | mk => cases h
  | mk kind n s op k ch ih =>
    intro t A h H
    obtain ⟨h1, h2, h3, h4, h5, h6⟩ := same_mk h
    cases t with
    | nil => exact absurd H id
    | mk kind' n' s' op' k' ch' =>
      intro h0
      have h5 : k' = k := h5
      obtain ⟨b, o, hA, hb, hq, hc⟩ := H (by omega)
      refine ⟨b, o, hA, hb, hq, fun i hi => ?_⟩
      obtain ⟨Ai, ci, g1, g2⟩ := hc i (by omega)
      have e := same_five (h6 i hi)
      refine ⟨Ai, ci, ?_, ih i (h6 i hi) g2⟩
      unfold At5
      rw [e.1, e.2.1, e.2.2.1, e.2.2.2.1, e.2.2.2.2.1]
      exact g1
theorem PsL.eqv {w : World} {Q : Nat → Prop} {p q : PL} (h : p.Eqv q) {A : Option Addr} (H : PsL w Q A q) : PsL w Q A p := fun h0 => by
  obtain ⟨b, o, hA, hb, hq, hc⟩ := H (by rw [← h.k]; exact h0)
  refine ⟨b, o, hA, hb, hq, fun i hi => ?_⟩
  obtain ⟨Ai, ci, g1, g2⟩ := hc i (by rw [← h.k]; exact hi)
  obtain ⟨e1, e2, _, _⟩ := h.i i hi
  have e := same_five e2
  refine ⟨Ai, ci, ?_, IsL.same _ e2 g2⟩
  unfold At6
  rw [e1, e.1, e.2.1, e.2.2.1, e.2.2.2.1, e.2.2.2.2.1]
  exact g1
theorem AsL.wk {w : World} {Q R : Nat → Prop} {a : AV} {m : AA} (h : AsL w Q a m) (hq : ∀ k, k < w.heap.size → Q k → R k) : AsL w R a m :=
  ⟨h.t, fun b o hA h0 => by
    obtain ⟨b', o', hA', hb, _⟩ := h.t h0
    rw [hA] at hA'; cases hA'
    exact hq _ hb (h.tq b o hA h0), h.p.weak hq, h.r.weak hq⟩
theorem AsL.eqv {w : World} {Q : Nat → Prop} {a b : AV} (h : a.Eqv b) {m : AA} (H : AsL w Q b m) : AsL w Q a m := by
  refine ⟨fun h0 => ?_, fun b o hA h0 => H.tq b o hA (by rw [← h.tk]; exact h0), PsL.eqv h.ps H.p, fun h0 => ?_⟩
  · obtain ⟨b', o, hA, hb, hc⟩ := H.t (by rw [← h.tk]; exact h0)
    exact ⟨b', o, hA, hb, fun i hi => by rw [h.tg i hi]; exact hc i (by rw [← h.tk]; exact hi)⟩
  · obtain ⟨b', o, hA, hb, hq, hc⟩ := H.r (by rw [← h.rk]; exact h0)
    refine ⟨b', o, hA, hb, hq, fun i hi => ?_⟩
    obtain ⟨Ai, ci, g1, g2, g3⟩ := hc i (by rw [← h.rk]; exact hi)
    exact ⟨Ai, ci, by rw [(h.rs i hi).k]; exact g1, by rw [(h.rs i hi).k]; exact g2, PsL.eqv (h.rs i hi) g3⟩

/-! What is read of items. -/
theorem listT_kids {L : List T} {u : T} (h : (listT L).same u = true) : u.k = L.length ∧ ∀ (i : Nat) (x : T), L[i]? = some x → x.same (u.ch i) = true := by
  obtain ⟨h1, h2, h3, h4, h5, h6⟩ := same_mk h
  refine ⟨h5, fun i x hx => ?_⟩
  have hi : i < L.length := by
    rcases Nat.lt_or_ge i L.length with h | h
    · exact h
    · rw [List.getElem?_eq_none h] at hx; exact absurd hx (by simp)
  have := h6 i hi
  rw [hx] at this
  exact this
theorem min_id {n : Nat} {x : Int} (h0 : 0 ≤ x ∧ x ≤ 65535) (h : n = x.toNat) : min (n : Int) 65536 = x := by omega
theorem pl_read {p : PL} (hp : pairsB p = true) {u : T} (h : (plT p).same u = true) (hok : u.ok) : T.all (pairK u) u.k = true ∧ T.all (fun i => decide ((u.ch i).k = 2)) u.k = true ∧ p.Eqv ⟨u.k, pairP u⟩ := by
  obtain ⟨v1, v2⟩ := pairsB_iff.1 hp
  have v3 := unlikeB_coded v2
  obtain ⟨_, _, _, _, h5, h6⟩ := same_mk h
  have hk : ∀ i, i < u.k → (u.ch i).k = 2 ∧ ((u.ch i).ch 0).kind = 0 ∧ ((u.ch i).ch 0).n = (p.a i).id.toNat ∧ (p.a i).t.same ((u.ch i).ch 1) = true := fun i hi => by
    have g := listT_kids (h6 i (by omega))
    have g0 := same_five (g.2 0 _ rfl)
    exact ⟨g.1, g0.1.symm, g0.2.1.symm, g.2 1 _ rfl⟩
  refine ⟨T.all_iff.2 fun i hi => ?_, T.all_iff.2 fun i hi => ?_, h5.symm, fun i hi => ?_⟩
  · obtain ⟨g1, g2, _⟩ := hk i hi
    unfold pairK; rw [decide_eq_true g1, decide_eq_true g2]; rfl
  · exact decide_eq_true (hk i hi).1
  · have hi' : i < u.k := by omega
    obtain ⟨g1, _, g3, g4⟩ := hk i hi'
    refine ⟨(min_id (v3 i hi) g3).symm, g4, T.okc (T.okc hok hi') (by omega), right_of_same _ (valB_right (v1 i hi)) g4 (T.okc (T.okc hok hi') (by omega))⟩
/-- The reference's pairs, its text. -/
def r15P (u : T) : PL := if T.all (fun i => decide ((u.ch i).k = 2)) u.k then ⟨u.k, pairP u⟩ else ⟨0, pairP u⟩
def r15A (t : T) : AV := ⟨(t.ch 0).k, tgtN (t.ch 0), min ((t.ch 1).n : Int) 65536, readE (t.ch 3), if t.k = 6 then r15P (t.ch 4) else zeroA.ps, (t.ch (t.k - 1)).k, fun i => r15P ((t.ch (t.k - 1)).ch i)⟩
/-- A right text of these bytes. -/
def isAsb (s : List UInt8) (a : AV) : Prop := a.wf ∧ a.right = true ∧ a.bytes = s
theorem tg_read {k : Nat} {f : Nat → Int} (h3 : unlikeB f k = true) {u : T} (h : (tgT k f).same u = true) : u.k = k ∧ T.all (numK u) u.k = true ∧ ∀ i, i < k → f i = tgtN u i := by
  obtain ⟨_, _, _, _, h5, h6⟩ := same_mk h
  refine ⟨h5, T.all_iff.2 fun i hi => ?_, fun i hi => ?_⟩
  · have g := same_five (h6 i (by omega))
    exact decide_eq_true g.1.symm
  · have g := same_five (h6 i hi)
    exact (min_id (unlikeB_coded h3 i hi) g.2.1.symm).symm
theorem rs_read {k : Nat} {f : Nat → PL} (h : T.all (fun i => resB (f i)) k = true) {u : T} (hs : (rsT k f).same u = true) (hok : u.ok) : u.k = k ∧ T.all (resK u) u.k = true ∧ ∀ i, i < k → (f i).Eqv (resP u i) ∧ (f i).Eqv (r15P (u.ch i)) := by
  obtain ⟨_, _, _, _, h5, h6⟩ := same_mk hs
  have hh : ∀ i, i < u.k → T.all (pairK (u.ch i)) (u.ch i).k = true ∧ T.all (fun j => decide (((u.ch i).ch j).k = 2)) (u.ch i).k = true ∧ (f i).Eqv ⟨(u.ch i).k, pairP (u.ch i)⟩ := fun i hi =>
    pl_read (resB_iff.1 (T.all_iff.1 h i (by omega))).2 (h6 i (by omega)) (T.okc hok hi)
  refine ⟨h5, T.all_iff.2 fun i hi => (hh i hi).1, fun i hi => ?_⟩
  have g := hh i (by omega)
  refine ⟨g.2.2, ?_⟩
  unfold r15P
  rw [g.2.1]
  exact g.2.2
set_option maxRecDepth 20000 in
theorem rd_of {a : AV} (hs : a.shaped = true) {t : T} (hc : ∀ i, i < t.k → (t.ch i).ok ∧ (t.ch i).right 8 = true) (hk : t.k = a.items.length) (hx : ∀ (i : Nat) (x : T), a.items[i]? = some x → x.same (t.ch i) = true) : rdOK t = true ∧ a.Eqv (rdA t) ∧ a.Eqv (r15A t) := by
  obtain ⟨h1, h3, h4, h5, h6, h7, h8, h9⟩ := AV.shaped_iff.1 hs
  have hct := codedB_iff.1 h4
  have hname : ∀ u : T, u.ok → u.right 8 = true → (eidT a.src).same u = true → readE u = a.src ∧ ofB u = true := fun u hok hr hsm => prev_tree hr hok ⟨h5, T.same_bytes _ _ hok hsm⟩
  have hres : ∀ u : T, u.ok → u.right 8 = true → (rsT a.rk a.rs).same u = true → u.k = a.rk ∧ T.all (resK u) u.k = true ∧ ∀ i, i < a.rk → (a.rs i).Eqv (resP u i) ∧ (a.rs i).Eqv (r15P (u.ch i)) := fun u hok hr hsm => rs_read h9 hsm hok
  by_cases hp : a.ps.k = 0
  · have hI : a.items = [tgT a.tk a.tg, numT a.ctx.toNat, numT 0, eidT a.src, rsT a.rk a.rs] := by unfold AV.items; rw [if_pos hp]
    rw [hI] at hk hx
    have hk : t.k = 5 := hk
    obtain ⟨k0, n0, f0⟩ := tg_read h3 (hx 0 _ rfl)
    have n1 := same_five (hx 1 _ rfl)
    have hk1 : (t.ch 1).kind = 0 := n1.1.symm
    have c3 := hc 3 (by omega)
    have c4 := hc 4 (by omega)
    obtain ⟨e3, o3⟩ := hname _ c3.1 c3.2 (hx 3 _ rfl)
    obtain ⟨k4, r4, f4⟩ := hres _ c4.1 c4.2 (hx 4 _ rfl)
    have hn6 : ¬ t.k = 6 := by omega
    have hctx : a.ctx = min ((t.ch 1).n : Int) 65536 := (min_id hct n1.2.1.symm).symm
    have hps : a.ps.Eqv zeroA.ps := ⟨hp, fun i hi => by omega⟩
    have hl : t.k - 1 = 4 := by omega
    refine ⟨?_, ?_, ?_⟩
    · unfold rdOK
      rw [hl, n0, o3, r4, decide_eq_true hk, decide_eq_true hk1]
      simp
    · refine ⟨k0.symm, f0, hctx, e3.symm, ?_, ?_, ?_⟩
      · show a.ps.Eqv (if t.k = 6 then _ else _)
        rw [if_neg hn6]; exact hps
      · show a.rk = (t.ch (t.k - 1)).k
        rw [hl]; exact k4.symm
      · show ∀ i, i < a.rk → (a.rs i).Eqv (resP (t.ch (t.k - 1)) i)
        rw [hl]; exact fun i hi => (f4 i hi).1
    · refine ⟨k0.symm, f0, hctx, e3.symm, ?_, ?_, ?_⟩
      · show a.ps.Eqv (if t.k = 6 then _ else _)
        rw [if_neg hn6]; exact hps
      · show a.rk = (t.ch (t.k - 1)).k
        rw [hl]; exact k4.symm
      · show ∀ i, i < a.rk → (a.rs i).Eqv (r15P ((t.ch (t.k - 1)).ch i))
        rw [hl]; exact fun i hi => (f4 i hi).2
  · have hI : a.items = [tgT a.tk a.tg, numT a.ctx.toNat, numT 1, eidT a.src, plT a.ps, rsT a.rk a.rs] := by unfold AV.items; rw [if_neg hp]
    rw [hI] at hk hx
    have hk : t.k = 6 := hk
    obtain ⟨k0, n0, f0⟩ := tg_read h3 (hx 0 _ rfl)
    have n1 := same_five (hx 1 _ rfl)
    have hk1 : (t.ch 1).kind = 0 := n1.1.symm
    have c3 := hc 3 (by omega)
    have c4 := hc 4 (by omega)
    have c5 := hc 5 (by omega)
    obtain ⟨e3, o3⟩ := hname _ c3.1 c3.2 (hx 3 _ rfl)
    obtain ⟨p4, q4, f4⟩ := pl_read h7 (hx 4 _ rfl) c4.1
    obtain ⟨k5, r5, f5⟩ := hres _ c5.1 c5.2 (hx 5 _ rfl)
    have hctx : a.ctx = min ((t.ch 1).n : Int) 65536 := (min_id hct n1.2.1.symm).symm
    have hl : t.k - 1 = 5 := by omega
    refine ⟨?_, ?_, ?_⟩
    · unfold rdOK
      rw [hl, n0, o3, r5, p4, decide_eq_true hk, decide_eq_true hk1]
      simp
    · refine ⟨k0.symm, f0, hctx, e3.symm, ?_, ?_, ?_⟩
      · show a.ps.Eqv (if t.k = 6 then _ else _)
        rw [if_pos hk]; exact f4
      · show a.rk = (t.ch (t.k - 1)).k
        rw [hl]; exact k5.symm
      · show ∀ i, i < a.rk → (a.rs i).Eqv (resP (t.ch (t.k - 1)) i)
        rw [hl]; exact fun i hi => (f5 i hi).1
    · refine ⟨k0.symm, f0, hctx, e3.symm, ?_, ?_, ?_⟩
      · show a.ps.Eqv (if t.k = 6 then _ else _)
        rw [if_pos hk]
        unfold r15P
        rw [q4]; exact f4
      · show a.rk = (t.ch (t.k - 1)).k
        rw [hl]; exact k5.symm
      · show ∀ i, i < a.rk → (a.rs i).Eqv (r15P ((t.ch (t.k - 1)).ch i))
        rw [hl]; exact fun i hi => (f5 i hi).2
/-! Of the text that is read: its numbers; its size. -/
theorem pr_wf {u : T} (hok : u.ok) (hk : u.k ≤ 1000) (h2 : ∀ i, i < u.k → (u.ch i).k = 2) : PL.wf ⟨u.k, pairP u⟩ := by
  refine ⟨by show u.k < _; omega, fun i hi => ⟨?_, ?_⟩⟩
  · exact T.okc (T.okc hok hi) (by rw [h2 i hi]; omega)
  · have := kid_n (T.okc (T.okc hok hi) (i := 0) (by rw [h2 i hi]; omega))
    show -9223372036854775808 ≤ min (((u.ch i).ch 0).n : Int) 65536 ∧ min (((u.ch i).ch 0).n : Int) 65536 ≤ 9223372036854775807
    omega
theorem pr_size {u : T} (hok : u.ok) (h2 : ∀ i, i < u.k → (u.ch i).k = 2) : (plT ⟨u.k, pairP u⟩).size ≤ u.size := by
  have hm : ∀ i, i < u.k → (pairT (pairP u i)).size ≤ (u.ch i).size := fun i hi => by
    have hc := T.okc hok hi
    have h0 := kid_sz (T.okc hc (i := 0) (by rw [h2 i hi]; omega))
    rw [pair_size]
    show 2 + ((u.ch i).ch 1).size ≤ _
    have hk := h2 i hi
    generalize u.ch i = v at *
    cases v with
    | nil => exact absurd hc T.not_nil
    | mk kd n s op k ch =>
      have hk : k = 2 := hk
      subst hk
      have e : (T.mk kd n s op 2 ch).size = 1 + s.length + (0 + (ch 0).size + (ch 1).size) := rfl
      have e1 : (T.mk kd n s op 2 ch).ch 1 = ch 1 := rfl
      have e0 : (T.mk kd n s op 2 ch).ch 0 = ch 0 := rfl
      rw [e0] at h0
      rw [e, e1]
      omega
  cases u with
  | nil => exact absurd hok T.not_nil
  | mk kd n s op k ch =>
    have := sum_mono (k := k) (f := fun i => (pairT (pairP (T.mk kd n s op k ch) i)).size) (g := fun i => (ch i).size) hm
    unfold plT T.size
    show 1 + 0 + T.sum (fun i => (pairT (pairP (T.mk kd n s op k ch) i)).size) k ≤ _
    omega
theorem p15_wf {u : T} (hok : u.ok) (hk : u.k ≤ 1000) : (r15P u).wf := by
  unfold r15P
  split
  · rename_i h
    exact pr_wf hok hk fun i hi => by simpa using T.all_iff.1 h i hi
  · exact ⟨by show 0 < _; omega, fun i hi => absurd hi (Nat.not_lt_zero _)⟩
theorem p15_size {u : T} (hok : u.ok) : (plT (r15P u)).size ≤ u.size := by
  unfold r15P
  split
  · rename_i h
    exact pr_size hok fun i hi => by simpa using T.all_iff.1 h i hi
  · have := kid_sz hok
    exact this
theorem rs_size {u : T} (hok : u.ok) {f : Nat → PL} (h : ∀ i, i < u.k → (plT (f i)).size ≤ (u.ch i).size) : (rsT u.k f).size ≤ u.size := by
  cases u with
  | nil => exact absurd hok T.not_nil
  | mk kd n s op k ch =>
    have := sum_mono (k := k) (f := fun i => (plT (f i)).size) (g := fun i => (ch i).size) h
    unfold rsT T.size
    show 1 + 0 + T.sum (fun i => (plT (f i)).size) k ≤ _
    omega
theorem pairK_two {u : T} (h : T.all (pairK u) u.k = true) : ∀ i, i < u.k → (u.ch i).k = 2 := fun i hi => by
  have := T.all_iff.1 h i hi
  unfold pairK at this
  simp at this
  exact this.1
structure Kids (t : T) : Prop where
  k : t.k = 5 ∨ t.k = 6
  o : ∀ i, i < t.k → (t.ch i).ok
  r : ∀ i, i < t.k → (t.ch i).right 8 = true
  s : ∀ i, i < t.k → (t.ch i).size ≤ 100000
theorem Kids.name {t : T} (h : Kids t) (hb : ofB (t.ch 3) = true) : (readE (t.ch 3)).name.length < 4611686018427387904 := by
  unfold ofB at hb
  rw [Bool.and_eq_true] at hb
  rcases EV.ok_cases hb.1 with e | ⟨name, e, _, hl⟩ | ⟨node, svc, e, _, _⟩
  · rw [e]; decide
  · rw [e]; show name.length < _; omega
  · rw [e]; show 0 < _; omega
theorem Kids.wf0 {t : T} (h : Kids t) (hb : ofB (t.ch 3) = true) {a : AV} (htk : a.tk = (t.ch 0).k) (htg : a.tg = tgtN (t.ch 0)) (hctx : a.ctx = min ((t.ch 1).n : Int) 65536) (hsrc : a.src = readE (t.ch 3)) (hps : a.ps.wf) (hrk : a.rk = (t.ch (t.k - 1)).k) (hrs : ∀ i, i < a.rk → (a.rs i).wf) : a.wf := by
  have hk := h.k
  have k0 := kid_k (h.r 0 (by omega))
  have kl := kid_k (h.r (t.k - 1) (by omega))
  have n1 := kid_n (h.o 1 (by omega))
  refine ⟨⟨by omega, fun i hi => ?_⟩, by omega, by rw [hsrc]; exact h.name hb, hps, by omega, hrs⟩
  have := kid_n (T.okc (h.o 0 (by omega)) (i := i) (by omega))
  rw [htg]
  show -9223372036854775808 ≤ min (((t.ch 0).ch i).n : Int) 65536 ∧ min (((t.ch 0).ch i).n : Int) 65536 ≤ 9223372036854775807
  omega
theorem Kids.kk {t : T} (h : Kids t) {i j : Nat} (hi : i < t.k) (hj : j < (t.ch i).k) : ((t.ch i).ch j).k ≤ 1000 := kid_k (kid_right (d := 7) (h.r i hi) hj)
theorem Kids.wf15 {t : T} (h : Kids t) (hb : ofB (t.ch 3) = true) : (r15A t).wf := by
  have hk := h.k
  refine h.wf0 hb rfl rfl rfl rfl ?_ rfl fun i hi => ?_
  · show PL.wf (if t.k = 6 then _ else _)
    split
    · exact p15_wf (h.o 4 (by omega)) (kid_k (h.r 4 (by omega)))
    · exact ⟨by decide, fun i hi => absurd hi (Nat.not_lt_zero _)⟩
  · have hi : i < (t.ch (t.k - 1)).k := hi
    exact p15_wf (T.okc (h.o (t.k - 1) (by omega)) hi) (h.kk (by omega) hi)
theorem Kids.small15 {t : T} (h : Kids t) : (r15A t).small := by
  have hk := h.k
  constructor
  · show (plT (if t.k = 6 then _ else _)).size ≤ _
    split
    · exact Nat.le_trans (p15_size (h.o 4 (by omega))) (h.s 4 (by omega))
    · decide
  · exact Nat.le_trans (rs_size (h.o (t.k - 1) (by omega)) fun i hi => p15_size (T.okc (h.o (t.k - 1) (by omega)) hi)) (h.s _ (by omega))
theorem rdOK_iff {t : T} (h : rdOK t = true) : (t.k = 5 ∨ t.k = 6) ∧ ofB (t.ch 3) = true ∧ (t.k = 6 → T.all (pairK (t.ch 4)) (t.ch 4).k = true) ∧ T.all (resK (t.ch (t.k - 1))) (t.ch (t.k - 1)).k = true := by
  unfold rdOK at h
  simp only [Bool.and_eq_true, Bool.or_eq_true, decide_eq_true_eq] at h
  obtain ⟨⟨⟨⟨⟨h1, h2⟩, h3⟩, h4⟩, h5⟩, h6⟩ := h
  exact ⟨h1, h4, fun g => h5.resolve_left (by omega), h6⟩
theorem Kids.wf {t : T} (h : Kids t) (hb : rdOK t = true) : (rdA t).wf := by
  have hk := h.k
  obtain ⟨_, h2, h3, h4⟩ := rdOK_iff hb
  refine h.wf0 h2 rfl rfl rfl rfl ?_ rfl fun i hi => ?_
  · show PL.wf (if t.k = 6 then _ else _)
    split
    · rename_i h6
      exact pr_wf (h.o 4 (by omega)) (kid_k (h.r 4 (by omega))) (pairK_two (h3 h6))
    · exact ⟨by decide, fun i hi => absurd hi (Nat.not_lt_zero _)⟩
  · have hi : i < (t.ch (t.k - 1)).k := hi
    exact pr_wf (T.okc (h.o (t.k - 1) (by omega)) hi) (h.kk (by omega) hi) (pairK_two (T.all_iff.1 h4 i hi))
theorem Kids.small {t : T} (h : Kids t) (hb : rdOK t = true) : (rdA t).small := by
  have hk := h.k
  obtain ⟨_, h2, h3, h4⟩ := rdOK_iff hb
  constructor
  · show (plT (if t.k = 6 then _ else _)).size ≤ _
    split
    · rename_i h6
      exact Nat.le_trans (pr_size (h.o 4 (by omega)) (pairK_two (h3 h6))) (h.s 4 (by omega))
    · decide
  · exact Nat.le_trans (rs_size (h.o (t.k - 1) (by omega)) fun i hi => pr_size (T.okc (h.o (t.k - 1) (by omega)) hi) (pairK_two (T.all_iff.1 h4 i hi))) (h.s _ (by omega))

/-! The items between the bytes that open and close them. -/
def wrapT (L : List T) : T := .mk 4 0 [] true L.length fun i => (L[i]?).getD T.nil
theorem cat_list (L : List T) : T.cat (fun i => ((L[i]?).getD T.nil).bytes) L.length = (L.map T.bytes).flatten := by
  have : ∀ j, j ≤ L.length → T.cat (fun i => ((L[i]?).getD T.nil).bytes) j = catL L j := by
    intro j hj
    induction j with
    | zero => rfl
    | succ j ih => rw [T.cat, ih (by omega), catL_succ (by omega)]; rfl
  rw [this _ (Nat.le_refl _)]
  unfold catL
  rw [List.take_length]
theorem wrap_bytes (L : List T) : (wrapT L).bytes = 159 :: ((L.map T.bytes).flatten ++ [255]) := by
  unfold wrapT T.bytes
  rw [if_neg (by decide), if_neg (by decide), cat_list]
  rfl
theorem wrap_ok {L : List T} (h : ∀ t ∈ L, t.ok) (hl : L.length ≤ 1000) : (wrapT L).ok := by
  unfold wrapT T.ok
  refine ⟨by omega, by omega, by simp, by omega, fun i hi => ?_⟩
  show ((L[i]?).getD T.nil).ok
  rw [List.getElem?_eq_getElem hi]
  exact h _ (List.getElem_mem _)
theorem wrap_right {L : List T} {d : Nat} (h : ∀ t ∈ L, t.right d = true) (hl : L.length ≤ 1000) : (wrapT L).right (d + 1) = true := by
  unfold wrapT T.right
  rw [if_neg (by omega), Bool.and_eq_true, T.all_iff]
  refine ⟨by simp [T.node, hl], fun i hi => ?_⟩
  show ((L[i]?).getD T.nil).right d = true
  rw [List.getElem?_eq_getElem hi]
  exact h _ (List.getElem_mem _)
theorem wrap_kids {L : List T} {t : T} (h : (wrapT L).same t = true) : t.k = L.length ∧ ∀ (i : Nat) (x : T), L[i]? = some x → x.same (t.ch i) = true := by
  obtain ⟨h1, h2, h3, h4, h5, h6⟩ := same_mk h
  refine ⟨h5, fun i x hx => ?_⟩
  have hi : i < L.length := by
    rcases Nat.lt_or_ge i L.length with h | h
    · exact h
    · rw [List.getElem?_eq_none h] at hx; exact absurd hx (by simp)
  have := h6 i hi
  rw [hx] at this
  exact this
theorem items_seven {a : AV} (hw : a.wf) (h : a.shaped = true) : (∀ t ∈ a.items, t.ok ∧ t.right 7 = true) ∧ (a.items.length = 5 ∨ a.items.length = 6) := by
  obtain ⟨⟨h1, h2⟩, h3, h4, h5, h6, h7, h8, h9⟩ := AV.shaped_iff.1 h
  obtain ⟨w1, w2, w3, w4, w5, w6⟩ := hw
  have c := codedB_iff.1 h4
  have ntg : (tgT a.tk a.tg).ok ∧ (tgT a.tk a.tg).right 7 = true := ⟨tg_ok (by omega) h3, tg_right (by omega) (by omega) h3⟩
  have nn : ∀ n, n ≤ 65535 → (numT n).ok ∧ (numT n).right 7 = true := fun n hn => by
    have := numT_all n (by omega)
    exact ⟨this.1, this.2.1 7 (by omega)⟩
  have ne : (eidT a.src).ok ∧ (eidT a.src).right 7 = true := by
    have := eidT_ok h5
    exact ⟨this.1, this.2.1 7 (by omega)⟩
  have np : (plT a.ps).ok ∧ (plT a.ps).right 7 = true := ⟨pl_ok w4 h7, pl_right (by omega) (by omega) h7⟩
  have nr : (rsT a.rk a.rs).ok ∧ (rsT a.rk a.rs).right 7 = true := ⟨rs_ok (by omega) w6 h9, rs_right (by omega) (by omega) h9⟩
  unfold AV.items
  split
  · refine ⟨fun t ht => ?_, .inl rfl⟩
    simp only [List.mem_cons, List.not_mem_nil, or_false] at ht
    rcases ht with rfl | rfl | rfl | rfl | rfl
    · exact ntg
    · exact nn _ (by omega)
    · exact nn _ (by omega)
    · exact ne
    · exact nr
  · refine ⟨fun t ht => ?_, .inr rfl⟩
    simp only [List.mem_cons, List.not_mem_nil, or_false] at ht
    rcases ht with rfl | rfl | rfl | rfl | rfl | rfl
    · exact ntg
    · exact nn _ (by omega)
    · exact nn _ (by omega)
    · exact ne
    · exact np
    · exact nr
structure Kids0 (t : T) (a : AV) : Prop where
  o : rdOK t = true
  e : a.Eqv (rdA t)
  q : a.Eqv (r15A t)
  s : a.shaped = true
/-- A tree that the wrapped bytes are, and a right text of these bytes: it is what is read. -/
theorem isAsb_tree {s : List UInt8} {a : AV} (h : isAsb s a) {t : T} (hok : t.ok) (hr : t.right 9 = true) (hb : t.bytes = 159 :: (s ++ [255])) : Kids0 t a := by
  obtain ⟨h1, h2, h3⟩ := h
  have hsh : a.shaped = true := by
    unfold AV.right at h2
    rw [Bool.and_eq_true] at h2
    exact h2.1
  obtain ⟨i1, i2⟩ := items_seven h1 hsh
  have wr := wrap_right (fun t ht => (i1 t ht).2) (by omega)
  have hs := bytes_same (T.plain_of wr) (T.plain_of hr) (wrap_ok (fun t ht => (i1 t ht).1) (by omega)) hok (by rw [wrap_bytes, hb, ← h3]; rfl)
  obtain ⟨k1, k2⟩ := wrap_kids hs
  have := rd_of hsh (fun i hi => ⟨T.okc hok hi, kid_right (d := 8) hr hi⟩) k1 k2
  exact ⟨this.1, this.2.1, this.2.2, hsh⟩
end Go.Proofs.YtblfmokklfhklaaDoor


namespace Go.Proofs.YtblfmokklfhklaaDoor
open Go.RowKit Go.Extern.Stop Go.Stop Go.Extern
set_option linter.unusedVariables false
set_option linter.unusedSimpArgs false

theorem isTypeOf (v : Value) (w : World) : (Extern.ReflectliteType.typeOf #[.iface 139 v]).run Tryd.prog w = .ok (.iface 118 (.agg #[.pointer (some ⟨1, 139, none⟩)])) w := by kernel_rfl
def cmpE : Array Value → Sem Value := Extern.ReflectliteType.method fun t => do Extern.Rtype.noPackHeld "Comparable" t; pure (.bool (← typeInfo t).comparable)
theorem isComparable (w : World) : (cmpE #[.agg #[.pointer (some ⟨1, 139, none⟩)]]).run Tryd.prog w = .ok (.bool true) w := by kernel_rfl
theorem isMethodComparable (v : Value) (w : World) : (Go.method 273 118 v "Comparable").run Tryd.prog w = .ok (103, v) w := by kernel_rfl
theorem isComp : (Tryd.prog.info? 139).map (·.comparable) = some true := by kernel_rfl
theorem isSize : (Tryd.prog.info? 163).map (·.size) = some 1 := by kernel_rfl
theorem noIsR (v : Value) (xT : TypeId) (w : World) : (Instr.typeAssert (.iface 100 v) xT 120 true).run Tryd.prog w = .ok (.tuple #[.nilIface, .bool false]) w := run_typeAssert_lacksB Tryd.underlying120 (by kernel_rfl) (by kernel_rfl) v xT w
theorem hasUnwrapR (v : Value) (xT : TypeId) (w : World) : (Instr.typeAssert (.iface 100 v) xT 122 true).run Tryd.prog w = .ok (.tuple #[.iface 100 v, .bool true]) w := run_typeAssert_hasB Tryd.underlying122 (by kernel_rfl) v xT w
theorem methodUnwrap (v : Value) (w : World) : (Go.method 273 100 v "Unwrap").run Tryd.prog w = .ok (99, v) w := by kernel_rfl
/-- What is read, unwrapped. -/
theorem unwrap_any (s : List UInt8) (v : Value) (hv : v.oneCell' = true) (w : World) : Calls Tryd.prog 99 #[.agg #[str s, v]] w (Ret v w) := by
  have HE := hid ((Mod.refl [] w).alloc (.cells #[str s, v] 100))
  have HB := hid (Blk.new w 100 #[str s, v])
  have c1 : (w.alloc (.cells #[str s, v] 100)).cell? ⟨w.heap.size, 1, none⟩ = some v := HB.out.cell 1
  go_enter Tryd.func99, Tryd.ntmps99
  go_wp2_with fail
  go_ret
  exact Ret.mk rfl HE.out
theorem errV_one (eb : Addr) (l : List (List UInt8)) : (errV eb l).oneCell' = true := by
  cases l <;> rfl
set_option maxRecDepth 20000 in
set_option maxHeartbeats 4000000 in
theorem is_any (eb : Addr) (l : List (List UInt8)) (w : World) : Calls Tryd.prog 55 #[errV eb l, .iface 139 (.pointer (some eb)), .bool true] w (Ret (.bool true) w) := by
  obtain ⟨i, hi, hcmp⟩ := Option.map_eq_some_iff.1 isComp
  obtain ⟨j, hj, hjs⟩ := Option.map_eq_some_iff.1 isSize
  have HSM := hid (fun W => run_eql_iface_ptr_same (P := Tryd.prog) W eb Tryd.underlying55 Tryd.underlying139 hi hcmp hj)
  have HTY := hid (fun v W => run_eql_iface_types (P := Tryd.prog) 100 139 v (.pointer (some eb)) Tryd.underlying55 (by decide) W)
  have HL0 : Hid (l.length + 1 ≤ l.length + 1) := hid (Nat.le_refl _)
  have KU := hid (fun s v hv W => unwrap_any s v hv W)
  clear hi hcmp hj hjs i j
  go_enter Tryd.func55, Tryd.ntmps55
  go_upto_region 1 with fail
  go_loopg [0] (l.length + 1) (fun k s0 wr => ∃ l' : List (List UInt8), s0 = errV eb l' ∧ Hid (l'.length + 1 ≤ k ∧ Ext w wr))
  case atStart => exact ⟨l, rfl, (show Hid _ from ⟨Nat.le_refl _, Mod.refl _ _⟩)⟩
  case round =>
    obtain ⟨l', rfl, hS⟩ := hrel
    rename World => wr
    cases l' with
    | nil =>
      have hsm := HSM.out wr
      have hE : errV eb [] = .iface 139 (.pointer (some eb)) := rfl
      rw [hE]
      clear hE
      go_wp2_with fail
      go_ret
      exact Ret.mk rfl hS.out.2
    | cons s l' =>
      have hty := HTY.out (.agg #[str s, errV eb l']) wr
      have KU1 := hid (KU.out s (errV eb l') (errV_one eb l'))
      have hn := noIsR
      have hu := hasUnwrapR
      have hm := methodUnwrap
      obtain ⟨E1, hE1⟩ : ∃ E1, errV eb l' = E1 := ⟨_, rfl⟩
      have HE1 := hid hE1
      have hE : errV eb (s :: l') = .iface 100 (.agg #[str s, E1]) := by rw [← hE1]; rfl
      rw [hE1] at KU1
      rw [hE]
      rw [hE1] at hty
      clear hE hE1
      obtain ⟨tx, vx, hv⟩ : ∃ tx vx, E1 = .iface tx vx := by
        rw [← HE1.out]
        cases l' with
        | nil => exact ⟨_, _, rfl⟩
        | cons s l => exact ⟨_, _, rfl⟩
      subst hv
      go_wp2_with (go_at_call 99; refine (KU1.out _).mono ?_; rintro x w1 ⟨rfl, hb⟩; have HX := hid hb; clear hb)
      go_roundg (l'.length + 1)
      case rel => exact ⟨l', HE1.out.symm, (show Hid _ from ⟨Nat.le_refl _, hS.out.2.trans HX.out⟩)⟩
      case measure => have := hS.out.1; simp at this; omega
theorem errorsIs_any (eb : Addr) (l : List (List UInt8)) (w : World) : Calls Tryd.prog 32 #[errV eb l, .iface 139 (.pointer (some eb))] w (Ret (.bool true) w) := by
  have h8 := @run_callFunc_extern Tryd.prog 54 _ Extern.ReflectliteType.typeOf Tryd.func54 (by kernel_rfl) (by kernel_rfl) (by kernel_rfl) (by kernel_rfl)
  have h32 := @run_callFunc_extern Tryd.prog 103 _ cmpE Tryd.func103 (by kernel_rfl) (by kernel_rfl) (by kernel_rfl) (by kernel_rfl)
  have tT := isTypeOf
  have cT := isComparable
  have mR := isMethodComparable
  have KI := hid (is_any eb l)
  obtain ⟨tx, vx, hv⟩ : ∃ tx vx, errV eb l = .iface tx vx := by
    cases l with
    | nil => exact ⟨_, _, rfl⟩
    | cons s l => exact ⟨_, _, rfl⟩
  rw [hv] at KI ⊢
  clear hv
  go_enter Tryd.func32, Tryd.ntmps32
  go_wp2_with (go_at_call 55; refine (KI.out _).mono ?_; rintro x w1 ⟨rfl, hb⟩; have HX := hid hb; clear hb)
  go_ret
  exact Ret.mk rfl HX.out
theorem errorsIs_nil (eb : Addr) (w : World) : Calls Tryd.prog 32 #[.nilIface, .iface 139 (.pointer (some eb))] w (Ret (.bool false) w) := by
  have hn := run_eql_iface_nil_left (P := Tryd.prog) w 139 (.pointer (some eb)) Tryd.underlying55
  go_enter Tryd.func32, Tryd.ntmps32
  go_wp2_with fail
  go_ret
  exact Ret.mk rfl (Mod.refl _ _)
end Go.Proofs.YtblfmokklfhklaaDoor


namespace Go.Proofs.YtblfmokklfhklaaDoor
open Go.RowKit
set_option linter.unusedVariables false
set_option linter.unusedSimpArgs false

set_option maxRecDepth 20000 in
set_option maxHeartbeats 4000000 in
theorem areadN_any {X : Nat → Prop} (t : T) (h5 : t.k ≠ 5) (h6 : t.k ≠ 6) (hk : t.k ≤ 1000) (A : Option Addr) (c : Nat) (eb : Addr) (w : World) (hf : FormAt w eb) : Calls Tryd.prog 17 #[.slice A t.k c] w (RdPost X t eb w) := by
  have HNO : Hid (rdOK t = false) := hid (by unfold rdOK; rw [decide_eq_false h5, decide_eq_false h6]; simp)
  have HE := hid ((Mod.refl [] w).alloc (.cells #[.slice none 0 0, .int .i64 0, .int .i64 0, .string ⟨#[]⟩, .int .u64 0, .int .u64 0, .slice none 0 0, .slice none 0 0] 31))
  have HB0 : Hid (Blk (w.alloc (.cells #[.slice none 0 0, .int .i64 0, .int .i64 0, .string ⟨#[]⟩, .int .u64 0, .int .u64 0, .slice none 0 0, .slice none 0 0] 31)) w.heap.size 31 (asbC zeroA zeroM)) := hid (Blk.new w 31 #[.slice none 0 0, .int .i64 0, .int .i64 0, .string ⟨#[]⟩, .int .u64 0, .int .u64 0, .slice none 0 0, .slice none 0 0])
  have HFM := hid (fun W (hW : Ext w W) => hf.ext hW)
  have t1a : (((t.k : Int)) == (5)) = false := by rw [beq_eq_false_iff_ne]; omega
  have t1b : (((t.k : Int)) = (5)) = False := eq_false (by omega)
  have t1c : (((t.k : Int)) != (5)) = true := by rw [bne_iff_ne]; omega
  have t2a : (((t.k : Int)) == (6)) = false := by rw [beq_eq_false_iff_ne]; omega
  have t2b : (((t.k : Int)) = (6)) = False := eq_false (by omega)
  have t2c : (((t.k : Int)) != (6)) = true := by rw [bne_iff_ne]; omega
  have t3a : ((t.k) == (5)) = false := by rw [beq_eq_false_iff_ne]; exact h5
  have t3b : ((t.k) = (5)) = False := eq_false (by exact h5)
  have t3c : ((t.k) != (5)) = true := by rw [bne_iff_ne]; exact h5
  have t4a : ((t.k) == (6)) = false := by rw [beq_eq_false_iff_ne]; exact h6
  have t4b : ((t.k) = (6)) = False := eq_false (by exact h6)
  have t4c : ((t.k) != (6)) = true := by rw [bne_iff_ne]; exact h6
  have k0 : (t.k : Int) ≤ 1000 := by omega
  clear h5 h6 hf hk
  go_enter Tryd.func17, Tryd.ntmps17
  go_upto_region 1 with fail
  generalize w.alloc (.cells #[.slice none 0 0, .int .i64 0, .int .i64 0, .string ⟨#[]⟩, .int .u64 0, .int .u64 0, .slice none 0 0, .slice none 0 0] 31) = V at *
  have HZC := hid (ZC.mk' zeroA zeroM)
  obtain ⟨zc, hzc⟩ : ∃ zc, asbC zeroA zeroM = zc := ⟨_, rfl⟩
  have HBZ : Hid (Blk V w.heap.size 31 zc) := hid (by rw [← hzc]; exact HB0.out)
  rw [hzc] at HZC
  clear hzc HB0
  go_upto_region 2 with fail
  have KW : Hid (∀ W, Ext w W → Calls Tryd.prog 26 #[str [105, 116, 101, 109, 115]] W (Ret (.iface 100 (.agg #[str [105, 116, 101, 109, 115], FormV eb])) W)) := hid (fun W hW => wrong_any [105, 116, 101, 109, 115] eb W (HFM.out _ hW))
  refine wp_region_held_drew (S := fun w' => Ext w w' ∧ Blk w' w.heap.size 31 zc) (by kernel_rfl) ⟨HE.out.drew, HBZ.out.drew⟩ (fun hHeld => ?_)
  generalize V.drew = y0 at *
  refine wpAnyH_take (i := 0) rfl (by kernel_rfl) (by kernel_rfl) (by kernel_rfl) (fun _ _ _ h => h) (yieldsIf_row (by rfl) 31 _ rfl _ rfl (fun W hM => hM.2) Tryd.underlying31 rfl HZC.out.i) hHeld ?_
  (try simp only [Act.put, List.getElem_toArray, List.getElem_cons_zero, List.getElem_cons_succ, List.setIfInBounds_toArray, List.set_cons_zero, List.set_cons_succ])
  refine wpAnyH_ready (rs := [1]) (by kernel_rfl) (by simp) ?_
  refine AllReadyH.cons rfl (fun K hK => ?_) AllReadyH.nil
  go_simp
  go_at_call 26
  refine (KW.out _ hHeld.1).mono ?_
  rintro x y1 ⟨rfl, hb⟩
  refine hK.out _ _ ⟨hHeld.1.trans hb, hHeld.2.ext hb⟩ (fun hHeld => ?_)
  clear hK K
  (try simp only [Act.put, List.getElem_toArray, List.getElem_cons_zero, List.getElem_cons_succ, List.setIfInBounds_toArray, List.set_cons_zero, List.set_cons_succ])
  refine wpAnyH_ready (rs := [2]) (by kernel_rfl) (by simp) ?_
  refine AllReadyH.cons rfl (fun K hK => ?_) AllReadyH.nil
  refine wp_store_mid 31 _ _ rfl w.heap.size 0 zc (by rfl) (by rfl) (hHeld.2.there (by rw [HZC.out.s]; exact Nat.le_refl 8)) HZC.out.i HZC.out.o ?_
  have hYB := setCells_all (ds := zc) hHeld.2 (Array.length_toList ..)
  have hYM := setCells_mod (b := w.heap.size) (zc : Array Value).toList 0 hHeld.1 (.inr (by omega))
  generalize hZ : World.setCells _ _ 0 _ = y2 at *
  clear hZ
  refine hK.out _ _ ⟨hYM, hYB⟩ (fun hHeld => ?_)
  clear hK K
  (try simp only [Act.put, List.getElem_toArray, List.getElem_cons_zero, List.getElem_cons_succ, List.setIfInBounds_toArray, List.set_cons_zero, List.set_cons_succ])
  refine' wpAnyH_take (i := 3) (v := _) rfl (by kernel_rfl) (by kernel_rfl) (by kernel_rfl) (fun _ _ _ h => h) (Or.inl ⟨by rfl, ?hy1⟩) hHeld ?rest1
  case hy1 => (rintro W hM; go_simp; (try with_reducible rfl))
  case rest1 =>
  (try simp only [Act.put, List.getElem_toArray, List.getElem_cons_zero, List.getElem_cons_succ, List.setIfInBounds_toArray, List.set_cons_zero, List.set_cons_succ])
  refine wpAnyH_done (by kernel_rfl) ?_ _
  clear hYB hYM
  go_wp2_with fail
  refine bodyPost_ret (results_cell2 rfl _ (by rfl) (by rfl) hHeld.2 Tryd.underlying31 rfl HZC.out.i) rfl (.inl ⟨HNO.out, zc, [105, 116, 101, 109, 115], [], ?_, hHeld.1, HZC.out⟩)
  rfl
theorem isForm_any (eb : Addr) (x : List UInt8) (l : List (List UInt8)) (w : World) (hf : FormAt w eb) : Calls Tryd.prog 18 #[errV eb (x :: l)] w (Ret (.bool true) w) := by
  have h0 : w.cell? ⟨0, 0, none⟩ = some (.iface 139 (.pointer (some eb))) := hf.1
  have KI := hid (errorsIs_any eb (x :: l) w)
  clear hf
  generalize errV eb (x :: l) = V at *
  go_enter Tryd.func18, Tryd.ntmps18
  go_wp2_with (go_at_call 32; refine KI.out.mono ?_; rintro x w1 ⟨rfl, hb⟩; have HX := hid hb; clear hb)
  go_ret
  exact Ret.mk rfl HX.out
theorem isForm_nil (eb : Addr) (w : World) (hf : FormAt w eb) : Calls Tryd.prog 18 #[.nilIface] w (Ret (.bool false) w) := by
  have h0 : w.cell? ⟨0, 0, none⟩ = some (.iface 139 (.pointer (some eb))) := hf.1
  have KI := hid (errorsIs_nil eb w)
  clear hf
  go_enter Tryd.func18, Tryd.ntmps18
  go_wp2_with (go_at_call 32; refine KI.out.mono ?_; rintro x w1 ⟨rfl, hb⟩; have HX := hid hb; clear hb)
  go_ret
  exact Ret.mk rfl HX.out
/-- What Parse tells. -/
def AParse (l : List UInt8) (w : World) (e : Ending) (w' : World) : Prop :=
  ((∀ a, ¬ isAsb l a) ∧ e = .returned (.tuple #[asbV zeroA zeroM, .int .i64 2]) ∧ Ext w w') ∨
  (∃ b m, isAsb l b ∧ (∀ a, isAsb l a → a.Eqv b) ∧ e = .returned (.tuple #[asbV b m, .int .i64 0]) ∧ Ext w w' ∧ AsL w' anyQ b m ∧ b.tk ≤ m.tc)
theorem IsL.apart {W : World} {Q : Nat → Prop} {N : Nat} (hN : ∀ j v, W.cell? ⟨N, j, none⟩ ≠ some (.bool v)) (t : T) : ∀ {A : Option Addr}, IsL W Q t A → IsL W (fun b => b ≠ N) t A := by
  induction t with
  | nil => intro A h; cases h
  | mk kind n s op k ch ih =>
    intro A h h0
    obtain ⟨b, o, hA, hb, hq, hc⟩ := h h0
    refine ⟨b, o, hA, hb, ?_, fun i hi => ?_⟩
    · rintro rfl
      obtain ⟨Ai, ci, h1, _⟩ := hc 0 h0
      exact hN _ _ h1.2.2.2.2
    · obtain ⟨Ai, ci, h1, h2⟩ := hc i hi
      exact ⟨Ai, ci, h1, ih i h2⟩
theorem aread_any {X : Nat → Prop} (t : T) (hok : t.ok) (hr : t.right 8 = true) (A : Option Addr) (c : Nat) (eb : Addr) (w : World) (hf : FormAt w eb) (h : IsL w X t A) : Calls Tryd.prog 17 #[.slice A t.k c] w (RdPost X t eb w) := by
  have hb : ∀ i, i < t.k → (t.ch i).k ≤ 1000 ∧ ∀ j, j < (t.ch i).k → ((t.ch i).ch j).k ≤ 1000 := fun i hi => by
    have h7 := kid_right (d := 7) hr hi
    exact ⟨kid_k h7, fun j hj => kid_k (kid_right (d := 6) h7 hj)⟩
  have h' : IsL w (fun b => X b ∧ b < w.heap.size) t A := IsL.weak (fun b hb hx => ⟨hx, hb⟩) _ h
  have some : 0 < t.k → ∃ b o, A = some ⟨b, o, none⟩ := fun h0 => by
    obtain ⟨b, o, _, _, h1, _⟩ := kidsA h (i := 0) h0
    exact ⟨b, o, h1⟩
  by_cases h5 : t.k = 5
  · obtain ⟨b, o, rfl⟩ := some (by omega)
    rw [h5]
    exact aread5_any t h5 hok hb b o c eb w hf h'
  by_cases h6 : t.k = 6
  · obtain ⟨b, o, rfl⟩ := some (by omega)
    rw [h6]
    exact aread6_any t h6 hok hb b o c eb w hf h'
  exact areadN_any t h5 h6 (kid_k hr) A c eb w hf
theorem wrap_no {s : List UInt8} (h : (parseR (159 :: (s ++ [255]))).2 ≠ 0) : ∀ a, ¬ isAsb s a := fun a ha => h (by
  obtain ⟨h1, h2, h3⟩ := ha
  have hsh : a.shaped = true := by
    unfold AV.right at h2
    rw [Bool.and_eq_true] at h2
    exact h2.1
  obtain ⟨i1, i2⟩ := items_seven h1 hsh
  have := parse_back (wrap_right (fun t ht => (i1 t ht).2) (by omega)) (wrap_ok (fun t ht => (i1 t ht).1) (by omega))
  rw [wrap_bytes, show (a.items.map T.bytes).flatten = s from h3] at this
  rw [this])
theorem asb_nobool {W : World} {N : Nat} (h : Blk W N 31 #[.slice none 0 0, .int .i64 0, .int .i64 0, .string ⟨#[]⟩, .int .u64 0, .int .u64 0, .slice none 0 0, .slice none 0 0]) : ∀ j v, W.cell? ⟨N, j, none⟩ ≠ some (.bool v) := fun j v hc => by
  rw [h.cell j] at hc
  rcases j with _ | _ | _ | _ | _ | _ | _ | _ | j <;> simp at hc
set_option maxRecDepth 20000 in
set_option maxHeartbeats 4000000 in
theorem aparse_bad (l : List UInt8) (hl : l.length ≤ 10000) (h : (parseR (159 :: (l ++ [255]))).2 ≠ 0) (w : World) : Calls Tryd.prog 8 #[str l] w (AParse l w) := by
  have KO4 : Hid (∀ W, Calls Tryd.prog 16 #[.int .i64 4] W (Ret (str [159]) W)) := hid (fun W => open_any 4 W)
  have KO7 : Hid (∀ W, Calls Tryd.prog 16 #[.int .i64 7] W (Ret (str [255]) W)) := hid (fun W => open_any 7 W)
  have hlen : l.length ≤ 10000 := hl
  have HLEN := hid hl
  have tk1 : True := trivial
  have tk2 : True := trivial
  have HLW : Hid ((159 :: (l ++ [255])).length ≤ 1073741824) := hid (by simp; omega)
  have KP := hid (fun W => parse_any (159 :: (l ++ [255])) HLW W)
  have HNO := hid (wrap_no h)
  have KP : Hid (∀ W, Calls Tryd.prog 15 #[str (159 :: (l ++ [255]))] W (Ret (.tuple #[itemV nulT none 0, .int .i64 ((parseR (159 :: (l ++ [255]))).1 : Int), .int .i64 (parseR (159 :: (l ++ [255]))).2]) W)) := hid (fun W => (KP.out W).mono fun e w' ⟨hb, hh⟩ => by
    rcases hh with ⟨_, rfl⟩ | ⟨h0, _⟩
    · exact Ret.mk rfl hb
    · exact absurd h0 h)
  have t1a : (((parseR (159 :: (l ++ [255]))).2) == (0)) = false := by rw [beq_eq_false_iff_ne]; exact h
  have t1b : (((parseR (159 :: (l ++ [255]))).2) = (0)) = False := eq_false (by exact h)
  have t1c : (((parseR (159 :: (l ++ [255]))).2) != (0)) = true := by rw [bne_iff_ne]; exact h
  clear h hl HLW
  generalize (parseR (159 :: (l ++ [255]))).2 = E at *
  generalize ((parseR (159 :: (l ++ [255]))).1 : Int) = NN at *
  have HE := hid ((Mod.refl [] w).alloc (.cells #[.slice none 0 0, .int .i64 0, .int .i64 0, .string ⟨#[]⟩, .int .u64 0, .int .u64 0, .slice none 0 0, .slice none 0 0] 31))
  have HB0 : Hid (Blk (w.alloc (.cells #[.slice none 0 0, .int .i64 0, .int .i64 0, .string ⟨#[]⟩, .int .u64 0, .int .u64 0, .slice none 0 0, .slice none 0 0] 31)) w.heap.size 31 #[.slice none 0 0, .int .i64 0, .int .i64 0, .string ⟨#[]⟩, .int .u64 0, .int .u64 0, .slice none 0 0, .slice none 0 0]) := hid (Blk.new w 31 #[.slice none 0 0, .int .i64 0, .int .i64 0, .string ⟨#[]⟩, .int .u64 0, .int .u64 0, .slice none 0 0, .slice none 0 0])
  go_enter Tryd.func8, Tryd.ntmps8
  go_upto_region 1 with fail
  generalize (w.alloc (.cells #[.slice none 0 0, .int .i64 0, .int .i64 0, .string ⟨#[]⟩, .int .u64 0, .int .u64 0, .slice none 0 0, .slice none 0 0] 31)) = V at *
  obtain ⟨e, he⟩ := Later.self V
  rw [he]
  clear he
  go_upto_region 2 with (first | (clear tk1; go_at_call 16; refine (Ret.later (KO4.out _)).mono ?_; rintro x _ ⟨rfl, e, rfl⟩) | (clear tk2; go_at_call 16; refine (Ret.later (KO7.out _)).mono ?_; rintro x _ ⟨rfl, e, rfl⟩) | (refine wpList_cat (by rfl) _ _ _ _ rfl _ _ rfl rfl (by (try simp only [List.length_append, List.length_cons, List.length_nil]); omega) ?_) | (go_at_call 15; refine (KP.out _).mono ?_; rintro x w1 ⟨rfl, hb⟩; have HX := hid (e.h.trans hb); clear hb))
  generalize hV1 : World.alloc w1 _ = V1
  have HX1 : Hid (Ext V V1) := hid (by rw [← hV1]; exact HX.out.alloc _)
  have HB1 := hid (HB0.out.ext HX1.out)
  have HE1 := hid (HE.out.trans HX1.out)
  clear hV1 HX HX1 e KP KO4 KO7 hlen
  obtain ⟨e, he⟩ := Later.self V1
  rw [he]
  clear he
  go_wp2_with (first | (refine wpList_store_mid rfl 31 _ _ rfl w.heap.size 0 #[.slice none 0 0, .int .i64 0, .int .i64 0, .string ⟨#[]⟩, .int .u64 0, .int .u64 0, .slice none 0 0, .slice none 0 0] (by rfl) (by rfl) ((HB1.out.later e).there (Nat.le_refl 8)) (by kernel_rfl) (by simp [Value.oneCell']) ?_))
  generalize hZZ : World.setCells _ _ _ _ = ZZ
  have HZB : Hid (Blk ZZ w.heap.size 31 #[.slice none 0 0, .int .i64 0, .int .i64 0, .string ⟨#[]⟩, .int .u64 0, .int .u64 0, .slice none 0 0, .slice none 0 0]) := hid (by rw [← hZZ]; exact setCells_all (ds := #[.slice none 0 0, .int .i64 0, .int .i64 0, .string ⟨#[]⟩, .int .u64 0, .int .u64 0, .slice none 0 0, .slice none 0 0]) (HB1.out.later e) rfl)
  have HZM : Hid (Ext w ZZ) := hid (by rw [← hZZ]; exact setCells_mod _ _ (HE1.out.trans e.h) (.inr (by omega)))
  clear hZZ
  refine bodyPost_ret (results_cell2 rfl _ (by rfl) rfl HZB.out Tryd.underlying31 rfl (by kernel_rfl)) rfl (.inl ⟨HNO.out, rfl, HZM.out⟩)
set_option maxRecDepth 20000 in
set_option maxHeartbeats 8000000 in
theorem aparse_good (l : List UInt8) (hl : l.length ≤ 10000) (h : (parseR (159 :: (l ++ [255]))).2 = 0) (eb : Addr) (w : World) (hf : FormAt w eb) : Calls Tryd.prog 8 #[str l] w (AParse l w) := by
  have KO4 : Hid (∀ W, Calls Tryd.prog 16 #[.int .i64 4] W (Ret (str [159]) W)) := hid (fun W => open_any 4 W)
  have KO7 : Hid (∀ W, Calls Tryd.prog 16 #[.int .i64 7] W (Ret (str [255]) W)) := hid (fun W => open_any 7 W)
  have hlen : l.length ≤ 10000 := hl
  have HLEN := hid hl
  have tk1 : True := trivial
  have tk2 : True := trivial
  have HLW : Hid ((159 :: (l ++ [255])).length ≤ 1073741824) := hid (by simp; omega)
  have KP := hid (fun W => parse_any (159 :: (l ++ [255])) HLW W)
  have KP : Hid (∀ W, Calls Tryd.prog 15 #[str (159 :: (l ++ [255]))] W (fun e w' => ∃ t A c, e = .returned (.tuple #[itemV t A c, .int .i64 (-1), .int .i64 0]) ∧ Ext W w' ∧ t.right 8 = true ∧ t.ok ∧ t.bytes = 159 :: (l ++ [255]) ∧ IsL w' (fun _ => True) t A)) := hid (fun W => (KP.out W).mono fun e w' ⟨hb, hh⟩ => by
    rcases hh with ⟨h0, _⟩ | ⟨_, t, A, c, rfl, ⟨hr, hok⟩, hbt, hli⟩
    · exact absurd h h0
    · exact ⟨t, A, c, rfl, hb, hr, hok, hbt, hli⟩)
  have HFM := hid (fun W (hW : Ext w W) => hf.ext hW)
  clear h hl HLW hf
  have HE := hid ((Mod.refl [] w).alloc (.cells #[.slice none 0 0, .int .i64 0, .int .i64 0, .string ⟨#[]⟩, .int .u64 0, .int .u64 0, .slice none 0 0, .slice none 0 0] 31))
  have HB0 : Hid (Blk (w.alloc (.cells #[.slice none 0 0, .int .i64 0, .int .i64 0, .string ⟨#[]⟩, .int .u64 0, .int .u64 0, .slice none 0 0, .slice none 0 0] 31)) w.heap.size 31 #[.slice none 0 0, .int .i64 0, .int .i64 0, .string ⟨#[]⟩, .int .u64 0, .int .u64 0, .slice none 0 0, .slice none 0 0]) := hid (Blk.new w 31 #[.slice none 0 0, .int .i64 0, .int .i64 0, .string ⟨#[]⟩, .int .u64 0, .int .u64 0, .slice none 0 0, .slice none 0 0])
  go_enter Tryd.func8, Tryd.ntmps8
  go_upto_region 1 with fail
  generalize (w.alloc (.cells #[.slice none 0 0, .int .i64 0, .int .i64 0, .string ⟨#[]⟩, .int .u64 0, .int .u64 0, .slice none 0 0, .slice none 0 0] 31)) = V at *
  obtain ⟨e, he⟩ := Later.self V
  rw [he]
  clear he
  go_upto_region 2 with (first | (clear tk1; go_at_call 16; refine (Ret.later (KO4.out _)).mono ?_; rintro x _ ⟨rfl, e, rfl⟩) | (clear tk2; go_at_call 16; refine (Ret.later (KO7.out _)).mono ?_; rintro x _ ⟨rfl, e, rfl⟩) | (refine wpList_cat (by rfl) _ _ _ _ rfl _ _ rfl rfl (by (try simp only [List.length_append, List.length_cons, List.length_nil]); omega) ?_) | (go_at_call 15; refine (KP.out _).mono ?_; rintro x w1 ⟨t, A, c, rfl, hb, hr, hok, hbt, hli⟩; have HX := hid (e.h.trans hb); have HR := hid hr; have HOK := hid hok; have HBT := hid hbt; have HL := hid hli; clear hb hr hok hbt hli))
  generalize hV1 : World.alloc w1 _ = V1
  have HX1 : Hid (Ext V V1) := hid (by rw [← hV1]; exact HX.out.alloc _)
  have HB1 := hid (HB0.out.ext HX1.out)
  have HT1 : Hid (Blk V1 w1.heap.size 36 (itemC t A c)) := hid (by rw [← hV1]; exact Blk.new _ _ _)
  have HNB : Hid (∀ j v, V1.cell? ⟨w.heap.size, j, none⟩ ≠ some (.bool v)) := hid (asb_nobool HB1.out)
  have HL1 : Hid (∀ W, Ext V1 W → IsL W (fun b => b ≠ w.heap.size) t A) := hid (fun W hW => IsL.ext (IsL.apart HNB.out t (by rw [← hV1]; exact HL.out.ext ((Mod.refl [] _).alloc _))) hW)
  have HE1 := hid (HE.out.trans HX1.out)
  clear hV1 HX HX1 HL HB0 e KP KO4 KO7 hlen
  generalize w1.heap.size = n1 at *
  have HCA : Hid (∀ a, isAsb l a → Kids0 t a) := hid (fun a ha => isAsb_tree ha HOK.out (T.right_up t 8 HR.out) HBT.out)
  have HLT : Hid (t.size ≤ 100000) := hid (by have := T.size_le t (T.plain_of HR.out); rw [HBT.out] at this; have h10 := HLEN.out; simp at this; omega)
  have HKI : Hid (t.k = 5 ∨ t.k = 6 → Kids t) := hid (fun hk => ⟨hk, fun i hi => T.okc HOK.out hi, fun i hi => T.right_up _ 7 (kid_right (d := 7) HR.out hi), fun i hi => Nat.le_trans (kid_size hi) HLT.out⟩)
  have KR := hid (fun W (hW : Ext V1 W) => aread_any t HOK.out HR.out A c eb W (HFM.out W (HE1.out.trans hW)) (HL1.out W hW))
  have z3 : ∀ e : Later V1, e.x.cell? ⟨n1, 3, none⟩ = some (.slice A t.k c) := HT1.out.cellL 3 rfl
  clear HT1 HL1 HE HOK HBT HLT HR
  obtain ⟨e, he⟩ := Later.self V1
  rw [he]
  clear he
  go_upto_region 4 with fail
  by_cases hrd : rdOK t = true
  case neg =>
    have hrd : rdOK t = false := by simpa using hrd
    have KR : Hid (∀ W, Ext V1 W → Calls Tryd.prog 17 #[.slice A t.k c] W (fun e w' => ∃ zc x l, e = .returned (.tuple #[.agg zc, errV eb (x :: l)]) ∧ Ext W w' ∧ ZC zc)) := hid (fun W hW => (KR.out W hW).mono fun e w' h => by
      rcases h with ⟨_, h⟩ | ⟨h1, _⟩
      · exact h
      · rw [hrd] at h1; exact absurd h1 (by decide))
    have HNO : Hid (∀ a, ¬ isAsb l a) := hid (fun a ha => by have := (HCA.out a ha).o; rw [hrd] at this; exact absurd this (by decide))
    clear hrd HCA HKI
    have tk1 : True := trivial
    have KF := hid (fun x l W (hW : Ext V1 W) => isForm_any eb x l W (HFM.out W (HE1.out.trans hW)))
    generalize t.k = tk at *
    have HAL : Hid True := hid trivial
    go_upto_region 5 with (first | (go_at_call 17; refine (KR.out _ e.h).mono ?_; rintro x w2 ⟨zc, x1, l1, rfl, hb, hzc⟩; have HX := hid (e.h.trans hb); have HZC := hid hzc; clear hb hzc) | (clear tk1; refine wpList_store_mid rfl 31 _ _ rfl w2.heap.size 0 zc (by rfl) (by rfl) ((Blk.new _ _ _).there (by rw [HZC.out.s]; exact Nat.le_refl 8)) HZC.out.i HZC.out.o ?_))
    generalize hV2 : World.setCells _ _ _ _ = V2
    have HX2 : Hid (Ext V1 V2) := hid (by rw [← hV2]; exact setCells_mod _ _ (HX.out.alloc _) (.inr HX.out.size))
    have HBR := hid (HB1.out.ext HX2.out)
    have HE2 := hid (HE1.out.trans HX2.out)
    have KF2 := hid (fun (e : Later V2) => KF.out x1 l1 e.x (HX2.out.trans e.h))
    clear hV2 HX HX2 HB1 HE1 KR KF e HZC
    generalize errV eb (x1 :: l1) = EV1 at *
    generalize w2.heap.size = n2 at *
    obtain ⟨e, he⟩ := Later.self V2
    rw [he]
    clear he
    go_upto_region 6 with (go_at_call 18; refine (Ret.later (KF2.out _)).mono ?_; rintro x _ ⟨rfl, e, rfl⟩)
    go_wp2_with (first | (refine wpList_store_mid rfl 31 _ _ rfl w.heap.size 0 #[.slice none 0 0, .int .i64 0, .int .i64 0, .string ⟨#[]⟩, .int .u64 0, .int .u64 0, .slice none 0 0, .slice none 0 0] (by rfl) (by rfl) ((HBR.out.later e).there (Nat.le_refl 8)) (by kernel_rfl) (by simp [Value.oneCell']) ?_))
    generalize hZZ : World.setCells _ _ _ _ = ZZ
    have HZB : Hid (Blk ZZ w.heap.size 31 #[.slice none 0 0, .int .i64 0, .int .i64 0, .string ⟨#[]⟩, .int .u64 0, .int .u64 0, .slice none 0 0, .slice none 0 0]) := hid (by rw [← hZZ]; exact setCells_all (ds := #[.slice none 0 0, .int .i64 0, .int .i64 0, .string ⟨#[]⟩, .int .u64 0, .int .u64 0, .slice none 0 0, .slice none 0 0]) (HBR.out.later e) rfl)
    have HZM : Hid (Ext w ZZ) := hid (by rw [← hZZ]; exact setCells_mod _ _ (HE2.out.trans e.h) (.inr (by omega)))
    clear hZZ
    refine bodyPost_ret (results_cell2 rfl _ (by rfl) rfl HZB.out Tryd.underlying31 rfl (by kernel_rfl)) rfl (.inl ⟨HNO.out, rfl, HZM.out⟩)
  have HKK := hid (HKI.out (rdOK_iff hrd).1)
  have KR : Hid (∀ W, Ext V1 W → Calls Tryd.prog 17 #[.slice A t.k c] W (fun e w' => ∃ zc m, Hid (asbC (rdA t) m = zc) ∧ e = .returned (.tuple #[.agg zc, .nilIface]) ∧ Ext W w' ∧ AsL w' (fun b => b ≠ w.heap.size) (rdA t) m ∧ (rdA t).tk ≤ m.tc)) := hid (fun W hW => (KR.out W hW).mono fun e w' h => by
    rcases h with ⟨h1, _⟩ | ⟨_, h⟩
    · rw [hrd] at h1; exact absurd h1 (by decide)
    · obtain ⟨m, h1, h2, h3, h4⟩ := h
      exact ⟨asbC (rdA t) m, m, hid rfl, h1, h2, h3.wk (fun b _ hb => hb.elim (fun h => h.1) (fun h => by have := HB1.out.lt; have := hW.size; omega)), h4⟩)
  have HWF := hid (HKK.out.wf hrd)
  have HSM := hid (HKK.out.small hrd)
  have HEQ : Hid (∀ a, isAsb l a → a.Eqv (rdA t) ∧ a.shaped = true) := hid (fun a ha => ⟨(HCA.out a ha).e, (HCA.out a ha).s⟩)
  have KF := hid (fun W (hW : Ext V1 W) => isForm_nil eb W (HFM.out W (HE1.out.trans hW)))
  clear hrd HCA HKI HKK HFM
  generalize rdA t = b at *
  generalize t.k = tk at *
  have tk1 : True := trivial
  go_upto_region 5 with (first | (go_at_call 17; refine (KR.out _ e.h).mono ?_; rintro x w2 ⟨zc, m, HZE, rfl, hb, hal, hcap⟩; have HX := hid (e.h.trans hb); have HAL := hid hal; have HCAP := hid hcap; have HZC : Hid (ZC zc) := hid (by rw [← HZE.out]; exact ZC.mk' b m); clear hb hal hcap) | (clear tk1; refine wpList_store_mid rfl 31 _ _ rfl w2.heap.size 0 zc (by rfl) (by rfl) ((Blk.new _ _ _).there (by rw [HZC.out.s]; exact Nat.le_refl 8)) HZC.out.i HZC.out.o ?_))
  generalize hV2 : World.setCells _ _ _ _ = V2
  have HX2 : Hid (Ext V1 V2) := hid (by rw [← hV2]; exact setCells_mod _ _ (HX.out.alloc _) (.inr HX.out.size))
  have HXW : Hid (Ext w2 V2) := hid (by rw [← hV2]; exact setCells_mod _ _ ((Mod.refl [] w2).alloc _) (.inr (Nat.le_refl _)))
  have HB2 : Hid (Blk V2 w2.heap.size 31 zc) := hid (by rw [← hV2]; exact setCells_all (ds := zc) (Blk.new _ _ _) (by rw [Array.length_toList, HZC.out.s]; rfl))
  have HBR := hid (HB1.out.ext HX2.out)
  have HE2 := hid (HE1.out.trans HX2.out)
  have HAL2 := hid (HAL.out.ext HXW.out)
  have KF2 := hid (fun (e : Later V2) => KF.out e.x (HX2.out.trans e.h))
  have KRI : Hid (∀ e : Later V2, Calls Tryd.prog 9 #[.agg zc] e.x (Ret (.bool b.right) e.x)) := hid (fun e => by rw [← HZE.out]; exact aRight_any b HWF.out (fun _ => HSM.out) m HCAP.out e.x ((HAL2.out.ext e.h).wk (fun _ _ _ => trivial)))
  have KBU : Hid (∀ e : Later V2, b.shaped = true → Calls Tryd.prog 10 #[.agg zc] e.x (Ret (str b.bytes) e.x)) := hid (fun e hs => by rw [← HZE.out]; exact abuild_any b HWF.out HSM.out hs m e.x ((HAL2.out.ext e.h).wk (fun _ _ _ => trivial)))
  clear hV2 HX HX2 HXW HB1 HE1 KR KF e HAL
  generalize w2.heap.size = n2 at *
  have HRL : Hid (∀ e : Later V2, Blk e.x n2 31 zc) := hid (fun e => HB2.out.later e)
  obtain ⟨e, he⟩ := Later.self V2
  rw [he]
  clear he HB2
  have tk1 : True := trivial
  have tk2 : True := trivial
  cases hr : b.right with
  | false =>
    have HNO : Hid (∀ a, ¬ isAsb l a) := hid (fun a ha => by
      obtain ⟨h1, h2⟩ := HEQ.out a ha
      have hs := h1.shaped h2
      have hk : a.rk = a.tk := (AV.shaped_iff.1 h2).2.2.2.2.2.2.1
      have hb := h1.bytes hk
      have h3 := ha.2.1
      unfold AV.right at h3 hr
      rw [hs, Bool.true_and] at hr
      rw [h2, Bool.true_and, hb, hr] at h3
      exact absurd h3 (by decide))
    rw [hr] at KRI
    clear hr HEQ KBU
    go_upto_region 6 with (first | (clear tk1; refine wpList_row (by rfl) 31 _ rfl _ rfl (HRL.out _) Tryd.underlying31 rfl HZC.out.i ?_) | (go_at_call 18; refine (Ret.later (KF2.out _)).mono ?_; rintro x _ ⟨rfl, e, rfl⟩) | (go_at_call 9; refine (Ret.later (KRI.out _)).mono ?_; rintro x _ ⟨rfl, e, rfl⟩))
    go_wp2_with (first | (refine wpList_store_mid rfl 31 _ _ rfl w.heap.size 0 #[.slice none 0 0, .int .i64 0, .int .i64 0, .string ⟨#[]⟩, .int .u64 0, .int .u64 0, .slice none 0 0, .slice none 0 0] (by rfl) (by rfl) ((HBR.out.later e).there (Nat.le_refl 8)) (by kernel_rfl) (by simp [Value.oneCell']) ?_))
    generalize hZZ : World.setCells _ _ _ _ = ZZ
    have HZB : Hid (Blk ZZ w.heap.size 31 #[.slice none 0 0, .int .i64 0, .int .i64 0, .string ⟨#[]⟩, .int .u64 0, .int .u64 0, .slice none 0 0, .slice none 0 0]) := hid (by rw [← hZZ]; exact setCells_all (ds := #[.slice none 0 0, .int .i64 0, .int .i64 0, .string ⟨#[]⟩, .int .u64 0, .int .u64 0, .slice none 0 0, .slice none 0 0]) (HBR.out.later e) rfl)
    have HZM : Hid (Ext w ZZ) := hid (by rw [← hZZ]; exact setCells_mod _ _ (HE2.out.trans e.h) (.inr (by omega)))
    clear hZZ
    refine bodyPost_ret (results_cell2 rfl _ (by rfl) rfl HZB.out Tryd.underlying31 rfl (by kernel_rfl)) rfl (.inl ⟨HNO.out, rfl, HZM.out⟩)
  | true =>
    have HSH : Hid (b.shaped = true) := hid (by unfold AV.right at hr; rw [Bool.and_eq_true] at hr; exact hr.1)
    have KBU : Hid (∀ e : Later V2, Calls Tryd.prog 10 #[.agg zc] e.x (Ret (str b.bytes) e.x)) := hid (fun e => KBU.out e HSH.out)
    rw [hr] at KRI
    have HRI := hid hr
    clear hr
    by_cases hB : b.bytes = l
    · have HIS : Hid (isAsb l b) := hid ⟨HWF.out, HRI.out, hB⟩
      rw [hB] at KBU
      clear hB
      go_upto_region 7 with (first | (clear tk1; refine wpList_row (by rfl) 31 _ rfl _ rfl (HRL.out _) Tryd.underlying31 rfl HZC.out.i ?_) | (clear tk2; refine wpList_row (by rfl) 31 _ rfl _ rfl (HRL.out _) Tryd.underlying31 rfl HZC.out.i ?_) | (go_at_call 18; refine (Ret.later (KF2.out _)).mono ?_; rintro x _ ⟨rfl, e, rfl⟩) | (go_at_call 9; refine (Ret.later (KRI.out _)).mono ?_; rintro x _ ⟨rfl, e, rfl⟩) | (go_at_call 10; refine (Ret.later (KBU.out _)).mono ?_; rintro x _ ⟨rfl, e, rfl⟩))
      have tk1 : True := trivial
      have tk2 : True := trivial
      go_wp2_with (first | (clear tk1; refine wpList_row (by rfl) 31 _ rfl _ rfl (HRL.out _) Tryd.underlying31 rfl HZC.out.i ?_) | (clear tk2; refine wpList_store_mid rfl 31 _ _ rfl w.heap.size 0 zc (by rfl) (by rfl) ((HBR.out.later e).there (by rw [HZC.out.s]; exact Nat.le_refl 8)) HZC.out.i HZC.out.o ?_))
      generalize hZZ : World.setCells _ _ _ _ = ZZ
      have HZB : Hid (Blk ZZ w.heap.size 31 zc) := hid (by rw [← hZZ]; exact setCells_all (ds := zc) (HBR.out.later e) (by rw [Array.length_toList, HZC.out.s]; rfl))
      have HZX : Hid (Mod [w.heap.size] V2 ZZ) := hid (by rw [← hZZ]; exact setCells_mod _ _ ((Mod.refl [w.heap.size] V2).trans (e.h.mono (by simp))) (.inl (by simp)))
      have HZM : Hid (Ext w ZZ) := hid (by rw [← hZZ]; exact setCells_mod _ _ (HE2.out.trans e.h) (.inr (by omega)))
      clear hZZ
      refine bodyPost_ret (results_cell2 rfl _ (by rfl) rfl HZB.out Tryd.underlying31 rfl HZC.out.i) rfl (.inr ⟨b, m, HIS.out, fun a ha => (HEQ.out a ha).1, by rw [← HZE.out]; rfl, HZM.out, ?_, HCAP.out⟩)
      exact (HAL2.out.mod HZX.out (fun k hk _ => by simpa using hk)).wk (fun _ _ _ => trivial)
    · have HNO : Hid (∀ a, ¬ isAsb l a) := hid (fun a ha => by
        obtain ⟨h1, h2⟩ := HEQ.out a ha
        have hk : a.rk = a.tk := (AV.shaped_iff.1 h2).2.2.2.2.2.2.1
        exact hB (by rw [← h1.bytes hk]; exact ha.2.2))
      have t1a : ((b.bytes) == (l)) = false := by rw [beq_eq_false_iff_ne]; exact hB
      have t1b : ((b.bytes) = (l)) = False := eq_false (by exact hB)
      have t1c : ((b.bytes) != (l)) = true := by rw [bne_iff_ne]; exact hB
      clear hB HEQ HSH
      generalize b.bytes = B at *
      go_upto_region 6 with (first | (clear tk1; refine wpList_row (by rfl) 31 _ rfl _ rfl (HRL.out _) Tryd.underlying31 rfl HZC.out.i ?_) | (clear tk2; refine wpList_row (by rfl) 31 _ rfl _ rfl (HRL.out _) Tryd.underlying31 rfl HZC.out.i ?_) | (go_at_call 18; refine (Ret.later (KF2.out _)).mono ?_; rintro x _ ⟨rfl, e, rfl⟩) | (go_at_call 9; refine (Ret.later (KRI.out _)).mono ?_; rintro x _ ⟨rfl, e, rfl⟩) | (go_at_call 10; refine (Ret.later (KBU.out _)).mono ?_; rintro x _ ⟨rfl, e, rfl⟩))
      go_wp2_with (first | (refine wpList_store_mid rfl 31 _ _ rfl w.heap.size 0 #[.slice none 0 0, .int .i64 0, .int .i64 0, .string ⟨#[]⟩, .int .u64 0, .int .u64 0, .slice none 0 0, .slice none 0 0] (by rfl) (by rfl) ((HBR.out.later e).there (Nat.le_refl 8)) (by kernel_rfl) (by simp [Value.oneCell']) ?_))
      generalize hZZ : World.setCells _ _ _ _ = ZZ
      have HZB : Hid (Blk ZZ w.heap.size 31 #[.slice none 0 0, .int .i64 0, .int .i64 0, .string ⟨#[]⟩, .int .u64 0, .int .u64 0, .slice none 0 0, .slice none 0 0]) := hid (by rw [← hZZ]; exact setCells_all (ds := #[.slice none 0 0, .int .i64 0, .int .i64 0, .string ⟨#[]⟩, .int .u64 0, .int .u64 0, .slice none 0 0, .slice none 0 0]) (HBR.out.later e) rfl)
      have HZM : Hid (Ext w ZZ) := hid (by rw [← hZZ]; exact setCells_mod _ _ (HE2.out.trans e.h) (.inr (by omega)))
      clear hZZ
      refine bodyPost_ret (results_cell2 rfl _ (by rfl) rfl HZB.out Tryd.underlying31 rfl (by kernel_rfl)) rfl (.inl ⟨HNO.out, rfl, HZM.out⟩)
theorem aparse_any (l : List UInt8) (hl : l.length ≤ 10000) (eb : Addr) (w : World) (hf : FormAt w eb) : Calls Tryd.prog 8 #[str l] w (AParse l w) := by
  by_cases h : (parseR (159 :: (l ++ [255]))).2 = 0
  · exact aparse_good l hl h eb w hf
  · exact aparse_bad l hl h w
end Go.Proofs.YtblfmokklfhklaaDoor


namespace Go.Proofs.YtblfmokklfhklaaDoor
open Go.RowKit
set_option linter.unusedVariables false
set_option linter.unusedSimpArgs false

theorem infoByte8 : (Tryd.prog.info? 5).map (fun i => (i.zero, i.size, i.bytes)) = some (some (.int .u8 0), 1, 1) := by kernel_rfl
/-- Bytes made, as a string. -/
theorem conv_made (k c : Nat) (W : World) : (convert 33 9 (.slice (some ⟨W.heap.size, 0, none⟩) k c)).run Tryd.prog (W.alloc (.cells (madeCells #[.int .u8 0] k) 5)) = .ok (str (List.replicate k 0)) (W.alloc (.cells (madeCells #[.int .u8 0] k) 5)) := by
  have h := run_convert_bytes_back (P := Tryd.prog) (W.alloc (.cells (madeCells #[.int .u8 0] k) 5)) 33 9 5 ⟨W.heap.size, 0, none⟩ c (List.replicate k 0) Tryd.underlying33 Tryd.underlying5 Tryd.underlying9 (fun j hj => by
    rw [addr_add, Nat.zero_add, (Blk.new W 5 _).cell j]
    rw [List.length_replicate] at hj
    have := toList_madeCells_one (.int .u8 0) k
    rw [← Array.getElem?_toList, this, List.getElem?_replicate, if_pos hj]
    simp)
  rw [List.length_replicate] at h
  exact h
end Go.Proofs.YtblfmokklfhklaaDoor


namespace Go.Proofs.YtblfmokklfhklaaDoor
open Go.RowKit
set_option linter.unusedVariables false
set_option linter.unusedSimpArgs false

theorem some_blk15 (w : World) : Calls Tryd.prog 5 #[] w (fun e w' => e = .returned (.agg #[.slice (some ⟨w.heap.size + 1, 0, none⟩) 1 1, .int .i64 1, .int .i64 1, str [110, 111, 110, 101], .int .u64 0, .int .u64 0, .slice none 0 0, .slice (some ⟨w.heap.size + 1 + 1 + 1, 0, none⟩) 1 1]) ∧ Ext w w' ∧ Blk w' (w.heap.size + 1) 3 #[.int .i64 1] ∧ Blk w' (w.heap.size + 1 + 1) 38 #[.int .i64 1, .int .i64 2, .int .u64 0, str [116], .slice none 0 0, .bool false] ∧ Blk w' (w.heap.size + 1 + 1 + 1) 28 #[.slice (some ⟨w.heap.size + 1 + 1, 0, none⟩) 1 1]) := by
  go_enter Tryd.func5, Tryd.ntmps5
  go_wp2_with fail
  have HE := hid (((((Mod.refl [] w).alloc (.cells #[.slice (some ⟨w.heap.size + 1, 0, none⟩) 1 1, .int .i64 1, .int .i64 1, str [110, 111, 110, 101], .int .u64 0, .int .u64 0, .slice none 0 0, .slice (some ⟨w.heap.size + 1 + 1 + 1, 0, none⟩) 1 1] 31)).alloc (.cells #[.int .i64 1] 3)).alloc (.cells #[.int .i64 1, .int .i64 2, .int .u64 0, str [116], .slice none 0 0, .bool false] 38)).alloc (.cells #[.slice (some ⟨w.heap.size + 1 + 1, 0, none⟩) 1 1] 28))
  have HB0 : Hid (Blk ((((w.alloc (.cells #[.slice (some ⟨w.heap.size + 1, 0, none⟩) 1 1, .int .i64 1, .int .i64 1, str [110, 111, 110, 101], .int .u64 0, .int .u64 0, .slice none 0 0, .slice (some ⟨w.heap.size + 1 + 1 + 1, 0, none⟩) 1 1] 31)).alloc (.cells #[.int .i64 1] 3)).alloc (.cells #[.int .i64 1, .int .i64 2, .int .u64 0, str [116], .slice none 0 0, .bool false] 38)).alloc (.cells #[.slice (some ⟨w.heap.size + 1 + 1, 0, none⟩) 1 1] 28)) w.heap.size 31 #[.slice (some ⟨w.heap.size + 1, 0, none⟩) 1 1, .int .i64 1, .int .i64 1, str [110, 111, 110, 101], .int .u64 0, .int .u64 0, .slice none 0 0, .slice (some ⟨w.heap.size + 1 + 1 + 1, 0, none⟩) 1 1]) := hid ((((Blk.new w 31 #[.slice (some ⟨w.heap.size + 1, 0, none⟩) 1 1, .int .i64 1, .int .i64 1, str [110, 111, 110, 101], .int .u64 0, .int .u64 0, .slice none 0 0, .slice (some ⟨w.heap.size + 1 + 1 + 1, 0, none⟩) 1 1]).alloc (.cells #[.int .i64 1] 3)).alloc (.cells #[.int .i64 1, .int .i64 2, .int .u64 0, str [116], .slice none 0 0, .bool false] 38)).alloc (.cells #[.slice (some ⟨w.heap.size + 1 + 1, 0, none⟩) 1 1] 28))
  have HB1 : Hid (Blk ((((w.alloc (.cells #[.slice (some ⟨w.heap.size + 1, 0, none⟩) 1 1, .int .i64 1, .int .i64 1, str [110, 111, 110, 101], .int .u64 0, .int .u64 0, .slice none 0 0, .slice (some ⟨w.heap.size + 1 + 1 + 1, 0, none⟩) 1 1] 31)).alloc (.cells #[.int .i64 1] 3)).alloc (.cells #[.int .i64 1, .int .i64 2, .int .u64 0, str [116], .slice none 0 0, .bool false] 38)).alloc (.cells #[.slice (some ⟨w.heap.size + 1 + 1, 0, none⟩) 1 1] 28)) (w.heap.size + 1) 3 #[.int .i64 1]) := by unfold Hid; have := (Blk.newL (N := (w.heap.size + 1)) (w.alloc (.cells #[.slice (some ⟨w.heap.size + 1, 0, none⟩) 1 1, .int .i64 1, .int .i64 1, str [110, 111, 110, 101], .int .u64 0, .int .u64 0, .slice none 0 0, .slice (some ⟨w.heap.size + 1 + 1 + 1, 0, none⟩) 1 1] 31)) 3 #[.int .i64 1] (by simp)); exact ((this.alloc (.cells #[.int .i64 1, .int .i64 2, .int .u64 0, str [116], .slice none 0 0, .bool false] 38)).alloc (.cells #[.slice (some ⟨w.heap.size + 1 + 1, 0, none⟩) 1 1] 28))
  have HB2 : Hid (Blk ((((w.alloc (.cells #[.slice (some ⟨w.heap.size + 1, 0, none⟩) 1 1, .int .i64 1, .int .i64 1, str [110, 111, 110, 101], .int .u64 0, .int .u64 0, .slice none 0 0, .slice (some ⟨w.heap.size + 1 + 1 + 1, 0, none⟩) 1 1] 31)).alloc (.cells #[.int .i64 1] 3)).alloc (.cells #[.int .i64 1, .int .i64 2, .int .u64 0, str [116], .slice none 0 0, .bool false] 38)).alloc (.cells #[.slice (some ⟨w.heap.size + 1 + 1, 0, none⟩) 1 1] 28)) (w.heap.size + 1 + 1) 38 #[.int .i64 1, .int .i64 2, .int .u64 0, str [116], .slice none 0 0, .bool false]) := by unfold Hid; have := (Blk.newL (N := (w.heap.size + 1 + 1)) ((w.alloc (.cells #[.slice (some ⟨w.heap.size + 1, 0, none⟩) 1 1, .int .i64 1, .int .i64 1, str [110, 111, 110, 101], .int .u64 0, .int .u64 0, .slice none 0 0, .slice (some ⟨w.heap.size + 1 + 1 + 1, 0, none⟩) 1 1] 31)).alloc (.cells #[.int .i64 1] 3)) 38 #[.int .i64 1, .int .i64 2, .int .u64 0, str [116], .slice none 0 0, .bool false] (by simp)); exact (this.alloc (.cells #[.slice (some ⟨w.heap.size + 1 + 1, 0, none⟩) 1 1] 28))
  have HB3 : Hid (Blk ((((w.alloc (.cells #[.slice (some ⟨w.heap.size + 1, 0, none⟩) 1 1, .int .i64 1, .int .i64 1, str [110, 111, 110, 101], .int .u64 0, .int .u64 0, .slice none 0 0, .slice (some ⟨w.heap.size + 1 + 1 + 1, 0, none⟩) 1 1] 31)).alloc (.cells #[.int .i64 1] 3)).alloc (.cells #[.int .i64 1, .int .i64 2, .int .u64 0, str [116], .slice none 0 0, .bool false] 38)).alloc (.cells #[.slice (some ⟨w.heap.size + 1 + 1, 0, none⟩) 1 1] 28)) (w.heap.size + 1 + 1 + 1) 28 #[.slice (some ⟨w.heap.size + 1 + 1, 0, none⟩) 1 1]) := by unfold Hid; exact Blk.newL _ _ _ (by simp)
  show bodyPost _ _ _ _ _ ((((w.alloc (.cells #[.slice (some ⟨w.heap.size + 1, 0, none⟩) 1 1, .int .i64 1, .int .i64 1, str [110, 111, 110, 101], .int .u64 0, .int .u64 0, .slice none 0 0, .slice (some ⟨w.heap.size + 1 + 1 + 1, 0, none⟩) 1 1] 31)).alloc (.cells #[.int .i64 1] 3)).alloc (.cells #[.int .i64 1, .int .i64 2, .int .u64 0, str [116], .slice none 0 0, .bool false] 38)).alloc (.cells #[.slice (some ⟨w.heap.size + 1 + 1, 0, none⟩) 1 1] 28))
  generalize ((((w.alloc (.cells #[.slice (some ⟨w.heap.size + 1, 0, none⟩) 1 1, .int .i64 1, .int .i64 1, str [110, 111, 110, 101], .int .u64 0, .int .u64 0, .slice none 0 0, .slice (some ⟨w.heap.size + 1 + 1 + 1, 0, none⟩) 1 1] 31)).alloc (.cells #[.int .i64 1] 3)).alloc (.cells #[.int .i64 1, .int .i64 2, .int .u64 0, str [116], .slice none 0 0, .bool false] 38)).alloc (.cells #[.slice (some ⟨w.heap.size + 1 + 1, 0, none⟩) 1 1] 28)) = V at *
  refine bodyPost_ret (results_cell rfl _ (by rfl) HB0.out Tryd.underlying31 rfl (by kernel_rfl)) rfl ⟨rfl, HE.out, HB1.out, HB2.out, HB3.out⟩
set_option maxRecDepth 20000 in
theorem someA_is (x : List UInt8) : (someA x).bytes = [129, 1, 1, 0, 130, 1, 0, 129, 129, 130, 1] ++ (headL 2 x.length ++ x) := by
  have h : (someA x).bytes = [129, 1] ++ ([1] ++ ([0] ++ ([130, 1, 0] ++ (([129] ++ ([129] ++ ([130] ++ ([1] ++ (headL 2 x.length ++ x))))) ++ [])))) := by
    have e1 : (tgT 1 (fun _ => 1)).bytes = [129, 1] := by decide +kernel
    have e2 : (numT 1).bytes = [1] := by decide +kernel
    have e3 : (numT 0).bytes = [0] := by decide +kernel
    have e4 : (eidT ⟨1, [110, 111, 110, 101], 0, 0⟩).bytes = [130, 1, 0] := by decide +kernel
    have e5 : (rsT 1 (fun _ => someP x)).bytes = [129] ++ ([129] ++ ([130] ++ ([1] ++ (headL 2 x.length ++ x)))) := by
      have g0 : (strT x).bytes = headL 2 x.length ++ x := rfl
      have g1 : (pairT ⟨1, strT x⟩).bytes = [130] ++ ([1] ++ (headL 2 x.length ++ x)) := by
        rw [pair_bytes, g0, show headL 0 (1 : Int).toNat = [1] by decide +kernel, List.append_assoc]
      have g2 : (plT (someP x)).bytes = [129] ++ ([130] ++ ([1] ++ (headL 2 x.length ++ x))) := by
        rw [pl_bytes]
        show headL 4 1 ++ ([] ++ (pairT ⟨1, strT x⟩).bytes) = _
        rw [g1, show headL 4 1 = [129] by decide +kernel, List.nil_append]
      show headL 4 1 ++ (([] ++ (plT (someP x)).bytes) ++ []) = _
      rw [g2, show headL 4 1 = [129] by decide +kernel, List.nil_append, List.append_nil]
    show (tgT 1 (fun _ => 1)).bytes ++ ((numT 1).bytes ++ ((numT 0).bytes ++ ((eidT ⟨1, [110, 111, 110, 101], 0, 0⟩).bytes ++ ((rsT 1 (fun _ => someP x)).bytes ++ [])))) = _
    rw [e1, e2, e3, e4, e5]
  rw [h, List.append_nil]
  rfl
theorem someA_len (x : List UInt8) : (someA x).bytes.length ≤ x.length + 20 := by
  rw [someA_is]
  have := headL_le 2 x.length
  simp
  omega
set_option maxRecDepth 20000 in
set_option maxHeartbeats 8000000 in
theorem asbLong_any (n : Nat) (hn : n < 65536) (eb : Addr) (w : World) (hf : FormAt w eb) : Calls Tryd.prog 3 #[.int .u16 (n : Int)] w (Ret (.bool true) w) := by
  have KA := hid (fun W => awake15_any W)
  have KS := hid (fun W => some_blk15 W)
  have HF0 := hid (fun W (hW : Ext w W) => hf.ext hW)
  have nn0 : (0 : Int) ≤ (n : Int) := by omega
  have nn1 : (n : Int) < 65536 := by omega
  clear hf
  go_enter Tryd.func3, Tryd.ntmps3
  go_upto_region 3 with (go_at_call 4; refine (KA.out _).mono ?_; rintro x w1 ⟨rfl, h1⟩; have H1 := hid h1; clear h1)
  have tk1 : True := trivial
  go_upto_region 4 with (first | (go_at_call 5; refine (KS.out _).mono ?_; rintro x w2 ⟨rfl, h2, hb1, hb2, hb3⟩; have H2 := hid h2; have HB1 := hid hb1; have HB2 := hid hb2; have HB3 := hid hb3; clear h2 hb1 hb2 hb3; have HN1 := hid H1.out.size; generalize w1.heap.size = n0 at *) | (clear tk1; refine wpList_store_mid rfl 31 _ _ rfl w2.heap.size 0 #[.slice (some ⟨n0 + 1, 0, none⟩) 1 1, .int .i64 1, .int .i64 1, str [110, 111, 110, 101], .int .u64 0, .int .u64 0, .slice none 0 0, .slice (some ⟨n0 + 1 + 1 + 1, 0, none⟩) 1 1] (by rfl) (by rfl) ((Blk.new _ _ _).there (Nat.le_refl 8)) (by kernel_rfl) (by simp [Value.oneCell']) ?_))
  generalize hU : World.setCells _ _ _ _ = U
  have HX : Hid (Blk U w2.heap.size 31 #[.slice (some ⟨n0 + 1, 0, none⟩) 1 1, .int .i64 1, .int .i64 1, str [110, 111, 110, 101], .int .u64 0, .int .u64 0, .slice none 0 0, .slice (some ⟨n0 + 1 + 1 + 1, 0, none⟩) 1 1]) := hid (by rw [← hU]; exact setCells_all (ds := #[.slice (some ⟨n0 + 1, 0, none⟩) 1 1, .int .i64 1, .int .i64 1, str [110, 111, 110, 101], .int .u64 0, .int .u64 0, .slice none 0 0, .slice (some ⟨n0 + 1 + 1 + 1, 0, none⟩) 1 1]) (Blk.new _ _ _) rfl)
  have HU2 : Hid (Ext w2 U) := hid (by rw [← hU]; exact setCells_mod _ _ ((Mod.refl [] w2).alloc _) (.inr (Nat.le_refl _)))
  have HG1 := hid (HB1.out.ext HU2.out)
  have HG2 := hid (HB2.out.ext HU2.out)
  have HG3a := hid (HB3.out.ext HU2.out)
  have HEU := hid ((H1.out.trans H2.out).trans HU2.out)
  have HNW : Hid (w.heap.size ≤ n0 ∧ n0 + 1 + 1 + 1 < w2.heap.size) := hid ⟨HN1.out, HB3.out.lt⟩
  clear hU HU2 HB1 HB2 HB3 H1 H2 KA KS
  generalize w2.heap.size = B at *
  obtain ⟨M, hM⟩ : ∃ M : Nat, M = 3900 + n % 200 := ⟨_, rfl⟩
  have hMI : IntKind.i64.wrap (3900 + IntKind.i64.wrap ((n : Int).tmod 200)) = (M : Int) := by
    rw [Int.tmod_eq_emod_of_nonneg nn0, IntWalk.i64_in ((n : Int) % 200) (by omega), IntWalk.i64_in _ (by omega)]; omega
  have hM2 : M ≤ 5000 := by omega
  clear hM
  have HM2 := hid hM2
  have hmk : ∀ W : World, (Instr.makeSlice 33 (.int .i64 (IntKind.i64.wrap (3900 + IntKind.i64.wrap ((n : Int).tmod 200)))) (.int .i64 (IntKind.i64.wrap (3900 + IntKind.i64.wrap ((n : Int).tmod 200))))).run Tryd.prog W = .ok (.slice (some ⟨W.heap.size, 0, none⟩) M M) (W.alloc (.cells (madeCells #[.int .u8 0] M) 5)) := by
    intro W
    rw [hMI]
    have := run_make_row' (P := Tryd.prog) 33 5 (.int .u8 0) 1 Tryd.underlying33 infoByte8 rfl .i64 .i64 M (by omega) (by omega) W
    simpa using this
  have hcv := conv_made M M
  have HMI := hid trivial
  clear hMI hM2
  have HS : Hid (∀ w', Ext U w' → (w'.cell? ⟨B, 7, none⟩ = some (.slice (some ⟨n0 + 1 + 1 + 1, 0, none⟩) 1 1) ∧ w'.cell? ⟨n0 + 1 + 1 + 1, 0, none⟩ = some (.slice (some ⟨n0 + 1 + 1, 0, none⟩) 1 1)) ∧ w'.cell? ⟨n0 + 1 + 1, 3, none⟩ = some (str [116]) ∧ w'.frozen? ⟨n0 + 1 + 1, 3, none⟩ = false) := hid (fun W hW => by
    have b1 := HX.out.ext hW
    have b2 := HG2.out.ext hW
    have b3 := HG3a.out.ext hW
    exact ⟨⟨b1.cell 7, b3.cell 0⟩, b2.cell 3, b2.frozen 3⟩)
  obtain ⟨⟨p0, p0b⟩, p1, p2⟩ := HS.out U (Mod.refl _ _)
  have hcv2 : (convert 33 9 (.slice (some ⟨U.heap.size, 0, none⟩) M M)).run Tryd.prog (U.alloc (.cells (madeCells #[.int .u8 0] M) 5)).drew = .ok (str (List.replicate M 0)) (U.alloc (.cells (madeCells #[.int .u8 0] M) 5)).drew := hcv U.drew
  have HU1 : Ext U (U.alloc (.cells (madeCells #[.int .u8 0] M) 5)).drew := ((Mod.refl [] U).alloc _).drew
  obtain ⟨⟨p3, p3b⟩, p4, p5⟩ := HS.out _ HU1
  have HS2 : Hid (∀ w', Mod [n0 + 1 + 1] U w' → (w'.cell? ⟨B, 7, none⟩ = some (.slice (some ⟨n0 + 1 + 1 + 1, 0, none⟩) 1 1) ∧ w'.cell? ⟨n0 + 1 + 1 + 1, 0, none⟩ = some (.slice (some ⟨n0 + 1 + 1, 0, none⟩) 1 1))) := hid (fun W hW => ⟨(HX.out.mod hW (by have := HNW.out; simp; omega)).cell 7, (HG3a.out.mod hW (by simp)).cell 0⟩)
  clear HU1
  go_region_held (fun w' => w'.cell? ⟨B, 7, none⟩ = some (.slice (some ⟨n0 + 1 + 1 + 1, 0, none⟩) 1 1) ∧ w'.cell? ⟨n0 + 1 + 1 + 1, 0, none⟩ = some (.slice (some ⟨n0 + 1 + 1, 0, none⟩) 1 1)) (exact HS2.out _ (by (repeat (first | with_reducible exact Mod.refl _ _ | with_reducible refine Mod.drew ?_ | with_reducible refine Mod.alloc ?_ _ | with_reducible refine Mod.setCell ?_ (.inl (by simp)) _)))) (fail)
  generalize hU3 : World.drew _ = U3
  have HG3 : Hid (Blk U3 (n0 + 1 + 1) 38 #[.int .i64 1, .int .i64 2, .int .u64 0, str (List.replicate M 0), .slice none 0 0, .bool false]) := hid (by
    have hAr : (⟨Array.replicate M 0⟩ : ByteArray) = ⟨(List.replicate M 0).toArray⟩ := by simp
    rw [← hU3, hAr]
    exact ((HG2.out.alloc (.cells (madeCells #[.int .u8 0] M) 5)).set_ 3 (str (List.replicate M 0))).drew)
  have HX3 : Hid (Blk U3 B 31 #[.slice (some ⟨n0 + 1, 0, none⟩) 1 1, .int .i64 1, .int .i64 1, str [110, 111, 110, 101], .int .u64 0, .int .u64 0, .slice none 0 0, .slice (some ⟨n0 + 1 + 1 + 1, 0, none⟩) 1 1]) := hid (by rw [← hU3]; exact ((HX.out.alloc _).far (by have := HNW.out; simp; omega) _).drew)
  have HI3 : Hid (Blk U3 (n0 + 1) 3 #[.int .i64 1]) := hid (by rw [← hU3]; exact ((HG1.out.alloc _).far (by simp) _).drew)
  have HR3 : Hid (Blk U3 (n0 + 1 + 1 + 1) 28 #[.slice (some ⟨n0 + 1 + 1, 0, none⟩) 1 1]) := hid (by rw [← hU3]; exact ((HG3a.out.alloc _).far (by simp) _).drew)
  have HE3 : Hid (Ext w U3) := hid (by rw [← hU3]; exact (((HEU.out.alloc _).setCell (.inr (by have := HNW.out; show w.heap.size ≤ n0 + 1 + 1; omega)) _)).drew)
  clear hU3 HX HG1 HG2 HG3a HEU HS HS2 p0 p0b p1 p2 p3 p3b p4 p5 hcv hcv2 hmk
  obtain ⟨X, hX⟩ : ∃ X, List.replicate M (0 : UInt8) = X := ⟨_, rfl⟩
  have HXL : Hid (X.length ≤ 5000) := hid (by rw [← hX, List.length_replicate]; exact HM2.out)
  rw [hX] at HG3
  clear hX HM2 HMI
  have HAL : Hid (AsL U3 anyQ (someA X) ⟨some ⟨n0 + 1, 0, none⟩, 1, none, 0, some ⟨n0 + 1 + 1 + 1, 0, none⟩, 1⟩) := hid ⟨fun _ => ⟨n0 + 1, 0, rfl, HI3.out.lt, fun i hi => by
      have hi : i = 0 := by have : i < 1 := hi; omega
      subst hi; exact HI3.out.cell 0⟩, fun _ _ _ _ => trivial, fun h0 => absurd h0 (Nat.not_lt_zero _), fun _ => ⟨n0 + 1 + 1 + 1, 0, rfl, HR3.out.lt, trivial, fun i hi => by
      have hi : i = 0 := by have : i < 1 := hi; omega
      subst hi
      exact ⟨some ⟨n0 + 1 + 1, 0, none⟩, 1, HR3.out.cell 0, Nat.le_refl _, fun _ => ⟨n0 + 1 + 1, 0, rfl, HG3.out.lt, trivial, fun j hj => by
        have hj : j = 0 := by have : j < 1 := hj; omega
        subst hj
        exact ⟨none, 0, ⟨HG3.out.cell 0, HG3.out.cell 1, HG3.out.cell 2, HG3.out.cell 3, HG3.out.cell 4, HG3.out.cell 5⟩, IsL.leaf⟩⟩⟩⟩⟩
  have HWF := hid (someA_wf (x := X) (by have := HXL.out; omega))
  have HSM := hid (someA_small (x := X) (by have := HXL.out; omega))
  have HBL : Hid ((someA X).bytes.length ≤ 10000) := hid (by have := someA_len X; have := HXL.out; omega)
  have HRT : Hid ((someA X).right = decide ((someA X).bytes.length ≤ 4000)) := hid (by unfold AV.right; rw [someA_shaped]; rfl)
  have KB : Hid (∀ e : Later U3, Calls Tryd.prog 6 #[.agg #[.slice (some ⟨n0 + 1, 0, none⟩) 1 1, .int .i64 1, .int .i64 1, str [110, 111, 110, 101], .int .u64 0, .int .u64 0, .slice none 0 0, .slice (some ⟨n0 + 1 + 1 + 1, 0, none⟩) 1 1]] e.x (Ret (abuildV (someA X)) e.x)) := hid (fun e => aBuild_any (someA X) HWF.out (fun _ => HSM.out) ⟨some ⟨n0 + 1, 0, none⟩, 1, none, 0, some ⟨n0 + 1 + 1 + 1, 0, none⟩, 1⟩ (Nat.le_refl 1) e.x (HAL.out.ext e.h))
  have KR : Hid (∀ e : Later U3, Calls Tryd.prog 9 #[.agg #[.slice (some ⟨n0 + 1, 0, none⟩) 1 1, .int .i64 1, .int .i64 1, str [110, 111, 110, 101], .int .u64 0, .int .u64 0, .slice none 0 0, .slice (some ⟨n0 + 1 + 1 + 1, 0, none⟩) 1 1]] e.x (Ret (.bool (someA X).right) e.x)) := hid (fun e => aRight_any (someA X) HWF.out (fun _ => HSM.out) ⟨some ⟨n0 + 1, 0, none⟩, 1, none, 0, some ⟨n0 + 1 + 1 + 1, 0, none⟩, 1⟩ (Nat.le_refl 1) e.x (HAL.out.ext e.h))
  have KY : Hid (∀ e : Later U3, Calls Tryd.prog 7 #[.agg #[.slice (some ⟨n0 + 1, 0, none⟩) 1 1, .int .i64 1, .int .i64 1, str [110, 111, 110, 101], .int .u64 0, .int .u64 0, .slice none 0 0, .slice (some ⟨n0 + 1 + 1 + 1, 0, none⟩) 1 1]] e.x (Ret (str (someA X).bytes) e.x)) := hid (fun e => r15Bytes_any (someA X) HWF.out HSM.out someA_shaped ⟨some ⟨n0 + 1, 0, none⟩, 1, none, 0, some ⟨n0 + 1 + 1 + 1, 0, none⟩, 1⟩ e.x (HAL.out.ext e.h))
  have KP : Hid (∀ e : Later U3, Calls Tryd.prog 8 #[str (someA X).bytes] e.x (fun x w' => ∃ zc, ZC zc ∧ x = .returned (.tuple #[.agg zc, .int .i64 (if (someA X).right then 0 else 2)]) ∧ Ext e.x w')) := hid (fun e => (aparse_any (someA X).bytes HBL.out eb e.x (HF0.out _ (HE3.out.trans e.h))).mono fun x w' h => by
    rcases h with ⟨h1, h2, h3⟩ | ⟨b, m2, hb, _, h3, h4, _, _⟩
    · have hr : (someA X).right = false := by
        rw [← Bool.not_eq_true]; intro hr; exact h1 _ ⟨HWF.out, hr, rfl⟩
      exact ⟨_, ZC.mk' zeroA zeroM, by rw [h2, hr]; rfl, h3⟩
    · have hr : (someA X).right = true := by
        have h5 := hb.2.1
        unfold AV.right at h5
        rw [Bool.and_eq_true, hb.2.2] at h5
        rw [HRT.out]; exact h5.2
      exact ⟨_, ZC.mk' b m2, by rw [h3, hr]; rfl, h4⟩)
  clear HAL HI3 HR3 HG3 HWF HSM
  obtain ⟨BB, hBB⟩ : ∃ BB, (someA X).bytes = BB := ⟨_, rfl⟩
  have KB : Hid (∀ e : Later U3, Calls Tryd.prog 6 #[.agg #[.slice (some ⟨n0 + 1, 0, none⟩) 1 1, .int .i64 1, .int .i64 1, str [110, 111, 110, 101], .int .u64 0, .int .u64 0, .slice none 0 0, .slice (some ⟨n0 + 1 + 1 + 1, 0, none⟩) 1 1]] e.x (Ret (if (someA X).right then .tuple #[str BB, .int .i64 0] else .tuple #[str [], .int .i64 1]) e.x)) := hid (fun e => by rw [← hBB]; exact KB.out e)
  rw [hBB] at KY KP HRT HBL
  clear hBB
  obtain ⟨e, he⟩ := Later.self U3
  rw [he]
  clear he
  have tk1 : True := trivial
  have tk2 : True := trivial
  have tk3 : True := trivial
  have tk4 : True := trivial
  by_cases hl : BB.length ≤ 4000
  · rw [decide_eq_true hl] at HRT
    rw [HRT.out] at KB KR KP
    have u1a : decide ((4000 : Int) < (BB.length : Int)) = false := decide_eq_false (by omega)
    have u1b : ((4000 : Int) < (BB.length : Int)) = False := eq_false (by omega)
    have u2a : decide (4000 < BB.length) = false := decide_eq_false (by omega)
    have u2b : (4000 < BB.length) = False := eq_false (by omega)
    clear hl HRT
    go_upto_region 8 with (first | (clear tk1; refine wpList_row (by rfl) 31 _ rfl _ rfl (HX3.out.later _) Tryd.underlying31 rfl (by kernel_rfl) ?_) | (go_at_call 6; refine (Ret.later (KB.out _)).mono ?_; rintro x _ ⟨rfl, e, rfl⟩) | (clear tk2; refine wpList_row (by rfl) 31 _ rfl _ rfl (HX3.out.later _) Tryd.underlying31 rfl (by kernel_rfl) ?_) | (go_at_call 7; refine (Ret.later (KY.out _)).mono ?_; rintro x _ ⟨rfl, e, rfl⟩) | (go_at_call 8; refine (KP.out _).mono ?_; rintro x w3 ⟨zc, hzc, rfl, hb⟩; have HX4 := hid (e.h.trans hb); have HZC := hid hzc; clear hb hzc) | (clear tk3; refine wpList_store_mid rfl 31 _ _ rfl w3.heap.size 0 zc (by rfl) (by rfl) ((Blk.new _ _ _).there (by rw [HZC.out.s]; exact Nat.le_refl 8)) HZC.out.i HZC.out.o ?_))
    generalize hV4 : World.setCells _ _ _ _ = U4
    have HX5 : Hid (Ext U3 U4) := hid (by rw [← hV4]; exact setCells_mod _ _ (HX4.out.alloc _) (.inr HX4.out.size))
    have HX3 := hid (HX3.out.ext HX5.out)
    have HE3 := hid (HE3.out.trans HX5.out)
    have KR : Hid (∀ e : Later U4, Calls Tryd.prog 9 #[.agg #[.slice (some ⟨n0 + 1, 0, none⟩) 1 1, .int .i64 1, .int .i64 1, str [110, 111, 110, 101], .int .u64 0, .int .u64 0, .slice none 0 0, .slice (some ⟨n0 + 1 + 1 + 1, 0, none⟩) 1 1]] e.x (Ret (.bool true) e.x)) := hid (fun e => KR.out ⟨e.x, HX5.out.trans e.h⟩)
    clear hV4 HX4 KB KY KP e
    obtain ⟨e, he⟩ := Later.self U4
    rw [he]
    clear he
    go_wp2_with (first | (clear tk4; refine wpList_row (by rfl) 31 _ rfl _ rfl (HX3.out.later _) Tryd.underlying31 rfl (by kernel_rfl) ?_) | (go_at_call 9; refine (Ret.later (KR.out _)).mono ?_; rintro x _ ⟨rfl, e, rfl⟩))
    go_ret
    exact Ret.mk rfl (HE3.out.trans e.h)
  · rw [decide_eq_false hl] at HRT
    rw [HRT.out] at KB KR KP
    have u1a : decide ((4000 : Int) < (BB.length : Int)) = true := decide_eq_true (by omega)
    have u1b : ((4000 : Int) < (BB.length : Int)) = True := eq_true (by omega)
    have u2a : decide (4000 < BB.length) = true := decide_eq_true (by omega)
    have u2b : (4000 < BB.length) = True := eq_true (by omega)
    have hne : BB ≠ [] := by rintro rfl; simp at hl
    have hne2 : [] ≠ BB := fun h => hne h.symm
    have u3a : ((BB) == (([] : List UInt8))) = false := by rw [beq_eq_false_iff_ne]; exact hne
    have u3b : ((BB) = (([] : List UInt8))) = False := eq_false (by exact hne)
    have u3c : ((BB) != (([] : List UInt8))) = true := by rw [bne_iff_ne]; exact hne
    have u4a : ((([] : List UInt8)) == (BB)) = false := by rw [beq_eq_false_iff_ne]; exact hne2
    have u4b : ((([] : List UInt8)) = (BB)) = False := eq_false (by exact hne2)
    have u4c : ((([] : List UInt8)) != (BB)) = true := by rw [bne_iff_ne]; exact hne2
    clear hl HRT hne hne2
    go_upto_region 8 with (first | (clear tk1; refine wpList_row (by rfl) 31 _ rfl _ rfl (HX3.out.later _) Tryd.underlying31 rfl (by kernel_rfl) ?_) | (go_at_call 6; refine (Ret.later (KB.out _)).mono ?_; rintro x _ ⟨rfl, e, rfl⟩) | (clear tk2; refine wpList_row (by rfl) 31 _ rfl _ rfl (HX3.out.later _) Tryd.underlying31 rfl (by kernel_rfl) ?_) | (go_at_call 7; refine (Ret.later (KY.out _)).mono ?_; rintro x _ ⟨rfl, e, rfl⟩) | (go_at_call 8; refine (KP.out _).mono ?_; rintro x w3 ⟨zc, hzc, rfl, hb⟩; have HX4 := hid (e.h.trans hb); have HZC := hid hzc; clear hb hzc) | (clear tk3; refine wpList_store_mid rfl 31 _ _ rfl w3.heap.size 0 zc (by rfl) (by rfl) ((Blk.new _ _ _).there (by rw [HZC.out.s]; exact Nat.le_refl 8)) HZC.out.i HZC.out.o ?_))
    generalize hV4 : World.setCells _ _ _ _ = U4
    have HX5 : Hid (Ext U3 U4) := hid (by rw [← hV4]; exact setCells_mod _ _ (HX4.out.alloc _) (.inr HX4.out.size))
    have HX3 := hid (HX3.out.ext HX5.out)
    have HE3 := hid (HE3.out.trans HX5.out)
    have KR : Hid (∀ e : Later U4, Calls Tryd.prog 9 #[.agg #[.slice (some ⟨n0 + 1, 0, none⟩) 1 1, .int .i64 1, .int .i64 1, str [110, 111, 110, 101], .int .u64 0, .int .u64 0, .slice none 0 0, .slice (some ⟨n0 + 1 + 1 + 1, 0, none⟩) 1 1]] e.x (Ret (.bool false) e.x)) := hid (fun e => KR.out ⟨e.x, HX5.out.trans e.h⟩)
    clear hV4 HX4 KB KY KP e
    obtain ⟨e, he⟩ := Later.self U4
    rw [he]
    clear he
    go_wp2_with (first | (clear tk4; refine wpList_row (by rfl) 31 _ rfl _ rfl (HX3.out.later _) Tryd.underlying31 rfl (by kernel_rfl) ?_) | (go_at_call 9; refine (Ret.later (KR.out _)).mono ?_; rintro x _ ⟨rfl, e, rfl⟩))
    go_ret
    exact Ret.mk rfl (HE3.out.trans e.h)
end Go.Proofs.YtblfmokklfhklaaDoor
