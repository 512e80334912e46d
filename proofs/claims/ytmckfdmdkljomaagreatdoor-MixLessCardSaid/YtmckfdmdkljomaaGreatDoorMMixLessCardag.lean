/-
 Security texts, plainly: what is right; their items.
-/
import Derived.Test.YtmckfdmdkljomaaGreatDoorMMixLessCardaf
import Derived.Deep.AppendLies
import Derived.Deep.RegionLaw
import Derived.Shelf.Abstract
import Derived.Deep.Slices
import Derived.Deep.Fields
import Derived.ChangeSame
import Derived.SizedLaws
namespace Go.Proofs.YtmckfdmdkljomaaGreatDoor
open Go.RowKit
set_option linter.unusedVariables false
set_option linter.unusedSimpArgs false
structure PR where
 id : Int
 t : T
structure PL where
 k : Nat
 a : Nat -> PR
structure AV where
 tk : Nat
 tg : Nat -> Int
 ctx : Int
 src : EV
 ps : PL
 rk : Nat
 rs : Nat -> PL
def codedB (n : Int) : Bool := decide (0 <= n) && decide (n <= 65535)
def unlikeB (f : Nat -> Int) (k : Nat) : Bool := T.all (fun i => codedB (f i) && T.all (fun j => decide (f j ≠ f i)) i) k
def valB (t : T) : Bool := (decide (t.kind = 0) || decide (t.kind = 2)) && t.right 8
def pairsB (p : PL) : Bool := T.all (fun i => valB (p.a i).t) p.k && unlikeB (fun i => (p.a i).id) p.k
def resB (p : PL) : Bool := decide (1 <= p.k) && decide (p.k <= 4) && pairsB p
def AV.shaped (a : AV) : Bool := (decide (1 <= a.tk) && decide (a.tk <= 16) && unlikeB a.tg a.tk && codedB a.ctx && a.src.ok) && (decide (a.ps.k <= 8) && pairsB a.ps && decide (a.rk = a.tk)) && T.all (fun i => resB (a.rs i)) a.rk
def pairT (p : PR) : T := listT [numT p.id.toNat, p.t]
def plT (p : PL) : T := .mk 4 0 [] false p.k fun i => pairT (p.a i)
def tgT (k : Nat) (f : Nat -> Int) : T := .mk 4 0 [] false k fun i => numT (f i).toNat
def rsT (k : Nat) (f : Nat -> PL) : T := .mk 4 0 [] false k fun i => plT (f i)
def AV.items (a : AV) : List T := if a.ps.k = 0 then [tgT a.tk a.tg, numT a.ctx.toNat, numT 0, eidT a.src, rsT a.rk a.rs] else [tgT a.tk a.tg, numT a.ctx.toNat, numT 1, eidT a.src, plT a.ps, rsT a.rk a.rs]
def AV.bytes (a : AV) : List UInt8 := (a.items.map T.bytes).flatten
def AV.right (a : AV) : Bool := a.shaped && decide (a.bytes.length <= 4000)
def PL.wf (p : PL) : Prop := p.k < 4611686018427387904 /\ ∀ i, i < p.k -> (p.a i).t.ok /\ (-9223372036854775808 <= (p.a i).id /\ (p.a i).id <= 9223372036854775807)
def AV.wf (a : AV) : Prop := (a.tk < 4611686018427387904 /\ ∀ i, i < a.tk -> -9223372036854775808 <= a.tg i /\ a.tg i <= 9223372036854775807) /\ (-9223372036854775808 <= a.ctx /\ a.ctx <= 9223372036854775807) /\ a.src.name.length < 4611686018427387904 /\ a.ps.wf /\ a.rk < 4611686018427387904 /\ ∀ i, i < a.rk -> (a.rs i).wf
def AV.small (a : AV) : Prop := (plT a.ps).size <= 100000 /\ (rsT a.rk a.rs).size <= 100000
theorem codedB_iff {n : Int} : codedB n = true ↔ 0 <= n /\ n <= 65535 := by simp [codedB]
theorem unlikeB_coded {f : Nat -> Int} {k : Nat} (h : unlikeB f k = true) : ∀ i, i < k -> 0 <= f i /\ f i <= 65535 := fun i hi => by
 have := T.all_iff.1 h i hi
 rw [Bool.and_eq_true] at this
 exact codedB_iff.1 this.1
theorem valB_right {t : T} (h : valB t = true) : t.right 8 = true := by
 unfold valB at h
 rw [Bool.and_eq_true] at h
 exact h.2
theorem valB_deep {t : T} (h : valB t = true) : ∀ d, 1 <= d -> t.right d = true := by
 intro d hd
 unfold valB at h
 cases t with
 | nil => simp [T.right] at h
 | mk kind n s op k ch =>
  rw [Bool.and_eq_true, Bool.or_eq_true] at h
  obtain ⟨h1, h2⟩ := h
  have h1 : kind = 0 \/ kind = 2 := h1.elim (fun h => .inl (of_decide_eq_true h)) (fun h => .inr (of_decide_eq_true h))
  unfold T.right at h2 ⊢
  rw [if_neg (by omega), Bool.and_eq_true] at h2
  rw [if_neg (by omega), Bool.and_eq_true]
  refine ⟨h2.1, ?_⟩
  have hk : k = 0 := by
   have h3 := h2.1
   unfold T.node at h3
   rcases h1 with rfl | rfl
   . simp at h3; omega
   . simp at h3; omega
  subst hk
  rfl
theorem pair_right {p : PR} {d : Nat} (hd : 2 <= d) (hi : 0 <= p.id /\ p.id <= 65535) (h : valB p.t = true) : (pairT p).right d = true := by
 refine listT_right (by omega) (by simp) fun t ht => ?_
 simp only [List.mem_cons, List.not_mem_nil, or_false] at ht
 rcases ht with rfl | rfl
 . exact (numT_all _ (by omega)).2.1 _ (by omega)
 . exact valB_deep h _ (by omega)
theorem pair_ok {p : PR} (hi : 0 <= p.id /\ p.id <= 65535) (h : p.t.ok) : (pairT p).ok := by
 refine listT_ok (by simp) fun t ht => ?_
 simp only [List.mem_cons, List.not_mem_nil, or_false] at ht
 rcases ht with rfl | rfl
 . exact num_ok (by omega)
 . exact h
theorem pairsB_iff {p : PL} : pairsB p = true ↔ (∀ i, i < p.k -> valB (p.a i).t = true) /\ unlikeB (fun i => (p.a i).id) p.k = true := by
 unfold pairsB
 rw [Bool.and_eq_true, T.all_iff]
theorem pl_right {p : PL} {d : Nat} (hd : 3 <= d) (hk : p.k <= 1000) (h : pairsB p = true) : (plT p).right d = true := by
 obtain ⟨h1, h2⟩ := pairsB_iff.1 h
 unfold plT T.right
 rw [if_neg (by omega), Bool.and_eq_true, T.all_iff]
 exact ⟨by simp [T.node, hk], fun i hi => pair_right (by omega) (unlikeB_coded h2 i hi) (h1 i hi)⟩
theorem pl_ok {p : PL} (hw : p.wf) (h : pairsB p = true) : (plT p).ok := by
 obtain ⟨h1, h2⟩ := pairsB_iff.1 h
 unfold plT T.ok
 exact ⟨by omega, by omega, by simp, hw.1, fun i hi => pair_ok (unlikeB_coded h2 i hi) (hw.2 i hi).1⟩
theorem tg_right {k : Nat} {f : Nat -> Int} {d : Nat} (hd : 2 <= d) (hk : k <= 1000) (h : unlikeB f k = true) : (tgT k f).right d = true := by
 unfold tgT T.right
 rw [if_neg (by omega), Bool.and_eq_true, T.all_iff]
 exact ⟨by simp [T.node, hk], fun i hi => (numT_all _ (by have := unlikeB_coded h i hi; omega)).2.1 _ (by omega)⟩
theorem tg_ok {k : Nat} {f : Nat -> Int} (hk : k <= 1000) (h : unlikeB f k = true) : (tgT k f).ok := by
 unfold tgT T.ok
 exact ⟨by omega, by omega, by simp, by omega, fun i hi => num_ok (by have := unlikeB_coded h i hi; omega)⟩
theorem tg_size {k : Nat} {f : Nat -> Int} (hk : k <= 1000) : (tgT k f).size <= 2001 := by
 unfold tgT T.size
 have := sum_le_each (f := fun i => (numT (f i).toNat).size) (B := 1) (k := k) (fun i _ => by simp [numT, T.size, T.sum])
 simp; omega
theorem resB_iff {p : PL} : resB p = true ↔ (1 <= p.k /\ p.k <= 4) /\ pairsB p = true := by
 unfold resB; simp [and_assoc]
theorem rs_right {k : Nat} {f : Nat -> PL} {d : Nat} (hd : 4 <= d) (hk : k <= 1000) (h : T.all (fun i => resB (f i)) k = true) : (rsT k f).right d = true := by
 unfold rsT T.right
 rw [if_neg (by omega), Bool.and_eq_true, T.all_iff]
 exact ⟨by simp [T.node, hk], fun i hi => by
  obtain ⟨h1, h2⟩ := resB_iff.1 (T.all_iff.1 h i hi)
  exact pl_right (by omega) (by omega) h2⟩
theorem rs_ok {k : Nat} {f : Nat -> PL} (hk : k <= 1000) (hw : ∀ i, i < k -> (f i).wf) (h : T.all (fun i => resB (f i)) k = true) : (rsT k f).ok := by
 unfold rsT T.ok
 exact ⟨by omega, by omega, by simp, by omega, fun i hi => pl_ok (hw i hi) (resB_iff.1 (T.all_iff.1 h i hi)).2⟩
theorem AV.shaped_iff {a : AV} : a.shaped = true ↔ (1 <= a.tk /\ a.tk <= 16) /\ unlikeB a.tg a.tk = true /\ codedB a.ctx = true /\ a.src.ok = true /\ a.ps.k <= 8 /\ pairsB a.ps = true /\ a.rk = a.tk /\ T.all (fun i => resB (a.rs i)) a.rk = true := by
 unfold AV.shaped
 simp only [Bool.and_eq_true, decide_eq_true_eq]
 constructor
 .
  rintro ⟨⟨⟨⟨⟨⟨h1, h2⟩, h3⟩, h4⟩, h5⟩, ⟨⟨h6, h7⟩, h8⟩⟩, h9⟩
  exact ⟨⟨h1, h2⟩, h3, h4, h5, h6, h7, h8, h9⟩
 .
  rintro ⟨⟨h1, h2⟩, h3, h4, h5, h6, h7, h8, h9⟩
  exact ⟨⟨⟨⟨⟨⟨h1, h2⟩, h3⟩, h4⟩, h5⟩, ⟨⟨h6, h7⟩, h8⟩⟩, h9⟩
theorem AV.items_all {a : AV} (hw : a.wf) (hs : a.small) (h : a.shaped = true) : ∀ t ∈ a.items, t.ok /\ t.right 8 = true /\ t.size <= 100000 := by
 obtain ⟨⟨h1, h2⟩, h3, h4, h5, h6, h7, h8, h9⟩ := AV.shaped_iff.1 h
 obtain ⟨w1, w2, w3, w4, w5, w6⟩ := hw
 have c := codedB_iff.1 h4
 have ntg : (tgT a.tk a.tg).ok /\ (tgT a.tk a.tg).right 8 = true /\ (tgT a.tk a.tg).size <= 100000 := ⟨tg_ok (by omega) h3, tg_right (by omega) (by omega) h3, by have := tg_size (k := a.tk) (f := a.tg) (by omega); omega⟩
 have nn : ∀ n, n <= 65535 -> (numT n).ok /\ (numT n).right 8 = true /\ (numT n).size <= 100000 := fun n hn => by
  have := numT_all n (by omega)
  exact ⟨this.1, this.2.1 8 (by omega), by have := this.2.2.1; omega⟩
 have ne : (eidT a.src).ok /\ (eidT a.src).right 8 = true /\ (eidT a.src).size <= 100000 := by
  have := eidT_ok h5
  exact ⟨this.1, this.2.1 8 (by omega), this.2.2.2⟩
 have np : (plT a.ps).ok /\ (plT a.ps).right 8 = true /\ (plT a.ps).size <= 100000 := ⟨pl_ok w4 h7, pl_right (by omega) (by omega) h7, hs.1⟩
 have nr : (rsT a.rk a.rs).ok /\ (rsT a.rk a.rs).right 8 = true /\ (rsT a.rk a.rs).size <= 100000 := ⟨rs_ok (by omega) w6 h9, rs_right (by omega) (by omega) h9, hs.2⟩
 intro t ht
 unfold AV.items at ht
 split at ht
 .
  simp only [List.mem_cons, List.not_mem_nil, or_false] at ht
  rcases ht with rfl | rfl | rfl | rfl | rfl
  . exact ntg
  . exact nn _ (by omega)
  . exact nn _ (by omega)
  . exact ne
  . exact nr
 .
  simp only [List.mem_cons, List.not_mem_nil, or_false] at ht
  rcases ht with rfl | rfl | rfl | rfl | rfl | rfl
  . exact ntg
  . exact nn _ (by omega)
  . exact nn _ (by omega)
  . exact ne
  . exact np
  . exact nr
def NsL (w : World) (A : Option Addr) (k : Nat) (f : Nat -> Int) : Prop := 0 < k -> ∃ b o, A = some ⟨b, o, none⟩ /\ b < w.heap.size /\ ∀ i, i < k -> w.cell? ⟨b, o + i, none⟩ = some (.int .i64 (f i))
def At6 (w : World) (b o : Nat) (p : PR) (A : Option Addr) (c : Nat) : Prop := w.cell? ⟨b, o, none⟩ = some (.int .i64 p.id) /\ w.cell? ⟨b, o + 1, none⟩ = some (.int .i64 p.t.kind) /\ w.cell? ⟨b, o + 2, none⟩ = some (.int .u64 (p.t.n : Int)) /\ w.cell? ⟨b, o + 3, none⟩ = some (str p.t.s) /\ w.cell? ⟨b, o + 4, none⟩ = some (.slice A p.t.k c) /\ w.cell? ⟨b, o + 5, none⟩ = some (.bool p.t.op)
theorem At6.five {w : World} {b o : Nat} {p : PR} {A : Option Addr} {c : Nat} (h : At6 w b o p A c) : At5 w b (o + 1) p.t A c := ⟨h.2.1, h.2.2.1, h.2.2.2.1, h.2.2.2.2.1, h.2.2.2.2.2⟩
def PsL (w : World) (Q : Nat -> Prop) (A : Option Addr) (p : PL) : Prop := 0 < p.k -> ∃ b o, A = some ⟨b, o, none⟩ /\ b < w.heap.size /\ Q b /\ ∀ i, i < p.k -> ∃ Ai ci, At6 w b (o + i * 6) (p.a i) Ai ci /\ IsL w Q (p.a i).t Ai
def RsL (w : World) (Q : Nat -> Prop) (A : Option Addr) (k : Nat) (f : Nat -> PL) : Prop := 0 < k -> ∃ b o, A = some ⟨b, o, none⟩ /\ b < w.heap.size /\ Q b /\ ∀ i, i < k -> ∃ Ai ci, w.cell? ⟨b, o + i, none⟩ = some (.slice Ai (f i).k ci) /\ (f i).k <= ci /\ PsL w Q Ai (f i)
abbrev anyQ : Nat -> Prop := fun _ => True
theorem NsL.mod {S : List Nat} {w w' : World} {A : Option Addr} {k : Nat} {f : Nat -> Int} (h : NsL w A k f) (hm : Mod S w w') (hs : ∀ b o, A = some ⟨b, o, none⟩ -> b < w.heap.size -> b ∉ S) : NsL w' A k f := fun h0 => by
 obtain ⟨b, o, hA, hb, hc⟩ := h h0
 exact ⟨b, o, hA, Nat.lt_of_lt_of_le hb hm.size, fun i hi => (hm.cell hb (hs b o hA hb)).trans (hc i hi)⟩
theorem NsL.ext {w w' : World} {A : Option Addr} {k : Nat} {f : Nat -> Int} (h : NsL w A k f) (hm : Ext w w') : NsL w' A k f := h.mod hm (by simp)
theorem At6.mod {S : List Nat} {w w' : World} {b o : Nat} {p : PR} {A : Option Addr} {c : Nat} (h : At6 w b o p A c) (hm : Mod S w w') (hb : b < w.heap.size) (hs : b ∉ S) : At6 w' b o p A c := by
 obtain ⟨h0, h1, h2, h3, h4, h5⟩ := h
 exact ⟨(hm.cell hb hs).trans h0, (hm.cell hb hs).trans h1, (hm.cell hb hs).trans h2, (hm.cell hb hs).trans h3, (hm.cell hb hs).trans h4, (hm.cell hb hs).trans h5⟩
theorem PsL.mod {S : List Nat} {Q : Nat -> Prop} {w w' : World} {A : Option Addr} {p : PL} (h : PsL w Q A p) (hm : Mod S w w') (hs : ∀ k, Q k -> k < w.heap.size -> k ∉ S) : PsL w' Q A p := fun h0 => by
 obtain ⟨b, o, hA, hb, hq, hc⟩ := h h0
 refine ⟨b, o, hA, Nat.lt_of_lt_of_le hb hm.size, hq, fun i hi => ?_⟩
 obtain ⟨Ai, ci, h1, h2⟩ := hc i hi
 exact ⟨Ai, ci, h1.mod hm hb (hs b hq hb), IsL.mod hm hs _ h2⟩
theorem PsL.ext {Q : Nat -> Prop} {w w' : World} {A : Option Addr} {p : PL} (h : PsL w Q A p) (hm : Ext w w') : PsL w' Q A p := h.mod hm (by simp)
theorem PsL.weak {Q R : Nat -> Prop} {w : World} {A : Option Addr} {p : PL} (h : PsL w Q A p) (hq : ∀ k, k < w.heap.size -> Q k -> R k) : PsL w R A p := fun h0 => by
 obtain ⟨b, o, hA, hb, hqb, hc⟩ := h h0
 refine ⟨b, o, hA, hb, hq b hb hqb, fun i hi => ?_⟩
 obtain ⟨Ai, ci, h1, h2⟩ := hc i hi
 exact ⟨Ai, ci, h1, IsL.weak hq _ h2⟩
theorem RsL.mod {S : List Nat} {Q : Nat -> Prop} {w w' : World} {A : Option Addr} {k : Nat} {f : Nat -> PL} (h : RsL w Q A k f) (hm : Mod S w w') (hs : ∀ k, Q k -> k < w.heap.size -> k ∉ S) : RsL w' Q A k f := fun h0 => by
 obtain ⟨b, o, hA, hb, hq, hc⟩ := h h0
 refine ⟨b, o, hA, Nat.lt_of_lt_of_le hb hm.size, hq, fun i hi => ?_⟩
 obtain ⟨Ai, ci, h1, hkc, h2⟩ := hc i hi
 exact ⟨Ai, ci, (hm.cell hb (hs b hq hb)).trans h1, hkc, h2.mod hm hs⟩
theorem RsL.ext {Q : Nat -> Prop} {w w' : World} {A : Option Addr} {k : Nat} {f : Nat -> PL} (h : RsL w Q A k f) (hm : Ext w w') : RsL w' Q A k f := h.mod hm (by simp)
theorem RsL.weak {Q R : Nat -> Prop} {w : World} {A : Option Addr} {k : Nat} {f : Nat -> PL} (h : RsL w Q A k f) (hq : ∀ k, k < w.heap.size -> Q k -> R k) : RsL w R A k f := fun h0 => by
 obtain ⟨b, o, hA, hb, hqb, hc⟩ := h h0
 refine ⟨b, o, hA, hb, hq b hb hqb, fun i hi => ?_⟩
 obtain ⟨Ai, ci, h1, hkc, h2⟩ := hc i hi
 exact ⟨Ai, ci, h1, hkc, h2.weak hq⟩
abbrev prC (p : PR) (A : Option Addr) (c : Nat) : Array Value := #[.int .i64 p.id, .int .i64 p.t.kind, .int .u64 (p.t.n : Int), str p.t.s, .slice A p.t.k c, .bool p.t.op]
structure AA where
 t : Option Addr
 tc : Nat
 p : Option Addr
 pc : Nat
 r : Option Addr
 rc : Nat
abbrev asbC (a : AV) (m : AA) : Array Value := #[.slice m.t a.tk m.tc, .int .i64 a.ctx, .int .i64 a.src.sch, str a.src.name, .int .u64 (a.src.node : Int), .int .u64 (a.src.svc : Int), .slice m.p a.ps.k m.pc, .slice m.r a.rk m.rc]
abbrev asbV (a : AV) (m : AA) : Value := .agg (asbC a m)
structure AsL (w : World) (Q : Nat -> Prop) (a : AV) (m : AA) : Prop where
 t : NsL w m.t a.tk a.tg
 tq : ∀ b o, m.t = some ⟨b, o, none⟩ -> 0 < a.tk -> Q b
 p : PsL w Q m.p a.ps
 r : RsL w Q m.r a.rk a.rs
theorem AsL.mod {S : List Nat} {Q : Nat -> Prop} {w w' : World} {a : AV} {m : AA} (h : AsL w Q a m) (hm : Mod S w w') (hs : ∀ k, Q k -> k < w.heap.size -> k ∉ S) : AsL w' Q a m :=
 ⟨fun h0 => by
  obtain ⟨b, o, hA, hb, hc⟩ := h.t h0
  exact ⟨b, o, hA, Nat.lt_of_lt_of_le hb hm.size, fun i hi => (hm.cell hb (hs b (h.tq b o hA h0) hb)).trans (hc i hi)⟩, h.tq, h.p.mod hm hs, h.r.mod hm hs⟩
theorem AsL.ext {Q : Nat -> Prop} {w w' : World} {a : AV} {m : AA} (h : AsL w Q a m) (hm : Ext w w') : AsL w' Q a m := h.mod hm (by simp)
theorem coded_any (n : Int) (w : World) : Calls Tryz.prog 152 #[.int .i64 n] w (fun e w' => e = .returned (.bool (codedB n)) /\ w' = w) := by
 go_enter Tryz.func152, Tryz.ntmps152
 go_wp2
 all_goals go_ret
 all_goals exact ⟨ret_bool (by unfold codedB; rw [Bool.eq_iff_iff]; simp [*]; try omega), rfl⟩
def isN (f : Nat -> Int) (x : Int) (i : Nat) : Bool := x == f i
set_option maxHeartbeats 800000 in
theorem IndexN_any (A : Option Addr) (f : Nat -> Int) (k c : Nat) (x : Int) (hk : k < 4611686018427387904) (w : World) (h : NsL w A k f) :
  Calls Tryz.prog 80 #[.slice A k c, .int .i64 x] w (Ret (.int .i64 (firstI (isN f x) k)) w) := by
 have H := hid h; have HK := hid hk
 clear h hk
 have k1 : (k : Int) < 4611686018427387904 := by have := HK.out; omega
 go_enter Tryz.func80, Tryz.ntmps80
 go_upto_region 2 with fail
 go_loopw [8] (fun s8 wr => ∃ j : Nat, j <= k /\ s8 = .int .i64 (j : Int) /\ wr = w /\ Hid (∀ i, i < j -> isN f x i = false)) (fun s8 _ => k - (intOf s8).toNat)
 case atStart => exact ⟨0, Nat.zero_le _, rfl, rfl, fun i h => absurd h (Nat.not_lt_zero _)⟩
 case round =>
  obtain ⟨j, hj, rfl, rfl, hno⟩ := hrel
  have j0 : (0 : Int) <= (j : Int) := by omega
  by_cases hlt : j < k
  .
   obtain ⟨b, o, rfl, hb, hc⟩ := H.out (by omega)
   have c0 := hc j hlt
   have j1 : (j : Int) < (k : Int) := by omega
   have tc : decide (j < k) = true := by simp [hlt]
   clear hc
   cases hq : isN f x j with
   | true =>
    have HQ := hid hq
    have tq : (x == f j) = true := hq
    have tq2 : (x = f j) = True := by rw [beq_iff_eq] at tq; exact eq_true tq
    clear hq
    go_wp2_with fail
    go_ret
    refine Ret.mk ?_ (Mod.refl _ _)
    unfold firstI
    rw [firstOf_some hlt HQ.out hno.out]; rfl
   | false =>
    have HQ := hid hq
    have tq : (x == f j) = false := hq
    have tq2 : (x = f j) = False := by rw [beq_eq_false_iff_ne] at tq; exact eq_false tq
    clear hq
    go_wp2_with fail
    go_roundw
    case rel =>
     refine ⟨j + 1, by omega, by go_num, by trivial, (show Hid _ from fun i hi => ?_)⟩
     by_cases e : i = j
     . subst e; exact HQ.out
     . exact hno.out i (by omega)
    case measure => simp [intOf]; omega
  .
   obtain rfl : j = k := by omega
   have tc : decide (j < j) = false := by simp
   go_wp2_with fail
   go_ret
   refine Ret.mk ?_ (Mod.refl _ _)
   unfold firstI
   rw [firstOf_none hno.out]; rfl
theorem firstI_is {p : Nat -> Bool} {k : Nat} : decide (0 <= firstI p k) = (firstOf p k).isSome := by
 unfold firstI
 cases firstOf p k <;> simp
set_option maxHeartbeats 800000 in
theorem ContainsN_any (A : Option Addr) (f : Nat -> Int) (k c : Nat) (x : Int) (hk : k < 4611686018427387904) (w : World) (h : NsL w A k f) :
  Calls Tryz.prog 52 #[.slice A k c, .int .i64 x] w (Ret (.bool (firstOf (isN f x) k).isSome) w) := by
 have K := hid (IndexN_any A f k c x hk w h)
 have hX := hid (firstI_is (p := isN f x) (k := k))
 generalize firstI (isN f x) k = X at *
 generalize (firstOf (isN f x) k).isSome = B at *
 clear h
 go_enter Tryz.func52, Tryz.ntmps52
 go_wp2_with (go_at_call 80; refine K.out.mono ?_; rintro e w' ⟨rfl, hb'⟩)
 go_ret
 exact Ret.mk (congrArg Value.bool hX.out) hb'
theorem contains_all {f : Nat -> Int} {x : Int} {k : Nat} : (firstOf (isN f x) k).isSome = !(T.all (fun j => decide (f j ≠ x)) k) := by
 cases h : firstOf (isN f x) k with
 | none =>
  have := firstOf_no h
  have h2 : T.all (fun j => decide (f j ≠ x)) k = true := T.all_iff.2 fun i hi => by
   have := this i hi
   unfold isN at this
   rw [beq_eq_false_iff_ne] at this
   simpa using fun e => this e.symm
  rw [h2]; rfl
 | some i =>
  obtain ⟨h1, h2, _⟩ := firstOf_spec h
  have h3 : T.all (fun j => decide (f j ≠ x)) k = false := by
   cases hh : T.all (fun j => decide (f j ≠ x)) k with
   | false => rfl
   | true =>
    have := T.all_iff.1 hh i h1
    unfold isN at h2
    rw [beq_iff_eq] at h2
    simp [h2] at this
  rw [h3]; rfl
def fitB (f : Nat -> Int) (i : Nat) : Bool := codedB (f i) && !(firstOf (isN f (f i)) i).isSome
theorem unlike_fit (f : Nat -> Int) (k : Nat) : unlikeB f k = T.all (fitB f) k := by
 unfold unlikeB fitB
 congr 1
 funext i
 rw [contains_all, Bool.not_not]
theorem all_no {f : Nat -> Bool} {k i : Nat} (hi : i < k) (h : f i = false) : T.all f k = false := by
 cases hh : T.all f k with
 | false => rfl
 | true => have := T.all_iff.1 hh i hi; rw [h] at this; cases this
theorem NsL.take {w : World} {A : Option Addr} {k : Nat} {f : Nat -> Int} (h : NsL w A k f) {i : Nat} (hi : i <= k) : NsL w A i f := fun h0 => by
 obtain ⟨b, o, hA, hb, hc⟩ := h (by omega)
 exact ⟨b, o, hA, hb, fun j hj => hc j (by omega)⟩
set_option maxHeartbeats 1600000 in
set_option maxRecDepth 20000 in
theorem unlike_any (A : Option Addr) (f : Nat -> Int) (k c : Nat) (hk : k < 4611686018427387904) (hkc : k <= c) (w : World) (h : NsL w A k f) :
  Calls Tryz.prog 151 #[.slice A k c] w (Ret (.bool (unlikeB f k)) w) := by
 rw [unlike_fit]
 have HL := hid h
 have HK := hid hk
 have HKC := hid hkc
 have k1 : (k : Int) < 4611686018427387904 := by omega
 clear h hk hkc
 obtain ⟨e0, he0⟩ := Later.self w
 go_enter Tryz.func151, Tryz.ntmps151
 go_wp2_with fail
 go_loopw [7] (fun s7 wr => ∃ i : Nat, s7 = .int .i64 (i : Int) /\ Hid (i <= k /\ T.all (fitB f) i = true) /\ ∃ e : Later w, wr = e.x) (fun s7 _ => k - (intOf s7).toNat)
 case atStart => exact ⟨0, rfl, (show Hid _ from ⟨Nat.zero_le _, rfl⟩), e0, (by first | exact he0 | rfl)⟩
 case round =>
  clear he0 e0
  obtain ⟨i, rfl, hi, e, rfl⟩ := hrel
  have i0 : (0 : Int) <= (i : Int) := by omega
  by_cases hlt : i < k
  .
   obtain ⟨b, o, rfl, hb, hc⟩ := HL.out (by omega)
   have c0 : e.x.cell? ⟨b, o + i, none⟩ = some (.int .i64 (f i)) := (e.h.cell hb (by simp)).trans (hc i hlt)
   have tc : decide (i < k) = true := by simp [hlt]
   have i1 : (i : Int) < (k : Int) := by omega
   have i2 : (i : Int) <= (c : Int) := by have := HKC.out; omega
   have i3 : i <= c := by have := HKC.out; omega
   have HLT := hid hlt
   have KC := hid (fun W => coded_any (f i) W)
   have KN := hid (fun e : Later w => ContainsN_any (some ⟨b, o, none⟩) f i c (f i) (by have := HK.out; omega) e.x ((HL.out.ext e.h).take (by omega)))
   clear hlt hc hb
   cases hcd : codedB (f i) with
   | false =>
    rw [hcd] at KC
    have HN := hid (all_no HLT.out (show fitB f i = false by unfold fitB; rw [hcd]; rfl))
    clear hcd KN
    go_wp2_with (go_at_call 152; refine (KC.out _).mono ?_; rintro e' w' ⟨rfl, rfl⟩)
    go_ret
    exact Ret.mk (by rw [HN.out]; rfl) e.h
   | true =>
    rw [hcd] at KC
    have HCD := hid hcd
    clear hcd
    cases hf : (firstOf (isN f (f i)) i).isSome with
    | true =>
     rw [hf] at KN
     have HN := hid (all_no HLT.out (show fitB f i = false by unfold fitB; rw [hf, Bool.and_comm]; rfl))
     clear hf
     go_wp2_with (first | (go_at_call 152; refine (KC.out _).mono ?_; rintro e' w' ⟨rfl, rfl⟩) | (go_at_call 52; refine (Ret.later (KN.out _)).mono ?_; rintro x _ ⟨rfl, e, rfl⟩))
     go_ret
     exact Ret.mk (by rw [HN.out]; rfl) e.h
    | false =>
     rw [hf] at KN
     have HN : Hid (fitB f i = true) := hid (by unfold fitB; rw [hf, HCD.out]; rfl)
     clear hf
     go_wp2_with (first | (go_at_call 152; refine (KC.out _).mono ?_; rintro e' w' ⟨rfl, rfl⟩) | (go_at_call 52; refine (Ret.later (KN.out _)).mono ?_; rintro x _ ⟨rfl, e, rfl⟩))
     go_roundw
     case rel => exact ⟨i + 1, by go_num, (show Hid _ from ⟨HLT.out, by rw [T.all, hi.out.2, HN.out]; rfl⟩), e, rfl⟩
     case measure => have := HLT.out; simp [intOf]; omega
  .
   obtain rfl : i = k := by have := hi.out.1; omega
   have tc : decide (i < i) = false := by simp
   go_wp2_with fail
   go_ret
   exact Ret.mk (by rw [hi.out.2]; rfl) e.h
theorem infoInt : (Tryz.prog.info? 3).map (fun i => (i.zero, i.size, i.bytes)) = some (some (.int .i64 0), 1, 8) := by kernel_rfl
abbrev numsF (f : Nat -> Int) (i : Nat) : List Value := [.int .i64 (f i)]
theorem numsF_len (f : Nat -> Int) (i : Nat) : (numsF f i).length = 1 := rfl
theorem own_NsL {W : World} {base k c : Nat} {A : Option Addr} {f : Nat -> Int} (h : W.ownsRow base 3 1 (.slice A k c) k (flatG (numsF f) k)) : NsL W A k f := by
 intro h0
 obtain ⟨k', rfl⟩ : ∃ k', k = k' + 1 := ⟨k - 1, by omega⟩
 obtain ⟨g, c', hv, hb, hlt⟩ := own_form h
 simp only [Value.slice.injEq] at hv
 obtain ⟨rfl, _, rfl⟩ := hv
 refine ⟨g, 0, rfl, hlt, fun i hi => ?_⟩
 have := flatG_own (z := 1) (numsF_len f) h hi (r := 0) (by omega) (u := .int .i64 (f i)) rfl
 rw [Nat.mul_one, Nat.add_zero] at this
 rw [Nat.zero_add]; exact this
theorem infoBlock : (Tryz.prog.info? 45).map (fun i => (i.zero, i.size, i.bytes)) = some (some (.agg #[.int .i64 0, .int .i64 0, .int .u64 0, .int .i64 0, .string ⟨#[]⟩]), 5, 48) := by kernel_rfl
def flatB (bs : Nat -> BV) : Nat -> List Value
 | 0 => []
 | i + 1 => flatB bs i ++ [.int .i64 (bs i).ty, .int .i64 (bs i).num, .int .u64 ((bs i).fl : Int), .int .i64 (bs i).crc, str (bs i).data]
theorem flatB_length (bs : Nat -> BV) (i : Nat) : (flatB bs i).length = i * 5 := by
 induction i with
 | zero => rfl
 | succ i ih => rw [flatB, List.length_append, ih]; simp; omega
theorem flatB_congr {bs bs' : Nat -> BV} {i : Nat} (h : ∀ j, j < i -> bs j = bs' j) : flatB bs i = flatB bs' i := by
 induction i with
 | zero => rfl
 | succ i ih => rw [flatB, flatB, ih (fun j hj => h j (by omega)), h i (by omega)]
theorem flatB_get (bs : Nat -> BV) (i : Nat) : ∀ j, j < i -> (flatB bs i)[j * 5]? = some (.int .i64 (bs j).ty) /\ (flatB bs i)[j * 5 + 1]? = some (.int .i64 (bs j).num) /\ (flatB bs i)[j * 5 + 2]? = some (.int .u64 ((bs j).fl : Int)) /\
  (flatB bs i)[j * 5 + 3]? = some (.int .i64 (bs j).crc) /\ (flatB bs i)[j * 5 + 4]? = some (str (bs j).data) := by
 induction i with
 | zero => intro j hj; omega
 | succ i ih =>
  intro j hj
  have hl := flatB_length bs i
  rw [flatB]
  by_cases e : j = i
  .
   subst e
   refine ⟨?_, ?_, ?_, ?_, ?_⟩ <;> (rw [List.getElem?_append_right (by omega), hl]; simp)
  .
   have := ih j (by omega)
   refine ⟨?_, ?_, ?_, ?_, ?_⟩ <;> rw [List.getElem?_append_left (by omega)]
   . exact this.1
   . exact this.2.1
   . exact this.2.2.1
   . exact this.2.2.2.1
   . exact this.2.2.2.2
theorem flatB_idx (bs : Nat -> BV) (k : Nat) {j : Nat} {u : Value} (h : (flatB bs k)[j]? = some u) : ∃ i r, i < k /\ r < 5 /\ j = i * 5 + r := by
 have := (List.getElem?_eq_some_iff.1 h).1
 rw [flatB_length] at this
 exact ⟨j / 5, j % 5, by omega, by omega, by omega⟩
theorem flatB_news {W : World} {b o : Nat} {bs : Nat -> BV} {k : Nat} (h : ∀ i, i < k -> BAt W b (o + i * 5) (bs i)) : ∀ j u, (flatB bs k)[j]? = some u -> W.cell? ((⟨b, o, none⟩ : Addr).add j) = some u := by
 intro j u hj
 obtain ⟨i, r, hi, hr, rfl⟩ := flatB_idx bs k hj
 obtain ⟨g0, g1, g2, g3, g4⟩ := flatB_get bs k i hi
 obtain ⟨a0, a1, a2, a3, a4⟩ := h i hi
 rw [addr_add, <- Nat.add_assoc]
 have h5 : r = 0 \/ r = 1 \/ r = 2 \/ r = 3 \/ r = 4 := by omega
 rcases h5 with rfl | rfl | rfl | rfl | rfl
 . rw [<- hj, Nat.add_zero, Nat.add_zero, g0]; exact a0
 . rw [<- hj, g1]; exact a1
 . rw [<- hj, g2]; exact a2
 . rw [<- hj, g3]; exact a3
 . rw [<- hj, g4]; exact a4
theorem flatB_one (bs : Nat -> BV) (k : Nat) : ∀ u ∈ flatB bs k, u.oneCell' = true := by
 intro u hu
 obtain ⟨j, hj⟩ := List.getElem?_of_mem hu
 obtain ⟨i, r, hi, hr, rfl⟩ := flatB_idx bs k hj
 obtain ⟨g0, g1, g2, g3, g4⟩ := flatB_get bs k i hi
 have h5 : r = 0 \/ r = 1 \/ r = 2 \/ r = 3 \/ r = 4 := by omega
 rcases h5 with rfl | rfl | rfl | rfl | rfl
 . rw [Nat.add_zero, g0] at hj; cases hj; rfl
 . rw [g1] at hj; cases hj; rfl
 . rw [g2] at hj; cases hj; rfl
 . rw [g3] at hj; cases hj; rfl
 . rw [g4] at hj; cases hj; rfl
theorem own_BsL {W : World} {base k c : Nat} {A : Option Addr} {bs : Nat -> BV} (h : W.ownsRow base 45 5 (.slice A k c) k (flatB bs k)) : BsL W A k bs := by
 intro h0
 obtain ⟨k', rfl⟩ : ∃ k', k = k' + 1 := ⟨k - 1, by omega⟩
 obtain ⟨g, c', hv, hb, hlt⟩ := own_form h
 simp only [Value.slice.injEq] at hv
 obtain ⟨rfl, _, rfl⟩ := hv
 refine ⟨g, 0, rfl, hlt, fun i hi => ?_⟩
 obtain ⟨g0, g1, g2, g3, g4⟩ := flatB_get bs (k' + 1) i hi
 refine ⟨?_, ?_, ?_, ?_, ?_⟩ <;> rw [Nat.zero_add]
 . exact own_cells h g0
 . exact own_cells h g1
 . exact own_cells h g2
 . exact own_cells h g3
 . exact own_cells h g4
theorem own_turned {w2 w4 : World} {base n size : Nat} {e : TypeId} {v : Value} {xs : List Value} (h : w2.ownsRow base e size v n xs) {w : World} {S : List Nat} (hw : Mod S w w2) (hgr : w2.grownBy w4 v.ownBlock) (hb : w.heap.size <= base) : Mod S w w4 :=
 hw.grown hgr (fun k hk => .inr (Nat.le_trans hb (h.lt k hk).1))
def ppB (p : PL) (i : Nat) : Bool := valB (p.a i).t
theorem PsL.at {w W : World} {Q : Nat -> Prop} {A : Option Addr} {p : PL} (h : PsL w Q A p) (hW : Ext w W) {i : Nat} (hi : i < p.k) : ∃ b o Ai ci, A = some ⟨b, o, none⟩ /\ b < w.heap.size /\ At6 W b (o + i * 6) (p.a i) Ai ci /\ IsL W Q (p.a i).t Ai := by
 obtain ⟨b, o, hA, hb, hq, hc⟩ := h (by omega)
 obtain ⟨Ai, ci, h1, h2⟩ := hc i hi
 exact ⟨b, o, Ai, ci, hA, hb, h1.mod hW hb (by simp), h2.ext hW⟩
set_option maxRecDepth 20000 in
set_option maxHeartbeats 4000000 in
theorem pairs_any (p : PL) (hk : p.k <= 100000) (hok : ∀ i, i < p.k -> (p.a i).t.ok) (A : Option Addr) (c : Nat) (w : World) (h : PsL w anyQ A p) : Calls Tryz.prog 154 #[.slice A p.k c] w (Ret (.bool (pairsB p)) w) := by
 have HL := hid h
 have HK := hid hk
 have HOK := hid hok
 have k0 : (p.k : Int) <= 100000 := by omega
 have HW0 := hid (Mod.refl [] w)
 generalize hkk : p.k = k at *
 have HKK := hid hkk
 clear hok hk h hkk
 go_enter Tryz.func154, Tryz.ntmps154
 go_wp2_with fail
 go_loopw [3, 8] (fun s3 s8 wr => ∃ (i : Nat) (A' : Option Addr) (c' : Nat), s8 = .int .i64 (i : Int) /\ s3 = .slice A' i c' /\ Hid (i <= k /\ Ext w wr /\ wr.ownsRow w.heap.size 3 1 (.slice A' i c') i (flatG (numsF (fun j => (p.a j).id)) i) /\ T.all (ppB p) i = true)) (fun _ s8 _ => k - (intOf s8).toNat)
 case atStart => exact ⟨0, none, 0, rfl, rfl, (show Hid _ from ⟨Nat.zero_le _, HW0.out, World.ownsRow_nil _ _ _ _, rfl⟩)⟩
 case round =>
  clear HW0
  obtain ⟨i, A', c', rfl, rfl, hS⟩ := hrel
  rename World => wr
  have i0 : (0 : Int) <= (i : Int) := by omega
  by_cases hlt : i < k
  .
   obtain ⟨b, o, Ai, ci, rfl, hb, ⟨q0, q1, q2, q3, q4, q5⟩, hI⟩ := HL.out.at hS.out.2.1 (i := i) (by have := HKK.out; omega)
   have tc : decide (i < k) = true := by simp [hlt]
   have i1 : (i : Int) < (k : Int) := by omega
   have HLT := hid hlt
   have HI := hid hI
   have HOi := hid (HOK.out i hlt)
   clear hlt hI hb
   go_upto_region 5 with fail
   generalize hW1 : World.alloc wr _ = W1
   have HG1 : Hid (Blk W1 wr.heap.size 70 (prC (p.a i) Ai ci)) := hid (by rw [<- hW1]; exact Blk.new _ _ _)
   have hS1 : Hid (i <= k /\ Ext w W1 /\ W1.ownsRow w.heap.size 3 1 (.slice A' i c') i (flatG (numsF (fun j => (p.a j).id)) i) /\ T.all (ppB p) i = true) := hid (by
    have h := hS.out
    rw [<- hW1]; exact ⟨h.1, h.2.1.alloc _, h.2.2.1.alloc _, h.2.2.2⟩)
   have HI1 : Hid (IsL W1 anyQ (p.a i).t Ai) := hid (by rw [<- hW1]; exact HI.out.ext ((Mod.refl [] wr).alloc _))
   have HSZ : Hid (w.heap.size <= wr.heap.size) := hid hS.out.2.1.size
   clear hW1 hS q0 q1 q2 q3 q4 q5 HI
   generalize wr.heap.size = G at *
   have g0 : ∀ e : Later W1, e.x.cell? ⟨G, 0, none⟩ = some (.int .i64 (p.a i).id) := HG1.out.cellL 0 rfl
   have g1 : ∀ e : Later W1, e.x.cell? ⟨G, 1, none⟩ = some (.int .i64 (p.a i).t.kind) := HG1.out.cellL 1 rfl
   have HRG : Hid (∀ e : Later W1, e.x.rangeAt G 1 [.int .i64 (p.a i).t.kind, .int .u64 ((p.a i).t.n : Int), str (p.a i).t.s, .slice Ai (p.a i).t.k ci, .bool (p.a i).t.op]) := HG1.out.range 1 5 (by rfl)
   have KR := hid (fun e : Later W1 => iRight_any (p.a i).t HOi.out Ai ci e.x (HI1.out.ext e.h))
   obtain ⟨e, he⟩ := Later.self W1
   rw [he]
   clear he
   by_cases hk0 : (p.a i).t.kind = 0 \/ (p.a i).t.kind = 2
   case neg =>
    have HN := hid (all_no HLT.out (show ppB p i = false by
     unfold ppB valB
     rw [decide_eq_false (fun h => hk0 (.inl h)), decide_eq_false (fun h => hk0 (.inr h))]; rfl))
    have ta : (((p.a i).t.kind) == (0)) = false := by rw [beq_eq_false_iff_ne]; omega
    have tb : (((p.a i).t.kind) = (0)) = False := eq_false (by omega)
    have td : (((p.a i).t.kind) != (0)) = true := by rw [bne_iff_ne]; omega
    have ua : (((p.a i).t.kind) == (2)) = false := by rw [beq_eq_false_iff_ne]; omega
    have ub : (((p.a i).t.kind) = (2)) = False := eq_false (by omega)
    have ud : (((p.a i).t.kind) != (2)) = true := by rw [bne_iff_ne]; omega
    have HFIN : Hid (pairsB p = false) := hid (by unfold pairsB; rw [show T.all (fun i => valB (p.a i).t) p.k = false by rw [HKK.out]; exact HN.out]; rfl)
    clear hk0
    go_wp2_with fail
    go_ret
    exact Ret.mk (by rw [HFIN.out]; rfl) (hS1.out.2.1.trans e.h)
   have HKIND := hid hk0
   have hd1 : (decide ((p.a i).t.kind = 0) || decide ((p.a i).t.kind = 2)) = true := by
    rcases hk0 with h | h <;> simp [h]
   have HD1 := hid hd1
   clear hd1
   cases hr : (p.a i).t.right 8 with
   | false =>
    rw [hr] at KR
    have HN := hid (all_no HLT.out (show ppB p i = false by unfold ppB valB; rw [hr, Bool.and_comm]; rfl))
    have HFIN : Hid (pairsB p = false) := hid (by unfold pairsB; rw [show T.all (fun i => valB (p.a i).t) p.k = false by rw [HKK.out]; exact HN.out]; rfl)
    clear hr
    rcases hk0 with hk0 | hk0
    .
     have ta : (((p.a i).t.kind) == (0)) = true := by rw [beq_iff_eq]; omega
     have tb : (((p.a i).t.kind) = (0)) = True := eq_true (by omega)
     have td : (((p.a i).t.kind) != (0)) = false := by rw [bne_eq_false_iff_eq]; omega
     clear hk0
     go_wp2_with (first | (refine wpList_mid (by rfl) 68 _ rfl _ 1 rfl _ _ (HRG.out _) vqC rfl (by kernel_rfl) ?_) | (go_at_call 159; refine (Ret.later (KR.out _)).mono ?_; rintro x _ ⟨rfl, e, rfl⟩))
     go_ret
     exact Ret.mk (by rw [HFIN.out]; rfl) (hS1.out.2.1.trans e.h)
    .
     have ta : (((p.a i).t.kind) == (0)) = false := by rw [beq_eq_false_iff_ne]; omega
     have tb : (((p.a i).t.kind) = (0)) = False := eq_false (by omega)
     have td : (((p.a i).t.kind) != (0)) = true := by rw [bne_iff_ne]; omega
     have ua : (((p.a i).t.kind) == (2)) = true := by rw [beq_iff_eq]; omega
     have ub : (((p.a i).t.kind) = (2)) = True := eq_true (by omega)
     have ud : (((p.a i).t.kind) != (2)) = false := by rw [bne_eq_false_iff_eq]; omega
     clear hk0
     go_wp2_with (first | (refine wpList_mid (by rfl) 68 _ rfl _ 1 rfl _ _ (HRG.out _) vqC rfl (by kernel_rfl) ?_) | (go_at_call 159; refine (Ret.later (KR.out _)).mono ?_; rintro x _ ⟨rfl, e, rfl⟩))
     go_ret
     exact Ret.mk (by rw [HFIN.out]; rfl) (hS1.out.2.1.trans e.h)
   | true =>
    rw [hr] at KR
    have HY : Hid (ppB p i = true) := hid (by unfold ppB valB; rw [HD1.out, hr]; rfl)
    obtain ⟨ib, hi, hz0, hz1, hz2⟩ := info_parts infoInt
    have HOWN : Hid (∀ e : Later W1, e.x.ownsRow w.heap.size 3 1 (.slice A' i c') i (flatG (numsF (fun j => (p.a j).id)) i)) := hid (fun e => ownsRow_mod hS1.out.2.2.1 e.h (fun _ _ => by simp))
    have HSZ1 : Hid (w.heap.size <= W1.heap.size) := hid hS1.out.2.1.size
    clear hr
    rcases hk0 with hk0 | hk0
    .
     have ta : (((p.a i).t.kind) == (0)) = true := by rw [beq_iff_eq]; omega
     have tb : (((p.a i).t.kind) = (0)) = True := eq_true (by omega)
     have td : (((p.a i).t.kind) != (0)) = false := by rw [bne_eq_false_iff_eq]; omega
     clear hk0
     go_wp2_with (first | (refine wpList_mid (by rfl) 68 _ rfl _ 1 rfl _ _ (HRG.out _) vqC rfl (by kernel_rfl) ?_) | (go_at_call 159; refine (Ret.later (KR.out _)).mono ?_; rintro x _ ⟨rfl, e, rfl⟩) | (at_builtin; refine wpList_append_own _ rfl _ _ 30 rfl w.heap.size 3 ib _ 1 8 Tryz.underlying30 hi hz0 hz1 hz2 rfl (by decide) _ _ _ rfl ((HOWN.out e).alloc _) ⟨e.x.heap.size, 0, none⟩ 1 1 [.int .i64 (p.a i).id] rfl rfl (fun j u hu => by (match j, hu with | 0, hu => (simp at hu; subst hu; rw [addr_add]; exact (Blk.new _ _ _).cell 0))) (by simp [Value.oneCell']) (by have := HLT.out; have := HK.out; simp [maxLen]; omega) (by have := HLT.out; have := HK.out; omega) (by have := HSZ1.out; have := e.h.size; simp; omega) ?_; intro v' w4 hown' hgrow _; obtain ⟨g', c4, rfl, hg', hlt'⟩ := own_form hown'; have hE4 := own_turned ((HOWN.out e).alloc _) ((hS1.out.2.1.trans e.h).alloc _) hgrow (Nat.le_refl _); have HO4 := hid hown'; have HE4 := hid hE4; clear hown' hgrow hE4 hg' hlt'))
     go_roundw
     case rel => exact ⟨i + 1, some ⟨g', 0, none⟩, c4, by go_num, rfl, (show Hid _ from ⟨HLT.out, HE4.out, by simpa [flatG] using HO4.out, by rw [T.all, hS1.out.2.2.2, HY.out]; rfl⟩)⟩
     case measure => have := HLT.out; simp [intOf]; omega
    .
     have ta : (((p.a i).t.kind) == (0)) = false := by rw [beq_eq_false_iff_ne]; omega
     have tb : (((p.a i).t.kind) = (0)) = False := eq_false (by omega)
     have td : (((p.a i).t.kind) != (0)) = true := by rw [bne_iff_ne]; omega
     have ua : (((p.a i).t.kind) == (2)) = true := by rw [beq_iff_eq]; omega
     have ub : (((p.a i).t.kind) = (2)) = True := eq_true (by omega)
     have ud : (((p.a i).t.kind) != (2)) = false := by rw [bne_eq_false_iff_eq]; omega
     clear hk0
     go_wp2_with (first | (refine wpList_mid (by rfl) 68 _ rfl _ 1 rfl _ _ (HRG.out _) vqC rfl (by kernel_rfl) ?_) | (go_at_call 159; refine (Ret.later (KR.out _)).mono ?_; rintro x _ ⟨rfl, e, rfl⟩) | (at_builtin; refine wpList_append_own _ rfl _ _ 30 rfl w.heap.size 3 ib _ 1 8 Tryz.underlying30 hi hz0 hz1 hz2 rfl (by decide) _ _ _ rfl ((HOWN.out e).alloc _) ⟨e.x.heap.size, 0, none⟩ 1 1 [.int .i64 (p.a i).id] rfl rfl (fun j u hu => by (match j, hu with | 0, hu => (simp at hu; subst hu; rw [addr_add]; exact (Blk.new _ _ _).cell 0))) (by simp [Value.oneCell']) (by have := HLT.out; have := HK.out; simp [maxLen]; omega) (by have := HLT.out; have := HK.out; omega) (by have := HSZ1.out; have := e.h.size; simp; omega) ?_; intro v' w4 hown' hgrow _; obtain ⟨g', c4, rfl, hg', hlt'⟩ := own_form hown'; have hE4 := own_turned ((HOWN.out e).alloc _) ((hS1.out.2.1.trans e.h).alloc _) hgrow (Nat.le_refl _); have HO4 := hid hown'; have HE4 := hid hE4; clear hown' hgrow hE4 hg' hlt'))
     go_roundw
     case rel => exact ⟨i + 1, some ⟨g', 0, none⟩, c4, by go_num, rfl, (show Hid _ from ⟨HLT.out, HE4.out, by simpa [flatG] using HO4.out, by rw [T.all, hS1.out.2.2.2, HY.out]; rfl⟩)⟩
     case measure => have := HLT.out; simp [intOf]; omega
  .
   obtain rfl : i = k := by have := hS.out.1; omega
   have tc : decide (i < i) = false := by simp
   have KU := hid (fun W (hW : Ext wr W) => unlike_any A' (fun j => (p.a j).id) i c' (by have := HK.out; omega) (own_cap hS.out.2.2.1) W ((own_NsL hS.out.2.2.1).ext hW))
   have HFIN : Hid (pairsB p = unlikeB (fun j => (p.a j).id) i) := hid (by unfold pairsB; rw [HKK.out, show T.all (fun i => valB (p.a i).t) i = true from hS.out.2.2.2]; rfl)
   have HE1 := hid hS.out.2.1
   clear hS
   generalize unlikeB (fun j => (p.a j).id) i = B at *
   go_wp2_with (go_at_call 151; refine (KU.out _ (Mod.refl _ _)).mono ?_; rintro e' w' ⟨rfl, hb'⟩)
   go_ret
   exact Ret.mk (by rw [HFIN.out]; rfl) (HE1.out.trans hb')
section
open Go.Shelf
theorem RsL.at {w W : World} {Q : Nat -> Prop} {A : Option Addr} {k : Nat} {f : Nat -> PL} (h : RsL w Q A k f) (hW : Ext w W) {i : Nat} (hi : i < k) : ∃ b o Ai ci, A = some ⟨b, o, none⟩ /\ b < w.heap.size /\ W.cell? ⟨b, o + i, none⟩ = some (.slice Ai (f i).k ci) /\ (f i).k <= ci /\ PsL W Q Ai (f i) := by
 obtain ⟨b, o, hA, hb, hq, hc⟩ := h (by omega)
 obtain ⟨Ai, ci, h1, hkc, h2⟩ := hc i hi
 exact ⟨b, o, Ai, ci, hA, hb, (hW.cell hb (by simp)).trans h1, hkc, h2.ext hW⟩
theorem shaped1_any (p : PL) (hk : p.k < 4611686018427387904) (hok : ∀ i, i < p.k -> (p.a i).t.ok) (A : Option Addr) (c : Nat) (w : World) (h : PsL w anyQ A p) : Calls Tryz.prog 156 #[.slice A p.k c] w (Ret (.bool (!resB p)) w) := by
 have HK := hid hk
 have k0 : (p.k : Int) < 4611686018427387904 := by omega
 have KP := hid (fun (h4 : p.k <= 100000) W (hW : Ext w W) => pairs_any p h4 hok A c W (h.ext hW))
 have HR : Hid (resB p = (decide (1 <= p.k) && decide (p.k <= 4) && pairsB p)) := rfl
 generalize pairsB p = B at *
 generalize resB p = R at *
 generalize p.k = k at *
 clear hk hok h
 by_cases h1 : k < 1
 .
  have t1 : decide (k < 1) = true := decide_eq_true h1
  have t2 : decide ((k : Int) < 1) = true := decide_eq_true (by omega)
  have t3 : ((k : Int) < 1) = True := eq_true (by omega)
  have HX : Hid (R = false) := hid (by rw [HR.out, decide_eq_false (show ¬ 1 <= k by omega)]; rfl)
  clear h1
  go_enter Tryz.func156, Tryz.ntmps156
  go_wp2_with fail
  go_ret
  exact Ret.mk (by rw [HX.out]; rfl) (Mod.refl _ _)
 have t1 : decide (k < 1) = false := decide_eq_false h1
 have t2 : decide ((k : Int) < 1) = false := decide_eq_false (by omega)
 have t3 : ((k : Int) < 1) = False := eq_false (by omega)
 have H1 := hid h1
 clear h1
 by_cases h4 : 4 < k
 .
  have u1 : decide (4 < k) = true := decide_eq_true h4
  have u2 : decide ((4 : Int) < k) = true := decide_eq_true (by omega)
  have u3 : ((4 : Int) < (k : Int)) = True := eq_true (by omega)
  have HX : Hid (R = false) := hid (by rw [HR.out, decide_eq_false (show ¬ k <= 4 by omega), Bool.and_false]; rfl)
  clear h4
  go_enter Tryz.func156, Tryz.ntmps156
  go_wp2_with fail
  go_ret
  exact Ret.mk (by rw [HX.out]; rfl) (Mod.refl _ _)
 have u1 : decide (4 < k) = false := decide_eq_false h4
 have u2 : decide ((4 : Int) < k) = false := decide_eq_false (by omega)
 have u3 : ((4 : Int) < (k : Int)) = False := eq_false (by omega)
 have HX : Hid (R = B) := hid (by rw [HR.out, decide_eq_true (show k <= 4 by omega), decide_eq_true (show 1 <= k by have := H1.out; omega)]; rfl)
 have K := hid (KP.out (by omega) w (Mod.refl _ _))
 clear h4 KP
 go_enter Tryz.func156, Tryz.ntmps156
 go_wp2_with (go_at_call 154; refine K.out.mono ?_; rintro e' w' ⟨rfl, hb'⟩)
 go_ret
 exact Ret.mk (by rw [HX.out]; rfl) hb'
theorem entersS1 : ∀ args w, (callFunc 156 args).run Tryz.prog w = .ok (.enter 156 args) w := enters_of Tryz.func156 (by kernel_rfl) rfl
def noRes (f : Nat -> PL) (i : Nat) : Bool := !resB (f i)
set_option maxHeartbeats 1600000 in
theorem IndexR_any (A : Option Addr) (f : Nat -> PL) (k c : Nat) (hk : k < 4611686018427387904) (hw : ∀ i, i < k -> (f i).wf) (w : World) (h : RsL w anyQ A k f) :
  Calls Tryz.prog 175 #[.slice A k c, .func (.func 156) #[] #[]] w (Ret (.int .i64 (firstI (noRes f) k)) w) := by
 have H := hid h; have HK := hid hk; have HW := hid hw
 clear h hk hw
 have eg := entersS1
 have k1 : (k : Int) < 4611686018427387904 := by have := HK.out; omega
 obtain ⟨e0, he0⟩ := Later.self w
 go_enter Tryz.func175, Tryz.ntmps175
 go_upto_region 2 with fail
 go_loopw [8] (fun s8 wr => ∃ j : Nat, j <= k /\ s8 = .int .i64 (j : Int) /\ Hid (∀ i, i < j -> noRes f i = false) /\ ∃ e : Later w, wr = e.x) (fun s8 _ => k - (intOf s8).toNat)
 case atStart => exact ⟨0, Nat.zero_le _, rfl, fun i h => absurd h (Nat.not_lt_zero _), e0, (by first | exact he0 | rfl)⟩
 case round =>
  clear he0 e0
  obtain ⟨j, hj, rfl, hno, e, rfl⟩ := hrel
  have j0 : (0 : Int) <= (j : Int) := by omega
  by_cases hlt : j < k
  .
   obtain ⟨b, o, Ai, ci, rfl, hb, c0, hkc, hP⟩ := H.out.at e.h hlt
   have j1 : (j : Int) < (k : Int) := by omega
   have tc : decide (j < k) = true := by simp [hlt]
   have hcall : Calls Tryz.prog 156 (#[.slice Ai (f j).k ci] ++ #[]) e.x (Ret (.bool (noRes f j)) e.x) := shaped1_any (f j) (HW.out j hlt).1 (fun i hi => ((HW.out j hlt).2 i hi).1) Ai ci e.x hP
   have HLT := hid hlt
   clear hlt hP hkc hb
   cases hq : noRes f j with
   | true =>
    rw [hq] at hcall
    have HQ := hid hq
    clear hq
    go_wp2_with (go_at_fn 156; refine (Ret.later hcall).mono ?_; rintro x _ ⟨rfl, e, rfl⟩)
    go_ret
    refine Ret.mk ?_ e.h
    unfold firstI
    rw [firstOf_some HLT.out HQ.out hno.out]; rfl
   | false =>
    rw [hq] at hcall
    have HQ := hid hq
    clear hq
    go_wp2_with (go_at_fn 156; refine (Ret.later hcall).mono ?_; rintro x _ ⟨rfl, e, rfl⟩)
    go_roundw
    case rel =>
     refine ⟨j + 1, by have := HLT.out; omega, by go_num, (show Hid _ from fun i hi => ?_), e, rfl⟩
     by_cases e : i = j
     . subst e; exact HQ.out
     . exact hno.out i (by omega)
    case measure => have := HLT.out; simp [intOf]; omega
  .
   obtain rfl : j = k := by omega
   have tc : decide (j < j) = false := by simp
   go_wp2_with fail
   go_ret
   refine Ret.mk ?_ e.h
   unfold firstI
   rw [firstOf_none hno.out]; rfl
theorem noRes_all {f : Nat -> PL} {k : Nat} : (firstOf (noRes f) k).isSome = !(T.all (fun i => resB (f i)) k) := by
 cases h : firstOf (noRes f) k with
 | none =>
  have := firstOf_no h
  have h2 : T.all (fun i => resB (f i)) k = true := T.all_iff.2 fun i hi => by
   have := this i hi
   unfold noRes at this
   simpa using this
  rw [h2]; rfl
 | some i =>
  obtain ⟨h1, h2, _⟩ := firstOf_spec h
  rw [all_no h1 (by unfold noRes at h2; simpa using h2)]; rfl
theorem ContainsR_any (A : Option Addr) (f : Nat -> PL) (k c : Nat) (hk : k < 4611686018427387904) (hw : ∀ i, i < k -> (f i).wf) (w : World) (h : RsL w anyQ A k f) :
  Calls Tryz.prog 155 #[.slice A k c, .func (.func 156) #[] #[]] w (Ret (.bool (!(T.all (fun i => resB (f i)) k))) w) := by
 have K := hid (IndexR_any A f k c hk hw w h)
 have hX := hid (firstI_is (p := noRes f) (k := k))
 rw [noRes_all] at hX
 generalize firstI (noRes f) k = X at *
 generalize T.all (fun i => resB (f i)) k = B at *
 clear h
 go_enter Tryz.func155, Tryz.ntmps155
 go_wp2_with (go_at_call 175; refine K.out.mono ?_; rintro e w' ⟨rfl, hb'⟩)
 go_ret
 exact Ret.mk (congrArg Value.bool hX.out) hb'
def AV.one (a : AV) : Bool := decide (1 <= a.tk) && decide (a.tk <= 16) && unlikeB a.tg a.tk && codedB a.ctx && a.src.ok
def AV.two (a : AV) : Bool := decide (a.ps.k <= 8) && pairsB a.ps && decide (a.rk = a.tk)
theorem AV.shaped_eq (a : AV) : a.shaped = (a.one && a.two && T.all (fun i => resB (a.rs i)) a.rk) := rfl
end
def setRow (W : World) (b : Nat) : Nat -> List Value -> World
 | _, [] => W
 | i, v :: l => setRow (W.setCell ⟨b, i, none⟩ v) b (i + 1) l
def writeFrom (cs : Array Value) : Nat -> List Value -> Array Value
 | _, [] => cs
 | i, v :: l => writeFrom (cs.setIfInBounds i v) (i + 1) l
theorem setRow_blk {t : TypeId} {b : Nat} : ∀ (l : List Value) (W : World) (i : Nat) (cs : Array Value), Blk W b t cs -> Blk (setRow W b i l) b t (writeFrom cs i l)
 | [], _, _, _, h => h
 | v :: l, W, i, cs, h => setRow_blk l _ _ _ (h.set_ i v)
theorem writeFrom_get : ∀ (l : List Value) (i : Nat) (cs : Array Value) (j : Nat), i + l.length <= cs.size -> (writeFrom cs i l)[j]? = if i <= j /\ j < i + l.length then l[j - i]? else cs[j]?
 | [], i, cs, j, _ => by
  rw [writeFrom, if_neg (by simp)]
 | v :: l, i, cs, j, h => by
  have h2 : i + (l.length + 1) <= cs.size := h
  rw [writeFrom, writeFrom_get l (i + 1) _ j (by simp; omega)]
  by_cases e : j = i
  .
   subst e
   rw [if_neg (by omega), if_pos ⟨by omega, by simp⟩]
   simp [show j < cs.size by omega]
  .
   by_cases a : i + 1 <= j /\ j < i + 1 + l.length
   . rw [if_pos a, if_pos ⟨by omega, by simp; omega⟩, show j - i = (j - (i + 1)) + 1 by omega, List.getElem?_cons_succ]
   . rw [if_neg a, if_neg (by simp; omega), Array.getElem?_setIfInBounds, if_neg (fun h => e h.symm)]
theorem writeFrom_all (cs : Array Value) (l : List Value) (h : l.length = cs.size) : writeFrom cs 0 l = l.toArray := by
 apply Array.ext_getElem?
 intro j
 rw [writeFrom_get l 0 cs j (by omega)]
 by_cases hj : j < l.length
 . rw [if_pos ⟨by omega, by omega⟩]; simp
 . rw [if_neg (by omega), Array.getElem?_eq_none (by omega), Array.getElem?_eq_none (by simp; omega)]
theorem setRow_all {t : TypeId} {b : Nat} {W : World} {cs ds : Array Value} (h : Blk W b t cs) (hs : ds.toList.length = cs.size) : Blk (setRow W b 0 ds.toList) b t ds := by
 have := setRow_blk ds.toList W 0 cs h
 rw [writeFrom_all cs ds.toList hs] at this
 simpa using this
theorem setRow_mod {w : World} {S : List Nat} {b : Nat} : ∀ (l : List Value) (W : World) (i : Nat), Mod S w W -> (b ∈ S \/ w.heap.size <= b) -> Mod S w (setRow W b i l)
 | [], _, _, h, _ => h
 | v :: l, W, i, h, hb => setRow_mod l _ _ (h.setCell (p := ⟨b, i, none⟩) hb v) hb
theorem setRow_eq {b : Nat} : ∀ (l : List Value) (W : World) (i : Nat), setRow W b i l = W.setCells b i l
 | [], _, _ => rfl
 | v :: l, W, i => setRow_eq l _ _
theorem setCells_all {t : TypeId} {b : Nat} {W : World} {cs ds : Array Value} (h : Blk W b t cs) (hs : ds.toList.length = cs.size) : Blk (W.setCells b 0 ds.toList) b t ds := setRow_eq ds.toList W 0 ▸ setRow_all h hs
theorem setCells_mod {w W : World} {S : List Nat} {b : Nat} (l : List Value) (i : Nat) (h : Mod S w W) (hb : b ∈ S \/ w.heap.size <= b) : Mod S w (W.setCells b i l) := setRow_eq l W i ▸ setRow_mod l W i h hb
theorem Blk.there {W : World} {b : Nat} {t : TypeId} {cs : Array Value} (h : Blk W b t cs) {n : Nat} (hn : n <= cs.size) : W.there b 0 n := fun j hj => by
 rw [Nat.zero_add]
 refine ⟨?_, h.frozen j⟩
 rw [h.cell j, Array.getElem?_eq_getElem (by omega)]; rfl
theorem results_cell {P : Program} {fn : Func} {t : Tmp} {ty : TypeId} (h : fn.results = #[.cell t ty]) (tmps : Array Value) {g : Nat} (ht : tmps.getD t undef = .pointer (some ⟨g, 0, none⟩)) {W : World} {tt : TypeId} {cs : Array Value} {d : TypeDesc} (hb : Blk W g tt cs)
  (hu : P.underlying ty = some d) (hd : (match d with | .struct _ | .array _ _ => true | _ => false) = true) (hi : (P.info? ty).map (·.size) = some cs.size) : (results fn tmps).run P W = .ok (.agg cs) W := by
 have hl := run_loadVar_row (P := P) W g tt ty cs (0, 0) d hb hu hd hi
 have ht2 : tmps[t]?.getD undef = .pointer (some ⟨g, 0, none⟩) := by simpa using ht
 simp [results, h, ht2, asAddr, hl]
theorem results_cell2 {P : Program} {fn : Func} {t u : Tmp} {ty : TypeId} (h : fn.results = #[.cell t ty, .tmp u]) (tmps : Array Value) {g : Nat} (ht : tmps.getD t undef = .pointer (some ⟨g, 0, none⟩)) {v : Value} (hv : tmps.getD u undef = v) {W : World} {tt : TypeId} {cs : Array Value} {d : TypeDesc} (hb : Blk W g tt cs)
  (hu : P.underlying ty = some d) (hd : (match d with | .struct _ | .array _ _ => true | _ => false) = true) (hi : (P.info? ty).map (·.size) = some cs.size) : (results fn tmps).run P W = .ok (.tuple #[.agg cs, v]) W := by
 have hl := run_loadVar_row (P := P) W g tt ty cs (0, 0) d hb hu hd hi
 have ht2 : tmps[t]?.getD undef = .pointer (some ⟨g, 0, none⟩) := by simpa using ht
 have hv2 : tmps[u]?.getD undef = v := by simpa using hv
 simp [results, h, ht2, hv2, asAddr, hl, Result.andThen_ok]
theorem yieldsIf_mid {P : Program} {ops : Array Oper} {S : World -> Prop} {op : Oper} {a : Act} (hw : Region.wanted op (yielded ops a.tmps) = true) (ty : TypeId) (x : Operand) (ho : op.op = .load ty x) (b o : Nat) (hx : a.eval x = .pointer (some ⟨b, o, none⟩))
  (cs : List Value) {d : TypeDesc} (hS : ∀ w, S w -> w.rangeAt b o cs) (hu : P.underlying ty = some d) (hd : d.isRow = true)
  (hi : (P.info? ty).map (·.size) = some cs.length) : YieldsIf P ops S op (.agg cs.toArray) a :=
 .inl ⟨hw, fun w hw' => by
  unfold execOp
  simp only [ho, hx, Instr.loadAt, Instr.sureAddr, Sem.run_bind, Sem.run_pure, Result.andThen_ok, run_loadVar_mid w b o ty cs d (hS w hw') hu hd hi]⟩
theorem Blk.rangeE {w W : World} {g : Nat} {t : TypeId} {cs : Array Value} (h : Blk w g t cs) (hW : Ext w W) (o n : Nat) {l : List Value} (hl : (cs.extract o (o + n)).toList = l) : W.rangeAt g o l := hl ▸ World.rangeAt_of_block (h.ext hW) o n
section
open Go.ChangeShapes Go.WideShapes Go.ChangeAt Go.Deep
section
variable {H : Type} {enc : TypeId × Value -> H} {w : World} {base b0 : Nat} {spare : Nat -> Bool} {held : Bool} {r : Reach}
theorem field_at {P : Program} {fs : Array Field} {cs : List Value} {ys : List (DataW H × List MemPlace)} {n : Nat} (hone : oneCellFields P fs = true)
  (hfl : ∀ (i : Nat) (f : Field), fs[i]? = some f -> DataW.trod enc P w base spare held n f.type ((cs.drop f.offset).take (P.cellsOf f.type)) = ys[i]?)
  {i : Nat} {f : Field} (h : fs[i]? = some f) {c : Value} (hc : cs[i]? = some c) : DataW.trod enc P w base spare held n f.type [c] = ys[i]? := by
 obtain ⟨ho, hk⟩ := hone_of hone i f h
 have := hfl i f h
 rw [ho, hk] at this
 obtain ⟨hlt, hv⟩ := List.getElem?_eq_some_iff.1 hc
 rw [List.drop_eq_getElem_cons hlt, hv] at this
 exact this
end
end
set_option maxRecDepth 20000 in
set_option maxHeartbeats 800000 in
theorem Build_ok (ty num fl crc : Nat) (data : List UInt8) (hb : BV.right ⟨ty, num, fl, crc, data⟩ = 0) (t : T) (hok : t.ok) (hsz : t.size <= 100000) (KS : Hid (∀ N A c W, N <= W.heap.size -> IsL W (fun b => N <= b) (blkT ty num fl crc data []) A -> Calls Tryz.prog 165 #[.int .i64 (crc : Int), itemV (blkT ty num fl crc data []) A c] W (fun e w' => ∃ A c, e = .returned (itemV t A c) /\ Ext W w' /\ IsL w' (fun b => N <= b) t A))) (w : World) : Calls Tryz.prog 112 #[BV.v ⟨ty, num, fl, crc, data⟩] w (Ret (buildV t) w) := by
 have HE0 := hid ((Mod.refl [] w).alloc (.cells (BV.c ⟨ty, num, fl, crc, data⟩) 45))
 go_enter Tryz.func112, Tryz.ntmps112
 go_wp2_with fail
 refine (Item_ok ty num fl crc data hb t KS _).mono ?_
 rintro e w1 ⟨A, c, rfl, hb1, hl1⟩
 have HE1 := hid (HE0.out.trans hb1)
 have HL1 := hid hl1
 clear hb1 hl1
 go_wp2_with fail
 refine (iBuild_any t hok hsz A c _ (IsL.ext (IsL.weak (fun _ _ _ => trivial) _ HL1.out) ((Mod.refl _ _).alloc _))).mono ?_
 rintro e w2 ⟨rfl, hb2⟩
 have HE2 := hid ((HE1.out.alloc _).trans hb2)
 clear hb2
 obtain ⟨s, E, hV⟩ : ∃ s E, buildV t = .tuple #[str s, .int .i64 E] := by unfold buildV; split; exact ⟨_, _, rfl⟩; exact ⟨_, _, rfl⟩
 rw [hV]
 go_wp2_with fail
 refine bodyPost_ret (v := .tuple #[str s, .int .i64 E]) (by simp [results, Tryz.results112, go_sem]) rfl (Ret.mk hV.symm HE2.out)
end Go.Proofs.YtmckfdmdkljomaaGreatDoor
