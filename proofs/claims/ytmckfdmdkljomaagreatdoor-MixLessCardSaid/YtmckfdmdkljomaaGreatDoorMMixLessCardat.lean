/-
 A list of items that grows by append: what is kept from round to round.
-/
import Derived.Test.YtmckfdmdkljomaaGreatDoorMMixLessCardap
import Derived.Deep.AppendLies
import Derived.Deep.RegionLaw
import Derived.LaidEql
import Derived.Stop.Asserts
import Derived.RowKitTokens
namespace Go.Proofs.YtmckfdmdkljomaaGreatDoor
open Go.RowKit
set_option linter.unusedVariables false
set_option linter.unusedSimpArgs false
def putT (ch : Nat -> T) (i : Nat) (t : T) (j : Nat) : T := if j = i then t else ch j
def putP (ac : Nat -> Option Addr × Nat) (i : Nat) (a : Option Addr × Nat) (j : Nat) : Option Addr × Nat := if j = i then a else ac j
structure GL (Q0 : Nat -> Prop) (N : Nat) (wr : World) (i : Nat) (A : Option Addr) (c : Nat) (ch : Nat -> T) (ac : Nat -> Option Addr × Nat) : Prop where
 nx : N <= wr.heap.size
 own : wr.ownsRow N 68 5 (.slice A i c) i (flatC ch ac i)
 mem : ∀ j, j < i -> IsL wr (fun b => Q0 b /\ A ≠ some ⟨b, 0, none⟩) (ch j) (ac j).1
section
variable {Q0 : Nat -> Prop} {N : Nat} {wr : World} {i : Nat} {A : Option Addr} {c : Nat} {ch : Nat -> T} {ac : Nat -> Option Addr × Nat}
theorem GL.nil (Q0 : Nat -> Prop) {N : Nat} {wr : World} (h : N <= wr.heap.size) (ch : Nat -> T) (ac : Nat -> Option Addr × Nat) : GL Q0 N wr 0 none 0 ch ac := ⟨h, World.ownsRow_nil _ _ _ _, fun j hj => by omega⟩
theorem GL.mod (h : GL Q0 N wr i A c ch ac) {w2 : World} {S : List Nat} (hm : Mod S wr w2) (hS : ∀ k, k ∈ S -> k < N /\ ¬ Q0 k) : GL Q0 N w2 i A c ch ac :=
 ⟨Nat.le_trans h.nx hm.size, ownsRow_mod h.own hm (fun k hk hm => by have := (h.own.lt k hk).1; have := (hS k hm).1; omega), fun j hj => IsL.mod hm (fun k hq _ hk => (hS k hk).2 hq.1) (ch j) (h.mem j hj)⟩
theorem GL.ext (h : GL Q0 N wr i A c ch ac) {w2 : World} (hm : Ext wr w2) : GL Q0 N w2 i A c ch ac := h.mod hm (fun k hk => by cases hk)
theorem GL.own2 (h : GL Q0 N wr i A c ch ac) {w2 : World} (hm : Ext wr w2) (ob : Obj) : (w2.alloc ob).ownsRow N 68 5 (.slice A i c) i (flatC ch ac i) := (h.ext hm).own.alloc ob
theorem GL.room (h : GL Q0 N wr i A c ch ac) {w2 : World} (hm : Ext wr w2) : N <= w2.heap.size := Nat.le_trans h.nx hm.size
theorem GL.turned (h : GL Q0 N wr i A c ch ac) {w2 w4 : World} (hm : Ext wr w2) {ob : Obj} (hgr : (w2.alloc ob).grownBy w4 (Value.slice A i c).ownBlock) : ∃ S, (∀ k, k ∈ S ↔ (Value.slice A i c).ownBlock = some k) /\ Mod S w2 w4 := by
 obtain ⟨S, hS⟩ : ∃ S : List Nat, ∀ k, k ∈ S ↔ (Value.slice A i c).ownBlock = some k := by
  cases A with
  | none => exact ⟨[], fun k => by simp [Value.ownBlock]⟩
  | some a => exact ⟨[a.block], fun k => by simp [Value.ownBlock, eq_comm]⟩
 exact ⟨S, hS, ((Mod.refl S w2).alloc _).grown hgr (fun k hk => .inl ((hS k).2 hk))⟩
theorem GL.keep (h : GL Q0 N wr i A c ch ac) {w2 w4 : World} (hm : Ext wr w2) {ob : Obj} (hgr : (w2.alloc ob).grownBy w4 (Value.slice A i c).ownBlock) {b : Nat} {ty : TypeId} {cs : Array Value} (hB : Blk wr b ty cs) (hbN : b < N) : Blk w4 b ty cs := by
 obtain ⟨S, hS, hm4⟩ := h.turned hm hgr
 exact (hB.ext hm).mod hm4 (fun hk => by have := (h.own.lt b ((hS b).1 hk)).1; omega)
theorem GL.step (h : GL Q0 N wr i A c ch ac) {w2 w4 : World} (hm : Ext wr w2) {t : T} {At : Option Addr} {ct : Nat} {v' : Value}
  (hL : IsL w2 (fun b => Q0 b /\ (b < N \/ wr.heap.size <= b)) t At)
  (hown : w4.ownsRow N 68 5 v' (i + 1) (flatC ch ac i ++ [.int .i64 t.kind, .int .u64 (t.n : Int), str t.s, .slice At t.k ct, .bool t.op])) {ob : Obj} (hgr : (w2.alloc ob).grownBy w4 (Value.slice A i c).ownBlock)
  (hbl : v'.ownBlock = (Value.slice A i c).ownBlock \/ ∀ k, v'.ownBlock = some k -> w2.heap.size <= k) :
  ∃ g' c', v' = .slice (some ⟨g', 0, none⟩) (i + 1) c' /\ GL Q0 N w4 (i + 1) (some ⟨g', 0, none⟩) c' (putT ch i t) (putP ac i (At, ct)) := by
 obtain ⟨S, hS, hm4⟩ := h.turned hm hgr
 obtain ⟨h8, h11, h12⟩ := h
 obtain ⟨g', c', rfl, hNg, hgl⟩ := own_form hown
 refine ⟨g', c', rfl, ?_⟩
 have hs2 := hm.size
 have hs4 := hm4.size
 have hrow : ∀ k, (Value.slice A i c).ownBlock = some k -> N <= k /\ k < wr.heap.size := h11.lt
 have hA' : ∀ b, b < wr.heap.size -> A ≠ some ⟨b, 0, none⟩ -> (some ⟨g', 0, none⟩ : Option Addr) ≠ some ⟨b, 0, none⟩ := by
  intro b hb hne he
  simp only [Option.some.injEq, Addr.mk.injEq, and_true] at he
  subst he
  rcases hbl with hbl | hbl
  .
   cases A with
   | none => simp [Value.ownBlock] at hbl
   | some a =>
    simp [Value.ownBlock] at hbl
    rcases h11.2 with ⟨hs, _⟩ | ⟨q, cap, cur, hs, _⟩
    . cases hs
    .
     simp only [Value.slice.injEq, Option.some.injEq] at hs
     obtain ⟨rfl, _⟩ := hs
     simp at hbl
     subst hbl
     exact hne rfl
  . have := hbl g' rfl; omega
 refine ⟨by omega, ?_, ?_⟩
 .
  rw [flatC, flatC_congr (ch := putT ch i t) (ac := putP ac i (At, ct)) (ch' := ch) (ac' := ac) (fun j hj => ⟨if_neg (by omega), if_neg (by omega)⟩), show putT ch i t i = t from if_pos rfl, show putP ac i (At, ct) i = (At, ct) from if_pos rfl]
  exact hown
 .
  intro j hj
  by_cases e : j = i
  .
   subst e
   rw [show putT ch j t j = t from if_pos rfl, show putP ac j (At, ct) j = (At, ct) from if_pos rfl]
   have q1 : IsL w2 (fun b => (Q0 b /\ (some ⟨g', 0, none⟩ : Option Addr) ≠ some ⟨b, 0, none⟩) /\ b ∉ S) t At := IsL.weak (fun k hk hq => ⟨⟨hq.1, fun he => by
    simp only [Option.some.injEq, Addr.mk.injEq, and_true] at he
    subst he
    rcases hbl with hbl | hbl
    . have := hrow g' hbl.symm; have := hq.2; omega
    . have := hbl g' rfl; have := hq.2; omega⟩, fun hkS => by have := hrow k ((hS k).1 hkS); have := hq.2; omega⟩) t hL
   exact IsL.weak (fun k hk hq => hq.1) t (IsL.mod hm4 (fun k hq hk hmm => hq.2 hmm) t q1)
  .
   rw [show putT ch i t j = ch j from if_neg e, show putP ac i (At, ct) j = ac j from if_neg e]
   have q0 := IsL.weak (R := fun b => (Q0 b /\ (some ⟨g', 0, none⟩ : Option Addr) ≠ some ⟨b, 0, none⟩) /\ A ≠ some ⟨b, 0, none⟩) (fun k hk hq => ⟨⟨hq.1, hA' k hk hq.2⟩, hq.2⟩) (ch j) (h12 j (by omega))
   have q1 := IsL.mod hm (fun k hq hk hm => by cases hm) (ch j) q0
   have q2 := IsL.mod hm4 (fun k hq hk hm => by
    have hk2 := (hS k).1 hm
    cases A with
    | none => simp [Value.ownBlock] at hk2
    | some a =>
     simp [Value.ownBlock] at hk2
     rcases h11.2 with ⟨hs, _⟩ | ⟨q, cap, cur, hs, _⟩
     . cases hs
     .
      simp only [Value.slice.injEq, Option.some.injEq] at hs
      obtain ⟨rfl, _⟩ := hs
      simp at hk2
      subst hk2
      exact hq.2 rfl) (ch j) q1
   exact IsL.weak (fun k hk hq => hq.1) (ch j) q2
theorem GL.isL (h : GL Q0 N wr i A c ch ac) {Q : Nat -> Prop} (hQ : ∀ b, Q0 b -> Q b) (hN : ∀ b, N <= b -> Q b) (op : Bool) : IsL wr Q (T.mk 4 0 [] op i ch) A := by
 intro h0
 obtain ⟨i', rfl⟩ : ∃ i', i = i' + 1 := ⟨i - 1, by omega⟩
 obtain ⟨g', c', hv, hNg, hgl⟩ := own_form h.own
 simp only [Value.slice.injEq] at hv
 obtain ⟨rfl, _, rfl⟩ := hv
 refine ⟨g', 0, rfl, hgl, hN _ hNg, fun j hj => ⟨(ac j).1, (ac j).2, ?_, IsL.weak (fun k hk hq => hQ _ hq.1) (ch j) (h.mem j hj)⟩⟩
 obtain ⟨f0, f1, f2, f3, f4⟩ := flatC_get ch ac (i' + 1) j hj
 refine ⟨?_, ?_, ?_, ?_, ?_⟩
 . rw [Nat.zero_add]; exact own_cells h.own f0
 . rw [Nat.zero_add]; exact own_cells h.own f1
 . rw [Nat.zero_add]; exact own_cells h.own f2
 . rw [Nat.zero_add]; exact own_cells h.own f3
 . rw [Nat.zero_add]; exact own_cells h.own f4
end
theorem priL_last (p : PV) {k : Nat} (hk : k ≠ 0) (s : List UInt8) : priL p k s = ([numT 7, numT p.fl, numT k, eidT p.d, eidT p.s, eidT p.r, listT [numT p.t, numT p.q], numT p.l] ++ (if p.fl % 2 = 1 then [numT p.o, numT p.n] else [])) ++ [strT s] := by
 unfold priL; rw [if_neg hk, List.append_assoc]
def priSum (p : PV) (k : Nat) : List UInt8 := if k = 0 then [] else Crc.sumL k (priB p k (List.replicate (2 * k) 0))
def PV.bytes (p : PV) : List UInt8 := priB p p.crc.toNat (priSum p p.crc.toNat)
def PV.tree (p : PV) : T := priT p p.crc.toNat (priSum p p.crc.toNat)
theorem priSum_length (p : PV) {k : Nat} (hk : k <= 2) : (priSum p k).length = 2 * k := by
 unfold priSum
 by_cases h : k = 0
 . rw [if_pos h, h]; rfl
 . rw [if_neg h]; exact Crc.sumL_length (by omega) hk _
theorem PV.tree_all {p : PV} (h : p.ranged = true) : p.tree.ok /\ (∀ d, 4 <= d -> p.tree.right d = true) /\ p.tree.size <= 4000 /\ p.tree.bytes = p.bytes := by
 have hr := PV.ranged_spec h
 have hk : p.crc.toNat <= 2 := by omega
 obtain ⟨a, b, c⟩ := priT_all h hk (sum := priSum p p.crc.toNat) (by rw [priSum_length p hk]; omega)
 exact ⟨a, b, c, priT_bytes _ _ _⟩
theorem PV.bytes_length {p : PV} (h : p.ranged = true) : p.bytes.length <= 40000 := by
 obtain ⟨_, _, c, d⟩ := PV.tree_all h
 rw [<- d]
 have := T.bytes_le p.tree
 omega
theorem psum_cap (p : PV) (h : p.ranged = true) (k : Nat) (hc : p.crc = (k : Int)) (N : Nat) (A : Option Addr) (c : Nat) (w : World) (hN : N <= w.heap.size) (hl : IsL w (fun b => N <= b) (priT p k (List.replicate (2 * k) 0)) A) (hkc : (priT p k (List.replicate (2 * k) 0)).k <= c) :
  Calls Tryz.prog 161 #[.int .i64 (k : Int), itemV (priT p k (List.replicate (2 * k) 0)) A c] w (fun e w' => ∃ A c, e = .returned (itemV p.tree A c) /\ Ext w w' /\ IsL w' (fun b => N <= b) p.tree A /\ p.tree.k <= c) := by
 have hr := PV.ranged_spec h
 have hk : k <= 2 := by omega
 have ht : p.crc.toNat = k := by omega
 unfold PV.tree
 rw [ht]
 by_cases h0 : k = 0
 .
  subst h0
  have e : priT p 0 (priSum p 0) = priT p 0 (List.replicate (2 * 0) 0) := rfl
  rw [e]
  exact (psummed_0 _ A c w).mono fun x w' ⟨hx, hm⟩ => ⟨A, c, hx, hm, hl.ext hm, hkc⟩
 .
  obtain ⟨a, b, cc⟩ := priT_all h hk (sum := List.replicate (2 * k) 0) (by simp; omega)
  have hb : (priT p k (List.replicate (2 * k) 0)).bytes.length < 1000000 := by have := T.bytes_le (priT p k (List.replicate (2 * k) 0)); omega
  have hb2 : (priT p k (List.replicate (2 * k) 0)).bytes = priB p k (List.replicate (2 * k) 0) := priT_bytes _ _ _
  have hs : priSum p k = Crc.sumL k (priB p k (List.replicate (2 * k) 0)) := by unfold priSum; rw [if_neg h0]
  rw [hs, <- hb2]
  clear hkc
  unfold priT at a b cc hb hl ⊢
  rw [priL_last p h0] at a b cc hb hl ⊢
  rw [priL_last p h0 (Crc.sumL _ _)]
  refine psummed_cap _ _ k (by omega) hk ?_ a (by omega) (b 8 (by omega)) hb N A c w hN hl
  split <;> simp
set_option maxRecDepth 20000 in
set_option maxHeartbeats 800000 in
theorem cPriItem_cap (p : PV) (hnl : Hid (p.d.name.length < 4611686018427387904 /\ p.s.name.length < 4611686018427387904 /\ p.r.name.length < 4611686018427387904)) (hf : p.fl < 18446744073709551616) (hb : p.right = 0) (w : World) : Calls Tryz.prog 134 #[.agg p.c] w (fun e w' => ∃ A c, e = .returned (.tuple #[itemV p.tree A c, .int .i64 0]) /\ Ext w w' /\ IsL w' (fun b => w.heap.size <= b) p.tree A /\ p.tree.k <= c) := by
 have KR := hid (fun W => cPriRight_any p hnl hf W)
 have hr := PV.right_ranged hb
 have hrs := PV.ranged_spec hr
 rw [hb] at KR
 obtain ⟨k, hc⟩ := Int.eq_ofNat_of_zero_le hrs.2.2.2.1
 have hk : k <= 2 := by omega
 have KP := hid (fun W => parts_cap p k hc hk hr (List.replicate (2 * k) 0) W)
 have KZ : Hid (∀ W, Calls Tryz.prog 164 #[.int .i64 p.crc] W (Ret (.int .i64 (2 * (k : Int))) W)) := fun W => by rw [hc]; have := Size_any k hk W; simpa using this
 have KT : Hid (∀ W, Calls Tryz.prog 163 #[.string ⟨#[0]⟩, .int .i64 (2 * (k : Int))] W (Ret (str (List.replicate (2 * k) 0)) W)) := fun W => by have := Repeat_zero (2 * k) (by omega) W; simpa using this
 have KS : Hid (∀ N A c W, N <= W.heap.size -> IsL W (fun b => N <= b) (priT p k (List.replicate (2 * k) 0)) A -> (priT p k (List.replicate (2 * k) 0)).k <= c -> Calls Tryz.prog 161 #[.int .i64 p.crc, itemV (priT p k (List.replicate (2 * k) 0)) A c] W (fun e w' => ∃ A c, e = .returned (itemV p.tree A c) /\ Ext W w' /\ IsL w' (fun b => N <= b) p.tree A /\ p.tree.k <= c)) := fun N A c W h1 h2 h3 => by rw [hc]; exact psum_cap p hr k hc N A c W h1 h2 h3
 generalize List.replicate (2 * k) (0 : UInt8) = Z at *
 generalize priT p k Z = Y at *
 have k0 : (0 : Int) <= (k : Int) := by omega
 have k1 : (k : Int) <= 2 := by omega
 have HC := hid hc
 have HE := hid (((Mod.refl [] w).alloc (.cells p.c 26)).alloc (.cells #[.int .i64 0, .int .u64 0, .string ⟨#[]⟩, .slice none 0 0, .bool false] 68))
 have HB := hid ((Blk.new w 26 p.c).alloc (.cells #[.int .i64 0, .int .u64 0, .string ⟨#[]⟩, .slice none 0 0, .bool false] 68))
 have HR : Hid (Blk ((w.alloc (.cells p.c 26)).alloc (.cells #[.int .i64 0, .int .u64 0, .string ⟨#[]⟩, .slice none 0 0, .bool false] 68)) (w.heap.size + 1) 68 (itemC (numT 0) none 0)) := Blk.newL _ _ _ (by simp)
 clear hf hb hr hrs hc hk
 go_enter Tryz.func134, Tryz.ntmps134
 go_upto_region 1 with fail
 generalize (w.alloc (.cells p.c 26)).alloc (.cells #[.int .i64 0, .int .u64 0, .string ⟨#[]⟩, .slice none 0 0, .bool false] 68) = V at *
 have HBL : Hid (∀ e : Later V, Blk e.x w.heap.size 26 p.c) := fun e => HB.out.later e
 have HVS : Hid (w.heap.size + 2 <= V.heap.size) := Nat.succ_le_of_lt HR.out.lt
 obtain ⟨e, he⟩ := Later.self V
 rw [he]
 clear he
 go_upto_region 4 with (first | (refine wpList_row (by rfl) 26 _ rfl _ rfl (HBL.out _) vqJ rfl (by kernel_rfl) ?_) | (go_at_call 105; refine (Ret.later (KR.out _)).mono ?_; rintro x _ ⟨rfl, e, rfl⟩))
 have HS : Hid (∀ W, Mod [w.heap.size + 1] V W -> W.cell? ⟨w.heap.size, 1, none⟩ = some (.int .i64 p.crc)) := fun W hW => (HB.out.mod hW (by simp)).cell 1
 have HRow : Hid (∀ W, Mod [w.heap.size + 1] V W -> Blk W w.heap.size 26 p.c) := fun W hW => HB.out.mod hW (by simp)
 have g2 : max ((2 : Int) * (k : Int)) 0 = (2 * k : Int) := by omega
 refine wp_region_held_drew (S := fun w' => Mod [w.heap.size + 1] V w' /\ ∃ t A c, Blk w' (w.heap.size + 1) 68 (itemC t A c)) (by kernel_rfl) ⟨((Later.h e).of_ext).drew, _, _, _, (HR.out.later e).drew⟩ (fun hHeld => ?_)
 refine' wpAnyH_take (i := 0) (v := _) rfl (by kernel_rfl) (by kernel_rfl) (by kernel_rfl) (fun _ _ _ h => h) (Or.inl ⟨by rfl, ?hy⟩) hHeld ?rest
 case hy => (rintro W ⟨hM, _⟩; go_simp; (try with_reducible rfl))
 case rest =>
 (try simp only [Act.put, sTl, s0l, sSl])
 refine' wpAnyH_take (i := 1) (v := _) rfl (by kernel_rfl) (by kernel_rfl) (by kernel_rfl) (fun _ _ _ h => h) (Or.inl ⟨by rfl, ?hy⟩) hHeld ?rest
 case hy => (rintro W ⟨hM, _⟩; have x1 := HS.out W hM; go_simp; (try with_reducible rfl))
 case rest =>
 (try simp only [Act.put, sTl, s0l, sSl])
 refine wpAnyH_take (i := 2) rfl (by kernel_rfl) (by kernel_rfl) (by kernel_rfl) (fun _ _ _ h => h) (yieldsIf_row (by rfl) 26 _ rfl _ rfl (fun W h => HRow.out W h.1) vqJ rfl (by kernel_rfl)) hHeld ?_
 (try simp only [Act.put, sTl, s0l, sSl])
 refine' wpAnyH_take (i := 3) (v := _) rfl (by kernel_rfl) (by kernel_rfl) (by kernel_rfl) (fun _ _ _ h => h) (Or.inl ⟨by rfl, ?hy⟩) hHeld ?rest
 case hy => (rintro W ⟨hM, _⟩; go_simp; (try with_reducible rfl))
 case rest =>
 (try simp only [Act.put, sTl, s0l, sSl])
 refine' wpAnyH_take (i := 4) (v := _) rfl (by kernel_rfl) (by kernel_rfl) (by kernel_rfl) (fun _ _ _ h => h) (Or.inl ⟨by rfl, ?hy⟩) hHeld ?rest
 case hy => (rintro W ⟨hM, _⟩; have x1 := HS.out W hM; go_simp; (try with_reducible rfl))
 case rest =>
 (try simp only [Act.put, sTl, s0l, sSl])
 refine wpAnyH_ready (rs := [5]) (by kernel_rfl) (by simp) ?_
 refine AllReadyH.cons rfl (fun K hK => ?_) AllReadyH.nil
 go_simp
 (go_at_call 164; refine (KZ.out _).mono ?_; rintro x w1 ⟨rfl, hb3⟩)
 refine hK.out _ _ ⟨hHeld.1.trans (Mod.of_ext hb3), let ⟨t, A, c, hb⟩ := hHeld.2; ⟨t, A, c, hb.ext hb3⟩⟩ (fun hHeld => ?_)
 clear hK K
 (try simp only [Act.put, sTl, s0l, sSl])
 refine' wpAnyH_take (i := 6) (v := _) rfl (by kernel_rfl) (by kernel_rfl) (by kernel_rfl) (fun _ _ _ h => h) (Or.inl ⟨by rfl, ?hy⟩) hHeld ?rest
 case hy => (rintro W ⟨hM, _⟩; go_simp; (try with_reducible rfl))
 case rest =>
 (try simp only [Act.put, sTl, s0l, sSl])
 refine wpAnyH_ready (rs := [7]) (by kernel_rfl) (by simp) ?_
 refine AllReadyH.cons rfl (fun K hK => ?_) AllReadyH.nil
 go_simp
 (go_at_call 163; refine (KT.out _).mono ?_; rintro x w2 ⟨rfl, hb3⟩)
 refine hK.out _ _ ⟨hHeld.1.trans (Mod.of_ext hb3), let ⟨t, A, c, hb⟩ := hHeld.2; ⟨t, A, c, hb.ext hb3⟩⟩ (fun hHeld => ?_)
 clear hK K
 (try simp only [Act.put, sTl, s0l, sSl])
 refine wpAnyH_ready (rs := [8]) (by kernel_rfl) (by simp) ?_
 refine AllReadyH.cons rfl (fun K hK => ?_) AllReadyH.nil
 go_simp
 (go_at_call 162; refine (KP.out _).mono ?_; rintro x w3 ⟨A, c, rfl, hb3, hl3, hc3⟩; have HL3 := hid hl3; have HC3 := hid hc3; clear hc3; have HN3 : Hid (w.heap.size + 2 <= w2.heap.size) := Nat.le_trans HVS.out hHeld.1.size)
 refine hK.out _ _ ⟨hHeld.1.trans (Mod.of_ext hb3), let ⟨t, A, c, hb⟩ := hHeld.2; ⟨t, A, c, hb.ext hb3⟩⟩ (fun hHeld => ?_)
 clear hK K
 (try simp only [Act.put, sTl, s0l, sSl])
 refine wpAnyH_ready (rs := [9]) (by kernel_rfl) (by simp) ?_
 refine AllReadyH.cons rfl (fun K hK => ?_) AllReadyH.nil
 go_simp
 (go_at_call 161; refine (KS.out (w.heap.size + 2) _ _ _ (Nat.le_trans HN3.out hb3.size) (IsL.weak (fun b _ hb => Nat.le_trans HN3.out hb) _ HL3.out) HC3.out).mono ?_; rintro x w4 ⟨A2, c2, rfl, hb4, hl4, hc4⟩; have HL4 := hid hl4; have HC4 := hid hc4; clear hc4)
 refine hK.out _ _ ⟨hHeld.1.trans (Mod.of_ext hb4), let ⟨t, A, c, hb⟩ := hHeld.2; ⟨t, A, c, hb.ext hb4⟩⟩ (fun hHeld => ?_)
 clear hK K
 (try simp only [Act.put, sTl, s0l, sSl])
 refine wpAnyH_ready (rs := [10]) (by kernel_rfl) (by simp) ?_
 refine AllReadyH.cons rfl (fun K hK => ?_) AllReadyH.nil
 obtain ⟨t0, A0, c0, hb0⟩ := hHeld.2
 obtain ⟨q0, q1, q2, q3, q4⟩ := cells5 hb0
 have f0 := hb0.frozen 0
 have f1 := hb0.frozen 1
 have f2 := hb0.frozen 2
 have f3 := hb0.frozen 3
 have f4 := hb0.frozen 4
 go_simp
 refine hK.out _ _ ⟨set5_modR hHeld.1, p.tree, A2, c2, set5_blk hb0⟩ (fun hHeld => ?_)
 clear hK K
 (try simp only [Act.put, sTl, s0l, sSl])
 refine wpAnyH_ready (rs := [11]) (by kernel_rfl) (by simp) ?_
 refine AllReadyH.cons rfl (fun K hK => ?_) AllReadyH.nil
 go_simp
 refine hK.out _ _ hHeld (fun hHeld => ?_)
 clear hK K
 (try simp only [Act.put, sTl, s0l, sSl])
 refine wpAnyH_done (by kernel_rfl) ?_ _
 go_wp2_with fail
 obtain ⟨d0, d1, d2, d3, d4⟩ := cells5 (set5_blk (t := p.tree) (A := A2) (c := c2) hb0)
 clear q0 q1 q2 q3 q4 f0 f1 f2 f3 f4
 show bodyPost _ _ _ _ _ (set5 w4 (w.heap.size + 1) p.tree A2 c2)
 refine bodyPost_ret (v := .tuple #[itemV p.tree A2 c2, .int .i64 0]) (by simp [results, Tryz.results134, go_sem, d0, d1, d2, d3, d4]) rfl ⟨A2, c2, rfl, (HE.out.of_ext.trans hHeld.1).new (fun b hb => .inr (by rw [List.mem_singleton] at hb; omega)), ?_, HC4.out⟩
 exact IsL.weak (fun _ _ h => by have : w.heap.size + 2 <= _ := h; omega) _ (IsL.mod (Q := fun b => w.heap.size + 2 <= b) set5_modb (fun b hb _ hs => by rw [List.mem_singleton] at hs; have : w.heap.size + 2 <= b := hb; omega) _ HL4.out)
theorem cPriItem_ok (p : PV) (hnl : Hid (p.d.name.length < 4611686018427387904 /\ p.s.name.length < 4611686018427387904 /\ p.r.name.length < 4611686018427387904)) (hf : p.fl < 18446744073709551616) (hb : p.right = 0) (w : World) : Calls Tryz.prog 134 #[.agg p.c] w (fun e w' => ∃ A c, e = .returned (.tuple #[itemV p.tree A c, .int .i64 0]) /\ Ext w w' /\ IsL w' (fun b => w.heap.size <= b) p.tree A) := (cPriItem_cap p hnl hf hb w).mono fun _ _ ⟨A, c, h1, h2, h3, _⟩ => ⟨A, c, h1, h2, h3⟩
set_option maxRecDepth 20000 in
theorem cPriBuild_ok (p : PV) (hnl : Hid (p.d.name.length < 4611686018427387904 /\ p.s.name.length < 4611686018427387904 /\ p.r.name.length < 4611686018427387904)) (hf : p.fl < 18446744073709551616) (hb : p.right = 0) (w : World) : Calls Tryz.prog 111 #[.agg p.c] w (Ret (.tuple #[str p.bytes, .int .i64 0]) w) := by
 have KI := hid (fun W => cPriItem_ok p hnl hf hb W)
 obtain ⟨t1, t2, t3, t4⟩ := PV.tree_all (PV.right_ranged hb)
 have KB : Hid (∀ A c W, IsL W (fun _ => True) p.tree A -> Calls Tryz.prog 130 #[itemV p.tree A c] W (Ret (.tuple #[str p.bytes, .int .i64 0]) W)) := fun A c W hW => by
  have := iBuild_any p.tree t1 (by omega) A c W hW
  unfold buildV at this
  rwa [if_pos (t2 8 (by omega)), t4] at this
 generalize p.tree = Y at *
 generalize p.bytes = B at *
 have HE := hid ((Mod.refl [] w).alloc (.cells p.c 26))
 have HB := hid (Blk.new w 26 p.c)
 clear hb hf t1 t2 t3 t4
 go_enter Tryz.func111, Tryz.ntmps111
 go_upto_region 1 with fail
 generalize w.alloc (.cells p.c 26) = V at *
 have HBL : Hid (∀ e : Later V, Blk e.x w.heap.size 26 p.c) := fun e => HB.out.later e
 obtain ⟨e, he⟩ := Later.self V
 rw [he]
 clear he
 go_upto_region 2 with (first | (refine wpList_row (by rfl) 26 _ rfl _ rfl (HBL.out _) vqJ rfl (by kernel_rfl) ?_) | (go_at_call 134; refine (KI.out _).mono ?_; rintro x w1 ⟨A, c, rfl, hb1, hl1⟩))
 have HL1 := hid (IsL.ext (IsL.weak (R := fun _ => True) (fun _ _ _ => trivial) _ hl1) ((Mod.refl [] w1).alloc (.cells (itemC Y A c) 68)))
 have HX1 := hid (Blk.new w1 68 (itemC Y A c))
 have HE1 := hid ((HE.out.trans (e.h.trans hb1)).alloc (.cells (itemC Y A c) 68))
 obtain ⟨q0, q1, q2, q3, q4⟩ := cells5 HX1.out
 clear hb1 hl1
 go_wp2_with (go_at_call 130; refine (KB.out _ _ _ HL1.out).mono ?_; rintro x w2 ⟨rfl, hb2⟩)
 go_ret2
 exact Ret.mk rfl (HE1.out.trans hb2)
def PV.plain (p : PV) : PV := { p with crc := 0 }
section
open Go.Extern.Stop Go.Stop Go.Extern
theorem isTypeOf (v : Value) (w : World) : (Extern.ReflectliteType.typeOf #[.iface 249 v]).run Tryz.prog w = .ok (.iface 205 (.agg #[.pointer (some ⟨2, 249, none⟩)])) w := by kernel_rfl
def cmpE : Array Value -> Sem Value := Extern.ReflectliteType.method fun t => do Extern.Rtype.noPackHeld "Comparable" t; pure (.bool (<- typeInfo t).comparable)
theorem isComparable (w : World) : (cmpE #[.agg #[.pointer (some ⟨2, 249, none⟩)]]).run Tryz.prog w = .ok (.bool true) w := by kernel_rfl
theorem isMethodComparable (v : Value) (w : World) : (Go.method 380 205 v "Comparable").run Tryz.prog w = .ok (230, v) w := by kernel_rfl
theorem isComp : (Tryz.prog.info? 249).map (·.comparable) = some true := by kernel_rfl
theorem isSize : (Tryz.prog.info? 271).map (·.size) = some 1 := by kernel_rfl
theorem noIsR (v : Value) (xT : TypeId) (w : World) : (Instr.typeAssert (.iface 180 v) xT 207 true).run Tryz.prog w = .ok (.tuple #[.nilIface, .bool false]) w := run_typeAssert_lacksB Tryz.underlying207 (by kernel_rfl) (by kernel_rfl) v xT w
theorem hasUnwrapR (v : Value) (xT : TypeId) (w : World) : (Instr.typeAssert (.iface 180 v) xT 209 true).run Tryz.prog w = .ok (.tuple #[.iface 180 v, .bool true]) w := run_typeAssert_hasB Tryz.underlying209 (by kernel_rfl) v xT w
theorem methodUnwrap (v : Value) (w : World) : (Go.method 380 180 v "Unwrap").run Tryz.prog w = .ok (226, v) w := by kernel_rfl
theorem unwrap_any (s : List UInt8) (v : Value) (hv : v.oneCell' = true) (w : World) : Calls Tryz.prog 226 #[.agg #[str s, v]] w (Ret v w) := by
 have HE := hid ((Mod.refl [] w).alloc (.cells #[str s, v] 180))
 have HB := hid (Blk.new w 180 #[str s, v])
 have c1 : (w.alloc (.cells #[str s, v] 180)).cell? ⟨w.heap.size, 1, none⟩ = some v := HB.out.cell 1
 go_enter Tryz.func226, Tryz.ntmps226
 go_wp2_with fail
 go_ret
 exact Ret.mk rfl HE.out
theorem errV_one (eb : Addr) (l : List (List UInt8)) : (errV eb l).oneCell' = true := by
 cases l <;> rfl
set_option maxRecDepth 20000 in
set_option maxHeartbeats 4000000 in
theorem is_any (eb : Addr) (l : List (List UInt8)) (w : World) : Calls Tryz.prog 150 #[errV eb l, .iface 249 (.pointer (some eb)), .bool true] w (Ret (.bool true) w) := by
 obtain ⟨i, hi, hcmp⟩ := Option.map_eq_some_iff.1 isComp
 obtain ⟨j, hj, hjs⟩ := Option.map_eq_some_iff.1 isSize
 have HSM := hid (fun W => run_eql_iface_ptr_same (P := Tryz.prog) W eb Tryz.underlying134 Tryz.underlying249 hi hcmp hj)
 have HTY := hid (fun v W => run_eql_iface_types (P := Tryz.prog) 180 249 v (.pointer (some eb)) Tryz.underlying134 (by decide) W)
 have HL0 : Hid (l.length + 1 <= l.length + 1) := hid (Nat.le_refl _)
 have KU := hid (fun s v hv W => unwrap_any s v hv W)
 clear hi hcmp hj hjs i j
 go_enter Tryz.func150, Tryz.ntmps150
 go_upto_region 1 with fail
 go_loopg [0] (l.length + 1) (fun k s0 wr => ∃ l' : List (List UInt8), s0 = errV eb l' /\ Hid (l'.length + 1 <= k /\ Ext w wr))
 case atStart => exact ⟨l, rfl, (show Hid _ from ⟨Nat.le_refl _, Mod.refl _ _⟩)⟩
 case round =>
  obtain ⟨l', rfl, hS⟩ := hrel
  rename World => wr
  cases l' with
  | nil =>
   have hsm := HSM.out wr
   have hE : errV eb [] = .iface 249 (.pointer (some eb)) := rfl
   rw [hE]
   clear hE
   go_wp2_with fail
   go_ret
   exact Ret.mk rfl hS.out.2
  | cons s l' =>
   have hty := HTY.out (.agg #[str s, errV eb l']) wr
   have KU1 := hid (KU.out s (errV eb l') (errV_one eb l'))
   have hn := noIsR
   have hu := hasUnwrapR
   have hm := methodUnwrap
   obtain ⟨E1, hE1⟩ : ∃ E1, errV eb l' = E1 := ⟨_, rfl⟩
   have HE1 := hid hE1
   have hE : errV eb (s :: l') = .iface 180 (.agg #[str s, E1]) := by rw [<- hE1]; rfl
   rw [hE1] at KU1
   rw [hE]
   rw [hE1] at hty
   clear hE hE1
   obtain ⟨tx, vx, hv⟩ : ∃ tx vx, E1 = .iface tx vx := by
    rw [<- HE1.out]
    cases l' with
    | nil => exact ⟨_, _, rfl⟩
    | cons s l => exact ⟨_, _, rfl⟩
   subst hv
   go_wp2_with (go_at_call 226; refine (KU1.out _).mono ?_; rintro x w1 ⟨rfl, hb⟩; have HX := hid hb; clear hb)
   go_roundg (l'.length + 1)
   case rel => exact ⟨l', HE1.out.symm, (show Hid _ from ⟨Nat.le_refl _, hS.out.2.trans HX.out⟩)⟩
   case measure => have := hS.out.1; simp at this; omega
theorem errorsIs_any (eb : Addr) (l : List (List UInt8)) (w : World) : Calls Tryz.prog 127 #[errV eb l, .iface 249 (.pointer (some eb))] w (Ret (.bool true) w) := by
 have h8 := @run_callFunc_extern Tryz.prog 149 _ Extern.ReflectliteType.typeOf Tryz.func149 (by kernel_rfl) (by kernel_rfl) (by kernel_rfl) (by kernel_rfl)
 have h32 := @run_callFunc_extern Tryz.prog 230 _ cmpE Tryz.func230 (by kernel_rfl) (by kernel_rfl) (by kernel_rfl) (by kernel_rfl)
 have tT := isTypeOf
 have cT := isComparable
 have mR := isMethodComparable
 have KI := hid (is_any eb l)
 obtain ⟨tx, vx, hv⟩ : ∃ tx vx, errV eb l = .iface tx vx := by
  cases l with
  | nil => exact ⟨_, _, rfl⟩
  | cons s l => exact ⟨_, _, rfl⟩
 rw [hv] at KI ⊢
 clear hv
 go_enter Tryz.func127, Tryz.ntmps127
 go_wp2_with (go_at_call 150; refine (KI.out _).mono ?_; rintro x w1 ⟨rfl, hb⟩; have HX := hid hb; clear hb)
 go_ret
 exact Ret.mk rfl HX.out
theorem errorsIs_nil (eb : Addr) (w : World) : Calls Tryz.prog 127 #[.nilIface, .iface 249 (.pointer (some eb))] w (Ret (.bool false) w) := by
 have hn := run_eql_iface_nil_left (P := Tryz.prog) w 249 (.pointer (some eb)) Tryz.underlying134
 go_enter Tryz.func127, Tryz.ntmps127
 go_wp2_with fail
 go_ret
 exact Ret.mk rfl (Mod.refl _ _)
end
end Go.Proofs.YtmckfdmdkljomaaGreatDoor
