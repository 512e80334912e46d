/-
 Bundles: the first block of a type, as the code finds it.
-/
import Derived.Test.YthecmnbkjchjmaaGreatMExtHopsai
import Derived.Test.YthecmnbkjchjmaaGreatMExtHopsan
namespace Go.Proofs.YthecmnbkjchjmaaGreat
open Go.RowKit
set_option linter.unusedVariables false
set_option linter.unusedSimpArgs false
def tyB (bs : Nat -> BV) (typ : Int) (i : Nat) : Bool := decide ((bs i).ty = typ)
theorem tyB_no {bs : Nat -> BV} {typ : Int} {i : Nat} (h : (bs i).ty ≠ typ) : tyB bs typ i = false := by unfold tyB; simp [h]
theorem tyB_yes {bs : Nat -> BV} {typ : Int} {i : Nat} (h : (bs i).ty = typ) : tyB bs typ i = true := by unfold tyB; simp [h]
def setB (W : World) (g : Nat) (b : BV) : World := ((((W.setCell ⟨g, 0, none⟩ (.int .i64 b.ty)).setCell ⟨g, 1, none⟩ (.int .i64 b.num)).setCell ⟨g, 2, none⟩ (.int .u64 (b.fl : Int))).setCell ⟨g, 3, none⟩ (.int .i64 b.crc)).setCell ⟨g, 4, none⟩ (str b.data)
section
variable {W : World} {g : Nat} {b0 b : BV}
theorem setB_blk (h : Blk W g 38 b0.c) : Blk (setB W g b) g 38 b.c := by
 have := ((((h.set_ 0 (.int .i64 b.ty)).set_ 1 (.int .i64 b.num)).set_ 2 (.int .u64 (b.fl : Int))).set_ 3 (.int .i64 b.crc)).set_ 4 (str b.data)
 unfold setB
 simpa using this
theorem setB_mod {w : World} {S : List Nat} (h : Mod S w W) (hb : w.heap.size <= g) : Mod S w (setB W g b) :=
 ((((h.setCell (.inr hb) _).setCell (.inr hb) _).setCell (.inr hb) _).setCell (.inr hb) _).setCell (.inr hb) _
theorem cellsB (h : Blk W g 38 b.c) : W.cell? ⟨g, 0, none⟩ = some (.int .i64 b.ty) /\ W.cell? ⟨g, 1, none⟩ = some (.int .i64 b.num) /\ W.cell? ⟨g, 2, none⟩ = some (.int .u64 (b.fl : Int)) /\
  W.cell? ⟨g, 3, none⟩ = some (.int .i64 b.crc) /\ W.cell? ⟨g, 4, none⟩ = some (str b.data) := ⟨h.cell 0, h.cell 1, h.cell 2, h.cell 3, h.cell 4⟩
end
def findV (bs : Nat -> BV) (typ : Int) (k : Nat) : Value := match firstOf (tyB bs typ) k with | some i => .tuple #[(bs i).v, .bool true] | none => .tuple #[zeroB.v, .bool false]
set_option maxRecDepth 20000 in
set_option maxHeartbeats 800000 in
theorem Find_any (p : PV) (bs : Nat -> BV) (k c : Nat) (A : Option Addr) (typ : Int) (hk : k < 4611686018427387904) (w : World) (h : BsL w A k bs) : Calls Tryz.prog 42 #[bunV p A k c, .int .i64 typ] w (Ret (findV bs typ k) w) := by
 have HE := hid (((Mod.refl [] w).alloc (.cells (bunC p A k c) 29)).alloc (.cells #[.int .i64 0, .int .i64 0, .int .u64 0, .int .i64 0, .string ⟨#[]⟩] 38))
 have HB := hid ((Blk.new w 29 (bunC p A k c)).alloc (.cells #[.int .i64 0, .int .i64 0, .int .u64 0, .int .i64 0, .string ⟨#[]⟩] 38))
 have HR : Hid (Blk ((w.alloc (.cells (bunC p A k c) 29)).alloc (.cells #[.int .i64 0, .int .i64 0, .int .u64 0, .int .i64 0, .string ⟨#[]⟩] 38)) (w.heap.size + 1) 38 zeroB.c) := Blk.newL _ _ _ (by simp)
 have HL := hid (BsL.ext h HE.out)
 have k1 : (k : Int) < 4611686018427387904 := by omega
 have HK := hid hk
 clear h hk
 go_enter Tryz.func42, Tryz.ntmps42
 go_upto_region 1 with fail
 generalize (w.alloc (.cells (bunC p A k c) 29)).alloc (.cells #[.int .i64 0, .int .i64 0, .int .u64 0, .int .i64 0, .string ⟨#[]⟩] 38) = V at *
 have b19 : ∀ e : Later V, e.x.cell? ⟨w.heap.size, 19, none⟩ = some (.slice A k c) := HB.out.cellL 19 rfl
 have b19v : V.cell? ⟨w.heap.size, 19, none⟩ = some (.slice A k c) := HB.out.cell 19
 go_wp2_with fail
 clear b19v
 obtain ⟨e0, he0⟩ := Later.self V
 go_loopw [11] (fun s11 wr => ∃ i : Nat, s11 = .int .i64 (i : Int) /\ Hid (i <= k /\ ∀ j, j < i -> tyB bs typ j = false) /\ ∃ e : Later V, wr = e.x) (fun s11 _ => k - (intOf s11).toNat)
 case atStart => exact ⟨0, rfl, (show Hid _ from ⟨by omega, fun j hj => by omega⟩), e0, he0⟩
 case round =>
  clear he0 e0
  obtain ⟨i, rfl, hi, e, rfl⟩ := hrel
  have i0 : (0 : Int) <= (i : Int) := by omega
  by_cases hlt : i < k
  .
   obtain ⟨b, o, rfl, hb, q0, q1, q2, q3, q4⟩ := HL.out.cells hlt
   have tc : decide (i < k) = true := by simp [hlt]
   have i1 : (i : Int) < (k : Int) := by omega
   have HLT := hid hlt
   have HRA := hid ((HR.out.later e).alloc (.cells (BV.c (bs i)) 38))
   have HEA := hid (HE.out.trans ((Later.h e).alloc (.cells (BV.c (bs i)) 38)))
   clear hlt
   by_cases ht : (bs i).ty = typ
   .
    have HF : Hid (findV bs typ k = .tuple #[(bs i).v, .bool true]) := by unfold Hid findV; rw [firstOf_some HLT.out (tyB_yes ht) hi.out.2]
    have t1 : ((bs i).ty == typ) = true := by simpa using ht
    have t2 : ((bs i).ty = typ) = True := by simpa using ht
    clear ht
    obtain ⟨c0, c1, c2, c3, c4⟩ := cellsB (b := zeroB) HRA.out
    have f0 := HRA.out.frozen 0
    have f1 := HRA.out.frozen 1
    have f2 := HRA.out.frozen 2
    have f3 := HRA.out.frozen 3
    have f4 := HRA.out.frozen 4
    go_wp2_with fail
    obtain ⟨d0, d1, d2, d3, d4⟩ := cellsB (setB_blk (b := bs i) HRA.out)
    clear c0 c1 c2 c3 c4 f0 f1 f2 f3 f4
    show bodyPost _ _ _ _ _ (setB (e.x.alloc (.cells (BV.c (bs i)) 38)) (w.heap.size + 1) (bs i))
    refine bodyPost_ret (v := .tuple #[(bs i).v, .bool true]) (by simp [results, Tryz.results42, go_sem, d0, d1, d2, d3, d4]) rfl (Ret.mk HF.out.symm (setB_mod HEA.out (by omega)))
   .
    have HN := hid (tyB_no ht)
    have t1 : ((bs i).ty == typ) = false := by simpa using ht
    have t2 : ((bs i).ty = typ) = False := by simpa using ht
    clear ht
    go_wp2_with fail
    go_roundw
    case rel => exact ⟨i + 1, by go_num, (show Hid _ from ⟨HLT.out, fun j hj => by
     by_cases hji : j = i
     . subst hji; exact HN.out
     . exact hi.out.2 j (by omega)⟩), Later.go e ((Mod.refl [] _).alloc _)⟩
    case measure => have := HLT.out; simp [intOf]; omega
  .
   obtain rfl : i = k := by have := hi.out.1; omega
   have tc : decide (i < i) = false := by simp
   have HF : Hid (findV bs typ i = .tuple #[zeroB.v, .bool false]) := by unfold Hid findV; rw [firstOf_none hi.out.2]
   have HRA := hid (HR.out.later e)
   obtain ⟨c0, c1, c2, c3, c4⟩ := cellsB (b := zeroB) HRA.out
   have f0 := HRA.out.frozen 0
   have f1 := HRA.out.frozen 1
   have f2 := HRA.out.frozen 2
   have f3 := HRA.out.frozen 3
   have f4 := HRA.out.frozen 4
   go_wp2_with fail
   obtain ⟨d0, d1, d2, d3, d4⟩ := cellsB (setB_blk (b := zeroB) HRA.out)
   clear c0 c1 c2 c3 c4 f0 f1 f2 f3 f4
   show bodyPost _ _ _ _ _ (setB e.x (w.heap.size + 1) zeroB)
   refine bodyPost_ret (v := .tuple #[zeroB.v, .bool false]) (by simp [results, Tryz.results42, go_sem, d0, d1, d2, d3, d4]) rfl (Ret.mk HF.out.symm (setB_mod (HE.out.trans e.h) (by omega)))
theorem blkT_ok {ty num fl crc : Nat} {data sum : List UInt8} (h1 : ty <= 65535) (h2 : num <= 65535) (h3 : fl <= 255) (h4 : crc <= 2) (h5 : data.length <= 4000) (h6 : sum.length <= 4000) : (blkT ty num fl crc data sum).ok := by
 unfold blkT T.ok
 refine ⟨by omega, by omega, by simp, by split <;> omega, fun i hi => ?_⟩
 dsimp only
 split
 . exact num_ok (by omega)
 .
  split
  . exact num_ok (by omega)
  .
   split
   . exact num_ok (by omega)
   .
    split
    . exact num_ok (by omega)
    .
     split
     . exact str_ok (by omega)
     .
      split
      . exact str_ok (by omega)
      .
       have : i < 6 := by split at hi <;> omega
       omega
set_option maxRecDepth 20000 in
theorem summed_0 (t : T) (A : Option Addr) (c : Nat) (w : World) : Calls Tryz.prog 152 #[.int .i64 0, itemV t A c] w (Ret (itemV t A c) w) := by
 have HB := hid (Blk.new w 86 (itemC t A c))
 go_enter Tryz.func152, Tryz.ntmps152
 go_wp2_with fail
 refine bodyPost_ret (v := itemV t A c) (by simp [results, Tryz.results152, go_sem]) rfl (Ret.mk rfl (((Mod.refl _ _).alloc _).alloc _))
set_option maxRecDepth 20000 in
set_option maxHeartbeats 800000 in
theorem Item_ok (ty num fl crc : Nat) (data : List UInt8) (hb : BV.right ⟨ty, num, fl, crc, data⟩ = 0) (t : T) (KS : Hid (∀ N A c W, N <= W.heap.size -> IsL W (fun b => N <= b) (blkT ty num fl crc data []) A -> Calls Tryz.prog 152 #[.int .i64 (crc : Int), itemV (blkT ty num fl crc data []) A c] W (fun e w' => ∃ A c, e = .returned (itemV t A c) /\ Ext W w' /\ IsL w' (fun b => N <= b) t A))) (w : World) : Calls Tryz.prog 137 #[BV.v ⟨ty, num, fl, crc, data⟩] w (fun e w' => ∃ A c, e = .returned (.tuple #[itemV t A c, .int .i64 0]) /\ Ext w w' /\ IsL w' (fun b => w.heap.size <= b) t A) := by
 have h := BV.right_zero hb
 simp only [] at h
 have HB := hid ((Blk.new w 38 (BV.c ⟨ty, num, fl, crc, data⟩)).alloc (.cells #[.int .i64 0, .int .u64 0, .string ⟨#[]⟩, .slice none 0 0, .bool false] 86))
 have HE0 := hid (((Mod.refl [] w).alloc (.cells (BV.c ⟨ty, num, fl, crc, data⟩) 38)).alloc (.cells #[.int .i64 0, .int .u64 0, .string ⟨#[]⟩, .slice none 0 0, .bool false] 86))
 have HR : Hid (Blk ((w.alloc (.cells (BV.c ⟨ty, num, fl, crc, data⟩) 38)).alloc (.cells #[.int .i64 0, .int .u64 0, .string ⟨#[]⟩, .slice none 0 0, .bool false] 86)) (w.heap.size + 1) 86 (itemC (numT 0) none 0)) := by
  have := Blk.new (w.alloc (.cells (BV.c ⟨ty, num, fl, crc, data⟩) 38)) 86 (itemC (numT 0) none 0)
  unfold Hid
  simpa [itemC, numT, T.kind, T.n, T.s, T.k, T.op] using this
 have k1 : Hid (∀ W, Calls Tryz.prog 109 #[BV.v ⟨ty, num, fl, crc, data⟩] W (Ret (.int .i64 0) W)) := fun W => by have := cbRight_any ⟨ty, num, fl, crc, data⟩ W; rw [hb] at this; exact this
 go_enter Tryz.func137, Tryz.ntmps137
 go_wp2_with fail
 refine (k1.out _).mono ?_
 rintro e w1 ⟨rfl, hb1⟩
 have HE1 := hid (HE0.out.trans hb1)
 have HR1 := hid (HR.out.ext hb1)
 have HC := hid (HB.out.ext hb1)
 obtain ⟨c0, c1, c2, c3, c4⟩ : w1.cell? ⟨w.heap.size, 0, none⟩ = some (.int .i64 (ty : Int)) /\ w1.cell? ⟨w.heap.size, 1, none⟩ = some (.int .i64 (num : Int)) /\ w1.cell? ⟨w.heap.size, 2, none⟩ = some (.int .u64 (fl : Int)) /\ w1.cell? ⟨w.heap.size, 3, none⟩ = some (.int .i64 (crc : Int)) /\ w1.cell? ⟨w.heap.size, 4, none⟩ = some (str data) := ⟨HC.out.cell 0, HC.out.cell 1, HC.out.cell 2, HC.out.cell 3, HC.out.cell 4⟩
 clear hb1
 have HN : Hid (w.heap.size + 2 <= w1.heap.size) := Nat.succ_le_of_lt HR1.out.lt
 go_upto_region 4 with fail
 have HS : Hid (∀ w', Ext w1 w' -> w'.cell? ⟨w.heap.size, 0, none⟩ = some (.int .i64 (ty : Int)) /\ w'.cell? ⟨w.heap.size, 1, none⟩ = some (.int .i64 (num : Int)) /\ w'.cell? ⟨w.heap.size, 2, none⟩ = some (.int .u64 (fl : Int)) /\ w'.cell? ⟨w.heap.size, 3, none⟩ = some (.int .i64 (crc : Int)) /\ w'.cell? ⟨w.heap.size, 4, none⟩ = some (str data)) := fun W hW => by
  have b1 := HC.out.ext hW
  exact ⟨b1.cell 0, b1.cell 1, b1.cell 2, b1.cell 3, b1.cell 4⟩
 obtain ⟨g0, g1, g2, g3, g4⟩ := cells5 HR1.out
 have f0 := Blk.frozen HR1.out 0
 have f1 := Blk.frozen HR1.out 1
 have f2 := Blk.frozen HR1.out 2
 have f3 := Blk.frozen HR1.out 3
 have f4 := Blk.frozen HR1.out 4
 go_region_held3 (fun w' => w'.cell? ⟨w.heap.size, 0, none⟩ = some (.int .i64 (ty : Int)) /\ w'.cell? ⟨w.heap.size, 1, none⟩ = some (.int .i64 (num : Int)) /\ w'.cell? ⟨w.heap.size, 2, none⟩ = some (.int .u64 (fl : Int)) /\ w'.cell? ⟨w.heap.size, 3, none⟩ = some (.int .i64 (crc : Int)) /\ w'.cell? ⟨w.heap.size, 4, none⟩ = some (str data)) (go_keep)
   (first
    | (go_at_call 153; refine (with_any ty num fl crc data [] (by omega) (by omega) (by omega) _).mono ?_; rintro x w3 ⟨A, c, rfl, hb3, hl3⟩; have hl3 := IsL.weak (R := fun b => w.heap.size + 2 <= b) (fun k _ hq => Nat.le_trans (Nat.le_trans HN.out (Mod.size (S := []) (by first | with_reducible exact Mod.refl _ _ | with_reducible exact (Mod.refl _ _).drew))) hq) _ hl3; have hx : Ext w1 w3 := (by (with_reducible refine Mod.trans ?_ hb3); (repeat (first | with_reducible assumption | with_reducible exact Mod.refl _ _ | with_reducible refine Mod.drew ?_ | with_reducible refine Mod.alloc ?_ _))); have z := HS.out w3 hx)
    | (go_at_call 152; refine (KS.out (w.heap.size + 2) _ _ _ (Nat.le_trans HN.out (Mod.size hx)) hl3).mono ?_; rintro x w4 ⟨A2, c2, rfl, hb4, hl4⟩; have hx : Ext w1 w4 := (by (with_reducible refine Mod.trans ?_ hb4); (repeat (first | with_reducible assumption | with_reducible exact Mod.refl _ _ | with_reducible refine Mod.drew ?_ | with_reducible refine Mod.alloc ?_ _))); have z := HS.out w4 hx; have HR4 := hid (HR1.out.ext hx); obtain ⟨g0, g1, g2, g3, g4⟩ := cells5 HR4.out; have f0 := Blk.frozen HR4.out 0; have f1 := Blk.frozen HR4.out 1; have f2 := Blk.frozen HR4.out 2; have f3 := Blk.frozen HR4.out 3; have f4 := Blk.frozen HR4.out 4))
 all_goals go_wp2_with fail
 all_goals obtain ⟨d0, d1, d2, d3, d4⟩ := cells5 (set5_blk (t := t) (A := A2) (c := c2) HR4.out)
 all_goals clear g0 g1 g2 g3 g4 f0 f1 f2 f3 f4
 all_goals show bodyPost _ _ _ _ _ (set5 w4 (w.heap.size + 1) t A2 c2)
 all_goals refine bodyPost_ret (v := .tuple #[itemV t A2 c2, .int .i64 0]) (by simp [results, Tryz.results137, go_sem, d0, d1, d2, d3, d4]) rfl ?_
 all_goals exact ⟨A2, c2, rfl, set5_mod (HE1.out.trans hx) (by omega), IsL.weak (fun _ _ h => by have : w.heap.size + 2 <= _ := h; omega) _ (IsL.mod (Q := fun b => w.heap.size + 2 <= b) set5_modb (fun k hq hk hm => by rw [List.mem_singleton] at hm; have : w.heap.size + 2 <= k := hq; omega) _ hl4)⟩
def gotV (sz m n : Nat) (o : Bool) : Value := .agg #[.int .i64 (sz : Int), .int .i64 (m : Int), .int .u64 (n : Int), .bool o]
def gotOf (x : Option (Nat × Nat × Nat × Bool)) : Value := match x with | none => gotV 0 0 0 false | some (sz, m, n, o) => gotV sz m n o
theorem first_div' (c : UInt8) (l : List UInt8) {m : Nat} (h : 0 < (⟨(c :: l).toArray⟩ : ByteArray).size) (hm : Hid (c.toNat / 32 = m)) : Value.int .i64 (wrap64 ((wrap64 ((⟨(c :: l).toArray⟩ : ByteArray)[0].toNat : Int)).tdiv 32)) = .int .i64 (m : Int) := by
 rw [<- hm.out]
 show Value.int .i64 (wrap64 ((wrap64 (c.toNat : Int)).tdiv 32)) = _
 have := c.toNat_lt
 have e : wrap64 (c.toNat : Int) = (c.toNat : Int) := IntWalk.wrap64_in _ (by omega)
 rw [e, Int.tdiv_eq_ediv_of_nonneg (by omega), IntWalk.wrap64_in _ (by omega)]; rfl
theorem first_mod' (c : UInt8) (l : List UInt8) {k : Nat} (h : 0 < (⟨(c :: l).toArray⟩ : ByteArray).size) (hk : Hid (c.toNat % 32 = k)) : Value.int .i64 ((wrap64 ((⟨(c :: l).toArray⟩ : ByteArray)[0].toNat : Int)).tmod 32) = .int .i64 (k : Int) := by
 rw [<- hk.out]
 show Value.int .i64 ((wrap64 (c.toNat : Int)).tmod 32) = _
 have := c.toNat_lt
 have e : wrap64 (c.toNat : Int) = (c.toNat : Int) := IntWalk.wrap64_in _ (by omega)
 rw [e, Int.tmod_eq_emod_of_nonneg (by omega)]; rfl
def sz1 (k : Nat) : Nat := if k = 24 then 1 else 0
def sz2 (k : Nat) : Nat := if k = 25 then 2 else sz1 k
def sz3 (k : Nat) : Nat := if k = 26 then 4 else sz2 k
def sz4 (k : Nat) : Nat := if k = 27 then 8 else sz3 k
set_option maxRecDepth 20000 in
set_option maxHeartbeats 400000 in
theorem read_nil (w : World) : Calls Tryz.prog 52 #[str []] w (Ret (gotV 0 0 0 false) w) := by
 go_enter Tryz.func52, Tryz.ntmps52
 go_wp2
 refine bodyPost_ret (v := gotV 0 0 0 false) (by simp [results, Tryz.results52, go_sem, gotV]) rfl (Ret.mk rfl ?_)
 repeat (first | exact Mod.refl _ _ | apply Mod.drewN | apply Mod.alloc | refine Mod.setCell ?_ (.inr (Nat.le_refl _)) _)
set_option maxRecDepth 20000 in
set_option maxHeartbeats 400000 in
theorem read_small (c : UInt8) (l : List UInt8) (m k : Nat) (hmm : Hid (c.toNat / 32 = m)) (hkk : Hid (c.toNat % 32 = k)) (hk : Hid (k < 24)) (w : World) : Calls Tryz.prog 52 #[str (c :: l)] w (Ret (gotV 1 m k false) w) := by
 have hlen : (0 : Int) < (l.length : Int) + 1 := by omega
 go_enter Tryz.func52, Tryz.ntmps52
 go_upto_region 3 with fail
 go_cut [3, 4] (fun s6 s7 wx => s6 = .int .i64 (m : Int) /\ s7 = .int .i64 (k : Int) /\ ∃ n, wx = (w.alloc (.cells #[.int .i64 0, .int .i64 0, .int .u64 0, .bool false] 96)).drewN n)
 case first =>
  go_quiet (fail)
  go_wp2_with fail
  go_meet
  exact ⟨first_div' c l _ hmm, first_mod' c l _ hkk, _, rfl⟩
 obtain ⟨rfl, rfl, nw, rfl⟩ := hcut
 have hk32 : Hid (k <= 31) := by have := hkk.out; unfold Hid; omega
 have t1 : decide ((k : Int) < 24) = true := by have h1 := hk.out; have h2 := hk32.out; simp; omega
 have hw1 : IntKind.u64.wrap (k : Int) = k := IntWalk.u64_in _ (by have := hk32.out; omega)
 go_wp2
 refine bodyPost_ret (v := gotV 1 m k false) (by simp [results, Tryz.results52, go_sem, gotV]) rfl (Ret.mk rfl ?_)
 repeat (first | exact Mod.refl _ _ | apply Mod.drewN | apply Mod.alloc | refine Mod.setCell ?_ (.inr (Nat.le_refl _)) _)
set_option maxRecDepth 20000 in
set_option maxHeartbeats 400000 in
theorem read_open (c : UInt8) (l : List UInt8) (m k : Nat) (hmm : Hid (c.toNat / 32 = m)) (hkk : Hid (c.toNat % 32 = k)) (hk : Hid (k = 31)) (ho : Hid (opensB (m : Int) = true)) (w : World) : Calls Tryz.prog 52 #[str (c :: l)] w (Ret (gotV 1 m 0 true) w) := by
 have hlen : (0 : Int) < (l.length : Int) + 1 := by omega
 go_enter Tryz.func52, Tryz.ntmps52
 go_upto_region 3 with fail
 go_cut [3, 4] (fun s6 s7 wx => s6 = .int .i64 (m : Int) /\ s7 = .int .i64 (k : Int) /\ ∃ n, wx = (w.alloc (.cells #[.int .i64 0, .int .i64 0, .int .u64 0, .bool false] 96)).drewN n)
 case first =>
  go_quiet (fail)
  go_wp2_with fail
  go_meet
  exact ⟨first_div' c l _ hmm, first_mod' c l _ hkk, _, rfl⟩
 obtain ⟨rfl, rfl, nw, rfl⟩ := hcut
 have hk32 : Hid (k <= 31) := by have := hkk.out; unfold Hid; omega
 have t1 : decide ((k : Int) < 24) = false := by have h1 := hk.out; have h2 := hk32.out; simp; omega
 have t2 : ((k : Int) == 31) = true := by have h1 := hk.out; have h2 := hk32.out; simp; omega
 have t3 : ((m : Int) != 0) = true := by have h1 := ho.out; have h2 := hmm.out; have h3 := c.toNat_lt; unfold opensB at h1; simp at h1 ⊢; omega
 have t4 : ((m : Int) != 1) = true := by have h1 := ho.out; have h2 := hmm.out; have h3 := c.toNat_lt; unfold opensB at h1; simp at h1 ⊢; omega
 have t5 : ((m : Int) != 6) = true := by have h1 := ho.out; have h2 := hmm.out; have h3 := c.toNat_lt; unfold opensB at h1; simp at h1 ⊢; omega
 go_wp2
 refine bodyPost_ret (v := gotV 1 m 0 true) (by simp [results, Tryz.results52, go_sem, gotV]) rfl (Ret.mk rfl ?_)
 repeat (first | exact Mod.refl _ _ | apply Mod.drewN | apply Mod.alloc | refine Mod.setCell ?_ (.inr (Nat.le_refl _)) _)
set_option maxRecDepth 20000 in
set_option maxHeartbeats 400000 in
theorem read_none (c : UInt8) (l : List UInt8) (m k : Nat) (hmm : Hid (c.toNat / 32 = m)) (hkk : Hid (c.toNat % 32 = k)) (hk : Hid (24 <= k)) (ho : Hid (¬ (k = 31 /\ opensB (m : Int) = true))) (hz : Hid (sz4 k = 0)) (w : World) : Calls Tryz.prog 52 #[str (c :: l)] w (Ret (gotV 0 0 0 false) w) := by
 have hlen : (0 : Int) < (l.length : Int) + 1 := by omega
 go_enter Tryz.func52, Tryz.ntmps52
 go_upto_region 3 with fail
 go_cut [3, 4] (fun s6 s7 wx => s6 = .int .i64 (m : Int) /\ s7 = .int .i64 (k : Int) /\ ∃ n, wx = (w.alloc (.cells #[.int .i64 0, .int .i64 0, .int .u64 0, .bool false] 96)).drewN n)
 case first =>
  go_quiet (fail)
  go_wp2_with fail
  go_meet
  exact ⟨first_div' c l _ hmm, first_mod' c l _ hkk, _, rfl⟩
 obtain ⟨rfl, rfl, nw, rfl⟩ := hcut
 have hk32 : Hid (k <= 31) := by have := hkk.out; unfold Hid; omega
 have t1 : decide ((k : Int) < 24) = false := by have h1 := hk.out; have h2 := hk32.out; simp; omega
 go_upto_region 6 with fail
 go_cut [38] (fun s wx => s = .bool false /\ ∃ n, wx = (w.alloc (.cells #[.int .i64 0, .int .i64 0, .int .u64 0, .bool false] 96)).drewN n)
 case first =>
  by_cases hv : k = 31
  .
   have hm3 : m = 0 \/ m = 1 \/ m = 6 := by
    have h1 := hmm.out; have h2 := c.toNat_lt; have h3 := ho.out
    have h4 : opensB (m : Int) = false := by cases e : opensB (m : Int) with | false => rfl | true => exact absurd ⟨hv, e⟩ h3
    unfold opensB at h4; simp at h4; omega
   have tv : ((k : Int) == 31) = true := by simp; omega
   have HV := hid hv; clear hv
   rcases hm3 with hm | hm | hm
   .
    have tm : ((m : Int) != 0) = false := by simp; omega
    have HM := hid hm; clear hm
    go_wp2_with fail; go_meet; exact ⟨rfl, _, rfl⟩
   .
    have tm : ((m : Int) != 0) = true := by simp; omega
    have tm1 : ((m : Int) != 1) = false := by simp; omega
    have HM := hid hm; clear hm
    go_wp2_with fail; go_meet; exact ⟨rfl, _, rfl⟩
   .
    have tm : ((m : Int) != 0) = true := by simp; omega
    have tm1 : ((m : Int) != 1) = true := by simp; omega
    have tm2 : ((m : Int) != 6) = false := by simp; omega
    have HM := hid hm; clear hm
    go_wp2_with fail; go_meet; exact ⟨rfl, _, rfl⟩
  .
   have tv : ((k : Int) == 31) = false := by simp; omega
   have HV := hid hv; clear hv
   go_wp2_with fail; go_meet; exact ⟨rfl, _, rfl⟩
 obtain ⟨rfl, nv, rfl⟩ := hcut
 go_upto_region 8 with fail
 go_cut [5] (fun s wx => s = .int .i64 0 /\ ∃ n, wx = (w.alloc (.cells #[.int .i64 0, .int .i64 0, .int .u64 0, .bool false] 96)).drewN n)
 case first => go_wp2_with fail; go_meet; exact ⟨rfl, _, rfl⟩
 obtain ⟨rfl, nx, rfl⟩ := hcut
 go_step
 go_step
 go_cut [5] (fun s wx => s = .int .i64 ((sz1 k : Nat) : Int) /\ ∃ n, wx = (w.alloc (.cells #[.int .i64 0, .int .i64 0, .int .u64 0, .bool false] 96)).drewN n)
 case first =>
  by_cases hv : k = 24
  .
   have tv : ((k : Int) == 24) = true := by simp; omega
   have HV := hid hv; clear hv
   go_wp2_with fail; go_meet
   exact ⟨by unfold sz1; rw [if_pos HV.out]; rfl, _, rfl⟩
  .
   have tv : ((k : Int) == 24) = false := by simp; omega
   have HV := hid hv; clear hv
   go_wp2_with fail; go_meet
   exact ⟨by unfold sz1; rw [if_neg HV.out]; rfl, _, rfl⟩
 obtain ⟨rfl, nx1, rfl⟩ := hcut
 go_step
 go_step
 go_cut [5] (fun s wx => s = .int .i64 ((sz2 k : Nat) : Int) /\ ∃ n, wx = (w.alloc (.cells #[.int .i64 0, .int .i64 0, .int .u64 0, .bool false] 96)).drewN n)
 case first =>
  by_cases hv : k = 25
  .
   have tv : ((k : Int) == 25) = true := by simp; omega
   have HV := hid hv; clear hv
   go_wp2_with fail; go_meet
   exact ⟨by unfold sz2; rw [if_pos HV.out]; rfl, _, rfl⟩
  .
   have tv : ((k : Int) == 25) = false := by simp; omega
   have HV := hid hv; clear hv
   go_wp2_with fail; go_meet
   exact ⟨by unfold sz2; rw [if_neg HV.out], _, rfl⟩
 obtain ⟨rfl, nx2, rfl⟩ := hcut
 go_step
 go_step
 go_cut [5] (fun s wx => s = .int .i64 ((sz3 k : Nat) : Int) /\ ∃ n, wx = (w.alloc (.cells #[.int .i64 0, .int .i64 0, .int .u64 0, .bool false] 96)).drewN n)
 case first =>
  by_cases hv : k = 26
  .
   have tv : ((k : Int) == 26) = true := by simp; omega
   have HV := hid hv; clear hv
   go_wp2_with fail; go_meet
   exact ⟨by unfold sz3; rw [if_pos HV.out]; rfl, _, rfl⟩
  .
   have tv : ((k : Int) == 26) = false := by simp; omega
   have HV := hid hv; clear hv
   go_wp2_with fail; go_meet
   exact ⟨by unfold sz3; rw [if_neg HV.out], _, rfl⟩
 obtain ⟨rfl, nx3, rfl⟩ := hcut
 go_step
 go_step
 go_cut [5] (fun s wx => s = .int .i64 ((sz4 k : Nat) : Int) /\ ∃ n, wx = (w.alloc (.cells #[.int .i64 0, .int .i64 0, .int .u64 0, .bool false] 96)).drewN n)
 case first =>
  by_cases hv : k = 27
  .
   have tv : ((k : Int) == 27) = true := by simp; omega
   have HV := hid hv; clear hv
   go_wp2_with fail; go_meet
   exact ⟨by unfold sz4; rw [if_pos HV.out]; rfl, _, rfl⟩
  .
   have tv : ((k : Int) == 27) = false := by simp; omega
   have HV := hid hv; clear hv
   go_wp2_with fail; go_meet
   exact ⟨by unfold sz4; rw [if_neg HV.out], _, rfl⟩
 obtain ⟨rfl, nx4, rfl⟩ := hcut
 rw [hz.out]
 go_wp2
 refine bodyPost_ret (v := gotV 0 0 0 false) (by simp [results, Tryz.results52, go_sem, gotV]) rfl (Ret.mk rfl ?_)
 repeat (first | exact Mod.refl _ _ | apply Mod.drewN | apply Mod.alloc | refine Mod.setCell ?_ (.inr (Nat.le_refl _)) _)
set_option maxRecDepth 20000 in
set_option maxHeartbeats 400000 in
theorem read_short (c : UInt8) (l : List UInt8) (m k : Nat) (hmm : Hid (c.toNat / 32 = m)) (hkk : Hid (c.toNat % 32 = k)) (S : Nat) (hk : Hid (24 <= k /\ k < 28)) (hz : Hid (sz4 k = S)) (hS : Hid (1 <= S /\ S <= 8)) (hs : Hid (l.length < S)) (w : World) : Calls Tryz.prog 52 #[str (c :: l)] w (Ret (gotV 0 0 0 false) w) := by
 have hlen : (0 : Int) < (l.length : Int) + 1 := by omega
 go_enter Tryz.func52, Tryz.ntmps52
 go_upto_region 3 with fail
 go_cut [3, 4] (fun s6 s7 wx => s6 = .int .i64 (m : Int) /\ s7 = .int .i64 (k : Int) /\ ∃ n, wx = (w.alloc (.cells #[.int .i64 0, .int .i64 0, .int .u64 0, .bool false] 96)).drewN n)
 case first =>
  go_quiet (fail)
  go_wp2_with fail
  go_meet
  exact ⟨first_div' c l _ hmm, first_mod' c l _ hkk, _, rfl⟩
 obtain ⟨rfl, rfl, nw, rfl⟩ := hcut
 have hk32 : Hid (k <= 31) := by have := hkk.out; unfold Hid; omega
 have t1 : decide ((k : Int) < 24) = false := by have h1 := hk.out; have h2 := hk32.out; simp; omega
 have te : ((k : Int) == 31) = false := by have h1 := hk.out; simp; omega
 go_upto_region 8 with fail
 go_cut [5] (fun s wx => s = .int .i64 0 /\ ∃ n, wx = (w.alloc (.cells #[.int .i64 0, .int .i64 0, .int .u64 0, .bool false] 96)).drewN n)
 case first => go_wp2_with fail; go_meet; exact ⟨rfl, _, rfl⟩
 obtain ⟨rfl, nx, rfl⟩ := hcut
 go_step
 go_step
 go_cut [5] (fun s wx => s = .int .i64 ((sz1 k : Nat) : Int) /\ ∃ n, wx = (w.alloc (.cells #[.int .i64 0, .int .i64 0, .int .u64 0, .bool false] 96)).drewN n)
 case first =>
  by_cases hv : k = 24
  .
   have tv : ((k : Int) == 24) = true := by simp; omega
   have HV := hid hv; clear hv
   go_wp2_with fail; go_meet
   exact ⟨by unfold sz1; rw [if_pos HV.out]; rfl, _, rfl⟩
  .
   have tv : ((k : Int) == 24) = false := by simp; omega
   have HV := hid hv; clear hv
   go_wp2_with fail; go_meet
   exact ⟨by unfold sz1; rw [if_neg HV.out]; rfl, _, rfl⟩
 obtain ⟨rfl, nx1, rfl⟩ := hcut
 go_step
 go_step
 go_cut [5] (fun s wx => s = .int .i64 ((sz2 k : Nat) : Int) /\ ∃ n, wx = (w.alloc (.cells #[.int .i64 0, .int .i64 0, .int .u64 0, .bool false] 96)).drewN n)
 case first =>
  by_cases hv : k = 25
  .
   have tv : ((k : Int) == 25) = true := by simp; omega
   have HV := hid hv; clear hv
   go_wp2_with fail; go_meet
   exact ⟨by unfold sz2; rw [if_pos HV.out]; rfl, _, rfl⟩
  .
   have tv : ((k : Int) == 25) = false := by simp; omega
   have HV := hid hv; clear hv
   go_wp2_with fail; go_meet
   exact ⟨by unfold sz2; rw [if_neg HV.out], _, rfl⟩
 obtain ⟨rfl, nx2, rfl⟩ := hcut
 go_step
 go_step
 go_cut [5] (fun s wx => s = .int .i64 ((sz3 k : Nat) : Int) /\ ∃ n, wx = (w.alloc (.cells #[.int .i64 0, .int .i64 0, .int .u64 0, .bool false] 96)).drewN n)
 case first =>
  by_cases hv : k = 26
  .
   have tv : ((k : Int) == 26) = true := by simp; omega
   have HV := hid hv; clear hv
   go_wp2_with fail; go_meet
   exact ⟨by unfold sz3; rw [if_pos HV.out]; rfl, _, rfl⟩
  .
   have tv : ((k : Int) == 26) = false := by simp; omega
   have HV := hid hv; clear hv
   go_wp2_with fail; go_meet
   exact ⟨by unfold sz3; rw [if_neg HV.out], _, rfl⟩
 obtain ⟨rfl, nx3, rfl⟩ := hcut
 go_step
 go_step
 go_cut [5] (fun s wx => s = .int .i64 ((sz4 k : Nat) : Int) /\ ∃ n, wx = (w.alloc (.cells #[.int .i64 0, .int .i64 0, .int .u64 0, .bool false] 96)).drewN n)
 case first =>
  by_cases hv : k = 27
  .
   have tv : ((k : Int) == 27) = true := by simp; omega
   have HV := hid hv; clear hv
   go_wp2_with fail; go_meet
   exact ⟨by unfold sz4; rw [if_pos HV.out]; rfl, _, rfl⟩
  .
   have tv : ((k : Int) == 27) = false := by simp; omega
   have HV := hid hv; clear hv
   go_wp2_with fail; go_meet
   exact ⟨by unfold sz4; rw [if_neg HV.out], _, rfl⟩
 obtain ⟨rfl, nx4, rfl⟩ := hcut
 rw [hz.out]
 have hw3 : wrap64 ((S : Int) + 1) = (S : Int) + 1 := IntWalk.wrap64_in _ (by have := hS.out; omega)
 have tz : ((S : Int) == 0) = false := by have := hS.out; simp; omega
 have ts : decide (l.length < S) = true := by have := hs.out; simp; omega
 go_wp2
 refine bodyPost_ret (v := gotV 0 0 0 false) (by simp [results, Tryz.results52, go_sem, gotV]) rfl (Ret.mk rfl ?_)
 repeat (first | exact Mod.refl _ _ | apply Mod.drewN | apply Mod.alloc | refine Mod.setCell ?_ (.inr (Nat.le_refl _)) _)
end Go.Proofs.YthecmnbkjchjmaaGreat
