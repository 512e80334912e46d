/-
 Bundles: the first block of a type, as the code finds it.
-/
import Derived.Test.YthecmnbkjchjmaaGreatMExtAgesae
import Derived.Test.YthecmnbkjchjmaaGreatMExtAgesah
import Derived.Test.YthecmnbkjchjmaaGreatMExtAgesaj

namespace Go.Proofs.YthecmnbkjchjmaaGreat
open Go.RowKit
set_option linter.unusedVariables false
set_option linter.unusedSimpArgs false

def tyB (bs : Nat -> BV) (typ : Int) (i : Nat) : Bool := decide ((bs i).ty = typ)
theorem tyB_no {bs : Nat -> BV} {typ : Int} {i : Nat} (h : (bs i).ty ≠ typ) : tyB bs typ i = false := by unfold tyB; simp [h]
theorem tyB_yes {bs : Nat -> BV} {typ : Int} {i : Nat} (h : (bs i).ty = typ) : tyB bs typ i = true := by unfold tyB; simp [h]
def setB (W : World) (g : Nat) (b : BV) : World := ((((W.setCell ⟨g, 0, none⟩ (.int .i64 b.ty)).setCell ⟨g, 1, none⟩ (.int .i64 b.num)).setCell ⟨g, 2, none⟩ (.int .u64 (b.fl : Int))).setCell ⟨g, 3, none⟩ (.int .i64 b.crc)).setCell ⟨g, 4, none⟩ (str b.data)
section
variable {W : World} {g : Nat} {b0 b : BV}
theorem setB_blk (h : Blk W g 38 b0.c) : Blk (setB W g b) g 38 b.c := by
 have := ((((h.set_ 0 (.int .i64 b.ty)).set_ 1 (.int .i64 b.num)).set_ 2 (.int .u64 (b.fl : Int))).set_ 3 (.int .i64 b.crc)).set_ 4 (str b.data)
 unfold setB
 simpa using this
theorem setB_mod {w : World} {S : List Nat} (h : Mod S w W) (hb : w.heap.size <= g) : Mod S w (setB W g b) :=
 ((((h.setCell (.inr hb) _).setCell (.inr hb) _).setCell (.inr hb) _).setCell (.inr hb) _).setCell (.inr hb) _
theorem cellsB (h : Blk W g 38 b.c) : W.cell? ⟨g, 0, none⟩ = some (.int .i64 b.ty) /\ W.cell? ⟨g, 1, none⟩ = some (.int .i64 b.num) /\ W.cell? ⟨g, 2, none⟩ = some (.int .u64 (b.fl : Int)) /\
  W.cell? ⟨g, 3, none⟩ = some (.int .i64 b.crc) /\ W.cell? ⟨g, 4, none⟩ = some (str b.data) := ⟨h.cell 0, h.cell 1, h.cell 2, h.cell 3, h.cell 4⟩
end
def findV (bs : Nat -> BV) (typ : Int) (k : Nat) : Value := match firstOf (tyB bs typ) k with | some i => .tuple #[(bs i).v, .bool true] | none => .tuple #[zeroB.v, .bool false]
set_option maxRecDepth 20000 in
set_option maxHeartbeats 800000 in
theorem Find_any (p : PV) (bs : Nat -> BV) (k c : Nat) (A : Option Addr) (typ : Int) (hk : k < 4611686018427387904) (w : World) (h : BsL w A k bs) : Calls Tryz.prog 42 #[bunV p A k c, .int .i64 typ] w (Ret (findV bs typ k) w) := by
 have HE := hid (((Mod.refl [] w).alloc (.cells (bunC p A k c) 29)).alloc (.cells #[.int .i64 0, .int .i64 0, .int .u64 0, .int .i64 0, .string ⟨#[]⟩] 38))
 have HB := hid ((Blk.new w 29 (bunC p A k c)).alloc (.cells #[.int .i64 0, .int .i64 0, .int .u64 0, .int .i64 0, .string ⟨#[]⟩] 38))
 have HR : Hid (Blk ((w.alloc (.cells (bunC p A k c) 29)).alloc (.cells #[.int .i64 0, .int .i64 0, .int .u64 0, .int .i64 0, .string ⟨#[]⟩] 38)) (w.heap.size + 1) 38 zeroB.c) := Blk.newL _ _ _ (by simp)
 have HL := hid (BsL.ext h HE.out)
 have k1 : (k : Int) < 4611686018427387904 := by omega
 have HK := hid hk
 clear h hk
 go_enter Tryz.func42, Tryz.ntmps42
 go_upto_region 1 with fail
 generalize (w.alloc (.cells (bunC p A k c) 29)).alloc (.cells #[.int .i64 0, .int .i64 0, .int .u64 0, .int .i64 0, .string ⟨#[]⟩] 38) = V at *
 have b19 : ∀ e : Later V, e.x.cell? ⟨w.heap.size, 19, none⟩ = some (.slice A k c) := HB.out.cellL 19 rfl
 have b19v : V.cell? ⟨w.heap.size, 19, none⟩ = some (.slice A k c) := HB.out.cell 19
 go_wp2_with fail
 clear b19v
 obtain ⟨e0, he0⟩ := Later.self V
 go_loopw [11] (fun s11 wr => ∃ i : Nat, s11 = .int .i64 (i : Int) /\ Hid (i <= k /\ ∀ j, j < i -> tyB bs typ j = false) /\ ∃ e : Later V, wr = e.x) (fun s11 _ => k - (intOf s11).toNat)
 case atStart => exact ⟨0, rfl, (show Hid _ from ⟨by omega, fun j hj => by omega⟩), e0, he0⟩
 case round =>
  clear he0 e0
  obtain ⟨i, rfl, hi, e, rfl⟩ := hrel
  have i0 : (0 : Int) <= (i : Int) := by omega
  by_cases hlt : i < k
  .
   obtain ⟨b, o, rfl, hb, q0, q1, q2, q3, q4⟩ := HL.out.cells hlt
   have tc : decide (i < k) = true := by simp [hlt]
   have i1 : (i : Int) < (k : Int) := by omega
   have HLT := hid hlt
   have HRA := hid ((HR.out.later e).alloc (.cells (BV.c (bs i)) 38))
   have HEA := hid (HE.out.trans ((Later.h e).alloc (.cells (BV.c (bs i)) 38)))
   clear hlt
   by_cases ht : (bs i).ty = typ
   .
    have HF : Hid (findV bs typ k = .tuple #[(bs i).v, .bool true]) := by unfold Hid findV; rw [firstOf_some HLT.out (tyB_yes ht) hi.out.2]
    have t1 : ((bs i).ty == typ) = true := by simpa using ht
    have t2 : ((bs i).ty = typ) = True := by simpa using ht
    clear ht
    obtain ⟨c0, c1, c2, c3, c4⟩ := cellsB (b := zeroB) HRA.out
    have f0 := HRA.out.frozen 0
    have f1 := HRA.out.frozen 1
    have f2 := HRA.out.frozen 2
    have f3 := HRA.out.frozen 3
    have f4 := HRA.out.frozen 4
    go_wp2_with fail
    obtain ⟨d0, d1, d2, d3, d4⟩ := cellsB (setB_blk (b := bs i) HRA.out)
    clear c0 c1 c2 c3 c4 f0 f1 f2 f3 f4
    show bodyPost _ _ _ _ _ (setB (e.x.alloc (.cells (BV.c (bs i)) 38)) (w.heap.size + 1) (bs i))
    refine bodyPost_ret (v := .tuple #[(bs i).v, .bool true]) (by simp [results, Tryz.results42, go_sem, d0, d1, d2, d3, d4]) rfl (Ret.mk HF.out.symm (setB_mod HEA.out (by omega)))
   .
    have HN := hid (tyB_no ht)
    have t1 : ((bs i).ty == typ) = false := by simpa using ht
    have t2 : ((bs i).ty = typ) = False := by simpa using ht
    clear ht
    go_wp2_with fail
    go_roundw
    case rel => exact ⟨i + 1, by go_num, (show Hid _ from ⟨HLT.out, fun j hj => by
     by_cases hji : j = i
     . subst hji; exact HN.out
     . exact hi.out.2 j (by omega)⟩), Later.go e ((Mod.refl [] _).alloc _)⟩
    case measure => have := HLT.out; simp [intOf]; omega
  .
   obtain rfl : i = k := by have := hi.out.1; omega
   have tc : decide (i < i) = false := by simp
   have HF : Hid (findV bs typ i = .tuple #[zeroB.v, .bool false]) := by unfold Hid findV; rw [firstOf_none hi.out.2]
   have HRA := hid (HR.out.later e)
   obtain ⟨c0, c1, c2, c3, c4⟩ := cellsB (b := zeroB) HRA.out
   have f0 := HRA.out.frozen 0
   have f1 := HRA.out.frozen 1
   have f2 := HRA.out.frozen 2
   have f3 := HRA.out.frozen 3
   have f4 := HRA.out.frozen 4
   go_wp2_with fail
   obtain ⟨d0, d1, d2, d3, d4⟩ := cellsB (setB_blk (b := zeroB) HRA.out)
   clear c0 c1 c2 c3 c4 f0 f1 f2 f3 f4
   show bodyPost _ _ _ _ _ (setB e.x (w.heap.size + 1) zeroB)
   refine bodyPost_ret (v := .tuple #[zeroB.v, .bool false]) (by simp [results, Tryz.results42, go_sem, d0, d1, d2, d3, d4]) rfl (Ret.mk HF.out.symm (setB_mod (HE.out.trans e.h) (by omega)))
end Go.Proofs.YthecmnbkjchjmaaGreat


namespace Go.Proofs.YthecmnbkjchjmaaGreat
open Go.RowKit
set_option linter.unusedVariables false
set_option linter.unusedSimpArgs false

def blkT (ty num fl crc : Nat) (data sum : List UInt8) : T := T.mk 4 0 [] false (if crc = 0 then 5 else 6) fun i => if i = 0 then numT ty else if i = 1 then numT num else if i = 2 then numT fl else if i = 3 then numT crc else if i = 4 then strT data else if i = 5 then strT sum else T.nil

abbrev blk5 (ty num fl crc : Nat) (data : List UInt8) : Array Value := #[.int .i64 0, .int .u64 (ty : Int), str [], .slice none 0 0, .bool false, .int .i64 0, .int .u64 (num : Int), str [], .slice none 0 0, .bool false, .int .i64 0, .int .u64 (fl : Int), str [], .slice none 0 0, .bool false, .int .i64 0, .int .u64 (crc : Int), str [], .slice none 0 0, .bool false, .int .i64 2, .int .u64 0, str data, .slice none 0 0, .bool false]

theorem blk5_IsL {W : World} {Q : Nat -> Prop} {g : Nat} {ty num fl : Nat} {data sum : List UInt8} (q : Q g) (h : Blk W g 86 (blk5 ty num fl 0 data)) : IsL W Q (blkT ty num fl 0 data sum) (some ⟨g, 0, none⟩) := fun _ => ⟨g, 0, rfl, h.lt, q, fun j hj => by
 have hj2 : j = 0 \/ j = 1 \/ j = 2 \/ j = 3 \/ j = 4 := by simp at hj; omega
 rcases hj2 with rfl | rfl | rfl | rfl | rfl
 . exact ⟨none, 0, ⟨h.cell 0, h.cell 1, h.cell 2, h.cell 3, h.cell 4⟩, fun h => absurd h (by decide)⟩
 . exact ⟨none, 0, ⟨h.cell 5, h.cell 6, h.cell 7, h.cell 8, h.cell 9⟩, fun h => absurd h (by decide)⟩
 . exact ⟨none, 0, ⟨h.cell 10, h.cell 11, h.cell 12, h.cell 13, h.cell 14⟩, fun h => absurd h (by decide)⟩
 . exact ⟨none, 0, ⟨h.cell 15, h.cell 16, h.cell 17, h.cell 18, h.cell 19⟩, fun h => absurd h (by decide)⟩
 . exact ⟨none, 0, ⟨h.cell 20, h.cell 21, h.cell 22, h.cell 23, h.cell 24⟩, fun h => absurd h (by decide)⟩⟩
theorem blk6_IsL {W : World} {Q : Nat -> Prop} {base g c : Nat} {ty num fl crc : Nat} {data sum : List UInt8} (hc : ¬ crc = 0) (q : Q g) (hlt : g < W.heap.size) (h : W.ownsRow base 86 5 (.slice (some ⟨g, 0, none⟩) (5 + 1) c) (5 + 1) ((blk5 ty num fl crc data).toList ++ [Value.int .i64 (strT sum).kind, .int .u64 ((strT sum).n : Int), str (strT sum).s, .slice none (strT sum).k 0, .bool (strT sum).op])) : IsL W Q (blkT ty num fl crc data sum) (some ⟨g, 0, none⟩) := by
 unfold blkT
 rw [if_neg hc]
 refine fun _ => ⟨g, 0, rfl, hlt, q, fun j hj => ?_⟩
 have hj2 : j = 0 \/ j = 1 \/ j = 2 \/ j = 3 \/ j = 4 \/ j = 5 := by omega
 rcases hj2 with rfl | rfl | rfl | rfl | rfl | rfl
 . exact ⟨none, 0, ⟨own_cells (j := 0) h rfl, own_cells (j := 1) h rfl, own_cells (j := 2) h rfl, own_cells (j := 3) h rfl, own_cells (j := 4) h rfl⟩, fun h => absurd h (by decide)⟩
 . exact ⟨none, 0, ⟨own_cells (j := 5) h rfl, own_cells (j := 6) h rfl, own_cells (j := 7) h rfl, own_cells (j := 8) h rfl, own_cells (j := 9) h rfl⟩, fun h => absurd h (by decide)⟩
 . exact ⟨none, 0, ⟨own_cells (j := 10) h rfl, own_cells (j := 11) h rfl, own_cells (j := 12) h rfl, own_cells (j := 13) h rfl, own_cells (j := 14) h rfl⟩, fun h => absurd h (by decide)⟩
 . exact ⟨none, 0, ⟨own_cells (j := 15) h rfl, own_cells (j := 16) h rfl, own_cells (j := 17) h rfl, own_cells (j := 18) h rfl, own_cells (j := 19) h rfl⟩, fun h => absurd h (by decide)⟩
 . exact ⟨none, 0, ⟨own_cells (j := 20) h rfl, own_cells (j := 21) h rfl, own_cells (j := 22) h rfl, own_cells (j := 23) h rfl, own_cells (j := 24) h rfl⟩, fun h => absurd h (by decide)⟩
 . exact ⟨none, 0, ⟨own_cells (j := 25) h rfl, own_cells (j := 26) h rfl, own_cells (j := 27) h rfl, own_cells (j := 28) h rfl, own_cells (j := 29) h rfl⟩, fun h => absurd h (by decide)⟩
set_option maxRecDepth 20000 in
set_option maxHeartbeats 800000 in
theorem with_any (ty num fl crc : Nat) (data sum : List UInt8) (h1 : ty <= 65535) (h2 : num <= 65535) (h3 : crc <= 2) (w : World) : Calls Tryz.prog 153 #[BV.v ⟨ty, num, fl, crc, data⟩, str sum] w (fun e w' => ∃ A c, e = .returned (itemV (blkT ty num fl crc data sum) A c) /\ Ext w w' /\ IsL w' (fun b => w.heap.size <= b) (blkT ty num fl crc data sum) A) := by
 have HB := hid ((Blk.new w 38 (BV.c ⟨ty, num, fl, crc, data⟩)).alloc (.cells #[.int .i64 0, .int .u64 0, .string ⟨#[]⟩, .slice none 0 0, .bool false] 86))
 have HR : Hid (Blk ((w.alloc (.cells (BV.c ⟨ty, num, fl, crc, data⟩) 38)).alloc (.cells #[.int .i64 0, .int .u64 0, .string ⟨#[]⟩, .slice none 0 0, .bool false] 86)) (w.heap.size + 1) 86 #[.int .i64 0, .int .u64 0, .string ⟨#[]⟩, .slice none 0 0, .bool false]) := by
  have := Blk.new (w.alloc (.cells (BV.c ⟨ty, num, fl, crc, data⟩) 38)) 86 #[.int .i64 0, .int .u64 0, .string ⟨#[]⟩, .slice none 0 0, .bool false]
  unfold Hid
  simpa using this
 have HE := hid (((Mod.refl [] w).alloc (.cells (BV.c ⟨ty, num, fl, crc, data⟩) 38)).alloc (.cells #[.int .i64 0, .int .u64 0, .string ⟨#[]⟩, .slice none 0 0, .bool false] 86))
 have t1 : IntKind.u64.wrap (ty : Int) = (ty : Int) := IntWalk.u64_in _ (by omega)
 have t2 : IntKind.u64.wrap (num : Int) = (num : Int) := IntWalk.u64_in _ (by omega)
 have t3 : IntKind.u64.wrap (crc : Int) = (crc : Int) := IntWalk.u64_in _ (by omega)
 go_enter Tryz.func153, Tryz.ntmps153
 go_upto_region 1 with fail
 generalize ((w.alloc (.cells (BV.c ⟨ty, num, fl, crc, data⟩) 38)).alloc (.cells #[.int .i64 0, .int .u64 0, .string ⟨#[]⟩, .slice none 0 0, .bool false] 86)) = V at *
 have HS : Hid (∀ w', Ext V w' -> w'.cell? ⟨w.heap.size, 0, none⟩ = some (.int .i64 (ty : Int)) /\ w'.cell? ⟨w.heap.size, 1, none⟩ = some (.int .i64 (num : Int)) /\ w'.cell? ⟨w.heap.size, 2, none⟩ = some (.int .u64 (fl : Int)) /\ w'.cell? ⟨w.heap.size, 3, none⟩ = some (.int .i64 (crc : Int)) /\ w'.cell? ⟨w.heap.size, 4, none⟩ = some (str data)) := fun W hW => by
  have b1 := HB.out.ext hW
  exact ⟨b1.cell 0, b1.cell 1, b1.cell 2, b1.cell 3, b1.cell 4⟩
 obtain ⟨p0, p1, p2, p3, p4⟩ := HS.out V (Mod.refl _ _)
 go_cut [5] (fun s3 wx => ∃ g3, s3 = .slice (some ⟨g3, 0, none⟩) 5 5 /\ Hid (Ext V wx /\ Blk wx g3 86 (blk5 ty num fl crc data) /\ w.heap.size + 2 <= g3))
 case first =>
  go_region_held3 (fun w' => w'.cell? ⟨w.heap.size, 0, none⟩ = some (.int .i64 (ty : Int)) /\ w'.cell? ⟨w.heap.size, 1, none⟩ = some (.int .i64 (num : Int)) /\ w'.cell? ⟨w.heap.size, 2, none⟩ = some (.int .u64 (fl : Int)) /\ w'.cell? ⟨w.heap.size, 3, none⟩ = some (.int .i64 (crc : Int)) /\ w'.cell? ⟨w.heap.size, 4, none⟩ = some (str data)) (go_keep)
    (first
     | (go_at_call 46; (try rw [t1]); (try rw [t2]); (try rw [t3]); refine (NumI_any _ _).mono ?_; rintro x w3 ⟨rfl, hb3⟩; have hx : Ext V w3 := (by (with_reducible refine Mod.trans ?_ hb3); (repeat (first | with_reducible assumption | with_reducible exact Mod.refl _ _ | with_reducible refine Mod.drew ?_ | with_reducible refine Mod.alloc ?_ _))); have z := HS.out w3 hx)
     | (go_at_call 159; refine (StrV_any _ _).mono ?_; rintro x w3 ⟨rfl, hb3⟩; have hx : Ext V w3 := (by (with_reducible refine Mod.trans ?_ hb3); (repeat (first | with_reducible assumption | with_reducible exact Mod.refl _ _ | with_reducible refine Mod.drew ?_ | with_reducible refine Mod.alloc ?_ _))); have z := HS.out w3 hx))
  all_goals go_wp2_with fail
  all_goals go_meet
  all_goals exact ⟨_, rfl, Mod.alloc hx _, Blk.new _ _ _, Nat.le_trans (Nat.succ_le_of_lt HR.out.lt) (Mod.size (S := []) (w := V) (by assumption))⟩
 obtain ⟨g3, rfl, hG⟩ := hcut
 have HE1 := hid (HE.out.trans hG.out.1)
 have HB1 := hid (HB.out.ext hG.out.1)
 have HR1 := hid (HR.out.ext hG.out.1)
 have q3 : wc.cell? ⟨w.heap.size, 3, none⟩ = some (.int .i64 (crc : Int)) := HB1.out.cell 3
 clear p0 p1 p2 p3 p4 HS t1 t2 t3 HE HB HR
 by_cases hc : crc = 0
 .
  subst hc
  go_wp2_with fail
  refine (ListV_any 5 _ 5 _).mono ?_
  rintro e w8 ⟨rfl, hb8⟩
  have HE8 := hid (HE1.out.trans hb8)
  have HR8 : Hid (Blk w8 (w.heap.size + 1) 86 (itemC (T.mk 0 0 [] false 0 fun _ => T.nil) none 0)) := hid (HR1.out.ext hb8)
  have HG8 := hid (hG.out.2.1.ext hb8)
  obtain ⟨c0, c1, c2, c3, c4⟩ := cells5 HR8.out
  have f0 := Blk.frozen HR8.out 0
  have f1 := Blk.frozen HR8.out 1
  have f2 := Blk.frozen HR8.out 2
  have f3 := Blk.frozen HR8.out 3
  have f4 := Blk.frozen HR8.out 4
  clear hb8 q3
  go_wp2_with fail
  obtain ⟨d0, d1, d2, d3, d4⟩ := cells5 (set5_blk (t := blkT ty num fl 0 data sum) (A := some ⟨g3, 0, none⟩) (c := 5) HR8.out)
  clear c0 c1 c2 c3 c4 f0 f1 f2 f3 f4
  show bodyPost _ _ _ _ _ (set5 w8 (w.heap.size + 1) (blkT ty num fl 0 data sum) (some ⟨g3, 0, none⟩) 5)
  refine bodyPost_ret (v := itemV (blkT ty num fl 0 data sum) (some ⟨g3, 0, none⟩) 5) (by simp [results, Tryz.results153, go_sem, d0, d1, d2, d3, d4]) rfl ?_
  refine ⟨_, 5, rfl, set5_mod HE8.out (by omega), IsL.weak (fun _ _ h => by have : w.heap.size + 2 <= _ := h; omega) _ (IsL.mod (Q := fun b => w.heap.size + 2 <= b) set5_modb (fun k hq hk hm => by rw [List.mem_singleton] at hm; have : w.heap.size + 2 <= k := hq; omega) _ (blk5_IsL hG.out.2.2 HG8.out))⟩
 .
  have hc2 : ((crc : Int) = 0) = False := by simp [hc]
  have hc3 : ((crc : Int) == 0) = false := by simp [hc]
  obtain ⟨i0, hi, hz0, hz1, hz2⟩ := info_parts infoItem
  go_wp2_with fail
  refine (StrV_any sum _).mono ?_
  rintro e w8 ⟨rfl, hb8⟩
  have HE8 := hid (HE1.out.trans hb8)
  have HR8 := hid (HR1.out.ext hb8)
  have hown8 := own_of_blk (base := w.heap.size + 2) (n := 5) (size := 5) (hG.out.2.1.ext hb8) hG.out.2.2 (by decide) rfl
  clear hb8 q3
  go_wp2_with (at_builtin; refine wpList_append_own _ rfl _ _ 84 rfl (w.heap.size + 2) 86 i0 _ 5 64 Tryz.underlying84 hi hz0 hz1 hz2 rfl (by decide) _ _ _ rfl (hown8.alloc _) ⟨w8.heap.size, 0, none⟩ 1 1 [Value.int .i64 (strT sum).kind, .int .u64 ((strT sum).n : Int), str (strT sum).s, .slice none (strT sum).k 0, .bool (strT sum).op] rfl rfl (news5 w8 (strT sum) none 0) (one5 (strT sum) none 0) (by decide) (by decide) (by have := HR8.out.lt; simp; omega) ?_; intro v' w9 hown' hgrow _)
  obtain ⟨g4, k4, rfl, hg4, hlt4⟩ := own_form hown'
  have HE9 := hid ((HE8.out.alloc _).grown hgrow (fun k hk => by obtain rfl : g3 = k := Option.some.inj hk; right; have := hG.out.2.2; omega))
  have HR9 := hid ((HR8.out.alloc _).mod (Mod.grown (S := [g3]) (Mod.refl _ _) hgrow (fun k hk => by obtain rfl : g3 = k := Option.some.inj hk; left; simp)) (by have := hG.out.2.2; simp; omega))
  have HL9 := hid (blk6_IsL (sum := sum) (Q := fun b => w.heap.size + 2 <= b) hc (show w.heap.size + 2 <= g4 by omega) hlt4 hown')
  clear hown8 hown' hgrow hlt4 hz0 hz1 hz2 hi
  go_wp2_with fail
  refine (ListV_any 6 _ k4 _).mono ?_
  rintro e wA ⟨rfl, hbA⟩
  have HEA := hid (HE9.out.trans hbA)
  have HRA : Hid (Blk wA (w.heap.size + 1) 86 (itemC (T.mk 0 0 [] false 0 fun _ => T.nil) none 0)) := hid (HR9.out.ext hbA)
  have HLA := hid (HL9.out.ext hbA)
  obtain ⟨c0, c1, c2, c3, c4⟩ := cells5 HRA.out
  have f0 := Blk.frozen HRA.out 0
  have f1 := Blk.frozen HRA.out 1
  have f2 := Blk.frozen HRA.out 2
  have f3 := Blk.frozen HRA.out 3
  have f4 := Blk.frozen HRA.out 4
  clear hbA
  go_wp2_with fail
  obtain ⟨d0, d1, d2, d3, d4⟩ := cells5 (set5_blk (t := T.mk 4 0 [] false 6 fun _ => T.nil) (A := some ⟨g4, 0, none⟩) (c := k4) HRA.out)
  clear c0 c1 c2 c3 c4 f0 f1 f2 f3 f4
  show bodyPost _ _ _ _ _ (set5 wA (w.heap.size + 1) (T.mk 4 0 [] false 6 fun _ => T.nil) (some ⟨g4, 0, none⟩) k4)
  refine bodyPost_ret (v := itemV (T.mk 4 0 [] false 6 fun _ => T.nil) (some ⟨g4, 0, none⟩) k4) (by simp [results, Tryz.results153, go_sem, d0, d1, d2, d3, d4]) rfl ?_
  refine ⟨some ⟨g4, 0, none⟩, k4, ?_, set5_mod HEA.out (by omega), IsL.weak (fun _ _ h => by have : w.heap.size + 2 <= _ := h; omega) _ (IsL.mod (Q := fun b => w.heap.size + 2 <= b) set5_modb (fun k hq hk hm => by rw [List.mem_singleton] at hm; have : w.heap.size + 2 <= k := hq; omega) _ HLA.out)⟩
  simp only [blkT, if_neg hc]
  rfl
end Go.Proofs.YthecmnbkjchjmaaGreat


namespace Go.Proofs.YthecmnbkjchjmaaGreat
open Go.RowKit
set_option linter.unusedVariables false
set_option linter.unusedSimpArgs false

theorem blkT_ok {ty num fl crc : Nat} {data sum : List UInt8} (h1 : ty <= 65535) (h2 : num <= 65535) (h3 : fl <= 255) (h4 : crc <= 2) (h5 : data.length <= 4000) (h6 : sum.length <= 4000) : (blkT ty num fl crc data sum).ok := by
 unfold blkT T.ok
 refine ⟨by omega, by omega, by simp, by split <;> omega, fun i hi => ?_⟩
 dsimp only
 split
 . exact num_ok (by omega)
 .
  split
  . exact num_ok (by omega)
  .
   split
   . exact num_ok (by omega)
   .
    split
    . exact num_ok (by omega)
    .
     split
     . exact str_ok (by omega)
     .
      split
      . exact str_ok (by omega)
      .
       have : i < 6 := by split at hi <;> omega
       omega

set_option maxRecDepth 20000 in
theorem summed_0 (t : T) (A : Option Addr) (c : Nat) (w : World) : Calls Tryz.prog 152 #[.int .i64 0, itemV t A c] w (Ret (itemV t A c) w) := by
 have HB := hid (Blk.new w 86 (itemC t A c))
 go_enter Tryz.func152, Tryz.ntmps152
 go_wp2_with fail
 refine bodyPost_ret (v := itemV t A c) (by simp [results, Tryz.results152, go_sem]) rfl (Ret.mk rfl (((Mod.refl _ _).alloc _).alloc _))

set_option maxRecDepth 20000 in
set_option maxHeartbeats 800000 in
theorem Item_ok (ty num fl crc : Nat) (data : List UInt8) (hb : BV.right ⟨ty, num, fl, crc, data⟩ = 0) (t : T) (KS : Hid (∀ N A c W, N <= W.heap.size -> IsL W (fun b => N <= b) (blkT ty num fl crc data []) A -> Calls Tryz.prog 152 #[.int .i64 (crc : Int), itemV (blkT ty num fl crc data []) A c] W (fun e w' => ∃ A c, e = .returned (itemV t A c) /\ Ext W w' /\ IsL w' (fun b => N <= b) t A))) (w : World) : Calls Tryz.prog 137 #[BV.v ⟨ty, num, fl, crc, data⟩] w (fun e w' => ∃ A c, e = .returned (.tuple #[itemV t A c, .int .i64 0]) /\ Ext w w' /\ IsL w' (fun b => w.heap.size <= b) t A) := by
 have h := BV.right_zero hb
 simp only [] at h
 have HB := hid ((Blk.new w 38 (BV.c ⟨ty, num, fl, crc, data⟩)).alloc (.cells #[.int .i64 0, .int .u64 0, .string ⟨#[]⟩, .slice none 0 0, .bool false] 86))
 have HE0 := hid (((Mod.refl [] w).alloc (.cells (BV.c ⟨ty, num, fl, crc, data⟩) 38)).alloc (.cells #[.int .i64 0, .int .u64 0, .string ⟨#[]⟩, .slice none 0 0, .bool false] 86))
 have HR : Hid (Blk ((w.alloc (.cells (BV.c ⟨ty, num, fl, crc, data⟩) 38)).alloc (.cells #[.int .i64 0, .int .u64 0, .string ⟨#[]⟩, .slice none 0 0, .bool false] 86)) (w.heap.size + 1) 86 (itemC (numT 0) none 0)) := by
  have := Blk.new (w.alloc (.cells (BV.c ⟨ty, num, fl, crc, data⟩) 38)) 86 (itemC (numT 0) none 0)
  unfold Hid
  simpa [itemC, numT, T.kind, T.n, T.s, T.k, T.op] using this
 have k1 : Hid (∀ W, Calls Tryz.prog 109 #[BV.v ⟨ty, num, fl, crc, data⟩] W (Ret (.int .i64 0) W)) := fun W => by have := cbRight_any ⟨ty, num, fl, crc, data⟩ W; rw [hb] at this; exact this
 go_enter Tryz.func137, Tryz.ntmps137
 go_wp2_with fail
 refine (k1.out _).mono ?_
 rintro e w1 ⟨rfl, hb1⟩
 have HE1 := hid (HE0.out.trans hb1)
 have HR1 := hid (HR.out.ext hb1)
 have HC := hid (HB.out.ext hb1)
 obtain ⟨c0, c1, c2, c3, c4⟩ : w1.cell? ⟨w.heap.size, 0, none⟩ = some (.int .i64 (ty : Int)) /\ w1.cell? ⟨w.heap.size, 1, none⟩ = some (.int .i64 (num : Int)) /\ w1.cell? ⟨w.heap.size, 2, none⟩ = some (.int .u64 (fl : Int)) /\ w1.cell? ⟨w.heap.size, 3, none⟩ = some (.int .i64 (crc : Int)) /\ w1.cell? ⟨w.heap.size, 4, none⟩ = some (str data) := ⟨HC.out.cell 0, HC.out.cell 1, HC.out.cell 2, HC.out.cell 3, HC.out.cell 4⟩
 clear hb1
 have HN : Hid (w.heap.size + 2 <= w1.heap.size) := Nat.succ_le_of_lt HR1.out.lt
 go_upto_region 4 with fail
 have HS : Hid (∀ w', Ext w1 w' -> w'.cell? ⟨w.heap.size, 0, none⟩ = some (.int .i64 (ty : Int)) /\ w'.cell? ⟨w.heap.size, 1, none⟩ = some (.int .i64 (num : Int)) /\ w'.cell? ⟨w.heap.size, 2, none⟩ = some (.int .u64 (fl : Int)) /\ w'.cell? ⟨w.heap.size, 3, none⟩ = some (.int .i64 (crc : Int)) /\ w'.cell? ⟨w.heap.size, 4, none⟩ = some (str data)) := fun W hW => by
  have b1 := HC.out.ext hW
  exact ⟨b1.cell 0, b1.cell 1, b1.cell 2, b1.cell 3, b1.cell 4⟩
 obtain ⟨g0, g1, g2, g3, g4⟩ := cells5 HR1.out
 have f0 := Blk.frozen HR1.out 0
 have f1 := Blk.frozen HR1.out 1
 have f2 := Blk.frozen HR1.out 2
 have f3 := Blk.frozen HR1.out 3
 have f4 := Blk.frozen HR1.out 4
 go_region_held3 (fun w' => w'.cell? ⟨w.heap.size, 0, none⟩ = some (.int .i64 (ty : Int)) /\ w'.cell? ⟨w.heap.size, 1, none⟩ = some (.int .i64 (num : Int)) /\ w'.cell? ⟨w.heap.size, 2, none⟩ = some (.int .u64 (fl : Int)) /\ w'.cell? ⟨w.heap.size, 3, none⟩ = some (.int .i64 (crc : Int)) /\ w'.cell? ⟨w.heap.size, 4, none⟩ = some (str data)) (go_keep)
   (first
    | (go_at_call 153; refine (with_any ty num fl crc data [] (by omega) (by omega) (by omega) _).mono ?_; rintro x w3 ⟨A, c, rfl, hb3, hl3⟩; have hl3 := IsL.weak (R := fun b => w.heap.size + 2 <= b) (fun k _ hq => Nat.le_trans (Nat.le_trans HN.out (Mod.size (S := []) (by first | with_reducible exact Mod.refl _ _ | with_reducible exact (Mod.refl _ _).drew))) hq) _ hl3; have hx : Ext w1 w3 := (by (with_reducible refine Mod.trans ?_ hb3); (repeat (first | with_reducible assumption | with_reducible exact Mod.refl _ _ | with_reducible refine Mod.drew ?_ | with_reducible refine Mod.alloc ?_ _))); have z := HS.out w3 hx)
    | (go_at_call 152; refine (KS.out (w.heap.size + 2) _ _ _ (Nat.le_trans HN.out (Mod.size hx)) hl3).mono ?_; rintro x w4 ⟨A2, c2, rfl, hb4, hl4⟩; have hx : Ext w1 w4 := (by (with_reducible refine Mod.trans ?_ hb4); (repeat (first | with_reducible assumption | with_reducible exact Mod.refl _ _ | with_reducible refine Mod.drew ?_ | with_reducible refine Mod.alloc ?_ _))); have z := HS.out w4 hx; have HR4 := hid (HR1.out.ext hx); obtain ⟨g0, g1, g2, g3, g4⟩ := cells5 HR4.out; have f0 := Blk.frozen HR4.out 0; have f1 := Blk.frozen HR4.out 1; have f2 := Blk.frozen HR4.out 2; have f3 := Blk.frozen HR4.out 3; have f4 := Blk.frozen HR4.out 4))
 all_goals go_wp2_with fail
 all_goals obtain ⟨d0, d1, d2, d3, d4⟩ := cells5 (set5_blk (t := t) (A := A2) (c := c2) HR4.out)
 all_goals clear g0 g1 g2 g3 g4 f0 f1 f2 f3 f4
 all_goals show bodyPost _ _ _ _ _ (set5 w4 (w.heap.size + 1) t A2 c2)
 all_goals refine bodyPost_ret (v := .tuple #[itemV t A2 c2, .int .i64 0]) (by simp [results, Tryz.results137, go_sem, d0, d1, d2, d3, d4]) rfl ?_
 all_goals exact ⟨A2, c2, rfl, set5_mod (HE1.out.trans hx) (by omega), IsL.weak (fun _ _ h => by have : w.heap.size + 2 <= _ := h; omega) _ (IsL.mod (Q := fun b => w.heap.size + 2 <= b) set5_modb (fun k hq hk hm => by rw [List.mem_singleton] at hm; have : w.heap.size + 2 <= k := hq; omega) _ hl4)⟩
end Go.Proofs.YthecmnbkjchjmaaGreat
